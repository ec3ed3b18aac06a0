import Derived.Test.YtdchjphmfkjamaaDoorProg
import Derived.Test.YtdchjphmfkjamaaDoorAs
import Derived.Test.YtdchjphmfkjamaaDoorSK13
set_option linter.unusedVariables false
set_option linter.unusedSimpArgs false
set_option maxRecDepth 4000
namespace Go.Proofs.YtdchjphmfkjamaaDoor
open Go Go.SK
theorem mixed : Tryd.prog.follows .mixedOrders = true := by kernel_rfl
theorem isfn4 : IsFn Tryd.prog 4 := fun args w => by kernel_rfl
theorem isfn5 : IsFn Tryd.prog 5 := fun args w => by kernel_rfl
theorem isfn6 : IsFn Tryd.prog 6 := fun args w => by kernel_rfl
theorem isfn7 : IsFn Tryd.prog 7 := fun args w => by kernel_rfl
theorem isfn8 : IsFn Tryd.prog 8 := fun args w => by kernel_rfl
theorem isfn9 : IsFn Tryd.prog 9 := fun args w => by kernel_rfl
theorem isfn10 : IsFn Tryd.prog 10 := fun args w => by kernel_rfl
theorem isfn11 : IsFn Tryd.prog 11 := fun args w => by kernel_rfl
theorem isfn12 : IsFn Tryd.prog 12 := fun args w => by kernel_rfl
theorem isfn13 : IsFn Tryd.prog 13 := fun args w => by kernel_rfl
theorem isfn14 : IsFn Tryd.prog 14 := fun args w => by kernel_rfl
theorem isfn15 : IsFn Tryd.prog 15 := fun args w => by kernel_rfl
theorem isfn16 : IsFn Tryd.prog 16 := fun args w => by kernel_rfl
theorem isfn17 : IsFn Tryd.prog 17 := fun args w => by kernel_rfl
theorem isfn18 : IsFn Tryd.prog 18 := fun args w => by kernel_rfl
theorem isfn19 : IsFn Tryd.prog 19 := fun args w => by kernel_rfl
theorem isfn24 : IsFn Tryd.prog 24 := fun args w => by kernel_rfl
noncomputable def tb : List TI := [
  ⟨3, Tryd.t3.desc, 1, 8, .int .i64 0⟩,
  ⟨5, Tryd.t5.desc, 1, 1, .int .u8 0⟩,
  ⟨9, Tryd.t9.desc, 1, 16, .string (⟨#[]⟩ : ByteArray)⟩,
  ⟨22, Tryd.t22.desc, 1, 24, .slice none 0 0⟩,
  ⟨25, Tryd.t25.desc, 1, 24, .slice none 0 0⟩,
  ⟨27, Tryd.t26.desc, 1, 24, .agg #[.slice none 0 0]⟩,
  ⟨28, Tryd.t28.desc, 1, 24, .slice none 0 0⟩,
  ⟨30, Tryd.t29.desc, 4, 48, .agg #[.int .u8 0, .int .i64 0, .int .u8 0, .slice none 0 0]⟩,
  ⟨31, Tryd.t31.desc, 1, 8, .int .u64 0⟩,
  ⟨33, Tryd.t32.desc, 6, 64, .agg #[.int .i64 0, .int .i64 0, .int .u64 0, .int .i64 0, .int .i64 0, .slice none 0 0]⟩,
  ⟨35, Tryd.t34.desc, 1, 16, .nilIface⟩,
  ⟨37, Tryd.t3.desc, 1, 8, .int .i64 0⟩,
  ⟨50, Tryd.t50.desc, 1, 8, .pointer none⟩]
theorem tbOk : TabOk Tryd.prog tb := ⟨
  ⟨by kernel_rfl, Tryd.t3, by kernel_rfl, by kernel_rfl, by kernel_rfl, by kernel_rfl⟩,
  ⟨by kernel_rfl, Tryd.t5, by kernel_rfl, by kernel_rfl, by kernel_rfl, by kernel_rfl⟩,
  ⟨by kernel_rfl, Tryd.t9, by kernel_rfl, by kernel_rfl, by kernel_rfl, by kernel_rfl⟩,
  ⟨by kernel_rfl, Tryd.t22, by kernel_rfl, by kernel_rfl, by kernel_rfl, by kernel_rfl⟩,
  ⟨by kernel_rfl, Tryd.t25, by kernel_rfl, by kernel_rfl, by kernel_rfl, by kernel_rfl⟩,
  ⟨by kernel_rfl, Tryd.t27, by kernel_rfl, by kernel_rfl, by kernel_rfl, by kernel_rfl⟩,
  ⟨by kernel_rfl, Tryd.t28, by kernel_rfl, by kernel_rfl, by kernel_rfl, by kernel_rfl⟩,
  ⟨by kernel_rfl, Tryd.t30, by kernel_rfl, by kernel_rfl, by kernel_rfl, by kernel_rfl⟩,
  ⟨by kernel_rfl, Tryd.t31, by kernel_rfl, by kernel_rfl, by kernel_rfl, by kernel_rfl⟩,
  ⟨by kernel_rfl, Tryd.t33, by kernel_rfl, by kernel_rfl, by kernel_rfl, by kernel_rfl⟩,
  ⟨by kernel_rfl, Tryd.t35, by kernel_rfl, by kernel_rfl, by kernel_rfl, by kernel_rfl⟩,
  ⟨by kernel_rfl, Tryd.t37, by kernel_rfl, by kernel_rfl, by kernel_rfl, by kernel_rfl⟩,
  ⟨by kernel_rfl, Tryd.t50, by kernel_rfl, by kernel_rfl, by kernel_rfl, by kernel_rfl⟩,
  trivial⟩
def encPacket (x : Int × Int × Int × Int × Int × Option Addr × Nat × List UInt8) : List Value := [.int .i64 x.1, .int .i64 x.2.1, .int .u64 x.2.2.1, .int .i64 x.2.2.2.1, .int .i64 x.2.2.2.2.1, .slice x.2.2.2.2.2.1 x.2.2.2.2.2.2.2.length x.2.2.2.2.2.2.1]
theorem encPacket_ok : Enc encPacket 6 := ⟨fun _ => rfl, fun x u hu => by simp only [encPacket, List.mem_cons, List.not_mem_nil, or_false] at hu; rcases hu with rfl | rfl | rfl | rfl | rfl | rfl <;> rfl⟩
def encPacket_dd (w0 : World) (D : Chunk) (x : Int × Int × Int × Int × Int × Option Addr × Nat × List UInt8) : Prop := DD w0 D x.2.2.2.2.2.1 x.2.2.2.2.2.2.1 x.2.2.2.2.2.2.2
theorem encPacket_left {w0 : World} {D E : Chunk} {x : Int × Int × Int × Int × Int × Option Addr × Nat × List UInt8} (h : encPacket_dd w0 D x) : encPacket_dd w0 (E ++ D) x := DD.left h
theorem encPacket_lefts {w0 : World} {D E : Chunk} {l : List (Int × Int × Int × Int × Int × Option Addr × Nat × List UInt8)} (h : ∀ x ∈ l, encPacket_dd w0 D x) : ∀ x ∈ l, encPacket_dd w0 (E ++ D) x := fun x hx => encPacket_left (h x hx)

abbrev Pkt := Int × Int × Int × Int × Int × Option Addr × Nat × List UInt8
def pdat (x : Pkt) : List UInt8 := x.2.2.2.2.2.2.2
/-- A wire at a block: its packets. -/
def WR (b : Nat) (ps : List Pkt) (L : Chunk) : Prop := ∃ v C, Own 33 6 v ps.length (rows encPacket ps) C ∧ L = (b, rowO [v] 27) :: C
theorem WR.new (b : Nat) : WR b [] [(b, rowO [.slice none 0 0] 27)] := ⟨_, [], Own.nil _ _, rfl⟩
theorem dd_sub {w0 : World} {D : Chunk} {ps : List Pkt} (h : ∀ x ∈ ps, encPacket_dd w0 D x) (k : Nat) : ∀ x ∈ ps.take k ++ ps.drop (k + 1), encPacket_dd w0 D x := fun x hx => by
  rcases List.mem_append.1 hx with hx | hx
  · exact h x (List.mem_of_mem_take hx)
  · exact h x (List.mem_of_mem_drop hx)
theorem dd_app {w0 : World} {D E : Chunk} {ps : List Pkt} {x0 x1 x2 x3 x4 : Int} {A : Option Addr} {c : Nat} {bs : List UInt8} (h : ∀ x ∈ ps, encPacket_dd w0 D x) (hd : DD w0 E A c bs) : ∀ x ∈ ps ++ [(x0, x1, x2, x3, x4, A, c, bs)], encPacket_dd w0 (E ++ D) x := fun x hx => by
  rcases List.mem_append.1 hx with hx | hx
  · exact encPacket_left (h x hx)
  · rw [List.mem_singleton.1 hx]; exact hd.right

theorem delete17 {w0 w : World} {F : List Chunk} {C : Chunk} (hS : St w0 w (C :: F)) {v : Value} {l : List (Int × Int × Int × Int × Int × Option Addr × Nat × List UInt8)} (hO : Own 33 6 v l.length (rows encPacket l) C) (i j : Nat) (hij : i ≤ j) (hj : j ≤ l.length) :
    Ret Tryd.prog 17 #[v, .int .i64 ((i : Nat) : Int), .int .i64 ((j : Nat) : Int)] w (fun v w' => ∃ C', Own 33 6 v (l.take i ++ l.drop j).length (rows encPacket (l.take i ++ l.drop j)) C' ∧ St w0 w' (C' :: F)) := by
  obtain ⟨A, c, rfl, hmc, hcx⟩ := hO.open'
  refine enter (vs := [.slice A l.length c, .int .i64 ((i : Nat) : Int), .int .i64 ((j : Nat) : Int)]) 33 Tryd.func17 rfl rfl (by simp) ?_; intro a hA
  refine wp_seq ?_
  refine wp_region_lit ?_
  refine st_run tbOk 1 hA (e' := (6, .slice none 0 0) :: _) rfl ?_; clear hA; intro a hA
  refine wpList_nil ?_
  replace hA := hA.sel [0, 1, 2] (e' := [(0, .slice A l.length c), (1, .int .i64 ((i : Nat) : Int)), (2, .int .i64 ((j : Nat) : Int))]) rfl
  refine xt_norm ?_
  refine wp_seq ?_
  refine wp_region_lit ?_
  refine st_run tbOk 5 hA (e' := (12, .int .i64 ((l.length : Nat) : Int)) :: (11, .slice A l.length c) :: (10, .int .i64 ((j : Nat) : Int)) :: (9, .int .i64 ((i : Nat) : Int)) :: (8, .slice A l.length c) :: _) rfl ?_; clear hA; intro a hA
  refine st_val hA rfl rfl (by decide) (rn_slice_lhm tbOk hA i j l.length rfl rfl rfl rfl rfl rfl rfl rfl (by rfl) (by rfl) (by rfl) (by omega) (by omega) (by omega)) ?_; clear hA; intro a hA
  refine wpList_nil ?_
  replace hA := hA.sel [0, 1, 2] (e' := [(0, .slice A l.length c), (1, .int .i64 ((i : Nat) : Int)), (2, .int .i64 ((j : Nat) : Int))]) rfl
  refine xt_norm ?_
  refine wp_seq ?_
  refine wp_seq ?_
  refine wp_region_lit ?_
  refine st_run tbOk 3 hA (e' := (16, .bool (((i : Nat) : Int) == ((j : Nat) : Int))) :: (15, .int .i64 ((j : Nat) : Int)) :: (14, .int .i64 ((i : Nat) : Int)) :: _) rfl ?_; clear hA; intro a hA
  refine wpList_nil ?_
  replace hA := hA.sel [0, 1, 2, 16] (e' := [(0, .slice A l.length c), (1, .int .i64 ((i : Nat) : Int)), (2, .int .i64 ((j : Nat) : Int)), (16, .bool (((i : Nat) : Int) == ((j : Nat) : Int)))]) rfl
  refine xt_norm ?_
  by_cases hc1 : ((i : Nat) : Int) = ((j : Nat) : Int)
  · first
    | (exfalso; omega)
    | (replace hA := hA.rw 16 (v' := .bool true) rfl (vb_eq_t hc1)
       refine cd_cond_t hA rfl ?_
       refine wp_seq ?_
       refine wp_region_lit ?_
       refine st_run tbOk 2 hA (e' := (6, .slice A l.length c) :: (17, .slice A l.length c) :: _) rfl ?_; clear hA; intro a hA
       refine wpList_nil ?_
       replace hA := hA.sel [6] (e' := [(6, .slice A l.length c)]) rfl
       refine xt_norm ?_
       refine wp_ret (xt_ret ?_)
       refine ret1 (fn := Tryd.f17) hA rfl rfl ?_
       have e0 : l.take i ++ l.drop j = l := by rw [show j = i by omega, List.take_append_drop]
       exact ⟨C, by rw [e0]; exact hO, hS⟩)
  · first
    | (exfalso; omega)
    | (replace hA := hA.rw 16 (v' := .bool false) rfl (vb_eq_f hc1)
       refine cd_cond_f hA rfl ?_
       refine wp_skip ?_
       refine xt_norm ?_
       refine wp_seq ?_
       refine wp_region_lit ?_
       refine st_run tbOk 3 hA (e' := (7, .int .i64 ((l.length : Nat) : Int)) :: (19, .int .i64 ((l.length : Nat) : Int)) :: (18, .slice A l.length c) :: _) rfl ?_; clear hA; intro a hA
       refine wpList_nil ?_
       replace hA := hA.sel [0, 1, 2, 7] (e' := [(0, .slice A l.length c), (1, .int .i64 ((i : Nat) : Int)), (2, .int .i64 ((j : Nat) : Int)), (7, .int .i64 ((l.length : Nat) : Int))]) rfl
       refine xt_norm ?_
       refine wp_seq ?_
       refine wp_draw (fun w' => St w0 w' (F)) [] [(0, true), (1, true), (2, true), (3, true), (4, true), (5, true), (6, false), (7, true)] mixed (by kernel_rfl) (by rintro c a w ⟨_, _, h, _⟩; cases h) (by rfl) (by kernel_rfl) ?_
       replace hS := hS.drew
       refine dr_run tbOk 2 hA (hS.tail 1 rfl) (e' := (21, .int .i64 ((i : Nat) : Int)) :: (20, .slice A l.length c) :: _) rfl ?_; clear hA; intro a hA
       refine dr_y hA rfl rfl rfl (by decide) (hS.tail 1 rfl) (fun w' hS' => rn_slice_h tbOk hA i rfl rfl rfl rfl rfl rfl (by rfl) (by omega)) ?_; clear hA; intro a hA
       refine dr_run tbOk 2 hA (hS.tail 1 rfl) (e' := (24, .int .i64 ((j : Nat) : Int)) :: (23, .slice A l.length c) :: _) rfl ?_; clear hA; intro a hA
       refine dr_y hA rfl rfl rfl (by decide) (hS.tail 1 rfl) (fun w' hS' => rn_slice_l tbOk hA j rfl rfl rfl rfl rfl rfl (by rfl) (by omega)) ?_; clear hA; intro a hA
       refine dr_b (o := _) rfl ?_
       refine st_append_rm tbOk hA (m := i) (q := ((l.take l.length).drop j).length) (c := c) (xs := (rows encPacket l).take (i * 6)) (news := rows encPacket ((l.take l.length).drop j)) rfl rfl rfl rfl rfl rfl rfl (hO.head i (by omega)) hS ((hO.rd (hS.own_ 0 rfl)).rslv encPacket_ok j l.length c (by omega) (by omega) (by omega) (by omega)) (rows_one encPacket_ok _) (by simp; omega) rfl rfl (by decide) ?_
       clear hA hS; intro w2 C3 a hO3 hS hA
       have e1 : i + ((l.take l.length).drop j).length = (l.take i ++ l.drop j).length := by simp; omega
       have e2 : (rows encPacket l).take (i * 6) ++ rows encPacket ((l.take l.length).drop j) = rows encPacket (l.take i ++ l.drop j) := by rw [rows_take encPacket_ok, rows_append, List.take_length]
       rw [e2, e1] at hO3
       rw [e1] at hA
       have e3 : (l.take i ++ l.drop j).length ≤ l.length := by simp; omega
       refine dr_nil (.inr (hS.tail 1 rfl)) ?_
       refine dr_run tbOk 1 hA (hS.tail 1 rfl) (e' := (0, .slice A ((l.take i ++ l.drop j).length) c) :: _) rfl ?_; clear hA; intro a hA
       refine dr_end ?_
       replace hA := hA.sel [0, 7] (e' := [(0, .slice A ((l.take i ++ l.drop j).length) c), (7, .int .i64 ((l.length : Nat) : Int))]) rfl
       refine xt_norm ?_
       refine wp_seq ?_
       refine wp_region_lit ?_
       refine st_run tbOk 4 hA (e' := (30, .int .i64 ((l.length : Nat) : Int)) :: (29, .int .i64 (((l.take i ++ l.drop j).length : Nat) : Int)) :: (28, .slice A ((l.take i ++ l.drop j).length) c) :: (27, .slice A ((l.take i ++ l.drop j).length) c) :: _) rfl ?_; clear hA; intro a hA
       refine st_val hA rfl rfl (by decide) (rn_slice_lh tbOk hA ((l.take i ++ l.drop j).length) l.length rfl rfl rfl rfl rfl rfl rfl (by rfl) (by rfl) (by omega) (by omega)) ?_; clear hA; intro a hA
       refine st_clear tbOk hA (h := (l.take i ++ l.drop j).length) (old := l.length) (c := c) rfl rfl rfl rfl rfl rfl (fun u hu => List.all_eq_true.1 (by rfl) u hu) hO3 hS (by omega) (by omega) rfl rfl ?_; clear hS; intro w4 C5 hO5 hS
       refine wpList_nil ?_
       replace hA := hA.sel [0] (e' := [(0, .slice A ((l.take i ++ l.drop j).length) c)]) rfl
       refine xt_norm ?_
       refine wp_seq ?_
       refine wp_region_lit ?_
       refine st_run tbOk 2 hA (e' := (6, .slice A ((l.take i ++ l.drop j).length) c) :: (32, .slice A ((l.take i ++ l.drop j).length) c) :: _) rfl ?_; clear hA; intro a hA
       refine wpList_nil ?_
       replace hA := hA.sel [6] (e' := [(6, .slice A ((l.take i ++ l.drop j).length) c)]) rfl
       refine xt_norm ?_
       refine wp_ret ?_
       refine ret1 (fn := Tryd.f17) hA rfl rfl ?_
       exact ⟨_, hO5, hS⟩)

theorem copied14 {w0 w : World} {F : List Chunk} (hS : St w0 w F) (x0 x1 x2 x3 x4 : Int) {d : Value} {bs : List UInt8} (hd : RdSX w0 F 1 d bs.length (rows encB bs)) (hbl : bs.length ≤ 140737488351232) :
    Ret Tryd.prog 14 #[.agg #[.int .i64 x0, .int .i64 x1, .int .u64 x2, .int .i64 x3, .int .i64 x4, d]] w (fun v w' => ∃ A c C, Own 5 1 (.slice A bs.length c) bs.length (rows encB bs) C ∧ v = .agg #[.int .i64 x0, .int .i64 x1, .int .u64 x2, .int .i64 x3, .int .i64 x4, .slice A bs.length c] ∧ St w0 w' (C :: F)) := by
  obtain ⟨A, c, rfl, hmc, hcx⟩ := (hd w hS).open'
  refine enter (vs := [.agg #[.int .i64 x0, .int .i64 x1, .int .u64 x2, .int .i64 x3, .int .i64 x4, .slice A bs.length c]]) 8 Tryd.func14 rfl rfl (by simp) ?_; intro a hA
  refine wp_seq ?_
  refine wp_region_lit ?_
  refine st_box hA hS [.int .i64 x0, .int .i64 x1, .int .u64 x2, .int .i64 x3, .int .i64 x4, .slice A bs.length c] rfl rfl rfl rfl rfl (by decide) ?_; clear hA hS; intro b1 w2 a hS hA
  refine st_alloc tbOk hA hS [.int .i64 0, .int .i64 0, .int .u64 0, .int .i64 0, .int .i64 0, .slice none 0 0] rfl rfl rfl rfl rfl (by decide) ?_; clear hA hS; intro b3 w4 a hS hA
  refine wpList_nil ?_
  replace hA := hA.sel [1, 2] (e' := [(1, .pointer (some ⟨b1, 0, none⟩)), (2, .pointer (some ⟨b3, 0, none⟩))]) rfl
  refine xt_norm ?_
  refine wp_seq ?_
  refine wp_region_lit ?_
  refine st_run tbOk 1 hA (e' := (3, .pointer (some ⟨b1, 5, none⟩)) :: _) rfl ?_; clear hA; intro a hA
  refine st_val hA rfl rfl (by decide) (rn_load tbOk hA rfl rfl rfl rfl (cell_row (hS.heapAt 1 rfl) rfl)) ?_; clear hA; intro a hA
  replace hS := hS.nil
  refine st_append tbOk hA (m := 0) (q := bs.length) (xs := rows encB ([] : List UInt8)) (news := rows encB bs) rfl rfl rfl rfl rfl rfl rfl rfl (by decide) (Own.nil 5 1) hS ((hd _ (hS.tail 3 rfl))) (rows_one encB_ok _) (maxLen_le (by omega)) (by show (0 + bs.length) * 1 ≤ 140737488355328; omega) rfl rfl (by decide) ?_
  clear hA hS; intro v5 w6 C7 a hO7 hS hA
  replace hO7 := Own.app (l := ([] : List UInt8)) (l2 := bs) hO7
  replace hO7 : Own 5 1 v5 bs.length (rows encB bs) C7 := hO7
  obtain ⟨A8, c9, rfl, hmc9, hxc9⟩ := hO7.open'
  refine st_run tbOk 1 hA (e' := (6, .pointer (some ⟨b1, 5, none⟩)) :: _) rfl ?_; clear hA; intro a hA
  replace hS := hS.front 2 (C := [(b1, rowO [.int .i64 x0, .int .i64 x1, .int .u64 x2, .int .i64 x3, .int .i64 x4, .slice A bs.length c] 33)]) (L' := C7 :: [(b3, rowO [.int .i64 0, .int .i64 0, .int .u64 0, .int .i64 0, .int .i64 0, .slice none 0 0] 33)] :: F) rfl rfl
  refine st_store tbOk hA hS [.slice A8 bs.length c9] [.int .i64 x0, .int .i64 x1, .int .u64 x2, .int .i64 x3, .int .i64 x4, .slice A8 bs.length c9] rfl rfl rfl rfl rfl rfl (by intro u hu; rw [List.mem_singleton.1 hu]; rfl) (Nat.le_of_ble_eq_true rfl) rfl rfl rfl ?_; clear hS; intro w10 hS
  refine wpList_nil ?_
  replace hA := hA.sel [1, 2] (e' := [(1, .pointer (some ⟨b1, 0, none⟩)), (2, .pointer (some ⟨b3, 0, none⟩))]) rfl
  refine xt_norm ?_
  refine wp_seq ?_
  refine wp_region_lit ?_
  refine st_val hA rfl rfl (by decide) (rn_loadA tbOk hA [.int .i64 x0, .int .i64 x1, .int .u64 x2, .int .i64 x3, .int .i64 x4, .slice A8 bs.length c9] rfl rfl rfl rfl rfl (cells_row (hS.heapAt 0 rfl) rfl)) ?_; clear hA; intro a hA
  replace hS := hS.front 2 (C := [(b3, rowO [.int .i64 0, .int .i64 0, .int .u64 0, .int .i64 0, .int .i64 0, .slice none 0 0] 33)]) (L' := [(b1, rowO [.int .i64 x0, .int .i64 x1, .int .u64 x2, .int .i64 x3, .int .i64 x4, .slice A8 bs.length c9] 33)] :: C7 :: F) rfl rfl
  refine st_store tbOk hA hS [.int .i64 x0, .int .i64 x1, .int .u64 x2, .int .i64 x3, .int .i64 x4, .slice A8 bs.length c9] [.int .i64 x0, .int .i64 x1, .int .u64 x2, .int .i64 x3, .int .i64 x4, .slice A8 bs.length c9] rfl rfl rfl rfl rfl rfl (by simp [Value.oneCell']) (Nat.le_of_ble_eq_true rfl) rfl rfl rfl ?_; clear hS; intro w11 hS
  refine wpList_nil ?_
  replace hA := hA.sel [2] (e' := [(2, .pointer (some ⟨b3, 0, none⟩))]) rfl
  refine xt_norm ?_
  refine wp_ret ?_
  refine retc1 tbOk (fn := Tryd.f14) (cs := [.int .i64 x0, .int .i64 x1, .int .u64 x2, .int .i64 x3, .int .i64 x4, .slice A8 bs.length c9]) hA rfl rfl rfl rfl rfl (cells_row (hS.heapAt 0 rfl) rfl) ?_
  replace hS := hS.drop1
  replace hS := hS.drop1
  exact ⟨_, _, _, hO7, rfl, hS⟩

theorem send_ok5 {w0 w : World} {F : List Chunk} {L D : Chunk} {b : Nat} {ps : List Pkt} (hS : St w0 w (L :: D :: F)) (hM : WR b ps L) (x0 x1 x2 x3 x4 : Int) {d : Value} {bs : List UInt8} (hd : RdSX w0 (D :: F) 1 d bs.length (rows encB bs)) (hbl : bs.length ≤ 140737488351232) (hl : ps.length < 1024) :
    Ret Tryd.prog 5 #[.pointer (some ⟨b, 0, none⟩), .agg #[.int .i64 x0, .int .i64 x1, .int .u64 x2, .int .i64 x3, .int .i64 x4, d]] w (fun v w' => ∃ L' E A c, WR b (ps ++ [(x0, x1, x2, x3, x4, A, c, bs)]) L' ∧ DD w0 E A c bs ∧ v = .nilIface ∧ St w0 w' (L' :: (E ++ D) :: F)) := by
  obtain ⟨v, C, hO, rfl⟩ := hM
  obtain ⟨A, c, rfl, hmc, hcx⟩ := hO.open'
  replace hS : St w0 w ([(b, rowO [.slice A ps.length c] 27)] :: C :: D :: F) := hS.split
  obtain ⟨B, d', rfl, hmd, hdx⟩ := (hd _ (hS.tail 2 rfl)).open'
  refine enter (vs := [.pointer (some ⟨b, 0, none⟩), .agg #[.int .i64 x0, .int .i64 x1, .int .u64 x2, .int .i64 x3, .int .i64 x4, .slice B bs.length d']]) 23 Tryd.func5 rfl rfl (by simp) ?_; intro a hA
  refine wp_seq ?_
  refine wp_region_lit ?_
  refine st_box hA hS [.int .i64 x0, .int .i64 x1, .int .u64 x2, .int .i64 x3, .int .i64 x4, .slice B bs.length d'] rfl rfl rfl rfl rfl (by decide) ?_; clear hA hS; intro b1 w2 a hS hA
  refine st_run tbOk 1 hA (e' := (4, .nilIface) :: _) rfl ?_; clear hA; intro a hA
  refine wpList_nil ?_
  replace hA := hA.sel [0, 3] (e' := [(0, .pointer (some ⟨b, 0, none⟩)), (3, .pointer (some ⟨b1, 0, none⟩))]) rfl
  refine xt_norm ?_
  refine wp_seq ?_
  refine wp_seq ?_
  refine wp_region_lit ?_
  refine st_run tbOk 3 hA (e' := (7, .pointer (some ⟨b, 0, none⟩)) :: (6, .pointer (some ⟨b, 0, none⟩)) :: (5, .pointer (some ⟨b, 0, none⟩)) :: _) rfl ?_; clear hA; intro a hA
  refine st_val hA rfl rfl (by decide) (rn_load tbOk hA rfl rfl rfl rfl (cell_row (hS.heapAt 1 rfl) rfl)) ?_; clear hA; intro a hA
  refine st_run tbOk 2 hA (e' := (10, .bool (decide (((ps.length : Nat) : Int) ≥ 1024))) :: (9, .int .i64 ((ps.length : Nat) : Int)) :: _) rfl ?_; clear hA; intro a hA
  refine wpList_nil ?_
  replace hA := hA.sel [0, 3, 10] (e' := [(0, .pointer (some ⟨b, 0, none⟩)), (3, .pointer (some ⟨b1, 0, none⟩)), (10, .bool (decide (((ps.length : Nat) : Int) ≥ 1024)))]) rfl
  refine xt_norm ?_
  have hc3 : ¬ (((ps.length : Nat) : Int) ≥ 1024) := by omega
  replace hA := hA.rw 10 (v' := .bool false) rfl (vb_false hc3)
  refine cd_cond_f hA rfl ?_
  refine wp_skip ?_
  refine xt_norm ?_
  refine wp_seq ?_
  replace hS := hS.front 2 (C := C) (L' := [(b1, rowO [.int .i64 x0, .int .i64 x1, .int .u64 x2, .int .i64 x3, .int .i64 x4, .slice B bs.length d'] 33)] :: [(b, rowO [.slice A ps.length c] 27)] :: D :: F) rfl rfl
  refine wp_draw (fun w' => St w0 w' ([(b1, rowO [.int .i64 x0, .int .i64 x1, .int .u64 x2, .int .i64 x3, .int .i64 x4, .slice B bs.length d'] 33)] :: [(b, rowO [.slice A ps.length c] 27)] :: D :: F)) [11] [(0, true), (1, true), (2, true), (3, true), (4, true), (5, true), (6, false), (7, false), (8, false), (9, true), (10, true), (11, false)] mixed (by kernel_rfl) (by rintro c a w ⟨_, _, h, _⟩; cases h) (by rfl) (by kernel_rfl) ?_
  replace hS := hS.drew
  refine dr_run tbOk 4 hA (hS.tail 1 rfl) (e' := (15, .pointer (some ⟨b, 0, none⟩)) :: (14, .pointer (some ⟨b, 0, none⟩)) :: (13, .pointer (some ⟨b, 0, none⟩)) :: (12, .pointer (some ⟨b, 0, none⟩)) :: _) rfl ?_; clear hA; intro a hA
  refine dr_y hA rfl rfl rfl (by decide) (hS.tail 1 rfl) (fun w' hS' => rn_load tbOk hA rfl rfl rfl rfl (cell_row (hS'.heapAt 1 rfl) rfl)) ?_; clear hA; intro a hA
  refine dr_y hA rfl rfl rfl (by decide) (hS.tail 1 rfl) (fun w' hS' => rn_loadA tbOk hA [.int .i64 x0, .int .i64 x1, .int .u64 x2, .int .i64 x3, .int .i64 x4, .slice B bs.length d'] rfl rfl rfl rfl rfl (cells_row (hS'.heapAt 0 rfl) rfl)) ?_; clear hA; intro a hA
  refine dr_b (o := _) rfl ?_
  refine st_call0 hA rfl rfl rfl isfn14 rfl rfl (by decide) (copied14 hS x0 x1 x2 x3 x4 (bs := bs) (fun w' h => (hd _ (h.tail 3 rfl))) (by omega)) ?_
  clear hA hS; rintro _ w7 a ⟨A4, c5, C6, hOC6, rfl, hS⟩ hA
  refine dr_nil (.inr (hS.tail 2 rfl)) ?_
  refine dr_b (o := _) rfl ?_
  refine st_buildSlice tbOk hA hS [.int .i64 x0, .int .i64 x1, .int .u64 x2, .int .i64 x3, .int .i64 x4, .slice A4 bs.length c5] rfl rfl rfl rfl rfl (by decide) (by kernel_rfl) rfl rfl (by decide) ?_; clear hA hS; intro b8 w9 a hS hA
  refine dr_nil (.inr (hS.tail 3 rfl)) ?_
  refine dr_b (o := _) rfl ?_
  replace hS := hS.front 2 (C := C) (L' := [(b8, rowO [.int .i64 x0, .int .i64 x1, .int .u64 x2, .int .i64 x3, .int .i64 x4, .slice A4 bs.length c5] 33)] :: C6 :: [(b1, rowO [.int .i64 x0, .int .i64 x1, .int .u64 x2, .int .i64 x3, .int .i64 x4, .slice B bs.length d'] 33)] :: [(b, rowO [.slice A ps.length c] 27)] :: D :: F) rfl rfl
  refine st_append tbOk hA (m := ps.length) (q := 1) (xs := rows encPacket ps) (news := rows encPacket ([(x0, x1, x2, x3, x4, A4, c5, bs)] : List (Int × Int × Int × Int × Int × Option Addr × Nat × List UInt8))) rfl rfl rfl rfl rfl rfl rfl rfl (by decide) hO hS (((Own.full (T := 33) (size := 6) (g := b8) (m := 1) rfl (by decide)).rd (hS.own_ 1 rfl)).x) (rows_one encPacket_ok _) (maxLen_le (by first | omega | (simp; omega))) (by show (ps.length + 1) * 64 ≤ 140737488355328; first | omega | (simp; omega)) rfl rfl (by decide) ?_
  clear hA hS; intro v10 w11 C12 a hO12 hS hA
  replace hO12 := Own.app (l := ps) (l2 := ([(x0, x1, x2, x3, x4, A4, c5, bs)] : List (Int × Int × Int × Int × Int × Option Addr × Nat × List UInt8))) hO12
  obtain ⟨A13, c14, rfl, hmc14, hxc14⟩ := hO12.open'
  refine dr_nil (.inr (hS.tail 3 rfl)) ?_
  refine dr_run tbOk 2 hA (hS.tail 3 rfl) (e' := (22, .pointer (some ⟨b, 0, none⟩)) :: (21, .pointer (some ⟨b, 0, none⟩)) :: _) rfl ?_; clear hA; intro a hA
  refine dr_b (o := _) rfl ?_
  replace hS := hS.front 4 (C := [(b, rowO [.slice A ps.length c] 27)]) (L' := C12 :: [(b8, rowO [.int .i64 x0, .int .i64 x1, .int .u64 x2, .int .i64 x3, .int .i64 x4, .slice A4 bs.length c5] 33)] :: C6 :: [(b1, rowO [.int .i64 x0, .int .i64 x1, .int .u64 x2, .int .i64 x3, .int .i64 x4, .slice B bs.length d'] 33)] :: D :: F) rfl rfl
  refine st_store tbOk hA hS [.slice A13 ((ps ++ ([(x0, x1, x2, x3, x4, A4, c5, bs)] : List (Int × Int × Int × Int × Int × Option Addr × Nat × List UInt8))).length) c14] [.slice A13 ((ps ++ ([(x0, x1, x2, x3, x4, A4, c5, bs)] : List (Int × Int × Int × Int × Int × Option Addr × Nat × List UInt8))).length) c14] rfl rfl rfl rfl rfl rfl (by intro u hu; rw [List.mem_singleton.1 hu]; rfl) (Nat.le_of_ble_eq_true rfl) rfl rfl rfl ?_; clear hS; intro w15 hS
  refine dr_nil (.inl (by decide)) ?_
  refine dr_end ?_
  replace hA := hA.sel [] (e' := []) rfl
  refine xt_norm ?_
  refine wp_seq ?_
  refine wp_region_lit ?_
  refine st_run tbOk 1 hA (e' := (4, .nilIface) :: _) rfl ?_; clear hA; intro a hA
  refine wpList_nil ?_
  refine xt_norm ?_
  refine wp_ret ?_
  refine ret1 (fn := Tryd.f5) hA rfl rfl ?_
  replace hS := hS.front 2 (C := [(b8, rowO [.int .i64 x0, .int .i64 x1, .int .u64 x2, .int .i64 x3, .int .i64 x4, .slice A4 bs.length c5] 33)]) (L' := [(b, rowO [.slice A13 ((ps ++ ([(x0, x1, x2, x3, x4, A4, c5, bs)] : List (Int × Int × Int × Int × Int × Option Addr × Nat × List UInt8))).length) c14] 27)] :: C12 :: C6 :: [(b1, rowO [.int .i64 x0, .int .i64 x1, .int .u64 x2, .int .i64 x3, .int .i64 x4, .slice B bs.length d'] 33)] :: D :: F) rfl rfl
  replace hS := hS.drop1
  replace hS := hS.front 3 (C := [(b1, rowO [.int .i64 x0, .int .i64 x1, .int .u64 x2, .int .i64 x3, .int .i64 x4, .slice B bs.length d'] 33)]) (L' := [(b, rowO [.slice A13 ((ps ++ ([(x0, x1, x2, x3, x4, A4, c5, bs)] : List (Int × Int × Int × Int × Int × Option Addr × Nat × List UInt8))).length) c14] 27)] :: C12 :: C6 :: D :: F) rfl rfl
  replace hS := hS.drop1
  replace hS := hS.front 1 (C := C12) (L' := [(b, rowO [.slice A13 ((ps ++ ([(x0, x1, x2, x3, x4, A4, c5, bs)] : List (Int × Int × Int × Int × Int × Option Addr × Nat × List UInt8))).length) c14] 27)] :: C6 :: D :: F) rfl rfl
  replace hS := hS.front 1 (C := [(b, rowO [.slice A13 ((ps ++ ([(x0, x1, x2, x3, x4, A4, c5, bs)] : List (Int × Int × Int × Int × Int × Option Addr × Nat × List UInt8))).length) c14] 27)]) (L' := C12 :: C6 :: D :: F) rfl rfl
  replace hS := hS.front 3 (C := D) (L' := [(b, rowO [.slice A13 ((ps ++ ([(x0, x1, x2, x3, x4, A4, c5, bs)] : List (Int × Int × Int × Int × Int × Option Addr × Nat × List UInt8))).length) c14] 27)] :: C12 :: C6 :: F) rfl rfl
  replace hS := hS.front 3 (C := C6) (L' := D :: [(b, rowO [.slice A13 ((ps ++ ([(x0, x1, x2, x3, x4, A4, c5, bs)] : List (Int × Int × Int × Int × Int × Option Addr × Nat × List UInt8))).length) c14] 27)] :: C12 :: F) rfl rfl
  replace hS := hS.join
  replace hS := hS.front 2 (C := C12) (L' := (C6 ++ D) :: [(b, rowO [.slice A13 ((ps ++ ([(x0, x1, x2, x3, x4, A4, c5, bs)] : List (Int × Int × Int × Int × Int × Option Addr × Nat × List UInt8))).length) c14] 27)] :: F) rfl rfl
  replace hS := hS.front 2 (C := [(b, rowO [.slice A13 ((ps ++ ([(x0, x1, x2, x3, x4, A4, c5, bs)] : List (Int × Int × Int × Int × Int × Option Addr × Nat × List UInt8))).length) c14] 27)]) (L' := C12 :: (C6 ++ D) :: F) rfl rfl
  replace hS := hS.join
  exact ⟨_, _, _, _, ⟨_, _, hO12, rfl⟩, DD.new hOC6, rfl, hS⟩

theorem send_full5 {w0 w : World} {F : List Chunk} {L D : Chunk} {b : Nat} {ps : List Pkt} (hS : St w0 w (L :: D :: F)) (hM : WR b ps L) (x0 x1 x2 x3 x4 : Int) {d : Value} {bs : List UInt8} (hd : RdSX w0 (D :: F) 1 d bs.length (rows encB bs)) (hbl : bs.length ≤ 140737488351232) (hl : 1024 ≤ ps.length) :
    Ret Tryd.prog 5 #[.pointer (some ⟨b, 0, none⟩), .agg #[.int .i64 x0, .int .i64 x1, .int .u64 x2, .int .i64 x3, .int .i64 x4, d]] w (fun v w' => ∃ L', WR b ps L' ∧ v = .iface 37 (.int .i64 5) ∧ St w0 w' (L' :: D :: F)) := by
  obtain ⟨v, C, hO, rfl⟩ := hM
  obtain ⟨A, c, rfl, hmc, hcx⟩ := hO.open'
  replace hS : St w0 w ([(b, rowO [.slice A ps.length c] 27)] :: C :: D :: F) := hS.split
  obtain ⟨B, d', rfl, hmd, hdx⟩ := (hd _ (hS.tail 2 rfl)).open'
  refine enter (vs := [.pointer (some ⟨b, 0, none⟩), .agg #[.int .i64 x0, .int .i64 x1, .int .u64 x2, .int .i64 x3, .int .i64 x4, .slice B bs.length d']]) 23 Tryd.func5 rfl rfl (by simp) ?_; intro a hA
  refine wp_seq ?_
  refine wp_region_lit ?_
  refine st_box hA hS [.int .i64 x0, .int .i64 x1, .int .u64 x2, .int .i64 x3, .int .i64 x4, .slice B bs.length d'] rfl rfl rfl rfl rfl (by decide) ?_; clear hA hS; intro b1 w2 a hS hA
  refine st_run tbOk 1 hA (e' := (4, .nilIface) :: _) rfl ?_; clear hA; intro a hA
  refine wpList_nil ?_
  replace hA := hA.sel [0, 3] (e' := [(0, .pointer (some ⟨b, 0, none⟩)), (3, .pointer (some ⟨b1, 0, none⟩))]) rfl
  refine xt_norm ?_
  refine wp_seq ?_
  refine wp_seq ?_
  refine wp_region_lit ?_
  refine st_run tbOk 3 hA (e' := (7, .pointer (some ⟨b, 0, none⟩)) :: (6, .pointer (some ⟨b, 0, none⟩)) :: (5, .pointer (some ⟨b, 0, none⟩)) :: _) rfl ?_; clear hA; intro a hA
  refine st_val hA rfl rfl (by decide) (rn_load tbOk hA rfl rfl rfl rfl (cell_row (hS.heapAt 1 rfl) rfl)) ?_; clear hA; intro a hA
  refine st_run tbOk 2 hA (e' := (10, .bool (decide (((ps.length : Nat) : Int) ≥ 1024))) :: (9, .int .i64 ((ps.length : Nat) : Int)) :: _) rfl ?_; clear hA; intro a hA
  refine wpList_nil ?_
  replace hA := hA.sel [0, 3, 10] (e' := [(0, .pointer (some ⟨b, 0, none⟩)), (3, .pointer (some ⟨b1, 0, none⟩)), (10, .bool (decide (((ps.length : Nat) : Int) ≥ 1024)))]) rfl
  refine xt_norm ?_
  have hc3 : ((ps.length : Nat) : Int) ≥ 1024 := by omega
  replace hA := hA.rw 10 (v' := .bool true) rfl (vb_true hc3)
  refine cd_cond_t hA rfl ?_
  refine wp_seq ?_
  refine wp_region_lit ?_
  refine st_run tbOk 2 hA (e' := (4, .iface 37 (.int .i64 5)) :: (11, .iface 37 (.int .i64 5)) :: _) rfl ?_; clear hA; intro a hA
  refine wpList_nil ?_
  replace hA := hA.sel [4] (e' := [(4, .iface 37 (.int .i64 5))]) rfl
  refine xt_norm ?_
  refine wp_ret (xt_ret ?_)
  refine ret1 (fn := Tryd.f5) hA rfl rfl ?_
  replace hS := hS.drop1
  replace hS := hS.front 1 (C := C) (L' := [(b, rowO [.slice A ps.length c] 27)] :: D :: F) rfl rfl
  replace hS := hS.front 1 (C := [(b, rowO [.slice A ps.length c] 27)]) (L' := C :: D :: F) rfl rfl
  replace hS := hS.front 2 (C := D) (L' := [(b, rowO [.slice A ps.length c] 27)] :: C :: F) rfl rfl
  replace hS := hS.front 2 (C := C) (L' := D :: [(b, rowO [.slice A ps.length c] 27)] :: F) rfl rfl
  replace hS := hS.front 2 (C := [(b, rowO [.slice A ps.length c] 27)]) (L' := C :: D :: F) rfl rfl
  replace hS := hS.join
  exact ⟨_, ⟨_, _, hO, rfl⟩, rfl, hS⟩

theorem wlen13 {w0 w : World} {F : List Chunk} {L D : Chunk} {b : Nat} {ps : List Pkt} (hS : St w0 w (L :: D :: F)) (hM : WR b ps L)  :
    Ret Tryd.prog 13 #[.pointer (some ⟨b, 0, none⟩)] w (fun v w' => ∃ L', WR b ps L' ∧ v = .int .i64 ((ps.length : Nat) : Int) ∧ St w0 w' (L' :: D :: F)) := by
  obtain ⟨v, C, hO, rfl⟩ := hM
  obtain ⟨A, c, rfl, hmc, hcx⟩ := hO.open'
  replace hS : St w0 w ([(b, rowO [.slice A ps.length c] 27)] :: C :: D :: F) := hS.split
  refine enter (vs := [.pointer (some ⟨b, 0, none⟩)]) 8 Tryd.func13 rfl rfl (by simp) ?_; intro a hA
  refine wp_seq ?_
  refine wp_region_lit ?_
  refine st_run tbOk 1 hA (e' := (2, .int .i64 0) :: _) rfl ?_; clear hA; intro a hA
  refine wpList_nil ?_
  replace hA := hA.sel [0] (e' := [(0, .pointer (some ⟨b, 0, none⟩))]) rfl
  refine xt_norm ?_
  refine wp_seq ?_
  refine wp_region_lit ?_
  refine st_run tbOk 3 hA (e' := (5, .pointer (some ⟨b, 0, none⟩)) :: (4, .pointer (some ⟨b, 0, none⟩)) :: (3, .pointer (some ⟨b, 0, none⟩)) :: _) rfl ?_; clear hA; intro a hA
  refine st_val hA rfl rfl (by decide) (rn_load tbOk hA rfl rfl rfl rfl (cell_row (hS.heapAt 0 rfl) rfl)) ?_; clear hA; intro a hA
  refine st_run tbOk 2 hA (e' := (2, .int .i64 ((ps.length : Nat) : Int)) :: (7, .int .i64 ((ps.length : Nat) : Int)) :: _) rfl ?_; clear hA; intro a hA
  refine wpList_nil ?_
  replace hA := hA.sel [2] (e' := [(2, .int .i64 ((ps.length : Nat) : Int))]) rfl
  refine xt_norm ?_
  refine wp_ret ?_
  refine ret1 (fn := Tryd.f13) hA rfl rfl ?_
  replace hS := hS.front 1 (C := C) (L' := [(b, rowO [.slice A ps.length c] 27)] :: D :: F) rfl rfl
  replace hS := hS.front 1 (C := [(b, rowO [.slice A ps.length c] 27)]) (L' := C :: D :: F) rfl rfl
  replace hS := hS.front 2 (C := D) (L' := [(b, rowO [.slice A ps.length c] 27)] :: C :: F) rfl rfl
  replace hS := hS.front 2 (C := C) (L' := D :: [(b, rowO [.slice A ps.length c] 27)] :: F) rfl rfl
  replace hS := hS.front 2 (C := [(b, rowO [.slice A ps.length c] 27)]) (L' := C :: D :: F) rfl rfl
  replace hS := hS.join
  exact ⟨_, ⟨_, _, hO, rfl⟩, rfl, hS⟩

theorem turn_round (p : Int) (n : Nat) (h : 0 < n) : ∃ k : Nat, k < n ∧ (k : Int) = p % (n : Int) ∧ (p.tmod n < 0 → p.tmod n + n = (k : Int)) ∧ (¬ p.tmod n < 0 → p.tmod n = (k : Int)) := by
  have h0 : (0 : Int) < n := by omega
  have h1 := Int.emod_nonneg p (b := (n : Int)) (by omega)
  have h2 := Int.emod_lt_of_pos p h0
  refine ⟨(p % (n : Int)).toNat, by omega, by omega, fun hn => ?_, fun hn => ?_⟩
  · have h3 := Int.tmod_lt_of_pos p h0
    have h4 := Int.tmod_add_mul_tdiv p n
    have h5 : (p.tmod n + n) % (n : Int) = p % n := by
      rw [Int.add_emod_right]
      conv => rhs; rw [← h4, Int.add_mul_emod_self_left]
    have h6 : -(n : Int) < p.tmod n := by
      have := Int.lt_tmod_of_pos p h0
      omega
    rw [Int.emod_eq_of_lt (by omega) (by omega)] at h5
    omega
  · have h3 := Int.tmod_lt_of_pos p h0
    have h4 := Int.tmod_add_mul_tdiv p n
    have h5 : (p.tmod n) % (n : Int) = p % n := by
      conv => rhs; rw [← h4, Int.add_mul_emod_self_left]
    rw [Int.emod_eq_of_lt (by omega) (by omega)] at h5
    omega

theorem place16 {w0 w : World} {F : List Chunk} {b n c : Nat} {A : Option Addr} (hS : St w0 w ([(b, rowO [.slice A n c] 27)] :: F)) (p : Int) (h0 : 0 < n) (hn : n ≤ 1048576) :
    Ret Tryd.prog 16 #[.pointer (some ⟨b, 0, none⟩), .int .i64 p] w (fun v w' => ∃ k : Nat, k < n ∧ (k : Int) = p % (n : Int) ∧ v = .int .i64 ((k : Nat) : Int) ∧ St w0 w' ([(b, rowO [.slice A n c] 27)] :: F)) := by
  obtain ⟨k, hk, hkp, hk1, hk2⟩ := turn_round p n h0
  refine enter (vs := [.pointer (some ⟨b, 0, none⟩), .int .i64 p]) 23 Tryd.func16 rfl rfl (by simp) ?_; intro a hA
  refine wp_seq ?_
  refine wp_region_lit ?_
  refine st_run tbOk 1 hA (e' := (4, .int .i64 0) :: _) rfl ?_; clear hA; intro a hA
  refine wpList_nil ?_
  replace hA := hA.sel [0, 1] (e' := [(0, .pointer (some ⟨b, 0, none⟩)), (1, .int .i64 p)]) rfl
  refine xt_norm ?_
  refine wp_seq ?_
  refine wp_region_lit ?_
  refine st_run tbOk 4 hA (e' := (9, .pointer (some ⟨b, 0, none⟩)) :: (8, .pointer (some ⟨b, 0, none⟩)) :: (7, .pointer (some ⟨b, 0, none⟩)) :: (6, .int .i64 p) :: _) rfl ?_; clear hA; intro a hA
  refine st_val hA rfl rfl (by decide) (rn_load tbOk hA rfl rfl rfl rfl (cell_row (hS.heapAt 0 rfl) rfl)) ?_; clear hA; intro a hA
  refine st_run tbOk 1 hA (e' := (11, .int .i64 ((n : Nat) : Int)) :: _) rfl ?_; clear hA; intro a hA
  refine st_val hA rfl rfl (by decide) (rn_rem hA rfl rfl rfl (by omega)) ?_; clear hA; intro a hA
  refine st_run tbOk 1 hA (e' := (5, .int .i64 (p.tmod ((n : Nat) : Int))) :: _) rfl ?_; clear hA; intro a hA
  refine wpList_nil ?_
  replace hA := hA.sel [0, 5] (e' := [(0, .pointer (some ⟨b, 0, none⟩)), (5, .int .i64 (p.tmod ((n : Nat) : Int)))]) rfl
  refine xt_norm ?_
  refine wp_seq ?_
  refine wp_seq ?_
  refine wp_region_lit ?_
  refine st_run tbOk 2 hA (e' := (14, .bool (decide (p.tmod ((n : Nat) : Int) < 0))) :: (13, .int .i64 (p.tmod ((n : Nat) : Int))) :: _) rfl ?_; clear hA; intro a hA
  refine wpList_nil ?_
  replace hA := hA.sel [0, 5, 14] (e' := [(0, .pointer (some ⟨b, 0, none⟩)), (5, .int .i64 (p.tmod ((n : Nat) : Int))), (14, .bool (decide (p.tmod ((n : Nat) : Int) < 0)))]) rfl
  refine xt_norm ?_
  by_cases hc1 : p.tmod ((n : Nat) : Int) < 0
  · first
    | (exfalso; omega)
    | (replace hA := hA.rw 14 (v' := .bool true) rfl (vb_true hc1)
       refine cd_cond_t hA rfl ?_
       refine wp_region_lit ?_
       refine st_run tbOk 4 hA (e' := (18, .pointer (some ⟨b, 0, none⟩)) :: (17, .pointer (some ⟨b, 0, none⟩)) :: (16, .pointer (some ⟨b, 0, none⟩)) :: (15, .int .i64 (p.tmod ((n : Nat) : Int))) :: _) rfl ?_; clear hA; intro a hA
       refine st_val hA rfl rfl (by decide) (rn_load tbOk hA rfl rfl rfl rfl (cell_row (hS.heapAt 0 rfl) rfl)) ?_; clear hA; intro a hA
       refine st_run tbOk 2 hA (e' := (21, .int .i64 (IntKind.i64.wrap ((p.tmod ((n : Nat) : Int)) + ((n : Nat) : Int)))) :: (20, .int .i64 ((n : Nat) : Int)) :: _) rfl ?_; clear hA; intro a hA
       replace hA := hA.rw 21 (v' := .int .i64 ((p.tmod ((n : Nat) : Int)) + ((n : Nat) : Int))) rfl (wr64 (by omega) (by omega) (by omega))
       refine st_run tbOk 1 hA (e' := (5, .int .i64 ((p.tmod ((n : Nat) : Int)) + ((n : Nat) : Int))) :: _) rfl ?_; clear hA; intro a hA
       refine wpList_nil ?_
       replace hA := hA.sel [5] (e' := [(5, .int .i64 ((p.tmod ((n : Nat) : Int)) + ((n : Nat) : Int)))]) rfl
       refine xt_norm ?_
       refine wp_seq ?_
       refine wp_region_lit ?_
       refine st_run tbOk 1 hA (e' := (22, .int .i64 ((p.tmod ((n : Nat) : Int)) + ((n : Nat) : Int))) :: _) rfl ?_; clear hA; intro a hA
       replace hA := hA.rw 22 (v' := .int .i64 ((k : Nat) : Int)) rfl (vint (by first | exact hk2 (by omega) | exact hk1 (by omega)))
       refine st_run tbOk 1 hA (e' := (4, .int .i64 ((k : Nat) : Int)) :: _) rfl ?_; clear hA; intro a hA
       refine wpList_nil ?_
       replace hA := hA.sel [4] (e' := [(4, .int .i64 ((k : Nat) : Int))]) rfl
       refine xt_norm ?_
       refine wp_ret ?_
       refine ret1 (fn := Tryd.f16) hA rfl rfl ?_
       exact ⟨k, hk, hkp, rfl, hS⟩)
  · first
    | (exfalso; omega)
    | (replace hA := hA.rw 14 (v' := .bool false) rfl (vb_false hc1)
       refine cd_cond_f hA rfl ?_
       refine wp_skip ?_
       refine xt_norm ?_
       refine wp_seq ?_
       refine wp_region_lit ?_
       refine st_run tbOk 1 hA (e' := (22, .int .i64 (p.tmod ((n : Nat) : Int))) :: _) rfl ?_; clear hA; intro a hA
       replace hA := hA.rw 22 (v' := .int .i64 ((k : Nat) : Int)) rfl (vint (by first | exact hk2 (by omega) | exact hk1 (by omega)))
       refine st_run tbOk 1 hA (e' := (4, .int .i64 ((k : Nat) : Int)) :: _) rfl ?_; clear hA; intro a hA
       refine wpList_nil ?_
       replace hA := hA.sel [4] (e' := [(4, .int .i64 ((k : Nat) : Int))]) rfl
       refine xt_norm ?_
       refine wp_ret ?_
       refine ret1 (fn := Tryd.f16) hA rfl rfl ?_
       exact ⟨k, hk, hkp, rfl, hS⟩)

theorem arrive_ok7 {w0 w : World} {F : List Chunk} {L D : Chunk} {b : Nat} {ps : List Pkt} (hS : St w0 w (L :: D :: F)) (hM : WR b ps L) (p : Int) (h0 : 0 < ps.length) (hn : ps.length ≤ 1048576) :
    Ret Tryd.prog 7 #[.pointer (some ⟨b, 0, none⟩), .int .i64 p] w (fun v w' => ∃ (k : Nat) (x : Pkt), k < ps.length ∧ (k : Int) = p % (ps.length : Int) ∧ ps[k]? = some x ∧ ∃ L', WR b (ps.take k ++ ps.drop (k + 1)) L' ∧ v = .tuple #[.agg (encPacket x).toArray, .bool true] ∧ St w0 w' (L' :: D :: F)) := by
  obtain ⟨v, C, hO, rfl⟩ := hM
  obtain ⟨A, c, rfl, hmc, hcx⟩ := hO.open'
  replace hS : St w0 w ([(b, rowO [.slice A ps.length c] 27)] :: C :: D :: F) := hS.split
  refine enter (vs := [.pointer (some ⟨b, 0, none⟩), .int .i64 p]) 37 Tryd.func7 rfl rfl (by simp) ?_; intro a hA
  refine wp_seq ?_
  refine wp_region_lit ?_
  refine st_alloc tbOk hA hS [.int .i64 0, .int .i64 0, .int .u64 0, .int .i64 0, .int .i64 0, .slice none 0 0] rfl rfl rfl rfl rfl (by decide) ?_; clear hA hS; intro b1 w2 a hS hA
  refine st_run tbOk 1 hA (e' := (5, .bool false) :: _) rfl ?_; clear hA; intro a hA
  refine wpList_nil ?_
  replace hA := hA.sel [0, 1, 4] (e' := [(0, .pointer (some ⟨b, 0, none⟩)), (1, .int .i64 p), (4, .pointer (some ⟨b1, 0, none⟩))]) rfl
  refine xt_norm ?_
  refine wp_seq ?_
  refine wp_seq ?_
  refine wp_region_lit ?_
  refine st_run tbOk 3 hA (e' := (10, .pointer (some ⟨b, 0, none⟩)) :: (9, .pointer (some ⟨b, 0, none⟩)) :: (8, .pointer (some ⟨b, 0, none⟩)) :: _) rfl ?_; clear hA; intro a hA
  refine st_val hA rfl rfl (by decide) (rn_load tbOk hA rfl rfl rfl rfl (cell_row (hS.heapAt 1 rfl) rfl)) ?_; clear hA; intro a hA
  refine st_run tbOk 2 hA (e' := (13, .bool (((ps.length : Nat) : Int) == 0)) :: (12, .int .i64 ((ps.length : Nat) : Int)) :: _) rfl ?_; clear hA; intro a hA
  refine wpList_nil ?_
  replace hA := hA.sel [0, 1, 4, 13] (e' := [(0, .pointer (some ⟨b, 0, none⟩)), (1, .int .i64 p), (4, .pointer (some ⟨b1, 0, none⟩)), (13, .bool (((ps.length : Nat) : Int) == 0))]) rfl
  refine xt_norm ?_
  have hc3 : ¬ (((ps.length : Nat) : Int) = 0) := by omega
  replace hA := hA.rw 13 (v' := .bool false) rfl (vb_eq_f hc3)
  refine cd_cond_f hA rfl ?_
  refine wp_skip ?_
  refine xt_norm ?_
  refine wp_seq ?_
  refine wp_region_lit ?_
  refine st_run tbOk 2 hA (e' := (16, .int .i64 p) :: (15, .pointer (some ⟨b, 0, none⟩)) :: _) rfl ?_; clear hA; intro a hA
  replace hS := hS.front 1 (C := [(b, rowO [.slice A ps.length c] 27)]) (L' := [(b1, rowO [.int .i64 0, .int .i64 0, .int .u64 0, .int .i64 0, .int .i64 0, .slice none 0 0] 33)] :: C :: D :: F) rfl rfl
  refine st_call0 hA rfl rfl rfl isfn16 rfl rfl (by decide) (place16 hS p h0 (by omega)) ?_
  clear hA hS; rintro _ w4 a ⟨k, hk, hkp, rfl, hS⟩ hA
  refine st_run tbOk 1 hA (e' := (6, .int .i64 ((k : Nat) : Int)) :: _) rfl ?_; clear hA; intro a hA
  refine wpList_nil ?_
  replace hA := hA.sel [0, 4, 6] (e' := [(0, .pointer (some ⟨b, 0, none⟩)), (4, .pointer (some ⟨b1, 0, none⟩)), (6, .int .i64 ((k : Nat) : Int))]) rfl
  refine xt_norm ?_
  refine wp_seq ?_
  refine wp_region_lit ?_
  refine st_run tbOk 3 hA (e' := (20, .pointer (some ⟨b, 0, none⟩)) :: (19, .pointer (some ⟨b, 0, none⟩)) :: (18, .pointer (some ⟨b, 0, none⟩)) :: _) rfl ?_; clear hA; intro a hA
  refine st_val hA rfl rfl (by decide) (rn_load tbOk hA rfl rfl rfl rfl (cell_row (hS.heapAt 0 rfl) rfl)) ?_; clear hA; intro a hA
  refine st_run tbOk 1 hA (e' := (22, .int .i64 ((k : Nat) : Int)) :: _) rfl ?_; clear hA; intro a hA
  obtain ⟨b5, o6, rfl⟩ := hO.isSome (k := k) (by omega)
  refine st_val hA rfl rfl (by decide) (rn_indexAddr tbOk hA k (o6 + (k * 6)) rfl rfl rfl rfl rfl rfl (by rfl) (by omega) (by first | rfl | simp [Nat.mul_one, Nat.zero_add] | omega)) ?_; clear hA; intro a hA
  obtain ⟨x7, hx7⟩ := get_ex (l := ps) (k := k) (by omega)
  obtain ⟨x7f0, x7f1, x7f2, x7f3, x7f4, x7A5, x7c5, x7b5⟩ := x7
  refine st_val hA rfl rfl (by decide) (rn_loadA tbOk hA ([.int .i64 x7f0, .int .i64 x7f1, .int .u64 x7f2, .int .i64 x7f3, .int .i64 x7f4, .slice x7A5 x7b5.length x7c5]) rfl rfl rfl rfl (by rfl) ((hO.rd (hS.own_ 2 rfl)).elem (k := k) encPacket_ok hx7)) ?_; clear hA; intro a hA
  refine st_alloc tbOk hA hS [.int .i64 0, .int .i64 0, .int .u64 0, .int .i64 0, .int .i64 0, .slice none 0 0] rfl rfl rfl rfl rfl (by decide) ?_; clear hA hS; intro b8 w9 a hS hA
  refine st_store tbOk hA hS [.int .i64 x7f0, .int .i64 x7f1, .int .u64 x7f2, .int .i64 x7f3, .int .i64 x7f4, .slice x7A5 x7b5.length x7c5] [.int .i64 x7f0, .int .i64 x7f1, .int .u64 x7f2, .int .i64 x7f3, .int .i64 x7f4, .slice x7A5 x7b5.length x7c5] rfl rfl rfl rfl rfl rfl (by simp [Value.oneCell']) (Nat.le_of_ble_eq_true rfl) rfl rfl rfl ?_; clear hS; intro w10 hS
  refine wpList_nil ?_
  replace hA := hA.sel [0, 4, 6, 7] (e' := [(0, .pointer (some ⟨b, 0, none⟩)), (4, .pointer (some ⟨b1, 0, none⟩)), (6, .int .i64 ((k : Nat) : Int)), (7, .pointer (some ⟨b8, 0, none⟩))]) rfl
  refine xt_norm ?_
  refine wp_seq ?_
  refine wp_region_lit ?_
  refine st_run tbOk 4 hA (e' := (28, .pointer (some ⟨b, 0, none⟩)) :: (27, .pointer (some ⟨b, 0, none⟩)) :: (26, .pointer (some ⟨b, 0, none⟩)) :: (25, .pointer (some ⟨b, 0, none⟩)) :: _) rfl ?_; clear hA; intro a hA
  refine st_val hA rfl rfl (by decide) (rn_load tbOk hA rfl rfl rfl rfl (cell_row (hS.heapAt 1 rfl) rfl)) ?_; clear hA; intro a hA
  refine st_run tbOk 3 hA (e' := (32, .int .i64 (IntKind.i64.wrap (((k : Nat) : Int) + 1))) :: (31, .int .i64 ((k : Nat) : Int)) :: (30, .int .i64 ((k : Nat) : Int)) :: _) rfl ?_; clear hA; intro a hA
  replace hA := hA.rw 32 (v' := .int .i64 ((k + 1 : Nat) : Int)) rfl (wr64 (by omega) (by omega) (by omega))
  replace hS := hS.front 3 (C := C) (L' := [(b8, rowO [.int .i64 x7f0, .int .i64 x7f1, .int .u64 x7f2, .int .i64 x7f3, .int .i64 x7f4, .slice x7A5 x7b5.length x7c5] 33)] :: [(b, rowO [.slice (some ⟨b5, o6, none⟩) ps.length c] 27)] :: [(b1, rowO [.int .i64 0, .int .i64 0, .int .u64 0, .int .i64 0, .int .i64 0, .slice none 0 0] 33)] :: D :: F) rfl rfl
  refine st_call0 hA rfl rfl rfl isfn17 rfl rfl (by decide) (delete17 hS hO k (k + 1) (by omega) (by omega)) ?_
  clear hA hS; rintro v11 w12 a ⟨C13, hO13, hS⟩ hA
  obtain ⟨A14, c15, rfl, hmc15, hxc15⟩ := hO13.open'
  refine st_run tbOk 2 hA (e' := (35, .pointer (some ⟨b, 0, none⟩)) :: (34, .pointer (some ⟨b, 0, none⟩)) :: _) rfl ?_; clear hA; intro a hA
  replace hS := hS.front 2 (C := [(b, rowO [.slice (some ⟨b5, o6, none⟩) ps.length c] 27)]) (L' := C13 :: [(b8, rowO [.int .i64 x7f0, .int .i64 x7f1, .int .u64 x7f2, .int .i64 x7f3, .int .i64 x7f4, .slice x7A5 x7b5.length x7c5] 33)] :: [(b1, rowO [.int .i64 0, .int .i64 0, .int .u64 0, .int .i64 0, .int .i64 0, .slice none 0 0] 33)] :: D :: F) rfl rfl
  refine st_store tbOk hA hS [.slice A14 ((ps.take k ++ ps.drop (k + 1)).length) c15] [.slice A14 ((ps.take k ++ ps.drop (k + 1)).length) c15] rfl rfl rfl rfl rfl rfl (by intro u hu; rw [List.mem_singleton.1 hu]; rfl) (Nat.le_of_ble_eq_true rfl) rfl rfl rfl ?_; clear hS; intro w16 hS
  refine wpList_nil ?_
  replace hA := hA.sel [4, 7] (e' := [(4, .pointer (some ⟨b1, 0, none⟩)), (7, .pointer (some ⟨b8, 0, none⟩))]) rfl
  refine xt_norm ?_
  refine wp_seq ?_
  refine wp_region_lit ?_
  refine st_val hA rfl rfl (by decide) (rn_loadA tbOk hA [.int .i64 x7f0, .int .i64 x7f1, .int .u64 x7f2, .int .i64 x7f3, .int .i64 x7f4, .slice x7A5 x7b5.length x7c5] rfl rfl rfl rfl rfl (cells_row (hS.heapAt 2 rfl) rfl)) ?_; clear hA; intro a hA
  replace hS := hS.front 3 (C := [(b1, rowO [.int .i64 0, .int .i64 0, .int .u64 0, .int .i64 0, .int .i64 0, .slice none 0 0] 33)]) (L' := [(b, rowO [.slice A14 ((ps.take k ++ ps.drop (k + 1)).length) c15] 27)] :: C13 :: [(b8, rowO [.int .i64 x7f0, .int .i64 x7f1, .int .u64 x7f2, .int .i64 x7f3, .int .i64 x7f4, .slice x7A5 x7b5.length x7c5] 33)] :: D :: F) rfl rfl
  refine st_store tbOk hA hS [.int .i64 x7f0, .int .i64 x7f1, .int .u64 x7f2, .int .i64 x7f3, .int .i64 x7f4, .slice x7A5 x7b5.length x7c5] [.int .i64 x7f0, .int .i64 x7f1, .int .u64 x7f2, .int .i64 x7f3, .int .i64 x7f4, .slice x7A5 x7b5.length x7c5] rfl rfl rfl rfl rfl rfl (by simp [Value.oneCell']) (Nat.le_of_ble_eq_true rfl) rfl rfl rfl ?_; clear hS; intro w17 hS
  refine st_run tbOk 1 hA (e' := (5, .bool true) :: _) rfl ?_; clear hA; intro a hA
  refine wpList_nil ?_
  replace hA := hA.sel [4, 5] (e' := [(4, .pointer (some ⟨b1, 0, none⟩)), (5, .bool true)]) rfl
  refine xt_norm ?_
  refine wp_ret ?_
  refine retc2 tbOk (fn := Tryd.f7) (cs := [.int .i64 x7f0, .int .i64 x7f1, .int .u64 x7f2, .int .i64 x7f3, .int .i64 x7f4, .slice x7A5 x7b5.length x7c5]) hA rfl rfl rfl rfl rfl rfl (cells_row (hS.heapAt 0 rfl) rfl) ?_
  replace hS := hS.drop1
  replace hS := hS.front 2 (C := [(b8, rowO [.int .i64 x7f0, .int .i64 x7f1, .int .u64 x7f2, .int .i64 x7f3, .int .i64 x7f4, .slice x7A5 x7b5.length x7c5] 33)]) (L' := [(b, rowO [.slice A14 ((ps.take k ++ ps.drop (k + 1)).length) c15] 27)] :: C13 :: D :: F) rfl rfl
  replace hS := hS.drop1
  replace hS := hS.front 1 (C := C13) (L' := [(b, rowO [.slice A14 ((ps.take k ++ ps.drop (k + 1)).length) c15] 27)] :: D :: F) rfl rfl
  replace hS := hS.front 1 (C := [(b, rowO [.slice A14 ((ps.take k ++ ps.drop (k + 1)).length) c15] 27)]) (L' := C13 :: D :: F) rfl rfl
  replace hS := hS.front 2 (C := D) (L' := [(b, rowO [.slice A14 ((ps.take k ++ ps.drop (k + 1)).length) c15] 27)] :: C13 :: F) rfl rfl
  replace hS := hS.front 2 (C := C13) (L' := D :: [(b, rowO [.slice A14 ((ps.take k ++ ps.drop (k + 1)).length) c15] 27)] :: F) rfl rfl
  replace hS := hS.front 2 (C := [(b, rowO [.slice A14 ((ps.take k ++ ps.drop (k + 1)).length) c15] 27)]) (L' := C13 :: D :: F) rfl rfl
  replace hS := hS.join
  exact ⟨k, _, hk, hkp, hx7, _, ⟨_, _, hO13, rfl⟩, rfl, hS⟩

theorem arrive_none7 {w0 w : World} {F : List Chunk} {L D : Chunk} {b : Nat} {ps : List Pkt} (hS : St w0 w (L :: D :: F)) (hM : WR b ps L) (p : Int) (h0 : ps.length = 0) :
    Ret Tryd.prog 7 #[.pointer (some ⟨b, 0, none⟩), .int .i64 p] w (fun v w' => ∃ L', WR b ps L' ∧ v = .tuple #[.agg #[.int .i64 0, .int .i64 0, .int .u64 0, .int .i64 0, .int .i64 0, .slice none 0 0], .bool false] ∧ St w0 w' (L' :: D :: F)) := by
  obtain ⟨v, C, hO, rfl⟩ := hM
  obtain ⟨A, c, rfl, hmc, hcx⟩ := hO.open'
  replace hS : St w0 w ([(b, rowO [.slice A ps.length c] 27)] :: C :: D :: F) := hS.split
  refine enter (vs := [.pointer (some ⟨b, 0, none⟩), .int .i64 p]) 37 Tryd.func7 rfl rfl (by simp) ?_; intro a hA
  refine wp_seq ?_
  refine wp_region_lit ?_
  refine st_alloc tbOk hA hS [.int .i64 0, .int .i64 0, .int .u64 0, .int .i64 0, .int .i64 0, .slice none 0 0] rfl rfl rfl rfl rfl (by decide) ?_; clear hA hS; intro b1 w2 a hS hA
  refine st_run tbOk 1 hA (e' := (5, .bool false) :: _) rfl ?_; clear hA; intro a hA
  refine wpList_nil ?_
  replace hA := hA.sel [0, 1, 4] (e' := [(0, .pointer (some ⟨b, 0, none⟩)), (1, .int .i64 p), (4, .pointer (some ⟨b1, 0, none⟩))]) rfl
  refine xt_norm ?_
  refine wp_seq ?_
  refine wp_seq ?_
  refine wp_region_lit ?_
  refine st_run tbOk 3 hA (e' := (10, .pointer (some ⟨b, 0, none⟩)) :: (9, .pointer (some ⟨b, 0, none⟩)) :: (8, .pointer (some ⟨b, 0, none⟩)) :: _) rfl ?_; clear hA; intro a hA
  refine st_val hA rfl rfl (by decide) (rn_load tbOk hA rfl rfl rfl rfl (cell_row (hS.heapAt 1 rfl) rfl)) ?_; clear hA; intro a hA
  refine st_run tbOk 2 hA (e' := (13, .bool (((ps.length : Nat) : Int) == 0)) :: (12, .int .i64 ((ps.length : Nat) : Int)) :: _) rfl ?_; clear hA; intro a hA
  refine wpList_nil ?_
  replace hA := hA.sel [0, 1, 4, 13] (e' := [(0, .pointer (some ⟨b, 0, none⟩)), (1, .int .i64 p), (4, .pointer (some ⟨b1, 0, none⟩)), (13, .bool (((ps.length : Nat) : Int) == 0))]) rfl
  refine xt_norm ?_
  have hc3 : ((ps.length : Nat) : Int) = 0 := by omega
  replace hA := hA.rw 13 (v' := .bool true) rfl (vb_eq_t hc3)
  refine cd_cond_t hA rfl ?_
  refine wp_seq ?_
  refine wp_region_lit ?_
  refine st_run tbOk 1 hA (e' := (14, .agg #[.int .i64 0, .int .i64 0, .int .u64 0, .int .i64 0, .int .i64 0, .slice none 0 0]) :: _) rfl ?_; clear hA; intro a hA
  refine st_store tbOk hA hS [.int .i64 0, .int .i64 0, .int .u64 0, .int .i64 0, .int .i64 0, .slice none 0 0] [.int .i64 0, .int .i64 0, .int .u64 0, .int .i64 0, .int .i64 0, .slice none 0 0] rfl rfl rfl rfl rfl rfl (by simp [Value.oneCell']) (Nat.le_of_ble_eq_true rfl) rfl rfl rfl ?_; clear hS; intro w4 hS
  refine st_run tbOk 1 hA (e' := (5, .bool false) :: _) rfl ?_; clear hA; intro a hA
  refine wpList_nil ?_
  replace hA := hA.sel [4, 5] (e' := [(4, .pointer (some ⟨b1, 0, none⟩)), (5, .bool false)]) rfl
  refine xt_norm ?_
  refine wp_ret (xt_ret ?_)
  refine retc2 tbOk (fn := Tryd.f7) (cs := [.int .i64 0, .int .i64 0, .int .u64 0, .int .i64 0, .int .i64 0, .slice none 0 0]) hA rfl rfl rfl rfl rfl rfl (cells_row (hS.heapAt 0 rfl) rfl) ?_
  replace hS := hS.drop1
  replace hS := hS.front 1 (C := C) (L' := [(b, rowO [.slice A ps.length c] 27)] :: D :: F) rfl rfl
  replace hS := hS.front 1 (C := [(b, rowO [.slice A ps.length c] 27)]) (L' := C :: D :: F) rfl rfl
  replace hS := hS.front 2 (C := D) (L' := [(b, rowO [.slice A ps.length c] 27)] :: C :: F) rfl rfl
  replace hS := hS.front 2 (C := C) (L' := D :: [(b, rowO [.slice A ps.length c] 27)] :: F) rfl rfl
  replace hS := hS.front 2 (C := [(b, rowO [.slice A ps.length c] 27)]) (L' := C :: D :: F) rfl rfl
  replace hS := hS.join
  exact ⟨_, ⟨_, _, hO, rfl⟩, rfl, hS⟩

theorem double_ok11 {w0 w : World} {F : List Chunk} {L D : Chunk} {b : Nat} {ps : List Pkt} (hS : St w0 w (L :: D :: F)) (hM : WR b ps L) (p : Int) (h0 : 0 < ps.length) (hl : ps.length < 1024) (hdd : ∀ x ∈ ps, encPacket_dd w0 D x) (hbd : ∀ x ∈ ps, (pdat x).length ≤ 140737488351232) :
    Ret Tryd.prog 11 #[.pointer (some ⟨b, 0, none⟩), .int .i64 p] w (fun v w' => ∃ (k : Nat) (x : Pkt), k < ps.length ∧ (k : Int) = p % (ps.length : Int) ∧ ps[k]? = some x ∧ ∃ L' E A c, WR b (ps ++ [(x.1, x.2.1, x.2.2.1, x.2.2.2.1, x.2.2.2.2.1, A, c, pdat x)]) L' ∧ DD w0 E A c (pdat x) ∧ v = .nilIface ∧ St w0 w' (L' :: (E ++ D) :: F)) := by
  obtain ⟨v, C, hO, rfl⟩ := hM
  obtain ⟨A, c, rfl, hmc, hcx⟩ := hO.open'
  replace hS : St w0 w ([(b, rowO [.slice A ps.length c] 27)] :: C :: D :: F) := hS.split
  refine enter (vs := [.pointer (some ⟨b, 0, none⟩), .int .i64 p]) 23 Tryd.func11 rfl rfl (by simp) ?_; intro a hA
  refine wp_seq ?_
  refine wp_region_lit ?_
  refine st_run tbOk 1 hA (e' := (4, .nilIface) :: _) rfl ?_; clear hA; intro a hA
  refine wpList_nil ?_
  replace hA := hA.sel [0, 1] (e' := [(0, .pointer (some ⟨b, 0, none⟩)), (1, .int .i64 p)]) rfl
  refine xt_norm ?_
  refine wp_seq ?_
  refine wp_seq ?_
  refine wp_region_lit ?_
  refine st_run tbOk 3 hA (e' := (7, .pointer (some ⟨b, 0, none⟩)) :: (6, .pointer (some ⟨b, 0, none⟩)) :: (5, .pointer (some ⟨b, 0, none⟩)) :: _) rfl ?_; clear hA; intro a hA
  refine st_val hA rfl rfl (by decide) (rn_load tbOk hA rfl rfl rfl rfl (cell_row (hS.heapAt 0 rfl) rfl)) ?_; clear hA; intro a hA
  refine st_run tbOk 2 hA (e' := (10, .bool (((ps.length : Nat) : Int) == 0)) :: (9, .int .i64 ((ps.length : Nat) : Int)) :: _) rfl ?_; clear hA; intro a hA
  refine wpList_nil ?_
  replace hA := hA.sel [0, 1, 10] (e' := [(0, .pointer (some ⟨b, 0, none⟩)), (1, .int .i64 p), (10, .bool (((ps.length : Nat) : Int) == 0))]) rfl
  refine xt_norm ?_
  have hc1 : ¬ (((ps.length : Nat) : Int) = 0) := by omega
  replace hA := hA.rw 10 (v' := .bool false) rfl (vb_eq_f hc1)
  refine cd_cond_f hA rfl ?_
  refine wp_skip ?_
  refine xt_norm ?_
  refine wp_seq ?_
  refine wp_drawN (fun w' => St w0 w' (F)) [] [(0, true), (1, true), (2, true), (3, true), (5, true), (6, true)] 4 (.L [(7, false), (8, true), (9, false), (10, false), (11, true)]) 7 (.L [(4, false), (8, true), (9, false), (10, false), (11, true)]) mixed (by kernel_rfl) (by rintro c a w ⟨_, _, h, _⟩; cases h) (by rfl) (by kernel_rfl) ?_
  replace hS := hS.drew
  refine dr_run tbOk 6 hA (hS.tail 3 rfl) (e' := (18, .int .i64 p) :: (17, .pointer (some ⟨b, 0, none⟩)) :: (15, .pointer (some ⟨b, 0, none⟩)) :: (14, .pointer (some ⟨b, 0, none⟩)) :: (13, .pointer (some ⟨b, 0, none⟩)) :: (12, .pointer (some ⟨b, 0, none⟩)) :: _) rfl ?_; clear hA; intro a hA
  refine dr_fork ?_ ?_
  · refine dr_b (o := _) rfl ?_
    refine st_val hA rfl rfl (by decide) (rn_load tbOk hA rfl rfl rfl rfl (cell_row (hS.heapAt 0 rfl) rfl)) ?_; clear hA; intro a hA
    refine dr_nil (.inr (hS.tail 3 rfl)) ?_
    refine dr_subL ?_
    refine dr_b (o := _) rfl ?_
    refine st_call0 hA rfl rfl rfl isfn16 rfl rfl (by decide) (place16 hS p h0 (by omega)) ?_
    clear hA hS; rintro _ w2 a ⟨k, hk, hkp, rfl, hS⟩ hA
    refine dr_nil (.inr (hS.tail 3 rfl)) ?_
    obtain ⟨b3, o4, rfl⟩ := hO.isSome (k := k) (by omega)
    refine dr_y hA rfl rfl rfl (by decide) (hS.tail 3 rfl) (fun w' hS' => rn_indexAddr tbOk hA k (o4 + (k * 6)) rfl rfl rfl rfl rfl rfl (by rfl) (by omega) (by first | rfl | simp [Nat.mul_one, Nat.zero_add] | omega)) ?_; clear hA; intro a hA
    refine dr_b (o := _) rfl ?_
    obtain ⟨x5, hx5⟩ := get_ex (l := ps) (k := k) (by omega)
    obtain ⟨x5f0, x5f1, x5f2, x5f3, x5f4, x5A5, x5c5, x5b5⟩ := x5
    have hd6 := hdd _ (List.mem_of_getElem? hx5)
    refine st_val hA rfl rfl (by decide) (rn_loadA tbOk hA ([.int .i64 x5f0, .int .i64 x5f1, .int .u64 x5f2, .int .i64 x5f3, .int .i64 x5f4, .slice x5A5 x5b5.length x5c5]) rfl rfl rfl rfl (by rfl) ((hO.rd (hS.own_ 1 rfl)).elem (k := k) encPacket_ok hx5)) ?_; clear hA; intro a hA
    refine dr_nil (.inr (hS.tail 3 rfl)) ?_
    refine dr_b (o := _) rfl ?_
    replace hS := hS.front 1 (C := C) (L' := [(b, rowO [.slice (some ⟨b3, o4, none⟩) ps.length c] 27)] :: D :: F) rfl rfl
    replace hS := hS.front 1 (C := [(b, rowO [.slice (some ⟨b3, o4, none⟩) ps.length c] 27)]) (L' := C :: D :: F) rfl rfl
    replace hS := hS.front 2 (C := D) (L' := [(b, rowO [.slice (some ⟨b3, o4, none⟩) ps.length c] 27)] :: C :: F) rfl rfl
    replace hS := hS.front 2 (C := C) (L' := D :: [(b, rowO [.slice (some ⟨b3, o4, none⟩) ps.length c] 27)] :: F) rfl rfl
    replace hS := hS.front 2 (C := [(b, rowO [.slice (some ⟨b3, o4, none⟩) ps.length c] 27)]) (L' := C :: D :: F) rfl rfl
    replace hS := hS.join
    have hbx := hbd _ (List.mem_of_getElem? hx5); dsimp only [pdat] at hbx
    refine st_call0 hA rfl rfl rfl isfn5 rfl rfl (by decide) (send_ok5 hS ⟨_, _, hO, rfl⟩ x5f0 x5f1 x5f2 x5f3 x5f4 (DD.rds hd6 0 rfl) (by omega) (by omega)) ?_
    clear hA hS; rintro _ w7 a ⟨L2, E2, A2, c2, hM2, hE2, rfl, hS⟩ hA
    refine dr_nil (.inr (hS.tail 2 rfl)) ?_
    refine dr_run tbOk 1 hA (hS.tail 2 rfl) (e' := (4, .nilIface) :: _) rfl ?_; clear hA; intro a hA
    refine dr_end ?_
    replace hA := hA.sel [4] (e' := [(4, .nilIface)]) rfl
    refine xt_norm ?_
    refine wp_ret ?_
    refine ret1 (fn := Tryd.f11) hA rfl rfl ?_
    exact ⟨k, (x5f0, x5f1, x5f2, x5f3, x5f4, x5A5, x5c5, x5b5), hk, hkp, hx5, _, _, _, _, hM2, hE2, rfl, hS⟩
  · refine dr_b (o := _) rfl ?_
    refine st_call0 hA rfl rfl rfl isfn16 rfl rfl (by decide) (place16 hS p h0 (by omega)) ?_
    clear hA hS; rintro _ w8 a ⟨k, hk, hkp, rfl, hS⟩ hA
    refine dr_nil (.inr (hS.tail 3 rfl)) ?_
    refine dr_subL ?_
    refine dr_b (o := _) rfl ?_
    refine st_val hA rfl rfl (by decide) (rn_load tbOk hA rfl rfl rfl rfl (cell_row (hS.heapAt 0 rfl) rfl)) ?_; clear hA; intro a hA
    refine dr_nil (.inr (hS.tail 3 rfl)) ?_
    obtain ⟨b9, o10, rfl⟩ := hO.isSome (k := k) (by omega)
    refine dr_y hA rfl rfl rfl (by decide) (hS.tail 3 rfl) (fun w' hS' => rn_indexAddr tbOk hA k (o10 + (k * 6)) rfl rfl rfl rfl rfl rfl (by rfl) (by omega) (by first | rfl | simp [Nat.mul_one, Nat.zero_add] | omega)) ?_; clear hA; intro a hA
    refine dr_b (o := _) rfl ?_
    obtain ⟨x11, hx11⟩ := get_ex (l := ps) (k := k) (by omega)
    obtain ⟨x11f0, x11f1, x11f2, x11f3, x11f4, x11A5, x11c5, x11b5⟩ := x11
    have hd12 := hdd _ (List.mem_of_getElem? hx11)
    refine st_val hA rfl rfl (by decide) (rn_loadA tbOk hA ([.int .i64 x11f0, .int .i64 x11f1, .int .u64 x11f2, .int .i64 x11f3, .int .i64 x11f4, .slice x11A5 x11b5.length x11c5]) rfl rfl rfl rfl (by rfl) ((hO.rd (hS.own_ 1 rfl)).elem (k := k) encPacket_ok hx11)) ?_; clear hA; intro a hA
    refine dr_nil (.inr (hS.tail 3 rfl)) ?_
    refine dr_b (o := _) rfl ?_
    replace hS := hS.front 1 (C := C) (L' := [(b, rowO [.slice (some ⟨b9, o10, none⟩) ps.length c] 27)] :: D :: F) rfl rfl
    replace hS := hS.front 1 (C := [(b, rowO [.slice (some ⟨b9, o10, none⟩) ps.length c] 27)]) (L' := C :: D :: F) rfl rfl
    replace hS := hS.front 2 (C := D) (L' := [(b, rowO [.slice (some ⟨b9, o10, none⟩) ps.length c] 27)] :: C :: F) rfl rfl
    replace hS := hS.front 2 (C := C) (L' := D :: [(b, rowO [.slice (some ⟨b9, o10, none⟩) ps.length c] 27)] :: F) rfl rfl
    replace hS := hS.front 2 (C := [(b, rowO [.slice (some ⟨b9, o10, none⟩) ps.length c] 27)]) (L' := C :: D :: F) rfl rfl
    replace hS := hS.join
    have hbx := hbd _ (List.mem_of_getElem? hx11); dsimp only [pdat] at hbx
    refine st_call0 hA rfl rfl rfl isfn5 rfl rfl (by decide) (send_ok5 hS ⟨_, _, hO, rfl⟩ x11f0 x11f1 x11f2 x11f3 x11f4 (DD.rds hd12 0 rfl) (by omega) (by omega)) ?_
    clear hA hS; rintro _ w13 a ⟨L2, E2, A2, c2, hM2, hE2, rfl, hS⟩ hA
    refine dr_nil (.inr (hS.tail 2 rfl)) ?_
    refine dr_run tbOk 1 hA (hS.tail 2 rfl) (e' := (4, .nilIface) :: _) rfl ?_; clear hA; intro a hA
    refine dr_end ?_
    replace hA := hA.sel [4] (e' := [(4, .nilIface)]) rfl
    refine xt_norm ?_
    refine wp_ret ?_
    refine ret1 (fn := Tryd.f11) hA rfl rfl ?_
    exact ⟨k, (x11f0, x11f1, x11f2, x11f3, x11f4, x11A5, x11c5, x11b5), hk, hkp, hx11, _, _, _, _, hM2, hE2, rfl, hS⟩

theorem double_none11 {w0 w : World} {F : List Chunk} {L D : Chunk} {b : Nat} {ps : List Pkt} (hS : St w0 w (L :: D :: F)) (hM : WR b ps L) (p : Int) (h0 : ps.length = 0) :
    Ret Tryd.prog 11 #[.pointer (some ⟨b, 0, none⟩), .int .i64 p] w (fun v w' => ∃ L', WR b ps L' ∧ v = .iface 37 (.int .i64 12) ∧ St w0 w' (L' :: D :: F)) := by
  obtain ⟨v, C, hO, rfl⟩ := hM
  obtain ⟨A, c, rfl, hmc, hcx⟩ := hO.open'
  replace hS : St w0 w ([(b, rowO [.slice A ps.length c] 27)] :: C :: D :: F) := hS.split
  refine enter (vs := [.pointer (some ⟨b, 0, none⟩), .int .i64 p]) 23 Tryd.func11 rfl rfl (by simp) ?_; intro a hA
  refine wp_seq ?_
  refine wp_region_lit ?_
  refine st_run tbOk 1 hA (e' := (4, .nilIface) :: _) rfl ?_; clear hA; intro a hA
  refine wpList_nil ?_
  replace hA := hA.sel [0, 1] (e' := [(0, .pointer (some ⟨b, 0, none⟩)), (1, .int .i64 p)]) rfl
  refine xt_norm ?_
  refine wp_seq ?_
  refine wp_seq ?_
  refine wp_region_lit ?_
  refine st_run tbOk 3 hA (e' := (7, .pointer (some ⟨b, 0, none⟩)) :: (6, .pointer (some ⟨b, 0, none⟩)) :: (5, .pointer (some ⟨b, 0, none⟩)) :: _) rfl ?_; clear hA; intro a hA
  refine st_val hA rfl rfl (by decide) (rn_load tbOk hA rfl rfl rfl rfl (cell_row (hS.heapAt 0 rfl) rfl)) ?_; clear hA; intro a hA
  refine st_run tbOk 2 hA (e' := (10, .bool (((ps.length : Nat) : Int) == 0)) :: (9, .int .i64 ((ps.length : Nat) : Int)) :: _) rfl ?_; clear hA; intro a hA
  refine wpList_nil ?_
  replace hA := hA.sel [0, 1, 10] (e' := [(0, .pointer (some ⟨b, 0, none⟩)), (1, .int .i64 p), (10, .bool (((ps.length : Nat) : Int) == 0))]) rfl
  refine xt_norm ?_
  have hc1 : ((ps.length : Nat) : Int) = 0 := by omega
  replace hA := hA.rw 10 (v' := .bool true) rfl (vb_eq_t hc1)
  refine cd_cond_t hA rfl ?_
  refine wp_seq ?_
  refine wp_region_lit ?_
  refine st_run tbOk 2 hA (e' := (4, .iface 37 (.int .i64 12)) :: (11, .iface 37 (.int .i64 12)) :: _) rfl ?_; clear hA; intro a hA
  refine wpList_nil ?_
  replace hA := hA.sel [4] (e' := [(4, .iface 37 (.int .i64 12))]) rfl
  refine xt_norm ?_
  refine wp_ret (xt_ret ?_)
  refine ret1 (fn := Tryd.f11) hA rfl rfl ?_
  replace hS := hS.front 1 (C := C) (L' := [(b, rowO [.slice A ps.length c] 27)] :: D :: F) rfl rfl
  replace hS := hS.front 1 (C := [(b, rowO [.slice A ps.length c] 27)]) (L' := C :: D :: F) rfl rfl
  replace hS := hS.front 2 (C := D) (L' := [(b, rowO [.slice A ps.length c] 27)] :: C :: F) rfl rfl
  replace hS := hS.front 2 (C := C) (L' := D :: [(b, rowO [.slice A ps.length c] 27)] :: F) rfl rfl
  replace hS := hS.front 2 (C := [(b, rowO [.slice A ps.length c] 27)]) (L' := C :: D :: F) rfl rfl
  replace hS := hS.join
  exact ⟨_, ⟨_, _, hO, rfl⟩, rfl, hS⟩

theorem double_full11 {w0 w : World} {F : List Chunk} {L D : Chunk} {b : Nat} {ps : List Pkt} (hS : St w0 w (L :: D :: F)) (hM : WR b ps L) (p : Int) (h0 : 0 < ps.length) (hl : 1024 ≤ ps.length) (hn : ps.length ≤ 1048576) (hdd : ∀ x ∈ ps, encPacket_dd w0 D x) (hbd : ∀ x ∈ ps, (pdat x).length ≤ 140737488351232) :
    Ret Tryd.prog 11 #[.pointer (some ⟨b, 0, none⟩), .int .i64 p] w (fun v w' => ∃ L', WR b ps L' ∧ v = .iface 37 (.int .i64 5) ∧ St w0 w' (L' :: D :: F)) := by
  obtain ⟨v, C, hO, rfl⟩ := hM
  obtain ⟨A, c, rfl, hmc, hcx⟩ := hO.open'
  replace hS : St w0 w ([(b, rowO [.slice A ps.length c] 27)] :: C :: D :: F) := hS.split
  refine enter (vs := [.pointer (some ⟨b, 0, none⟩), .int .i64 p]) 23 Tryd.func11 rfl rfl (by simp) ?_; intro a hA
  refine wp_seq ?_
  refine wp_region_lit ?_
  refine st_run tbOk 1 hA (e' := (4, .nilIface) :: _) rfl ?_; clear hA; intro a hA
  refine wpList_nil ?_
  replace hA := hA.sel [0, 1] (e' := [(0, .pointer (some ⟨b, 0, none⟩)), (1, .int .i64 p)]) rfl
  refine xt_norm ?_
  refine wp_seq ?_
  refine wp_seq ?_
  refine wp_region_lit ?_
  refine st_run tbOk 3 hA (e' := (7, .pointer (some ⟨b, 0, none⟩)) :: (6, .pointer (some ⟨b, 0, none⟩)) :: (5, .pointer (some ⟨b, 0, none⟩)) :: _) rfl ?_; clear hA; intro a hA
  refine st_val hA rfl rfl (by decide) (rn_load tbOk hA rfl rfl rfl rfl (cell_row (hS.heapAt 0 rfl) rfl)) ?_; clear hA; intro a hA
  refine st_run tbOk 2 hA (e' := (10, .bool (((ps.length : Nat) : Int) == 0)) :: (9, .int .i64 ((ps.length : Nat) : Int)) :: _) rfl ?_; clear hA; intro a hA
  refine wpList_nil ?_
  replace hA := hA.sel [0, 1, 10] (e' := [(0, .pointer (some ⟨b, 0, none⟩)), (1, .int .i64 p), (10, .bool (((ps.length : Nat) : Int) == 0))]) rfl
  refine xt_norm ?_
  have hc1 : ¬ (((ps.length : Nat) : Int) = 0) := by omega
  replace hA := hA.rw 10 (v' := .bool false) rfl (vb_eq_f hc1)
  refine cd_cond_f hA rfl ?_
  refine wp_skip ?_
  refine xt_norm ?_
  refine wp_seq ?_
  refine wp_drawN (fun w' => St w0 w' (F)) [] [(0, true), (1, true), (2, true), (3, true), (5, true), (6, true)] 4 (.L [(7, false), (8, true), (9, false), (10, false), (11, true)]) 7 (.L [(4, false), (8, true), (9, false), (10, false), (11, true)]) mixed (by kernel_rfl) (by rintro c a w ⟨_, _, h, _⟩; cases h) (by rfl) (by kernel_rfl) ?_
  replace hS := hS.drew
  refine dr_run tbOk 6 hA (hS.tail 3 rfl) (e' := (18, .int .i64 p) :: (17, .pointer (some ⟨b, 0, none⟩)) :: (15, .pointer (some ⟨b, 0, none⟩)) :: (14, .pointer (some ⟨b, 0, none⟩)) :: (13, .pointer (some ⟨b, 0, none⟩)) :: (12, .pointer (some ⟨b, 0, none⟩)) :: _) rfl ?_; clear hA; intro a hA
  refine dr_fork ?_ ?_
  · refine dr_b (o := _) rfl ?_
    refine st_val hA rfl rfl (by decide) (rn_load tbOk hA rfl rfl rfl rfl (cell_row (hS.heapAt 0 rfl) rfl)) ?_; clear hA; intro a hA
    refine dr_nil (.inr (hS.tail 3 rfl)) ?_
    refine dr_subL ?_
    refine dr_b (o := _) rfl ?_
    refine st_call0 hA rfl rfl rfl isfn16 rfl rfl (by decide) (place16 hS p h0 (by omega)) ?_
    clear hA hS; rintro _ w2 a ⟨k, hk, hkp, rfl, hS⟩ hA
    refine dr_nil (.inr (hS.tail 3 rfl)) ?_
    obtain ⟨b3, o4, rfl⟩ := hO.isSome (k := k) (by omega)
    refine dr_y hA rfl rfl rfl (by decide) (hS.tail 3 rfl) (fun w' hS' => rn_indexAddr tbOk hA k (o4 + (k * 6)) rfl rfl rfl rfl rfl rfl (by rfl) (by omega) (by first | rfl | simp [Nat.mul_one, Nat.zero_add] | omega)) ?_; clear hA; intro a hA
    refine dr_b (o := _) rfl ?_
    obtain ⟨x5, hx5⟩ := get_ex (l := ps) (k := k) (by omega)
    obtain ⟨x5f0, x5f1, x5f2, x5f3, x5f4, x5A5, x5c5, x5b5⟩ := x5
    have hd6 := hdd _ (List.mem_of_getElem? hx5)
    refine st_val hA rfl rfl (by decide) (rn_loadA tbOk hA ([.int .i64 x5f0, .int .i64 x5f1, .int .u64 x5f2, .int .i64 x5f3, .int .i64 x5f4, .slice x5A5 x5b5.length x5c5]) rfl rfl rfl rfl (by rfl) ((hO.rd (hS.own_ 1 rfl)).elem (k := k) encPacket_ok hx5)) ?_; clear hA; intro a hA
    refine dr_nil (.inr (hS.tail 3 rfl)) ?_
    refine dr_b (o := _) rfl ?_
    replace hS := hS.front 1 (C := C) (L' := [(b, rowO [.slice (some ⟨b3, o4, none⟩) ps.length c] 27)] :: D :: F) rfl rfl
    replace hS := hS.front 1 (C := [(b, rowO [.slice (some ⟨b3, o4, none⟩) ps.length c] 27)]) (L' := C :: D :: F) rfl rfl
    replace hS := hS.front 2 (C := D) (L' := [(b, rowO [.slice (some ⟨b3, o4, none⟩) ps.length c] 27)] :: C :: F) rfl rfl
    replace hS := hS.front 2 (C := C) (L' := D :: [(b, rowO [.slice (some ⟨b3, o4, none⟩) ps.length c] 27)] :: F) rfl rfl
    replace hS := hS.front 2 (C := [(b, rowO [.slice (some ⟨b3, o4, none⟩) ps.length c] 27)]) (L' := C :: D :: F) rfl rfl
    replace hS := hS.join
    have hbx := hbd _ (List.mem_of_getElem? hx5); dsimp only [pdat] at hbx
    refine st_call0 hA rfl rfl rfl isfn5 rfl rfl (by decide) (send_full5 hS ⟨_, _, hO, rfl⟩ x5f0 x5f1 x5f2 x5f3 x5f4 (DD.rds hd6 0 rfl) (by omega) (by omega)) ?_
    clear hA hS; rintro _ w7 a ⟨L2, hM2, rfl, hS⟩ hA
    refine dr_nil (.inr (hS.tail 2 rfl)) ?_
    refine dr_run tbOk 1 hA (hS.tail 2 rfl) (e' := (4, .iface 37 (.int .i64 5)) :: _) rfl ?_; clear hA; intro a hA
    refine dr_end ?_
    replace hA := hA.sel [4] (e' := [(4, .iface 37 (.int .i64 5))]) rfl
    refine xt_norm ?_
    refine wp_ret ?_
    refine ret1 (fn := Tryd.f11) hA rfl rfl ?_
    exact ⟨_, hM2, rfl, hS⟩
  · refine dr_b (o := _) rfl ?_
    refine st_call0 hA rfl rfl rfl isfn16 rfl rfl (by decide) (place16 hS p h0 (by omega)) ?_
    clear hA hS; rintro _ w8 a ⟨k, hk, hkp, rfl, hS⟩ hA
    refine dr_nil (.inr (hS.tail 3 rfl)) ?_
    refine dr_subL ?_
    refine dr_b (o := _) rfl ?_
    refine st_val hA rfl rfl (by decide) (rn_load tbOk hA rfl rfl rfl rfl (cell_row (hS.heapAt 0 rfl) rfl)) ?_; clear hA; intro a hA
    refine dr_nil (.inr (hS.tail 3 rfl)) ?_
    obtain ⟨b9, o10, rfl⟩ := hO.isSome (k := k) (by omega)
    refine dr_y hA rfl rfl rfl (by decide) (hS.tail 3 rfl) (fun w' hS' => rn_indexAddr tbOk hA k (o10 + (k * 6)) rfl rfl rfl rfl rfl rfl (by rfl) (by omega) (by first | rfl | simp [Nat.mul_one, Nat.zero_add] | omega)) ?_; clear hA; intro a hA
    refine dr_b (o := _) rfl ?_
    obtain ⟨x11, hx11⟩ := get_ex (l := ps) (k := k) (by omega)
    obtain ⟨x11f0, x11f1, x11f2, x11f3, x11f4, x11A5, x11c5, x11b5⟩ := x11
    have hd12 := hdd _ (List.mem_of_getElem? hx11)
    refine st_val hA rfl rfl (by decide) (rn_loadA tbOk hA ([.int .i64 x11f0, .int .i64 x11f1, .int .u64 x11f2, .int .i64 x11f3, .int .i64 x11f4, .slice x11A5 x11b5.length x11c5]) rfl rfl rfl rfl (by rfl) ((hO.rd (hS.own_ 1 rfl)).elem (k := k) encPacket_ok hx11)) ?_; clear hA; intro a hA
    refine dr_nil (.inr (hS.tail 3 rfl)) ?_
    refine dr_b (o := _) rfl ?_
    replace hS := hS.front 1 (C := C) (L' := [(b, rowO [.slice (some ⟨b9, o10, none⟩) ps.length c] 27)] :: D :: F) rfl rfl
    replace hS := hS.front 1 (C := [(b, rowO [.slice (some ⟨b9, o10, none⟩) ps.length c] 27)]) (L' := C :: D :: F) rfl rfl
    replace hS := hS.front 2 (C := D) (L' := [(b, rowO [.slice (some ⟨b9, o10, none⟩) ps.length c] 27)] :: C :: F) rfl rfl
    replace hS := hS.front 2 (C := C) (L' := D :: [(b, rowO [.slice (some ⟨b9, o10, none⟩) ps.length c] 27)] :: F) rfl rfl
    replace hS := hS.front 2 (C := [(b, rowO [.slice (some ⟨b9, o10, none⟩) ps.length c] 27)]) (L' := C :: D :: F) rfl rfl
    replace hS := hS.join
    have hbx := hbd _ (List.mem_of_getElem? hx11); dsimp only [pdat] at hbx
    refine st_call0 hA rfl rfl rfl isfn5 rfl rfl (by decide) (send_full5 hS ⟨_, _, hO, rfl⟩ x11f0 x11f1 x11f2 x11f3 x11f4 (DD.rds hd12 0 rfl) (by omega) (by omega)) ?_
    clear hA hS; rintro _ w13 a ⟨L2, hM2, rfl, hS⟩ hA
    refine dr_nil (.inr (hS.tail 2 rfl)) ?_
    refine dr_run tbOk 1 hA (hS.tail 2 rfl) (e' := (4, .iface 37 (.int .i64 5)) :: _) rfl ?_; clear hA; intro a hA
    refine dr_end ?_
    replace hA := hA.sel [4] (e' := [(4, .iface 37 (.int .i64 5))]) rfl
    refine xt_norm ?_
    refine wp_ret ?_
    refine ret1 (fn := Tryd.f11) hA rfl rfl ?_
    exact ⟨_, hM2, rfl, hS⟩

def isW (ps : List Pkt) (k : Nat) : Prop := ps.length = k ∧ ∀ (i : Nat) (x : Pkt), ps[i]? = some x → ∃ A c, x = (0, 0, ((i : Nat) : Int), 0, 0, A, c, [])
theorem isW.nil : isW [] 0 := ⟨rfl, fun i x h => by simp at h⟩
theorem isW.add {ps : List Pkt} {k : Nat} (h : isW ps k) (A : Option Addr) (c : Nat) : isW (ps ++ [(0, 0, ((k : Nat) : Int), 0, 0, A, c, [])]) (k + 1) := by
  refine ⟨by simp [h.1], fun i x hx => ?_⟩
  by_cases hi : i < ps.length
  · rw [List.getElem?_append_left hi] at hx; exact h.2 i x hx
  · have h2 := (List.getElem?_eq_some_iff.1 hx).1
    have h3 : i < ps.length + 1 := by simpa using h2
    obtain rfl : i = ps.length := by omega
    rw [List.getElem?_append_right (Nat.le_refl _)] at hx
    simp at hx
    subst hx
    exact ⟨A, c, by rw [h.1]⟩
theorem isW.short {ps : List Pkt} {k : Nat} (h : isW ps k) : ∀ x ∈ ps, (pdat x).length ≤ 140737488351232 := fun x hx => by
  obtain ⟨i, hi⟩ := List.mem_iff_getElem?.1 hx
  obtain ⟨A, c, rfl⟩ := h.2 i x hi
  exact Nat.zero_le _
theorem m1_mod {n : Nat} (h : 0 < n) : (-1 : Int) % (n : Int) = n - 1 := by
  rw [show (-1 : Int) = ((n : Int) - 1) + n * (-1) by omega, Int.add_mul_emod_self_left]; exact Int.emod_eq_of_lt (by omega) (by omega)
theorem rest_front {ps : List Pkt} {i : Nat} : (ps.drop i).take 0 ++ (ps.drop i).drop (0 + 1) = ps.drop (i + 1) := by rw [List.take_zero, List.nil_append, List.drop_drop]
theorem rest_back {ps : List Pkt} {i k : Nat} (hi : i ≤ ps.length) (hk : k + 1 = (ps.take i).length) : (ps.take i).take k ++ (ps.take i).drop (k + 1) = ps.take (i - 1) := by
  rw [List.drop_eq_nil_of_le (by omega), List.append_nil, List.take_take]
  congr 1
  rw [List.length_take] at hk; omega
theorem u8_of (x : Int) (h0 : 0 ≤ x) (h1 : x < 256) : ∃ z : UInt8, ((z.toNat : Nat) : Int) = x := ⟨UInt8.ofNat x.toNat, by rw [UInt8.toNat_ofNat']; omega⟩
theorem wrap_u8_rng (x : Int) : 0 ≤ IntKind.u8.wrap x ∧ IntKind.u8.wrap x < 256 := by
  have : IntKind.u8.wrap x = x % 256 := by
    unfold IntKind.wrap; simp [IntKind.min, IntKind.max, IntKind.bits, IntKind.signed]
  omega

def onn (n : Int) (x : Pkt) : Bool := x.1 == n || x.2.1 == n
def cutl (n : Int) (l : List Pkt) : List Pkt := l.filter (fun x => !(onn n x))
theorem onn_t1 {n : Int} {x : Pkt} (h : x.1 = n) : onn n x = true := by simp [onn, h]
theorem onn_t2 {n : Int} {x : Pkt} (h : x.2.1 = n) : onn n x = true := by simp [onn, h]
theorem onn_f {n : Int} {x : Pkt} (h : ¬ x.1 = n) (h2 : ¬ x.2.1 = n) : onn n x = false := by simp [onn, h, h2]
theorem cutl_sub {n : Int} {l : List Pkt} {x : Pkt} (h : x ∈ cutl n l) : x ∈ l := (List.mem_filter.1 h).1

theorem indexFunc24 {w0 w : World} {F : List Chunk} (hS : St w0 w F) {v : Value} {l : List (Int × Int × Int × Int × Int × Option Addr × Nat × List UInt8)} (hr : RdS w0 F 6 v l.length (rows encPacket l)) {g : Nat} {first cap : Array Value} {p : (Int × Int × Int × Int × Int × Option Addr × Nat × List UInt8) → Bool} (hg : IsFn Tryd.prog g) (hp : Pred Tryd.prog w0 F g first cap (fun x => .agg (encPacket x).toArray) p) :
    Ret Tryd.prog 24 #[v, .func (.func g) first cap] w (fun v w' => v = .int .i64 (idx p l) ∧ St w0 w' F) := by
  obtain ⟨A, c, rfl, hmc, hcx⟩ := (hr w hS).open'
  refine enter (vs := [.slice A l.length c, .func (.func g) first cap]) 19 Tryd.func24 rfl rfl (by simp) ?_; intro a hA
  refine wp_seq ?_
  refine wp_region_lit ?_
  refine st_run tbOk 1 hA (e' := (4, .int .i64 0) :: _) rfl ?_; clear hA; intro a hA
  refine wpList_nil ?_
  replace hA := hA.sel [0, 1] (e' := [(0, .slice A l.length c), (1, .func (.func g) first cap)]) rfl
  refine xt_norm ?_
  refine wp_seq ?_
  refine wp_seq ?_
  refine wp_region_lit ?_
  refine st_run tbOk 3 hA (e' := (8, .int .i64 0) :: (7, .int .i64 ((l.length : Nat) : Int)) :: (6, .slice A l.length c) :: _) rfl ?_; clear hA; intro a hA
  refine wpList_nil ?_
  replace hA := hA.sel [0, 1, 7, 8] (e' := [(0, .slice A l.length c), (1, .func (.func g) first cap), (7, .int .i64 ((l.length : Nat) : Int)), (8, .int .i64 0)]) rfl
  refine xt_norm ?_
  refine wp_block ?_
  refine wp_loop_ghost (fun m a w => ∃ (k : Nat), m = l.length - k ∧ Has a 19 [(0, .slice A l.length c), (1, .func (.func g) first cap), (7, .int .i64 ((l.length : Nat) : Int)), (8, .int .i64 ((k : Nat) : Int))] ∧ St w0 w (F) ∧ (k ≤ l.length) ∧ (∀ (i : Nat) (y : (Int × Int × Int × Int × Int × Option Addr × Nat × List UInt8)), i < k → l[i]? = some y → p y = false)) (l.length - 0)
    ⟨0, rfl, (hA.sel [0, 1, 7, 8] rfl), hS, Nat.zero_le _, fun i y hi => absurd hi (by omega)⟩ ?_
  clear hA hS; rintro m0 a w1 ⟨k, rfl, hA, hS, hk, hb⟩
  refine wp_seq ?_
  refine wp_region_lit ?_
  refine st_run tbOk 1 hA (e' := (9, .bool (decide (((k : Nat) : Int) < ((l.length : Nat) : Int)))) :: _) rfl ?_; clear hA; intro a hA
  refine wpList_nil ?_
  refine xt_norm ?_
  refine wp_seq ?_
  by_cases hc2 : ((k : Nat) : Int) < ((l.length : Nat) : Int)
  · first
    | (exfalso; omega)
    | (replace hA := hA.rw 9 (v' := .bool true) rfl (vb_true hc2)
       refine cd_cond_t hA rfl ?_
       refine wp_skip ?_
       refine xt_norm ?_
       refine wp_seq ?_
       refine wp_block ?_
       refine wp_seq ?_
       refine wp_region_lit ?_
       refine st_run tbOk 2 hA (e' := (5, .int .i64 ((k : Nat) : Int)) :: (10, .int .i64 ((k : Nat) : Int)) :: _) rfl ?_; clear hA; intro a hA
       refine wpList_nil ?_
       replace hA := hA.sel [0, 1, 5, 7, 8] (e' := [(0, .slice A l.length c), (1, .func (.func g) first cap), (5, .int .i64 ((k : Nat) : Int)), (7, .int .i64 ((l.length : Nat) : Int)), (8, .int .i64 ((k : Nat) : Int))]) rfl
       refine xt_norm ?_
       refine wp_seq ?_
       refine wp_region_lit ?_
       refine st_run tbOk 3 hA (e' := (13, .int .i64 ((k : Nat) : Int)) :: (12, .slice A l.length c) :: (11, .func (.func g) first cap) :: _) rfl ?_; clear hA; intro a hA
       obtain ⟨b3, o4, rfl⟩ := (hr _ hS).isSome (k := k) (by omega)
       refine st_val hA rfl rfl (by decide) (rn_indexAddr tbOk hA k (o4 + (k * 6)) rfl rfl rfl rfl rfl rfl (by rfl) (by omega) (by first | rfl | simp [Nat.mul_one, Nat.zero_add] | omega)) ?_; clear hA; intro a hA
       obtain ⟨x5, hx5⟩ := get_ex (l := l) (k := k) (by omega)
       obtain ⟨x5f0, x5f1, x5f2, x5f3, x5f4, x5A5, x5c5, x5b5⟩ := x5
       refine st_val hA rfl rfl (by decide) (rn_loadA tbOk hA ([.int .i64 x5f0, .int .i64 x5f1, .int .u64 x5f2, .int .i64 x5f3, .int .i64 x5f4, .slice x5A5 x5b5.length x5c5]) rfl rfl rfl rfl (by rfl) ((hr _ hS).elem (k := k) encPacket_ok hx5)) ?_; clear hA; intro a hA
       refine st_call hA rfl rfl rfl rfl hg rfl rfl (by decide) (hp _ (x5f0, x5f1, x5f2, x5f3, x5f4, x5A5, x5c5, x5b5) hS) ?_
       clear hA; rintro v w6 a ⟨rfl, hS'⟩ hA; replace hS : St w0 w6 (F) := hS.trans hS'
       refine wpList_nil ?_
       replace hA := hA.sel [0, 1, 5, 7, 8, 16] (e' := [(0, .slice (some ⟨b3, o4, none⟩) l.length c), (1, .func (.func g) first cap), (5, .int .i64 ((k : Nat) : Int)), (7, .int .i64 ((l.length : Nat) : Int)), (8, .int .i64 ((k : Nat) : Int)), (16, .bool (p (x5f0, x5f1, x5f2, x5f3, x5f4, x5A5, x5c5, x5b5)))]) rfl
       refine xt_norm ?_
       by_cases hpx : (p (x5f0, x5f1, x5f2, x5f3, x5f4, x5A5, x5c5, x5b5)) = true
       · first
         | (exfalso; omega)
         | (replace hA := hA.rw 16 (v' := .bool true) rfl (vb_t hpx)
            refine cd_cond_t hA rfl ?_
            refine wp_seq ?_
            refine wp_region_lit ?_
            refine st_run tbOk 2 hA (e' := (4, .int .i64 ((k : Nat) : Int)) :: (17, .int .i64 ((k : Nat) : Int)) :: _) rfl ?_; clear hA; intro a hA
            refine wpList_nil ?_
            replace hA := hA.sel [4] (e' := [(4, .int .i64 ((k : Nat) : Int))]) rfl
            refine xt_norm ?_
            refine wp_ret (xb_ret (xt_ret (xt_ret (xb_ret (xt_ret ?_)))))
            refine ret1 (fn := Tryd.f24) hA rfl rfl ?_
            exact ⟨vint (idx_some hx5 hpx (fun i y hi hy => hb i y hi hy)).symm, hS⟩)
       · first
         | (exfalso; omega)
         | (replace hA := hA.rw 16 (v' := .bool false) rfl (vb_f hpx)
            refine cd_cond_f hA rfl ?_
            refine wp_skip ?_
            refine xb_norm ?_
            refine xt_norm ?_
            refine wp_region_lit ?_
            refine st_run tbOk 1 hA (e' := (18, .int .i64 (IntKind.i64.wrap (((k : Nat) : Int) + 1))) :: _) rfl ?_; clear hA; intro a hA
            replace hA := hA.rw 18 (v' := .int .i64 ((k + 1 : Nat) : Int)) rfl (wr64 (by omega) (by omega) (by omega))
            refine st_run tbOk 1 hA (e' := (8, .int .i64 ((k + 1 : Nat) : Int)) :: _) rfl ?_; clear hA; intro a hA
            refine wpList_nil ?_
            replace hA := hA.sel [0, 1, 7, 8] (e' := [(0, .slice (some ⟨b3, o4, none⟩) l.length c), (1, .func (.func g) first cap), (7, .int .i64 ((l.length : Nat) : Int)), (8, .int .i64 ((k + 1 : Nat) : Int))]) rfl
            exact lp_next _ (by omega) ⟨(k + 1), rfl, (hA.sel [0, 1, 7, 8] rfl), hS, by omega, fun i y hi hy => (Nat.lt_succ_iff_lt_or_eq.1 hi).elim (fun h => hb i y h hy) (fun h => by subst h; rw [hx5] at hy; injection hy with hy; subst hy; simpa using hpx)⟩))
  · first
    | (exfalso; omega)
    | (replace hA := hA.rw 9 (v' := .bool false) rfl (vb_false hc2)
       refine cd_cond_f hA rfl ?_
       refine wp_exit ?_
       refine xt_exit ?_
       refine xt_exit ?_
       refine cd_exit_eq ?_
       refine xt_norm ?_
       refine wp_seq ?_
       refine wp_region_lit ?_
       refine st_run tbOk 1 hA (e' := (4, .int .i64 (-1)) :: _) rfl ?_; clear hA; intro a hA
       refine wpList_nil ?_
       replace hA := hA.sel [4] (e' := [(4, .int .i64 (-1))]) rfl
       refine xt_norm ?_
       refine wp_ret ?_
       refine ret1 (fn := Tryd.f24) hA rfl rfl ?_
       exact ⟨vint (idx_none (fun i y hy => hb i y (by have := (List.getElem?_eq_some_iff.1 hy).1; omega) hy)).symm, hS⟩)

theorem deleteFunc18 {w0 w : World} {F : List Chunk} {C : Chunk} (hS : St w0 w (C :: F)) {v : Value} {l : List (Int × Int × Int × Int × Int × Option Addr × Nat × List UInt8)} (hO : Own 33 6 v l.length (rows encPacket l) C) {g : Nat} {first cap : Array Value} {p : (Int × Int × Int × Int × Int × Option Addr × Nat × List UInt8) → Bool} (hg : IsFn Tryd.prog g) (hp : Pred Tryd.prog w0 F g first cap (fun x => .agg (encPacket x).toArray) p) :
    Ret Tryd.prog 18 #[v, .func (.func g) first cap] w (fun v w' => ∃ C', Own 33 6 v (l.filter (fun x => !p x)).length (rows encPacket (l.filter (fun x => !p x))) C' ∧ St w0 w' (C' :: F)) := by
  obtain ⟨A, c, rfl, hmc, hcx⟩ := hO.open'
  refine enter (vs := [.slice A l.length c, .func (.func g) first cap]) 42 Tryd.func18 rfl rfl (by simp) ?_; intro a hA
  refine wp_seq ?_
  refine wp_region_lit ?_
  refine st_run tbOk 1 hA (e' := (4, .slice none 0 0) :: _) rfl ?_; clear hA; intro a hA
  refine wpList_nil ?_
  replace hA := hA.sel [0, 1] (e' := [(0, .slice A l.length c), (1, .func (.func g) first cap)]) rfl
  refine xt_norm ?_
  refine wp_seq ?_
  refine wp_region_lit ?_
  refine st_run tbOk 2 hA (e' := (9, .func (.func g) first cap) :: (8, .slice A l.length c) :: _) rfl ?_; clear hA; intro a hA
  refine st_call0 hA rfl rfl rfl isfn24 rfl rfl (by decide) (indexFunc24 hS (l := l) (RdS.own hO 0 rfl) hg hp.cons) ?_
  clear hA hS; rintro v w1 a ⟨rfl, hS⟩ hA
  refine st_run tbOk 1 hA (e' := (5, .int .i64 (idx p l)) :: _) rfl ?_; clear hA; intro a hA
  refine wpList_nil ?_
  replace hA := hA.sel [0, 1, 5] (e' := [(0, .slice A l.length c), (1, .func (.func g) first cap), (5, .int .i64 (idx p l))]) rfl
  refine xt_norm ?_
  refine wp_seq ?_
  refine wp_seq ?_
  rcases idx_cases p l with ⟨hi, hf⟩ | ⟨k, x0, hi, hx0, hpx0, hb⟩
  · replace hA := hA.rw 5 (v' := .int .i64 (-1)) rfl (by rw [hi])
    refine wp_region_lit ?_
    refine st_run tbOk 2 hA (e' := (12, .bool true) :: (11, .int .i64 (-1)) :: _) rfl ?_; clear hA; intro a hA
    refine wpList_nil ?_
    replace hA := hA.sel [0, 1, 5, 12] (e' := [(0, .slice A l.length c), (1, .func (.func g) first cap), (5, .int .i64 (-1)), (12, .bool true)]) rfl
    refine xt_norm ?_
    refine cd_cond_t hA rfl ?_
    refine wp_seq ?_
    refine wp_region_lit ?_
    refine st_run tbOk 2 hA (e' := (4, .slice A l.length c) :: (13, .slice A l.length c) :: _) rfl ?_; clear hA; intro a hA
    refine wpList_nil ?_
    replace hA := hA.sel [4] (e' := [(4, .slice A l.length c)]) rfl
    refine xt_norm ?_
    refine wp_ret (xt_ret ?_)
    refine ret1 (fn := Tryd.f18) hA rfl rfl ?_
    have hfl : l.filter (fun x => !p x) = l := List.filter_eq_self.2 (fun y hy => by obtain ⟨i, hi⟩ := List.mem_iff_getElem?.1 hy; simp [hf i y hi])
    exact ⟨C, by rw [hfl]; exact hO, hS⟩
  · replace hA := hA.rw 5 (v' := .int .i64 ((k : Nat) : Int)) rfl (by rw [hi])
    have hkl := (List.getElem?_eq_some_iff.1 hx0).1
    refine wp_region_lit ?_
    refine st_run tbOk 2 hA (e' := (12, .bool (((k : Nat) : Int) == (-1))) :: (11, .int .i64 ((k : Nat) : Int)) :: _) rfl ?_; clear hA; intro a hA
    refine wpList_nil ?_
    replace hA := hA.sel [0, 1, 5, 12] (e' := [(0, .slice A l.length c), (1, .func (.func g) first cap), (5, .int .i64 ((k : Nat) : Int)), (12, .bool (((k : Nat) : Int) == (-1)))]) rfl
    refine xt_norm ?_
    by_cases hc2 : ((k : Nat) : Int) = (-1)
    · first
      | (exfalso; omega)
      | (replace hA := hA.rw 12 (v' := .bool true) rfl (vb_eq_t hc2)
         refine cd_cond_t hA rfl ?_
         refine wp_seq ?_
         refine wp_region_lit ?_
         refine st_run tbOk 2 hA (e' := (4, .slice A l.length c) :: (13, .slice A l.length c) :: _) rfl ?_; clear hA; intro a hA
         refine wpList_nil ?_
         replace hA := hA.sel [4] (e' := [(4, .slice A l.length c)]) rfl
         refine xt_norm ?_
         refine wp_ret (xt_ret ?_)
         refine ret1 (fn := Tryd.f18) hA rfl rfl ?_
         have hfl : l.filter (fun x => !p x) = l := List.filter_eq_self.2 (fun y hy => by obtain ⟨i, hi⟩ := List.mem_iff_getElem?.1 hy; simp [hf i y hi])
         exact ⟨C, by rw [hfl]; exact hO, hS⟩)
    · first
      | (exfalso; omega)
      | (replace hA := hA.rw 12 (v' := .bool false) rfl (vb_eq_f hc2)
         refine cd_cond_f hA rfl ?_
         refine wp_skip ?_
         refine xt_norm ?_
         refine wp_seq ?_
         refine wp_seq ?_
         refine wp_region_lit ?_
         refine st_run tbOk 2 hA (e' := (15, .int .i64 (IntKind.i64.wrap (((k : Nat) : Int) + 1))) :: (14, .int .i64 ((k : Nat) : Int)) :: _) rfl ?_; clear hA; intro a hA
         replace hA := hA.rw 15 (v' := .int .i64 ((k + 1 : Nat) : Int)) rfl (wr64 (by omega) (by omega) (by omega))
         refine st_run tbOk 1 hA (e' := (6, .int .i64 ((k + 1 : Nat) : Int)) :: _) rfl ?_; clear hA; intro a hA
         refine wpList_nil ?_
         replace hA := hA.sel [0, 1, 5, 6] (e' := [(0, .slice A l.length c), (1, .func (.func g) first cap), (5, .int .i64 ((k : Nat) : Int)), (6, .int .i64 ((k + 1 : Nat) : Int))]) rfl
         refine xt_norm ?_
         refine wp_block ?_
         have hk1 : (kept p l (k + 1)).length = k := by rw [kept_step hx0, if_pos hpx0, kept_first hb, List.length_take]; omega
         replace hA := hA.rw 5 (v' := .int .i64 (((kept p l (k + 1)).length : Nat) : Int)) rfl (by rw [hk1])
         refine wp_loop_ghost (fun m a w => ∃ (j : Nat) (C : Chunk), m = l.length - j ∧ Has a 42 [(0, .slice A l.length c), (1, .func (.func g) first cap), (5, .int .i64 (((kept p l j).length : Nat) : Int)), (6, .int .i64 ((j : Nat) : Int))] ∧ St w0 w (C :: F) ∧ (k < j) ∧ (j ≤ l.length) ∧ (Own 33 6 (.slice A l.length c) l.length (rows encPacket (mid p l j)) C)) (l.length - (k + 1))
           ⟨(k + 1), C, rfl, (hA.sel [0, 1, 5, 6] rfl), hS, by omega, by omega, by rw [mid_no hx0 hpx0, mid_first (by omega) hb]; exact hO⟩ ?_
         clear hA hS; rintro m0 a w3 ⟨j, C, rfl, hA, hS, hj1, hj, hO⟩
         have hkj := kept_le p l j
         refine wp_seq ?_
         refine wp_seq ?_
         refine wp_region_lit ?_
         refine st_run tbOk 4 hA (e' := (19, .bool (decide (((j : Nat) : Int) < ((l.length : Nat) : Int)))) :: (18, .int .i64 ((l.length : Nat) : Int)) :: (17, .slice A l.length c) :: (16, .int .i64 ((j : Nat) : Int)) :: _) rfl ?_; clear hA; intro a hA
         refine wpList_nil ?_
         replace hA := hA.sel [0, 1, 5, 6, 19] (e' := [(0, .slice A l.length c), (1, .func (.func g) first cap), (5, .int .i64 (((kept p l j).length : Nat) : Int)), (6, .int .i64 ((j : Nat) : Int)), (19, .bool (decide (((j : Nat) : Int) < ((l.length : Nat) : Int))))]) rfl
         refine xt_norm ?_
         by_cases hc4 : ((j : Nat) : Int) < ((l.length : Nat) : Int)
         · first
           | (exfalso; omega)
           | (replace hA := hA.rw 19 (v' := .bool true) rfl (vb_true hc4)
              refine cd_cond_t hA rfl ?_
              refine wp_skip ?_
              refine xt_norm ?_
              refine wp_seq ?_
              refine wp_block ?_
              refine wp_seq ?_
              refine wp_region_lit ?_
              refine st_run tbOk 2 hA (e' := (23, .int .i64 ((j : Nat) : Int)) :: (22, .slice A l.length c) :: _) rfl ?_; clear hA; intro a hA
              obtain ⟨b5, o6, rfl⟩ := hO.isSome (k := j) (by omega)
              refine st_val hA rfl rfl (by decide) (rn_indexAddr tbOk hA j (o6 + (j * 6)) rfl rfl rfl rfl rfl rfl (by rfl) (by omega) (by first | rfl | simp [Nat.mul_one, Nat.zero_add] | omega)) ?_; clear hA; intro a hA
              obtain ⟨x7, hx7⟩ := get_ex (l := l) (k := j) (by omega)
              have gx7 := (mid_at (p := p) (l := l) (Nat.le_refl j)).trans hx7
              refine st_val hA rfl rfl (by decide) (rn_loadA tbOk hA ([.int .i64 x7.1, .int .i64 x7.2.1, .int .u64 x7.2.2.1, .int .i64 x7.2.2.2.1, .int .i64 x7.2.2.2.2.1, .slice x7.2.2.2.2.2.1 x7.2.2.2.2.2.2.2.length x7.2.2.2.2.2.2.1]) rfl rfl rfl rfl (by rfl) ((hO.rd (hS.own_ 0 rfl)).elem (k := j) encPacket_ok gx7)) ?_; clear hA; intro a hA
              refine st_alloc tbOk hA hS [.int .i64 0, .int .i64 0, .int .u64 0, .int .i64 0, .int .i64 0, .slice none 0 0] rfl rfl rfl rfl rfl (by decide) ?_; clear hA hS; intro b8 w9 a hS hA
              refine st_store tbOk hA hS [.int .i64 x7.1, .int .i64 x7.2.1, .int .u64 x7.2.2.1, .int .i64 x7.2.2.2.1, .int .i64 x7.2.2.2.2.1, .slice x7.2.2.2.2.2.1 x7.2.2.2.2.2.2.2.length x7.2.2.2.2.2.2.1] [.int .i64 x7.1, .int .i64 x7.2.1, .int .u64 x7.2.2.1, .int .i64 x7.2.2.2.1, .int .i64 x7.2.2.2.2.1, .slice x7.2.2.2.2.2.1 x7.2.2.2.2.2.2.2.length x7.2.2.2.2.2.2.1] rfl rfl rfl rfl rfl rfl (by simp [Value.oneCell']) (Nat.le_of_ble_eq_true rfl) rfl rfl rfl ?_; clear hS; intro w10 hS
              refine wpList_nil ?_
              replace hA := hA.sel [0, 1, 5, 6, 7] (e' := [(0, .slice (some ⟨b5, o6, none⟩) l.length c), (1, .func (.func g) first cap), (5, .int .i64 (((kept p l j).length : Nat) : Int)), (6, .int .i64 ((j : Nat) : Int)), (7, .pointer (some ⟨b8, 0, none⟩))]) rfl
              refine xt_norm ?_
              refine wp_seq ?_
              refine wp_region_lit ?_
              refine st_run tbOk 1 hA (e' := (26, .func (.func g) first cap) :: _) rfl ?_; clear hA; intro a hA
              refine st_val hA rfl rfl (by decide) (rn_loadA tbOk hA [.int .i64 x7.1, .int .i64 x7.2.1, .int .u64 x7.2.2.1, .int .i64 x7.2.2.2.1, .int .i64 x7.2.2.2.2.1, .slice x7.2.2.2.2.2.1 x7.2.2.2.2.2.2.2.length x7.2.2.2.2.2.2.1] rfl rfl rfl rfl rfl (cells_row (hS.heapAt 0 rfl) rfl)) ?_; clear hA; intro a hA
              refine st_call hA rfl rfl rfl rfl hg rfl rfl (by decide) (hp _ x7 (hS.tail 2 rfl)) ?_
              clear hA; rintro v w11 a ⟨rfl, hS'⟩ hA; replace hS : St w0 w11 ([(b8, rowO [.int .i64 x7.1, .int .i64 x7.2.1, .int .u64 x7.2.2.1, .int .i64 x7.2.2.2.1, .int .i64 x7.2.2.2.2.1, .slice x7.2.2.2.2.2.1 x7.2.2.2.2.2.2.2.length x7.2.2.2.2.2.2.1] 33)] :: C :: F) := hS.trans hS'
              by_cases hpx : (p x7) = true
              · first
                | (exfalso; omega)
                | (replace hA := hA.rw 28 (v' := .bool true) rfl (vb_t hpx)
                   refine st_run tbOk 1 hA (e' := (29, .bool false) :: _) rfl ?_; clear hA; intro a hA
                   refine wpList_nil ?_
                   replace hA := hA.sel [0, 1, 5, 6, 7, 29] (e' := [(0, .slice (some ⟨b5, o6, none⟩) l.length c), (1, .func (.func g) first cap), (5, .int .i64 (((kept p l j).length : Nat) : Int)), (6, .int .i64 ((j : Nat) : Int)), (7, .pointer (some ⟨b8, 0, none⟩)), (29, .bool false)]) rfl
                   refine xt_norm ?_
                   refine cd_cond_f hA rfl ?_
                   refine wp_skip ?_
                   refine xb_norm ?_
                   refine xt_norm ?_
                   refine wp_region_lit ?_
                   refine st_run tbOk 2 hA (e' := (21, .int .i64 (IntKind.i64.wrap (((j : Nat) : Int) + 1))) :: (20, .int .i64 ((j : Nat) : Int)) :: _) rfl ?_; clear hA; intro a hA
                   replace hA := hA.rw 21 (v' := .int .i64 ((j + 1 : Nat) : Int)) rfl (wr64 (by omega) (by omega) (by omega))
                   refine st_run tbOk 1 hA (e' := (6, .int .i64 ((j + 1 : Nat) : Int)) :: _) rfl ?_; clear hA; intro a hA
                   refine wpList_nil ?_
                   replace hA := hA.sel [0, 1, 5, 6] (e' := [(0, .slice (some ⟨b5, o6, none⟩) l.length c), (1, .func (.func g) first cap), (5, .int .i64 (((kept p l j).length : Nat) : Int)), (6, .int .i64 ((j + 1 : Nat) : Int))]) rfl
                   have h2 : (kept p l (j + 1)).length = (kept p l j).length := by rw [kept_step hx7, if_pos (by simpa using hpx)]
                   have h3 : Own 33 6 (.slice (some ⟨b5, o6, none⟩) l.length c) l.length (rows encPacket (mid p l (j + 1))) C := by rw [mid_no hx7 (by simpa using hpx)]; exact hO
                   replace hA := hA.rw 5 (v' := .int .i64 (((kept p l (j + 1)).length : Nat) : Int)) rfl (by rw [h2])
                   replace hS := hS.drop1
                   exact lp_next _ (by omega) ⟨(j + 1), C, rfl, (hA.sel [0, 1, 5, 6] rfl), hS, by omega, by omega, h3⟩)
              · first
                | (exfalso; omega)
                | (replace hA := hA.rw 28 (v' := .bool false) rfl (vb_f hpx)
                   refine st_run tbOk 1 hA (e' := (29, .bool true) :: _) rfl ?_; clear hA; intro a hA
                   refine wpList_nil ?_
                   replace hA := hA.sel [0, 1, 5, 6, 7, 29] (e' := [(0, .slice (some ⟨b5, o6, none⟩) l.length c), (1, .func (.func g) first cap), (5, .int .i64 (((kept p l j).length : Nat) : Int)), (6, .int .i64 ((j : Nat) : Int)), (7, .pointer (some ⟨b8, 0, none⟩)), (29, .bool true)]) rfl
                   refine xt_norm ?_
                   refine cd_cond_t hA rfl ?_
                   refine wp_seq ?_
                   refine wp_region_lit ?_
                   refine st_run tbOk 2 hA (e' := (31, .int .i64 (((kept p l j).length : Nat) : Int)) :: (30, .slice (some ⟨b5, o6, none⟩) l.length c) :: _) rfl ?_; clear hA; intro a hA
                   refine st_val hA rfl rfl (by decide) (rn_loadA tbOk hA [.int .i64 x7.1, .int .i64 x7.2.1, .int .u64 x7.2.2.1, .int .i64 x7.2.2.2.1, .int .i64 x7.2.2.2.2.1, .slice x7.2.2.2.2.2.1 x7.2.2.2.2.2.2.2.length x7.2.2.2.2.2.2.1] rfl rfl rfl rfl rfl (cells_row (hS.heapAt 0 rfl) rfl)) ?_; clear hA; intro a hA
                   refine st_val hA rfl rfl (by decide) (rn_indexAddr tbOk hA ((kept p l j).length) (o6 + (((kept p l j).length) * 6)) rfl rfl rfl rfl rfl rfl (by rfl) (by omega) (by first | rfl | simp [Nat.mul_one, Nat.zero_add] | omega)) ?_; clear hA; intro a hA
                   replace hS := hS.front 1 (C := C) (L' := [(b8, rowO [.int .i64 x7.1, .int .i64 x7.2.1, .int .u64 x7.2.2.1, .int .i64 x7.2.2.2.1, .int .i64 x7.2.2.2.2.1, .slice x7.2.2.2.2.2.1 x7.2.2.2.2.2.2.2.length x7.2.2.2.2.2.2.1] 33)] :: F) rfl rfl
                   refine st_store_own tbOk hA hO hS ((((kept p l j).length) * 6)) (o6 + (((kept p l j).length) * 6)) [.int .i64 x7.1, .int .i64 x7.2.1, .int .u64 x7.2.2.1, .int .i64 x7.2.2.2.1, .int .i64 x7.2.2.2.2.1, .slice x7.2.2.2.2.2.1 x7.2.2.2.2.2.2.2.length x7.2.2.2.2.2.2.1] (rows encPacket ((mid p l j).set (kept p l j).length x7)) rfl rfl rfl rfl (by rfl) rfl rfl (by exact encPacket_ok.one x7) (by rw [rows_length encPacket_ok, mid_length]; have := kept_le p l j; have := Nat.mul_le_mul_right 6 (show (kept p l j).length + 1 ≤ l.length by omega); simp only [List.length_cons, List.length_nil]; omega) ((congrArg _ rfl).trans (rows_set encPacket_ok (by rw [mid_length]; have := kept_le p l j; omega))) rfl rfl ?_; clear hS; intro w12 C13 hO13 hS
                   refine wpList_nil ?_
                   replace hA := hA.sel [0, 1, 5, 6] (e' := [(0, .slice (some ⟨b5, o6, none⟩) l.length c), (1, .func (.func g) first cap), (5, .int .i64 (((kept p l j).length : Nat) : Int)), (6, .int .i64 ((j : Nat) : Int))]) rfl
                   refine xt_norm ?_
                   refine wp_region_lit ?_
                   refine st_run tbOk 2 hA (e' := (35, .int .i64 (IntKind.i64.wrap ((((kept p l j).length : Nat) : Int) + 1))) :: (34, .int .i64 (((kept p l j).length : Nat) : Int)) :: _) rfl ?_; clear hA; intro a hA
                   replace hA := hA.rw 35 (v' := .int .i64 ((((kept p l j).length) + 1 : Nat) : Int)) rfl (wr64 (by omega) (by omega) (by omega))
                   refine st_run tbOk 1 hA (e' := (5, .int .i64 ((((kept p l j).length) + 1 : Nat) : Int)) :: _) rfl ?_; clear hA; intro a hA
                   refine wpList_nil ?_
                   replace hA := hA.sel [0, 1, 5, 6] (e' := [(0, .slice (some ⟨b5, o6, none⟩) l.length c), (1, .func (.func g) first cap), (5, .int .i64 ((((kept p l j).length) + 1 : Nat) : Int)), (6, .int .i64 ((j : Nat) : Int))]) rfl
                   refine xb_norm ?_
                   refine xt_norm ?_
                   refine wp_region_lit ?_
                   refine st_run tbOk 2 hA (e' := (21, .int .i64 (IntKind.i64.wrap (((j : Nat) : Int) + 1))) :: (20, .int .i64 ((j : Nat) : Int)) :: _) rfl ?_; clear hA; intro a hA
                   replace hA := hA.rw 21 (v' := .int .i64 ((j + 1 : Nat) : Int)) rfl (wr64 (by omega) (by omega) (by omega))
                   refine st_run tbOk 1 hA (e' := (6, .int .i64 ((j + 1 : Nat) : Int)) :: _) rfl ?_; clear hA; intro a hA
                   refine wpList_nil ?_
                   replace hA := hA.sel [0, 1, 5, 6] (e' := [(0, .slice (some ⟨b5, o6, none⟩) l.length c), (1, .func (.func g) first cap), (5, .int .i64 ((((kept p l j).length) + 1 : Nat) : Int)), (6, .int .i64 ((j + 1 : Nat) : Int))]) rfl
                   have h2 : (kept p l (j + 1)).length = (kept p l j).length + 1 := by rw [kept_step hx7, if_neg (by simpa using hpx), List.length_append]; rfl
                   have h3 : Own 33 6 (.slice (some ⟨b5, o6, none⟩) l.length c) l.length (rows encPacket (mid p l (j + 1))) C13 := by rw [mid_yes hx7 (by simpa using hpx)]; exact hO13
                   replace hA := hA.rw 5 (v' := .int .i64 (((kept p l (j + 1)).length : Nat) : Int)) rfl (by rw [h2])
                   replace hS := hS.front 1 (C := [(b8, rowO [.int .i64 x7.1, .int .i64 x7.2.1, .int .u64 x7.2.2.1, .int .i64 x7.2.2.2.1, .int .i64 x7.2.2.2.2.1, .slice x7.2.2.2.2.2.1 x7.2.2.2.2.2.2.2.length x7.2.2.2.2.2.2.1] 33)]) (L' := C13 :: F) rfl rfl
                   replace hS := hS.drop1
                   exact lp_next _ (by omega) ⟨(j + 1), C13, rfl, (hA.sel [0, 1, 5, 6] rfl), hS, by omega, by omega, h3⟩))
         · first
           | (exfalso; omega)
           | (replace hA := hA.rw 19 (v' := .bool false) rfl (vb_false hc4)
              refine cd_cond_f hA rfl ?_
              refine wp_exit ?_
              refine xt_exit ?_
              refine xt_exit ?_
              refine cd_exit_eq ?_
              refine xt_norm ?_
              refine wp_seq ?_
              refine wp_region_lit ?_
              refine st_run tbOk 2 hA (e' := (37, .int .i64 (((kept p l j).length : Nat) : Int)) :: (36, .slice A l.length c) :: _) rfl ?_; clear hA; intro a hA
              refine st_val hA rfl rfl (by decide) (rn_slice_l tbOk hA ((kept p l j).length) rfl rfl rfl rfl rfl rfl (by rfl) (by omega)) ?_; clear hA; intro a hA
              refine st_clear tbOk hA (h := (kept p l j).length) (old := l.length) (c := c) rfl rfl rfl rfl rfl rfl (fun u hu => List.all_eq_true.1 (by rfl) u hu) (hO.head (kept p l j).length (by omega)) hS (by omega) (by omega) rfl rfl ?_; clear hS; intro w14 C15 hO15 hS
              obtain rfl : j = l.length := by omega
              rw [rows_take encPacket_ok, mid_head, kept_all] at hO15
              have e1 : (kept p l l.length).length = (l.filter (fun x => !p x)).length := by rw [kept_all]
              refine wpList_nil ?_
              replace hA := hA.sel [0, 5] (e' := [(0, .slice A l.length c), (5, .int .i64 (((kept p l l.length).length : Nat) : Int))]) rfl
              refine xt_norm ?_
              refine wp_seq ?_
              refine wp_region_lit ?_
              refine st_run tbOk 2 hA (e' := (40, .int .i64 (((kept p l l.length).length : Nat) : Int)) :: (39, .slice A l.length c) :: _) rfl ?_; clear hA; intro a hA
              refine st_val hA rfl rfl (by decide) (rn_slice_h tbOk hA ((kept p l l.length).length) rfl rfl rfl rfl rfl rfl (by rfl) (by omega)) ?_; clear hA; intro a hA
              refine st_run tbOk 1 hA (e' := (4, .slice A ((kept p l l.length).length) c) :: _) rfl ?_; clear hA; intro a hA
              refine wpList_nil ?_
              replace hA := hA.sel [4] (e' := [(4, .slice A ((kept p l l.length).length) c)]) rfl
              refine xt_norm ?_
              refine wp_ret ?_
              refine ret1 (fn := Tryd.f18) hA rfl rfl ?_
              exact ⟨_, (e1 ▸ hO15), hS⟩))

theorem cutc19 {w0 w : World} {F : List Chunk} (hS : St w0 w F) {bx : Nat} {nd : Int} (hc : ∀ w', St w0 w' F → w'.cell? ⟨bx, 0, none⟩ = some (.int .i64 nd)) (x : Pkt) :
    Ret Tryd.prog 19 #[.agg (encPacket x).toArray, .pointer (some ⟨bx, 0, none⟩)] w (fun v w' => v = .bool (onn nd x) ∧ St w0 w' F) := by
  refine enter (vs := [.agg #[.int .i64 x.1, .int .i64 x.2.1, .int .u64 x.2.2.1, .int .i64 x.2.2.2.1, .int .i64 x.2.2.2.2.1, .slice x.2.2.2.2.2.1 x.2.2.2.2.2.2.2.length x.2.2.2.2.2.2.1], .pointer (some ⟨bx, 0, none⟩)]) 14 Tryd.func19 rfl rfl (by simp) ?_; intro a hA
  refine wp_seq ?_
  refine wp_region_lit ?_
  refine st_box hA hS [.int .i64 x.1, .int .i64 x.2.1, .int .u64 x.2.2.1, .int .i64 x.2.2.2.1, .int .i64 x.2.2.2.2.1, .slice x.2.2.2.2.2.1 x.2.2.2.2.2.2.2.length x.2.2.2.2.2.2.1] rfl rfl rfl rfl rfl (by decide) ?_; clear hA hS; intro b1 w2 a hS hA
  refine st_run tbOk 1 hA (e' := (3, .bool false) :: _) rfl ?_; clear hA; intro a hA
  refine wpList_nil ?_
  replace hA := hA.sel [1, 2] (e' := [(1, .pointer (some ⟨bx, 0, none⟩)), (2, .pointer (some ⟨b1, 0, none⟩))]) rfl
  refine xt_norm ?_
  refine wp_seq ?_
  refine wp_region_lit ?_
  refine st_run tbOk 1 hA (e' := (4, .pointer (some ⟨b1, 0, none⟩)) :: _) rfl ?_; clear hA; intro a hA
  refine st_val hA rfl rfl (by decide) (rn_load tbOk hA rfl rfl rfl rfl (cell_row (hS.heapAt 0 rfl) rfl)) ?_; clear hA; intro a hA
  refine st_val hA rfl rfl (by decide) (rn_load tbOk hA rfl rfl rfl rfl (hc _ (hS.tail 1 rfl))) ?_; clear hA; intro a hA
  refine st_run tbOk 2 hA (e' := (8, .bool (x.1 == nd)) :: (7, .bool (x.1 == nd)) :: _) rfl ?_; clear hA; intro a hA
  by_cases hc3 : x.1 = nd
  · replace hA := hA.rw 7 (v' := .bool true) rfl (vb_eq_t hc3)
    replace hA := hA.rw 8 (v' := .bool true) rfl (vb_eq_t hc3)
    refine st_run tbOk 6 hA (e' := (3, .bool true) :: (13, .bool true) :: (12, undef) :: (11, undef) :: (10, undef) :: (9, undef) :: _) rfl ?_; clear hA; intro a hA
    refine wpList_nil ?_
    replace hA := hA.sel [3] (e' := [(3, .bool true)]) rfl
    refine xt_norm ?_
    refine wp_ret ?_
    refine ret1 (fn := Tryd.f19) hA rfl rfl ?_
    replace hS := hS.drop1
    exact ⟨congrArg Value.bool (onn_t1 (by assumption)).symm, hS⟩
  · replace hA := hA.rw 7 (v' := .bool false) rfl (vb_eq_f hc3)
    replace hA := hA.rw 8 (v' := .bool false) rfl (vb_eq_f hc3)
    refine st_run tbOk 1 hA (e' := (9, .pointer (some ⟨b1, 1, none⟩)) :: _) rfl ?_; clear hA; intro a hA
    refine st_val hA rfl rfl (by decide) (rn_load tbOk hA rfl rfl rfl rfl (cell_row (hS.heapAt 0 rfl) rfl)) ?_; clear hA; intro a hA
    refine st_val hA rfl rfl (by decide) (rn_load tbOk hA rfl rfl rfl rfl (hc _ (hS.tail 1 rfl))) ?_; clear hA; intro a hA
    refine st_run tbOk 3 hA (e' := (3, .bool (x.2.1 == nd)) :: (13, .bool (x.2.1 == nd)) :: (12, .bool (x.2.1 == nd)) :: _) rfl ?_; clear hA; intro a hA
    refine wpList_nil ?_
    replace hA := hA.sel [3] (e' := [(3, .bool (x.2.1 == nd))]) rfl
    refine xt_norm ?_
    refine wp_ret ?_
    refine ret1 (fn := Tryd.f19) hA rfl rfl ?_
    replace hS := hS.drop1
    refine ⟨congrArg Value.bool ?_, hS⟩; rw [onn, (beq_eq_false_iff_ne.2 (by assumption) : (x.1 == nd) = false), Bool.false_or]

theorem cutcP {w0 : World} {F : List Chunk} {bx : Nat} {nd : Int} (hc : ∀ w', St w0 w' F → w'.cell? ⟨bx, 0, none⟩ = some (.int .i64 nd)) : Pred Tryd.prog w0 F 19 #[] #[.pointer (some ⟨bx, 0, none⟩)] (fun x => .agg (encPacket x).toArray) (fun x => onn nd x) := by
  intro w x hS
  exact cutc19 (St.refl w) (fun w' h => h.old (hc w hS)) x

theorem lose_ok8 {w0 w : World} {F : List Chunk} {L D : Chunk} {b : Nat} {ps : List Pkt} (hS : St w0 w (L :: D :: F)) (hM : WR b ps L) (p : Int) (h0 : 0 < ps.length) (hn : ps.length ≤ 1048576) :
    Ret Tryd.prog 8 #[.pointer (some ⟨b, 0, none⟩), .int .i64 p] w (fun v w' => ∃ (k : Nat) (x : Pkt), k < ps.length ∧ (k : Int) = p % (ps.length : Int) ∧ ps[k]? = some x ∧ ∃ L', WR b (ps.take k ++ ps.drop (k + 1)) L' ∧ v = .bool true ∧ St w0 w' (L' :: D :: F)) := by
  refine enter (vs := [.pointer (some ⟨b, 0, none⟩), .int .i64 p]) 14 Tryd.func8 rfl rfl (by simp) ?_; intro a hA
  refine wp_seq ?_
  refine wp_region_lit ?_
  refine st_run tbOk 1 hA (e' := (4, .bool false) :: _) rfl ?_; clear hA; intro a hA
  refine wpList_nil ?_
  replace hA := hA.sel [0, 1] (e' := [(0, .pointer (some ⟨b, 0, none⟩)), (1, .int .i64 p)]) rfl
  refine xt_norm ?_
  refine wp_seq ?_
  refine wp_region_lit ?_
  refine st_run tbOk 2 hA (e' := (9, .int .i64 p) :: (8, .pointer (some ⟨b, 0, none⟩)) :: _) rfl ?_; clear hA; intro a hA
  replace hS := hS.front 1 (C := D) (L' := L :: F) rfl rfl
  replace hS := hS.front 1 (C := L) (L' := D :: F) rfl rfl
  refine st_call0 hA rfl rfl rfl isfn7 rfl rfl (by decide) (arrive_ok7 hS hM p h0 hn) ?_
  clear hA hS; rintro _ w1 a ⟨q4, ⟨q4x0, q4x1, q4x2, q4x3, q4x4, q4A, q4c, q4b⟩, hq4, hpq4, hxq4, L2, hM3, rfl, hS⟩ hA
  refine st_run tbOk 3 hA (e' := (12, .bool true) :: (11, .agg #[.int .i64 q4x0, .int .i64 q4x1, .int .u64 q4x2, .int .i64 q4x3, .int .i64 q4x4, .slice q4A q4b.length q4c]) :: (7, .tuple #[.agg #[.int .i64 q4x0, .int .i64 q4x1, .int .u64 q4x2, .int .i64 q4x3, .int .i64 q4x4, .slice q4A q4b.length q4c], .bool true]) :: _) rfl ?_; clear hA; intro a hA
  refine st_alloc tbOk hA hS [.int .i64 0, .int .i64 0, .int .u64 0, .int .i64 0, .int .i64 0, .slice none 0 0] rfl rfl rfl rfl rfl (by decide) ?_; clear hA hS; intro b5 w6 a hS hA
  refine st_store tbOk hA hS [.int .i64 q4x0, .int .i64 q4x1, .int .u64 q4x2, .int .i64 q4x3, .int .i64 q4x4, .slice q4A q4b.length q4c] [.int .i64 q4x0, .int .i64 q4x1, .int .u64 q4x2, .int .i64 q4x3, .int .i64 q4x4, .slice q4A q4b.length q4c] rfl rfl rfl rfl rfl rfl (by simp [Value.oneCell']) (Nat.le_of_ble_eq_true rfl) rfl rfl rfl ?_; clear hS; intro w7 hS
  refine st_run tbOk 1 hA (e' := (6, .bool true) :: _) rfl ?_; clear hA; intro a hA
  refine wpList_nil ?_
  replace hA := hA.sel [6] (e' := [(6, .bool true)]) rfl
  refine xt_norm ?_
  refine wp_seq ?_
  refine wp_region_lit ?_
  refine st_run tbOk 2 hA (e' := (4, .bool true) :: (13, .bool true) :: _) rfl ?_; clear hA; intro a hA
  refine wpList_nil ?_
  replace hA := hA.sel [4] (e' := [(4, .bool true)]) rfl
  refine xt_norm ?_
  refine wp_ret ?_
  refine ret1 (fn := Tryd.f8) hA rfl rfl ?_
  replace hS := hS.drop1
  replace hS := hS.front 1 (C := D) (L' := L2 :: F) rfl rfl
  replace hS := hS.front 1 (C := L2) (L' := D :: F) rfl rfl
  exact ⟨q4, (q4x0, q4x1, q4x2, q4x3, q4x4, q4A, q4c, q4b), hq4, hpq4, hxq4, _, hM3, rfl, hS⟩

theorem lose_none8 {w0 w : World} {F : List Chunk} {L D : Chunk} {b : Nat} {ps : List Pkt} (hS : St w0 w (L :: D :: F)) (hM : WR b ps L) (p : Int) (h0 : ps.length = 0) :
    Ret Tryd.prog 8 #[.pointer (some ⟨b, 0, none⟩), .int .i64 p] w (fun v w' => ∃ L', WR b ps L' ∧ v = .bool false ∧ St w0 w' (L' :: D :: F)) := by
  refine enter (vs := [.pointer (some ⟨b, 0, none⟩), .int .i64 p]) 14 Tryd.func8 rfl rfl (by simp) ?_; intro a hA
  refine wp_seq ?_
  refine wp_region_lit ?_
  refine st_run tbOk 1 hA (e' := (4, .bool false) :: _) rfl ?_; clear hA; intro a hA
  refine wpList_nil ?_
  replace hA := hA.sel [0, 1] (e' := [(0, .pointer (some ⟨b, 0, none⟩)), (1, .int .i64 p)]) rfl
  refine xt_norm ?_
  refine wp_seq ?_
  refine wp_region_lit ?_
  refine st_run tbOk 2 hA (e' := (9, .int .i64 p) :: (8, .pointer (some ⟨b, 0, none⟩)) :: _) rfl ?_; clear hA; intro a hA
  replace hS := hS.front 1 (C := D) (L' := L :: F) rfl rfl
  replace hS := hS.front 1 (C := L) (L' := D :: F) rfl rfl
  refine st_call0 hA rfl rfl rfl isfn7 rfl rfl (by decide) (arrive_none7 hS hM p h0) ?_
  clear hA hS; rintro _ w1 a ⟨L2, hM3, rfl, hS⟩ hA
  refine st_run tbOk 3 hA (e' := (12, .bool false) :: (11, .agg #[.int .i64 0, .int .i64 0, .int .u64 0, .int .i64 0, .int .i64 0, .slice none 0 0]) :: (7, .tuple #[.agg #[.int .i64 0, .int .i64 0, .int .u64 0, .int .i64 0, .int .i64 0, .slice none 0 0], .bool false]) :: _) rfl ?_; clear hA; intro a hA
  refine st_alloc tbOk hA hS [.int .i64 0, .int .i64 0, .int .u64 0, .int .i64 0, .int .i64 0, .slice none 0 0] rfl rfl rfl rfl rfl (by decide) ?_; clear hA hS; intro b4 w5 a hS hA
  refine st_store tbOk hA hS [.int .i64 0, .int .i64 0, .int .u64 0, .int .i64 0, .int .i64 0, .slice none 0 0] [.int .i64 0, .int .i64 0, .int .u64 0, .int .i64 0, .int .i64 0, .slice none 0 0] rfl rfl rfl rfl rfl rfl (by simp [Value.oneCell']) (Nat.le_of_ble_eq_true rfl) rfl rfl rfl ?_; clear hS; intro w6 hS
  refine st_run tbOk 1 hA (e' := (6, .bool false) :: _) rfl ?_; clear hA; intro a hA
  refine wpList_nil ?_
  replace hA := hA.sel [6] (e' := [(6, .bool false)]) rfl
  refine xt_norm ?_
  refine wp_seq ?_
  refine wp_region_lit ?_
  refine st_run tbOk 2 hA (e' := (4, .bool false) :: (13, .bool false) :: _) rfl ?_; clear hA; intro a hA
  refine wpList_nil ?_
  replace hA := hA.sel [4] (e' := [(4, .bool false)]) rfl
  refine xt_norm ?_
  refine wp_ret ?_
  refine ret1 (fn := Tryd.f8) hA rfl rfl ?_
  replace hS := hS.drop1
  replace hS := hS.front 1 (C := D) (L' := L2 :: F) rfl rfl
  replace hS := hS.front 1 (C := L2) (L' := D :: F) rfl rfl
  exact ⟨_, hM3, rfl, hS⟩

theorem wcut12 {w0 w : World} {F : List Chunk} {L D : Chunk} {b : Nat} {ps : List Pkt} (hS : St w0 w (L :: D :: F)) (hM : WR b ps L) (nd : Int) (hn : ps.length ≤ 1048576) :
    Ret Tryd.prog 12 #[.pointer (some ⟨b, 0, none⟩), .int .i64 nd] w (fun v w' => ∃ L', WR b (cutl nd ps) L' ∧ v = .int .i64 (((ps.length : Nat) : Int) - (((cutl nd ps).length : Nat) : Int)) ∧ St w0 w' (L' :: D :: F)) := by
  obtain ⟨v, C, hO, rfl⟩ := hM
  obtain ⟨A, c, rfl, hmc, hcx⟩ := hO.open'
  replace hS : St w0 w ([(b, rowO [.slice A ps.length c] 27)] :: C :: D :: F) := hS.split
  refine enter (vs := [.pointer (some ⟨b, 0, none⟩), .int .i64 nd]) 27 Tryd.func12 rfl rfl (by simp) ?_; intro a hA
  refine wp_seq ?_
  refine wp_region_lit ?_
  refine st_box hA hS [.int .i64 nd] rfl rfl rfl rfl rfl (by decide) ?_; clear hA hS; intro b1 w2 a hS hA
  refine st_run tbOk 1 hA (e' := (4, .int .i64 0) :: _) rfl ?_; clear hA; intro a hA
  refine wpList_nil ?_
  replace hA := hA.sel [0, 3] (e' := [(0, .pointer (some ⟨b, 0, none⟩)), (3, .pointer (some ⟨b1, 0, none⟩))]) rfl
  refine xt_norm ?_
  refine wp_seq ?_
  refine wp_region_lit ?_
  refine st_run tbOk 3 hA (e' := (8, .pointer (some ⟨b, 0, none⟩)) :: (7, .pointer (some ⟨b, 0, none⟩)) :: (6, .pointer (some ⟨b, 0, none⟩)) :: _) rfl ?_; clear hA; intro a hA
  refine st_val hA rfl rfl (by decide) (rn_load tbOk hA rfl rfl rfl rfl (cell_row (hS.heapAt 1 rfl) rfl)) ?_; clear hA; intro a hA
  refine st_run tbOk 2 hA (e' := (5, .int .i64 ((ps.length : Nat) : Int)) :: (10, .int .i64 ((ps.length : Nat) : Int)) :: _) rfl ?_; clear hA; intro a hA
  refine wpList_nil ?_
  replace hA := hA.sel [0, 3, 5] (e' := [(0, .pointer (some ⟨b, 0, none⟩)), (3, .pointer (some ⟨b1, 0, none⟩)), (5, .int .i64 ((ps.length : Nat) : Int))]) rfl
  refine xt_norm ?_
  refine wp_seq ?_
  refine wp_region_lit ?_
  refine st_run tbOk 4 hA (e' := (14, .pointer (some ⟨b, 0, none⟩)) :: (13, .pointer (some ⟨b, 0, none⟩)) :: (12, .pointer (some ⟨b, 0, none⟩)) :: (11, .pointer (some ⟨b, 0, none⟩)) :: _) rfl ?_; clear hA; intro a hA
  refine st_val hA rfl rfl (by decide) (rn_load tbOk hA rfl rfl rfl rfl (cell_row (hS.heapAt 1 rfl) rfl)) ?_; clear hA; intro a hA
  refine st_run tbOk 1 hA (e' := (16, .func (.func 19) #[] #[.pointer (some ⟨b1, 0, none⟩)]) :: _) rfl ?_; clear hA; intro a hA
  replace hS := hS.front 2 (C := C) (L' := [(b1, rowO [.int .i64 nd] 3)] :: [(b, rowO [.slice A ps.length c] 27)] :: D :: F) rfl rfl
  refine st_call0 hA rfl rfl rfl isfn18 rfl rfl (by decide) (deleteFunc18 hS (l := ps) hO isfn19 (cutcP (bx := b1) (fun w' h => cell_row (h.heapAt 0 rfl) rfl))) ?_
  clear hA hS; rintro v3 w4 a ⟨C5, hO5, hS⟩ hA
  obtain ⟨A6, c7, rfl, hmc7, hxc7⟩ := hO5.open'
  refine st_run tbOk 2 hA (e' := (19, .pointer (some ⟨b, 0, none⟩)) :: (18, .pointer (some ⟨b, 0, none⟩)) :: _) rfl ?_; clear hA; intro a hA
  replace hS := hS.front 2 (C := [(b, rowO [.slice A ps.length c] 27)]) (L' := C5 :: [(b1, rowO [.int .i64 nd] 3)] :: D :: F) rfl rfl
  refine st_store tbOk hA hS [.slice A6 ((cutl nd ps).length) c7] [.slice A6 ((cutl nd ps).length) c7] rfl rfl rfl rfl rfl rfl (by intro u hu; rw [List.mem_singleton.1 hu]; rfl) (Nat.le_of_ble_eq_true rfl) rfl rfl rfl ?_; clear hS; intro w8 hS
  refine wpList_nil ?_
  replace hA := hA.sel [0, 5] (e' := [(0, .pointer (some ⟨b, 0, none⟩)), (5, .int .i64 ((ps.length : Nat) : Int))]) rfl
  refine xt_norm ?_
  refine wp_seq ?_
  refine wp_region_lit ?_
  have hcl : (cutl nd ps).length ≤ ps.length := List.length_filter_le _ _
  refine st_run tbOk 4 hA (e' := (23, .pointer (some ⟨b, 0, none⟩)) :: (22, .pointer (some ⟨b, 0, none⟩)) :: (21, .pointer (some ⟨b, 0, none⟩)) :: (20, .int .i64 ((ps.length : Nat) : Int)) :: _) rfl ?_; clear hA; intro a hA
  refine st_val hA rfl rfl (by decide) (rn_load tbOk hA rfl rfl rfl rfl (cell_row (hS.heapAt 0 rfl) rfl)) ?_; clear hA; intro a hA
  refine st_run tbOk 2 hA (e' := (26, .int .i64 (IntKind.i64.wrap (((ps.length : Nat) : Int) - (((cutl nd ps).length : Nat) : Int)))) :: (25, .int .i64 (((cutl nd ps).length : Nat) : Int)) :: _) rfl ?_; clear hA; intro a hA
  replace hA := hA.rw 26 (v' := .int .i64 (((ps.length : Nat) : Int) - (((cutl nd ps).length : Nat) : Int))) rfl (wr64 (by omega) (by omega) (by omega))
  refine st_run tbOk 1 hA (e' := (4, .int .i64 (((ps.length : Nat) : Int) - (((cutl nd ps).length : Nat) : Int))) :: _) rfl ?_; clear hA; intro a hA
  refine wpList_nil ?_
  replace hA := hA.sel [4] (e' := [(4, .int .i64 (((ps.length : Nat) : Int) - (((cutl nd ps).length : Nat) : Int)))]) rfl
  refine xt_norm ?_
  refine wp_ret ?_
  refine ret1 (fn := Tryd.f12) hA rfl rfl ?_
  replace hS := hS.front 2 (C := [(b1, rowO [.int .i64 nd] 3)]) (L' := [(b, rowO [.slice A6 ((cutl nd ps).length) c7] 27)] :: C5 :: D :: F) rfl rfl
  replace hS := hS.drop1
  replace hS := hS.front 1 (C := C5) (L' := [(b, rowO [.slice A6 ((cutl nd ps).length) c7] 27)] :: D :: F) rfl rfl
  replace hS := hS.front 1 (C := [(b, rowO [.slice A6 ((cutl nd ps).length) c7] 27)]) (L' := C5 :: D :: F) rfl rfl
  replace hS := hS.front 2 (C := D) (L' := [(b, rowO [.slice A6 ((cutl nd ps).length) c7] 27)] :: C5 :: F) rfl rfl
  replace hS := hS.front 2 (C := C5) (L' := D :: [(b, rowO [.slice A6 ((cutl nd ps).length) c7] 27)] :: F) rfl rfl
  replace hS := hS.front 2 (C := [(b, rowO [.slice A6 ((cutl nd ps).length) c7] 27)]) (L' := C5 :: D :: F) rfl rfl
  replace hS := hS.join
  exact ⟨_, ⟨_, _, hO5, rfl⟩, rfl, hS⟩

theorem lplace9 {w0 w : World} {F : List Chunk} {n : Nat} (hS : St w0 w F) (p : Int) (h0 : 0 < n) (hn : n ≤ 1048576) :
    Ret Tryd.prog 9 #[.int .i64 p, .int .i64 ((n : Nat) : Int)] w (fun v w' => ∃ k : Nat, k < n ∧ (k : Int) = p % (n : Int) ∧ v = .int .i64 ((k : Nat) : Int) ∧ St w0 w' F) := by
  obtain ⟨k, hk, hkp, hk1, hk2⟩ := turn_round p n h0
  refine enter (vs := [.int .i64 p, .int .i64 ((n : Nat) : Int)]) 15 Tryd.func9 rfl rfl (by simp) ?_; intro a hA
  refine wp_seq ?_
  refine wp_region_lit ?_
  refine st_run tbOk 1 hA (e' := (4, .int .i64 0) :: _) rfl ?_; clear hA; intro a hA
  refine wpList_nil ?_
  replace hA := hA.sel [0, 1] (e' := [(0, .int .i64 p), (1, .int .i64 ((n : Nat) : Int))]) rfl
  refine xt_norm ?_
  refine wp_seq ?_
  refine wp_region_lit ?_
  refine st_run tbOk 2 hA (e' := (7, .int .i64 ((n : Nat) : Int)) :: (6, .int .i64 p) :: _) rfl ?_; clear hA; intro a hA
  refine st_val hA rfl rfl (by decide) (rn_rem hA rfl rfl rfl (by omega)) ?_; clear hA; intro a hA
  refine st_run tbOk 1 hA (e' := (5, .int .i64 (p.tmod ((n : Nat) : Int))) :: _) rfl ?_; clear hA; intro a hA
  refine wpList_nil ?_
  replace hA := hA.sel [1, 5] (e' := [(1, .int .i64 ((n : Nat) : Int)), (5, .int .i64 (p.tmod ((n : Nat) : Int)))]) rfl
  refine xt_norm ?_
  refine wp_seq ?_
  refine wp_seq ?_
  refine wp_region_lit ?_
  refine st_run tbOk 2 hA (e' := (10, .bool (decide (p.tmod ((n : Nat) : Int) < 0))) :: (9, .int .i64 (p.tmod ((n : Nat) : Int))) :: _) rfl ?_; clear hA; intro a hA
  refine wpList_nil ?_
  replace hA := hA.sel [1, 5, 10] (e' := [(1, .int .i64 ((n : Nat) : Int)), (5, .int .i64 (p.tmod ((n : Nat) : Int))), (10, .bool (decide (p.tmod ((n : Nat) : Int) < 0)))]) rfl
  refine xt_norm ?_
  by_cases hc1 : p.tmod ((n : Nat) : Int) < 0
  · first
    | (exfalso; omega)
    | (replace hA := hA.rw 10 (v' := .bool true) rfl (vb_true hc1)
       refine cd_cond_t hA rfl ?_
       refine wp_region_lit ?_
       refine st_run tbOk 3 hA (e' := (13, .int .i64 (IntKind.i64.wrap ((p.tmod ((n : Nat) : Int)) + ((n : Nat) : Int)))) :: (12, .int .i64 ((n : Nat) : Int)) :: (11, .int .i64 (p.tmod ((n : Nat) : Int))) :: _) rfl ?_; clear hA; intro a hA
       replace hA := hA.rw 13 (v' := .int .i64 ((p.tmod ((n : Nat) : Int)) + ((n : Nat) : Int))) rfl (wr64 (by omega) (by omega) (by omega))
       refine st_run tbOk 1 hA (e' := (5, .int .i64 ((p.tmod ((n : Nat) : Int)) + ((n : Nat) : Int))) :: _) rfl ?_; clear hA; intro a hA
       refine wpList_nil ?_
       replace hA := hA.sel [5] (e' := [(5, .int .i64 ((p.tmod ((n : Nat) : Int)) + ((n : Nat) : Int)))]) rfl
       refine xt_norm ?_
       refine wp_seq ?_
       refine wp_region_lit ?_
       replace hA := hA.rw 5 (v' := .int .i64 ((k : Nat) : Int)) rfl (vint (by first | exact hk2 (by omega) | exact hk1 (by omega)))
       refine st_run tbOk 2 hA (e' := (4, .int .i64 ((k : Nat) : Int)) :: (14, .int .i64 ((k : Nat) : Int)) :: _) rfl ?_; clear hA; intro a hA
       refine wpList_nil ?_
       replace hA := hA.sel [4] (e' := [(4, .int .i64 ((k : Nat) : Int))]) rfl
       refine xt_norm ?_
       refine wp_ret ?_
       refine ret1 (fn := Tryd.f9) hA rfl rfl ?_
       exact ⟨k, hk, hkp, rfl, hS⟩)
  · first
    | (exfalso; omega)
    | (replace hA := hA.rw 10 (v' := .bool false) rfl (vb_false hc1)
       refine cd_cond_f hA rfl ?_
       refine wp_skip ?_
       refine xt_norm ?_
       refine wp_seq ?_
       refine wp_region_lit ?_
       replace hA := hA.rw 5 (v' := .int .i64 ((k : Nat) : Int)) rfl (vint (by first | exact hk2 (by omega) | exact hk1 (by omega)))
       refine st_run tbOk 2 hA (e' := (4, .int .i64 ((k : Nat) : Int)) :: (14, .int .i64 ((k : Nat) : Int)) :: _) rfl ?_; clear hA; intro a hA
       refine wpList_nil ?_
       replace hA := hA.sel [4] (e' := [(4, .int .i64 ((k : Nat) : Int))]) rfl
       refine xt_norm ?_
       refine wp_ret ?_
       refine ret1 (fn := Tryd.f9) hA rfl rfl ?_
       exact ⟨k, hk, hkp, rfl, hS⟩)

theorem awake4 {w0 w : World} {F : List Chunk} (hS : St w0 w F) :
    Ret Tryd.prog 4 #[] w (fun v w' => v = .bool true ∧ St w0 w' F) := by
  refine enter (vs := []) 40 Tryd.func4 rfl rfl (by simp) ?_; intro a hA
  refine wp_seq ?_
  refine wp_region_lit ?_
  refine st_run tbOk 1 hA (e' := (0, .bool false) :: _) rfl ?_; clear hA; intro a hA
  refine wpList_nil ?_
  replace hA := hA.sel [] (e' := []) rfl
  refine xt_norm ?_
  refine wp_seq ?_
  refine wp_region_lit ?_
  refine st_run tbOk 1 hA (e' := (6, .agg #[.slice none 0 0]) :: _) rfl ?_; clear hA; intro a hA
  refine st_box hA hS [.slice none 0 0] rfl rfl rfl rfl rfl (by decide) ?_; clear hA hS; intro b1 w2 a hS hA
  obtain ⟨L3, hM4, hS⟩ : ∃ Z, WR b1 [] Z ∧ St w0 w2 (Z :: F) := ⟨_, WR.new _, hS⟩
  replace hS := hS.nil
  refine st_run tbOk 1 hA (e' := (1, .pointer (some ⟨b1, 0, none⟩)) :: _) rfl ?_; clear hA; intro a hA
  refine wpList_nil ?_
  replace hA := hA.sel [1] (e' := [(1, .pointer (some ⟨b1, 0, none⟩))]) rfl
  refine xt_norm ?_
  refine wp_seq ?_
  refine wp_seq ?_
  refine wp_region_lit ?_
  refine st_run tbOk 1 hA (e' := (8, .int .i64 0) :: _) rfl ?_; clear hA; intro a hA
  refine wpList_nil ?_
  refine xt_norm ?_
  refine wp_block ?_
  replace hS := hS.front 1 (C := L3) (L' := [] :: F) rfl rfl
  refine wp_loop_ghost (fun m a w => ∃ (k : Nat) (ps : List Pkt) (L : Chunk) (D : Chunk), m = 3 - k ∧ Has a 40 [(1, .pointer (some ⟨b1, 0, none⟩)), (8, .int .i64 ((k : Nat) : Int))] ∧ St w0 w (L :: D :: F) ∧ (k ≤ 3) ∧ (isW ps k) ∧ (WR b1 ps L) ∧ (∀ x ∈ ps, encPacket_dd w0 D x)) (3 - 0)
    ⟨0, ([]), L3, ([]), rfl, (hA.sel [1, 8] rfl), hS, Nat.zero_le _, isW.nil, hM4, fun x hx => by simp at hx⟩ ?_
  clear hA hS; rintro m0 a w5 ⟨k, ps, L, D, rfl, hA, hS, hk, hw, hM, hdd⟩
  have hpl := hw.1
  refine wp_seq ?_
  refine wp_region_lit ?_
  refine st_run tbOk 1 hA (e' := (9, .bool (decide (((k : Nat) : Int) < 3))) :: _) rfl ?_; clear hA; intro a hA
  refine wpList_nil ?_
  refine xt_norm ?_
  refine wp_seq ?_
  by_cases hc6 : ((k : Nat) : Int) < 3
  · first
    | (exfalso; omega)
    | (replace hA := hA.rw 9 (v' := .bool true) rfl (vb_true hc6)
       refine cd_cond_t hA rfl ?_
       refine wp_skip ?_
       refine xt_norm ?_
       refine wp_seq ?_
       refine wp_block ?_
       refine wp_seq ?_
       refine wp_region_lit ?_
       refine st_run tbOk 2 hA (e' := (2, .int .i64 ((k : Nat) : Int)) :: (10, .int .i64 ((k : Nat) : Int)) :: _) rfl ?_; clear hA; intro a hA
       refine wpList_nil ?_
       replace hA := hA.sel [1, 2, 8] (e' := [(1, .pointer (some ⟨b1, 0, none⟩)), (2, .int .i64 ((k : Nat) : Int)), (8, .int .i64 ((k : Nat) : Int))]) rfl
       refine xt_norm ?_
       refine wp_seq ?_
       refine wp_region_lit ?_
       refine st_run tbOk 3 hA (e' := (13, .int .u64 (IntKind.u64.wrap ((k : Nat) : Int))) :: (12, .int .i64 ((k : Nat) : Int)) :: (11, .pointer (some ⟨b1, 0, none⟩)) :: _) rfl ?_; clear hA; intro a hA
       replace hA := hA.rw 13 (v' := .int .u64 ((k : Nat) : Int)) rfl (vint (wrap_u64 (by omega) (by omega)))
       refine st_run tbOk 1 hA (e' := (14, .agg #[.int .i64 0, .int .i64 0, .int .u64 ((k : Nat) : Int), .int .i64 0, .int .i64 0, .slice none 0 0]) :: _) rfl ?_; clear hA; intro a hA
       replace hS := hS.front 1 (C := D) (L' := L :: F) rfl rfl
       replace hS := hS.front 1 (C := L) (L' := D :: F) rfl rfl
       refine st_call0 hA rfl rfl rfl isfn5 rfl rfl (by decide) (send_ok5 hS hM 0 0 ((k : Nat) : Int) 0 0 (bs := ([] : List UInt8)) RdSX.nil (by first | omega | exact Nat.zero_le _) (by omega)) ?_
       clear hA hS; rintro _ w7 a ⟨L8, E10, A11, c12, hM9, hE13, rfl, hS⟩ hA
       refine st_run tbOk 1 hA (e' := (16, .bool false) :: _) rfl ?_; clear hA; intro a hA
       refine wpList_nil ?_
       replace hA := hA.sel [1, 8, 16] (e' := [(1, .pointer (some ⟨b1, 0, none⟩)), (8, .int .i64 ((k : Nat) : Int)), (16, .bool false)]) rfl
       refine xt_norm ?_
       refine cd_cond_f hA rfl ?_
       refine wp_skip ?_
       refine xb_norm ?_
       refine xt_norm ?_
       refine wp_region_lit ?_
       refine st_run tbOk 1 hA (e' := (17, .int .i64 (IntKind.i64.wrap (((k : Nat) : Int) + 1))) :: _) rfl ?_; clear hA; intro a hA
       replace hA := hA.rw 17 (v' := .int .i64 ((k + 1 : Nat) : Int)) rfl (wr64 (by omega) (by omega) (by omega))
       refine st_run tbOk 1 hA (e' := (8, .int .i64 ((k + 1 : Nat) : Int)) :: _) rfl ?_; clear hA; intro a hA
       refine wpList_nil ?_
       replace hA := hA.sel [1, 8] (e' := [(1, .pointer (some ⟨b1, 0, none⟩)), (8, .int .i64 ((k + 1 : Nat) : Int))]) rfl
       replace hS := hS.front 1 (C := (E10 ++ D)) (L' := L8 :: F) rfl rfl
       replace hS := hS.front 1 (C := L8) (L' := (E10 ++ D) :: F) rfl rfl
       exact lp_next _ (by omega) ⟨(k + 1), (ps ++ [(0, 0, ((k : Nat) : Int), 0, 0, A11, c12, ([] : List UInt8))]), L8, (E10 ++ D), rfl, (hA.sel [1, 8] rfl), hS, by omega, hw.add A11 c12, hM9, dd_app hdd hE13⟩)
  · first
    | (exfalso; omega)
    | (replace hA := hA.rw 9 (v' := .bool false) rfl (vb_false hc6)
       refine cd_cond_f hA rfl ?_
       refine wp_exit ?_
       refine xt_exit ?_
       refine xt_exit ?_
       refine cd_exit_eq ?_
       refine xt_norm ?_
       refine wp_seq ?_
       refine wp_region_lit ?_
       have hk3 : k = 3 := by omega
       subst hk3
       have hpl := hw.1
       refine st_run tbOk 1 hA (e' := (19, .pointer (some ⟨b1, 0, none⟩)) :: _) rfl ?_; clear hA; intro a hA
       replace hS := hS.front 1 (C := D) (L' := L :: F) rfl rfl
       replace hS := hS.front 1 (C := L) (L' := D :: F) rfl rfl
       refine st_call0 hA rfl rfl rfl isfn7 rfl rfl (by decide) (arrive_ok7 hS hM 4 (by omega) (by omega)) ?_
       clear hA hS; rintro _ w14 a ⟨q17, ⟨q17x0, q17x1, q17x2, q17x3, q17x4, q17A, q17c, q17b⟩, hq17, hpq17, hxq17, L15, hM16, rfl, hS⟩ hA
       rw [hpl] at hpq17
       have hq1 : q17 = 1 := by omega
       subst hq1
       obtain ⟨A9, c9, he9⟩ := hw.2 1 _ hxq17
       simp only [Prod.mk.injEq] at he9
       have hl2 : (ps.take 1 ++ ps.drop (1 + 1)).length = 2 := by simp; omega
       refine st_run tbOk 3 hA (e' := (22, .bool true) :: (21, .agg #[.int .i64 q17x0, .int .i64 q17x1, .int .u64 q17x2, .int .i64 q17x3, .int .i64 q17x4, .slice q17A q17b.length q17c]) :: (18, .tuple #[.agg #[.int .i64 q17x0, .int .i64 q17x1, .int .u64 q17x2, .int .i64 q17x3, .int .i64 q17x4, .slice q17A q17b.length q17c], .bool true]) :: _) rfl ?_; clear hA; intro a hA
       refine st_alloc tbOk hA hS [.int .i64 0, .int .i64 0, .int .u64 0, .int .i64 0, .int .i64 0, .slice none 0 0] rfl rfl rfl rfl rfl (by decide) ?_; clear hA hS; intro b18 w19 a hS hA
       refine st_store tbOk hA hS [.int .i64 q17x0, .int .i64 q17x1, .int .u64 q17x2, .int .i64 q17x3, .int .i64 q17x4, .slice q17A q17b.length q17c] [.int .i64 q17x0, .int .i64 q17x1, .int .u64 q17x2, .int .i64 q17x3, .int .i64 q17x4, .slice q17A q17b.length q17c] rfl rfl rfl rfl rfl rfl (by simp [Value.oneCell']) (Nat.le_of_ble_eq_true rfl) rfl rfl rfl ?_; clear hS; intro w20 hS
       refine st_run tbOk 1 hA (e' := (4, .bool true) :: _) rfl ?_; clear hA; intro a hA
       refine wpList_nil ?_
       replace hA := hA.sel [1, 3, 4] (e' := [(1, .pointer (some ⟨b1, 0, none⟩)), (3, .pointer (some ⟨b18, 0, none⟩)), (4, .bool true)]) rfl
       refine xt_norm ?_
       refine wp_seq ?_
       refine wp_region_lit ?_
       refine st_run tbOk 1 hA (e' := (23, .pointer (some ⟨b1, 0, none⟩)) :: _) rfl ?_; clear hA; intro a hA
       replace hS := hS.front 2 (C := D) (L' := [(b18, rowO [.int .i64 q17x0, .int .i64 q17x1, .int .u64 q17x2, .int .i64 q17x3, .int .i64 q17x4, .slice q17A q17b.length q17c] 33)] :: L15 :: F) rfl rfl
       replace hS := hS.front 2 (C := L15) (L' := D :: [(b18, rowO [.int .i64 q17x0, .int .i64 q17x1, .int .u64 q17x2, .int .i64 q17x3, .int .i64 q17x4, .slice q17A q17b.length q17c] 33)] :: F) rfl rfl
       refine st_call0 hA rfl rfl rfl isfn11 rfl rfl (by decide) (double_ok11 hS hM16 1 (by omega) (by omega) (dd_sub hdd 1) (fun x hx => hw.short x ((List.mem_append.1 hx).elim List.mem_of_mem_take List.mem_of_mem_drop))) ?_
       clear hA hS; rintro _ w21 a ⟨q24, q24x, hq24, hpq24, hxq24, L22, E25, A26, c27, hM23, hE28, rfl, hS⟩ hA
       refine st_run tbOk 1 hA (e' := (5, .nilIface) :: _) rfl ?_; clear hA; intro a hA
       refine wpList_nil ?_
       replace hA := hA.sel [1, 3, 4, 5] (e' := [(1, .pointer (some ⟨b1, 0, none⟩)), (3, .pointer (some ⟨b18, 0, none⟩)), (4, .bool true), (5, .nilIface)]) rfl
       refine xt_norm ?_
       refine wp_seq ?_
       refine wp_region_lit ?_
       refine st_run tbOk 3 hA (e' := (27, .pointer (some ⟨b18, 2, none⟩)) :: (26, .bool true) :: (25, .bool true) :: _) rfl ?_; clear hA; intro a hA
       refine st_val hA rfl rfl (by decide) (rn_load tbOk hA rfl rfl rfl rfl (cell_row (hS.heapAt 2 rfl) rfl)) ?_; clear hA; intro a hA
       refine st_run tbOk 3 hA (e' := (31, .bool (q17x2 == 1)) :: (30, .bool (q17x2 == 1)) :: (29, .bool (q17x2 == 1)) :: _) rfl ?_; clear hA; intro a hA
       by_cases hc29 : q17x2 = 1
       · first
         | (exfalso; omega)
         | (replace hA := hA.rw 29 (v' := .bool true) rfl (vb_eq_t hc29)
            replace hA := hA.rw 30 (v' := .bool true) rfl (vb_eq_t hc29)
            replace hA := hA.rw 31 (v' := .bool true) rfl (vb_eq_t hc29)
            refine st_run tbOk 5 hA (e' := (36, .pointer (some ⟨b1, 0, none⟩)) :: (35, .bool true) :: (34, .bool true) :: (33, .bool true) :: (32, .nilIface) :: _) rfl ?_; clear hA; intro a hA
            replace hS := hS.front 1 (C := (E25 ++ D)) (L' := L22 :: [(b18, rowO [.int .i64 q17x0, .int .i64 q17x1, .int .u64 q17x2, .int .i64 q17x3, .int .i64 q17x4, .slice q17A q17b.length q17c] 33)] :: F) rfl rfl
            replace hS := hS.front 1 (C := L22) (L' := (E25 ++ D) :: [(b18, rowO [.int .i64 q17x0, .int .i64 q17x1, .int .u64 q17x2, .int .i64 q17x3, .int .i64 q17x4, .slice q17A q17b.length q17c] 33)] :: F) rfl rfl
            refine st_call0 hA rfl rfl rfl isfn13 rfl rfl (by decide) (wlen13 hS hM23) ?_
            clear hA hS; rintro _ w30 a ⟨L31, hM32, rfl, hS⟩ hA
            replace hA := hA.rw 37 (v' := .int .i64 3) rfl (vint (by simp only [List.length_append, List.length_cons, List.length_nil] at hl2 ⊢; omega))
            refine st_run tbOk 3 hA (e' := (0, .bool true) :: (39, .bool true) :: (38, .bool true) :: _) rfl ?_; clear hA; intro a hA
            refine wpList_nil ?_
            replace hA := hA.sel [0] (e' := [(0, .bool true)]) rfl
            refine xt_norm ?_
            refine wp_ret ?_
            refine ret1 (fn := Tryd.f4) hA rfl rfl ?_
            replace hS := hS.drop1
            replace hS := hS.drop1
            replace hS := hS.drop1
            exact ⟨rfl, hS⟩)
       · first
         | (exfalso; omega)
         | (replace hA := hA.rw 29 (v' := .bool false) rfl (vb_eq_f hc29)
            replace hA := hA.rw 30 (v' := .bool false) rfl (vb_eq_f hc29)
            replace hA := hA.rw 31 (v' := .bool false) rfl (vb_eq_f hc29)
            refine st_run tbOk 6 hA (e' := (37, undef) :: (36, undef) :: (35, .bool false) :: (34, .bool false) :: (33, undef) :: (32, undef) :: _) rfl ?_; clear hA; intro a hA
            replace hA := hA.rw 37 (v' := .int .i64 3) rfl (vint (by simp only [List.length_append, List.length_cons, List.length_nil] at hl2 ⊢; omega))
            refine st_run tbOk 3 hA (e' := (0, .bool false) :: (39, .bool false) :: (38, undef) :: _) rfl ?_; clear hA; intro a hA
            refine wpList_nil ?_
            replace hA := hA.sel [0] (e' := [(0, .bool false)]) rfl
            refine xt_norm ?_
            refine wp_ret ?_
            refine ret1 (fn := Tryd.f4) hA rfl rfl ?_
            exfalso; omega))

theorem same15_10 {w0 w : World} {F : List Chunk} (hS : St w0 w F) (x0 x1 x2 x3 x4 y0 y1 y2 y3 y4 : Int) {d1 d2 : Value} {bs cs : List UInt8} (h1 : RdSX w0 F 1 d1 bs.length (rows encB bs)) (h2 : RdSX w0 F 1 d2 cs.length (rows encB cs)) :
    Ret Tryd.prog 10 #[.agg #[.int .i64 x0, .int .i64 x1, .int .u64 x2, .int .i64 x3, .int .i64 x4, d1], .agg #[.int .i64 y0, .int .i64 y1, .int .u64 y2, .int .i64 y3, .int .i64 y4, d2]] w (fun v w' => v = .bool (decide (x0 = y0 ∧ x1 = y1 ∧ x2 = y2 ∧ x3 = y3 ∧ x4 = y4 ∧ bs = cs)) ∧ St w0 w' F) := by
  obtain ⟨A, c, rfl, hmc, hcx⟩ := (h1 w hS).open'
  obtain ⟨B, d, rfl, hmd, hdx⟩ := (h2 w hS).open'
  refine enter (vs := [.agg #[.int .i64 x0, .int .i64 x1, .int .u64 x2, .int .i64 x3, .int .i64 x4, .slice A bs.length c], .agg #[.int .i64 y0, .int .i64 y1, .int .u64 y2, .int .i64 y3, .int .i64 y4, .slice B cs.length d]]) 47 Tryd.func10 rfl rfl (by simp) ?_; intro a hA
  refine wp_seq ?_
  refine wp_region_lit ?_
  refine st_box hA hS [.int .i64 x0, .int .i64 x1, .int .u64 x2, .int .i64 x3, .int .i64 x4, .slice A bs.length c] rfl rfl rfl rfl rfl (by decide) ?_; clear hA hS; intro b1 w2 a hS hA
  refine st_box hA hS [.int .i64 y0, .int .i64 y1, .int .u64 y2, .int .i64 y3, .int .i64 y4, .slice B cs.length d] rfl rfl rfl rfl rfl (by decide) ?_; clear hA hS; intro b3 w4 a hS hA
  refine st_run tbOk 1 hA (e' := (4, .bool false) :: _) rfl ?_; clear hA; intro a hA
  refine wpList_nil ?_
  replace hA := hA.sel [2, 3] (e' := [(2, .pointer (some ⟨b1, 0, none⟩)), (3, .pointer (some ⟨b3, 0, none⟩))]) rfl
  refine xt_norm ?_
  refine wp_seq ?_
  refine wp_region_lit ?_
  refine st_run tbOk 1 hA (e' := (5, .pointer (some ⟨b1, 0, none⟩)) :: _) rfl ?_; clear hA; intro a hA
  refine st_val hA rfl rfl (by decide) (rn_load tbOk hA rfl rfl rfl rfl (cell_row (hS.heapAt 1 rfl) rfl)) ?_; clear hA; intro a hA
  refine st_run tbOk 1 hA (e' := (7, .pointer (some ⟨b3, 0, none⟩)) :: _) rfl ?_; clear hA; intro a hA
  refine st_val hA rfl rfl (by decide) (rn_load tbOk hA rfl rfl rfl rfl (cell_row (hS.heapAt 0 rfl) rfl)) ?_; clear hA; intro a hA
  refine st_run tbOk 2 hA (e' := (10, .bool (x0 == y0)) :: (9, .bool (x0 == y0)) :: _) rfl ?_; clear hA; intro a hA
  by_cases hc5 : x0 = y0
  · replace hA := hA.rw 9 (v' := .bool true) rfl (vb_eq_t hc5)
    replace hA := hA.rw 10 (v' := .bool true) rfl (vb_eq_t hc5)
    refine st_run tbOk 1 hA (e' := (11, .pointer (some ⟨b1, 1, none⟩)) :: _) rfl ?_; clear hA; intro a hA
    refine st_val hA rfl rfl (by decide) (rn_load tbOk hA rfl rfl rfl rfl (cell_row (hS.heapAt 1 rfl) rfl)) ?_; clear hA; intro a hA
    refine st_run tbOk 1 hA (e' := (13, .pointer (some ⟨b3, 1, none⟩)) :: _) rfl ?_; clear hA; intro a hA
    refine st_val hA rfl rfl (by decide) (rn_load tbOk hA rfl rfl rfl rfl (cell_row (hS.heapAt 0 rfl) rfl)) ?_; clear hA; intro a hA
    refine st_run tbOk 3 hA (e' := (17, .bool (x1 == y1)) :: (16, .bool (x1 == y1)) :: (15, .bool (x1 == y1)) :: _) rfl ?_; clear hA; intro a hA
    by_cases hc6 : x1 = y1
    · replace hA := hA.rw 15 (v' := .bool true) rfl (vb_eq_t hc6)
      replace hA := hA.rw 16 (v' := .bool true) rfl (vb_eq_t hc6)
      replace hA := hA.rw 17 (v' := .bool true) rfl (vb_eq_t hc6)
      refine st_run tbOk 1 hA (e' := (18, .pointer (some ⟨b1, 2, none⟩)) :: _) rfl ?_; clear hA; intro a hA
      refine st_val hA rfl rfl (by decide) (rn_load tbOk hA rfl rfl rfl rfl (cell_row (hS.heapAt 1 rfl) rfl)) ?_; clear hA; intro a hA
      refine st_run tbOk 1 hA (e' := (20, .pointer (some ⟨b3, 2, none⟩)) :: _) rfl ?_; clear hA; intro a hA
      refine st_val hA rfl rfl (by decide) (rn_load tbOk hA rfl rfl rfl rfl (cell_row (hS.heapAt 0 rfl) rfl)) ?_; clear hA; intro a hA
      refine st_run tbOk 3 hA (e' := (24, .bool (x2 == y2)) :: (23, .bool (x2 == y2)) :: (22, .bool (x2 == y2)) :: _) rfl ?_; clear hA; intro a hA
      by_cases hc7 : x2 = y2
      · replace hA := hA.rw 22 (v' := .bool true) rfl (vb_eq_t hc7)
        replace hA := hA.rw 23 (v' := .bool true) rfl (vb_eq_t hc7)
        replace hA := hA.rw 24 (v' := .bool true) rfl (vb_eq_t hc7)
        refine st_run tbOk 1 hA (e' := (25, .pointer (some ⟨b1, 3, none⟩)) :: _) rfl ?_; clear hA; intro a hA
        refine st_val hA rfl rfl (by decide) (rn_load tbOk hA rfl rfl rfl rfl (cell_row (hS.heapAt 1 rfl) rfl)) ?_; clear hA; intro a hA
        refine st_run tbOk 1 hA (e' := (27, .pointer (some ⟨b3, 3, none⟩)) :: _) rfl ?_; clear hA; intro a hA
        refine st_val hA rfl rfl (by decide) (rn_load tbOk hA rfl rfl rfl rfl (cell_row (hS.heapAt 0 rfl) rfl)) ?_; clear hA; intro a hA
        refine st_run tbOk 3 hA (e' := (31, .bool (x3 == y3)) :: (30, .bool (x3 == y3)) :: (29, .bool (x3 == y3)) :: _) rfl ?_; clear hA; intro a hA
        by_cases hc8 : x3 = y3
        · replace hA := hA.rw 29 (v' := .bool true) rfl (vb_eq_t hc8)
          replace hA := hA.rw 30 (v' := .bool true) rfl (vb_eq_t hc8)
          replace hA := hA.rw 31 (v' := .bool true) rfl (vb_eq_t hc8)
          refine st_run tbOk 1 hA (e' := (32, .pointer (some ⟨b1, 4, none⟩)) :: _) rfl ?_; clear hA; intro a hA
          refine st_val hA rfl rfl (by decide) (rn_load tbOk hA rfl rfl rfl rfl (cell_row (hS.heapAt 1 rfl) rfl)) ?_; clear hA; intro a hA
          refine st_run tbOk 1 hA (e' := (34, .pointer (some ⟨b3, 4, none⟩)) :: _) rfl ?_; clear hA; intro a hA
          refine st_val hA rfl rfl (by decide) (rn_load tbOk hA rfl rfl rfl rfl (cell_row (hS.heapAt 0 rfl) rfl)) ?_; clear hA; intro a hA
          refine st_run tbOk 3 hA (e' := (38, .bool (x4 == y4)) :: (37, .bool (x4 == y4)) :: (36, .bool (x4 == y4)) :: _) rfl ?_; clear hA; intro a hA
          by_cases hc9 : x4 = y4
          · replace hA := hA.rw 36 (v' := .bool true) rfl (vb_eq_t hc9)
            replace hA := hA.rw 37 (v' := .bool true) rfl (vb_eq_t hc9)
            replace hA := hA.rw 38 (v' := .bool true) rfl (vb_eq_t hc9)
            refine st_run tbOk 1 hA (e' := (39, .pointer (some ⟨b1, 5, none⟩)) :: _) rfl ?_; clear hA; intro a hA
            refine st_val hA rfl rfl (by decide) (rn_load tbOk hA rfl rfl rfl rfl (cell_row (hS.heapAt 1 rfl) rfl)) ?_; clear hA; intro a hA
            refine st_val hA rfl rfl (by decide) (rn_bstr tbOk hA (bs := bs) rfl rfl rfl rfl rfl rfl rfl rfl (h1 _ (hS.tail 2 rfl))) ?_; clear hA; intro a hA
            refine st_run tbOk 1 hA (e' := (42, .pointer (some ⟨b3, 5, none⟩)) :: _) rfl ?_; clear hA; intro a hA
            refine st_val hA rfl rfl (by decide) (rn_load tbOk hA rfl rfl rfl rfl (cell_row (hS.heapAt 0 rfl) rfl)) ?_; clear hA; intro a hA
            refine st_val hA rfl rfl (by decide) (rn_bstr tbOk hA (bs := cs) rfl rfl rfl rfl rfl rfl rfl rfl (h2 _ (hS.tail 2 rfl))) ?_; clear hA; intro a hA
            refine st_run tbOk 1 hA (e' := (45, .bool ((bsv bs).toList == (bsv cs).toList)) :: _) rfl ?_; clear hA; intro a hA
            replace hA := hA.rw 45 (v' := .bool (decide (bs = cs))) rfl (congrArg Value.bool (bsv_eq _ _))
            refine st_run tbOk 2 hA (e' := (4, .bool (decide (bs = cs))) :: (46, .bool (decide (bs = cs))) :: _) rfl ?_; clear hA; intro a hA
            refine wpList_nil ?_
            replace hA := hA.sel [4] (e' := [(4, .bool (decide (bs = cs)))]) rfl
            refine xt_norm ?_
            refine wp_ret ?_
            refine ret1 (fn := Tryd.f10) hA rfl rfl ?_
            replace hS := hS.drop1
            replace hS := hS.drop1
            exact ⟨congrArg Value.bool (decide_eq_decide.2 ⟨fun h => ⟨by assumption, by assumption, by assumption, by assumption, by assumption, h⟩, fun h => h.2.2.2.2.2⟩), hS⟩
          · replace hA := hA.rw 36 (v' := .bool false) rfl (vb_eq_f hc9)
            replace hA := hA.rw 37 (v' := .bool false) rfl (vb_eq_f hc9)
            replace hA := hA.rw 38 (v' := .bool false) rfl (vb_eq_f hc9)
            refine st_run tbOk 7 hA (e' := (45, undef) :: (44, undef) :: (43, undef) :: (42, undef) :: (41, undef) :: (40, undef) :: (39, undef) :: _) rfl ?_; clear hA; intro a hA
            refine st_run tbOk 2 hA (e' := (4, .bool false) :: (46, .bool false) :: _) rfl ?_; clear hA; intro a hA
            refine wpList_nil ?_
            replace hA := hA.sel [4] (e' := [(4, .bool false)]) rfl
            refine xt_norm ?_
            refine wp_ret ?_
            refine ret1 (fn := Tryd.f10) hA rfl rfl ?_
            replace hS := hS.drop1
            replace hS := hS.drop1
            exact ⟨congrArg Value.bool (decide_eq_false (fun h => by first | exact absurd h.1 (by assumption) | exact absurd h.2.1 (by assumption) | exact absurd h.2.2.1 (by assumption) | exact absurd h.2.2.2.1 (by assumption) | exact absurd h.2.2.2.2.1 (by assumption) | exact absurd h.2.2.2.2.2 (by assumption))).symm, hS⟩
        · replace hA := hA.rw 29 (v' := .bool false) rfl (vb_eq_f hc8)
          replace hA := hA.rw 30 (v' := .bool false) rfl (vb_eq_f hc8)
          replace hA := hA.rw 31 (v' := .bool false) rfl (vb_eq_f hc8)
          refine st_run tbOk 14 hA (e' := (45, undef) :: (44, undef) :: (43, undef) :: (42, undef) :: (41, undef) :: (40, undef) :: (39, undef) :: (38, .bool false) :: (37, .bool false) :: (36, undef) :: (35, undef) :: (34, undef) :: (33, undef) :: (32, undef) :: _) rfl ?_; clear hA; intro a hA
          refine st_run tbOk 2 hA (e' := (4, .bool false) :: (46, .bool false) :: _) rfl ?_; clear hA; intro a hA
          refine wpList_nil ?_
          replace hA := hA.sel [4] (e' := [(4, .bool false)]) rfl
          refine xt_norm ?_
          refine wp_ret ?_
          refine ret1 (fn := Tryd.f10) hA rfl rfl ?_
          replace hS := hS.drop1
          replace hS := hS.drop1
          exact ⟨congrArg Value.bool (decide_eq_false (fun h => by first | exact absurd h.1 (by assumption) | exact absurd h.2.1 (by assumption) | exact absurd h.2.2.1 (by assumption) | exact absurd h.2.2.2.1 (by assumption) | exact absurd h.2.2.2.2.1 (by assumption) | exact absurd h.2.2.2.2.2 (by assumption))).symm, hS⟩
      · replace hA := hA.rw 22 (v' := .bool false) rfl (vb_eq_f hc7)
        replace hA := hA.rw 23 (v' := .bool false) rfl (vb_eq_f hc7)
        replace hA := hA.rw 24 (v' := .bool false) rfl (vb_eq_f hc7)
        refine st_run tbOk 21 hA (e' := (45, undef) :: (44, undef) :: (43, undef) :: (42, undef) :: (41, undef) :: (40, undef) :: (39, undef) :: (38, .bool false) :: (37, .bool false) :: (36, undef) :: (35, undef) :: (34, undef) :: (33, undef) :: (32, undef) :: (31, .bool false) :: (30, .bool false) :: (29, undef) :: (28, undef) :: (27, undef) :: (26, undef) :: (25, undef) :: _) rfl ?_; clear hA; intro a hA
        refine st_run tbOk 2 hA (e' := (4, .bool false) :: (46, .bool false) :: _) rfl ?_; clear hA; intro a hA
        refine wpList_nil ?_
        replace hA := hA.sel [4] (e' := [(4, .bool false)]) rfl
        refine xt_norm ?_
        refine wp_ret ?_
        refine ret1 (fn := Tryd.f10) hA rfl rfl ?_
        replace hS := hS.drop1
        replace hS := hS.drop1
        exact ⟨congrArg Value.bool (decide_eq_false (fun h => by first | exact absurd h.1 (by assumption) | exact absurd h.2.1 (by assumption) | exact absurd h.2.2.1 (by assumption) | exact absurd h.2.2.2.1 (by assumption) | exact absurd h.2.2.2.2.1 (by assumption) | exact absurd h.2.2.2.2.2 (by assumption))).symm, hS⟩
    · replace hA := hA.rw 15 (v' := .bool false) rfl (vb_eq_f hc6)
      replace hA := hA.rw 16 (v' := .bool false) rfl (vb_eq_f hc6)
      replace hA := hA.rw 17 (v' := .bool false) rfl (vb_eq_f hc6)
      refine st_run tbOk 28 hA (e' := (45, undef) :: (44, undef) :: (43, undef) :: (42, undef) :: (41, undef) :: (40, undef) :: (39, undef) :: (38, .bool false) :: (37, .bool false) :: (36, undef) :: (35, undef) :: (34, undef) :: (33, undef) :: (32, undef) :: (31, .bool false) :: (30, .bool false) :: (29, undef) :: (28, undef) :: (27, undef) :: (26, undef) :: (25, undef) :: (24, .bool false) :: (23, .bool false) :: (22, undef) :: (21, undef) :: (20, undef) :: (19, undef) :: (18, undef) :: _) rfl ?_; clear hA; intro a hA
      refine st_run tbOk 2 hA (e' := (4, .bool false) :: (46, .bool false) :: _) rfl ?_; clear hA; intro a hA
      refine wpList_nil ?_
      replace hA := hA.sel [4] (e' := [(4, .bool false)]) rfl
      refine xt_norm ?_
      refine wp_ret ?_
      refine ret1 (fn := Tryd.f10) hA rfl rfl ?_
      replace hS := hS.drop1
      replace hS := hS.drop1
      exact ⟨congrArg Value.bool (decide_eq_false (fun h => by first | exact absurd h.1 (by assumption) | exact absurd h.2.1 (by assumption) | exact absurd h.2.2.1 (by assumption) | exact absurd h.2.2.2.1 (by assumption) | exact absurd h.2.2.2.2.1 (by assumption) | exact absurd h.2.2.2.2.2 (by assumption))).symm, hS⟩
  · replace hA := hA.rw 9 (v' := .bool false) rfl (vb_eq_f hc5)
    replace hA := hA.rw 10 (v' := .bool false) rfl (vb_eq_f hc5)
    refine st_run tbOk 35 hA (e' := (45, undef) :: (44, undef) :: (43, undef) :: (42, undef) :: (41, undef) :: (40, undef) :: (39, undef) :: (38, .bool false) :: (37, .bool false) :: (36, undef) :: (35, undef) :: (34, undef) :: (33, undef) :: (32, undef) :: (31, .bool false) :: (30, .bool false) :: (29, undef) :: (28, undef) :: (27, undef) :: (26, undef) :: (25, undef) :: (24, .bool false) :: (23, .bool false) :: (22, undef) :: (21, undef) :: (20, undef) :: (19, undef) :: (18, undef) :: (17, .bool false) :: (16, .bool false) :: (15, undef) :: (14, undef) :: (13, undef) :: (12, undef) :: (11, undef) :: _) rfl ?_; clear hA; intro a hA
    refine st_run tbOk 2 hA (e' := (4, .bool false) :: (46, .bool false) :: _) rfl ?_; clear hA; intro a hA
    refine wpList_nil ?_
    replace hA := hA.sel [4] (e' := [(4, .bool false)]) rfl
    refine xt_norm ?_
    refine wp_ret ?_
    refine ret1 (fn := Tryd.f10) hA rfl rfl ?_
    replace hS := hS.drop1
    replace hS := hS.drop1
    exact ⟨congrArg Value.bool (decide_eq_false (fun h => by first | exact absurd h.1 (by assumption) | exact absurd h.2.1 (by assumption) | exact absurd h.2.2.1 (by assumption) | exact absurd h.2.2.2.1 (by assumption) | exact absurd h.2.2.2.2.1 (by assumption) | exact absurd h.2.2.2.2.2 (by assumption))).symm, hS⟩

theorem upd_setCell {w : World} {b : Nat} {x v : Value} {T : TypeId} (hb : w.heap[b]? = some (rowO [x] T)) : Upd w (w.setCell ⟨b, 0, none⟩ v) b (rowO [v] T) := by
  refine ⟨rfl, rfl, rfl, by simp [World.setCell], ?_, fun k _ hk => RowKit.Below.heap_setCell w _ _ k hk⟩
  simp only [World.setCell, Array.getElem?_modify, if_true, hb]
  rfl
/-- What the listed variable holds, in the world that the law begins in. -/
def HG (w : World) : Prop := w.cell? ⟨0, 0, none⟩ = some (.iface 68 (.agg #[.pointer (some ⟨1, 35, none⟩)]))
theorem asHit {w0 w : World} {F : List Chunk} {b : Nat} {x : Value} (hS : St w0 w ([(b, rowO [x] 37)] :: F)) (hg : HG w0) (n : Int) :
    Ret Tryd.prog 15 #[.iface 37 (.int .i64 n), .iface 50 (.pointer (some ⟨b, 0, none⟩))] w (fun v w' => v = .bool true ∧ St w0 w' ([(b, rowO [.int .i64 n] 37)] :: F)) := by
  have hb := hS.heapAt 0 rfl
  refine Calls.mono (as_hit n ⟨b, 0, none⟩ x w (hS.old hg) (cell_row hb rfl) (by simp [World.frozen?, hb, rowO])) fun e w' ⟨he, hw⟩ => ⟨_, he, rfl, ?_⟩
  subst hw
  have h4 := (((hS.alloc (.cells #[.pointer (some ⟨b, 0, none⟩)] 50)).alloc (.cells #[.pointer (some ⟨1, 50, none⟩), .pointer (some ⟨w.heap.size, 0, none⟩), .int .u64 150] 57)).alloc (.cells #[.pointer (some ⟨1, 50, none⟩), .pointer (some ⟨w.heap.size, 0, none⟩), .int .u64 150] 57)).alloc (.cells #[.int .i64 n] 37)
  have h5 := h4.drop1.drop1.drop1.drop1
  exact h5.upd (upd_setCell (h5.heapAt 0 rfl))
theorem asNil {w0 w : World} {F : List Chunk} (hS : St w0 w F) (t : Value) :
    Ret Tryd.prog 15 #[.nilIface, t] w (fun v w' => v = .bool false ∧ St w0 w' F) :=
  Calls.mono (as_nil t w) fun e w' ⟨he, hw⟩ => ⟨_, he, rfl, hw ▸ hS⟩

theorem number_hit6 {w0 w : World} {F : List Chunk} (hS : St w0 w F) (hg : HG w0) (n : Int) :
    Ret Tryd.prog 6 #[.iface 37 (.int .i64 n)] w (fun v w' => v = .int .i64 n ∧ St w0 w' F) := by
  refine enter (vs := [.iface 37 (.int .i64 n)]) 8 Tryd.func6 rfl rfl (by simp) ?_; intro a hA
  refine wp_seq ?_
  refine wp_region_lit ?_
  refine st_run tbOk 1 hA (e' := (2, .int .i64 0) :: _) rfl ?_; clear hA; intro a hA
  refine wpList_nil ?_
  replace hA := hA.sel [0] (e' := [(0, .iface 37 (.int .i64 n))]) rfl
  refine xt_norm ?_
  refine wp_seq ?_
  refine wp_region_lit ?_
  refine st_alloc tbOk hA hS [.int .i64 0] rfl rfl rfl rfl rfl (by decide) ?_; clear hA hS; intro b1 w2 a hS hA
  refine wpList_nil ?_
  refine xt_norm ?_
  refine wp_seq ?_
  refine wp_seq ?_
  refine wp_region_lit ?_
  refine st_run tbOk 2 hA (e' := (5, .iface 50 (.pointer (some ⟨b1, 0, none⟩))) :: (4, .iface 37 (.int .i64 n)) :: _) rfl ?_; clear hA; intro a hA
  refine st_call0 hA rfl rfl rfl isfn15 rfl rfl (by decide) (asHit hS hg n) ?_
  clear hA hS; rintro v w3 a ⟨rfl, hS⟩ hA
  refine wpList_nil ?_
  replace hA := hA.sel [3, 6] (e' := [(3, .pointer (some ⟨b1, 0, none⟩)), (6, .bool true)]) rfl
  refine xt_norm ?_
  refine cd_cond_t hA rfl ?_
  refine wp_seq ?_
  refine wp_region_lit ?_
  refine st_val hA rfl rfl (by decide) (rn_load tbOk hA rfl rfl rfl rfl (cell_row (hS.heapAt 0 rfl) rfl)) ?_; clear hA; intro a hA
  refine st_run tbOk 1 hA (e' := (2, .int .i64 n) :: _) rfl ?_; clear hA; intro a hA
  refine wpList_nil ?_
  replace hA := hA.sel [2] (e' := [(2, .int .i64 n)]) rfl
  refine xt_norm ?_
  refine wp_ret (xt_ret ?_)
  refine ret1 (fn := Tryd.f6) hA rfl rfl ?_
  replace hS := hS.drop1
  exact ⟨rfl, hS⟩

theorem number_nil6 {w0 w : World} {F : List Chunk} (hS : St w0 w F) (hg : HG w0) :
    Ret Tryd.prog 6 #[.nilIface] w (fun v w' => v = .int .i64 0 ∧ St w0 w' F) := by
  refine enter (vs := [.nilIface]) 8 Tryd.func6 rfl rfl (by simp) ?_; intro a hA
  refine wp_seq ?_
  refine wp_region_lit ?_
  refine st_run tbOk 1 hA (e' := (2, .int .i64 0) :: _) rfl ?_; clear hA; intro a hA
  refine wpList_nil ?_
  replace hA := hA.sel [0] (e' := [(0, .nilIface)]) rfl
  refine xt_norm ?_
  refine wp_seq ?_
  refine wp_region_lit ?_
  refine st_alloc tbOk hA hS [.int .i64 0] rfl rfl rfl rfl rfl (by decide) ?_; clear hA hS; intro b1 w2 a hS hA
  refine wpList_nil ?_
  refine xt_norm ?_
  refine wp_seq ?_
  refine wp_seq ?_
  refine wp_region_lit ?_
  refine st_run tbOk 2 hA (e' := (5, .iface 50 (.pointer (some ⟨b1, 0, none⟩))) :: (4, .nilIface) :: _) rfl ?_; clear hA; intro a hA
  refine st_call0 hA rfl rfl rfl isfn15 rfl rfl (by decide) (asNil hS _) ?_
  clear hA hS; rintro v w3 a ⟨rfl, hS⟩ hA
  refine wpList_nil ?_
  replace hA := hA.sel [3, 6] (e' := [(3, .pointer (some ⟨b1, 0, none⟩)), (6, .bool false)]) rfl
  refine xt_norm ?_
  refine cd_cond_f hA rfl ?_
  refine wp_skip ?_
  refine xt_norm ?_
  refine wp_seq ?_
  refine wp_region_lit ?_
  refine st_run tbOk 1 hA (e' := (2, .int .i64 0) :: _) rfl ?_; clear hA; intro a hA
  refine wpList_nil ?_
  replace hA := hA.sel [2] (e' := [(2, .int .i64 0)]) rfl
  refine xt_norm ?_
  refine wp_ret ?_
  refine ret1 (fn := Tryd.f6) hA rfl rfl ?_
  replace hS := hS.drop1
  exact ⟨rfl, hS⟩

def pst (x : Pkt) : Int × Int × Int × Int × Int × List UInt8 := (x.1, x.2.1, x.2.2.1, x.2.2.2.1, x.2.2.2.2.1, pdat x)
structure PI (ps rs : List Pkt) : Prop where
  eq : ps.map pst = rs.map pst
  ln : rs.length ≤ 1024
  sz : ∀ x ∈ rs, (pdat x).length ≤ 140737488351232
theorem PI.nil : PI [] [] := ⟨rfl, by simp, by simp⟩
theorem PI.len {ps rs : List Pkt} (h : PI ps rs) : ps.length = rs.length := by
  have := congrArg List.length h.eq; simpa using this
theorem PI.at_ {ps rs : List Pkt} (h : PI ps rs) {k : Nat} {x y : Pkt} (hx : ps[k]? = some x) (hy : rs[k]? = some y) : pst x = pst y := by
  have h1 : (ps.map pst)[k]? = some (pst x) := by rw [List.getElem?_map, hx]; rfl
  have h2 : (rs.map pst)[k]? = some (pst y) := by rw [List.getElem?_map, hy]; rfl
  rw [h.eq, h2] at h1
  exact (Option.some.inj h1).symm
theorem PI.szp {ps rs : List Pkt} (h : PI ps rs) : ∀ x ∈ ps, (pdat x).length ≤ 140737488351232 := fun x hx => by
  obtain ⟨k, hk⟩ := List.mem_iff_getElem?.1 hx
  have hkl := (List.getElem?_eq_some_iff.1 hk).1
  have hl := h.len
  obtain ⟨y, hy⟩ := get_ex (l := rs) (k := k) (by omega)
  have e := congrArg (fun z => z.2.2.2.2.2.length) (h.at_ hk hy)
  have := h.sz y (List.mem_of_getElem? hy)
  simp only [pst] at e
  omega
theorem prm_sub {α : Type} (l : List α) (k : Nat) : (l.take k ++ l.drop (k + 1)).Sublist l := by
  have : l.take k ++ l.drop (k + 1) = l.eraseIdx k := (List.eraseIdx_eq_take_drop_succ l k).symm
  rw [this]; exact List.eraseIdx_sublist l k
theorem PI.send {ps rs : List Pkt} (h : PI ps rs) {x y : Pkt} (hxy : pst x = pst y) (hl : rs.length < 1024) (hs : (pdat y).length ≤ 140737488351232) : PI (ps ++ [x]) (rs ++ [y]) :=
  ⟨by rw [List.map_append, List.map_append, h.eq]; simp [hxy], by simp; omega, fun z hz => (List.mem_append.1 hz).elim (h.sz z) (fun hz => by rw [List.mem_singleton.1 hz]; exact hs)⟩
theorem PI.get {ps rs : List Pkt} (h : PI ps rs) (k : Nat) : PI (ps.take k ++ ps.drop (k + 1)) (rs.take k ++ rs.drop (k + 1)) :=
  ⟨by rw [List.map_append, List.map_append, List.map_take, List.map_drop, List.map_take, List.map_drop, h.eq], Nat.le_trans (prm_sub rs k).length_le h.ln, fun x hx => h.sz x ((prm_sub rs k).subset hx)⟩
theorem cutl_map (n : Int) (l : List Pkt) : (cutl n l).map pst = (l.map pst).filter (fun y => !(y.1 == n || y.2.1 == n)) := by
  rw [List.filter_map]; rfl
theorem PI.cut {ps rs : List Pkt} (h : PI ps rs) (n : Int) : PI (cutl n ps) (cutl n rs) :=
  ⟨by rw [cutl_map, cutl_map, h.eq], Nat.le_trans (List.length_filter_le _ _) h.ln, fun x hx => h.sz x (cutl_sub hx)⟩
theorem PI.dropl {ps rs : List Pkt} (h : PI ps rs) {i : Nat} {x y : Pkt} (hx : (ps.drop i)[0]? = some x) (hy : rs[i]? = some y) : pst x = pst y := by
  rw [List.getElem?_drop] at hx; exact h.at_ hx hy
def pty (l : List Pkt) (n : Int) (k : Nat) : List Pkt := cutl n (l.take k)
theorem pty_yes {l : List Pkt} {n : Int} {k : Nat} {x : Pkt} (hx : l[k]? = some x) (h : ¬ x.1 = n ∧ ¬ x.2.1 = n) : pty l n k ++ [x] = pty l n (k + 1) := by
  rw [pty, pty, cutl, cutl, List.take_add_one, hx, List.filter_append]
  congr 1
  simp [onn, h]
theorem pty_no {l : List Pkt} {n : Int} {k : Nat} {x : Pkt} (hx : l[k]? = some x) (h : x.1 = n ∨ x.2.1 = n) : pty l n k = pty l n (k + 1) := by
  rw [pty, pty, cutl, cutl, List.take_add_one, hx, List.filter_append]
  rcases h with h | h <;> simp [onn, h]
theorem pty_le (l : List Pkt) (n : Int) (k : Nat) : (pty l n k).length ≤ k := by
  rw [pty]; exact Nat.le_trans (List.length_filter_le _ _) (by rw [List.length_take]; omega)
theorem pty_all (l : List Pkt) (n : Int) : pty l n l.length = cutl n l := by rw [pty, List.take_length]
theorem dbl_dd {w0 : World} {rs : List Pkt} {x : Pkt} {k : Nat} (h : ∀ x ∈ rs, ∀ D, encPacket_dd w0 D x) (hx : rs[k]? = some x) : ∀ y ∈ rs ++ [x], ∀ D, encPacket_dd w0 D y := fun y hy D => (List.mem_append.1 hy).elim (fun h2 => h y h2 D) (fun h2 => by rw [List.mem_singleton.1 h2]; exact h x (List.mem_of_getElem? hx) D)
theorem snd_dd {w0 : World} {rs : List Pkt} {x : Pkt} (h : ∀ x ∈ rs, ∀ D, encPacket_dd w0 D x) (hx : ∀ D, encPacket_dd w0 D x) : ∀ y ∈ rs ++ [x], ∀ D, encPacket_dd w0 D y := fun y hy D => (List.mem_append.1 hy).elim (fun h2 => h y h2 D) (fun h2 => by rw [List.mem_singleton.1 h2]; exact hx D)

section
open Go.ChangeShapes Go.WideShapes Go.RowKit
def encAct (x : Int × Int × Int × Option Addr × Nat × List UInt8) : List Value := [.int .u8 x.1, .int .i64 x.2.1, .int .u8 x.2.2.1, .slice x.2.2.2.1 x.2.2.2.2.2.length x.2.2.2.2.1]
theorem encAct_ok : Enc encAct 4 := ⟨fun _ => rfl, fun x u hu => by simp only [encAct, List.mem_cons, List.not_mem_nil, or_false] at hu; rcases hu with rfl | rfl | rfl | rfl <;> rfl⟩
def encAct_dd (w0 : World) (D : Chunk) (x : Int × Int × Int × Option Addr × Nat × List UInt8) : Prop := DD w0 D x.2.2.2.1 x.2.2.2.2.1 x.2.2.2.2.2
theorem encAct_left {w0 : World} {D E : Chunk} {x : Int × Int × Int × Option Addr × Nat × List UInt8} (h : encAct_dd w0 D x) : encAct_dd w0 (E ++ D) x := DD.left h
theorem encAct_lefts {w0 : World} {D E : Chunk} {l : List (Int × Int × Int × Option Addr × Nat × List UInt8)} (h : ∀ x ∈ l, encAct_dd w0 D x) : ∀ x ∈ l, encAct_dd w0 (E ++ D) x := fun x hx => encAct_left (h x hx)
def encAct_good (w : World) (x : (Int × Int × Int × Option Addr × Nat × List UInt8)) : Prop := (0 ≤ x.1 ∧ x.1 < 256) ∧ (-9223372036854775808 ≤ x.2.1 ∧ x.2.1 < 9223372036854775808) ∧ (0 ≤ x.2.2.1 ∧ x.2.2.1 < 256) ∧ (RdX w 1 (.slice x.2.2.2.1 x.2.2.2.2.2.length x.2.2.2.2.1) x.2.2.2.2.2.length (rows encB x.2.2.2.2.2) ∧ x.2.2.2.2.2.length ≤ 140737488351232)
theorem dec_encAct {H : Type} {enc : TypeId × Value → H} {w : World} {spare : Nat → Bool} {held : Bool} : ∀ n cs x, DataW.trod enc Tryd.prog w 0 spare held n 30 cs = some x → WOk Tryd.prog 30 x.1 → ∃ a, cs = encAct a ∧ encAct_good w a := fun n cs x h hw => by
  obtain ⟨xs, m, _, hx, hl, hxl, hf⟩ := DataW.trod_struct Tryd.underlying30 h
  subst hx
  have hc : Tryd.prog.cellsOf 30 = 4 := by kernel_rfl
  rw [hc] at hl
  obtain ⟨c0, c1, c2, c3, rfl⟩ : ∃ c0 c1 c2 c3, cs = [c0, c1, c2, c3] := by
    match cs, hl with
    | [c0, c1, c2, c3], _ => exact ⟨_, _, _, _, rfl⟩
  obtain ⟨y0, hy0⟩ : ∃ y, xs[0]? = some y := ⟨_, List.getElem?_eq_getElem (by rw [hxl]; decide)⟩
  have h0 : DataW.trod enc Tryd.prog w 0 spare held m 5 (([c0, c1, c2, c3].drop 0).take (Tryd.prog.cellsOf 5)) = xs[0]? := hf 0 _ rfl
  have k0 : Tryd.prog.cellsOf 5 = 1 := by kernel_rfl
  have w0 : WOk Tryd.prog 5 y0.1 := hw.part Tryd.underlying30 (i := 0) rfl (by rw [List.getElem?_map, hy0]; rfl)
  rw [k0, hy0] at h0
  obtain ⟨n0, e0, _, g0⟩ := DataW.trod_int Tryd.underlying5 h0
  simp only [List.drop_succ_cons, List.drop_zero, List.take_succ_cons, List.take_zero] at e0
  injection e0 with e0 _
  obtain ⟨y1, hy1⟩ : ∃ y, xs[1]? = some y := ⟨_, List.getElem?_eq_getElem (by rw [hxl]; decide)⟩
  have h1 : DataW.trod enc Tryd.prog w 0 spare held m 3 (([c0, c1, c2, c3].drop 1).take (Tryd.prog.cellsOf 3)) = xs[1]? := hf 1 _ rfl
  have k1 : Tryd.prog.cellsOf 3 = 1 := by kernel_rfl
  have w1 : WOk Tryd.prog 3 y1.1 := hw.part Tryd.underlying30 (i := 1) rfl (by rw [List.getElem?_map, hy1]; rfl)
  rw [k1, hy1] at h1
  obtain ⟨n1, e1, _, g1⟩ := DataW.trod_int Tryd.underlying3 h1
  simp only [List.drop_succ_cons, List.drop_zero, List.take_succ_cons, List.take_zero] at e1
  injection e1 with e1 _
  obtain ⟨y2, hy2⟩ : ∃ y, xs[2]? = some y := ⟨_, List.getElem?_eq_getElem (by rw [hxl]; decide)⟩
  have h2 : DataW.trod enc Tryd.prog w 0 spare held m 5 (([c0, c1, c2, c3].drop 2).take (Tryd.prog.cellsOf 5)) = xs[2]? := hf 2 _ rfl
  have k2 : Tryd.prog.cellsOf 5 = 1 := by kernel_rfl
  have w2 : WOk Tryd.prog 5 y2.1 := hw.part Tryd.underlying30 (i := 2) rfl (by rw [List.getElem?_map, hy2]; rfl)
  rw [k2, hy2] at h2
  obtain ⟨n2, e2, _, g2⟩ := DataW.trod_int Tryd.underlying5 h2
  simp only [List.drop_succ_cons, List.drop_zero, List.take_succ_cons, List.take_zero] at e2
  injection e2 with e2 _
  obtain ⟨y3, hy3⟩ : ∃ y, xs[3]? = some y := ⟨_, List.getElem?_eq_getElem (by rw [hxl]; decide)⟩
  have h3 : DataW.trod enc Tryd.prog w 0 spare held m 28 (([c0, c1, c2, c3].drop 3).take (Tryd.prog.cellsOf 28)) = xs[3]? := hf 3 _ rfl
  have k3 : Tryd.prog.cellsOf 28 = 1 := by kernel_rfl
  have w3 : WOk Tryd.prog 28 y3.1 := hw.part Tryd.underlying30 (i := 3) rfl (by rw [List.getElem?_map, hy3]; rfl)
  rw [k3, hy3] at h3
  obtain ⟨A3, d3, b3, e3, g3⟩ := dec_bytes Tryd.underlying28 Tryd.underlying5 (by kernel_rfl) (by kernel_rfl) _ _ _ h3 w3
  simp only [List.drop_succ_cons, List.drop_zero, List.take_succ_cons, List.take_zero] at e3
  injection e3 with e3 _
  subst e0
  subst e1
  subst e2
  subst e3
  exact ⟨(n0, n1, n2, A3, d3, b3), rfl, ⟨wf_u8 g0, wf_i64 g1, wf_u8 g2, g3⟩⟩
theorem encAct_gdd {w : World} {D : Chunk} {x : (Int × Int × Int × Option Addr × Nat × List UInt8)} (h : encAct_good w x) : encAct_dd w D x := DD.of (h.2.2.2).1
end

end Go.Proofs.YtdchjphmfkjamaaDoor
