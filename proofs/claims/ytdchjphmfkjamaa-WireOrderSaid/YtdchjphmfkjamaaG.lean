import Derived.Test.YtdchjphmfkjamaaProg
import Derived.Test.YtdchjphmfkjamaaSK12
set_option linter.unusedVariables false
set_option linter.unusedSimpArgs false
set_option maxRecDepth 4000
namespace Go.Proofs.Ytdchjphmfkjamaa
open Go Go.SK
theorem mixed : Try.prog.follows .mixedOrders = true := by kernel_rfl
theorem isfn6 : IsFn Try.prog 6 := fun args w => by kernel_rfl
theorem isfn7 : IsFn Try.prog 7 := fun args w => by kernel_rfl
theorem isfn8 : IsFn Try.prog 8 := fun args w => by kernel_rfl
theorem isfn9 : IsFn Try.prog 9 := fun args w => by kernel_rfl
theorem isfn10 : IsFn Try.prog 10 := fun args w => by kernel_rfl
theorem isfn11 : IsFn Try.prog 11 := fun args w => by kernel_rfl
theorem isfn12 : IsFn Try.prog 12 := fun args w => by kernel_rfl
theorem isfn13 : IsFn Try.prog 13 := fun args w => by kernel_rfl
noncomputable def tb : List TI := [
  ⟨3, Try.t3.desc, 1, 8, .int .i64 0⟩,
  ⟨4, Try.t4.desc, 1, 1, .bool false⟩,
  ⟨5, Try.t5.desc, 1, 1, .int .u8 0⟩,
  ⟨9, Try.t9.desc, 1, 16, .string (⟨#[]⟩ : ByteArray)⟩,
  ⟨24, Try.t24.desc, 1, 24, .slice none 0 0⟩,
  ⟨26, Try.t25.desc, 1, 24, .agg #[.slice none 0 0]⟩,
  ⟨28, Try.t27.desc, 1, 16, .nilIface⟩,
  ⟨30, Try.t30.desc, 1, 8, .int .u64 0⟩,
  ⟨31, Try.t31.desc, 1, 24, .slice none 0 0⟩,
  ⟨33, Try.t32.desc, 6, 64, .agg #[.int .i64 0, .int .i64 0, .int .u64 0, .int .i64 0, .int .i64 0, .slice none 0 0]⟩,
  ⟨41, Try.t3.desc, 1, 8, .int .i64 0⟩]
theorem tbOk : TabOk Try.prog tb := ⟨
  ⟨by kernel_rfl, Try.t3, by kernel_rfl, by kernel_rfl, by kernel_rfl, by kernel_rfl⟩,
  ⟨by kernel_rfl, Try.t4, by kernel_rfl, by kernel_rfl, by kernel_rfl, by kernel_rfl⟩,
  ⟨by kernel_rfl, Try.t5, by kernel_rfl, by kernel_rfl, by kernel_rfl, by kernel_rfl⟩,
  ⟨by kernel_rfl, Try.t9, by kernel_rfl, by kernel_rfl, by kernel_rfl, by kernel_rfl⟩,
  ⟨by kernel_rfl, Try.t24, by kernel_rfl, by kernel_rfl, by kernel_rfl, by kernel_rfl⟩,
  ⟨by kernel_rfl, Try.t26, by kernel_rfl, by kernel_rfl, by kernel_rfl, by kernel_rfl⟩,
  ⟨by kernel_rfl, Try.t28, by kernel_rfl, by kernel_rfl, by kernel_rfl, by kernel_rfl⟩,
  ⟨by kernel_rfl, Try.t30, by kernel_rfl, by kernel_rfl, by kernel_rfl, by kernel_rfl⟩,
  ⟨by kernel_rfl, Try.t31, by kernel_rfl, by kernel_rfl, by kernel_rfl, by kernel_rfl⟩,
  ⟨by kernel_rfl, Try.t33, by kernel_rfl, by kernel_rfl, by kernel_rfl, by kernel_rfl⟩,
  ⟨by kernel_rfl, Try.t41, by kernel_rfl, by kernel_rfl, by kernel_rfl, by kernel_rfl⟩,
  trivial⟩
def encPacket (x : Int × Int × Int × Int × Int × Option Addr × Nat × List UInt8) : List Value := [.int .i64 x.1, .int .i64 x.2.1, .int .u64 x.2.2.1, .int .i64 x.2.2.2.1, .int .i64 x.2.2.2.2.1, .slice x.2.2.2.2.2.1 x.2.2.2.2.2.2.2.length x.2.2.2.2.2.2.1]
theorem encPacket_ok : Enc encPacket 6 := ⟨fun _ => rfl, fun x u hu => by simp only [encPacket, List.mem_cons, List.not_mem_nil, or_false] at hu; rcases hu with rfl | rfl | rfl | rfl | rfl | rfl <;> rfl⟩
def encPacket_dd (w0 : World) (D : Chunk) (x : Int × Int × Int × Int × Int × Option Addr × Nat × List UInt8) : Prop := DD w0 D x.2.2.2.2.2.1 x.2.2.2.2.2.2.1 x.2.2.2.2.2.2.2
theorem encPacket_left {w0 : World} {D E : Chunk} {x : Int × Int × Int × Int × Int × Option Addr × Nat × List UInt8} (h : encPacket_dd w0 D x) : encPacket_dd w0 (E ++ D) x := DD.left h
theorem encPacket_lefts {w0 : World} {D E : Chunk} {l : List (Int × Int × Int × Int × Int × Option Addr × Nat × List UInt8)} (h : ∀ x ∈ l, encPacket_dd w0 D x) : ∀ x ∈ l, encPacket_dd w0 (E ++ D) x := fun x hx => encPacket_left (h x hx)

abbrev Pkt := Int × Int × Int × Int × Int × Option Addr × Nat × List UInt8
def pdat (x : Pkt) : List UInt8 := x.2.2.2.2.2.2.2
/-- A wire at a block: its packets. -/
def WR (b : Nat) (ps : List Pkt) (L : Chunk) : Prop := ∃ v C, Own 33 6 v ps.length (rows encPacket ps) C ∧ L = (b, rowO [v] 26) :: C
theorem WR.new (b : Nat) : WR b [] [(b, rowO [.slice none 0 0] 26)] := ⟨_, [], Own.nil _ _, rfl⟩
theorem dd_sub {w0 : World} {D : Chunk} {ps : List Pkt} (h : ∀ x ∈ ps, encPacket_dd w0 D x) (k : Nat) : ∀ x ∈ ps.take k ++ ps.drop (k + 1), encPacket_dd w0 D x := fun x hx => by
  rcases List.mem_append.1 hx with hx | hx
  · exact h x (List.mem_of_mem_take hx)
  · exact h x (List.mem_of_mem_drop hx)
theorem dd_app {w0 : World} {D E : Chunk} {ps : List Pkt} {x0 x1 x2 x3 x4 : Int} {A : Option Addr} {c : Nat} {bs : List UInt8} (h : ∀ x ∈ ps, encPacket_dd w0 D x) (hd : DD w0 E A c bs) : ∀ x ∈ ps ++ [(x0, x1, x2, x3, x4, A, c, bs)], encPacket_dd w0 (E ++ D) x := fun x hx => by
  rcases List.mem_append.1 hx with hx | hx
  · exact encPacket_left (h x hx)
  · rw [List.mem_singleton.1 hx]; exact hd.right

theorem delete13 {w0 w : World} {F : List Chunk} {C : Chunk} (hS : St w0 w (C :: F)) {v : Value} {l : List (Int × Int × Int × Int × Int × Option Addr × Nat × List UInt8)} (hO : Own 33 6 v l.length (rows encPacket l) C) (i j : Nat) (hij : i ≤ j) (hj : j ≤ l.length) :
    Ret Try.prog 13 #[v, .int .i64 ((i : Nat) : Int), .int .i64 ((j : Nat) : Int)] w (fun v w' => ∃ C', Own 33 6 v (l.take i ++ l.drop j).length (rows encPacket (l.take i ++ l.drop j)) C' ∧ St w0 w' (C' :: F)) := by
  obtain ⟨A, c, rfl, hmc, hcx⟩ := hO.open'
  refine enter (vs := [.slice A l.length c, .int .i64 ((i : Nat) : Int), .int .i64 ((j : Nat) : Int)]) 33 Try.func13 rfl rfl (by simp) ?_; intro a hA
  refine wp_seq ?_
  refine wp_region_lit ?_
  refine st_run tbOk 1 hA (e' := (6, .slice none 0 0) :: _) rfl ?_; clear hA; intro a hA
  refine wpList_nil ?_
  replace hA := hA.sel [0, 1, 2] (e' := [(0, .slice A l.length c), (1, .int .i64 ((i : Nat) : Int)), (2, .int .i64 ((j : Nat) : Int))]) rfl
  refine xt_norm ?_
  refine wp_seq ?_
  refine wp_region_lit ?_
  refine st_run tbOk 5 hA (e' := (12, .int .i64 ((l.length : Nat) : Int)) :: (11, .slice A l.length c) :: (10, .int .i64 ((j : Nat) : Int)) :: (9, .int .i64 ((i : Nat) : Int)) :: (8, .slice A l.length c) :: _) rfl ?_; clear hA; intro a hA
  refine st_val hA rfl rfl (by decide) (rn_slice_lhm tbOk hA i j l.length rfl rfl rfl rfl rfl rfl rfl rfl (by rfl) (by rfl) (by rfl) (by omega) (by omega) (by omega)) ?_; clear hA; intro a hA
  refine wpList_nil ?_
  replace hA := hA.sel [0, 1, 2] (e' := [(0, .slice A l.length c), (1, .int .i64 ((i : Nat) : Int)), (2, .int .i64 ((j : Nat) : Int))]) rfl
  refine xt_norm ?_
  refine wp_seq ?_
  refine wp_seq ?_
  refine wp_region_lit ?_
  refine st_run tbOk 3 hA (e' := (16, .bool (((i : Nat) : Int) == ((j : Nat) : Int))) :: (15, .int .i64 ((j : Nat) : Int)) :: (14, .int .i64 ((i : Nat) : Int)) :: _) rfl ?_; clear hA; intro a hA
  refine wpList_nil ?_
  replace hA := hA.sel [0, 1, 2, 16] (e' := [(0, .slice A l.length c), (1, .int .i64 ((i : Nat) : Int)), (2, .int .i64 ((j : Nat) : Int)), (16, .bool (((i : Nat) : Int) == ((j : Nat) : Int)))]) rfl
  refine xt_norm ?_
  by_cases hc1 : ((i : Nat) : Int) = ((j : Nat) : Int)
  · first
    | (exfalso; omega)
    | (replace hA := hA.rw 16 (v' := .bool true) rfl (vb_eq_t hc1)
       refine cd_cond_t hA rfl ?_
       refine wp_seq ?_
       refine wp_region_lit ?_
       refine st_run tbOk 2 hA (e' := (6, .slice A l.length c) :: (17, .slice A l.length c) :: _) rfl ?_; clear hA; intro a hA
       refine wpList_nil ?_
       replace hA := hA.sel [6] (e' := [(6, .slice A l.length c)]) rfl
       refine xt_norm ?_
       refine wp_ret (xt_ret ?_)
       refine ret1 (fn := Try.f13) hA rfl rfl ?_
       have e0 : l.take i ++ l.drop j = l := by rw [show j = i by omega, List.take_append_drop]
       exact ⟨C, by rw [e0]; exact hO, hS⟩)
  · first
    | (exfalso; omega)
    | (replace hA := hA.rw 16 (v' := .bool false) rfl (vb_eq_f hc1)
       refine cd_cond_f hA rfl ?_
       refine wp_skip ?_
       refine xt_norm ?_
       refine wp_seq ?_
       refine wp_region_lit ?_
       refine st_run tbOk 3 hA (e' := (7, .int .i64 ((l.length : Nat) : Int)) :: (19, .int .i64 ((l.length : Nat) : Int)) :: (18, .slice A l.length c) :: _) rfl ?_; clear hA; intro a hA
       refine wpList_nil ?_
       replace hA := hA.sel [0, 1, 2, 7] (e' := [(0, .slice A l.length c), (1, .int .i64 ((i : Nat) : Int)), (2, .int .i64 ((j : Nat) : Int)), (7, .int .i64 ((l.length : Nat) : Int))]) rfl
       refine xt_norm ?_
       refine wp_seq ?_
       refine wp_draw (fun w' => St w0 w' (F)) [] [(0, true), (1, true), (2, true), (3, true), (4, true), (5, true), (6, false), (7, true)] mixed (by kernel_rfl) (by rintro c a w ⟨_, _, h, _⟩; cases h) (by rfl) (by kernel_rfl) ?_
       replace hS := hS.drew
       refine dr_run tbOk 2 hA (hS.tail 1 rfl) (e' := (21, .int .i64 ((i : Nat) : Int)) :: (20, .slice A l.length c) :: _) rfl ?_; clear hA; intro a hA
       refine dr_y hA rfl rfl rfl (by decide) (hS.tail 1 rfl) (fun w' hS' => rn_slice_h tbOk hA i rfl rfl rfl rfl rfl rfl (by rfl) (by omega)) ?_; clear hA; intro a hA
       refine dr_run tbOk 2 hA (hS.tail 1 rfl) (e' := (24, .int .i64 ((j : Nat) : Int)) :: (23, .slice A l.length c) :: _) rfl ?_; clear hA; intro a hA
       refine dr_y hA rfl rfl rfl (by decide) (hS.tail 1 rfl) (fun w' hS' => rn_slice_l tbOk hA j rfl rfl rfl rfl rfl rfl (by rfl) (by omega)) ?_; clear hA; intro a hA
       refine dr_b (o := _) rfl ?_
       refine st_append_rm tbOk hA (m := i) (q := ((l.take l.length).drop j).length) (c := c) (xs := (rows encPacket l).take (i * 6)) (news := rows encPacket ((l.take l.length).drop j)) rfl rfl rfl rfl rfl rfl rfl (hO.head i (by omega)) hS ((hO.rd (hS.own_ 0 rfl)).rslv encPacket_ok j l.length c (by omega) (by omega) (by omega) (by omega)) (rows_one encPacket_ok _) (by simp; omega) rfl rfl (by decide) ?_
       clear hA hS; intro w2 C3 a hO3 hS hA
       have e1 : i + ((l.take l.length).drop j).length = (l.take i ++ l.drop j).length := by simp; omega
       have e2 : (rows encPacket l).take (i * 6) ++ rows encPacket ((l.take l.length).drop j) = rows encPacket (l.take i ++ l.drop j) := by rw [rows_take encPacket_ok, rows_append, List.take_length]
       rw [e2, e1] at hO3
       rw [e1] at hA
       have e3 : (l.take i ++ l.drop j).length ≤ l.length := by simp; omega
       refine dr_nil (.inr (hS.tail 1 rfl)) ?_
       refine dr_run tbOk 1 hA (hS.tail 1 rfl) (e' := (0, .slice A ((l.take i ++ l.drop j).length) c) :: _) rfl ?_; clear hA; intro a hA
       refine dr_end ?_
       replace hA := hA.sel [0, 7] (e' := [(0, .slice A ((l.take i ++ l.drop j).length) c), (7, .int .i64 ((l.length : Nat) : Int))]) rfl
       refine xt_norm ?_
       refine wp_seq ?_
       refine wp_region_lit ?_
       refine st_run tbOk 4 hA (e' := (30, .int .i64 ((l.length : Nat) : Int)) :: (29, .int .i64 (((l.take i ++ l.drop j).length : Nat) : Int)) :: (28, .slice A ((l.take i ++ l.drop j).length) c) :: (27, .slice A ((l.take i ++ l.drop j).length) c) :: _) rfl ?_; clear hA; intro a hA
       refine st_val hA rfl rfl (by decide) (rn_slice_lh tbOk hA ((l.take i ++ l.drop j).length) l.length rfl rfl rfl rfl rfl rfl rfl (by rfl) (by rfl) (by omega) (by omega)) ?_; clear hA; intro a hA
       refine st_clear tbOk hA (h := (l.take i ++ l.drop j).length) (old := l.length) (c := c) rfl rfl rfl rfl rfl rfl (fun u hu => List.all_eq_true.1 (by rfl) u hu) hO3 hS (by omega) (by omega) rfl rfl ?_; clear hS; intro w4 C5 hO5 hS
       refine wpList_nil ?_
       replace hA := hA.sel [0] (e' := [(0, .slice A ((l.take i ++ l.drop j).length) c)]) rfl
       refine xt_norm ?_
       refine wp_seq ?_
       refine wp_region_lit ?_
       refine st_run tbOk 2 hA (e' := (6, .slice A ((l.take i ++ l.drop j).length) c) :: (32, .slice A ((l.take i ++ l.drop j).length) c) :: _) rfl ?_; clear hA; intro a hA
       refine wpList_nil ?_
       replace hA := hA.sel [6] (e' := [(6, .slice A ((l.take i ++ l.drop j).length) c)]) rfl
       refine xt_norm ?_
       refine wp_ret ?_
       refine ret1 (fn := Try.f13) hA rfl rfl ?_
       exact ⟨_, hO5, hS⟩)

theorem copied11 {w0 w : World} {F : List Chunk} (hS : St w0 w F) (x0 x1 x2 x3 x4 : Int) {d : Value} {bs : List UInt8} (hd : RdS w0 F 1 d bs.length (rows encB bs)) (hbl : bs.length ≤ 140737488351232) :
    Ret Try.prog 11 #[.agg #[.int .i64 x0, .int .i64 x1, .int .u64 x2, .int .i64 x3, .int .i64 x4, d]] w (fun v w' => ∃ A c C, Own 5 1 (.slice A bs.length c) bs.length (rows encB bs) C ∧ v = .agg #[.int .i64 x0, .int .i64 x1, .int .u64 x2, .int .i64 x3, .int .i64 x4, .slice A bs.length c] ∧ St w0 w' (C :: F)) := by
  obtain ⟨A, c, rfl, hmc, hcx⟩ := (hd w hS).open'
  refine enter (vs := [.agg #[.int .i64 x0, .int .i64 x1, .int .u64 x2, .int .i64 x3, .int .i64 x4, .slice A bs.length c]]) 8 Try.func11 rfl rfl (by simp) ?_; intro a hA
  refine wp_seq ?_
  refine wp_region_lit ?_
  refine st_box hA hS [.int .i64 x0, .int .i64 x1, .int .u64 x2, .int .i64 x3, .int .i64 x4, .slice A bs.length c] rfl rfl rfl rfl rfl (by decide) ?_; clear hA hS; intro b1 w2 a hS hA
  refine st_alloc tbOk hA hS [.int .i64 0, .int .i64 0, .int .u64 0, .int .i64 0, .int .i64 0, .slice none 0 0] rfl rfl rfl rfl rfl (by decide) ?_; clear hA hS; intro b3 w4 a hS hA
  refine wpList_nil ?_
  replace hA := hA.sel [1, 2] (e' := [(1, .pointer (some ⟨b1, 0, none⟩)), (2, .pointer (some ⟨b3, 0, none⟩))]) rfl
  refine xt_norm ?_
  refine wp_seq ?_
  refine wp_region_lit ?_
  refine st_run tbOk 1 hA (e' := (3, .pointer (some ⟨b1, 5, none⟩)) :: _) rfl ?_; clear hA; intro a hA
  refine st_val hA rfl rfl (by decide) (rn_load tbOk hA rfl rfl rfl rfl (cell_row (hS.heapAt 1 rfl) rfl)) ?_; clear hA; intro a hA
  replace hS := hS.nil
  refine st_append tbOk hA (m := 0) (q := bs.length) (xs := rows encB ([] : List UInt8)) (news := rows encB bs) rfl rfl rfl rfl rfl rfl rfl rfl (by decide) (Own.nil 5 1) hS (hd _ (hS.tail 3 rfl)) (rows_one encB_ok _) (maxLen_le (by omega)) (by show (0 + bs.length) * 1 ≤ 140737488355328; omega) rfl rfl (by decide) ?_
  clear hA hS; intro v5 w6 C7 a hO7 hS hA
  replace hO7 := Own.app (l := ([] : List UInt8)) (l2 := bs) hO7
  replace hO7 : Own 5 1 v5 bs.length (rows encB bs) C7 := hO7
  obtain ⟨A8, c9, rfl, hmc9, hxc9⟩ := hO7.open'
  refine st_run tbOk 1 hA (e' := (6, .pointer (some ⟨b1, 5, none⟩)) :: _) rfl ?_; clear hA; intro a hA
  replace hS := hS.front 2 (C := [(b1, rowO [.int .i64 x0, .int .i64 x1, .int .u64 x2, .int .i64 x3, .int .i64 x4, .slice A bs.length c] 33)]) (L' := C7 :: [(b3, rowO [.int .i64 0, .int .i64 0, .int .u64 0, .int .i64 0, .int .i64 0, .slice none 0 0] 33)] :: F) rfl rfl
  refine st_store tbOk hA hS [.slice A8 bs.length c9] [.int .i64 x0, .int .i64 x1, .int .u64 x2, .int .i64 x3, .int .i64 x4, .slice A8 bs.length c9] rfl rfl rfl rfl rfl rfl (by intro u hu; rw [List.mem_singleton.1 hu]; rfl) (Nat.le_of_ble_eq_true rfl) rfl rfl rfl ?_; clear hS; intro w10 hS
  refine wpList_nil ?_
  replace hA := hA.sel [1, 2] (e' := [(1, .pointer (some ⟨b1, 0, none⟩)), (2, .pointer (some ⟨b3, 0, none⟩))]) rfl
  refine xt_norm ?_
  refine wp_seq ?_
  refine wp_region_lit ?_
  refine st_val hA rfl rfl (by decide) (rn_loadA tbOk hA [.int .i64 x0, .int .i64 x1, .int .u64 x2, .int .i64 x3, .int .i64 x4, .slice A8 bs.length c9] rfl rfl rfl rfl rfl (cells_row (hS.heapAt 0 rfl) rfl)) ?_; clear hA; intro a hA
  replace hS := hS.front 2 (C := [(b3, rowO [.int .i64 0, .int .i64 0, .int .u64 0, .int .i64 0, .int .i64 0, .slice none 0 0] 33)]) (L' := [(b1, rowO [.int .i64 x0, .int .i64 x1, .int .u64 x2, .int .i64 x3, .int .i64 x4, .slice A8 bs.length c9] 33)] :: C7 :: F) rfl rfl
  refine st_store tbOk hA hS [.int .i64 x0, .int .i64 x1, .int .u64 x2, .int .i64 x3, .int .i64 x4, .slice A8 bs.length c9] [.int .i64 x0, .int .i64 x1, .int .u64 x2, .int .i64 x3, .int .i64 x4, .slice A8 bs.length c9] rfl rfl rfl rfl rfl rfl (by simp [Value.oneCell']) (Nat.le_of_ble_eq_true rfl) rfl rfl rfl ?_; clear hS; intro w11 hS
  refine wpList_nil ?_
  replace hA := hA.sel [2] (e' := [(2, .pointer (some ⟨b3, 0, none⟩))]) rfl
  refine xt_norm ?_
  refine wp_ret ?_
  refine retc1 tbOk (fn := Try.f11) (cs := [.int .i64 x0, .int .i64 x1, .int .u64 x2, .int .i64 x3, .int .i64 x4, .slice A8 bs.length c9]) hA rfl rfl rfl rfl rfl (cells_row (hS.heapAt 0 rfl) rfl) ?_
  replace hS := hS.drop1
  replace hS := hS.drop1
  exact ⟨_, _, _, hO7, rfl, hS⟩

theorem send_ok7 {w0 w : World} {F : List Chunk} {L D : Chunk} {b : Nat} {ps : List Pkt} (hS : St w0 w (L :: D :: F)) (hM : WR b ps L) (x0 x1 x2 x3 x4 : Int) {d : Value} {bs : List UInt8} (hd : RdS w0 (D :: F) 1 d bs.length (rows encB bs)) (hbl : bs.length ≤ 140737488351232) (hl : ps.length < 1024) :
    Ret Try.prog 7 #[.pointer (some ⟨b, 0, none⟩), .agg #[.int .i64 x0, .int .i64 x1, .int .u64 x2, .int .i64 x3, .int .i64 x4, d]] w (fun v w' => ∃ L' E A c, WR b (ps ++ [(x0, x1, x2, x3, x4, A, c, bs)]) L' ∧ DD w0 E A c bs ∧ v = .nilIface ∧ St w0 w' (L' :: (E ++ D) :: F)) := by
  obtain ⟨v, C, hO, rfl⟩ := hM
  obtain ⟨A, c, rfl, hmc, hcx⟩ := hO.open'
  replace hS : St w0 w ([(b, rowO [.slice A ps.length c] 26)] :: C :: D :: F) := hS.split
  obtain ⟨B, d', rfl, hmd, hdx⟩ := (hd _ (hS.tail 2 rfl)).open'
  refine enter (vs := [.pointer (some ⟨b, 0, none⟩), .agg #[.int .i64 x0, .int .i64 x1, .int .u64 x2, .int .i64 x3, .int .i64 x4, .slice B bs.length d']]) 23 Try.func7 rfl rfl (by simp) ?_; intro a hA
  refine wp_seq ?_
  refine wp_region_lit ?_
  refine st_box hA hS [.int .i64 x0, .int .i64 x1, .int .u64 x2, .int .i64 x3, .int .i64 x4, .slice B bs.length d'] rfl rfl rfl rfl rfl (by decide) ?_; clear hA hS; intro b1 w2 a hS hA
  refine st_run tbOk 1 hA (e' := (4, .nilIface) :: _) rfl ?_; clear hA; intro a hA
  refine wpList_nil ?_
  replace hA := hA.sel [0, 3] (e' := [(0, .pointer (some ⟨b, 0, none⟩)), (3, .pointer (some ⟨b1, 0, none⟩))]) rfl
  refine xt_norm ?_
  refine wp_seq ?_
  refine wp_seq ?_
  refine wp_region_lit ?_
  refine st_run tbOk 3 hA (e' := (7, .pointer (some ⟨b, 0, none⟩)) :: (6, .pointer (some ⟨b, 0, none⟩)) :: (5, .pointer (some ⟨b, 0, none⟩)) :: _) rfl ?_; clear hA; intro a hA
  refine st_val hA rfl rfl (by decide) (rn_load tbOk hA rfl rfl rfl rfl (cell_row (hS.heapAt 1 rfl) rfl)) ?_; clear hA; intro a hA
  refine st_run tbOk 2 hA (e' := (10, .bool (decide (((ps.length : Nat) : Int) ≥ 1024))) :: (9, .int .i64 ((ps.length : Nat) : Int)) :: _) rfl ?_; clear hA; intro a hA
  refine wpList_nil ?_
  replace hA := hA.sel [0, 3, 10] (e' := [(0, .pointer (some ⟨b, 0, none⟩)), (3, .pointer (some ⟨b1, 0, none⟩)), (10, .bool (decide (((ps.length : Nat) : Int) ≥ 1024)))]) rfl
  refine xt_norm ?_
  have hc3 : ¬ (((ps.length : Nat) : Int) ≥ 1024) := by omega
  replace hA := hA.rw 10 (v' := .bool false) rfl (vb_false hc3)
  refine cd_cond_f hA rfl ?_
  refine wp_skip ?_
  refine xt_norm ?_
  refine wp_seq ?_
  replace hS := hS.front 2 (C := C) (L' := [(b1, rowO [.int .i64 x0, .int .i64 x1, .int .u64 x2, .int .i64 x3, .int .i64 x4, .slice B bs.length d'] 33)] :: [(b, rowO [.slice A ps.length c] 26)] :: D :: F) rfl rfl
  refine wp_draw (fun w' => St w0 w' ([(b1, rowO [.int .i64 x0, .int .i64 x1, .int .u64 x2, .int .i64 x3, .int .i64 x4, .slice B bs.length d'] 33)] :: [(b, rowO [.slice A ps.length c] 26)] :: D :: F)) [11] [(0, true), (1, true), (2, true), (3, true), (4, true), (5, true), (6, false), (7, false), (8, false), (9, true), (10, true), (11, false)] mixed (by kernel_rfl) (by rintro c a w ⟨_, _, h, _⟩; cases h) (by rfl) (by kernel_rfl) ?_
  replace hS := hS.drew
  refine dr_run tbOk 4 hA (hS.tail 1 rfl) (e' := (15, .pointer (some ⟨b, 0, none⟩)) :: (14, .pointer (some ⟨b, 0, none⟩)) :: (13, .pointer (some ⟨b, 0, none⟩)) :: (12, .pointer (some ⟨b, 0, none⟩)) :: _) rfl ?_; clear hA; intro a hA
  refine dr_y hA rfl rfl rfl (by decide) (hS.tail 1 rfl) (fun w' hS' => rn_load tbOk hA rfl rfl rfl rfl (cell_row (hS'.heapAt 1 rfl) rfl)) ?_; clear hA; intro a hA
  refine dr_y hA rfl rfl rfl (by decide) (hS.tail 1 rfl) (fun w' hS' => rn_loadA tbOk hA [.int .i64 x0, .int .i64 x1, .int .u64 x2, .int .i64 x3, .int .i64 x4, .slice B bs.length d'] rfl rfl rfl rfl rfl (cells_row (hS'.heapAt 0 rfl) rfl)) ?_; clear hA; intro a hA
  refine dr_b (o := _) rfl ?_
  refine st_call0 hA rfl rfl rfl isfn11 rfl rfl (by decide) (copied11 hS x0 x1 x2 x3 x4 (bs := bs) (fun w' h => (hd _ (h.tail 3 rfl))) (by omega)) ?_
  clear hA hS; rintro _ w7 a ⟨A4, c5, C6, hOC6, rfl, hS⟩ hA
  refine dr_nil (.inr (hS.tail 2 rfl)) ?_
  refine dr_b (o := _) rfl ?_
  refine st_buildSlice tbOk hA hS [.int .i64 x0, .int .i64 x1, .int .u64 x2, .int .i64 x3, .int .i64 x4, .slice A4 bs.length c5] rfl rfl rfl rfl rfl (by decide) (by kernel_rfl) rfl rfl (by decide) ?_; clear hA hS; intro b8 w9 a hS hA
  refine dr_nil (.inr (hS.tail 3 rfl)) ?_
  refine dr_b (o := _) rfl ?_
  replace hS := hS.front 2 (C := C) (L' := [(b8, rowO [.int .i64 x0, .int .i64 x1, .int .u64 x2, .int .i64 x3, .int .i64 x4, .slice A4 bs.length c5] 33)] :: C6 :: [(b1, rowO [.int .i64 x0, .int .i64 x1, .int .u64 x2, .int .i64 x3, .int .i64 x4, .slice B bs.length d'] 33)] :: [(b, rowO [.slice A ps.length c] 26)] :: D :: F) rfl rfl
  refine st_append tbOk hA (m := ps.length) (q := 1) (xs := rows encPacket ps) (news := rows encPacket ([(x0, x1, x2, x3, x4, A4, c5, bs)] : List (Int × Int × Int × Int × Int × Option Addr × Nat × List UInt8))) rfl rfl rfl rfl rfl rfl rfl rfl (by decide) hO hS ((Own.full (T := 33) (size := 6) (g := b8) (m := 1) rfl (by decide)).rd (hS.own_ 1 rfl)) (rows_one encPacket_ok _) (maxLen_le (by first | omega | (simp; omega))) (by show (ps.length + 1) * 64 ≤ 140737488355328; first | omega | (simp; omega)) rfl rfl (by decide) ?_
  clear hA hS; intro v10 w11 C12 a hO12 hS hA
  replace hO12 := Own.app (l := ps) (l2 := ([(x0, x1, x2, x3, x4, A4, c5, bs)] : List (Int × Int × Int × Int × Int × Option Addr × Nat × List UInt8))) hO12
  obtain ⟨A13, c14, rfl, hmc14, hxc14⟩ := hO12.open'
  refine dr_nil (.inr (hS.tail 3 rfl)) ?_
  refine dr_run tbOk 2 hA (hS.tail 3 rfl) (e' := (22, .pointer (some ⟨b, 0, none⟩)) :: (21, .pointer (some ⟨b, 0, none⟩)) :: _) rfl ?_; clear hA; intro a hA
  refine dr_b (o := _) rfl ?_
  replace hS := hS.front 4 (C := [(b, rowO [.slice A ps.length c] 26)]) (L' := C12 :: [(b8, rowO [.int .i64 x0, .int .i64 x1, .int .u64 x2, .int .i64 x3, .int .i64 x4, .slice A4 bs.length c5] 33)] :: C6 :: [(b1, rowO [.int .i64 x0, .int .i64 x1, .int .u64 x2, .int .i64 x3, .int .i64 x4, .slice B bs.length d'] 33)] :: D :: F) rfl rfl
  refine st_store tbOk hA hS [.slice A13 ((ps ++ ([(x0, x1, x2, x3, x4, A4, c5, bs)] : List (Int × Int × Int × Int × Int × Option Addr × Nat × List UInt8))).length) c14] [.slice A13 ((ps ++ ([(x0, x1, x2, x3, x4, A4, c5, bs)] : List (Int × Int × Int × Int × Int × Option Addr × Nat × List UInt8))).length) c14] rfl rfl rfl rfl rfl rfl (by intro u hu; rw [List.mem_singleton.1 hu]; rfl) (Nat.le_of_ble_eq_true rfl) rfl rfl rfl ?_; clear hS; intro w15 hS
  refine dr_nil (.inl (by decide)) ?_
  refine dr_end ?_
  replace hA := hA.sel [] (e' := []) rfl
  refine xt_norm ?_
  refine wp_seq ?_
  refine wp_region_lit ?_
  refine st_run tbOk 1 hA (e' := (4, .nilIface) :: _) rfl ?_; clear hA; intro a hA
  refine wpList_nil ?_
  refine xt_norm ?_
  refine wp_ret ?_
  refine ret1 (fn := Try.f7) hA rfl rfl ?_
  replace hS := hS.front 2 (C := [(b8, rowO [.int .i64 x0, .int .i64 x1, .int .u64 x2, .int .i64 x3, .int .i64 x4, .slice A4 bs.length c5] 33)]) (L' := [(b, rowO [.slice A13 ((ps ++ ([(x0, x1, x2, x3, x4, A4, c5, bs)] : List (Int × Int × Int × Int × Int × Option Addr × Nat × List UInt8))).length) c14] 26)] :: C12 :: C6 :: [(b1, rowO [.int .i64 x0, .int .i64 x1, .int .u64 x2, .int .i64 x3, .int .i64 x4, .slice B bs.length d'] 33)] :: D :: F) rfl rfl
  replace hS := hS.drop1
  replace hS := hS.front 3 (C := [(b1, rowO [.int .i64 x0, .int .i64 x1, .int .u64 x2, .int .i64 x3, .int .i64 x4, .slice B bs.length d'] 33)]) (L' := [(b, rowO [.slice A13 ((ps ++ ([(x0, x1, x2, x3, x4, A4, c5, bs)] : List (Int × Int × Int × Int × Int × Option Addr × Nat × List UInt8))).length) c14] 26)] :: C12 :: C6 :: D :: F) rfl rfl
  replace hS := hS.drop1
  replace hS := hS.front 1 (C := C12) (L' := [(b, rowO [.slice A13 ((ps ++ ([(x0, x1, x2, x3, x4, A4, c5, bs)] : List (Int × Int × Int × Int × Int × Option Addr × Nat × List UInt8))).length) c14] 26)] :: C6 :: D :: F) rfl rfl
  replace hS := hS.front 1 (C := [(b, rowO [.slice A13 ((ps ++ ([(x0, x1, x2, x3, x4, A4, c5, bs)] : List (Int × Int × Int × Int × Int × Option Addr × Nat × List UInt8))).length) c14] 26)]) (L' := C12 :: C6 :: D :: F) rfl rfl
  replace hS := hS.front 3 (C := D) (L' := [(b, rowO [.slice A13 ((ps ++ ([(x0, x1, x2, x3, x4, A4, c5, bs)] : List (Int × Int × Int × Int × Int × Option Addr × Nat × List UInt8))).length) c14] 26)] :: C12 :: C6 :: F) rfl rfl
  replace hS := hS.front 3 (C := C6) (L' := D :: [(b, rowO [.slice A13 ((ps ++ ([(x0, x1, x2, x3, x4, A4, c5, bs)] : List (Int × Int × Int × Int × Int × Option Addr × Nat × List UInt8))).length) c14] 26)] :: C12 :: F) rfl rfl
  replace hS := hS.join
  replace hS := hS.front 2 (C := C12) (L' := (C6 ++ D) :: [(b, rowO [.slice A13 ((ps ++ ([(x0, x1, x2, x3, x4, A4, c5, bs)] : List (Int × Int × Int × Int × Int × Option Addr × Nat × List UInt8))).length) c14] 26)] :: F) rfl rfl
  replace hS := hS.front 2 (C := [(b, rowO [.slice A13 ((ps ++ ([(x0, x1, x2, x3, x4, A4, c5, bs)] : List (Int × Int × Int × Int × Int × Option Addr × Nat × List UInt8))).length) c14] 26)]) (L' := C12 :: (C6 ++ D) :: F) rfl rfl
  replace hS := hS.join
  exact ⟨_, _, _, _, ⟨_, _, hO12, rfl⟩, DD.new hOC6, rfl, hS⟩

theorem send_full7 {w0 w : World} {F : List Chunk} {L D : Chunk} {b : Nat} {ps : List Pkt} (hS : St w0 w (L :: D :: F)) (hM : WR b ps L) (x0 x1 x2 x3 x4 : Int) {d : Value} {bs : List UInt8} (hd : RdS w0 (D :: F) 1 d bs.length (rows encB bs)) (hbl : bs.length ≤ 140737488351232) (hl : 1024 ≤ ps.length) :
    Ret Try.prog 7 #[.pointer (some ⟨b, 0, none⟩), .agg #[.int .i64 x0, .int .i64 x1, .int .u64 x2, .int .i64 x3, .int .i64 x4, d]] w (fun v w' => ∃ L', WR b ps L' ∧ v = .iface 41 (.int .i64 5) ∧ St w0 w' (L' :: D :: F)) := by
  obtain ⟨v, C, hO, rfl⟩ := hM
  obtain ⟨A, c, rfl, hmc, hcx⟩ := hO.open'
  replace hS : St w0 w ([(b, rowO [.slice A ps.length c] 26)] :: C :: D :: F) := hS.split
  obtain ⟨B, d', rfl, hmd, hdx⟩ := (hd _ (hS.tail 2 rfl)).open'
  refine enter (vs := [.pointer (some ⟨b, 0, none⟩), .agg #[.int .i64 x0, .int .i64 x1, .int .u64 x2, .int .i64 x3, .int .i64 x4, .slice B bs.length d']]) 23 Try.func7 rfl rfl (by simp) ?_; intro a hA
  refine wp_seq ?_
  refine wp_region_lit ?_
  refine st_box hA hS [.int .i64 x0, .int .i64 x1, .int .u64 x2, .int .i64 x3, .int .i64 x4, .slice B bs.length d'] rfl rfl rfl rfl rfl (by decide) ?_; clear hA hS; intro b1 w2 a hS hA
  refine st_run tbOk 1 hA (e' := (4, .nilIface) :: _) rfl ?_; clear hA; intro a hA
  refine wpList_nil ?_
  replace hA := hA.sel [0, 3] (e' := [(0, .pointer (some ⟨b, 0, none⟩)), (3, .pointer (some ⟨b1, 0, none⟩))]) rfl
  refine xt_norm ?_
  refine wp_seq ?_
  refine wp_seq ?_
  refine wp_region_lit ?_
  refine st_run tbOk 3 hA (e' := (7, .pointer (some ⟨b, 0, none⟩)) :: (6, .pointer (some ⟨b, 0, none⟩)) :: (5, .pointer (some ⟨b, 0, none⟩)) :: _) rfl ?_; clear hA; intro a hA
  refine st_val hA rfl rfl (by decide) (rn_load tbOk hA rfl rfl rfl rfl (cell_row (hS.heapAt 1 rfl) rfl)) ?_; clear hA; intro a hA
  refine st_run tbOk 2 hA (e' := (10, .bool (decide (((ps.length : Nat) : Int) ≥ 1024))) :: (9, .int .i64 ((ps.length : Nat) : Int)) :: _) rfl ?_; clear hA; intro a hA
  refine wpList_nil ?_
  replace hA := hA.sel [0, 3, 10] (e' := [(0, .pointer (some ⟨b, 0, none⟩)), (3, .pointer (some ⟨b1, 0, none⟩)), (10, .bool (decide (((ps.length : Nat) : Int) ≥ 1024)))]) rfl
  refine xt_norm ?_
  have hc3 : ((ps.length : Nat) : Int) ≥ 1024 := by omega
  replace hA := hA.rw 10 (v' := .bool true) rfl (vb_true hc3)
  refine cd_cond_t hA rfl ?_
  refine wp_seq ?_
  refine wp_region_lit ?_
  refine st_run tbOk 2 hA (e' := (4, .iface 41 (.int .i64 5)) :: (11, .iface 41 (.int .i64 5)) :: _) rfl ?_; clear hA; intro a hA
  refine wpList_nil ?_
  replace hA := hA.sel [4] (e' := [(4, .iface 41 (.int .i64 5))]) rfl
  refine xt_norm ?_
  refine wp_ret (xt_ret ?_)
  refine ret1 (fn := Try.f7) hA rfl rfl ?_
  replace hS := hS.drop1
  replace hS := hS.front 1 (C := C) (L' := [(b, rowO [.slice A ps.length c] 26)] :: D :: F) rfl rfl
  replace hS := hS.front 1 (C := [(b, rowO [.slice A ps.length c] 26)]) (L' := C :: D :: F) rfl rfl
  replace hS := hS.front 2 (C := D) (L' := [(b, rowO [.slice A ps.length c] 26)] :: C :: F) rfl rfl
  replace hS := hS.front 2 (C := C) (L' := D :: [(b, rowO [.slice A ps.length c] 26)] :: F) rfl rfl
  replace hS := hS.front 2 (C := [(b, rowO [.slice A ps.length c] 26)]) (L' := C :: D :: F) rfl rfl
  replace hS := hS.join
  exact ⟨_, ⟨_, _, hO, rfl⟩, rfl, hS⟩

theorem wlen9 {w0 w : World} {F : List Chunk} {L D : Chunk} {b : Nat} {ps : List Pkt} (hS : St w0 w (L :: D :: F)) (hM : WR b ps L)  :
    Ret Try.prog 9 #[.pointer (some ⟨b, 0, none⟩)] w (fun v w' => ∃ L', WR b ps L' ∧ v = .int .i64 ((ps.length : Nat) : Int) ∧ St w0 w' (L' :: D :: F)) := by
  obtain ⟨v, C, hO, rfl⟩ := hM
  obtain ⟨A, c, rfl, hmc, hcx⟩ := hO.open'
  replace hS : St w0 w ([(b, rowO [.slice A ps.length c] 26)] :: C :: D :: F) := hS.split
  refine enter (vs := [.pointer (some ⟨b, 0, none⟩)]) 8 Try.func9 rfl rfl (by simp) ?_; intro a hA
  refine wp_seq ?_
  refine wp_region_lit ?_
  refine st_run tbOk 1 hA (e' := (2, .int .i64 0) :: _) rfl ?_; clear hA; intro a hA
  refine wpList_nil ?_
  replace hA := hA.sel [0] (e' := [(0, .pointer (some ⟨b, 0, none⟩))]) rfl
  refine xt_norm ?_
  refine wp_seq ?_
  refine wp_region_lit ?_
  refine st_run tbOk 3 hA (e' := (5, .pointer (some ⟨b, 0, none⟩)) :: (4, .pointer (some ⟨b, 0, none⟩)) :: (3, .pointer (some ⟨b, 0, none⟩)) :: _) rfl ?_; clear hA; intro a hA
  refine st_val hA rfl rfl (by decide) (rn_load tbOk hA rfl rfl rfl rfl (cell_row (hS.heapAt 0 rfl) rfl)) ?_; clear hA; intro a hA
  refine st_run tbOk 2 hA (e' := (2, .int .i64 ((ps.length : Nat) : Int)) :: (7, .int .i64 ((ps.length : Nat) : Int)) :: _) rfl ?_; clear hA; intro a hA
  refine wpList_nil ?_
  replace hA := hA.sel [2] (e' := [(2, .int .i64 ((ps.length : Nat) : Int))]) rfl
  refine xt_norm ?_
  refine wp_ret ?_
  refine ret1 (fn := Try.f9) hA rfl rfl ?_
  replace hS := hS.front 1 (C := C) (L' := [(b, rowO [.slice A ps.length c] 26)] :: D :: F) rfl rfl
  replace hS := hS.front 1 (C := [(b, rowO [.slice A ps.length c] 26)]) (L' := C :: D :: F) rfl rfl
  replace hS := hS.front 2 (C := D) (L' := [(b, rowO [.slice A ps.length c] 26)] :: C :: F) rfl rfl
  replace hS := hS.front 2 (C := C) (L' := D :: [(b, rowO [.slice A ps.length c] 26)] :: F) rfl rfl
  replace hS := hS.front 2 (C := [(b, rowO [.slice A ps.length c] 26)]) (L' := C :: D :: F) rfl rfl
  replace hS := hS.join
  exact ⟨_, ⟨_, _, hO, rfl⟩, rfl, hS⟩

theorem turn_round (p : Int) (n : Nat) (h : 0 < n) : ∃ k : Nat, k < n ∧ (k : Int) = p % (n : Int) ∧ (p.tmod n < 0 → p.tmod n + n = (k : Int)) ∧ (¬ p.tmod n < 0 → p.tmod n = (k : Int)) := by
  have h0 : (0 : Int) < n := by omega
  have h1 := Int.emod_nonneg p (b := (n : Int)) (by omega)
  have h2 := Int.emod_lt_of_pos p h0
  refine ⟨(p % (n : Int)).toNat, by omega, by omega, fun hn => ?_, fun hn => ?_⟩
  · have h3 := Int.tmod_lt_of_pos p h0
    have h4 := Int.tmod_add_mul_tdiv p n
    have h5 : (p.tmod n + n) % (n : Int) = p % n := by
      rw [Int.add_emod_right]
      conv => rhs; rw [← h4, Int.add_mul_emod_self_left]
    have h6 : -(n : Int) < p.tmod n := by
      have := Int.lt_tmod_of_pos p h0
      omega
    rw [Int.emod_eq_of_lt (by omega) (by omega)] at h5
    omega
  · have h3 := Int.tmod_lt_of_pos p h0
    have h4 := Int.tmod_add_mul_tdiv p n
    have h5 : (p.tmod n) % (n : Int) = p % n := by
      conv => rhs; rw [← h4, Int.add_mul_emod_self_left]
    rw [Int.emod_eq_of_lt (by omega) (by omega)] at h5
    omega

theorem place12 {w0 w : World} {F : List Chunk} {b n c : Nat} {A : Option Addr} (hS : St w0 w ([(b, rowO [.slice A n c] 26)] :: F)) (p : Int) (h0 : 0 < n) (hn : n ≤ 1048576) :
    Ret Try.prog 12 #[.pointer (some ⟨b, 0, none⟩), .int .i64 p] w (fun v w' => ∃ k : Nat, k < n ∧ (k : Int) = p % (n : Int) ∧ v = .int .i64 ((k : Nat) : Int) ∧ St w0 w' ([(b, rowO [.slice A n c] 26)] :: F)) := by
  obtain ⟨k, hk, hkp, hk1, hk2⟩ := turn_round p n h0
  refine enter (vs := [.pointer (some ⟨b, 0, none⟩), .int .i64 p]) 23 Try.func12 rfl rfl (by simp) ?_; intro a hA
  refine wp_seq ?_
  refine wp_region_lit ?_
  refine st_run tbOk 1 hA (e' := (4, .int .i64 0) :: _) rfl ?_; clear hA; intro a hA
  refine wpList_nil ?_
  replace hA := hA.sel [0, 1] (e' := [(0, .pointer (some ⟨b, 0, none⟩)), (1, .int .i64 p)]) rfl
  refine xt_norm ?_
  refine wp_seq ?_
  refine wp_region_lit ?_
  refine st_run tbOk 4 hA (e' := (9, .pointer (some ⟨b, 0, none⟩)) :: (8, .pointer (some ⟨b, 0, none⟩)) :: (7, .pointer (some ⟨b, 0, none⟩)) :: (6, .int .i64 p) :: _) rfl ?_; clear hA; intro a hA
  refine st_val hA rfl rfl (by decide) (rn_load tbOk hA rfl rfl rfl rfl (cell_row (hS.heapAt 0 rfl) rfl)) ?_; clear hA; intro a hA
  refine st_run tbOk 1 hA (e' := (11, .int .i64 ((n : Nat) : Int)) :: _) rfl ?_; clear hA; intro a hA
  refine st_val hA rfl rfl (by decide) (rn_rem hA rfl rfl rfl (by omega)) ?_; clear hA; intro a hA
  refine st_run tbOk 1 hA (e' := (5, .int .i64 (p.tmod ((n : Nat) : Int))) :: _) rfl ?_; clear hA; intro a hA
  refine wpList_nil ?_
  replace hA := hA.sel [0, 5] (e' := [(0, .pointer (some ⟨b, 0, none⟩)), (5, .int .i64 (p.tmod ((n : Nat) : Int)))]) rfl
  refine xt_norm ?_
  refine wp_seq ?_
  refine wp_seq ?_
  refine wp_region_lit ?_
  refine st_run tbOk 2 hA (e' := (14, .bool (decide (p.tmod ((n : Nat) : Int) < 0))) :: (13, .int .i64 (p.tmod ((n : Nat) : Int))) :: _) rfl ?_; clear hA; intro a hA
  refine wpList_nil ?_
  replace hA := hA.sel [0, 5, 14] (e' := [(0, .pointer (some ⟨b, 0, none⟩)), (5, .int .i64 (p.tmod ((n : Nat) : Int))), (14, .bool (decide (p.tmod ((n : Nat) : Int) < 0)))]) rfl
  refine xt_norm ?_
  by_cases hc1 : p.tmod ((n : Nat) : Int) < 0
  · first
    | (exfalso; omega)
    | (replace hA := hA.rw 14 (v' := .bool true) rfl (vb_true hc1)
       refine cd_cond_t hA rfl ?_
       refine wp_region_lit ?_
       refine st_run tbOk 4 hA (e' := (18, .pointer (some ⟨b, 0, none⟩)) :: (17, .pointer (some ⟨b, 0, none⟩)) :: (16, .pointer (some ⟨b, 0, none⟩)) :: (15, .int .i64 (p.tmod ((n : Nat) : Int))) :: _) rfl ?_; clear hA; intro a hA
       refine st_val hA rfl rfl (by decide) (rn_load tbOk hA rfl rfl rfl rfl (cell_row (hS.heapAt 0 rfl) rfl)) ?_; clear hA; intro a hA
       refine st_run tbOk 2 hA (e' := (21, .int .i64 (IntKind.i64.wrap ((p.tmod ((n : Nat) : Int)) + ((n : Nat) : Int)))) :: (20, .int .i64 ((n : Nat) : Int)) :: _) rfl ?_; clear hA; intro a hA
       replace hA := hA.rw 21 (v' := .int .i64 ((p.tmod ((n : Nat) : Int)) + ((n : Nat) : Int))) rfl (wr64 (by omega) (by omega) (by omega))
       refine st_run tbOk 1 hA (e' := (5, .int .i64 ((p.tmod ((n : Nat) : Int)) + ((n : Nat) : Int))) :: _) rfl ?_; clear hA; intro a hA
       refine wpList_nil ?_
       replace hA := hA.sel [5] (e' := [(5, .int .i64 ((p.tmod ((n : Nat) : Int)) + ((n : Nat) : Int)))]) rfl
       refine xt_norm ?_
       refine wp_seq ?_
       refine wp_region_lit ?_
       refine st_run tbOk 1 hA (e' := (22, .int .i64 ((p.tmod ((n : Nat) : Int)) + ((n : Nat) : Int))) :: _) rfl ?_; clear hA; intro a hA
       replace hA := hA.rw 22 (v' := .int .i64 ((k : Nat) : Int)) rfl (vint (by first | exact hk2 (by omega) | exact hk1 (by omega)))
       refine st_run tbOk 1 hA (e' := (4, .int .i64 ((k : Nat) : Int)) :: _) rfl ?_; clear hA; intro a hA
       refine wpList_nil ?_
       replace hA := hA.sel [4] (e' := [(4, .int .i64 ((k : Nat) : Int))]) rfl
       refine xt_norm ?_
       refine wp_ret ?_
       refine ret1 (fn := Try.f12) hA rfl rfl ?_
       exact ⟨k, hk, hkp, rfl, hS⟩)
  · first
    | (exfalso; omega)
    | (replace hA := hA.rw 14 (v' := .bool false) rfl (vb_false hc1)
       refine cd_cond_f hA rfl ?_
       refine wp_skip ?_
       refine xt_norm ?_
       refine wp_seq ?_
       refine wp_region_lit ?_
       refine st_run tbOk 1 hA (e' := (22, .int .i64 (p.tmod ((n : Nat) : Int))) :: _) rfl ?_; clear hA; intro a hA
       replace hA := hA.rw 22 (v' := .int .i64 ((k : Nat) : Int)) rfl (vint (by first | exact hk2 (by omega) | exact hk1 (by omega)))
       refine st_run tbOk 1 hA (e' := (4, .int .i64 ((k : Nat) : Int)) :: _) rfl ?_; clear hA; intro a hA
       refine wpList_nil ?_
       replace hA := hA.sel [4] (e' := [(4, .int .i64 ((k : Nat) : Int))]) rfl
       refine xt_norm ?_
       refine wp_ret ?_
       refine ret1 (fn := Try.f12) hA rfl rfl ?_
       exact ⟨k, hk, hkp, rfl, hS⟩)

theorem arrive_ok8 {w0 w : World} {F : List Chunk} {L D : Chunk} {b : Nat} {ps : List Pkt} (hS : St w0 w (L :: D :: F)) (hM : WR b ps L) (p : Int) (h0 : 0 < ps.length) (hn : ps.length ≤ 1048576) :
    Ret Try.prog 8 #[.pointer (some ⟨b, 0, none⟩), .int .i64 p] w (fun v w' => ∃ (k : Nat) (x : Pkt), k < ps.length ∧ (k : Int) = p % (ps.length : Int) ∧ ps[k]? = some x ∧ ∃ L', WR b (ps.take k ++ ps.drop (k + 1)) L' ∧ v = .tuple #[.agg (encPacket x).toArray, .bool true] ∧ St w0 w' (L' :: D :: F)) := by
  obtain ⟨v, C, hO, rfl⟩ := hM
  obtain ⟨A, c, rfl, hmc, hcx⟩ := hO.open'
  replace hS : St w0 w ([(b, rowO [.slice A ps.length c] 26)] :: C :: D :: F) := hS.split
  refine enter (vs := [.pointer (some ⟨b, 0, none⟩), .int .i64 p]) 37 Try.func8 rfl rfl (by simp) ?_; intro a hA
  refine wp_seq ?_
  refine wp_region_lit ?_
  refine st_alloc tbOk hA hS [.int .i64 0, .int .i64 0, .int .u64 0, .int .i64 0, .int .i64 0, .slice none 0 0] rfl rfl rfl rfl rfl (by decide) ?_; clear hA hS; intro b1 w2 a hS hA
  refine st_run tbOk 1 hA (e' := (5, .bool false) :: _) rfl ?_; clear hA; intro a hA
  refine wpList_nil ?_
  replace hA := hA.sel [0, 1, 4] (e' := [(0, .pointer (some ⟨b, 0, none⟩)), (1, .int .i64 p), (4, .pointer (some ⟨b1, 0, none⟩))]) rfl
  refine xt_norm ?_
  refine wp_seq ?_
  refine wp_seq ?_
  refine wp_region_lit ?_
  refine st_run tbOk 3 hA (e' := (10, .pointer (some ⟨b, 0, none⟩)) :: (9, .pointer (some ⟨b, 0, none⟩)) :: (8, .pointer (some ⟨b, 0, none⟩)) :: _) rfl ?_; clear hA; intro a hA
  refine st_val hA rfl rfl (by decide) (rn_load tbOk hA rfl rfl rfl rfl (cell_row (hS.heapAt 1 rfl) rfl)) ?_; clear hA; intro a hA
  refine st_run tbOk 2 hA (e' := (13, .bool (((ps.length : Nat) : Int) == 0)) :: (12, .int .i64 ((ps.length : Nat) : Int)) :: _) rfl ?_; clear hA; intro a hA
  refine wpList_nil ?_
  replace hA := hA.sel [0, 1, 4, 13] (e' := [(0, .pointer (some ⟨b, 0, none⟩)), (1, .int .i64 p), (4, .pointer (some ⟨b1, 0, none⟩)), (13, .bool (((ps.length : Nat) : Int) == 0))]) rfl
  refine xt_norm ?_
  have hc3 : ¬ (((ps.length : Nat) : Int) = 0) := by omega
  replace hA := hA.rw 13 (v' := .bool false) rfl (vb_eq_f hc3)
  refine cd_cond_f hA rfl ?_
  refine wp_skip ?_
  refine xt_norm ?_
  refine wp_seq ?_
  refine wp_region_lit ?_
  refine st_run tbOk 2 hA (e' := (16, .int .i64 p) :: (15, .pointer (some ⟨b, 0, none⟩)) :: _) rfl ?_; clear hA; intro a hA
  replace hS := hS.front 1 (C := [(b, rowO [.slice A ps.length c] 26)]) (L' := [(b1, rowO [.int .i64 0, .int .i64 0, .int .u64 0, .int .i64 0, .int .i64 0, .slice none 0 0] 33)] :: C :: D :: F) rfl rfl
  refine st_call0 hA rfl rfl rfl isfn12 rfl rfl (by decide) (place12 hS p h0 (by omega)) ?_
  clear hA hS; rintro _ w4 a ⟨k, hk, hkp, rfl, hS⟩ hA
  refine st_run tbOk 1 hA (e' := (6, .int .i64 ((k : Nat) : Int)) :: _) rfl ?_; clear hA; intro a hA
  refine wpList_nil ?_
  replace hA := hA.sel [0, 4, 6] (e' := [(0, .pointer (some ⟨b, 0, none⟩)), (4, .pointer (some ⟨b1, 0, none⟩)), (6, .int .i64 ((k : Nat) : Int))]) rfl
  refine xt_norm ?_
  refine wp_seq ?_
  refine wp_region_lit ?_
  refine st_run tbOk 3 hA (e' := (20, .pointer (some ⟨b, 0, none⟩)) :: (19, .pointer (some ⟨b, 0, none⟩)) :: (18, .pointer (some ⟨b, 0, none⟩)) :: _) rfl ?_; clear hA; intro a hA
  refine st_val hA rfl rfl (by decide) (rn_load tbOk hA rfl rfl rfl rfl (cell_row (hS.heapAt 0 rfl) rfl)) ?_; clear hA; intro a hA
  refine st_run tbOk 1 hA (e' := (22, .int .i64 ((k : Nat) : Int)) :: _) rfl ?_; clear hA; intro a hA
  obtain ⟨b5, o6, rfl⟩ := hO.isSome (k := k) (by omega)
  refine st_val hA rfl rfl (by decide) (rn_indexAddr tbOk hA k (o6 + (k * 6)) rfl rfl rfl rfl rfl rfl (by rfl) (by omega) (by first | rfl | simp [Nat.mul_one, Nat.zero_add] | omega)) ?_; clear hA; intro a hA
  obtain ⟨x7, hx7⟩ := get_ex (l := ps) (k := k) (by omega)
  obtain ⟨x7f0, x7f1, x7f2, x7f3, x7f4, x7A5, x7c5, x7b5⟩ := x7
  refine st_val hA rfl rfl (by decide) (rn_loadA tbOk hA ([.int .i64 x7f0, .int .i64 x7f1, .int .u64 x7f2, .int .i64 x7f3, .int .i64 x7f4, .slice x7A5 x7b5.length x7c5]) rfl rfl rfl rfl (by rfl) ((hO.rd (hS.own_ 2 rfl)).elem (k := k) encPacket_ok hx7)) ?_; clear hA; intro a hA
  refine st_alloc tbOk hA hS [.int .i64 0, .int .i64 0, .int .u64 0, .int .i64 0, .int .i64 0, .slice none 0 0] rfl rfl rfl rfl rfl (by decide) ?_; clear hA hS; intro b8 w9 a hS hA
  refine st_store tbOk hA hS [.int .i64 x7f0, .int .i64 x7f1, .int .u64 x7f2, .int .i64 x7f3, .int .i64 x7f4, .slice x7A5 x7b5.length x7c5] [.int .i64 x7f0, .int .i64 x7f1, .int .u64 x7f2, .int .i64 x7f3, .int .i64 x7f4, .slice x7A5 x7b5.length x7c5] rfl rfl rfl rfl rfl rfl (by simp [Value.oneCell']) (Nat.le_of_ble_eq_true rfl) rfl rfl rfl ?_; clear hS; intro w10 hS
  refine wpList_nil ?_
  replace hA := hA.sel [0, 4, 6, 7] (e' := [(0, .pointer (some ⟨b, 0, none⟩)), (4, .pointer (some ⟨b1, 0, none⟩)), (6, .int .i64 ((k : Nat) : Int)), (7, .pointer (some ⟨b8, 0, none⟩))]) rfl
  refine xt_norm ?_
  refine wp_seq ?_
  refine wp_region_lit ?_
  refine st_run tbOk 4 hA (e' := (28, .pointer (some ⟨b, 0, none⟩)) :: (27, .pointer (some ⟨b, 0, none⟩)) :: (26, .pointer (some ⟨b, 0, none⟩)) :: (25, .pointer (some ⟨b, 0, none⟩)) :: _) rfl ?_; clear hA; intro a hA
  refine st_val hA rfl rfl (by decide) (rn_load tbOk hA rfl rfl rfl rfl (cell_row (hS.heapAt 1 rfl) rfl)) ?_; clear hA; intro a hA
  refine st_run tbOk 3 hA (e' := (32, .int .i64 (IntKind.i64.wrap (((k : Nat) : Int) + 1))) :: (31, .int .i64 ((k : Nat) : Int)) :: (30, .int .i64 ((k : Nat) : Int)) :: _) rfl ?_; clear hA; intro a hA
  replace hA := hA.rw 32 (v' := .int .i64 ((k + 1 : Nat) : Int)) rfl (wr64 (by omega) (by omega) (by omega))
  replace hS := hS.front 3 (C := C) (L' := [(b8, rowO [.int .i64 x7f0, .int .i64 x7f1, .int .u64 x7f2, .int .i64 x7f3, .int .i64 x7f4, .slice x7A5 x7b5.length x7c5] 33)] :: [(b, rowO [.slice (some ⟨b5, o6, none⟩) ps.length c] 26)] :: [(b1, rowO [.int .i64 0, .int .i64 0, .int .u64 0, .int .i64 0, .int .i64 0, .slice none 0 0] 33)] :: D :: F) rfl rfl
  refine st_call0 hA rfl rfl rfl isfn13 rfl rfl (by decide) (delete13 hS hO k (k + 1) (by omega) (by omega)) ?_
  clear hA hS; rintro v11 w12 a ⟨C13, hO13, hS⟩ hA
  obtain ⟨A14, c15, rfl, hmc15, hxc15⟩ := hO13.open'
  refine st_run tbOk 2 hA (e' := (35, .pointer (some ⟨b, 0, none⟩)) :: (34, .pointer (some ⟨b, 0, none⟩)) :: _) rfl ?_; clear hA; intro a hA
  replace hS := hS.front 2 (C := [(b, rowO [.slice (some ⟨b5, o6, none⟩) ps.length c] 26)]) (L' := C13 :: [(b8, rowO [.int .i64 x7f0, .int .i64 x7f1, .int .u64 x7f2, .int .i64 x7f3, .int .i64 x7f4, .slice x7A5 x7b5.length x7c5] 33)] :: [(b1, rowO [.int .i64 0, .int .i64 0, .int .u64 0, .int .i64 0, .int .i64 0, .slice none 0 0] 33)] :: D :: F) rfl rfl
  refine st_store tbOk hA hS [.slice A14 ((ps.take k ++ ps.drop (k + 1)).length) c15] [.slice A14 ((ps.take k ++ ps.drop (k + 1)).length) c15] rfl rfl rfl rfl rfl rfl (by intro u hu; rw [List.mem_singleton.1 hu]; rfl) (Nat.le_of_ble_eq_true rfl) rfl rfl rfl ?_; clear hS; intro w16 hS
  refine wpList_nil ?_
  replace hA := hA.sel [4, 7] (e' := [(4, .pointer (some ⟨b1, 0, none⟩)), (7, .pointer (some ⟨b8, 0, none⟩))]) rfl
  refine xt_norm ?_
  refine wp_seq ?_
  refine wp_region_lit ?_
  refine st_val hA rfl rfl (by decide) (rn_loadA tbOk hA [.int .i64 x7f0, .int .i64 x7f1, .int .u64 x7f2, .int .i64 x7f3, .int .i64 x7f4, .slice x7A5 x7b5.length x7c5] rfl rfl rfl rfl rfl (cells_row (hS.heapAt 2 rfl) rfl)) ?_; clear hA; intro a hA
  replace hS := hS.front 3 (C := [(b1, rowO [.int .i64 0, .int .i64 0, .int .u64 0, .int .i64 0, .int .i64 0, .slice none 0 0] 33)]) (L' := [(b, rowO [.slice A14 ((ps.take k ++ ps.drop (k + 1)).length) c15] 26)] :: C13 :: [(b8, rowO [.int .i64 x7f0, .int .i64 x7f1, .int .u64 x7f2, .int .i64 x7f3, .int .i64 x7f4, .slice x7A5 x7b5.length x7c5] 33)] :: D :: F) rfl rfl
  refine st_store tbOk hA hS [.int .i64 x7f0, .int .i64 x7f1, .int .u64 x7f2, .int .i64 x7f3, .int .i64 x7f4, .slice x7A5 x7b5.length x7c5] [.int .i64 x7f0, .int .i64 x7f1, .int .u64 x7f2, .int .i64 x7f3, .int .i64 x7f4, .slice x7A5 x7b5.length x7c5] rfl rfl rfl rfl rfl rfl (by simp [Value.oneCell']) (Nat.le_of_ble_eq_true rfl) rfl rfl rfl ?_; clear hS; intro w17 hS
  refine st_run tbOk 1 hA (e' := (5, .bool true) :: _) rfl ?_; clear hA; intro a hA
  refine wpList_nil ?_
  replace hA := hA.sel [4, 5] (e' := [(4, .pointer (some ⟨b1, 0, none⟩)), (5, .bool true)]) rfl
  refine xt_norm ?_
  refine wp_ret ?_
  refine retc2 tbOk (fn := Try.f8) (cs := [.int .i64 x7f0, .int .i64 x7f1, .int .u64 x7f2, .int .i64 x7f3, .int .i64 x7f4, .slice x7A5 x7b5.length x7c5]) hA rfl rfl rfl rfl rfl rfl (cells_row (hS.heapAt 0 rfl) rfl) ?_
  replace hS := hS.drop1
  replace hS := hS.front 2 (C := [(b8, rowO [.int .i64 x7f0, .int .i64 x7f1, .int .u64 x7f2, .int .i64 x7f3, .int .i64 x7f4, .slice x7A5 x7b5.length x7c5] 33)]) (L' := [(b, rowO [.slice A14 ((ps.take k ++ ps.drop (k + 1)).length) c15] 26)] :: C13 :: D :: F) rfl rfl
  replace hS := hS.drop1
  replace hS := hS.front 1 (C := C13) (L' := [(b, rowO [.slice A14 ((ps.take k ++ ps.drop (k + 1)).length) c15] 26)] :: D :: F) rfl rfl
  replace hS := hS.front 1 (C := [(b, rowO [.slice A14 ((ps.take k ++ ps.drop (k + 1)).length) c15] 26)]) (L' := C13 :: D :: F) rfl rfl
  replace hS := hS.front 2 (C := D) (L' := [(b, rowO [.slice A14 ((ps.take k ++ ps.drop (k + 1)).length) c15] 26)] :: C13 :: F) rfl rfl
  replace hS := hS.front 2 (C := C13) (L' := D :: [(b, rowO [.slice A14 ((ps.take k ++ ps.drop (k + 1)).length) c15] 26)] :: F) rfl rfl
  replace hS := hS.front 2 (C := [(b, rowO [.slice A14 ((ps.take k ++ ps.drop (k + 1)).length) c15] 26)]) (L' := C13 :: D :: F) rfl rfl
  replace hS := hS.join
  exact ⟨k, _, hk, hkp, hx7, _, ⟨_, _, hO13, rfl⟩, rfl, hS⟩

theorem arrive_none8 {w0 w : World} {F : List Chunk} {L D : Chunk} {b : Nat} {ps : List Pkt} (hS : St w0 w (L :: D :: F)) (hM : WR b ps L) (p : Int) (h0 : ps.length = 0) :
    Ret Try.prog 8 #[.pointer (some ⟨b, 0, none⟩), .int .i64 p] w (fun v w' => ∃ L', WR b ps L' ∧ v = .tuple #[.agg #[.int .i64 0, .int .i64 0, .int .u64 0, .int .i64 0, .int .i64 0, .slice none 0 0], .bool false] ∧ St w0 w' (L' :: D :: F)) := by
  obtain ⟨v, C, hO, rfl⟩ := hM
  obtain ⟨A, c, rfl, hmc, hcx⟩ := hO.open'
  replace hS : St w0 w ([(b, rowO [.slice A ps.length c] 26)] :: C :: D :: F) := hS.split
  refine enter (vs := [.pointer (some ⟨b, 0, none⟩), .int .i64 p]) 37 Try.func8 rfl rfl (by simp) ?_; intro a hA
  refine wp_seq ?_
  refine wp_region_lit ?_
  refine st_alloc tbOk hA hS [.int .i64 0, .int .i64 0, .int .u64 0, .int .i64 0, .int .i64 0, .slice none 0 0] rfl rfl rfl rfl rfl (by decide) ?_; clear hA hS; intro b1 w2 a hS hA
  refine st_run tbOk 1 hA (e' := (5, .bool false) :: _) rfl ?_; clear hA; intro a hA
  refine wpList_nil ?_
  replace hA := hA.sel [0, 1, 4] (e' := [(0, .pointer (some ⟨b, 0, none⟩)), (1, .int .i64 p), (4, .pointer (some ⟨b1, 0, none⟩))]) rfl
  refine xt_norm ?_
  refine wp_seq ?_
  refine wp_seq ?_
  refine wp_region_lit ?_
  refine st_run tbOk 3 hA (e' := (10, .pointer (some ⟨b, 0, none⟩)) :: (9, .pointer (some ⟨b, 0, none⟩)) :: (8, .pointer (some ⟨b, 0, none⟩)) :: _) rfl ?_; clear hA; intro a hA
  refine st_val hA rfl rfl (by decide) (rn_load tbOk hA rfl rfl rfl rfl (cell_row (hS.heapAt 1 rfl) rfl)) ?_; clear hA; intro a hA
  refine st_run tbOk 2 hA (e' := (13, .bool (((ps.length : Nat) : Int) == 0)) :: (12, .int .i64 ((ps.length : Nat) : Int)) :: _) rfl ?_; clear hA; intro a hA
  refine wpList_nil ?_
  replace hA := hA.sel [0, 1, 4, 13] (e' := [(0, .pointer (some ⟨b, 0, none⟩)), (1, .int .i64 p), (4, .pointer (some ⟨b1, 0, none⟩)), (13, .bool (((ps.length : Nat) : Int) == 0))]) rfl
  refine xt_norm ?_
  have hc3 : ((ps.length : Nat) : Int) = 0 := by omega
  replace hA := hA.rw 13 (v' := .bool true) rfl (vb_eq_t hc3)
  refine cd_cond_t hA rfl ?_
  refine wp_seq ?_
  refine wp_region_lit ?_
  refine st_run tbOk 1 hA (e' := (14, .agg #[.int .i64 0, .int .i64 0, .int .u64 0, .int .i64 0, .int .i64 0, .slice none 0 0]) :: _) rfl ?_; clear hA; intro a hA
  refine st_store tbOk hA hS [.int .i64 0, .int .i64 0, .int .u64 0, .int .i64 0, .int .i64 0, .slice none 0 0] [.int .i64 0, .int .i64 0, .int .u64 0, .int .i64 0, .int .i64 0, .slice none 0 0] rfl rfl rfl rfl rfl rfl (by simp [Value.oneCell']) (Nat.le_of_ble_eq_true rfl) rfl rfl rfl ?_; clear hS; intro w4 hS
  refine st_run tbOk 1 hA (e' := (5, .bool false) :: _) rfl ?_; clear hA; intro a hA
  refine wpList_nil ?_
  replace hA := hA.sel [4, 5] (e' := [(4, .pointer (some ⟨b1, 0, none⟩)), (5, .bool false)]) rfl
  refine xt_norm ?_
  refine wp_ret (xt_ret ?_)
  refine retc2 tbOk (fn := Try.f8) (cs := [.int .i64 0, .int .i64 0, .int .u64 0, .int .i64 0, .int .i64 0, .slice none 0 0]) hA rfl rfl rfl rfl rfl rfl (cells_row (hS.heapAt 0 rfl) rfl) ?_
  replace hS := hS.drop1
  replace hS := hS.front 1 (C := C) (L' := [(b, rowO [.slice A ps.length c] 26)] :: D :: F) rfl rfl
  replace hS := hS.front 1 (C := [(b, rowO [.slice A ps.length c] 26)]) (L' := C :: D :: F) rfl rfl
  replace hS := hS.front 2 (C := D) (L' := [(b, rowO [.slice A ps.length c] 26)] :: C :: F) rfl rfl
  replace hS := hS.front 2 (C := C) (L' := D :: [(b, rowO [.slice A ps.length c] 26)] :: F) rfl rfl
  replace hS := hS.front 2 (C := [(b, rowO [.slice A ps.length c] 26)]) (L' := C :: D :: F) rfl rfl
  replace hS := hS.join
  exact ⟨_, ⟨_, _, hO, rfl⟩, rfl, hS⟩

theorem double_ok10 {w0 w : World} {F : List Chunk} {L D : Chunk} {b : Nat} {ps : List Pkt} (hS : St w0 w (L :: D :: F)) (hM : WR b ps L) (p : Int) (h0 : 0 < ps.length) (hl : ps.length < 1024) (hdd : ∀ x ∈ ps, encPacket_dd w0 D x) (hbd : ∀ x ∈ ps, (pdat x).length ≤ 140737488351232) :
    Ret Try.prog 10 #[.pointer (some ⟨b, 0, none⟩), .int .i64 p] w (fun v w' => ∃ (k : Nat) (x : Pkt), k < ps.length ∧ (k : Int) = p % (ps.length : Int) ∧ ps[k]? = some x ∧ ∃ L' E A c, WR b (ps ++ [(x.1, x.2.1, x.2.2.1, x.2.2.2.1, x.2.2.2.2.1, A, c, pdat x)]) L' ∧ DD w0 E A c (pdat x) ∧ v = .nilIface ∧ St w0 w' (L' :: (E ++ D) :: F)) := by
  obtain ⟨v, C, hO, rfl⟩ := hM
  obtain ⟨A, c, rfl, hmc, hcx⟩ := hO.open'
  replace hS : St w0 w ([(b, rowO [.slice A ps.length c] 26)] :: C :: D :: F) := hS.split
  refine enter (vs := [.pointer (some ⟨b, 0, none⟩), .int .i64 p]) 23 Try.func10 rfl rfl (by simp) ?_; intro a hA
  refine wp_seq ?_
  refine wp_region_lit ?_
  refine st_run tbOk 1 hA (e' := (4, .nilIface) :: _) rfl ?_; clear hA; intro a hA
  refine wpList_nil ?_
  replace hA := hA.sel [0, 1] (e' := [(0, .pointer (some ⟨b, 0, none⟩)), (1, .int .i64 p)]) rfl
  refine xt_norm ?_
  refine wp_seq ?_
  refine wp_seq ?_
  refine wp_region_lit ?_
  refine st_run tbOk 3 hA (e' := (7, .pointer (some ⟨b, 0, none⟩)) :: (6, .pointer (some ⟨b, 0, none⟩)) :: (5, .pointer (some ⟨b, 0, none⟩)) :: _) rfl ?_; clear hA; intro a hA
  refine st_val hA rfl rfl (by decide) (rn_load tbOk hA rfl rfl rfl rfl (cell_row (hS.heapAt 0 rfl) rfl)) ?_; clear hA; intro a hA
  refine st_run tbOk 2 hA (e' := (10, .bool (((ps.length : Nat) : Int) == 0)) :: (9, .int .i64 ((ps.length : Nat) : Int)) :: _) rfl ?_; clear hA; intro a hA
  refine wpList_nil ?_
  replace hA := hA.sel [0, 1, 10] (e' := [(0, .pointer (some ⟨b, 0, none⟩)), (1, .int .i64 p), (10, .bool (((ps.length : Nat) : Int) == 0))]) rfl
  refine xt_norm ?_
  have hc1 : ¬ (((ps.length : Nat) : Int) = 0) := by omega
  replace hA := hA.rw 10 (v' := .bool false) rfl (vb_eq_f hc1)
  refine cd_cond_f hA rfl ?_
  refine wp_skip ?_
  refine xt_norm ?_
  refine wp_seq ?_
  refine wp_drawN (fun w' => St w0 w' (F)) [] [(0, true), (1, true), (2, true), (3, true), (5, true), (6, true)] 4 (.L [(7, false), (8, true), (9, false), (10, false), (11, true)]) 7 (.L [(4, false), (8, true), (9, false), (10, false), (11, true)]) mixed (by kernel_rfl) (by rintro c a w ⟨_, _, h, _⟩; cases h) (by rfl) (by kernel_rfl) ?_
  replace hS := hS.drew
  refine dr_run tbOk 6 hA (hS.tail 3 rfl) (e' := (18, .int .i64 p) :: (17, .pointer (some ⟨b, 0, none⟩)) :: (15, .pointer (some ⟨b, 0, none⟩)) :: (14, .pointer (some ⟨b, 0, none⟩)) :: (13, .pointer (some ⟨b, 0, none⟩)) :: (12, .pointer (some ⟨b, 0, none⟩)) :: _) rfl ?_; clear hA; intro a hA
  refine dr_fork ?_ ?_
  · refine dr_b (o := _) rfl ?_
    refine st_val hA rfl rfl (by decide) (rn_load tbOk hA rfl rfl rfl rfl (cell_row (hS.heapAt 0 rfl) rfl)) ?_; clear hA; intro a hA
    refine dr_nil (.inr (hS.tail 3 rfl)) ?_
    refine dr_subL ?_
    refine dr_b (o := _) rfl ?_
    refine st_call0 hA rfl rfl rfl isfn12 rfl rfl (by decide) (place12 hS p h0 (by omega)) ?_
    clear hA hS; rintro _ w2 a ⟨k, hk, hkp, rfl, hS⟩ hA
    refine dr_nil (.inr (hS.tail 3 rfl)) ?_
    obtain ⟨b3, o4, rfl⟩ := hO.isSome (k := k) (by omega)
    refine dr_y hA rfl rfl rfl (by decide) (hS.tail 3 rfl) (fun w' hS' => rn_indexAddr tbOk hA k (o4 + (k * 6)) rfl rfl rfl rfl rfl rfl (by rfl) (by omega) (by first | rfl | simp [Nat.mul_one, Nat.zero_add] | omega)) ?_; clear hA; intro a hA
    refine dr_b (o := _) rfl ?_
    obtain ⟨x5, hx5⟩ := get_ex (l := ps) (k := k) (by omega)
    obtain ⟨x5f0, x5f1, x5f2, x5f3, x5f4, x5A5, x5c5, x5b5⟩ := x5
    have hd6 := hdd _ (List.mem_of_getElem? hx5)
    refine st_val hA rfl rfl (by decide) (rn_loadA tbOk hA ([.int .i64 x5f0, .int .i64 x5f1, .int .u64 x5f2, .int .i64 x5f3, .int .i64 x5f4, .slice x5A5 x5b5.length x5c5]) rfl rfl rfl rfl (by rfl) ((hO.rd (hS.own_ 1 rfl)).elem (k := k) encPacket_ok hx5)) ?_; clear hA; intro a hA
    refine dr_nil (.inr (hS.tail 3 rfl)) ?_
    refine dr_b (o := _) rfl ?_
    replace hS := hS.front 1 (C := C) (L' := [(b, rowO [.slice (some ⟨b3, o4, none⟩) ps.length c] 26)] :: D :: F) rfl rfl
    replace hS := hS.front 1 (C := [(b, rowO [.slice (some ⟨b3, o4, none⟩) ps.length c] 26)]) (L' := C :: D :: F) rfl rfl
    replace hS := hS.front 2 (C := D) (L' := [(b, rowO [.slice (some ⟨b3, o4, none⟩) ps.length c] 26)] :: C :: F) rfl rfl
    replace hS := hS.front 2 (C := C) (L' := D :: [(b, rowO [.slice (some ⟨b3, o4, none⟩) ps.length c] 26)] :: F) rfl rfl
    replace hS := hS.front 2 (C := [(b, rowO [.slice (some ⟨b3, o4, none⟩) ps.length c] 26)]) (L' := C :: D :: F) rfl rfl
    replace hS := hS.join
    have hbx := hbd _ (List.mem_of_getElem? hx5); dsimp only [pdat] at hbx
    refine st_call0 hA rfl rfl rfl isfn7 rfl rfl (by decide) (send_ok7 hS ⟨_, _, hO, rfl⟩ x5f0 x5f1 x5f2 x5f3 x5f4 (DD.rds hd6 0 rfl) (by omega) (by omega)) ?_
    clear hA hS; rintro _ w7 a ⟨L2, E2, A2, c2, hM2, hE2, rfl, hS⟩ hA
    refine dr_nil (.inr (hS.tail 2 rfl)) ?_
    refine dr_run tbOk 1 hA (hS.tail 2 rfl) (e' := (4, .nilIface) :: _) rfl ?_; clear hA; intro a hA
    refine dr_end ?_
    replace hA := hA.sel [4] (e' := [(4, .nilIface)]) rfl
    refine xt_norm ?_
    refine wp_ret ?_
    refine ret1 (fn := Try.f10) hA rfl rfl ?_
    exact ⟨k, (x5f0, x5f1, x5f2, x5f3, x5f4, x5A5, x5c5, x5b5), hk, hkp, hx5, _, _, _, _, hM2, hE2, rfl, hS⟩
  · refine dr_b (o := _) rfl ?_
    refine st_call0 hA rfl rfl rfl isfn12 rfl rfl (by decide) (place12 hS p h0 (by omega)) ?_
    clear hA hS; rintro _ w8 a ⟨k, hk, hkp, rfl, hS⟩ hA
    refine dr_nil (.inr (hS.tail 3 rfl)) ?_
    refine dr_subL ?_
    refine dr_b (o := _) rfl ?_
    refine st_val hA rfl rfl (by decide) (rn_load tbOk hA rfl rfl rfl rfl (cell_row (hS.heapAt 0 rfl) rfl)) ?_; clear hA; intro a hA
    refine dr_nil (.inr (hS.tail 3 rfl)) ?_
    obtain ⟨b9, o10, rfl⟩ := hO.isSome (k := k) (by omega)
    refine dr_y hA rfl rfl rfl (by decide) (hS.tail 3 rfl) (fun w' hS' => rn_indexAddr tbOk hA k (o10 + (k * 6)) rfl rfl rfl rfl rfl rfl (by rfl) (by omega) (by first | rfl | simp [Nat.mul_one, Nat.zero_add] | omega)) ?_; clear hA; intro a hA
    refine dr_b (o := _) rfl ?_
    obtain ⟨x11, hx11⟩ := get_ex (l := ps) (k := k) (by omega)
    obtain ⟨x11f0, x11f1, x11f2, x11f3, x11f4, x11A5, x11c5, x11b5⟩ := x11
    have hd12 := hdd _ (List.mem_of_getElem? hx11)
    refine st_val hA rfl rfl (by decide) (rn_loadA tbOk hA ([.int .i64 x11f0, .int .i64 x11f1, .int .u64 x11f2, .int .i64 x11f3, .int .i64 x11f4, .slice x11A5 x11b5.length x11c5]) rfl rfl rfl rfl (by rfl) ((hO.rd (hS.own_ 1 rfl)).elem (k := k) encPacket_ok hx11)) ?_; clear hA; intro a hA
    refine dr_nil (.inr (hS.tail 3 rfl)) ?_
    refine dr_b (o := _) rfl ?_
    replace hS := hS.front 1 (C := C) (L' := [(b, rowO [.slice (some ⟨b9, o10, none⟩) ps.length c] 26)] :: D :: F) rfl rfl
    replace hS := hS.front 1 (C := [(b, rowO [.slice (some ⟨b9, o10, none⟩) ps.length c] 26)]) (L' := C :: D :: F) rfl rfl
    replace hS := hS.front 2 (C := D) (L' := [(b, rowO [.slice (some ⟨b9, o10, none⟩) ps.length c] 26)] :: C :: F) rfl rfl
    replace hS := hS.front 2 (C := C) (L' := D :: [(b, rowO [.slice (some ⟨b9, o10, none⟩) ps.length c] 26)] :: F) rfl rfl
    replace hS := hS.front 2 (C := [(b, rowO [.slice (some ⟨b9, o10, none⟩) ps.length c] 26)]) (L' := C :: D :: F) rfl rfl
    replace hS := hS.join
    have hbx := hbd _ (List.mem_of_getElem? hx11); dsimp only [pdat] at hbx
    refine st_call0 hA rfl rfl rfl isfn7 rfl rfl (by decide) (send_ok7 hS ⟨_, _, hO, rfl⟩ x11f0 x11f1 x11f2 x11f3 x11f4 (DD.rds hd12 0 rfl) (by omega) (by omega)) ?_
    clear hA hS; rintro _ w13 a ⟨L2, E2, A2, c2, hM2, hE2, rfl, hS⟩ hA
    refine dr_nil (.inr (hS.tail 2 rfl)) ?_
    refine dr_run tbOk 1 hA (hS.tail 2 rfl) (e' := (4, .nilIface) :: _) rfl ?_; clear hA; intro a hA
    refine dr_end ?_
    replace hA := hA.sel [4] (e' := [(4, .nilIface)]) rfl
    refine xt_norm ?_
    refine wp_ret ?_
    refine ret1 (fn := Try.f10) hA rfl rfl ?_
    exact ⟨k, (x11f0, x11f1, x11f2, x11f3, x11f4, x11A5, x11c5, x11b5), hk, hkp, hx11, _, _, _, _, hM2, hE2, rfl, hS⟩

theorem double_none10 {w0 w : World} {F : List Chunk} {L D : Chunk} {b : Nat} {ps : List Pkt} (hS : St w0 w (L :: D :: F)) (hM : WR b ps L) (p : Int) (h0 : ps.length = 0) :
    Ret Try.prog 10 #[.pointer (some ⟨b, 0, none⟩), .int .i64 p] w (fun v w' => ∃ L', WR b ps L' ∧ v = .iface 41 (.int .i64 12) ∧ St w0 w' (L' :: D :: F)) := by
  obtain ⟨v, C, hO, rfl⟩ := hM
  obtain ⟨A, c, rfl, hmc, hcx⟩ := hO.open'
  replace hS : St w0 w ([(b, rowO [.slice A ps.length c] 26)] :: C :: D :: F) := hS.split
  refine enter (vs := [.pointer (some ⟨b, 0, none⟩), .int .i64 p]) 23 Try.func10 rfl rfl (by simp) ?_; intro a hA
  refine wp_seq ?_
  refine wp_region_lit ?_
  refine st_run tbOk 1 hA (e' := (4, .nilIface) :: _) rfl ?_; clear hA; intro a hA
  refine wpList_nil ?_
  replace hA := hA.sel [0, 1] (e' := [(0, .pointer (some ⟨b, 0, none⟩)), (1, .int .i64 p)]) rfl
  refine xt_norm ?_
  refine wp_seq ?_
  refine wp_seq ?_
  refine wp_region_lit ?_
  refine st_run tbOk 3 hA (e' := (7, .pointer (some ⟨b, 0, none⟩)) :: (6, .pointer (some ⟨b, 0, none⟩)) :: (5, .pointer (some ⟨b, 0, none⟩)) :: _) rfl ?_; clear hA; intro a hA
  refine st_val hA rfl rfl (by decide) (rn_load tbOk hA rfl rfl rfl rfl (cell_row (hS.heapAt 0 rfl) rfl)) ?_; clear hA; intro a hA
  refine st_run tbOk 2 hA (e' := (10, .bool (((ps.length : Nat) : Int) == 0)) :: (9, .int .i64 ((ps.length : Nat) : Int)) :: _) rfl ?_; clear hA; intro a hA
  refine wpList_nil ?_
  replace hA := hA.sel [0, 1, 10] (e' := [(0, .pointer (some ⟨b, 0, none⟩)), (1, .int .i64 p), (10, .bool (((ps.length : Nat) : Int) == 0))]) rfl
  refine xt_norm ?_
  have hc1 : ((ps.length : Nat) : Int) = 0 := by omega
  replace hA := hA.rw 10 (v' := .bool true) rfl (vb_eq_t hc1)
  refine cd_cond_t hA rfl ?_
  refine wp_seq ?_
  refine wp_region_lit ?_
  refine st_run tbOk 2 hA (e' := (4, .iface 41 (.int .i64 12)) :: (11, .iface 41 (.int .i64 12)) :: _) rfl ?_; clear hA; intro a hA
  refine wpList_nil ?_
  replace hA := hA.sel [4] (e' := [(4, .iface 41 (.int .i64 12))]) rfl
  refine xt_norm ?_
  refine wp_ret (xt_ret ?_)
  refine ret1 (fn := Try.f10) hA rfl rfl ?_
  replace hS := hS.front 1 (C := C) (L' := [(b, rowO [.slice A ps.length c] 26)] :: D :: F) rfl rfl
  replace hS := hS.front 1 (C := [(b, rowO [.slice A ps.length c] 26)]) (L' := C :: D :: F) rfl rfl
  replace hS := hS.front 2 (C := D) (L' := [(b, rowO [.slice A ps.length c] 26)] :: C :: F) rfl rfl
  replace hS := hS.front 2 (C := C) (L' := D :: [(b, rowO [.slice A ps.length c] 26)] :: F) rfl rfl
  replace hS := hS.front 2 (C := [(b, rowO [.slice A ps.length c] 26)]) (L' := C :: D :: F) rfl rfl
  replace hS := hS.join
  exact ⟨_, ⟨_, _, hO, rfl⟩, rfl, hS⟩

theorem double_full10 {w0 w : World} {F : List Chunk} {L D : Chunk} {b : Nat} {ps : List Pkt} (hS : St w0 w (L :: D :: F)) (hM : WR b ps L) (p : Int) (h0 : 0 < ps.length) (hl : 1024 ≤ ps.length) (hn : ps.length ≤ 1048576) (hdd : ∀ x ∈ ps, encPacket_dd w0 D x) (hbd : ∀ x ∈ ps, (pdat x).length ≤ 140737488351232) :
    Ret Try.prog 10 #[.pointer (some ⟨b, 0, none⟩), .int .i64 p] w (fun v w' => ∃ L', WR b ps L' ∧ v = .iface 41 (.int .i64 5) ∧ St w0 w' (L' :: D :: F)) := by
  obtain ⟨v, C, hO, rfl⟩ := hM
  obtain ⟨A, c, rfl, hmc, hcx⟩ := hO.open'
  replace hS : St w0 w ([(b, rowO [.slice A ps.length c] 26)] :: C :: D :: F) := hS.split
  refine enter (vs := [.pointer (some ⟨b, 0, none⟩), .int .i64 p]) 23 Try.func10 rfl rfl (by simp) ?_; intro a hA
  refine wp_seq ?_
  refine wp_region_lit ?_
  refine st_run tbOk 1 hA (e' := (4, .nilIface) :: _) rfl ?_; clear hA; intro a hA
  refine wpList_nil ?_
  replace hA := hA.sel [0, 1] (e' := [(0, .pointer (some ⟨b, 0, none⟩)), (1, .int .i64 p)]) rfl
  refine xt_norm ?_
  refine wp_seq ?_
  refine wp_seq ?_
  refine wp_region_lit ?_
  refine st_run tbOk 3 hA (e' := (7, .pointer (some ⟨b, 0, none⟩)) :: (6, .pointer (some ⟨b, 0, none⟩)) :: (5, .pointer (some ⟨b, 0, none⟩)) :: _) rfl ?_; clear hA; intro a hA
  refine st_val hA rfl rfl (by decide) (rn_load tbOk hA rfl rfl rfl rfl (cell_row (hS.heapAt 0 rfl) rfl)) ?_; clear hA; intro a hA
  refine st_run tbOk 2 hA (e' := (10, .bool (((ps.length : Nat) : Int) == 0)) :: (9, .int .i64 ((ps.length : Nat) : Int)) :: _) rfl ?_; clear hA; intro a hA
  refine wpList_nil ?_
  replace hA := hA.sel [0, 1, 10] (e' := [(0, .pointer (some ⟨b, 0, none⟩)), (1, .int .i64 p), (10, .bool (((ps.length : Nat) : Int) == 0))]) rfl
  refine xt_norm ?_
  have hc1 : ¬ (((ps.length : Nat) : Int) = 0) := by omega
  replace hA := hA.rw 10 (v' := .bool false) rfl (vb_eq_f hc1)
  refine cd_cond_f hA rfl ?_
  refine wp_skip ?_
  refine xt_norm ?_
  refine wp_seq ?_
  refine wp_drawN (fun w' => St w0 w' (F)) [] [(0, true), (1, true), (2, true), (3, true), (5, true), (6, true)] 4 (.L [(7, false), (8, true), (9, false), (10, false), (11, true)]) 7 (.L [(4, false), (8, true), (9, false), (10, false), (11, true)]) mixed (by kernel_rfl) (by rintro c a w ⟨_, _, h, _⟩; cases h) (by rfl) (by kernel_rfl) ?_
  replace hS := hS.drew
  refine dr_run tbOk 6 hA (hS.tail 3 rfl) (e' := (18, .int .i64 p) :: (17, .pointer (some ⟨b, 0, none⟩)) :: (15, .pointer (some ⟨b, 0, none⟩)) :: (14, .pointer (some ⟨b, 0, none⟩)) :: (13, .pointer (some ⟨b, 0, none⟩)) :: (12, .pointer (some ⟨b, 0, none⟩)) :: _) rfl ?_; clear hA; intro a hA
  refine dr_fork ?_ ?_
  · refine dr_b (o := _) rfl ?_
    refine st_val hA rfl rfl (by decide) (rn_load tbOk hA rfl rfl rfl rfl (cell_row (hS.heapAt 0 rfl) rfl)) ?_; clear hA; intro a hA
    refine dr_nil (.inr (hS.tail 3 rfl)) ?_
    refine dr_subL ?_
    refine dr_b (o := _) rfl ?_
    refine st_call0 hA rfl rfl rfl isfn12 rfl rfl (by decide) (place12 hS p h0 (by omega)) ?_
    clear hA hS; rintro _ w2 a ⟨k, hk, hkp, rfl, hS⟩ hA
    refine dr_nil (.inr (hS.tail 3 rfl)) ?_
    obtain ⟨b3, o4, rfl⟩ := hO.isSome (k := k) (by omega)
    refine dr_y hA rfl rfl rfl (by decide) (hS.tail 3 rfl) (fun w' hS' => rn_indexAddr tbOk hA k (o4 + (k * 6)) rfl rfl rfl rfl rfl rfl (by rfl) (by omega) (by first | rfl | simp [Nat.mul_one, Nat.zero_add] | omega)) ?_; clear hA; intro a hA
    refine dr_b (o := _) rfl ?_
    obtain ⟨x5, hx5⟩ := get_ex (l := ps) (k := k) (by omega)
    obtain ⟨x5f0, x5f1, x5f2, x5f3, x5f4, x5A5, x5c5, x5b5⟩ := x5
    have hd6 := hdd _ (List.mem_of_getElem? hx5)
    refine st_val hA rfl rfl (by decide) (rn_loadA tbOk hA ([.int .i64 x5f0, .int .i64 x5f1, .int .u64 x5f2, .int .i64 x5f3, .int .i64 x5f4, .slice x5A5 x5b5.length x5c5]) rfl rfl rfl rfl (by rfl) ((hO.rd (hS.own_ 1 rfl)).elem (k := k) encPacket_ok hx5)) ?_; clear hA; intro a hA
    refine dr_nil (.inr (hS.tail 3 rfl)) ?_
    refine dr_b (o := _) rfl ?_
    replace hS := hS.front 1 (C := C) (L' := [(b, rowO [.slice (some ⟨b3, o4, none⟩) ps.length c] 26)] :: D :: F) rfl rfl
    replace hS := hS.front 1 (C := [(b, rowO [.slice (some ⟨b3, o4, none⟩) ps.length c] 26)]) (L' := C :: D :: F) rfl rfl
    replace hS := hS.front 2 (C := D) (L' := [(b, rowO [.slice (some ⟨b3, o4, none⟩) ps.length c] 26)] :: C :: F) rfl rfl
    replace hS := hS.front 2 (C := C) (L' := D :: [(b, rowO [.slice (some ⟨b3, o4, none⟩) ps.length c] 26)] :: F) rfl rfl
    replace hS := hS.front 2 (C := [(b, rowO [.slice (some ⟨b3, o4, none⟩) ps.length c] 26)]) (L' := C :: D :: F) rfl rfl
    replace hS := hS.join
    have hbx := hbd _ (List.mem_of_getElem? hx5); dsimp only [pdat] at hbx
    refine st_call0 hA rfl rfl rfl isfn7 rfl rfl (by decide) (send_full7 hS ⟨_, _, hO, rfl⟩ x5f0 x5f1 x5f2 x5f3 x5f4 (DD.rds hd6 0 rfl) (by omega) (by omega)) ?_
    clear hA hS; rintro _ w7 a ⟨L2, hM2, rfl, hS⟩ hA
    refine dr_nil (.inr (hS.tail 2 rfl)) ?_
    refine dr_run tbOk 1 hA (hS.tail 2 rfl) (e' := (4, .iface 41 (.int .i64 5)) :: _) rfl ?_; clear hA; intro a hA
    refine dr_end ?_
    replace hA := hA.sel [4] (e' := [(4, .iface 41 (.int .i64 5))]) rfl
    refine xt_norm ?_
    refine wp_ret ?_
    refine ret1 (fn := Try.f10) hA rfl rfl ?_
    exact ⟨_, hM2, rfl, hS⟩
  · refine dr_b (o := _) rfl ?_
    refine st_call0 hA rfl rfl rfl isfn12 rfl rfl (by decide) (place12 hS p h0 (by omega)) ?_
    clear hA hS; rintro _ w8 a ⟨k, hk, hkp, rfl, hS⟩ hA
    refine dr_nil (.inr (hS.tail 3 rfl)) ?_
    refine dr_subL ?_
    refine dr_b (o := _) rfl ?_
    refine st_val hA rfl rfl (by decide) (rn_load tbOk hA rfl rfl rfl rfl (cell_row (hS.heapAt 0 rfl) rfl)) ?_; clear hA; intro a hA
    refine dr_nil (.inr (hS.tail 3 rfl)) ?_
    obtain ⟨b9, o10, rfl⟩ := hO.isSome (k := k) (by omega)
    refine dr_y hA rfl rfl rfl (by decide) (hS.tail 3 rfl) (fun w' hS' => rn_indexAddr tbOk hA k (o10 + (k * 6)) rfl rfl rfl rfl rfl rfl (by rfl) (by omega) (by first | rfl | simp [Nat.mul_one, Nat.zero_add] | omega)) ?_; clear hA; intro a hA
    refine dr_b (o := _) rfl ?_
    obtain ⟨x11, hx11⟩ := get_ex (l := ps) (k := k) (by omega)
    obtain ⟨x11f0, x11f1, x11f2, x11f3, x11f4, x11A5, x11c5, x11b5⟩ := x11
    have hd12 := hdd _ (List.mem_of_getElem? hx11)
    refine st_val hA rfl rfl (by decide) (rn_loadA tbOk hA ([.int .i64 x11f0, .int .i64 x11f1, .int .u64 x11f2, .int .i64 x11f3, .int .i64 x11f4, .slice x11A5 x11b5.length x11c5]) rfl rfl rfl rfl (by rfl) ((hO.rd (hS.own_ 1 rfl)).elem (k := k) encPacket_ok hx11)) ?_; clear hA; intro a hA
    refine dr_nil (.inr (hS.tail 3 rfl)) ?_
    refine dr_b (o := _) rfl ?_
    replace hS := hS.front 1 (C := C) (L' := [(b, rowO [.slice (some ⟨b9, o10, none⟩) ps.length c] 26)] :: D :: F) rfl rfl
    replace hS := hS.front 1 (C := [(b, rowO [.slice (some ⟨b9, o10, none⟩) ps.length c] 26)]) (L' := C :: D :: F) rfl rfl
    replace hS := hS.front 2 (C := D) (L' := [(b, rowO [.slice (some ⟨b9, o10, none⟩) ps.length c] 26)] :: C :: F) rfl rfl
    replace hS := hS.front 2 (C := C) (L' := D :: [(b, rowO [.slice (some ⟨b9, o10, none⟩) ps.length c] 26)] :: F) rfl rfl
    replace hS := hS.front 2 (C := [(b, rowO [.slice (some ⟨b9, o10, none⟩) ps.length c] 26)]) (L' := C :: D :: F) rfl rfl
    replace hS := hS.join
    have hbx := hbd _ (List.mem_of_getElem? hx11); dsimp only [pdat] at hbx
    refine st_call0 hA rfl rfl rfl isfn7 rfl rfl (by decide) (send_full7 hS ⟨_, _, hO, rfl⟩ x11f0 x11f1 x11f2 x11f3 x11f4 (DD.rds hd12 0 rfl) (by omega) (by omega)) ?_
    clear hA hS; rintro _ w13 a ⟨L2, hM2, rfl, hS⟩ hA
    refine dr_nil (.inr (hS.tail 2 rfl)) ?_
    refine dr_run tbOk 1 hA (hS.tail 2 rfl) (e' := (4, .iface 41 (.int .i64 5)) :: _) rfl ?_; clear hA; intro a hA
    refine dr_end ?_
    replace hA := hA.sel [4] (e' := [(4, .iface 41 (.int .i64 5))]) rfl
    refine xt_norm ?_
    refine wp_ret ?_
    refine ret1 (fn := Try.f10) hA rfl rfl ?_
    exact ⟨_, hM2, rfl, hS⟩

def isW (ps : List Pkt) (k : Nat) : Prop := ps.length = k ∧ ∀ (i : Nat) (x : Pkt), ps[i]? = some x → ∃ A c, x = (0, 0, ((i : Nat) : Int), 0, 0, A, c, [])
theorem isW.nil : isW [] 0 := ⟨rfl, fun i x h => by simp at h⟩
theorem isW.add {ps : List Pkt} {k : Nat} (h : isW ps k) (A : Option Addr) (c : Nat) : isW (ps ++ [(0, 0, ((k : Nat) : Int), 0, 0, A, c, [])]) (k + 1) := by
  refine ⟨by simp [h.1], fun i x hx => ?_⟩
  by_cases hi : i < ps.length
  · rw [List.getElem?_append_left hi] at hx; exact h.2 i x hx
  · have h2 := (List.getElem?_eq_some_iff.1 hx).1
    have h3 : i < ps.length + 1 := by simpa using h2
    obtain rfl : i = ps.length := by omega
    rw [List.getElem?_append_right (Nat.le_refl _)] at hx
    simp at hx
    subst hx
    exact ⟨A, c, by rw [h.1]⟩
theorem isW.short {ps : List Pkt} {k : Nat} (h : isW ps k) : ∀ x ∈ ps, (pdat x).length ≤ 140737488351232 := fun x hx => by
  obtain ⟨i, hi⟩ := List.mem_iff_getElem?.1 hx
  obtain ⟨A, c, rfl⟩ := h.2 i x hi
  exact Nat.zero_le _
theorem m1_mod {n : Nat} (h : 0 < n) : (-1 : Int) % (n : Int) = n - 1 := by
  rw [show (-1 : Int) = ((n : Int) - 1) + n * (-1) by omega, Int.add_mul_emod_self_left]; exact Int.emod_eq_of_lt (by omega) (by omega)
theorem rest_front {ps : List Pkt} {i : Nat} : (ps.drop i).take 0 ++ (ps.drop i).drop (0 + 1) = ps.drop (i + 1) := by rw [List.take_zero, List.nil_append, List.drop_drop]
theorem rest_back {ps : List Pkt} {i k : Nat} (hi : i ≤ ps.length) (hk : k + 1 = (ps.take i).length) : (ps.take i).take k ++ (ps.take i).drop (k + 1) = ps.take (i - 1) := by
  rw [List.drop_eq_nil_of_le (by omega), List.append_nil, List.take_take]
  congr 1
  rw [List.length_take] at hk; omega
theorem u8_of (x : Int) (h0 : 0 ≤ x) (h1 : x < 256) : ∃ z : UInt8, ((z.toNat : Nat) : Int) = x := ⟨UInt8.ofNat x.toNat, by rw [UInt8.toNat_ofNat']; omega⟩
theorem wrap_u8_rng (x : Int) : 0 ≤ IntKind.u8.wrap x ∧ IntKind.u8.wrap x < 256 := by
  have : IntKind.u8.wrap x = x % 256 := by
    unfold IntKind.wrap; simp [IntKind.min, IntKind.max, IntKind.bits, IntKind.signed]
  omega

theorem awake6 {w0 w : World} {F : List Chunk} (hS : St w0 w F) :
    Ret Try.prog 6 #[] w (fun v w' => v = .bool true ∧ St w0 w' F) := by
  refine enter (vs := []) 40 Try.func6 rfl rfl (by simp) ?_; intro a hA
  refine wp_seq ?_
  refine wp_region_lit ?_
  refine st_run tbOk 1 hA (e' := (0, .bool false) :: _) rfl ?_; clear hA; intro a hA
  refine wpList_nil ?_
  replace hA := hA.sel [] (e' := []) rfl
  refine xt_norm ?_
  refine wp_seq ?_
  refine wp_region_lit ?_
  refine st_run tbOk 1 hA (e' := (6, .agg #[.slice none 0 0]) :: _) rfl ?_; clear hA; intro a hA
  refine st_box hA hS [.slice none 0 0] rfl rfl rfl rfl rfl (by decide) ?_; clear hA hS; intro b1 w2 a hS hA
  obtain ⟨L3, hM4, hS⟩ : ∃ Z, WR b1 [] Z ∧ St w0 w2 (Z :: F) := ⟨_, WR.new _, hS⟩
  replace hS := hS.nil
  refine st_run tbOk 1 hA (e' := (1, .pointer (some ⟨b1, 0, none⟩)) :: _) rfl ?_; clear hA; intro a hA
  refine wpList_nil ?_
  replace hA := hA.sel [1] (e' := [(1, .pointer (some ⟨b1, 0, none⟩))]) rfl
  refine xt_norm ?_
  refine wp_seq ?_
  refine wp_seq ?_
  refine wp_region_lit ?_
  refine st_run tbOk 1 hA (e' := (8, .int .i64 0) :: _) rfl ?_; clear hA; intro a hA
  refine wpList_nil ?_
  refine xt_norm ?_
  refine wp_block ?_
  replace hS := hS.front 1 (C := L3) (L' := [] :: F) rfl rfl
  refine wp_loop_ghost (fun m a w => ∃ (k : Nat) (ps : List Pkt) (L : Chunk) (D : Chunk), m = 3 - k ∧ Has a 40 [(1, .pointer (some ⟨b1, 0, none⟩)), (8, .int .i64 ((k : Nat) : Int))] ∧ St w0 w (L :: D :: F) ∧ (k ≤ 3) ∧ (isW ps k) ∧ (WR b1 ps L) ∧ (∀ x ∈ ps, encPacket_dd w0 D x)) (3 - 0)
    ⟨0, ([]), L3, ([]), rfl, (hA.sel [1, 8] rfl), hS, Nat.zero_le _, isW.nil, hM4, fun x hx => by simp at hx⟩ ?_
  clear hA hS; rintro m0 a w5 ⟨k, ps, L, D, rfl, hA, hS, hk, hw, hM, hdd⟩
  have hpl := hw.1
  refine wp_seq ?_
  refine wp_region_lit ?_
  refine st_run tbOk 1 hA (e' := (9, .bool (decide (((k : Nat) : Int) < 3))) :: _) rfl ?_; clear hA; intro a hA
  refine wpList_nil ?_
  refine xt_norm ?_
  refine wp_seq ?_
  by_cases hc6 : ((k : Nat) : Int) < 3
  · first
    | (exfalso; omega)
    | (replace hA := hA.rw 9 (v' := .bool true) rfl (vb_true hc6)
       refine cd_cond_t hA rfl ?_
       refine wp_skip ?_
       refine xt_norm ?_
       refine wp_seq ?_
       refine wp_block ?_
       refine wp_seq ?_
       refine wp_region_lit ?_
       refine st_run tbOk 2 hA (e' := (2, .int .i64 ((k : Nat) : Int)) :: (10, .int .i64 ((k : Nat) : Int)) :: _) rfl ?_; clear hA; intro a hA
       refine wpList_nil ?_
       replace hA := hA.sel [1, 2, 8] (e' := [(1, .pointer (some ⟨b1, 0, none⟩)), (2, .int .i64 ((k : Nat) : Int)), (8, .int .i64 ((k : Nat) : Int))]) rfl
       refine xt_norm ?_
       refine wp_seq ?_
       refine wp_region_lit ?_
       refine st_run tbOk 3 hA (e' := (13, .int .u64 (IntKind.u64.wrap ((k : Nat) : Int))) :: (12, .int .i64 ((k : Nat) : Int)) :: (11, .pointer (some ⟨b1, 0, none⟩)) :: _) rfl ?_; clear hA; intro a hA
       replace hA := hA.rw 13 (v' := .int .u64 ((k : Nat) : Int)) rfl (vint (wrap_u64 (by omega) (by omega)))
       refine st_run tbOk 1 hA (e' := (14, .agg #[.int .i64 0, .int .i64 0, .int .u64 ((k : Nat) : Int), .int .i64 0, .int .i64 0, .slice none 0 0]) :: _) rfl ?_; clear hA; intro a hA
       replace hS := hS.front 1 (C := D) (L' := L :: F) rfl rfl
       replace hS := hS.front 1 (C := L) (L' := D :: F) rfl rfl
       refine st_call0 hA rfl rfl rfl isfn7 rfl rfl (by decide) (send_ok7 hS hM 0 0 ((k : Nat) : Int) 0 0 (bs := ([] : List UInt8)) RdS.nil (by first | omega | exact Nat.zero_le _) (by omega)) ?_
       clear hA hS; rintro _ w7 a ⟨L8, E10, A11, c12, hM9, hE13, rfl, hS⟩ hA
       refine st_run tbOk 1 hA (e' := (16, .bool false) :: _) rfl ?_; clear hA; intro a hA
       refine wpList_nil ?_
       replace hA := hA.sel [1, 8, 16] (e' := [(1, .pointer (some ⟨b1, 0, none⟩)), (8, .int .i64 ((k : Nat) : Int)), (16, .bool false)]) rfl
       refine xt_norm ?_
       refine cd_cond_f hA rfl ?_
       refine wp_skip ?_
       refine xb_norm ?_
       refine xt_norm ?_
       refine wp_region_lit ?_
       refine st_run tbOk 1 hA (e' := (17, .int .i64 (IntKind.i64.wrap (((k : Nat) : Int) + 1))) :: _) rfl ?_; clear hA; intro a hA
       replace hA := hA.rw 17 (v' := .int .i64 ((k + 1 : Nat) : Int)) rfl (wr64 (by omega) (by omega) (by omega))
       refine st_run tbOk 1 hA (e' := (8, .int .i64 ((k + 1 : Nat) : Int)) :: _) rfl ?_; clear hA; intro a hA
       refine wpList_nil ?_
       replace hA := hA.sel [1, 8] (e' := [(1, .pointer (some ⟨b1, 0, none⟩)), (8, .int .i64 ((k + 1 : Nat) : Int))]) rfl
       replace hS := hS.front 1 (C := (E10 ++ D)) (L' := L8 :: F) rfl rfl
       replace hS := hS.front 1 (C := L8) (L' := (E10 ++ D) :: F) rfl rfl
       exact lp_next _ (by omega) ⟨(k + 1), (ps ++ [(0, 0, ((k : Nat) : Int), 0, 0, A11, c12, ([] : List UInt8))]), L8, (E10 ++ D), rfl, (hA.sel [1, 8] rfl), hS, by omega, hw.add A11 c12, hM9, dd_app hdd hE13⟩)
  · first
    | (exfalso; omega)
    | (replace hA := hA.rw 9 (v' := .bool false) rfl (vb_false hc6)
       refine cd_cond_f hA rfl ?_
       refine wp_exit ?_
       refine xt_exit ?_
       refine xt_exit ?_
       refine cd_exit_eq ?_
       refine xt_norm ?_
       refine wp_seq ?_
       refine wp_region_lit ?_
       have hk3 : k = 3 := by omega
       subst hk3
       have hpl := hw.1
       refine st_run tbOk 1 hA (e' := (19, .pointer (some ⟨b1, 0, none⟩)) :: _) rfl ?_; clear hA; intro a hA
       replace hS := hS.front 1 (C := D) (L' := L :: F) rfl rfl
       replace hS := hS.front 1 (C := L) (L' := D :: F) rfl rfl
       refine st_call0 hA rfl rfl rfl isfn8 rfl rfl (by decide) (arrive_ok8 hS hM 4 (by omega) (by omega)) ?_
       clear hA hS; rintro _ w14 a ⟨q17, ⟨q17x0, q17x1, q17x2, q17x3, q17x4, q17A, q17c, q17b⟩, hq17, hpq17, hxq17, L15, hM16, rfl, hS⟩ hA
       rw [hpl] at hpq17
       have hq1 : q17 = 1 := by omega
       subst hq1
       obtain ⟨A9, c9, he9⟩ := hw.2 1 _ hxq17
       simp only [Prod.mk.injEq] at he9
       have hl2 : (ps.take 1 ++ ps.drop (1 + 1)).length = 2 := by simp; omega
       refine st_run tbOk 3 hA (e' := (22, .bool true) :: (21, .agg #[.int .i64 q17x0, .int .i64 q17x1, .int .u64 q17x2, .int .i64 q17x3, .int .i64 q17x4, .slice q17A q17b.length q17c]) :: (18, .tuple #[.agg #[.int .i64 q17x0, .int .i64 q17x1, .int .u64 q17x2, .int .i64 q17x3, .int .i64 q17x4, .slice q17A q17b.length q17c], .bool true]) :: _) rfl ?_; clear hA; intro a hA
       refine st_alloc tbOk hA hS [.int .i64 0, .int .i64 0, .int .u64 0, .int .i64 0, .int .i64 0, .slice none 0 0] rfl rfl rfl rfl rfl (by decide) ?_; clear hA hS; intro b18 w19 a hS hA
       refine st_store tbOk hA hS [.int .i64 q17x0, .int .i64 q17x1, .int .u64 q17x2, .int .i64 q17x3, .int .i64 q17x4, .slice q17A q17b.length q17c] [.int .i64 q17x0, .int .i64 q17x1, .int .u64 q17x2, .int .i64 q17x3, .int .i64 q17x4, .slice q17A q17b.length q17c] rfl rfl rfl rfl rfl rfl (by simp [Value.oneCell']) (Nat.le_of_ble_eq_true rfl) rfl rfl rfl ?_; clear hS; intro w20 hS
       refine st_run tbOk 1 hA (e' := (4, .bool true) :: _) rfl ?_; clear hA; intro a hA
       refine wpList_nil ?_
       replace hA := hA.sel [1, 3, 4] (e' := [(1, .pointer (some ⟨b1, 0, none⟩)), (3, .pointer (some ⟨b18, 0, none⟩)), (4, .bool true)]) rfl
       refine xt_norm ?_
       refine wp_seq ?_
       refine wp_region_lit ?_
       refine st_run tbOk 1 hA (e' := (23, .pointer (some ⟨b1, 0, none⟩)) :: _) rfl ?_; clear hA; intro a hA
       replace hS := hS.front 2 (C := D) (L' := [(b18, rowO [.int .i64 q17x0, .int .i64 q17x1, .int .u64 q17x2, .int .i64 q17x3, .int .i64 q17x4, .slice q17A q17b.length q17c] 33)] :: L15 :: F) rfl rfl
       replace hS := hS.front 2 (C := L15) (L' := D :: [(b18, rowO [.int .i64 q17x0, .int .i64 q17x1, .int .u64 q17x2, .int .i64 q17x3, .int .i64 q17x4, .slice q17A q17b.length q17c] 33)] :: F) rfl rfl
       refine st_call0 hA rfl rfl rfl isfn10 rfl rfl (by decide) (double_ok10 hS hM16 1 (by omega) (by omega) (dd_sub hdd 1) (fun x hx => hw.short x ((List.mem_append.1 hx).elim List.mem_of_mem_take List.mem_of_mem_drop))) ?_
       clear hA hS; rintro _ w21 a ⟨q24, q24x, hq24, hpq24, hxq24, L22, E25, A26, c27, hM23, hE28, rfl, hS⟩ hA
       refine st_run tbOk 1 hA (e' := (5, .nilIface) :: _) rfl ?_; clear hA; intro a hA
       refine wpList_nil ?_
       replace hA := hA.sel [1, 3, 4, 5] (e' := [(1, .pointer (some ⟨b1, 0, none⟩)), (3, .pointer (some ⟨b18, 0, none⟩)), (4, .bool true), (5, .nilIface)]) rfl
       refine xt_norm ?_
       refine wp_seq ?_
       refine wp_region_lit ?_
       refine st_run tbOk 3 hA (e' := (27, .pointer (some ⟨b18, 2, none⟩)) :: (26, .bool true) :: (25, .bool true) :: _) rfl ?_; clear hA; intro a hA
       refine st_val hA rfl rfl (by decide) (rn_load tbOk hA rfl rfl rfl rfl (cell_row (hS.heapAt 2 rfl) rfl)) ?_; clear hA; intro a hA
       refine st_run tbOk 3 hA (e' := (31, .bool (q17x2 == 1)) :: (30, .bool (q17x2 == 1)) :: (29, .bool (q17x2 == 1)) :: _) rfl ?_; clear hA; intro a hA
       by_cases hc29 : q17x2 = 1
       · first
         | (exfalso; omega)
         | (replace hA := hA.rw 29 (v' := .bool true) rfl (vb_eq_t hc29)
            replace hA := hA.rw 30 (v' := .bool true) rfl (vb_eq_t hc29)
            replace hA := hA.rw 31 (v' := .bool true) rfl (vb_eq_t hc29)
            refine st_run tbOk 5 hA (e' := (36, .pointer (some ⟨b1, 0, none⟩)) :: (35, .bool true) :: (34, .bool true) :: (33, .bool true) :: (32, .nilIface) :: _) rfl ?_; clear hA; intro a hA
            replace hS := hS.front 1 (C := (E25 ++ D)) (L' := L22 :: [(b18, rowO [.int .i64 q17x0, .int .i64 q17x1, .int .u64 q17x2, .int .i64 q17x3, .int .i64 q17x4, .slice q17A q17b.length q17c] 33)] :: F) rfl rfl
            replace hS := hS.front 1 (C := L22) (L' := (E25 ++ D) :: [(b18, rowO [.int .i64 q17x0, .int .i64 q17x1, .int .u64 q17x2, .int .i64 q17x3, .int .i64 q17x4, .slice q17A q17b.length q17c] 33)] :: F) rfl rfl
            refine st_call0 hA rfl rfl rfl isfn9 rfl rfl (by decide) (wlen9 hS hM23) ?_
            clear hA hS; rintro _ w30 a ⟨L31, hM32, rfl, hS⟩ hA
            replace hA := hA.rw 37 (v' := .int .i64 3) rfl (vint (by simp only [List.length_append, List.length_cons, List.length_nil] at hl2 ⊢; omega))
            refine st_run tbOk 3 hA (e' := (0, .bool true) :: (39, .bool true) :: (38, .bool true) :: _) rfl ?_; clear hA; intro a hA
            refine wpList_nil ?_
            replace hA := hA.sel [0] (e' := [(0, .bool true)]) rfl
            refine xt_norm ?_
            refine wp_ret ?_
            refine ret1 (fn := Try.f6) hA rfl rfl ?_
            replace hS := hS.drop1
            replace hS := hS.drop1
            replace hS := hS.drop1
            exact ⟨rfl, hS⟩)
       · first
         | (exfalso; omega)
         | (replace hA := hA.rw 29 (v' := .bool false) rfl (vb_eq_f hc29)
            replace hA := hA.rw 30 (v' := .bool false) rfl (vb_eq_f hc29)
            replace hA := hA.rw 31 (v' := .bool false) rfl (vb_eq_f hc29)
            refine st_run tbOk 6 hA (e' := (37, undef) :: (36, undef) :: (35, .bool false) :: (34, .bool false) :: (33, undef) :: (32, undef) :: _) rfl ?_; clear hA; intro a hA
            replace hA := hA.rw 37 (v' := .int .i64 3) rfl (vint (by simp only [List.length_append, List.length_cons, List.length_nil] at hl2 ⊢; omega))
            refine st_run tbOk 3 hA (e' := (0, .bool false) :: (39, .bool false) :: (38, undef) :: _) rfl ?_; clear hA; intro a hA
            refine wpList_nil ?_
            replace hA := hA.sel [0] (e' := [(0, .bool false)]) rfl
            refine xt_norm ?_
            refine wp_ret ?_
            refine ret1 (fn := Try.f6) hA rfl rfl ?_
            exfalso; omega))

theorem full17_3 {w0 w : World} {F : List Chunk} (hS : St w0 w F) (a0 : Int) (h0 : 0 ≤ a0) (hb0 : a0 < 256) :
    Ret Try.prog 3 #[.int .u8 a0] w (fun v w' => v = .bool true ∧ St w0 w' F) := by
  obtain ⟨g, rfl⟩ := Int.eq_ofNat_of_zero_le h0
  refine enter (vs := [.int .u8 ((g : Nat) : Int)]) 45 Try.func3 rfl rfl (by simp) ?_; intro a hA
  refine wp_seq ?_
  refine wp_region_lit ?_
  refine st_run tbOk 1 hA (e' := (2, .bool false) :: _) rfl ?_; clear hA; intro a hA
  refine wpList_nil ?_
  replace hA := hA.sel [0] (e' := [(0, .int .u8 ((g : Nat) : Int))]) rfl
  refine xt_norm ?_
  refine wp_seq ?_
  refine wp_seq ?_
  refine wp_region_lit ?_
  refine st_call0 hA rfl rfl rfl isfn6 rfl rfl (by decide) (awake6 hS) ?_
  clear hA hS; rintro v w1 a ⟨rfl, hS⟩ hA
  refine st_run tbOk 1 hA (e' := (9, .bool false) :: _) rfl ?_; clear hA; intro a hA
  refine wpList_nil ?_
  replace hA := hA.sel [0, 9] (e' := [(0, .int .u8 ((g : Nat) : Int)), (9, .bool false)]) rfl
  refine xt_norm ?_
  refine cd_cond_f hA rfl ?_
  refine wp_skip ?_
  refine xt_norm ?_
  refine wp_seq ?_
  refine wp_region_lit ?_
  refine st_run tbOk 1 hA (e' := (10, .agg #[.slice none 0 0]) :: _) rfl ?_; clear hA; intro a hA
  refine st_box hA hS [.slice none 0 0] rfl rfl rfl rfl rfl (by decide) ?_; clear hA hS; intro b2 w3 a hS hA
  obtain ⟨L4, hM5, hS⟩ : ∃ Z, WR b2 [] Z ∧ St w0 w3 (Z :: F) := ⟨_, WR.new _, hS⟩
  replace hS := hS.nil
  refine st_run tbOk 1 hA (e' := (3, .pointer (some ⟨b2, 0, none⟩)) :: _) rfl ?_; clear hA; intro a hA
  refine wpList_nil ?_
  replace hA := hA.sel [0, 3] (e' := [(0, .int .u8 ((g : Nat) : Int)), (3, .pointer (some ⟨b2, 0, none⟩))]) rfl
  refine xt_norm ?_
  refine wp_seq ?_
  refine wp_seq ?_
  refine wp_region_lit ?_
  refine st_run tbOk 1 hA (e' := (4, .int .i64 0) :: _) rfl ?_; clear hA; intro a hA
  refine wpList_nil ?_
  refine xt_norm ?_
  refine wp_block ?_
  replace hS := hS.front 1 (C := L4) (L' := [] :: F) rfl rfl
  refine wp_loop_ghost (fun m a w => ∃ (k : Nat) (ps : List Pkt) (L : Chunk) (D : Chunk), m = 1024 + g - k ∧ Has a 45 [(0, .int .u8 ((g : Nat) : Int)), (3, .pointer (some ⟨b2, 0, none⟩)), (4, .int .i64 ((k : Nat) : Int))] ∧ St w0 w (L :: D :: F) ∧ (k ≤ 1024 + g) ∧ (isW ps (min k 1024)) ∧ (WR b2 ps L)) (1024 + g - 0)
    ⟨0, ([]), L4, ([]), rfl, (hA.sel [0, 3, 4] rfl), hS, Nat.zero_le _, isW.nil, hM5⟩ ?_
  clear hA hS; rintro m0 a w6 ⟨k, ps, L, D, rfl, hA, hS, hk, hw, hM⟩
  have hpl := hw.1
  refine wp_seq ?_
  refine wp_seq ?_
  refine wp_region_lit ?_
  refine st_run tbOk 3 hA (e' := (14, .int .i64 (IntKind.i64.wrap ((g : Nat) : Int))) :: (13, .int .u8 ((g : Nat) : Int)) :: (12, .int .i64 ((k : Nat) : Int)) :: _) rfl ?_; clear hA; intro a hA
  replace hA := hA.rw 14 (v' := .int .i64 ((g : Nat) : Int)) rfl (wr64 (by rfl) (by omega) (by omega))
  refine st_run tbOk 1 hA (e' := (15, .int .i64 (IntKind.i64.wrap (1024 + ((g : Nat) : Int)))) :: _) rfl ?_; clear hA; intro a hA
  replace hA := hA.rw 15 (v' := .int .i64 ((1024 + g : Nat) : Int)) rfl (wr64 (by omega) (by omega) (by omega))
  refine st_run tbOk 1 hA (e' := (16, .bool (decide (((k : Nat) : Int) < ((1024 + g : Nat) : Int)))) :: _) rfl ?_; clear hA; intro a hA
  refine wpList_nil ?_
  replace hA := hA.sel [0, 3, 4, 16] (e' := [(0, .int .u8 ((g : Nat) : Int)), (3, .pointer (some ⟨b2, 0, none⟩)), (4, .int .i64 ((k : Nat) : Int)), (16, .bool (decide (((k : Nat) : Int) < ((1024 + g : Nat) : Int))))]) rfl
  refine xt_norm ?_
  by_cases hc7 : ((k : Nat) : Int) < ((1024 + g : Nat) : Int)
  · first
    | (exfalso; omega)
    | (replace hA := hA.rw 16 (v' := .bool true) rfl (vb_true hc7)
       refine cd_cond_t hA rfl ?_
       refine wp_skip ?_
       refine xt_norm ?_
       refine wp_seq ?_
       refine wp_block ?_
       refine wp_seq ?_
       refine wp_region_lit ?_
       refine st_run tbOk 3 hA (e' := (21, .int .u64 (IntKind.u64.wrap ((k : Nat) : Int))) :: (20, .int .i64 ((k : Nat) : Int)) :: (19, .pointer (some ⟨b2, 0, none⟩)) :: _) rfl ?_; clear hA; intro a hA
       replace hA := hA.rw 21 (v' := .int .u64 ((k : Nat) : Int)) rfl (vint (wrap_u64 (by omega) (by omega)))
       refine st_run tbOk 1 hA (e' := (22, .agg #[.int .i64 0, .int .i64 0, .int .u64 ((k : Nat) : Int), .int .i64 0, .int .i64 0, .slice none 0 0]) :: _) rfl ?_; clear hA; intro a hA
       rcases Nat.lt_or_ge k 1024 with hkl | hkl
       · replace hS := hS.front 1 (C := D) (L' := L :: F) rfl rfl
         replace hS := hS.front 1 (C := L) (L' := D :: F) rfl rfl
         refine st_call0 hA rfl rfl rfl isfn7 rfl rfl (by decide) (send_ok7 hS hM 0 0 ((k : Nat) : Int) 0 0 (bs := ([] : List UInt8)) RdS.nil (by first | omega | exact Nat.zero_le _) (by omega)) ?_
         clear hA hS; rintro _ w8 a ⟨L9, E11, A12, c13, hM10, hE14, rfl, hS⟩ hA
         refine st_run tbOk 1 hA (e' := (5, .nilIface) :: _) rfl ?_; clear hA; intro a hA
         refine wpList_nil ?_
         replace hA := hA.sel [0, 3, 4, 5] (e' := [(0, .int .u8 ((g : Nat) : Int)), (3, .pointer (some ⟨b2, 0, none⟩)), (4, .int .i64 ((k : Nat) : Int)), (5, .nilIface)]) rfl
         refine xt_norm ?_
         refine wp_seq ?_
         refine wp_region_lit ?_
         refine st_run tbOk 4 hA (e' := (27, .bool (decide (((k : Nat) : Int) < 1024))) :: (26, .int .i64 ((k : Nat) : Int)) :: (25, .bool true) :: (24, .nilIface) :: _) rfl ?_; clear hA; intro a hA
         by_cases hc15 : ((k : Nat) : Int) < 1024
         · first
           | (exfalso; omega)
           | (replace hA := hA.rw 27 (v' := .bool true) rfl (vb_true hc15)
              refine st_run tbOk 1 hA (e' := (28, .bool false) :: _) rfl ?_; clear hA; intro a hA
              refine wpList_nil ?_
              replace hA := hA.sel [0, 3, 4, 28] (e' := [(0, .int .u8 ((g : Nat) : Int)), (3, .pointer (some ⟨b2, 0, none⟩)), (4, .int .i64 ((k : Nat) : Int)), (28, .bool false)]) rfl
              refine xt_norm ?_
              refine cd_cond_f hA rfl ?_
              refine wp_skip ?_
              refine xb_norm ?_
              refine xt_norm ?_
              refine wp_region_lit ?_
              refine st_run tbOk 2 hA (e' := (18, .int .i64 (IntKind.i64.wrap (((k : Nat) : Int) + 1))) :: (17, .int .i64 ((k : Nat) : Int)) :: _) rfl ?_; clear hA; intro a hA
              replace hA := hA.rw 18 (v' := .int .i64 ((k + 1 : Nat) : Int)) rfl (wr64 (by omega) (by omega) (by omega))
              refine st_run tbOk 1 hA (e' := (4, .int .i64 ((k + 1 : Nat) : Int)) :: _) rfl ?_; clear hA; intro a hA
              refine wpList_nil ?_
              replace hA := hA.sel [0, 3, 4] (e' := [(0, .int .u8 ((g : Nat) : Int)), (3, .pointer (some ⟨b2, 0, none⟩)), (4, .int .i64 ((k + 1 : Nat) : Int))]) rfl
              replace hS := hS.front 1 (C := (E11 ++ D)) (L' := L9 :: F) rfl rfl
              replace hS := hS.front 1 (C := L9) (L' := (E11 ++ D) :: F) rfl rfl
              have hmn : min k 1024 = k := by omega
              rw [hmn] at hw
              exact lp_next _ (by omega) ⟨(k + 1), (ps ++ [(0, 0, ((k : Nat) : Int), 0, 0, A12, c13, ([] : List UInt8))]), L9, (E11 ++ D), rfl, (hA.sel [0, 3, 4] rfl), hS, by omega, (by rw [show min (k + 1) 1024 = k + 1 by omega]; exact hw.add A12 c13), hM10⟩)
         · first
           | (exfalso; omega)
           | (replace hA := hA.rw 27 (v' := .bool false) rfl (vb_false hc15)
              refine st_run tbOk 1 hA (e' := (28, .bool true) :: _) rfl ?_; clear hA; intro a hA
              refine wpList_nil ?_
              replace hA := hA.sel [0, 3, 4, 28] (e' := [(0, .int .u8 ((g : Nat) : Int)), (3, .pointer (some ⟨b2, 0, none⟩)), (4, .int .i64 ((k : Nat) : Int)), (28, .bool true)]) rfl
              refine xt_norm ?_
              refine cd_cond_t hA rfl ?_
              refine wp_seq ?_
              refine wp_region_lit ?_
              refine st_run tbOk 1 hA (e' := (2, .bool false) :: _) rfl ?_; clear hA; intro a hA
              refine wpList_nil ?_
              replace hA := hA.sel [2] (e' := [(2, .bool false)]) rfl
              refine xt_norm ?_
              refine wp_ret (xb_ret (xt_ret (xt_ret (xb_ret (xt_ret ?_)))))
              refine ret1 (fn := Try.f3) hA rfl rfl ?_
              exfalso; omega)
       · replace hS := hS.front 1 (C := D) (L' := L :: F) rfl rfl
         replace hS := hS.front 1 (C := L) (L' := D :: F) rfl rfl
         refine st_call0 hA rfl rfl rfl isfn7 rfl rfl (by decide) (send_full7 hS hM 0 0 ((k : Nat) : Int) 0 0 (bs := ([] : List UInt8)) RdS.nil (by first | omega | exact Nat.zero_le _) (by omega)) ?_
         clear hA hS; rintro _ w16 a ⟨L17, hM18, rfl, hS⟩ hA
         refine st_run tbOk 1 hA (e' := (5, .iface 41 (.int .i64 5)) :: _) rfl ?_; clear hA; intro a hA
         refine wpList_nil ?_
         replace hA := hA.sel [0, 3, 4, 5] (e' := [(0, .int .u8 ((g : Nat) : Int)), (3, .pointer (some ⟨b2, 0, none⟩)), (4, .int .i64 ((k : Nat) : Int)), (5, .iface 41 (.int .i64 5))]) rfl
         refine xt_norm ?_
         refine wp_seq ?_
         refine wp_region_lit ?_
         refine st_run tbOk 4 hA (e' := (27, .bool (decide (((k : Nat) : Int) < 1024))) :: (26, .int .i64 ((k : Nat) : Int)) :: (25, .bool false) :: (24, .iface 41 (.int .i64 5)) :: _) rfl ?_; clear hA; intro a hA
         by_cases hc19 : ((k : Nat) : Int) < 1024
         · first
           | (exfalso; omega)
           | (replace hA := hA.rw 27 (v' := .bool true) rfl (vb_true hc19)
              refine st_run tbOk 1 hA (e' := (28, .bool true) :: _) rfl ?_; clear hA; intro a hA
              refine wpList_nil ?_
              replace hA := hA.sel [0, 3, 4, 28] (e' := [(0, .int .u8 ((g : Nat) : Int)), (3, .pointer (some ⟨b2, 0, none⟩)), (4, .int .i64 ((k : Nat) : Int)), (28, .bool true)]) rfl
              refine xt_norm ?_
              refine cd_cond_t hA rfl ?_
              refine wp_seq ?_
              refine wp_region_lit ?_
              refine st_run tbOk 1 hA (e' := (2, .bool false) :: _) rfl ?_; clear hA; intro a hA
              refine wpList_nil ?_
              replace hA := hA.sel [2] (e' := [(2, .bool false)]) rfl
              refine xt_norm ?_
              refine wp_ret (xb_ret (xt_ret (xt_ret (xb_ret (xt_ret ?_)))))
              refine ret1 (fn := Try.f3) hA rfl rfl ?_
              exfalso; omega)
         · first
           | (exfalso; omega)
           | (replace hA := hA.rw 27 (v' := .bool false) rfl (vb_false hc19)
              refine st_run tbOk 1 hA (e' := (28, .bool false) :: _) rfl ?_; clear hA; intro a hA
              refine wpList_nil ?_
              replace hA := hA.sel [0, 3, 4, 28] (e' := [(0, .int .u8 ((g : Nat) : Int)), (3, .pointer (some ⟨b2, 0, none⟩)), (4, .int .i64 ((k : Nat) : Int)), (28, .bool false)]) rfl
              refine xt_norm ?_
              refine cd_cond_f hA rfl ?_
              refine wp_skip ?_
              refine xb_norm ?_
              refine xt_norm ?_
              refine wp_region_lit ?_
              refine st_run tbOk 2 hA (e' := (18, .int .i64 (IntKind.i64.wrap (((k : Nat) : Int) + 1))) :: (17, .int .i64 ((k : Nat) : Int)) :: _) rfl ?_; clear hA; intro a hA
              replace hA := hA.rw 18 (v' := .int .i64 ((k + 1 : Nat) : Int)) rfl (wr64 (by omega) (by omega) (by omega))
              refine st_run tbOk 1 hA (e' := (4, .int .i64 ((k + 1 : Nat) : Int)) :: _) rfl ?_; clear hA; intro a hA
              refine wpList_nil ?_
              replace hA := hA.sel [0, 3, 4] (e' := [(0, .int .u8 ((g : Nat) : Int)), (3, .pointer (some ⟨b2, 0, none⟩)), (4, .int .i64 ((k + 1 : Nat) : Int))]) rfl
              replace hS := hS.front 1 (C := D) (L' := L17 :: F) rfl rfl
              replace hS := hS.front 1 (C := L17) (L' := D :: F) rfl rfl
              exact lp_next _ (by omega) ⟨(k + 1), (ps), L17, D, rfl, (hA.sel [0, 3, 4] rfl), hS, by omega, (by rw [show min (k + 1) 1024 = min k 1024 by omega]; exact hw), hM18⟩))
  · first
    | (exfalso; omega)
    | (replace hA := hA.rw 16 (v' := .bool false) rfl (vb_false hc7)
       refine cd_cond_f hA rfl ?_
       refine wp_exit ?_
       refine xt_exit ?_
       refine xt_exit ?_
       refine cd_exit_eq ?_
       refine xt_norm ?_
       refine wp_seq ?_
       refine wp_region_lit ?_
       have hmn : min k 1024 = 1024 := by omega
       rw [hmn] at hw
       have hpl := hw.1
       refine st_run tbOk 1 hA (e' := (30, .pointer (some ⟨b2, 0, none⟩)) :: _) rfl ?_; clear hA; intro a hA
       replace hS := hS.front 1 (C := D) (L' := L :: F) rfl rfl
       replace hS := hS.front 1 (C := L) (L' := D :: F) rfl rfl
       refine st_call0 hA rfl rfl rfl isfn8 rfl rfl (by decide) (arrive_ok8 hS hM (-1) (by omega) (by omega)) ?_
       clear hA hS; rintro _ w20 a ⟨q23, ⟨q23x0, q23x1, q23x2, q23x3, q23x4, q23A, q23c, q23b⟩, hq23, hpq23, hxq23, L21, hM22, rfl, hS⟩ hA
       rw [hpl] at hpq23
       have hq1 : q23 = 1023 := by omega
       subst hq1
       obtain ⟨A9, c9, he9⟩ := hw.2 1023 _ hxq23
       simp only [Prod.mk.injEq] at he9
       have hl2 : (ps.take 1023 ++ ps.drop (1023 + 1)).length = 1023 := by simp; omega
       refine st_run tbOk 3 hA (e' := (33, .bool true) :: (32, .agg #[.int .i64 q23x0, .int .i64 q23x1, .int .u64 q23x2, .int .i64 q23x3, .int .i64 q23x4, .slice q23A q23b.length q23c]) :: (29, .tuple #[.agg #[.int .i64 q23x0, .int .i64 q23x1, .int .u64 q23x2, .int .i64 q23x3, .int .i64 q23x4, .slice q23A q23b.length q23c], .bool true]) :: _) rfl ?_; clear hA; intro a hA
       refine st_alloc tbOk hA hS [.int .i64 0, .int .i64 0, .int .u64 0, .int .i64 0, .int .i64 0, .slice none 0 0] rfl rfl rfl rfl rfl (by decide) ?_; clear hA hS; intro b24 w25 a hS hA
       refine st_store tbOk hA hS [.int .i64 q23x0, .int .i64 q23x1, .int .u64 q23x2, .int .i64 q23x3, .int .i64 q23x4, .slice q23A q23b.length q23c] [.int .i64 q23x0, .int .i64 q23x1, .int .u64 q23x2, .int .i64 q23x3, .int .i64 q23x4, .slice q23A q23b.length q23c] rfl rfl rfl rfl rfl rfl (by simp [Value.oneCell']) (Nat.le_of_ble_eq_true rfl) rfl rfl rfl ?_; clear hS; intro w26 hS
       refine st_run tbOk 1 hA (e' := (7, .bool true) :: _) rfl ?_; clear hA; intro a hA
       refine wpList_nil ?_
       replace hA := hA.sel [3, 6, 7] (e' := [(3, .pointer (some ⟨b2, 0, none⟩)), (6, .pointer (some ⟨b24, 0, none⟩)), (7, .bool true)]) rfl
       refine xt_norm ?_
       refine wp_seq ?_
       refine wp_region_lit ?_
       refine st_run tbOk 3 hA (e' := (36, .pointer (some ⟨b24, 2, none⟩)) :: (35, .bool true) :: (34, .bool true) :: _) rfl ?_; clear hA; intro a hA
       refine st_val hA rfl rfl (by decide) (rn_load tbOk hA rfl rfl rfl rfl (cell_row (hS.heapAt 0 rfl) rfl)) ?_; clear hA; intro a hA
       refine st_run tbOk 3 hA (e' := (40, .bool (q23x2 == 1023)) :: (39, .bool (q23x2 == 1023)) :: (38, .bool (q23x2 == 1023)) :: _) rfl ?_; clear hA; intro a hA
       by_cases hc27 : q23x2 = 1023
       · first
         | (exfalso; omega)
         | (replace hA := hA.rw 38 (v' := .bool true) rfl (vb_eq_t hc27)
            replace hA := hA.rw 39 (v' := .bool true) rfl (vb_eq_t hc27)
            replace hA := hA.rw 40 (v' := .bool true) rfl (vb_eq_t hc27)
            refine st_run tbOk 1 hA (e' := (41, .pointer (some ⟨b2, 0, none⟩)) :: _) rfl ?_; clear hA; intro a hA
            replace hS := hS.front 2 (C := D) (L' := [(b24, rowO [.int .i64 q23x0, .int .i64 q23x1, .int .u64 q23x2, .int .i64 q23x3, .int .i64 q23x4, .slice q23A q23b.length q23c] 33)] :: L21 :: F) rfl rfl
            replace hS := hS.front 2 (C := L21) (L' := D :: [(b24, rowO [.int .i64 q23x0, .int .i64 q23x1, .int .u64 q23x2, .int .i64 q23x3, .int .i64 q23x4, .slice q23A q23b.length q23c] 33)] :: F) rfl rfl
            refine st_call0 hA rfl rfl rfl isfn9 rfl rfl (by decide) (wlen9 hS hM22) ?_
            clear hA hS; rintro _ w28 a ⟨L29, hM30, rfl, hS⟩ hA
            refine st_run tbOk 3 hA (e' := (2, .bool ((((ps.take 1023 ++ ps.drop (1023 + 1)).length : Nat) : Int) == 1023)) :: (44, .bool ((((ps.take 1023 ++ ps.drop (1023 + 1)).length : Nat) : Int) == 1023)) :: (43, .bool ((((ps.take 1023 ++ ps.drop (1023 + 1)).length : Nat) : Int) == 1023)) :: _) rfl ?_; clear hA; intro a hA
            refine wpList_nil ?_
            replace hA := hA.sel [2] (e' := [(2, .bool ((((ps.take 1023 ++ ps.drop (1023 + 1)).length : Nat) : Int) == 1023))]) rfl
            refine xt_norm ?_
            refine wp_ret ?_
            refine ret1 (fn := Try.f3) hA rfl rfl ?_
            replace hS := hS.drop1
            replace hS := hS.drop1
            replace hS := hS.drop1
            exact ⟨congrArg Value.bool (beq_iff_eq.2 (by omega)), hS⟩)
       · first
         | (exfalso; omega)
         | (replace hA := hA.rw 38 (v' := .bool false) rfl (vb_eq_f hc27)
            replace hA := hA.rw 39 (v' := .bool false) rfl (vb_eq_f hc27)
            replace hA := hA.rw 40 (v' := .bool false) rfl (vb_eq_f hc27)
            refine st_run tbOk 5 hA (e' := (2, .bool false) :: (44, .bool false) :: (43, undef) :: (42, undef) :: (41, undef) :: _) rfl ?_; clear hA; intro a hA
            refine wpList_nil ?_
            replace hA := hA.sel [2] (e' := [(2, .bool false)]) rfl
            refine xt_norm ?_
            refine wp_ret ?_
            refine ret1 (fn := Try.f3) hA rfl rfl ?_
            exfalso; omega))

theorem order_f5 {w0 w : World} {F : List Chunk} (hS : St w0 w F) (a0 : Int) (h0 : 0 ≤ a0) (hb0 : a0 < 256) :
    Ret Try.prog 5 #[.int .u8 a0, .bool false] w (fun v w' => v = .bool true ∧ St w0 w' F) := by
  obtain ⟨g, rfl⟩ := Int.eq_ofNat_of_zero_le h0
  refine enter (vs := [.int .u8 ((g : Nat) : Int), .bool false]) 69 Try.func5 rfl rfl (by simp) ?_; intro a hA
  refine wp_seq ?_
  refine wp_region_lit ?_
  refine st_run tbOk 1 hA (e' := (4, .bool false) :: _) rfl ?_; clear hA; intro a hA
  refine wpList_nil ?_
  replace hA := hA.sel [0, 1] (e' := [(0, .int .u8 ((g : Nat) : Int)), (1, .bool false)]) rfl
  refine xt_norm ?_
  refine wp_seq ?_
  refine wp_seq ?_
  refine wp_region_lit ?_
  refine st_call0 hA rfl rfl rfl isfn6 rfl rfl (by decide) (awake6 hS) ?_
  clear hA hS; rintro v w1 a ⟨rfl, hS⟩ hA
  refine st_run tbOk 1 hA (e' := (16, .bool false) :: _) rfl ?_; clear hA; intro a hA
  refine wpList_nil ?_
  replace hA := hA.sel [0, 1, 16] (e' := [(0, .int .u8 ((g : Nat) : Int)), (1, .bool false), (16, .bool false)]) rfl
  refine xt_norm ?_
  refine cd_cond_f hA rfl ?_
  refine wp_skip ?_
  refine xt_norm ?_
  refine wp_seq ?_
  refine wp_region_lit ?_
  refine st_run tbOk 1 hA (e' := (17, .agg #[.slice none 0 0]) :: _) rfl ?_; clear hA; intro a hA
  refine st_box hA hS [.slice none 0 0] rfl rfl rfl rfl rfl (by decide) ?_; clear hA hS; intro b2 w3 a hS hA
  obtain ⟨L4, hM5, hS⟩ : ∃ Z, WR b2 [] Z ∧ St w0 w3 (Z :: F) := ⟨_, WR.new _, hS⟩
  replace hS := hS.nil
  refine st_run tbOk 1 hA (e' := (5, .pointer (some ⟨b2, 0, none⟩)) :: _) rfl ?_; clear hA; intro a hA
  refine wpList_nil ?_
  replace hA := hA.sel [0, 1, 5] (e' := [(0, .int .u8 ((g : Nat) : Int)), (1, .bool false), (5, .pointer (some ⟨b2, 0, none⟩))]) rfl
  refine xt_norm ?_
  refine wp_seq ?_
  refine wp_region_lit ?_
  refine st_run tbOk 2 hA (e' := (20, .int .i64 (IntKind.i64.wrap ((g : Nat) : Int))) :: (19, .int .u8 ((g : Nat) : Int)) :: _) rfl ?_; clear hA; intro a hA
  replace hA := hA.rw 20 (v' := .int .i64 ((g : Nat) : Int)) rfl (wr64 (by rfl) (by omega) (by omega))
  refine st_run tbOk 1 hA (e' := (6, .int .i64 ((g : Nat) : Int)) :: _) rfl ?_; clear hA; intro a hA
  refine wpList_nil ?_
  replace hA := hA.sel [1, 5, 6] (e' := [(1, .bool false), (5, .pointer (some ⟨b2, 0, none⟩)), (6, .int .i64 ((g : Nat) : Int))]) rfl
  refine xt_norm ?_
  refine wp_seq ?_
  refine wp_seq ?_
  refine wp_region_lit ?_
  refine st_run tbOk 1 hA (e' := (7, .int .i64 0) :: _) rfl ?_; clear hA; intro a hA
  refine wpList_nil ?_
  refine xt_norm ?_
  refine wp_block ?_
  replace hS := hS.front 1 (C := L4) (L' := [] :: F) rfl rfl
  refine wp_loop_ghost (fun m a w => ∃ (k : Nat) (ps : List Pkt) (L : Chunk) (D : Chunk), m = g - k ∧ Has a 69 [(1, .bool false), (5, .pointer (some ⟨b2, 0, none⟩)), (6, .int .i64 ((g : Nat) : Int)), (7, .int .i64 ((k : Nat) : Int))] ∧ St w0 w (L :: D :: F) ∧ (k ≤ g) ∧ (isW ps k) ∧ (WR b2 ps L) ∧ (∀ x ∈ ps, encPacket_dd w0 D x)) (g - 0)
    ⟨0, ([]), L4, ([]), rfl, (hA.sel [1, 5, 6, 7] rfl), hS, Nat.zero_le _, isW.nil, hM5, fun x hx => by simp at hx⟩ ?_
  clear hA hS; rintro m0 a w6 ⟨k, ps, L, D, rfl, hA, hS, hk, hw, hM, hdd⟩
  have hpl := hw.1
  refine wp_seq ?_
  refine wp_seq ?_
  refine wp_region_lit ?_
  refine st_run tbOk 3 hA (e' := (23, .bool (decide (((k : Nat) : Int) < ((g : Nat) : Int)))) :: (22, .int .i64 ((g : Nat) : Int)) :: (21, .int .i64 ((k : Nat) : Int)) :: _) rfl ?_; clear hA; intro a hA
  refine wpList_nil ?_
  replace hA := hA.sel [1, 5, 6, 7, 23] (e' := [(1, .bool false), (5, .pointer (some ⟨b2, 0, none⟩)), (6, .int .i64 ((g : Nat) : Int)), (7, .int .i64 ((k : Nat) : Int)), (23, .bool (decide (((k : Nat) : Int) < ((g : Nat) : Int))))]) rfl
  refine xt_norm ?_
  by_cases hc7 : ((k : Nat) : Int) < ((g : Nat) : Int)
  · first
    | (exfalso; omega)
    | (replace hA := hA.rw 23 (v' := .bool true) rfl (vb_true hc7)
       refine cd_cond_t hA rfl ?_
       refine wp_skip ?_
       refine xt_norm ?_
       refine wp_seq ?_
       refine wp_block ?_
       refine wp_region_lit ?_
       refine st_run tbOk 3 hA (e' := (28, .int .u64 (IntKind.u64.wrap ((k : Nat) : Int))) :: (27, .int .i64 ((k : Nat) : Int)) :: (26, .pointer (some ⟨b2, 0, none⟩)) :: _) rfl ?_; clear hA; intro a hA
       replace hA := hA.rw 28 (v' := .int .u64 ((k : Nat) : Int)) rfl (vint (wrap_u64 (by omega) (by omega)))
       refine st_run tbOk 1 hA (e' := (29, .agg #[.int .i64 0, .int .i64 0, .int .u64 ((k : Nat) : Int), .int .i64 0, .int .i64 0, .slice none 0 0]) :: _) rfl ?_; clear hA; intro a hA
       replace hS := hS.front 1 (C := D) (L' := L :: F) rfl rfl
       replace hS := hS.front 1 (C := L) (L' := D :: F) rfl rfl
       refine st_call0 hA rfl rfl rfl isfn7 rfl rfl (by decide) (send_ok7 hS hM 0 0 ((k : Nat) : Int) 0 0 (bs := ([] : List UInt8)) RdS.nil (by first | omega | exact Nat.zero_le _) (by omega)) ?_
       clear hA hS; rintro _ w8 a ⟨L9, E11, A12, c13, hM10, hE14, rfl, hS⟩ hA
       refine wpList_nil ?_
       replace hA := hA.sel [1, 5, 6, 7] (e' := [(1, .bool false), (5, .pointer (some ⟨b2, 0, none⟩)), (6, .int .i64 ((g : Nat) : Int)), (7, .int .i64 ((k : Nat) : Int))]) rfl
       refine xb_norm ?_
       refine xt_norm ?_
       refine wp_region_lit ?_
       refine st_run tbOk 2 hA (e' := (25, .int .i64 (IntKind.i64.wrap (((k : Nat) : Int) + 1))) :: (24, .int .i64 ((k : Nat) : Int)) :: _) rfl ?_; clear hA; intro a hA
       replace hA := hA.rw 25 (v' := .int .i64 ((k + 1 : Nat) : Int)) rfl (wr64 (by omega) (by omega) (by omega))
       refine st_run tbOk 1 hA (e' := (7, .int .i64 ((k + 1 : Nat) : Int)) :: _) rfl ?_; clear hA; intro a hA
       refine wpList_nil ?_
       replace hA := hA.sel [1, 5, 6, 7] (e' := [(1, .bool false), (5, .pointer (some ⟨b2, 0, none⟩)), (6, .int .i64 ((g : Nat) : Int)), (7, .int .i64 ((k + 1 : Nat) : Int))]) rfl
       replace hS := hS.front 1 (C := (E11 ++ D)) (L' := L9 :: F) rfl rfl
       replace hS := hS.front 1 (C := L9) (L' := (E11 ++ D) :: F) rfl rfl
       exact lp_next _ (by omega) ⟨(k + 1), (ps ++ [(0, 0, ((k : Nat) : Int), 0, 0, A12, c13, ([] : List UInt8))]), L9, (E11 ++ D), rfl, (hA.sel [1, 5, 6, 7] rfl), hS, by omega, hw.add A12 c13, hM10, dd_app hdd hE14⟩)
  · first
    | (exfalso; omega)
    | (replace hA := hA.rw 23 (v' := .bool false) rfl (vb_false hc7)
       refine cd_cond_f hA rfl ?_
       refine wp_exit ?_
       refine xt_exit ?_
       refine xt_exit ?_
       refine cd_exit_eq ?_
       refine xt_norm ?_
       refine wp_seq ?_
       refine wp_seq ?_
       refine wp_region_lit ?_
       refine st_run tbOk 1 hA (e' := (8, .int .i64 0) :: _) rfl ?_; clear hA; intro a hA
       refine wpList_nil ?_
       replace hA := hA.sel [1, 5, 6, 8] (e' := [(1, .bool false), (5, .pointer (some ⟨b2, 0, none⟩)), (6, .int .i64 ((g : Nat) : Int)), (8, .int .i64 0)]) rfl
       refine xt_norm ?_
       refine wp_block ?_
       replace hS := hS.front 1 (C := D) (L' := L :: F) rfl rfl
       replace hS := hS.front 1 (C := L) (L' := D :: F) rfl rfl
       have hkg : k = g := by omega
       have hpl := hw.1
       have hM15 : WR b2 (ps.drop 0) L := (by rw [List.drop_zero]; exact hM)
       refine wp_loop_ghost (fun m a w => ∃ (i : Nat) (L4 : Chunk), m = k - i ∧ Has a 69 [(1, .bool false), (5, .pointer (some ⟨b2, 0, none⟩)), (6, .int .i64 ((g : Nat) : Int)), (8, .int .i64 ((i : Nat) : Int))] ∧ St w0 w (L4 :: D :: F) ∧ (i ≤ k) ∧ (WR b2 (ps.drop i) L4)) (k - 0)
         ⟨0, L, rfl, (hA.sel [1, 5, 6, 8] rfl), hS, Nat.zero_le _, hM15⟩ ?_
       clear hA hS; rintro m0 a w16 ⟨i, L4, rfl, hA, hS, hi, hM4⟩
       have hql : (ps.drop i).length = k - i := by simp; omega
       refine wp_seq ?_
       refine wp_seq ?_
       refine wp_region_lit ?_
       refine st_run tbOk 3 hA (e' := (33, .bool (decide (((i : Nat) : Int) < ((g : Nat) : Int)))) :: (32, .int .i64 ((g : Nat) : Int)) :: (31, .int .i64 ((i : Nat) : Int)) :: _) rfl ?_; clear hA; intro a hA
       refine wpList_nil ?_
       replace hA := hA.sel [1, 5, 6, 8, 33] (e' := [(1, .bool false), (5, .pointer (some ⟨b2, 0, none⟩)), (6, .int .i64 ((g : Nat) : Int)), (8, .int .i64 ((i : Nat) : Int)), (33, .bool (decide (((i : Nat) : Int) < ((g : Nat) : Int))))]) rfl
       refine xt_norm ?_
       by_cases hc17 : ((i : Nat) : Int) < ((g : Nat) : Int)
       · first
         | (exfalso; omega)
         | (replace hA := hA.rw 33 (v' := .bool true) rfl (vb_true hc17)
            refine cd_cond_t hA rfl ?_
            refine wp_skip ?_
            refine xt_norm ?_
            refine wp_seq ?_
            refine wp_block ?_
            refine wp_seq ?_
            refine wp_region_lit ?_
            refine st_run tbOk 3 hA (e' := (10, .int .i64 ((i : Nat) : Int)) :: (9, .int .i64 0) :: (36, .int .i64 ((i : Nat) : Int)) :: _) rfl ?_; clear hA; intro a hA
            refine wpList_nil ?_
            replace hA := hA.sel [1, 5, 6, 8, 9, 10] (e' := [(1, .bool false), (5, .pointer (some ⟨b2, 0, none⟩)), (6, .int .i64 ((g : Nat) : Int)), (8, .int .i64 ((i : Nat) : Int)), (9, .int .i64 0), (10, .int .i64 ((i : Nat) : Int))]) rfl
            refine xt_norm ?_
            refine wp_seq ?_
            refine wp_seq ?_
            refine wp_region_lit ?_
            refine st_run tbOk 1 hA (e' := (37, .bool false) :: _) rfl ?_; clear hA; intro a hA
            refine wpList_nil ?_
            refine xt_norm ?_
            refine cd_cond_f hA rfl ?_
            refine wp_skip ?_
            refine xt_norm ?_
            refine wp_seq ?_
            refine wp_region_lit ?_
            refine st_run tbOk 2 hA (e' := (44, .int .i64 0) :: (43, .pointer (some ⟨b2, 0, none⟩)) :: _) rfl ?_; clear hA; intro a hA
            replace hS := hS.front 1 (C := D) (L' := L4 :: F) rfl rfl
            replace hS := hS.front 1 (C := L4) (L' := D :: F) rfl rfl
            refine st_call0 hA rfl rfl rfl isfn8 rfl rfl (by decide) (arrive_ok8 hS hM4 0 (by omega) (by omega)) ?_
            clear hA hS; rintro _ w18 a ⟨q21, ⟨q21x0, q21x1, q21x2, q21x3, q21x4, q21A, q21c, q21b⟩, hq21, hpq21, hxq21, L19, hM20, rfl, hS⟩ hA
            have hq1 : q21 = 0 := by rw [Int.zero_emod] at hpq21; omega
            subst hq1
            have hqx : ps[i]? = some (q21x0, q21x1, q21x2, q21x3, q21x4, q21A, q21c, q21b) := by have h := hxq21; rw [List.getElem?_drop] at h; exact h
            obtain ⟨A9, c9, he9⟩ := hw.2 _ _ hqx
            simp only [Prod.mk.injEq] at he9
            refine st_run tbOk 3 hA (e' := (47, .bool true) :: (46, .agg #[.int .i64 q21x0, .int .i64 q21x1, .int .u64 q21x2, .int .i64 q21x3, .int .i64 q21x4, .slice q21A q21b.length q21c]) :: (42, .tuple #[.agg #[.int .i64 q21x0, .int .i64 q21x1, .int .u64 q21x2, .int .i64 q21x3, .int .i64 q21x4, .slice q21A q21b.length q21c], .bool true]) :: _) rfl ?_; clear hA; intro a hA
            refine st_alloc tbOk hA hS [.int .i64 0, .int .i64 0, .int .u64 0, .int .i64 0, .int .i64 0, .slice none 0 0] rfl rfl rfl rfl rfl (by decide) ?_; clear hA hS; intro b22 w23 a hS hA
            refine st_store tbOk hA hS [.int .i64 q21x0, .int .i64 q21x1, .int .u64 q21x2, .int .i64 q21x3, .int .i64 q21x4, .slice q21A q21b.length q21c] [.int .i64 q21x0, .int .i64 q21x1, .int .u64 q21x2, .int .i64 q21x3, .int .i64 q21x4, .slice q21A q21b.length q21c] rfl rfl rfl rfl rfl rfl (by simp [Value.oneCell']) (Nat.le_of_ble_eq_true rfl) rfl rfl rfl ?_; clear hS; intro w24 hS
            refine st_run tbOk 1 hA (e' := (12, .bool true) :: _) rfl ?_; clear hA; intro a hA
            refine wpList_nil ?_
            replace hA := hA.sel [1, 5, 6, 8, 10, 11, 12] (e' := [(1, .bool false), (5, .pointer (some ⟨b2, 0, none⟩)), (6, .int .i64 ((g : Nat) : Int)), (8, .int .i64 ((i : Nat) : Int)), (10, .int .i64 ((i : Nat) : Int)), (11, .pointer (some ⟨b22, 0, none⟩)), (12, .bool true)]) rfl
            refine xt_norm ?_
            refine wp_seq ?_
            refine wp_region_lit ?_
            refine st_run tbOk 4 hA (e' := (51, .pointer (some ⟨b22, 2, none⟩)) :: (50, .bool false) :: (49, .bool false) :: (48, .bool true) :: _) rfl ?_; clear hA; intro a hA
            refine st_val hA rfl rfl (by decide) (rn_load tbOk hA rfl rfl rfl rfl (cell_row (hS.heapAt 0 rfl) rfl)) ?_; clear hA; intro a hA
            refine st_run tbOk 2 hA (e' := (54, .int .u64 (IntKind.u64.wrap ((i : Nat) : Int))) :: (53, .int .i64 ((i : Nat) : Int)) :: _) rfl ?_; clear hA; intro a hA
            replace hA := hA.rw 54 (v' := .int .u64 ((i : Nat) : Int)) rfl (vint (wrap_u64 (by omega) (by omega)))
            refine st_run tbOk 2 hA (e' := (56, .bool (q21x2 != ((i : Nat) : Int))) :: (55, .bool (q21x2 != ((i : Nat) : Int))) :: _) rfl ?_; clear hA; intro a hA
            refine wpList_nil ?_
            replace hA := hA.sel [1, 5, 6, 8, 56] (e' := [(1, .bool false), (5, .pointer (some ⟨b2, 0, none⟩)), (6, .int .i64 ((g : Nat) : Int)), (8, .int .i64 ((i : Nat) : Int)), (56, .bool (q21x2 != ((i : Nat) : Int)))]) rfl
            refine xt_norm ?_
            by_cases hc25 : q21x2 = ((i : Nat) : Int)
            · first
              | (exfalso; omega)
              | (replace hA := hA.rw 56 (v' := .bool false) rfl (vb_ne_f hc25)
                 refine cd_cond_f hA rfl ?_
                 refine wp_skip ?_
                 refine xb_norm ?_
                 refine xt_norm ?_
                 refine wp_region_lit ?_
                 refine st_run tbOk 2 hA (e' := (35, .int .i64 (IntKind.i64.wrap (((i : Nat) : Int) + 1))) :: (34, .int .i64 ((i : Nat) : Int)) :: _) rfl ?_; clear hA; intro a hA
                 replace hA := hA.rw 35 (v' := .int .i64 ((i + 1 : Nat) : Int)) rfl (wr64 (by omega) (by omega) (by omega))
                 refine st_run tbOk 1 hA (e' := (8, .int .i64 ((i + 1 : Nat) : Int)) :: _) rfl ?_; clear hA; intro a hA
                 refine wpList_nil ?_
                 replace hA := hA.sel [1, 5, 6, 8] (e' := [(1, .bool false), (5, .pointer (some ⟨b2, 0, none⟩)), (6, .int .i64 ((g : Nat) : Int)), (8, .int .i64 ((i + 1 : Nat) : Int))]) rfl
                 replace hS := hS.drop1
                 replace hS := hS.front 1 (C := D) (L' := L19 :: F) rfl rfl
                 replace hS := hS.front 1 (C := L19) (L' := D :: F) rfl rfl
                 exact lp_next _ (by omega) ⟨(i + 1), L19, rfl, (hA.sel [1, 5, 6, 8] rfl), hS, by omega, (by have h := hM20; rw [rest_front] at h; exact h)⟩)
            · first
              | (exfalso; omega)
              | (replace hA := hA.rw 56 (v' := .bool true) rfl (vb_ne_t hc25)
                 refine cd_cond_t hA rfl ?_
                 refine wp_seq ?_
                 refine wp_region_lit ?_
                 refine st_run tbOk 1 hA (e' := (4, .bool false) :: _) rfl ?_; clear hA; intro a hA
                 refine wpList_nil ?_
                 replace hA := hA.sel [4] (e' := [(4, .bool false)]) rfl
                 refine xt_norm ?_
                 refine wp_ret (xb_ret (xt_ret (xt_ret (xb_ret (xt_ret ?_)))))
                 refine ret1 (fn := Try.f5) hA rfl rfl ?_
                 exfalso; omega))
       · first
         | (exfalso; omega)
         | (replace hA := hA.rw 33 (v' := .bool false) rfl (vb_false hc17)
            refine cd_cond_f hA rfl ?_
            refine wp_exit ?_
            refine xt_exit ?_
            refine xt_exit ?_
            refine cd_exit_eq ?_
            refine xt_norm ?_
            refine wp_seq ?_
            refine wp_region_lit ?_
            have hik : i = k := by omega
            have hl0 : (ps.drop i).length = 0 := by simp; omega
            refine st_run tbOk 1 hA (e' := (58, .pointer (some ⟨b2, 0, none⟩)) :: _) rfl ?_; clear hA; intro a hA
            replace hS := hS.front 1 (C := D) (L' := L4 :: F) rfl rfl
            replace hS := hS.front 1 (C := L4) (L' := D :: F) rfl rfl
            refine st_call0 hA rfl rfl rfl isfn8 rfl rfl (by decide) (arrive_none8 hS hM4 0 hl0) ?_
            clear hA hS; rintro _ w26 a ⟨L27, hM28, rfl, hS⟩ hA
            refine st_run tbOk 3 hA (e' := (61, .bool false) :: (60, .agg #[.int .i64 0, .int .i64 0, .int .u64 0, .int .i64 0, .int .i64 0, .slice none 0 0]) :: (57, .tuple #[.agg #[.int .i64 0, .int .i64 0, .int .u64 0, .int .i64 0, .int .i64 0, .slice none 0 0], .bool false]) :: _) rfl ?_; clear hA; intro a hA
            refine st_alloc tbOk hA hS [.int .i64 0, .int .i64 0, .int .u64 0, .int .i64 0, .int .i64 0, .slice none 0 0] rfl rfl rfl rfl rfl (by decide) ?_; clear hA hS; intro b29 w30 a hS hA
            refine st_store tbOk hA hS [.int .i64 0, .int .i64 0, .int .u64 0, .int .i64 0, .int .i64 0, .slice none 0 0] [.int .i64 0, .int .i64 0, .int .u64 0, .int .i64 0, .int .i64 0, .slice none 0 0] rfl rfl rfl rfl rfl rfl (by simp [Value.oneCell']) (Nat.le_of_ble_eq_true rfl) rfl rfl rfl ?_; clear hS; intro w31 hS
            refine st_run tbOk 1 hA (e' := (14, .bool false) :: _) rfl ?_; clear hA; intro a hA
            refine wpList_nil ?_
            replace hA := hA.sel [5, 14] (e' := [(5, .pointer (some ⟨b2, 0, none⟩)), (14, .bool false)]) rfl
            refine xt_norm ?_
            refine wp_seq ?_
            refine wp_region_lit ?_
            refine st_run tbOk 4 hA (e' := (65, .pointer (some ⟨b2, 0, none⟩)) :: (64, .bool true) :: (63, .bool true) :: (62, .bool false) :: _) rfl ?_; clear hA; intro a hA
            replace hS := hS.front 2 (C := D) (L' := [(b29, rowO [.int .i64 0, .int .i64 0, .int .u64 0, .int .i64 0, .int .i64 0, .slice none 0 0] 33)] :: L27 :: F) rfl rfl
            replace hS := hS.front 2 (C := L27) (L' := D :: [(b29, rowO [.int .i64 0, .int .i64 0, .int .u64 0, .int .i64 0, .int .i64 0, .slice none 0 0] 33)] :: F) rfl rfl
            refine st_call0 hA rfl rfl rfl isfn9 rfl rfl (by decide) (wlen9 hS hM28) ?_
            clear hA hS; rintro _ w32 a ⟨L33, hM34, rfl, hS⟩ hA
            refine st_run tbOk 3 hA (e' := (4, .bool ((((ps.drop i).length : Nat) : Int) == 0)) :: (68, .bool ((((ps.drop i).length : Nat) : Int) == 0)) :: (67, .bool ((((ps.drop i).length : Nat) : Int) == 0)) :: _) rfl ?_; clear hA; intro a hA
            refine wpList_nil ?_
            replace hA := hA.sel [4] (e' := [(4, .bool ((((ps.drop i).length : Nat) : Int) == 0))]) rfl
            refine xt_norm ?_
            refine wp_ret ?_
            refine ret1 (fn := Try.f5) hA rfl rfl ?_
            replace hS := hS.drop1
            replace hS := hS.drop1
            replace hS := hS.drop1
            exact ⟨congrArg Value.bool (beq_iff_eq.2 (by omega)), hS⟩))

theorem order_b5 {w0 w : World} {F : List Chunk} (hS : St w0 w F) (a0 : Int) (h0 : 0 ≤ a0) (hb0 : a0 < 256) :
    Ret Try.prog 5 #[.int .u8 a0, .bool true] w (fun v w' => v = .bool true ∧ St w0 w' F) := by
  obtain ⟨g, rfl⟩ := Int.eq_ofNat_of_zero_le h0
  refine enter (vs := [.int .u8 ((g : Nat) : Int), .bool true]) 69 Try.func5 rfl rfl (by simp) ?_; intro a hA
  refine wp_seq ?_
  refine wp_region_lit ?_
  refine st_run tbOk 1 hA (e' := (4, .bool false) :: _) rfl ?_; clear hA; intro a hA
  refine wpList_nil ?_
  replace hA := hA.sel [0, 1] (e' := [(0, .int .u8 ((g : Nat) : Int)), (1, .bool true)]) rfl
  refine xt_norm ?_
  refine wp_seq ?_
  refine wp_seq ?_
  refine wp_region_lit ?_
  refine st_call0 hA rfl rfl rfl isfn6 rfl rfl (by decide) (awake6 hS) ?_
  clear hA hS; rintro v w1 a ⟨rfl, hS⟩ hA
  refine st_run tbOk 1 hA (e' := (16, .bool false) :: _) rfl ?_; clear hA; intro a hA
  refine wpList_nil ?_
  replace hA := hA.sel [0, 1, 16] (e' := [(0, .int .u8 ((g : Nat) : Int)), (1, .bool true), (16, .bool false)]) rfl
  refine xt_norm ?_
  refine cd_cond_f hA rfl ?_
  refine wp_skip ?_
  refine xt_norm ?_
  refine wp_seq ?_
  refine wp_region_lit ?_
  refine st_run tbOk 1 hA (e' := (17, .agg #[.slice none 0 0]) :: _) rfl ?_; clear hA; intro a hA
  refine st_box hA hS [.slice none 0 0] rfl rfl rfl rfl rfl (by decide) ?_; clear hA hS; intro b2 w3 a hS hA
  obtain ⟨L4, hM5, hS⟩ : ∃ Z, WR b2 [] Z ∧ St w0 w3 (Z :: F) := ⟨_, WR.new _, hS⟩
  replace hS := hS.nil
  refine st_run tbOk 1 hA (e' := (5, .pointer (some ⟨b2, 0, none⟩)) :: _) rfl ?_; clear hA; intro a hA
  refine wpList_nil ?_
  replace hA := hA.sel [0, 1, 5] (e' := [(0, .int .u8 ((g : Nat) : Int)), (1, .bool true), (5, .pointer (some ⟨b2, 0, none⟩))]) rfl
  refine xt_norm ?_
  refine wp_seq ?_
  refine wp_region_lit ?_
  refine st_run tbOk 2 hA (e' := (20, .int .i64 (IntKind.i64.wrap ((g : Nat) : Int))) :: (19, .int .u8 ((g : Nat) : Int)) :: _) rfl ?_; clear hA; intro a hA
  replace hA := hA.rw 20 (v' := .int .i64 ((g : Nat) : Int)) rfl (wr64 (by rfl) (by omega) (by omega))
  refine st_run tbOk 1 hA (e' := (6, .int .i64 ((g : Nat) : Int)) :: _) rfl ?_; clear hA; intro a hA
  refine wpList_nil ?_
  replace hA := hA.sel [1, 5, 6] (e' := [(1, .bool true), (5, .pointer (some ⟨b2, 0, none⟩)), (6, .int .i64 ((g : Nat) : Int))]) rfl
  refine xt_norm ?_
  refine wp_seq ?_
  refine wp_seq ?_
  refine wp_region_lit ?_
  refine st_run tbOk 1 hA (e' := (7, .int .i64 0) :: _) rfl ?_; clear hA; intro a hA
  refine wpList_nil ?_
  refine xt_norm ?_
  refine wp_block ?_
  replace hS := hS.front 1 (C := L4) (L' := [] :: F) rfl rfl
  refine wp_loop_ghost (fun m a w => ∃ (k : Nat) (ps : List Pkt) (L : Chunk) (D : Chunk), m = g - k ∧ Has a 69 [(1, .bool true), (5, .pointer (some ⟨b2, 0, none⟩)), (6, .int .i64 ((g : Nat) : Int)), (7, .int .i64 ((k : Nat) : Int))] ∧ St w0 w (L :: D :: F) ∧ (k ≤ g) ∧ (isW ps k) ∧ (WR b2 ps L) ∧ (∀ x ∈ ps, encPacket_dd w0 D x)) (g - 0)
    ⟨0, ([]), L4, ([]), rfl, (hA.sel [1, 5, 6, 7] rfl), hS, Nat.zero_le _, isW.nil, hM5, fun x hx => by simp at hx⟩ ?_
  clear hA hS; rintro m0 a w6 ⟨k, ps, L, D, rfl, hA, hS, hk, hw, hM, hdd⟩
  have hpl := hw.1
  refine wp_seq ?_
  refine wp_seq ?_
  refine wp_region_lit ?_
  refine st_run tbOk 3 hA (e' := (23, .bool (decide (((k : Nat) : Int) < ((g : Nat) : Int)))) :: (22, .int .i64 ((g : Nat) : Int)) :: (21, .int .i64 ((k : Nat) : Int)) :: _) rfl ?_; clear hA; intro a hA
  refine wpList_nil ?_
  replace hA := hA.sel [1, 5, 6, 7, 23] (e' := [(1, .bool true), (5, .pointer (some ⟨b2, 0, none⟩)), (6, .int .i64 ((g : Nat) : Int)), (7, .int .i64 ((k : Nat) : Int)), (23, .bool (decide (((k : Nat) : Int) < ((g : Nat) : Int))))]) rfl
  refine xt_norm ?_
  by_cases hc7 : ((k : Nat) : Int) < ((g : Nat) : Int)
  · first
    | (exfalso; omega)
    | (replace hA := hA.rw 23 (v' := .bool true) rfl (vb_true hc7)
       refine cd_cond_t hA rfl ?_
       refine wp_skip ?_
       refine xt_norm ?_
       refine wp_seq ?_
       refine wp_block ?_
       refine wp_region_lit ?_
       refine st_run tbOk 3 hA (e' := (28, .int .u64 (IntKind.u64.wrap ((k : Nat) : Int))) :: (27, .int .i64 ((k : Nat) : Int)) :: (26, .pointer (some ⟨b2, 0, none⟩)) :: _) rfl ?_; clear hA; intro a hA
       replace hA := hA.rw 28 (v' := .int .u64 ((k : Nat) : Int)) rfl (vint (wrap_u64 (by omega) (by omega)))
       refine st_run tbOk 1 hA (e' := (29, .agg #[.int .i64 0, .int .i64 0, .int .u64 ((k : Nat) : Int), .int .i64 0, .int .i64 0, .slice none 0 0]) :: _) rfl ?_; clear hA; intro a hA
       replace hS := hS.front 1 (C := D) (L' := L :: F) rfl rfl
       replace hS := hS.front 1 (C := L) (L' := D :: F) rfl rfl
       refine st_call0 hA rfl rfl rfl isfn7 rfl rfl (by decide) (send_ok7 hS hM 0 0 ((k : Nat) : Int) 0 0 (bs := ([] : List UInt8)) RdS.nil (by first | omega | exact Nat.zero_le _) (by omega)) ?_
       clear hA hS; rintro _ w8 a ⟨L9, E11, A12, c13, hM10, hE14, rfl, hS⟩ hA
       refine wpList_nil ?_
       replace hA := hA.sel [1, 5, 6, 7] (e' := [(1, .bool true), (5, .pointer (some ⟨b2, 0, none⟩)), (6, .int .i64 ((g : Nat) : Int)), (7, .int .i64 ((k : Nat) : Int))]) rfl
       refine xb_norm ?_
       refine xt_norm ?_
       refine wp_region_lit ?_
       refine st_run tbOk 2 hA (e' := (25, .int .i64 (IntKind.i64.wrap (((k : Nat) : Int) + 1))) :: (24, .int .i64 ((k : Nat) : Int)) :: _) rfl ?_; clear hA; intro a hA
       replace hA := hA.rw 25 (v' := .int .i64 ((k + 1 : Nat) : Int)) rfl (wr64 (by omega) (by omega) (by omega))
       refine st_run tbOk 1 hA (e' := (7, .int .i64 ((k + 1 : Nat) : Int)) :: _) rfl ?_; clear hA; intro a hA
       refine wpList_nil ?_
       replace hA := hA.sel [1, 5, 6, 7] (e' := [(1, .bool true), (5, .pointer (some ⟨b2, 0, none⟩)), (6, .int .i64 ((g : Nat) : Int)), (7, .int .i64 ((k + 1 : Nat) : Int))]) rfl
       replace hS := hS.front 1 (C := (E11 ++ D)) (L' := L9 :: F) rfl rfl
       replace hS := hS.front 1 (C := L9) (L' := (E11 ++ D) :: F) rfl rfl
       exact lp_next _ (by omega) ⟨(k + 1), (ps ++ [(0, 0, ((k : Nat) : Int), 0, 0, A12, c13, ([] : List UInt8))]), L9, (E11 ++ D), rfl, (hA.sel [1, 5, 6, 7] rfl), hS, by omega, hw.add A12 c13, hM10, dd_app hdd hE14⟩)
  · first
    | (exfalso; omega)
    | (replace hA := hA.rw 23 (v' := .bool false) rfl (vb_false hc7)
       refine cd_cond_f hA rfl ?_
       refine wp_exit ?_
       refine xt_exit ?_
       refine xt_exit ?_
       refine cd_exit_eq ?_
       refine xt_norm ?_
       refine wp_seq ?_
       refine wp_seq ?_
       refine wp_region_lit ?_
       refine st_run tbOk 1 hA (e' := (8, .int .i64 0) :: _) rfl ?_; clear hA; intro a hA
       refine wpList_nil ?_
       replace hA := hA.sel [1, 5, 6, 8] (e' := [(1, .bool true), (5, .pointer (some ⟨b2, 0, none⟩)), (6, .int .i64 ((g : Nat) : Int)), (8, .int .i64 0)]) rfl
       refine xt_norm ?_
       refine wp_block ?_
       replace hS := hS.front 1 (C := D) (L' := L :: F) rfl rfl
       replace hS := hS.front 1 (C := L) (L' := D :: F) rfl rfl
       have hkg : k = g := by omega
       have hpl := hw.1
       have hM15 : WR b2 (ps.take (k - 0)) L := (by rw [Nat.sub_zero, List.take_of_length_le (by omega)]; exact hM)
       refine wp_loop_ghost (fun m a w => ∃ (i : Nat) (L4 : Chunk), m = k - i ∧ Has a 69 [(1, .bool true), (5, .pointer (some ⟨b2, 0, none⟩)), (6, .int .i64 ((g : Nat) : Int)), (8, .int .i64 ((i : Nat) : Int))] ∧ St w0 w (L4 :: D :: F) ∧ (i ≤ k) ∧ (WR b2 (ps.take (k - i)) L4)) (k - 0)
         ⟨0, L, rfl, (hA.sel [1, 5, 6, 8] rfl), hS, Nat.zero_le _, hM15⟩ ?_
       clear hA hS; rintro m0 a w16 ⟨i, L4, rfl, hA, hS, hi, hM4⟩
       have hql : (ps.take (k - i)).length = k - i := by simp; omega
       refine wp_seq ?_
       refine wp_seq ?_
       refine wp_region_lit ?_
       refine st_run tbOk 3 hA (e' := (33, .bool (decide (((i : Nat) : Int) < ((g : Nat) : Int)))) :: (32, .int .i64 ((g : Nat) : Int)) :: (31, .int .i64 ((i : Nat) : Int)) :: _) rfl ?_; clear hA; intro a hA
       refine wpList_nil ?_
       replace hA := hA.sel [1, 5, 6, 8, 33] (e' := [(1, .bool true), (5, .pointer (some ⟨b2, 0, none⟩)), (6, .int .i64 ((g : Nat) : Int)), (8, .int .i64 ((i : Nat) : Int)), (33, .bool (decide (((i : Nat) : Int) < ((g : Nat) : Int))))]) rfl
       refine xt_norm ?_
       by_cases hc17 : ((i : Nat) : Int) < ((g : Nat) : Int)
       · first
         | (exfalso; omega)
         | (replace hA := hA.rw 33 (v' := .bool true) rfl (vb_true hc17)
            refine cd_cond_t hA rfl ?_
            refine wp_skip ?_
            refine xt_norm ?_
            refine wp_seq ?_
            refine wp_block ?_
            refine wp_seq ?_
            refine wp_region_lit ?_
            refine st_run tbOk 3 hA (e' := (10, .int .i64 ((i : Nat) : Int)) :: (9, .int .i64 0) :: (36, .int .i64 ((i : Nat) : Int)) :: _) rfl ?_; clear hA; intro a hA
            refine wpList_nil ?_
            replace hA := hA.sel [1, 5, 6, 8, 9, 10] (e' := [(1, .bool true), (5, .pointer (some ⟨b2, 0, none⟩)), (6, .int .i64 ((g : Nat) : Int)), (8, .int .i64 ((i : Nat) : Int)), (9, .int .i64 0), (10, .int .i64 ((i : Nat) : Int))]) rfl
            refine xt_norm ?_
            refine wp_seq ?_
            refine wp_seq ?_
            refine wp_region_lit ?_
            refine st_run tbOk 1 hA (e' := (37, .bool true) :: _) rfl ?_; clear hA; intro a hA
            refine wpList_nil ?_
            refine xt_norm ?_
            refine cd_cond_t hA rfl ?_
            refine wp_region_lit ?_
            refine st_run tbOk 2 hA (e' := (39, .int .i64 (IntKind.i64.wrap (((g : Nat) : Int) - 1))) :: (38, .int .i64 ((g : Nat) : Int)) :: _) rfl ?_; clear hA; intro a hA
            replace hA := hA.rw 39 (v' := .int .i64 (((g : Nat) : Int) - 1)) rfl (wr64 (by omega) (by omega) (by omega))
            refine st_run tbOk 2 hA (e' := (41, .int .i64 (IntKind.i64.wrap ((((g : Nat) : Int) - 1) - ((i : Nat) : Int)))) :: (40, .int .i64 ((i : Nat) : Int)) :: _) rfl ?_; clear hA; intro a hA
            replace hA := hA.rw 41 (v' := .int .i64 ((((g : Nat) : Int) - 1) - ((i : Nat) : Int))) rfl (wr64 (by omega) (by omega) (by omega))
            refine st_run tbOk 2 hA (e' := (10, .int .i64 ((((g : Nat) : Int) - 1) - ((i : Nat) : Int))) :: (9, .int .i64 (-1)) :: _) rfl ?_; clear hA; intro a hA
            refine wpList_nil ?_
            replace hA := hA.sel [1, 5, 6, 8, 9, 10] (e' := [(1, .bool true), (5, .pointer (some ⟨b2, 0, none⟩)), (6, .int .i64 ((g : Nat) : Int)), (8, .int .i64 ((i : Nat) : Int)), (9, .int .i64 (-1)), (10, .int .i64 ((((g : Nat) : Int) - 1) - ((i : Nat) : Int)))]) rfl
            refine xt_norm ?_
            refine wp_seq ?_
            refine wp_region_lit ?_
            refine st_run tbOk 2 hA (e' := (44, .int .i64 (-1)) :: (43, .pointer (some ⟨b2, 0, none⟩)) :: _) rfl ?_; clear hA; intro a hA
            replace hS := hS.front 1 (C := D) (L' := L4 :: F) rfl rfl
            replace hS := hS.front 1 (C := L4) (L' := D :: F) rfl rfl
            refine st_call0 hA rfl rfl rfl isfn8 rfl rfl (by decide) (arrive_ok8 hS hM4 (-1) (by omega) (by omega)) ?_
            clear hA hS; rintro _ w18 a ⟨q21, ⟨q21x0, q21x1, q21x2, q21x3, q21x4, q21A, q21c, q21b⟩, hq21, hpq21, hxq21, L19, hM20, rfl, hS⟩ hA
            rw [m1_mod (by omega)] at hpq21
            have hqx : ps[q21]? = some (q21x0, q21x1, q21x2, q21x3, q21x4, q21A, q21c, q21b) := by have h := hxq21; rw [List.getElem?_take_of_lt (by omega)] at h; exact h
            obtain ⟨A9, c9, he9⟩ := hw.2 _ _ hqx
            simp only [Prod.mk.injEq] at he9
            refine st_run tbOk 3 hA (e' := (47, .bool true) :: (46, .agg #[.int .i64 q21x0, .int .i64 q21x1, .int .u64 q21x2, .int .i64 q21x3, .int .i64 q21x4, .slice q21A q21b.length q21c]) :: (42, .tuple #[.agg #[.int .i64 q21x0, .int .i64 q21x1, .int .u64 q21x2, .int .i64 q21x3, .int .i64 q21x4, .slice q21A q21b.length q21c], .bool true]) :: _) rfl ?_; clear hA; intro a hA
            refine st_alloc tbOk hA hS [.int .i64 0, .int .i64 0, .int .u64 0, .int .i64 0, .int .i64 0, .slice none 0 0] rfl rfl rfl rfl rfl (by decide) ?_; clear hA hS; intro b22 w23 a hS hA
            refine st_store tbOk hA hS [.int .i64 q21x0, .int .i64 q21x1, .int .u64 q21x2, .int .i64 q21x3, .int .i64 q21x4, .slice q21A q21b.length q21c] [.int .i64 q21x0, .int .i64 q21x1, .int .u64 q21x2, .int .i64 q21x3, .int .i64 q21x4, .slice q21A q21b.length q21c] rfl rfl rfl rfl rfl rfl (by simp [Value.oneCell']) (Nat.le_of_ble_eq_true rfl) rfl rfl rfl ?_; clear hS; intro w24 hS
            refine st_run tbOk 1 hA (e' := (12, .bool true) :: _) rfl ?_; clear hA; intro a hA
            refine wpList_nil ?_
            replace hA := hA.sel [1, 5, 6, 8, 10, 11, 12] (e' := [(1, .bool true), (5, .pointer (some ⟨b2, 0, none⟩)), (6, .int .i64 ((g : Nat) : Int)), (8, .int .i64 ((i : Nat) : Int)), (10, .int .i64 ((((g : Nat) : Int) - 1) - ((i : Nat) : Int))), (11, .pointer (some ⟨b22, 0, none⟩)), (12, .bool true)]) rfl
            refine xt_norm ?_
            refine wp_seq ?_
            refine wp_region_lit ?_
            refine st_run tbOk 4 hA (e' := (51, .pointer (some ⟨b22, 2, none⟩)) :: (50, .bool false) :: (49, .bool false) :: (48, .bool true) :: _) rfl ?_; clear hA; intro a hA
            refine st_val hA rfl rfl (by decide) (rn_load tbOk hA rfl rfl rfl rfl (cell_row (hS.heapAt 0 rfl) rfl)) ?_; clear hA; intro a hA
            refine st_run tbOk 2 hA (e' := (54, .int .u64 (IntKind.u64.wrap ((((g : Nat) : Int) - 1) - ((i : Nat) : Int)))) :: (53, .int .i64 ((((g : Nat) : Int) - 1) - ((i : Nat) : Int))) :: _) rfl ?_; clear hA; intro a hA
            replace hA := hA.rw 54 (v' := .int .u64 ((((g : Nat) : Int) - 1) - ((i : Nat) : Int))) rfl (vint (wrap_u64 (by omega) (by omega)))
            refine st_run tbOk 2 hA (e' := (56, .bool (q21x2 != ((((g : Nat) : Int) - 1) - ((i : Nat) : Int)))) :: (55, .bool (q21x2 != ((((g : Nat) : Int) - 1) - ((i : Nat) : Int)))) :: _) rfl ?_; clear hA; intro a hA
            refine wpList_nil ?_
            replace hA := hA.sel [1, 5, 6, 8, 56] (e' := [(1, .bool true), (5, .pointer (some ⟨b2, 0, none⟩)), (6, .int .i64 ((g : Nat) : Int)), (8, .int .i64 ((i : Nat) : Int)), (56, .bool (q21x2 != ((((g : Nat) : Int) - 1) - ((i : Nat) : Int))))]) rfl
            refine xt_norm ?_
            by_cases hc25 : q21x2 = (((g : Nat) : Int) - 1) - ((i : Nat) : Int)
            · first
              | (exfalso; omega)
              | (replace hA := hA.rw 56 (v' := .bool false) rfl (vb_ne_f hc25)
                 refine cd_cond_f hA rfl ?_
                 refine wp_skip ?_
                 refine xb_norm ?_
                 refine xt_norm ?_
                 refine wp_region_lit ?_
                 refine st_run tbOk 2 hA (e' := (35, .int .i64 (IntKind.i64.wrap (((i : Nat) : Int) + 1))) :: (34, .int .i64 ((i : Nat) : Int)) :: _) rfl ?_; clear hA; intro a hA
                 replace hA := hA.rw 35 (v' := .int .i64 ((i + 1 : Nat) : Int)) rfl (wr64 (by omega) (by omega) (by omega))
                 refine st_run tbOk 1 hA (e' := (8, .int .i64 ((i + 1 : Nat) : Int)) :: _) rfl ?_; clear hA; intro a hA
                 refine wpList_nil ?_
                 replace hA := hA.sel [1, 5, 6, 8] (e' := [(1, .bool true), (5, .pointer (some ⟨b2, 0, none⟩)), (6, .int .i64 ((g : Nat) : Int)), (8, .int .i64 ((i + 1 : Nat) : Int))]) rfl
                 replace hS := hS.drop1
                 replace hS := hS.front 1 (C := D) (L' := L19 :: F) rfl rfl
                 replace hS := hS.front 1 (C := L19) (L' := D :: F) rfl rfl
                 exact lp_next _ (by omega) ⟨(i + 1), L19, rfl, (hA.sel [1, 5, 6, 8] rfl), hS, by omega, (by have h := hM20; rw [rest_back (by omega) (by omega)] at h; rw [show k - (i + 1) = k - i - 1 by omega]; exact h)⟩)
            · first
              | (exfalso; omega)
              | (replace hA := hA.rw 56 (v' := .bool true) rfl (vb_ne_t hc25)
                 refine cd_cond_t hA rfl ?_
                 refine wp_seq ?_
                 refine wp_region_lit ?_
                 refine st_run tbOk 1 hA (e' := (4, .bool false) :: _) rfl ?_; clear hA; intro a hA
                 refine wpList_nil ?_
                 replace hA := hA.sel [4] (e' := [(4, .bool false)]) rfl
                 refine xt_norm ?_
                 refine wp_ret (xb_ret (xt_ret (xt_ret (xb_ret (xt_ret ?_)))))
                 refine ret1 (fn := Try.f5) hA rfl rfl ?_
                 exfalso; omega))
       · first
         | (exfalso; omega)
         | (replace hA := hA.rw 33 (v' := .bool false) rfl (vb_false hc17)
            refine cd_cond_f hA rfl ?_
            refine wp_exit ?_
            refine xt_exit ?_
            refine xt_exit ?_
            refine cd_exit_eq ?_
            refine xt_norm ?_
            refine wp_seq ?_
            refine wp_region_lit ?_
            have hik : i = k := by omega
            have hl0 : (ps.take (k - i)).length = 0 := by simp; omega
            refine st_run tbOk 1 hA (e' := (58, .pointer (some ⟨b2, 0, none⟩)) :: _) rfl ?_; clear hA; intro a hA
            replace hS := hS.front 1 (C := D) (L' := L4 :: F) rfl rfl
            replace hS := hS.front 1 (C := L4) (L' := D :: F) rfl rfl
            refine st_call0 hA rfl rfl rfl isfn8 rfl rfl (by decide) (arrive_none8 hS hM4 0 hl0) ?_
            clear hA hS; rintro _ w26 a ⟨L27, hM28, rfl, hS⟩ hA
            refine st_run tbOk 3 hA (e' := (61, .bool false) :: (60, .agg #[.int .i64 0, .int .i64 0, .int .u64 0, .int .i64 0, .int .i64 0, .slice none 0 0]) :: (57, .tuple #[.agg #[.int .i64 0, .int .i64 0, .int .u64 0, .int .i64 0, .int .i64 0, .slice none 0 0], .bool false]) :: _) rfl ?_; clear hA; intro a hA
            refine st_alloc tbOk hA hS [.int .i64 0, .int .i64 0, .int .u64 0, .int .i64 0, .int .i64 0, .slice none 0 0] rfl rfl rfl rfl rfl (by decide) ?_; clear hA hS; intro b29 w30 a hS hA
            refine st_store tbOk hA hS [.int .i64 0, .int .i64 0, .int .u64 0, .int .i64 0, .int .i64 0, .slice none 0 0] [.int .i64 0, .int .i64 0, .int .u64 0, .int .i64 0, .int .i64 0, .slice none 0 0] rfl rfl rfl rfl rfl rfl (by simp [Value.oneCell']) (Nat.le_of_ble_eq_true rfl) rfl rfl rfl ?_; clear hS; intro w31 hS
            refine st_run tbOk 1 hA (e' := (14, .bool false) :: _) rfl ?_; clear hA; intro a hA
            refine wpList_nil ?_
            replace hA := hA.sel [5, 14] (e' := [(5, .pointer (some ⟨b2, 0, none⟩)), (14, .bool false)]) rfl
            refine xt_norm ?_
            refine wp_seq ?_
            refine wp_region_lit ?_
            refine st_run tbOk 4 hA (e' := (65, .pointer (some ⟨b2, 0, none⟩)) :: (64, .bool true) :: (63, .bool true) :: (62, .bool false) :: _) rfl ?_; clear hA; intro a hA
            replace hS := hS.front 2 (C := D) (L' := [(b29, rowO [.int .i64 0, .int .i64 0, .int .u64 0, .int .i64 0, .int .i64 0, .slice none 0 0] 33)] :: L27 :: F) rfl rfl
            replace hS := hS.front 2 (C := L27) (L' := D :: [(b29, rowO [.int .i64 0, .int .i64 0, .int .u64 0, .int .i64 0, .int .i64 0, .slice none 0 0] 33)] :: F) rfl rfl
            refine st_call0 hA rfl rfl rfl isfn9 rfl rfl (by decide) (wlen9 hS hM28) ?_
            clear hA hS; rintro _ w32 a ⟨L33, hM34, rfl, hS⟩ hA
            refine st_run tbOk 3 hA (e' := (4, .bool ((((ps.take (k - i)).length : Nat) : Int) == 0)) :: (68, .bool ((((ps.take (k - i)).length : Nat) : Int) == 0)) :: (67, .bool ((((ps.take (k - i)).length : Nat) : Int) == 0)) :: _) rfl ?_; clear hA; intro a hA
            refine wpList_nil ?_
            replace hA := hA.sel [4] (e' := [(4, .bool ((((ps.take (k - i)).length : Nat) : Int) == 0))]) rfl
            refine xt_norm ?_
            refine wp_ret ?_
            refine ret1 (fn := Try.f5) hA rfl rfl ?_
            replace hS := hS.drop1
            replace hS := hS.drop1
            replace hS := hS.drop1
            exact ⟨congrArg Value.bool (beq_iff_eq.2 (by omega)), hS⟩))

theorem order5 {w0 w : World} {F : List Chunk} (hS : St w0 w F) (a0 : Int) (h0 : 0 ≤ a0) (hb0 : a0 < 256) (bk : Bool) : Ret Try.prog 5 #[.int .u8 a0, .bool bk] w (fun v w' => v = .bool true ∧ St w0 w' F) := by
  cases bk
  · exact order_f5 hS a0 h0 hb0
  · exact order_b5 hS a0 h0 hb0

theorem own17_4 {w0 w : World} {F : List Chunk} (hS : St w0 w F) {v : Value} {l : List UInt8} (hr : RdS w0 F 1 v l.length (rows encB l)) (hb : l.length * 1 ≤ 140737488351232) (q : Int) :
    Ret Try.prog 4 #[v, .int .u8 q] w (fun v w' => v = .bool true ∧ St w0 w' F) := by
  obtain ⟨A, c, rfl, hmc, hcx⟩ := (hr w hS).open'
  refine enter (vs := [.slice A l.length c, .int .u8 q]) 77 Try.func4 rfl rfl (by simp) ?_; intro a hA
  refine wp_seq ?_
  refine wp_region_lit ?_
  refine st_run tbOk 1 hA (e' := (4, .bool false) :: _) rfl ?_; clear hA; intro a hA
  refine wpList_nil ?_
  replace hA := hA.sel [0, 1] (e' := [(0, .slice A l.length c), (1, .int .u8 q)]) rfl
  refine xt_norm ?_
  refine wp_seq ?_
  refine wp_seq ?_
  refine wp_region_lit ?_
  refine st_call0 hA rfl rfl rfl isfn6 rfl rfl (by decide) (awake6 hS) ?_
  clear hA hS; rintro v w1 a ⟨rfl, hS⟩ hA
  refine st_run tbOk 1 hA (e' := (15, .bool false) :: _) rfl ?_; clear hA; intro a hA
  refine wpList_nil ?_
  replace hA := hA.sel [0, 1, 15] (e' := [(0, .slice A l.length c), (1, .int .u8 q), (15, .bool false)]) rfl
  refine xt_norm ?_
  refine cd_cond_f hA rfl ?_
  refine wp_skip ?_
  refine xt_norm ?_
  refine wp_seq ?_
  refine wp_region_lit ?_
  refine st_run tbOk 1 hA (e' := (16, .agg #[.slice none 0 0]) :: _) rfl ?_; clear hA; intro a hA
  refine st_box hA hS [.slice none 0 0] rfl rfl rfl rfl rfl (by decide) ?_; clear hA hS; intro b2 w3 a hS hA
  obtain ⟨L4, hM5, hS⟩ : ∃ Z, WR b2 [] Z ∧ St w0 w3 (Z :: F) := ⟨_, WR.new _, hS⟩
  replace hS := hS.nil
  refine st_run tbOk 1 hA (e' := (5, .pointer (some ⟨b2, 0, none⟩)) :: _) rfl ?_; clear hA; intro a hA
  refine wpList_nil ?_
  replace hA := hA.sel [0, 1, 5] (e' := [(0, .slice A l.length c), (1, .int .u8 q), (5, .pointer (some ⟨b2, 0, none⟩))]) rfl
  refine xt_norm ?_
  refine wp_seq ?_
  refine wp_region_lit ?_
  refine st_run tbOk 1 hA (e' := (18, .slice A l.length c) :: _) rfl ?_; clear hA; intro a hA
  replace hS := hS.nil
  refine st_append tbOk hA (m := 0) (q := l.length) (xs := rows encB ([] : List UInt8)) (news := rows encB l) rfl rfl rfl rfl rfl rfl rfl rfl (by decide) (Own.nil 5 1) hS (hr _ (hS.tail 3 rfl)) (rows_one encB_ok _) (maxLen_le (by omega)) (by show (0 + l.length) * 1 ≤ 140737488355328; omega) rfl rfl (by decide) ?_
  clear hA hS; intro v6 w7 C8 a hO8 hS hA
  replace hO8 := Own.app (l := ([] : List UInt8)) (l2 := l) hO8
  replace hO8 : Own 5 1 v6 l.length (rows encB l) C8 := hO8
  obtain ⟨A9, c10, rfl, hmc10, hxc10⟩ := hO8.open'
  refine st_run tbOk 1 hA (e' := (6, .slice A9 l.length c10) :: _) rfl ?_; clear hA; intro a hA
  refine wpList_nil ?_
  replace hA := hA.sel [0, 1, 5, 6] (e' := [(0, .slice A l.length c), (1, .int .u8 q), (5, .pointer (some ⟨b2, 0, none⟩)), (6, .slice A9 l.length c10)]) rfl
  refine xt_norm ?_
  refine wp_seq ?_
  refine wp_region_lit ?_
  refine st_run tbOk 3 hA (e' := (22, .agg #[.int .i64 0, .int .i64 0, .int .u64 0, .int .i64 0, .int .i64 0, .slice A9 l.length c10]) :: (21, .slice A9 l.length c10) :: (20, .pointer (some ⟨b2, 0, none⟩)) :: _) rfl ?_; clear hA; intro a hA
  replace hS := hS.front 1 (C := []) (L' := C8 :: L4 :: F) rfl rfl
  replace hS := hS.front 2 (C := L4) (L' := [] :: C8 :: F) rfl rfl
  refine st_call0 hA rfl rfl rfl isfn7 rfl rfl (by decide) (send_ok7 hS hM5 0 0 0 0 0 (bs := l) (RdS.own hO8 1 rfl) (by first | omega | exact Nat.zero_le _) (by decide)) ?_
  clear hA hS; rintro _ w11 a ⟨L12, E14, A15, c16, hM13, hE17, rfl, hS⟩ hA
  refine st_run tbOk 1 hA (e' := (7, .nilIface) :: _) rfl ?_; clear hA; intro a hA
  refine wpList_nil ?_
  replace hA := hA.sel [0, 1, 5, 6, 7] (e' := [(0, .slice A l.length c), (1, .int .u8 q), (5, .pointer (some ⟨b2, 0, none⟩)), (6, .slice A9 l.length c10), (7, .nilIface)]) rfl
  refine xt_norm ?_
  refine wp_seq ?_
  refine wp_region_lit ?_
  have hd1 : ∀ x ∈ (([] : List Pkt) ++ [(0, 0, 0, 0, 0, A15, c16, l)]), encPacket_dd w0 (E14 ++ []) x := dd_app (fun x hx => by simp at hx) hE17
  refine st_run tbOk 1 hA (e' := (24, .pointer (some ⟨b2, 0, none⟩)) :: _) rfl ?_; clear hA; intro a hA
  replace hS := hS.front 1 (C := (E14 ++ [])) (L' := L12 :: C8 :: F) rfl rfl
  replace hS := hS.front 1 (C := L12) (L' := (E14 ++ []) :: C8 :: F) rfl rfl
  refine st_call0 hA rfl rfl rfl isfn10 rfl rfl (by decide) (double_ok10 hS hM13 0 (Nat.le_of_ble_eq_true rfl) (Nat.le_of_ble_eq_true rfl) hd1 (fun x hx => by have h : x ∈ [(0, 0, 0, 0, 0, A15, c16, l)] := hx; rw [List.mem_singleton.1 h]; show l.length ≤ _; omega)) ?_
  clear hA hS; rintro _ w18 a ⟨q21, q21x, hq21, hpq21, hxq21, L19, E22, A23, c24, hM20, hE25, rfl, hS⟩ hA
  refine st_run tbOk 1 hA (e' := (8, .nilIface) :: _) rfl ?_; clear hA; intro a hA
  refine wpList_nil ?_
  replace hA := hA.sel [0, 1, 5, 6, 7, 8] (e' := [(0, .slice A l.length c), (1, .int .u8 q), (5, .pointer (some ⟨b2, 0, none⟩)), (6, .slice A9 l.length c10), (7, .nilIface), (8, .nilIface)]) rfl
  refine xt_norm ?_
  refine wp_seq ?_
  refine wp_seq ?_
  refine wp_region_lit ?_
  have hq0 : q21 = 0 := by have h := hq21; simp at h; exact h
  subst hq0
  simp only [List.nil_append, List.getElem?_cons_zero, Option.some.injEq] at hxq21
  subst hxq21
  have hM26 : WR b2 ([(0, 0, 0, 0, 0, A15, c16, l), (0, 0, 0, 0, 0, A23, c24, l)]) L19 := hM20
  have hd2 : ∀ x ∈ ([(0, 0, 0, 0, 0, A15, c16, l), (0, 0, 0, 0, 0, A23, c24, l)] : List Pkt), encPacket_dd w0 (E22 ++ (E14 ++ [])) x := dd_app (ps := [(0, 0, 0, 0, 0, A15, c16, l)]) hd1 hE25
  refine st_run tbOk 3 hA (e' := (28, .int .i64 0) :: (27, .int .i64 ((l.length : Nat) : Int)) :: (26, .slice A9 l.length c10) :: _) rfl ?_; clear hA; intro a hA
  refine wpList_nil ?_
  replace hA := hA.sel [0, 1, 5, 6, 7, 8, 27, 28] (e' := [(0, .slice A l.length c), (1, .int .u8 q), (5, .pointer (some ⟨b2, 0, none⟩)), (6, .slice A9 l.length c10), (7, .nilIface), (8, .nilIface), (27, .int .i64 ((l.length : Nat) : Int)), (28, .int .i64 0)]) rfl
  refine xt_norm ?_
  refine wp_block ?_
  replace hS := hS.front 1 (C := (E22 ++ (E14 ++ []))) (L' := L19 :: C8 :: F) rfl rfl
  replace hS := hS.front 1 (C := L19) (L' := (E22 ++ (E14 ++ [])) :: C8 :: F) rfl rfl
  replace hS := hS.front 2 (C := C8) (L' := L19 :: (E22 ++ (E14 ++ [])) :: F) rfl rfl
  refine wp_loop_ghost (fun m a w => ∃ (k : Nat) (us : List UInt8) (Au : Option Addr) (cu : Nat) (U : Chunk), m = l.length - k ∧ Has a 77 [(0, .slice A l.length c), (1, .int .u8 q), (5, .pointer (some ⟨b2, 0, none⟩)), (6, .slice Au us.length cu), (7, .nilIface), (8, .nilIface), (27, .int .i64 ((l.length : Nat) : Int)), (28, .int .i64 ((k : Nat) : Int))] ∧ St w0 w (U :: L19 :: (E22 ++ (E14 ++ [])) :: F) ∧ (k ≤ l.length) ∧ (us.length = l.length) ∧ (Own 5 1 (.slice Au us.length cu) us.length (rows encB us) U)) (l.length - 0)
    ⟨0, l, A9, c10, C8, rfl, (hA.sel [0, 1, 5, 6, 7, 8, 27, 28] rfl), hS, Nat.zero_le _, rfl, hO8⟩ ?_
  clear hA hS; rintro m0 a w27 ⟨k, us, Au, cu, U, rfl, hA, hS, hk, hul, hU⟩
  refine wp_seq ?_
  refine wp_region_lit ?_
  refine st_run tbOk 1 hA (e' := (29, .bool (decide (((k : Nat) : Int) < ((l.length : Nat) : Int)))) :: _) rfl ?_; clear hA; intro a hA
  refine wpList_nil ?_
  refine xt_norm ?_
  refine wp_seq ?_
  by_cases hc28 : ((k : Nat) : Int) < ((l.length : Nat) : Int)
  · first
    | (exfalso; omega)
    | (replace hA := hA.rw 29 (v' := .bool true) rfl (vb_true hc28)
       refine cd_cond_t hA rfl ?_
       refine wp_skip ?_
       refine xt_norm ?_
       refine wp_seq ?_
       refine wp_block ?_
       refine wp_seq ?_
       refine wp_region_lit ?_
       refine st_run tbOk 2 hA (e' := (9, .int .i64 ((k : Nat) : Int)) :: (30, .int .i64 ((k : Nat) : Int)) :: _) rfl ?_; clear hA; intro a hA
       refine wpList_nil ?_
       replace hA := hA.sel [0, 1, 5, 6, 7, 8, 9, 27, 28] (e' := [(0, .slice A l.length c), (1, .int .u8 q), (5, .pointer (some ⟨b2, 0, none⟩)), (6, .slice Au us.length cu), (7, .nilIface), (8, .nilIface), (9, .int .i64 ((k : Nat) : Int)), (27, .int .i64 ((l.length : Nat) : Int)), (28, .int .i64 ((k : Nat) : Int))]) rfl
       refine xt_norm ?_
       refine wp_region_lit ?_
       refine st_run tbOk 2 hA (e' := (32, .int .i64 ((k : Nat) : Int)) :: (31, .slice Au us.length cu) :: _) rfl ?_; clear hA; intro a hA
       obtain ⟨b29, o30, rfl⟩ := hU.isSome (k := k) (by omega)
       refine st_val hA rfl rfl (by decide) (rn_indexAddr tbOk hA k (o30 + k) rfl rfl rfl rfl rfl rfl (by rfl) (by omega) (by first | rfl | simp [Nat.mul_one, Nat.zero_add] | omega)) ?_; clear hA; intro a hA
       obtain ⟨x31, hx31⟩ := get_ex (l := us) (k := k) (by omega)
       have hbx31 : x31.toNat < 256 := UInt8.toNat_lt x31
       refine st_val hA rfl rfl (by decide) (rn_load tbOk hA rfl rfl rfl rfl ((hU.rd (hS.own_ 0 rfl)).elem0 (k := k) encB_ok hx31 rfl)) ?_; clear hA; intro a hA
       refine st_run tbOk 2 hA (e' := (36, .int .u8 (IntKind.u8.wrap (((x31.toNat : Nat) : Int) + q))) :: (35, .int .u8 q) :: _) rfl ?_; clear hA; intro a hA
       obtain ⟨hw1, hw2⟩ := wrap_u8_rng ((((x31.toNat : Nat) : Int) + q))
       obtain ⟨y, hy⟩ := u8_of _ hw1 hw2
       replace hA := hA.rw 36 (v' := .int .u8 ((y.toNat : Nat) : Int)) rfl (by rw [hy])
       obtain ⟨u0, hu0⟩ := get_ex (l := us) (k := k) (by omega)
       refine st_val hA rfl rfl (by decide) (rn_indexAddr tbOk hA k (o30 + k) rfl rfl rfl rfl rfl rfl (by rfl) (by omega) (by first | rfl | simp [Nat.mul_one, Nat.zero_add] | omega)) ?_; clear hA; intro a hA
       refine st_store_own tbOk hA hU hS (k) (o30 + k) [.int .u8 ((y.toNat : Nat) : Int)] (rows encB (us.set k y)) rfl rfl rfl rfl (by rfl) rfl rfl (by intro u hu; rw [List.mem_singleton.1 hu]; rfl) (by rw [rows_length encB_ok]; simp; omega) (by have := rows_set encB_ok (x := y) (l := us) (k := k) (by omega); rw [Nat.mul_one] at this; exact this) rfl rfl ?_; clear hS; intro w32 C33 hO33 hS
       refine wpList_nil ?_
       replace hA := hA.sel [0, 1, 5, 6, 7, 8, 27, 28] (e' := [(0, .slice A l.length c), (1, .int .u8 q), (5, .pointer (some ⟨b2, 0, none⟩)), (6, .slice (some ⟨b29, o30, none⟩) us.length cu), (7, .nilIface), (8, .nilIface), (27, .int .i64 ((l.length : Nat) : Int)), (28, .int .i64 ((k : Nat) : Int))]) rfl
       refine xb_norm ?_
       refine xt_norm ?_
       refine wp_region_lit ?_
       refine st_run tbOk 1 hA (e' := (38, .int .i64 (IntKind.i64.wrap (((k : Nat) : Int) + 1))) :: _) rfl ?_; clear hA; intro a hA
       replace hA := hA.rw 38 (v' := .int .i64 ((k + 1 : Nat) : Int)) rfl (wr64 (by omega) (by omega) (by omega))
       refine st_run tbOk 1 hA (e' := (28, .int .i64 ((k + 1 : Nat) : Int)) :: _) rfl ?_; clear hA; intro a hA
       refine wpList_nil ?_
       replace hA := hA.sel [0, 1, 5, 6, 7, 8, 27, 28] (e' := [(0, .slice A l.length c), (1, .int .u8 q), (5, .pointer (some ⟨b2, 0, none⟩)), (6, .slice (some ⟨b29, o30, none⟩) us.length cu), (7, .nilIface), (8, .nilIface), (27, .int .i64 ((l.length : Nat) : Int)), (28, .int .i64 ((k + 1 : Nat) : Int))]) rfl
       replace hA := hA.rw 6 (v' := .slice (some ⟨b29, o30, none⟩) ((us.set k y).length) cu) rfl (by rw [List.length_set])
       replace hS := hS.front 2 (C := (E22 ++ (E14 ++ []))) (L' := C33 :: L19 :: F) rfl rfl
       replace hS := hS.front 2 (C := L19) (L' := (E22 ++ (E14 ++ [])) :: C33 :: F) rfl rfl
       replace hS := hS.front 2 (C := C33) (L' := L19 :: (E22 ++ (E14 ++ [])) :: F) rfl rfl
       exact lp_next _ (by omega) ⟨(k + 1), (us.set k y), (some ⟨b29, o30, none⟩), cu, C33, rfl, (hA.sel [0, 1, 5, 6, 7, 8, 27, 28] rfl), hS, by omega, (by rw [List.length_set]; exact hul), (by rw [List.length_set]; exact hO33)⟩)
  · first
    | (exfalso; omega)
    | (replace hA := hA.rw 29 (v' := .bool false) rfl (vb_false hc28)
       refine cd_cond_f hA rfl ?_
       refine wp_exit ?_
       refine xt_exit ?_
       refine xt_exit ?_
       refine cd_exit_eq ?_
       refine xt_norm ?_
       refine wp_seq ?_
       refine wp_region_lit ?_
       refine st_run tbOk 1 hA (e' := (40, .pointer (some ⟨b2, 0, none⟩)) :: _) rfl ?_; clear hA; intro a hA
       replace hS := hS.front 2 (C := (E22 ++ (E14 ++ []))) (L' := U :: L19 :: F) rfl rfl
       replace hS := hS.front 2 (C := L19) (L' := (E22 ++ (E14 ++ [])) :: U :: F) rfl rfl
       refine st_call0 hA rfl rfl rfl isfn8 rfl rfl (by decide) (arrive_ok8 hS hM26 0 (Nat.le_of_ble_eq_true rfl) (Nat.le_of_ble_eq_true rfl)) ?_
       clear hA hS; rintro _ w34 a ⟨q37, ⟨q37x0, q37x1, q37x2, q37x3, q37x4, q37A, q37c, q37b⟩, hq37, hpq37, hxq37, L35, hM36, rfl, hS⟩ hA
       have hq1 : q37 = 0 := by have h := hpq37; simp at h; omega
       subst hq1
       simp only [List.getElem?_cons_zero, Option.some.injEq, Prod.mk.injEq] at hxq37
       obtain ⟨rfl, rfl, rfl, rfl, rfl, rfl, rfl, rfl⟩ := hxq37
       have hM38 : WR b2 ([(0, 0, 0, 0, 0, A23, c24, l)]) L35 := hM36
       have hdv0 := hd2 (0, 0, 0, 0, 0, A15, c16, l) (by simp)
       refine st_run tbOk 3 hA (e' := (43, .bool true) :: (42, .agg #[.int .i64 0, .int .i64 0, .int .u64 0, .int .i64 0, .int .i64 0, .slice A15 l.length c16]) :: (39, .tuple #[.agg #[.int .i64 0, .int .i64 0, .int .u64 0, .int .i64 0, .int .i64 0, .slice A15 l.length c16], .bool true]) :: _) rfl ?_; clear hA; intro a hA
       refine st_alloc tbOk hA hS [.int .i64 0, .int .i64 0, .int .u64 0, .int .i64 0, .int .i64 0, .slice none 0 0] rfl rfl rfl rfl rfl (by decide) ?_; clear hA hS; intro b39 w40 a hS hA
       refine st_store tbOk hA hS [.int .i64 0, .int .i64 0, .int .u64 0, .int .i64 0, .int .i64 0, .slice A15 l.length c16] [.int .i64 0, .int .i64 0, .int .u64 0, .int .i64 0, .int .i64 0, .slice A15 l.length c16] rfl rfl rfl rfl rfl rfl (by simp [Value.oneCell']) (Nat.le_of_ble_eq_true rfl) rfl rfl rfl ?_; clear hS; intro w41 hS
       refine st_run tbOk 1 hA (e' := (11, .bool true) :: _) rfl ?_; clear hA; intro a hA
       refine wpList_nil ?_
       replace hA := hA.sel [0, 5, 7, 8, 10, 11] (e' := [(0, .slice A l.length c), (5, .pointer (some ⟨b2, 0, none⟩)), (7, .nilIface), (8, .nilIface), (10, .pointer (some ⟨b39, 0, none⟩)), (11, .bool true)]) rfl
       refine xt_norm ?_
       refine wp_seq ?_
       refine wp_region_lit ?_
       refine st_run tbOk 1 hA (e' := (45, .pointer (some ⟨b2, 0, none⟩)) :: _) rfl ?_; clear hA; intro a hA
       replace hS := hS.front 2 (C := (E22 ++ (E14 ++ []))) (L' := [(b39, rowO [.int .i64 0, .int .i64 0, .int .u64 0, .int .i64 0, .int .i64 0, .slice A15 l.length c16] 33)] :: L35 :: U :: F) rfl rfl
       replace hS := hS.front 2 (C := L35) (L' := (E22 ++ (E14 ++ [])) :: [(b39, rowO [.int .i64 0, .int .i64 0, .int .u64 0, .int .i64 0, .int .i64 0, .slice A15 l.length c16] 33)] :: U :: F) rfl rfl
       refine st_call0 hA rfl rfl rfl isfn8 rfl rfl (by decide) (arrive_ok8 hS hM38 0 (Nat.le_of_ble_eq_true rfl) (Nat.le_of_ble_eq_true rfl)) ?_
       clear hA hS; rintro _ w42 a ⟨q45, ⟨q45x0, q45x1, q45x2, q45x3, q45x4, q45A, q45c, q45b⟩, hq45, hpq45, hxq45, L43, hM44, rfl, hS⟩ hA
       have hq1 : q45 = 0 := by have h := hpq45; simp at h; omega
       subst hq1
       simp only [List.getElem?_cons_zero, Option.some.injEq, Prod.mk.injEq] at hxq45
       obtain ⟨rfl, rfl, rfl, rfl, rfl, rfl, rfl, rfl⟩ := hxq45
       have hM46 : WR b2 ([]) L43 := hM44
       have hdv1 := hd2 (0, 0, 0, 0, 0, A23, c24, l) (by simp)
       refine st_run tbOk 3 hA (e' := (48, .bool true) :: (47, .agg #[.int .i64 0, .int .i64 0, .int .u64 0, .int .i64 0, .int .i64 0, .slice A23 l.length c24]) :: (44, .tuple #[.agg #[.int .i64 0, .int .i64 0, .int .u64 0, .int .i64 0, .int .i64 0, .slice A23 l.length c24], .bool true]) :: _) rfl ?_; clear hA; intro a hA
       refine st_alloc tbOk hA hS [.int .i64 0, .int .i64 0, .int .u64 0, .int .i64 0, .int .i64 0, .slice none 0 0] rfl rfl rfl rfl rfl (by decide) ?_; clear hA hS; intro b47 w48 a hS hA
       refine st_store tbOk hA hS [.int .i64 0, .int .i64 0, .int .u64 0, .int .i64 0, .int .i64 0, .slice A23 l.length c24] [.int .i64 0, .int .i64 0, .int .u64 0, .int .i64 0, .int .i64 0, .slice A23 l.length c24] rfl rfl rfl rfl rfl rfl (by simp [Value.oneCell']) (Nat.le_of_ble_eq_true rfl) rfl rfl rfl ?_; clear hS; intro w49 hS
       refine st_run tbOk 1 hA (e' := (13, .bool true) :: _) rfl ?_; clear hA; intro a hA
       refine wpList_nil ?_
       replace hA := hA.sel [0, 7, 8, 10, 11, 12, 13] (e' := [(0, .slice A l.length c), (7, .nilIface), (8, .nilIface), (10, .pointer (some ⟨b39, 0, none⟩)), (11, .bool true), (12, .pointer (some ⟨b47, 0, none⟩)), (13, .bool true)]) rfl
       refine xt_norm ?_
       refine wp_seq ?_
       refine wp_region_lit ?_
       refine st_run tbOk 14 hA (e' := (62, .pointer (some ⟨b39, 5, none⟩)) :: (61, .bool true) :: (60, .bool true) :: (59, .bool true) :: (58, .bool true) :: (57, .bool true) :: (56, .bool true) :: (55, .bool true) :: (54, .bool true) :: (53, .bool true) :: (52, .nilIface) :: (51, .bool true) :: (50, .bool true) :: (49, .nilIface) :: _) rfl ?_; clear hA; intro a hA
       refine st_val hA rfl rfl (by decide) (rn_load tbOk hA rfl rfl rfl rfl (cell_row (hS.heapAt 3 rfl) rfl)) ?_; clear hA; intro a hA
       refine st_val hA rfl rfl (by decide) (rn_bstr tbOk hA (bs := l) rfl rfl rfl rfl rfl rfl rfl rfl (hdv0 _ (hS.only 2 rfl))) ?_; clear hA; intro a hA
       refine st_run tbOk 1 hA (e' := (65, .slice A l.length c) :: _) rfl ?_; clear hA; intro a hA
       refine st_val hA rfl rfl (by decide) (rn_bstr tbOk hA (bs := l) rfl rfl rfl rfl rfl rfl rfl rfl (hr _ (hS.tail 5 rfl))) ?_; clear hA; intro a hA
       refine st_run tbOk 1 hA (e' := (67, .bool ((bsv l).toList == (bsv l).toList)) :: _) rfl ?_; clear hA; intro a hA
       replace hA := hA.rw 67 (v' := .bool true) rfl (congrArg Value.bool (by rw [bsv_eq, decide_eq_true_eq]))
       refine st_run tbOk 3 hA (e' := (70, .pointer (some ⟨b47, 5, none⟩)) :: (69, .bool true) :: (68, .bool true) :: _) rfl ?_; clear hA; intro a hA
       refine st_val hA rfl rfl (by decide) (rn_load tbOk hA rfl rfl rfl rfl (cell_row (hS.heapAt 0 rfl) rfl)) ?_; clear hA; intro a hA
       refine st_val hA rfl rfl (by decide) (rn_bstr tbOk hA (bs := l) rfl rfl rfl rfl rfl rfl rfl rfl (hdv1 _ (hS.only 2 rfl))) ?_; clear hA; intro a hA
       refine st_run tbOk 1 hA (e' := (73, .slice A l.length c) :: _) rfl ?_; clear hA; intro a hA
       refine st_val hA rfl rfl (by decide) (rn_bstr tbOk hA (bs := l) rfl rfl rfl rfl rfl rfl rfl rfl (hr _ (hS.tail 5 rfl))) ?_; clear hA; intro a hA
       refine st_run tbOk 1 hA (e' := (75, .bool ((bsv l).toList == (bsv l).toList)) :: _) rfl ?_; clear hA; intro a hA
       replace hA := hA.rw 75 (v' := .bool true) rfl (congrArg Value.bool (by rw [bsv_eq, decide_eq_true_eq]))
       refine st_run tbOk 2 hA (e' := (4, .bool true) :: (76, .bool true) :: _) rfl ?_; clear hA; intro a hA
       refine wpList_nil ?_
       replace hA := hA.sel [4] (e' := [(4, .bool true)]) rfl
       refine xt_norm ?_
       refine wp_ret ?_
       refine ret1 (fn := Try.f4) hA rfl rfl ?_
       replace hS := hS.drop1
       replace hS := hS.drop1
       replace hS := hS.drop1
       replace hS := hS.drop1
       replace hS := hS.drop1
       exact ⟨rfl, hS⟩)

end Go.Proofs.Ytdchjphmfkjamaa
