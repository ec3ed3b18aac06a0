import Derived.Test.YtjmnajcjbimbiaaDoorProg
import Derived.Test.YtjmnajcjbimbiaaDoorAs
import Derived.Test.YtjmnajcjbimbiaaDoorSK15
set_option linter.unusedVariables false
set_option linter.unusedSimpArgs false
set_option maxRecDepth 4000
namespace Go.Proofs.YtjmnajcjbimbiaaDoor
open Go Go.SK
theorem mixed : Tryd.prog.follows .mixedOrders = true := by kernel_rfl
theorem isfn3 : IsFn Tryd.prog 3 := fun args w => by kernel_rfl
theorem isfn4 : IsFn Tryd.prog 4 := fun args w => by kernel_rfl
theorem isfn5 : IsFn Tryd.prog 5 := fun args w => by kernel_rfl
theorem isfn6 : IsFn Tryd.prog 6 := fun args w => by kernel_rfl
theorem isfn7 : IsFn Tryd.prog 7 := fun args w => by kernel_rfl
theorem isfn8 : IsFn Tryd.prog 8 := fun args w => by kernel_rfl
theorem isfn9 : IsFn Tryd.prog 9 := fun args w => by kernel_rfl
theorem isfn10 : IsFn Tryd.prog 10 := fun args w => by kernel_rfl
theorem isfn11 : IsFn Tryd.prog 11 := fun args w => by kernel_rfl
theorem isfn12 : IsFn Tryd.prog 12 := fun args w => by kernel_rfl
theorem isfn13 : IsFn Tryd.prog 13 := fun args w => by kernel_rfl
theorem isfn14 : IsFn Tryd.prog 14 := fun args w => by kernel_rfl
theorem isfn15 : IsFn Tryd.prog 15 := fun args w => by kernel_rfl
theorem isfn16 : IsFn Tryd.prog 16 := fun args w => by kernel_rfl
theorem isfn17 : IsFn Tryd.prog 17 := fun args w => by kernel_rfl
noncomputable def tb : List TI := [
  ⟨3, Tryd.t3.desc, 1, 8, .int .i64 0⟩,
  ⟨4, Tryd.t4.desc, 1, 1, .bool false⟩,
  ⟨5, Tryd.t5.desc, 1, 1, .int .u8 0⟩,
  ⟨9, Tryd.t9.desc, 1, 16, .string (⟨#[]⟩ : ByteArray)⟩,
  ⟨21, Tryd.t21.desc, 1, 4, .int .i32 0⟩,
  ⟨22, Tryd.t22.desc, 1, 24, .slice none 0 0⟩,
  ⟨24, Tryd.t24.desc, 1, 8, .pointer none⟩,
  ⟨26, Tryd.t26.desc, 1, 24, .slice none 0 0⟩,
  ⟨27, Tryd.t27.desc, 1, 4, .int .u32 0⟩,
  ⟨29, Tryd.t28.desc, 1, 16, .nilIface⟩,
  ⟨31, Tryd.t31.desc, 1, 8, .int .u64 0⟩,
  ⟨32, Tryd.t32.desc, 1, 2, .int .u16 0⟩,
  ⟨34, Tryd.t33.desc, 4, 24, .agg #[.int .u64 0, .int .u32 0, .int .u8 0, .int .u64 0]⟩,
  ⟨35, Tryd.t35.desc, 1, 24, .slice none 0 0⟩,
  ⟨37, Tryd.t36.desc, 11, 80, .agg #[.int .u64 0, .int .u64 0, .int .u32 0, .int .u16 0, .int .u16 0, .int .u64 0, .int .u32 0, .int .u8 0, .int .u64 0, .int .u64 0, .slice none 0 0]⟩,
  ⟨41, Tryd.t3.desc, 1, 8, .int .i64 0⟩,
  ⟨44, Tryd.t44.desc, 1, 24, .slice none 0 0⟩,
  ⟨48, Tryd.t48.desc, 1, 1, .int .i8 0⟩,
  ⟨49, Tryd.t49.desc, 1, 24, .slice none 0 0⟩,
  ⟨50, Tryd.t50.desc, 1, 24, .slice none 0 0⟩,
  ⟨52, Tryd.t51.desc, 12, 88, .agg #[.int .u8 0, .int .u64 0, .int .u64 0, .int .u32 0, .int .u16 0, .int .u16 0, .int .u64 0, .int .u32 0, .int .u8 0, .int .u64 0, .int .u64 0, .slice none 0 0]⟩,
  ⟨57, Tryd.t57.desc, 1, 8, .chan none⟩,
  ⟨59, Tryd.t58.desc, 2, 16, .agg #[.chan none, .chan none]⟩,
  ⟨61, Tryd.t61.desc, 1, 8, .pointer none⟩,
  ⟨62, Tryd.t62.desc, 1, 24, .slice none 0 0⟩]
theorem tbOk : TabOk Tryd.prog tb := ⟨
  ⟨by kernel_rfl, Tryd.t3, by kernel_rfl, by kernel_rfl, by kernel_rfl, by kernel_rfl⟩,
  ⟨by kernel_rfl, Tryd.t4, by kernel_rfl, by kernel_rfl, by kernel_rfl, by kernel_rfl⟩,
  ⟨by kernel_rfl, Tryd.t5, by kernel_rfl, by kernel_rfl, by kernel_rfl, by kernel_rfl⟩,
  ⟨by kernel_rfl, Tryd.t9, by kernel_rfl, by kernel_rfl, by kernel_rfl, by kernel_rfl⟩,
  ⟨by kernel_rfl, Tryd.t21, by kernel_rfl, by kernel_rfl, by kernel_rfl, by kernel_rfl⟩,
  ⟨by kernel_rfl, Tryd.t22, by kernel_rfl, by kernel_rfl, by kernel_rfl, by kernel_rfl⟩,
  ⟨by kernel_rfl, Tryd.t24, by kernel_rfl, by kernel_rfl, by kernel_rfl, by kernel_rfl⟩,
  ⟨by kernel_rfl, Tryd.t26, by kernel_rfl, by kernel_rfl, by kernel_rfl, by kernel_rfl⟩,
  ⟨by kernel_rfl, Tryd.t27, by kernel_rfl, by kernel_rfl, by kernel_rfl, by kernel_rfl⟩,
  ⟨by kernel_rfl, Tryd.t29, by kernel_rfl, by kernel_rfl, by kernel_rfl, by kernel_rfl⟩,
  ⟨by kernel_rfl, Tryd.t31, by kernel_rfl, by kernel_rfl, by kernel_rfl, by kernel_rfl⟩,
  ⟨by kernel_rfl, Tryd.t32, by kernel_rfl, by kernel_rfl, by kernel_rfl, by kernel_rfl⟩,
  ⟨by kernel_rfl, Tryd.t34, by kernel_rfl, by kernel_rfl, by kernel_rfl, by kernel_rfl⟩,
  ⟨by kernel_rfl, Tryd.t35, by kernel_rfl, by kernel_rfl, by kernel_rfl, by kernel_rfl⟩,
  ⟨by kernel_rfl, Tryd.t37, by kernel_rfl, by kernel_rfl, by kernel_rfl, by kernel_rfl⟩,
  ⟨by kernel_rfl, Tryd.t41, by kernel_rfl, by kernel_rfl, by kernel_rfl, by kernel_rfl⟩,
  ⟨by kernel_rfl, Tryd.t44, by kernel_rfl, by kernel_rfl, by kernel_rfl, by kernel_rfl⟩,
  ⟨by kernel_rfl, Tryd.t48, by kernel_rfl, by kernel_rfl, by kernel_rfl, by kernel_rfl⟩,
  ⟨by kernel_rfl, Tryd.t49, by kernel_rfl, by kernel_rfl, by kernel_rfl, by kernel_rfl⟩,
  ⟨by kernel_rfl, Tryd.t50, by kernel_rfl, by kernel_rfl, by kernel_rfl, by kernel_rfl⟩,
  ⟨by kernel_rfl, Tryd.t52, by kernel_rfl, by kernel_rfl, by kernel_rfl, by kernel_rfl⟩,
  ⟨by kernel_rfl, Tryd.t57, by kernel_rfl, by kernel_rfl, by kernel_rfl, by kernel_rfl⟩,
  ⟨by kernel_rfl, Tryd.t59, by kernel_rfl, by kernel_rfl, by kernel_rfl, by kernel_rfl⟩,
  ⟨by kernel_rfl, Tryd.t61, by kernel_rfl, by kernel_rfl, by kernel_rfl, by kernel_rfl⟩,
  ⟨by kernel_rfl, Tryd.t62, by kernel_rfl, by kernel_rfl, by kernel_rfl, by kernel_rfl⟩,
  trivial⟩
def encMessage (x : Int × Int × Int × Int × Int × Int × Int × Int × Int × Int × Option Addr × Nat × List UInt8) : List Value := [.int .u64 x.1, .int .u64 x.2.1, .int .u32 x.2.2.1, .int .u16 x.2.2.2.1, .int .u16 x.2.2.2.2.1, .int .u64 x.2.2.2.2.2.1, .int .u32 x.2.2.2.2.2.2.1, .int .u8 x.2.2.2.2.2.2.2.1, .int .u64 x.2.2.2.2.2.2.2.2.1, .int .u64 x.2.2.2.2.2.2.2.2.2.1, .slice x.2.2.2.2.2.2.2.2.2.2.1 x.2.2.2.2.2.2.2.2.2.2.2.2.length x.2.2.2.2.2.2.2.2.2.2.2.1]
theorem encMessage_ok : Enc encMessage 11 := ⟨fun _ => rfl, fun x u hu => by simp only [encMessage, List.mem_cons, List.not_mem_nil, or_false] at hu; rcases hu with rfl | rfl | rfl | rfl | rfl | rfl | rfl | rfl | rfl | rfl | rfl <;> rfl⟩
def encMessage_dd (w0 : World) (D : Chunk) (x : Int × Int × Int × Int × Int × Int × Int × Int × Int × Int × Option Addr × Nat × List UInt8) : Prop := DD w0 D x.2.2.2.2.2.2.2.2.2.2.1 x.2.2.2.2.2.2.2.2.2.2.2.1 x.2.2.2.2.2.2.2.2.2.2.2.2
theorem encMessage_left {w0 : World} {D E : Chunk} {x : Int × Int × Int × Int × Int × Int × Int × Int × Int × Int × Option Addr × Nat × List UInt8} (h : encMessage_dd w0 D x) : encMessage_dd w0 (E ++ D) x := DD.left h
theorem encMessage_lefts {w0 : World} {D E : Chunk} {l : List (Int × Int × Int × Int × Int × Int × Int × Int × Int × Int × Option Addr × Nat × List UInt8)} (h : ∀ x ∈ l, encMessage_dd w0 D x) : ∀ x ∈ l, encMessage_dd w0 (E ++ D) x := fun x hx => encMessage_left (h x hx)

abbrev Msg := Int × Int × Int × Int × Int × Int × Int × Int × Int × Int × Option Addr × Nat × List UInt8
def mdat (x : Msg) : List UInt8 := x.2.2.2.2.2.2.2.2.2.2.2.2

def msgV (x : Msg) : Value := .agg (encMessage x).toArray
theorem push_msg (us : List Msg) (m : Msg) : (us.map msgV).toArray.push (msgV m) = ((us ++ [m]).map msgV).toArray := by simp
theorem size_msg (us : List Msg) : (us.map msgV).toArray.size = us.length := by simp
/-- A box at a block: its room, its urgent messages and its plain ones. -/
def BX (b n : Nat) (us ps : List Msg) (L : Chunk) : Prop := ∃ c1 c2 s1 r1 s2 r2, L = (b, rowO [.chan (some c1), .chan (some c2)] 59) :: ([(c1, .chan n (us.map msgV).toArray false s1 r1 false)] ++ [(c2, .chan n (ps.map msgV).toArray false s2 r2 false)])

theorem of8 {w0 w : World} {F : List Chunk} (hS : St w0 w F) (r : Int) (n : Nat) (hn : (r ≤ 0 ∧ n = 0) ∨ (0 ≤ r ∧ r ≤ 64 ∧ ((n : Nat) : Int) = r) ∨ (64 ≤ r ∧ n = 64)) :
    Ret Tryd.prog 8 #[.int .i64 r] w (fun v w' => ∃ b L, BX b n [] [] L ∧ v = .pointer (some ⟨b, 0, none⟩) ∧ St w0 w' (L :: F)) := by
  refine enter (vs := [.int .i64 r]) 12 Tryd.func8 rfl rfl (by simp) ?_; intro a hA
  refine wp_seq ?_
  refine wp_region_lit ?_
  refine st_run tbOk 1 hA (e' := (2, .pointer none) :: _) rfl ?_; clear hA; intro a hA
  refine wpList_nil ?_
  replace hA := hA.sel [0] (e' := [(0, .int .i64 r)]) rfl
  refine xt_norm ?_
  refine wp_seq ?_
  refine wp_region_lit ?_
  refine st_run tbOk 3 hA (e' := (5, .int .i64 (if (if 64 < r then 64 else r) > 0 then (if 64 < r then 64 else r) else 0)) :: (4, .int .i64 (if 64 < r then 64 else r)) :: (3, .int .i64 r) :: _) rfl ?_; clear hA; intro a hA
  replace hA := hA.rw 5 (v' := .int .i64 ((n : Nat) : Int)) rfl (vint (by first | omega | (split <;> omega) | (split <;> split <;> omega)))
  refine st_run tbOk 1 hA (e' := (0, .int .i64 ((n : Nat) : Int)) :: _) rfl ?_; clear hA; intro a hA
  refine wpList_nil ?_
  replace hA := hA.sel [0] (e' := [(0, .int .i64 ((n : Nat) : Int))]) rfl
  refine xt_norm ?_
  refine wp_seq ?_
  refine wp_drawN (fun w' => St w0 w' (F)) [] [(0, true), (2, true)] 1 (.L [(3, false), (4, true), (5, false), (6, true)]) 3 (.L [(1, false), (4, true), (5, false), (6, true)]) mixed (by kernel_rfl) (by rintro c a w ⟨_, _, h, _⟩; cases h) (by rfl) (by kernel_rfl) ?_
  replace hS := hS.drew
  refine dr_run tbOk 2 hA hS (e' := (8, .int .i64 ((n : Nat) : Int)) :: (6, .int .i64 ((n : Nat) : Int)) :: _) rfl ?_; clear hA; intro a hA
  refine dr_fork ?_ ?_
  · refine dr_b (o := _) rfl ?_
    refine st_makeChan tbOk hA hS n rfl rfl rfl rfl rfl (by show (80 : Int) * ((n : Nat) : Int) ≤ 281474976710544; omega) (by omega) rfl rfl (by decide) ?_; clear hA hS; intro b1 w2 a hS hA
    refine dr_nil (.inr (hS.tail 1 rfl)) ?_
    refine dr_subL ?_
    refine dr_b (o := _) rfl ?_
    refine st_makeChan tbOk hA hS n rfl rfl rfl rfl rfl (by show (80 : Int) * ((n : Nat) : Int) ≤ 281474976710544; omega) (by omega) rfl rfl (by decide) ?_; clear hA hS; intro b3 w4 a hS hA
    refine dr_nil (.inr (hS.tail 2 rfl)) ?_
    refine dr_run tbOk 1 hA (hS.tail 2 rfl) (e' := (10, .agg #[.chan (some b1), .chan (some b3)]) :: _) rfl ?_; clear hA; intro a hA
    refine dr_b (o := _) rfl ?_
    refine st_box hA hS [.chan (some b1), .chan (some b3)] rfl rfl rfl rfl rfl (by decide) ?_; clear hA hS; intro b5 w6 a hS hA
    refine dr_nil (.inr (hS.tail 3 rfl)) ?_
    refine dr_run tbOk 1 hA (hS.tail 3 rfl) (e' := (2, .pointer (some ⟨b5, 0, none⟩)) :: _) rfl ?_; clear hA; intro a hA
    refine dr_end ?_
    replace hA := hA.sel [2] (e' := [(2, .pointer (some ⟨b5, 0, none⟩))]) rfl
    refine xt_norm ?_
    refine wp_ret ?_
    refine ret1 (fn := Tryd.f8) hA rfl rfl ?_
    replace hS := hS.front 1 (C := [(b3, .chan n #[] false 0 0 false)]) (L' := [(b5, rowO [.chan (some b1), .chan (some b3)] 59)] :: [(b1, .chan n #[] false 0 0 false)] :: F) rfl rfl
    replace hS := hS.front 2 (C := [(b1, .chan n #[] false 0 0 false)]) (L' := [(b3, .chan n #[] false 0 0 false)] :: [(b5, rowO [.chan (some b1), .chan (some b3)] 59)] :: F) rfl rfl
    replace hS := hS.front 2 (C := [(b5, rowO [.chan (some b1), .chan (some b3)] 59)]) (L' := [(b1, .chan n #[] false 0 0 false)] :: [(b3, .chan n #[] false 0 0 false)] :: F) rfl rfl
    replace hS := hS.join3
    exact ⟨_, _, ⟨_, _, _, _, _, _, rfl⟩, rfl, hS⟩
  · refine dr_b (o := _) rfl ?_
    refine st_makeChan tbOk hA hS n rfl rfl rfl rfl rfl (by show (80 : Int) * ((n : Nat) : Int) ≤ 281474976710544; omega) (by omega) rfl rfl (by decide) ?_; clear hA hS; intro b7 w8 a hS hA
    refine dr_nil (.inr (hS.tail 1 rfl)) ?_
    refine dr_subL ?_
    refine dr_b (o := _) rfl ?_
    refine st_makeChan tbOk hA hS n rfl rfl rfl rfl rfl (by show (80 : Int) * ((n : Nat) : Int) ≤ 281474976710544; omega) (by omega) rfl rfl (by decide) ?_; clear hA hS; intro b9 w10 a hS hA
    refine dr_nil (.inr (hS.tail 2 rfl)) ?_
    refine dr_run tbOk 1 hA (hS.tail 2 rfl) (e' := (10, .agg #[.chan (some b9), .chan (some b7)]) :: _) rfl ?_; clear hA; intro a hA
    refine dr_b (o := _) rfl ?_
    refine st_box hA hS [.chan (some b9), .chan (some b7)] rfl rfl rfl rfl rfl (by decide) ?_; clear hA hS; intro b11 w12 a hS hA
    refine dr_nil (.inr (hS.tail 3 rfl)) ?_
    refine dr_run tbOk 1 hA (hS.tail 3 rfl) (e' := (2, .pointer (some ⟨b11, 0, none⟩)) :: _) rfl ?_; clear hA; intro a hA
    refine dr_end ?_
    replace hA := hA.sel [2] (e' := [(2, .pointer (some ⟨b11, 0, none⟩))]) rfl
    refine xt_norm ?_
    refine wp_ret ?_
    refine ret1 (fn := Tryd.f8) hA rfl rfl ?_
    replace hS := hS.front 2 (C := [(b7, .chan n #[] false 0 0 false)]) (L' := [(b11, rowO [.chan (some b9), .chan (some b7)] 59)] :: [(b9, .chan n #[] false 0 0 false)] :: F) rfl rfl
    replace hS := hS.front 2 (C := [(b9, .chan n #[] false 0 0 false)]) (L' := [(b7, .chan n #[] false 0 0 false)] :: [(b11, rowO [.chan (some b9), .chan (some b7)] 59)] :: F) rfl rfl
    replace hS := hS.front 2 (C := [(b11, rowO [.chan (some b9), .chan (some b7)] 59)]) (L' := [(b9, .chan n #[] false 0 0 false)] :: [(b7, .chan n #[] false 0 0 false)] :: F) rfl rfl
    replace hS := hS.join3
    exact ⟨_, _, ⟨_, _, _, _, _, _, rfl⟩, rfl, hS⟩

theorem put_u_room9 {w0 w : World} {F : List Chunk} {L D : Chunk} {b n : Nat} {us ps : List Msg} (hS : St w0 w (L :: D :: F)) (hM : BX b n us ps L) (m0 m1 m2 m3 m4 m5 m6 m7 m8 m9 : Int) {d : Value} {bs : List UInt8} (hd : RdSX w0 (D :: F) 1 d bs.length (rows encB bs)) (hbl : bs.length ≤ 140737488351232) (hl : us.length < n) :
    Ret Tryd.prog 9 #[.pointer (some ⟨b, 0, none⟩), .agg #[.int .u64 m0, .int .u64 m1, .int .u32 m2, .int .u16 m3, .int .u16 m4, .int .u64 m5, .int .u32 m6, .int .u8 m7, .int .u64 m8, .int .u64 m9, d], .bool true] w (fun v w' => ∃ L' E A c, BX b n (us ++ [(m0, m1, m2, m3, m4, m5, m6, m7, m8, m9, A, c, bs)]) (ps) L' ∧ DD w0 E A c bs ∧ v = .nilIface ∧ St w0 w' (L' :: (E ++ D) :: F)) := by
  obtain ⟨c1, c2, s1, r1, s2, r2, rfl⟩ := hM
  replace hS : St w0 w ([(b, rowO [.chan (some c1), .chan (some c2)] 59)] :: [(c1, .chan n (us.map msgV).toArray false s1 r1 false)] :: [(c2, .chan n (ps.map msgV).toArray false s2 r2 false)] :: D :: F) := hS.split3
  obtain ⟨B, d', rfl, hmd, hdx⟩ := (hd _ (hS.tail 3 rfl)).open'
  refine enterN (vs := [.pointer (some ⟨b, 0, none⟩), .agg #[.int .u64 m0, .int .u64 m1, .int .u32 m2, .int .u16 m3, .int .u16 m4, .int .u64 m5, .int .u32 m6, .int .u8 m7, .int .u64 m8, .int .u64 m9, .slice B bs.length d'], .bool true]) 27 Tryd.func9 rfl rfl (by simp) ?_; intro a hA
  refine wpN_seq ?_
  refine wpN_of (wp_region_lit ?_)
  refine st_box hA hS [.int .u64 m0, .int .u64 m1, .int .u32 m2, .int .u16 m3, .int .u16 m4, .int .u64 m5, .int .u32 m6, .int .u8 m7, .int .u64 m8, .int .u64 m9, .slice B bs.length d'] rfl rfl rfl rfl rfl (by decide) ?_; clear hA hS; intro b1 w2 a hS hA
  refine st_run tbOk 1 hA (e' := (6, .nilIface) :: _) rfl ?_; clear hA; intro a hA
  refine wpList_nil ?_
  replace hA := hA.sel [0, 2, 4] (e' := [(0, .pointer (some ⟨b, 0, none⟩)), (2, .bool true), (4, .pointer (some ⟨b1, 0, none⟩))]) rfl
  refine xt_norm ?_
  refine wpN_seq ?_
  refine wpN_of (wp_region_lit ?_)
  refine st_run tbOk 1 hA (e' := (8, .pointer (some ⟨b1, 10, none⟩)) :: _) rfl ?_; clear hA; intro a hA
  refine st_val hA rfl rfl (by decide) (rn_load tbOk hA rfl rfl rfl rfl (cell_row (hS.heapAt 0 rfl) rfl)) ?_; clear hA; intro a hA
  replace hS := hS.nil
  refine st_append tbOk hA (m := 0) (q := bs.length) (xs := rows encB ([] : List UInt8)) (news := rows encB bs) rfl rfl rfl rfl rfl rfl rfl rfl (by decide) (Own.nil 5 1) hS ((hd _ (hS.tail 5 rfl))) (rows_one encB_ok _) (maxLen_le (by omega)) (by show (0 + bs.length) * 1 ≤ 140737488355328; omega) rfl rfl (by decide) ?_
  clear hA hS; intro v3 w4 C5 a hO5 hS hA
  replace hO5 := Own.app (l := ([] : List UInt8)) (l2 := bs) hO5
  replace hO5 : Own 5 1 v3 bs.length (rows encB bs) C5 := hO5
  obtain ⟨A6, c7, rfl, hmc7, hxc7⟩ := hO5.open'
  refine st_run tbOk 1 hA (e' := (11, .pointer (some ⟨b1, 10, none⟩)) :: _) rfl ?_; clear hA; intro a hA
  replace hS := hS.front 1 (C := [(b1, rowO [.int .u64 m0, .int .u64 m1, .int .u32 m2, .int .u16 m3, .int .u16 m4, .int .u64 m5, .int .u32 m6, .int .u8 m7, .int .u64 m8, .int .u64 m9, .slice B bs.length d'] 37)]) (L' := C5 :: [(b, rowO [.chan (some c1), .chan (some c2)] 59)] :: [(c1, .chan n (us.map msgV).toArray false s1 r1 false)] :: [(c2, .chan n (ps.map msgV).toArray false s2 r2 false)] :: D :: F) rfl rfl
  refine st_store tbOk hA hS [.slice A6 bs.length c7] [.int .u64 m0, .int .u64 m1, .int .u32 m2, .int .u16 m3, .int .u16 m4, .int .u64 m5, .int .u32 m6, .int .u8 m7, .int .u64 m8, .int .u64 m9, .slice A6 bs.length c7] rfl rfl rfl rfl rfl rfl (by intro u hu; rw [List.mem_singleton.1 hu]; rfl) (Nat.le_of_ble_eq_true rfl) rfl rfl rfl ?_; clear hS; intro w8 hS
  refine wpList_nil ?_
  replace hA := hA.sel [0, 2, 4] (e' := [(0, .pointer (some ⟨b, 0, none⟩)), (2, .bool true), (4, .pointer (some ⟨b1, 0, none⟩))]) rfl
  refine xt_norm ?_
  refine wpN_seq ?_
  refine wpN_of (wp_region_lit ?_)
  refine st_run tbOk 3 hA (e' := (14, .pointer (some ⟨b, 1, none⟩)) :: (13, .pointer (some ⟨b, 0, none⟩)) :: (12, .pointer (some ⟨b, 0, none⟩)) :: _) rfl ?_; clear hA; intro a hA
  refine st_val hA rfl rfl (by decide) (rn_load tbOk hA rfl rfl rfl rfl (cell_row (hS.heapAt 2 rfl) rfl)) ?_; clear hA; intro a hA
  refine st_run tbOk 1 hA (e' := (7, .chan (some c2)) :: _) rfl ?_; clear hA; intro a hA
  refine wpList_nil ?_
  replace hA := hA.sel [0, 2, 4, 7] (e' := [(0, .pointer (some ⟨b, 0, none⟩)), (2, .bool true), (4, .pointer (some ⟨b1, 0, none⟩)), (7, .chan (some c2))]) rfl
  refine xt_norm ?_
  refine wpN_seq ?_
  refine wpN_seq ?_
  refine wpN_of (wp_region_lit ?_)
  refine st_run tbOk 1 hA (e' := (16, .bool true) :: _) rfl ?_; clear hA; intro a hA
  refine wpList_nil ?_
  replace hA := hA.sel [0, 4, 7, 16] (e' := [(0, .pointer (some ⟨b, 0, none⟩)), (4, .pointer (some ⟨b1, 0, none⟩)), (7, .chan (some c2)), (16, .bool true)]) rfl
  refine xt_norm ?_
  refine cdN_cond_t hA rfl ?_
  refine wpN_of (wp_region_lit ?_)
  refine st_run tbOk 3 hA (e' := (19, .pointer (some ⟨b, 0, none⟩)) :: (18, .pointer (some ⟨b, 0, none⟩)) :: (17, .pointer (some ⟨b, 0, none⟩)) :: _) rfl ?_; clear hA; intro a hA
  refine st_val hA rfl rfl (by decide) (rn_load tbOk hA rfl rfl rfl rfl (cell_row (hS.heapAt 2 rfl) rfl)) ?_; clear hA; intro a hA
  refine st_run tbOk 1 hA (e' := (7, .chan (some c1)) :: _) rfl ?_; clear hA; intro a hA
  refine wpList_nil ?_
  replace hA := hA.sel [4, 7] (e' := [(4, .pointer (some ⟨b1, 0, none⟩)), (7, .chan (some c1))]) rfl
  refine xt_norm ?_
  refine wpN_seq ?_
  refine wpN_seq ?_
  refine wpN_of (wp_region_lit ?_)
  refine st_run tbOk 1 hA (e' := (21, .chan (some c1)) :: _) rfl ?_; clear hA; intro a hA
  refine wpList_nil ?_
  replace hA := hA.sel [4, 21] (e' := [(4, .pointer (some ⟨b1, 0, none⟩)), (21, .chan (some c1))]) rfl
  refine xt_norm ?_
  refine wpN_of (wp_region_lit ?_)
  refine st_val hA rfl rfl (by decide) (rn_loadA tbOk hA [.int .u64 m0, .int .u64 m1, .int .u32 m2, .int .u16 m3, .int .u16 m4, .int .u64 m5, .int .u32 m6, .int .u8 m7, .int .u64 m8, .int .u64 m9, .slice A6 bs.length c7] rfl rfl rfl rfl rfl (cells_row (hS.heapAt 0 rfl) rfl)) ?_; clear hA; intro a hA
  refine wpList_nil ?_
  replace hA := hA.sel [21, 22] (e' := [(21, .chan (some c1)), (22, .agg #[.int .u64 m0, .int .u64 m1, .int .u32 m2, .int .u16 m3, .int .u16 m4, .int .u64 m5, .int .u32 m6, .int .u8 m7, .int .u64 m8, .int .u64 m9, .slice A6 bs.length c7])]) rfl
  refine xt_norm ?_
  refine wpN_seq ?_
  refine cm_region (is := [0, 1, 2]) rfl ?_
  replace hS := hS.front 3 (C := [(c1, .chan n (us.map msgV).toArray false s1 r1 false)]) (L' := [(b1, rowO [.int .u64 m0, .int .u64 m1, .int .u32 m2, .int .u16 m3, .int .u16 m4, .int .u64 m5, .int .u32 m6, .int .u8 m7, .int .u64 m8, .int .u64 m9, .slice A6 bs.length c7] 37)] :: C5 :: [(b, rowO [.chan (some c1), .chan (some c2)] 59)] :: [(c2, .chan n (ps.map msgV).toArray false s2 r2 false)] :: D :: F) rfl rfl
  refine cm_sel_send (v := msgV (m0, m1, m2, m3, m4, m5, m6, m7, m8, m9, A6, c7, bs)) tbOk hA hS rfl rfl rfl rfl rfl (by rw [size_msg]; omega) rfl rfl (by decide) ?_; clear hA hS; intro w9 a hS hA
  rw [push_msg] at hS
  refine cm_pure tbOk hA (v := .int .i64 0) rfl rfl rfl (by decide) rfl ?_; clear hA; intro a hA
  refine cm_pure tbOk hA (v := .bool true) rfl rfl rfl (by decide) rfl ?_; clear hA; intro a hA
  refine cm_end ?_
  replace hA := hA.sel [25] (e' := [(25, .bool true)]) rfl
  refine xt_norm ?_
  refine wpN_block ?_
  refine cdN_cond_t hA rfl ?_
  refine wpN_seq ?_
  refine wpN_of (wp_region_lit ?_)
  refine st_run tbOk 1 hA (e' := (6, .nilIface) :: _) rfl ?_; clear hA; intro a hA
  refine wpList_nil ?_
  replace hA := hA.sel [6] (e' := [(6, .nilIface)]) rfl
  refine xt_norm ?_
  refine wpN_ret (xb_ret ?_)
  refine ret1 (fn := Tryd.f9) hA rfl rfl ?_
  replace hS := hS.front 1 (C := [(b1, rowO [.int .u64 m0, .int .u64 m1, .int .u32 m2, .int .u16 m3, .int .u16 m4, .int .u64 m5, .int .u32 m6, .int .u8 m7, .int .u64 m8, .int .u64 m9, .slice A6 bs.length c7] 37)]) (L' := [(c1, .chan n ((us ++ [(m0, m1, m2, m3, m4, m5, m6, m7, m8, m9, A6, c7, bs)]).map msgV).toArray false (s1 + 1) r1 false)] :: C5 :: [(b, rowO [.chan (some c1), .chan (some c2)] 59)] :: [(c2, .chan n (ps.map msgV).toArray false s2 r2 false)] :: D :: F) rfl rfl
  replace hS := hS.drop1
  replace hS := hS.front 3 (C := [(c2, .chan n (ps.map msgV).toArray false s2 r2 false)]) (L' := [(c1, .chan n ((us ++ [(m0, m1, m2, m3, m4, m5, m6, m7, m8, m9, A6, c7, bs)]).map msgV).toArray false (s1 + 1) r1 false)] :: C5 :: [(b, rowO [.chan (some c1), .chan (some c2)] 59)] :: D :: F) rfl rfl
  replace hS := hS.front 1 (C := [(c1, .chan n ((us ++ [(m0, m1, m2, m3, m4, m5, m6, m7, m8, m9, A6, c7, bs)]).map msgV).toArray false (s1 + 1) r1 false)]) (L' := [(c2, .chan n (ps.map msgV).toArray false s2 r2 false)] :: C5 :: [(b, rowO [.chan (some c1), .chan (some c2)] 59)] :: D :: F) rfl rfl
  replace hS := hS.front 3 (C := [(b, rowO [.chan (some c1), .chan (some c2)] 59)]) (L' := [(c1, .chan n ((us ++ [(m0, m1, m2, m3, m4, m5, m6, m7, m8, m9, A6, c7, bs)]).map msgV).toArray false (s1 + 1) r1 false)] :: [(c2, .chan n (ps.map msgV).toArray false s2 r2 false)] :: C5 :: D :: F) rfl rfl
  replace hS := hS.front 4 (C := D) (L' := [(b, rowO [.chan (some c1), .chan (some c2)] 59)] :: [(c1, .chan n ((us ++ [(m0, m1, m2, m3, m4, m5, m6, m7, m8, m9, A6, c7, bs)]).map msgV).toArray false (s1 + 1) r1 false)] :: [(c2, .chan n (ps.map msgV).toArray false s2 r2 false)] :: C5 :: F) rfl rfl
  replace hS := hS.front 4 (C := C5) (L' := D :: [(b, rowO [.chan (some c1), .chan (some c2)] 59)] :: [(c1, .chan n ((us ++ [(m0, m1, m2, m3, m4, m5, m6, m7, m8, m9, A6, c7, bs)]).map msgV).toArray false (s1 + 1) r1 false)] :: [(c2, .chan n (ps.map msgV).toArray false s2 r2 false)] :: F) rfl rfl
  replace hS := hS.join
  replace hS := hS.front 3 (C := [(c2, .chan n (ps.map msgV).toArray false s2 r2 false)]) (L' := (C5 ++ D) :: [(b, rowO [.chan (some c1), .chan (some c2)] 59)] :: [(c1, .chan n ((us ++ [(m0, m1, m2, m3, m4, m5, m6, m7, m8, m9, A6, c7, bs)]).map msgV).toArray false (s1 + 1) r1 false)] :: F) rfl rfl
  replace hS := hS.front 3 (C := [(c1, .chan n ((us ++ [(m0, m1, m2, m3, m4, m5, m6, m7, m8, m9, A6, c7, bs)]).map msgV).toArray false (s1 + 1) r1 false)]) (L' := [(c2, .chan n (ps.map msgV).toArray false s2 r2 false)] :: (C5 ++ D) :: [(b, rowO [.chan (some c1), .chan (some c2)] 59)] :: F) rfl rfl
  replace hS := hS.front 3 (C := [(b, rowO [.chan (some c1), .chan (some c2)] 59)]) (L' := [(c1, .chan n ((us ++ [(m0, m1, m2, m3, m4, m5, m6, m7, m8, m9, A6, c7, bs)]).map msgV).toArray false (s1 + 1) r1 false)] :: [(c2, .chan n (ps.map msgV).toArray false s2 r2 false)] :: (C5 ++ D) :: F) rfl rfl
  replace hS := hS.join3
  exact ⟨_, C5, _, _, ⟨_, _, _, _, _, _, rfl⟩, DD.new hO5, rfl, hS⟩

theorem put_u_full9 {w0 w : World} {F : List Chunk} {L D : Chunk} {b n : Nat} {us ps : List Msg} (hS : St w0 w (L :: D :: F)) (hM : BX b n us ps L) (m0 m1 m2 m3 m4 m5 m6 m7 m8 m9 : Int) {d : Value} {bs : List UInt8} (hd : RdSX w0 (D :: F) 1 d bs.length (rows encB bs)) (hbl : bs.length ≤ 140737488351232) (hl : n ≤ us.length) :
    Ret Tryd.prog 9 #[.pointer (some ⟨b, 0, none⟩), .agg #[.int .u64 m0, .int .u64 m1, .int .u32 m2, .int .u16 m3, .int .u16 m4, .int .u64 m5, .int .u32 m6, .int .u8 m7, .int .u64 m8, .int .u64 m9, d], .bool true] w (fun v w' => ∃ L', BX b n us ps L' ∧ v = .iface 41 (.int .i64 5) ∧ St w0 w' (L' :: D :: F)) := by
  obtain ⟨c1, c2, s1, r1, s2, r2, rfl⟩ := hM
  replace hS : St w0 w ([(b, rowO [.chan (some c1), .chan (some c2)] 59)] :: [(c1, .chan n (us.map msgV).toArray false s1 r1 false)] :: [(c2, .chan n (ps.map msgV).toArray false s2 r2 false)] :: D :: F) := hS.split3
  obtain ⟨B, d', rfl, hmd, hdx⟩ := (hd _ (hS.tail 3 rfl)).open'
  refine enterN (vs := [.pointer (some ⟨b, 0, none⟩), .agg #[.int .u64 m0, .int .u64 m1, .int .u32 m2, .int .u16 m3, .int .u16 m4, .int .u64 m5, .int .u32 m6, .int .u8 m7, .int .u64 m8, .int .u64 m9, .slice B bs.length d'], .bool true]) 27 Tryd.func9 rfl rfl (by simp) ?_; intro a hA
  refine wpN_seq ?_
  refine wpN_of (wp_region_lit ?_)
  refine st_box hA hS [.int .u64 m0, .int .u64 m1, .int .u32 m2, .int .u16 m3, .int .u16 m4, .int .u64 m5, .int .u32 m6, .int .u8 m7, .int .u64 m8, .int .u64 m9, .slice B bs.length d'] rfl rfl rfl rfl rfl (by decide) ?_; clear hA hS; intro b1 w2 a hS hA
  refine st_run tbOk 1 hA (e' := (6, .nilIface) :: _) rfl ?_; clear hA; intro a hA
  refine wpList_nil ?_
  replace hA := hA.sel [0, 2, 4] (e' := [(0, .pointer (some ⟨b, 0, none⟩)), (2, .bool true), (4, .pointer (some ⟨b1, 0, none⟩))]) rfl
  refine xt_norm ?_
  refine wpN_seq ?_
  refine wpN_of (wp_region_lit ?_)
  refine st_run tbOk 1 hA (e' := (8, .pointer (some ⟨b1, 10, none⟩)) :: _) rfl ?_; clear hA; intro a hA
  refine st_val hA rfl rfl (by decide) (rn_load tbOk hA rfl rfl rfl rfl (cell_row (hS.heapAt 0 rfl) rfl)) ?_; clear hA; intro a hA
  replace hS := hS.nil
  refine st_append tbOk hA (m := 0) (q := bs.length) (xs := rows encB ([] : List UInt8)) (news := rows encB bs) rfl rfl rfl rfl rfl rfl rfl rfl (by decide) (Own.nil 5 1) hS ((hd _ (hS.tail 5 rfl))) (rows_one encB_ok _) (maxLen_le (by omega)) (by show (0 + bs.length) * 1 ≤ 140737488355328; omega) rfl rfl (by decide) ?_
  clear hA hS; intro v3 w4 C5 a hO5 hS hA
  replace hO5 := Own.app (l := ([] : List UInt8)) (l2 := bs) hO5
  replace hO5 : Own 5 1 v3 bs.length (rows encB bs) C5 := hO5
  obtain ⟨A6, c7, rfl, hmc7, hxc7⟩ := hO5.open'
  refine st_run tbOk 1 hA (e' := (11, .pointer (some ⟨b1, 10, none⟩)) :: _) rfl ?_; clear hA; intro a hA
  replace hS := hS.front 1 (C := [(b1, rowO [.int .u64 m0, .int .u64 m1, .int .u32 m2, .int .u16 m3, .int .u16 m4, .int .u64 m5, .int .u32 m6, .int .u8 m7, .int .u64 m8, .int .u64 m9, .slice B bs.length d'] 37)]) (L' := C5 :: [(b, rowO [.chan (some c1), .chan (some c2)] 59)] :: [(c1, .chan n (us.map msgV).toArray false s1 r1 false)] :: [(c2, .chan n (ps.map msgV).toArray false s2 r2 false)] :: D :: F) rfl rfl
  refine st_store tbOk hA hS [.slice A6 bs.length c7] [.int .u64 m0, .int .u64 m1, .int .u32 m2, .int .u16 m3, .int .u16 m4, .int .u64 m5, .int .u32 m6, .int .u8 m7, .int .u64 m8, .int .u64 m9, .slice A6 bs.length c7] rfl rfl rfl rfl rfl rfl (by intro u hu; rw [List.mem_singleton.1 hu]; rfl) (Nat.le_of_ble_eq_true rfl) rfl rfl rfl ?_; clear hS; intro w8 hS
  refine wpList_nil ?_
  replace hA := hA.sel [0, 2, 4] (e' := [(0, .pointer (some ⟨b, 0, none⟩)), (2, .bool true), (4, .pointer (some ⟨b1, 0, none⟩))]) rfl
  refine xt_norm ?_
  refine wpN_seq ?_
  refine wpN_of (wp_region_lit ?_)
  refine st_run tbOk 3 hA (e' := (14, .pointer (some ⟨b, 1, none⟩)) :: (13, .pointer (some ⟨b, 0, none⟩)) :: (12, .pointer (some ⟨b, 0, none⟩)) :: _) rfl ?_; clear hA; intro a hA
  refine st_val hA rfl rfl (by decide) (rn_load tbOk hA rfl rfl rfl rfl (cell_row (hS.heapAt 2 rfl) rfl)) ?_; clear hA; intro a hA
  refine st_run tbOk 1 hA (e' := (7, .chan (some c2)) :: _) rfl ?_; clear hA; intro a hA
  refine wpList_nil ?_
  replace hA := hA.sel [0, 2, 4, 7] (e' := [(0, .pointer (some ⟨b, 0, none⟩)), (2, .bool true), (4, .pointer (some ⟨b1, 0, none⟩)), (7, .chan (some c2))]) rfl
  refine xt_norm ?_
  refine wpN_seq ?_
  refine wpN_seq ?_
  refine wpN_of (wp_region_lit ?_)
  refine st_run tbOk 1 hA (e' := (16, .bool true) :: _) rfl ?_; clear hA; intro a hA
  refine wpList_nil ?_
  replace hA := hA.sel [0, 4, 7, 16] (e' := [(0, .pointer (some ⟨b, 0, none⟩)), (4, .pointer (some ⟨b1, 0, none⟩)), (7, .chan (some c2)), (16, .bool true)]) rfl
  refine xt_norm ?_
  refine cdN_cond_t hA rfl ?_
  refine wpN_of (wp_region_lit ?_)
  refine st_run tbOk 3 hA (e' := (19, .pointer (some ⟨b, 0, none⟩)) :: (18, .pointer (some ⟨b, 0, none⟩)) :: (17, .pointer (some ⟨b, 0, none⟩)) :: _) rfl ?_; clear hA; intro a hA
  refine st_val hA rfl rfl (by decide) (rn_load tbOk hA rfl rfl rfl rfl (cell_row (hS.heapAt 2 rfl) rfl)) ?_; clear hA; intro a hA
  refine st_run tbOk 1 hA (e' := (7, .chan (some c1)) :: _) rfl ?_; clear hA; intro a hA
  refine wpList_nil ?_
  replace hA := hA.sel [4, 7] (e' := [(4, .pointer (some ⟨b1, 0, none⟩)), (7, .chan (some c1))]) rfl
  refine xt_norm ?_
  refine wpN_seq ?_
  refine wpN_seq ?_
  refine wpN_of (wp_region_lit ?_)
  refine st_run tbOk 1 hA (e' := (21, .chan (some c1)) :: _) rfl ?_; clear hA; intro a hA
  refine wpList_nil ?_
  replace hA := hA.sel [4, 21] (e' := [(4, .pointer (some ⟨b1, 0, none⟩)), (21, .chan (some c1))]) rfl
  refine xt_norm ?_
  refine wpN_of (wp_region_lit ?_)
  refine st_val hA rfl rfl (by decide) (rn_loadA tbOk hA [.int .u64 m0, .int .u64 m1, .int .u32 m2, .int .u16 m3, .int .u16 m4, .int .u64 m5, .int .u32 m6, .int .u8 m7, .int .u64 m8, .int .u64 m9, .slice A6 bs.length c7] rfl rfl rfl rfl rfl (cells_row (hS.heapAt 0 rfl) rfl)) ?_; clear hA; intro a hA
  refine wpList_nil ?_
  replace hA := hA.sel [21, 22] (e' := [(21, .chan (some c1)), (22, .agg #[.int .u64 m0, .int .u64 m1, .int .u32 m2, .int .u16 m3, .int .u16 m4, .int .u64 m5, .int .u32 m6, .int .u8 m7, .int .u64 m8, .int .u64 m9, .slice A6 bs.length c7])]) rfl
  refine xt_norm ?_
  refine wpN_seq ?_
  refine cm_region (is := [0, 1, 2]) rfl ?_
  replace hS := hS.front 3 (C := [(c1, .chan n (us.map msgV).toArray false s1 r1 false)]) (L' := [(b1, rowO [.int .u64 m0, .int .u64 m1, .int .u32 m2, .int .u16 m3, .int .u16 m4, .int .u64 m5, .int .u32 m6, .int .u8 m7, .int .u64 m8, .int .u64 m9, .slice A6 bs.length c7] 37)] :: C5 :: [(b, rowO [.chan (some c1), .chan (some c2)] 59)] :: [(c2, .chan n (ps.map msgV).toArray false s2 r2 false)] :: D :: F) rfl rfl
  refine cm_sel_full (v := msgV (m0, m1, m2, m3, m4, m5, m6, m7, m8, m9, A6, c7, bs)) tbOk hA hS rfl rfl rfl rfl rfl (by rw [size_msg]; omega) rfl rfl (by decide) ?_; clear hA; intro a hA
  refine cm_pure tbOk hA (v := .int .i64 (-1)) rfl rfl rfl (by decide) rfl ?_; clear hA; intro a hA
  refine cm_pure tbOk hA (v := .bool false) rfl rfl rfl (by decide) rfl ?_; clear hA; intro a hA
  refine cm_end ?_
  replace hA := hA.sel [25] (e' := [(25, .bool false)]) rfl
  refine xt_norm ?_
  refine wpN_block ?_
  refine cdN_cond_f hA rfl ?_
  refine wpN_seq ?_
  refine wpN_of (wp_region_lit ?_)
  refine st_run tbOk 2 hA (e' := (6, .iface 41 (.int .i64 5)) :: (26, .iface 41 (.int .i64 5)) :: _) rfl ?_; clear hA; intro a hA
  refine wpList_nil ?_
  replace hA := hA.sel [6] (e' := [(6, .iface 41 (.int .i64 5))]) rfl
  refine xt_norm ?_
  refine wpN_ret (xb_ret ?_)
  refine ret1 (fn := Tryd.f9) hA rfl rfl ?_
  replace hS := hS.front 1 (C := [(b1, rowO [.int .u64 m0, .int .u64 m1, .int .u32 m2, .int .u16 m3, .int .u16 m4, .int .u64 m5, .int .u32 m6, .int .u8 m7, .int .u64 m8, .int .u64 m9, .slice A6 bs.length c7] 37)]) (L' := [(c1, .chan n (us.map msgV).toArray false s1 r1 false)] :: C5 :: [(b, rowO [.chan (some c1), .chan (some c2)] 59)] :: [(c2, .chan n (ps.map msgV).toArray false s2 r2 false)] :: D :: F) rfl rfl
  replace hS := hS.drop1
  replace hS := hS.front 1 (C := C5) (L' := [(c1, .chan n (us.map msgV).toArray false s1 r1 false)] :: [(b, rowO [.chan (some c1), .chan (some c2)] 59)] :: [(c2, .chan n (ps.map msgV).toArray false s2 r2 false)] :: D :: F) rfl rfl
  replace hS := hS.drop1
  replace hS := hS.front 2 (C := [(c2, .chan n (ps.map msgV).toArray false s2 r2 false)]) (L' := [(c1, .chan n (us.map msgV).toArray false s1 r1 false)] :: [(b, rowO [.chan (some c1), .chan (some c2)] 59)] :: D :: F) rfl rfl
  replace hS := hS.front 1 (C := [(c1, .chan n (us.map msgV).toArray false s1 r1 false)]) (L' := [(c2, .chan n (ps.map msgV).toArray false s2 r2 false)] :: [(b, rowO [.chan (some c1), .chan (some c2)] 59)] :: D :: F) rfl rfl
  replace hS := hS.front 2 (C := [(b, rowO [.chan (some c1), .chan (some c2)] 59)]) (L' := [(c1, .chan n (us.map msgV).toArray false s1 r1 false)] :: [(c2, .chan n (ps.map msgV).toArray false s2 r2 false)] :: D :: F) rfl rfl
  replace hS := hS.front 3 (C := D) (L' := [(b, rowO [.chan (some c1), .chan (some c2)] 59)] :: [(c1, .chan n (us.map msgV).toArray false s1 r1 false)] :: [(c2, .chan n (ps.map msgV).toArray false s2 r2 false)] :: F) rfl rfl
  replace hS := hS.front 3 (C := [(c2, .chan n (ps.map msgV).toArray false s2 r2 false)]) (L' := D :: [(b, rowO [.chan (some c1), .chan (some c2)] 59)] :: [(c1, .chan n (us.map msgV).toArray false s1 r1 false)] :: F) rfl rfl
  replace hS := hS.front 3 (C := [(c1, .chan n (us.map msgV).toArray false s1 r1 false)]) (L' := [(c2, .chan n (ps.map msgV).toArray false s2 r2 false)] :: D :: [(b, rowO [.chan (some c1), .chan (some c2)] 59)] :: F) rfl rfl
  replace hS := hS.front 3 (C := [(b, rowO [.chan (some c1), .chan (some c2)] 59)]) (L' := [(c1, .chan n (us.map msgV).toArray false s1 r1 false)] :: [(c2, .chan n (ps.map msgV).toArray false s2 r2 false)] :: D :: F) rfl rfl
  replace hS := hS.join3
  exact ⟨_, ⟨_, _, _, _, _, _, rfl⟩, rfl, hS⟩

theorem put_p_room9 {w0 w : World} {F : List Chunk} {L D : Chunk} {b n : Nat} {us ps : List Msg} (hS : St w0 w (L :: D :: F)) (hM : BX b n us ps L) (m0 m1 m2 m3 m4 m5 m6 m7 m8 m9 : Int) {d : Value} {bs : List UInt8} (hd : RdSX w0 (D :: F) 1 d bs.length (rows encB bs)) (hbl : bs.length ≤ 140737488351232) (hl : ps.length < n) :
    Ret Tryd.prog 9 #[.pointer (some ⟨b, 0, none⟩), .agg #[.int .u64 m0, .int .u64 m1, .int .u32 m2, .int .u16 m3, .int .u16 m4, .int .u64 m5, .int .u32 m6, .int .u8 m7, .int .u64 m8, .int .u64 m9, d], .bool false] w (fun v w' => ∃ L' E A c, BX b n (us) (ps ++ [(m0, m1, m2, m3, m4, m5, m6, m7, m8, m9, A, c, bs)]) L' ∧ DD w0 E A c bs ∧ v = .nilIface ∧ St w0 w' (L' :: (E ++ D) :: F)) := by
  obtain ⟨c1, c2, s1, r1, s2, r2, rfl⟩ := hM
  replace hS : St w0 w ([(b, rowO [.chan (some c1), .chan (some c2)] 59)] :: [(c1, .chan n (us.map msgV).toArray false s1 r1 false)] :: [(c2, .chan n (ps.map msgV).toArray false s2 r2 false)] :: D :: F) := hS.split3
  obtain ⟨B, d', rfl, hmd, hdx⟩ := (hd _ (hS.tail 3 rfl)).open'
  refine enterN (vs := [.pointer (some ⟨b, 0, none⟩), .agg #[.int .u64 m0, .int .u64 m1, .int .u32 m2, .int .u16 m3, .int .u16 m4, .int .u64 m5, .int .u32 m6, .int .u8 m7, .int .u64 m8, .int .u64 m9, .slice B bs.length d'], .bool false]) 27 Tryd.func9 rfl rfl (by simp) ?_; intro a hA
  refine wpN_seq ?_
  refine wpN_of (wp_region_lit ?_)
  refine st_box hA hS [.int .u64 m0, .int .u64 m1, .int .u32 m2, .int .u16 m3, .int .u16 m4, .int .u64 m5, .int .u32 m6, .int .u8 m7, .int .u64 m8, .int .u64 m9, .slice B bs.length d'] rfl rfl rfl rfl rfl (by decide) ?_; clear hA hS; intro b1 w2 a hS hA
  refine st_run tbOk 1 hA (e' := (6, .nilIface) :: _) rfl ?_; clear hA; intro a hA
  refine wpList_nil ?_
  replace hA := hA.sel [0, 2, 4] (e' := [(0, .pointer (some ⟨b, 0, none⟩)), (2, .bool false), (4, .pointer (some ⟨b1, 0, none⟩))]) rfl
  refine xt_norm ?_
  refine wpN_seq ?_
  refine wpN_of (wp_region_lit ?_)
  refine st_run tbOk 1 hA (e' := (8, .pointer (some ⟨b1, 10, none⟩)) :: _) rfl ?_; clear hA; intro a hA
  refine st_val hA rfl rfl (by decide) (rn_load tbOk hA rfl rfl rfl rfl (cell_row (hS.heapAt 0 rfl) rfl)) ?_; clear hA; intro a hA
  replace hS := hS.nil
  refine st_append tbOk hA (m := 0) (q := bs.length) (xs := rows encB ([] : List UInt8)) (news := rows encB bs) rfl rfl rfl rfl rfl rfl rfl rfl (by decide) (Own.nil 5 1) hS ((hd _ (hS.tail 5 rfl))) (rows_one encB_ok _) (maxLen_le (by omega)) (by show (0 + bs.length) * 1 ≤ 140737488355328; omega) rfl rfl (by decide) ?_
  clear hA hS; intro v3 w4 C5 a hO5 hS hA
  replace hO5 := Own.app (l := ([] : List UInt8)) (l2 := bs) hO5
  replace hO5 : Own 5 1 v3 bs.length (rows encB bs) C5 := hO5
  obtain ⟨A6, c7, rfl, hmc7, hxc7⟩ := hO5.open'
  refine st_run tbOk 1 hA (e' := (11, .pointer (some ⟨b1, 10, none⟩)) :: _) rfl ?_; clear hA; intro a hA
  replace hS := hS.front 1 (C := [(b1, rowO [.int .u64 m0, .int .u64 m1, .int .u32 m2, .int .u16 m3, .int .u16 m4, .int .u64 m5, .int .u32 m6, .int .u8 m7, .int .u64 m8, .int .u64 m9, .slice B bs.length d'] 37)]) (L' := C5 :: [(b, rowO [.chan (some c1), .chan (some c2)] 59)] :: [(c1, .chan n (us.map msgV).toArray false s1 r1 false)] :: [(c2, .chan n (ps.map msgV).toArray false s2 r2 false)] :: D :: F) rfl rfl
  refine st_store tbOk hA hS [.slice A6 bs.length c7] [.int .u64 m0, .int .u64 m1, .int .u32 m2, .int .u16 m3, .int .u16 m4, .int .u64 m5, .int .u32 m6, .int .u8 m7, .int .u64 m8, .int .u64 m9, .slice A6 bs.length c7] rfl rfl rfl rfl rfl rfl (by intro u hu; rw [List.mem_singleton.1 hu]; rfl) (Nat.le_of_ble_eq_true rfl) rfl rfl rfl ?_; clear hS; intro w8 hS
  refine wpList_nil ?_
  replace hA := hA.sel [0, 2, 4] (e' := [(0, .pointer (some ⟨b, 0, none⟩)), (2, .bool false), (4, .pointer (some ⟨b1, 0, none⟩))]) rfl
  refine xt_norm ?_
  refine wpN_seq ?_
  refine wpN_of (wp_region_lit ?_)
  refine st_run tbOk 3 hA (e' := (14, .pointer (some ⟨b, 1, none⟩)) :: (13, .pointer (some ⟨b, 0, none⟩)) :: (12, .pointer (some ⟨b, 0, none⟩)) :: _) rfl ?_; clear hA; intro a hA
  refine st_val hA rfl rfl (by decide) (rn_load tbOk hA rfl rfl rfl rfl (cell_row (hS.heapAt 2 rfl) rfl)) ?_; clear hA; intro a hA
  refine st_run tbOk 1 hA (e' := (7, .chan (some c2)) :: _) rfl ?_; clear hA; intro a hA
  refine wpList_nil ?_
  replace hA := hA.sel [0, 2, 4, 7] (e' := [(0, .pointer (some ⟨b, 0, none⟩)), (2, .bool false), (4, .pointer (some ⟨b1, 0, none⟩)), (7, .chan (some c2))]) rfl
  refine xt_norm ?_
  refine wpN_seq ?_
  refine wpN_seq ?_
  refine wpN_of (wp_region_lit ?_)
  refine st_run tbOk 1 hA (e' := (16, .bool false) :: _) rfl ?_; clear hA; intro a hA
  refine wpList_nil ?_
  replace hA := hA.sel [0, 4, 7, 16] (e' := [(0, .pointer (some ⟨b, 0, none⟩)), (4, .pointer (some ⟨b1, 0, none⟩)), (7, .chan (some c2)), (16, .bool false)]) rfl
  refine xt_norm ?_
  refine cdN_cond_f hA rfl ?_
  refine wpN_skip ?_
  refine xt_norm ?_
  refine wpN_seq ?_
  refine wpN_seq ?_
  refine wpN_of (wp_region_lit ?_)
  refine st_run tbOk 1 hA (e' := (21, .chan (some c2)) :: _) rfl ?_; clear hA; intro a hA
  refine wpList_nil ?_
  replace hA := hA.sel [4, 21] (e' := [(4, .pointer (some ⟨b1, 0, none⟩)), (21, .chan (some c2))]) rfl
  refine xt_norm ?_
  refine wpN_of (wp_region_lit ?_)
  refine st_val hA rfl rfl (by decide) (rn_loadA tbOk hA [.int .u64 m0, .int .u64 m1, .int .u32 m2, .int .u16 m3, .int .u16 m4, .int .u64 m5, .int .u32 m6, .int .u8 m7, .int .u64 m8, .int .u64 m9, .slice A6 bs.length c7] rfl rfl rfl rfl rfl (cells_row (hS.heapAt 0 rfl) rfl)) ?_; clear hA; intro a hA
  refine wpList_nil ?_
  replace hA := hA.sel [21, 22] (e' := [(21, .chan (some c2)), (22, .agg #[.int .u64 m0, .int .u64 m1, .int .u32 m2, .int .u16 m3, .int .u16 m4, .int .u64 m5, .int .u32 m6, .int .u8 m7, .int .u64 m8, .int .u64 m9, .slice A6 bs.length c7])]) rfl
  refine xt_norm ?_
  refine wpN_seq ?_
  refine cm_region (is := [0, 1, 2]) rfl ?_
  replace hS := hS.front 4 (C := [(c2, .chan n (ps.map msgV).toArray false s2 r2 false)]) (L' := [(b1, rowO [.int .u64 m0, .int .u64 m1, .int .u32 m2, .int .u16 m3, .int .u16 m4, .int .u64 m5, .int .u32 m6, .int .u8 m7, .int .u64 m8, .int .u64 m9, .slice A6 bs.length c7] 37)] :: C5 :: [(b, rowO [.chan (some c1), .chan (some c2)] 59)] :: [(c1, .chan n (us.map msgV).toArray false s1 r1 false)] :: D :: F) rfl rfl
  refine cm_sel_send (v := msgV (m0, m1, m2, m3, m4, m5, m6, m7, m8, m9, A6, c7, bs)) tbOk hA hS rfl rfl rfl rfl rfl (by rw [size_msg]; omega) rfl rfl (by decide) ?_; clear hA hS; intro w9 a hS hA
  rw [push_msg] at hS
  refine cm_pure tbOk hA (v := .int .i64 0) rfl rfl rfl (by decide) rfl ?_; clear hA; intro a hA
  refine cm_pure tbOk hA (v := .bool true) rfl rfl rfl (by decide) rfl ?_; clear hA; intro a hA
  refine cm_end ?_
  replace hA := hA.sel [25] (e' := [(25, .bool true)]) rfl
  refine xt_norm ?_
  refine wpN_block ?_
  refine cdN_cond_t hA rfl ?_
  refine wpN_seq ?_
  refine wpN_of (wp_region_lit ?_)
  refine st_run tbOk 1 hA (e' := (6, .nilIface) :: _) rfl ?_; clear hA; intro a hA
  refine wpList_nil ?_
  replace hA := hA.sel [6] (e' := [(6, .nilIface)]) rfl
  refine xt_norm ?_
  refine wpN_ret (xb_ret ?_)
  refine ret1 (fn := Tryd.f9) hA rfl rfl ?_
  replace hS := hS.front 1 (C := [(b1, rowO [.int .u64 m0, .int .u64 m1, .int .u32 m2, .int .u16 m3, .int .u16 m4, .int .u64 m5, .int .u32 m6, .int .u8 m7, .int .u64 m8, .int .u64 m9, .slice A6 bs.length c7] 37)]) (L' := [(c2, .chan n ((ps ++ [(m0, m1, m2, m3, m4, m5, m6, m7, m8, m9, A6, c7, bs)]).map msgV).toArray false (s2 + 1) r2 false)] :: C5 :: [(b, rowO [.chan (some c1), .chan (some c2)] 59)] :: [(c1, .chan n (us.map msgV).toArray false s1 r1 false)] :: D :: F) rfl rfl
  replace hS := hS.drop1
  replace hS := hS.front 3 (C := [(c1, .chan n (us.map msgV).toArray false s1 r1 false)]) (L' := [(c2, .chan n ((ps ++ [(m0, m1, m2, m3, m4, m5, m6, m7, m8, m9, A6, c7, bs)]).map msgV).toArray false (s2 + 1) r2 false)] :: C5 :: [(b, rowO [.chan (some c1), .chan (some c2)] 59)] :: D :: F) rfl rfl
  replace hS := hS.front 3 (C := [(b, rowO [.chan (some c1), .chan (some c2)] 59)]) (L' := [(c1, .chan n (us.map msgV).toArray false s1 r1 false)] :: [(c2, .chan n ((ps ++ [(m0, m1, m2, m3, m4, m5, m6, m7, m8, m9, A6, c7, bs)]).map msgV).toArray false (s2 + 1) r2 false)] :: C5 :: D :: F) rfl rfl
  replace hS := hS.front 4 (C := D) (L' := [(b, rowO [.chan (some c1), .chan (some c2)] 59)] :: [(c1, .chan n (us.map msgV).toArray false s1 r1 false)] :: [(c2, .chan n ((ps ++ [(m0, m1, m2, m3, m4, m5, m6, m7, m8, m9, A6, c7, bs)]).map msgV).toArray false (s2 + 1) r2 false)] :: C5 :: F) rfl rfl
  replace hS := hS.front 4 (C := C5) (L' := D :: [(b, rowO [.chan (some c1), .chan (some c2)] 59)] :: [(c1, .chan n (us.map msgV).toArray false s1 r1 false)] :: [(c2, .chan n ((ps ++ [(m0, m1, m2, m3, m4, m5, m6, m7, m8, m9, A6, c7, bs)]).map msgV).toArray false (s2 + 1) r2 false)] :: F) rfl rfl
  replace hS := hS.join
  replace hS := hS.front 3 (C := [(c2, .chan n ((ps ++ [(m0, m1, m2, m3, m4, m5, m6, m7, m8, m9, A6, c7, bs)]).map msgV).toArray false (s2 + 1) r2 false)]) (L' := (C5 ++ D) :: [(b, rowO [.chan (some c1), .chan (some c2)] 59)] :: [(c1, .chan n (us.map msgV).toArray false s1 r1 false)] :: F) rfl rfl
  replace hS := hS.front 3 (C := [(c1, .chan n (us.map msgV).toArray false s1 r1 false)]) (L' := [(c2, .chan n ((ps ++ [(m0, m1, m2, m3, m4, m5, m6, m7, m8, m9, A6, c7, bs)]).map msgV).toArray false (s2 + 1) r2 false)] :: (C5 ++ D) :: [(b, rowO [.chan (some c1), .chan (some c2)] 59)] :: F) rfl rfl
  replace hS := hS.front 3 (C := [(b, rowO [.chan (some c1), .chan (some c2)] 59)]) (L' := [(c1, .chan n (us.map msgV).toArray false s1 r1 false)] :: [(c2, .chan n ((ps ++ [(m0, m1, m2, m3, m4, m5, m6, m7, m8, m9, A6, c7, bs)]).map msgV).toArray false (s2 + 1) r2 false)] :: (C5 ++ D) :: F) rfl rfl
  replace hS := hS.join3
  exact ⟨_, C5, _, _, ⟨_, _, _, _, _, _, rfl⟩, DD.new hO5, rfl, hS⟩

theorem put_p_full9 {w0 w : World} {F : List Chunk} {L D : Chunk} {b n : Nat} {us ps : List Msg} (hS : St w0 w (L :: D :: F)) (hM : BX b n us ps L) (m0 m1 m2 m3 m4 m5 m6 m7 m8 m9 : Int) {d : Value} {bs : List UInt8} (hd : RdSX w0 (D :: F) 1 d bs.length (rows encB bs)) (hbl : bs.length ≤ 140737488351232) (hl : n ≤ ps.length) :
    Ret Tryd.prog 9 #[.pointer (some ⟨b, 0, none⟩), .agg #[.int .u64 m0, .int .u64 m1, .int .u32 m2, .int .u16 m3, .int .u16 m4, .int .u64 m5, .int .u32 m6, .int .u8 m7, .int .u64 m8, .int .u64 m9, d], .bool false] w (fun v w' => ∃ L', BX b n us ps L' ∧ v = .iface 41 (.int .i64 5) ∧ St w0 w' (L' :: D :: F)) := by
  obtain ⟨c1, c2, s1, r1, s2, r2, rfl⟩ := hM
  replace hS : St w0 w ([(b, rowO [.chan (some c1), .chan (some c2)] 59)] :: [(c1, .chan n (us.map msgV).toArray false s1 r1 false)] :: [(c2, .chan n (ps.map msgV).toArray false s2 r2 false)] :: D :: F) := hS.split3
  obtain ⟨B, d', rfl, hmd, hdx⟩ := (hd _ (hS.tail 3 rfl)).open'
  refine enterN (vs := [.pointer (some ⟨b, 0, none⟩), .agg #[.int .u64 m0, .int .u64 m1, .int .u32 m2, .int .u16 m3, .int .u16 m4, .int .u64 m5, .int .u32 m6, .int .u8 m7, .int .u64 m8, .int .u64 m9, .slice B bs.length d'], .bool false]) 27 Tryd.func9 rfl rfl (by simp) ?_; intro a hA
  refine wpN_seq ?_
  refine wpN_of (wp_region_lit ?_)
  refine st_box hA hS [.int .u64 m0, .int .u64 m1, .int .u32 m2, .int .u16 m3, .int .u16 m4, .int .u64 m5, .int .u32 m6, .int .u8 m7, .int .u64 m8, .int .u64 m9, .slice B bs.length d'] rfl rfl rfl rfl rfl (by decide) ?_; clear hA hS; intro b1 w2 a hS hA
  refine st_run tbOk 1 hA (e' := (6, .nilIface) :: _) rfl ?_; clear hA; intro a hA
  refine wpList_nil ?_
  replace hA := hA.sel [0, 2, 4] (e' := [(0, .pointer (some ⟨b, 0, none⟩)), (2, .bool false), (4, .pointer (some ⟨b1, 0, none⟩))]) rfl
  refine xt_norm ?_
  refine wpN_seq ?_
  refine wpN_of (wp_region_lit ?_)
  refine st_run tbOk 1 hA (e' := (8, .pointer (some ⟨b1, 10, none⟩)) :: _) rfl ?_; clear hA; intro a hA
  refine st_val hA rfl rfl (by decide) (rn_load tbOk hA rfl rfl rfl rfl (cell_row (hS.heapAt 0 rfl) rfl)) ?_; clear hA; intro a hA
  replace hS := hS.nil
  refine st_append tbOk hA (m := 0) (q := bs.length) (xs := rows encB ([] : List UInt8)) (news := rows encB bs) rfl rfl rfl rfl rfl rfl rfl rfl (by decide) (Own.nil 5 1) hS ((hd _ (hS.tail 5 rfl))) (rows_one encB_ok _) (maxLen_le (by omega)) (by show (0 + bs.length) * 1 ≤ 140737488355328; omega) rfl rfl (by decide) ?_
  clear hA hS; intro v3 w4 C5 a hO5 hS hA
  replace hO5 := Own.app (l := ([] : List UInt8)) (l2 := bs) hO5
  replace hO5 : Own 5 1 v3 bs.length (rows encB bs) C5 := hO5
  obtain ⟨A6, c7, rfl, hmc7, hxc7⟩ := hO5.open'
  refine st_run tbOk 1 hA (e' := (11, .pointer (some ⟨b1, 10, none⟩)) :: _) rfl ?_; clear hA; intro a hA
  replace hS := hS.front 1 (C := [(b1, rowO [.int .u64 m0, .int .u64 m1, .int .u32 m2, .int .u16 m3, .int .u16 m4, .int .u64 m5, .int .u32 m6, .int .u8 m7, .int .u64 m8, .int .u64 m9, .slice B bs.length d'] 37)]) (L' := C5 :: [(b, rowO [.chan (some c1), .chan (some c2)] 59)] :: [(c1, .chan n (us.map msgV).toArray false s1 r1 false)] :: [(c2, .chan n (ps.map msgV).toArray false s2 r2 false)] :: D :: F) rfl rfl
  refine st_store tbOk hA hS [.slice A6 bs.length c7] [.int .u64 m0, .int .u64 m1, .int .u32 m2, .int .u16 m3, .int .u16 m4, .int .u64 m5, .int .u32 m6, .int .u8 m7, .int .u64 m8, .int .u64 m9, .slice A6 bs.length c7] rfl rfl rfl rfl rfl rfl (by intro u hu; rw [List.mem_singleton.1 hu]; rfl) (Nat.le_of_ble_eq_true rfl) rfl rfl rfl ?_; clear hS; intro w8 hS
  refine wpList_nil ?_
  replace hA := hA.sel [0, 2, 4] (e' := [(0, .pointer (some ⟨b, 0, none⟩)), (2, .bool false), (4, .pointer (some ⟨b1, 0, none⟩))]) rfl
  refine xt_norm ?_
  refine wpN_seq ?_
  refine wpN_of (wp_region_lit ?_)
  refine st_run tbOk 3 hA (e' := (14, .pointer (some ⟨b, 1, none⟩)) :: (13, .pointer (some ⟨b, 0, none⟩)) :: (12, .pointer (some ⟨b, 0, none⟩)) :: _) rfl ?_; clear hA; intro a hA
  refine st_val hA rfl rfl (by decide) (rn_load tbOk hA rfl rfl rfl rfl (cell_row (hS.heapAt 2 rfl) rfl)) ?_; clear hA; intro a hA
  refine st_run tbOk 1 hA (e' := (7, .chan (some c2)) :: _) rfl ?_; clear hA; intro a hA
  refine wpList_nil ?_
  replace hA := hA.sel [0, 2, 4, 7] (e' := [(0, .pointer (some ⟨b, 0, none⟩)), (2, .bool false), (4, .pointer (some ⟨b1, 0, none⟩)), (7, .chan (some c2))]) rfl
  refine xt_norm ?_
  refine wpN_seq ?_
  refine wpN_seq ?_
  refine wpN_of (wp_region_lit ?_)
  refine st_run tbOk 1 hA (e' := (16, .bool false) :: _) rfl ?_; clear hA; intro a hA
  refine wpList_nil ?_
  replace hA := hA.sel [0, 4, 7, 16] (e' := [(0, .pointer (some ⟨b, 0, none⟩)), (4, .pointer (some ⟨b1, 0, none⟩)), (7, .chan (some c2)), (16, .bool false)]) rfl
  refine xt_norm ?_
  refine cdN_cond_f hA rfl ?_
  refine wpN_skip ?_
  refine xt_norm ?_
  refine wpN_seq ?_
  refine wpN_seq ?_
  refine wpN_of (wp_region_lit ?_)
  refine st_run tbOk 1 hA (e' := (21, .chan (some c2)) :: _) rfl ?_; clear hA; intro a hA
  refine wpList_nil ?_
  replace hA := hA.sel [4, 21] (e' := [(4, .pointer (some ⟨b1, 0, none⟩)), (21, .chan (some c2))]) rfl
  refine xt_norm ?_
  refine wpN_of (wp_region_lit ?_)
  refine st_val hA rfl rfl (by decide) (rn_loadA tbOk hA [.int .u64 m0, .int .u64 m1, .int .u32 m2, .int .u16 m3, .int .u16 m4, .int .u64 m5, .int .u32 m6, .int .u8 m7, .int .u64 m8, .int .u64 m9, .slice A6 bs.length c7] rfl rfl rfl rfl rfl (cells_row (hS.heapAt 0 rfl) rfl)) ?_; clear hA; intro a hA
  refine wpList_nil ?_
  replace hA := hA.sel [21, 22] (e' := [(21, .chan (some c2)), (22, .agg #[.int .u64 m0, .int .u64 m1, .int .u32 m2, .int .u16 m3, .int .u16 m4, .int .u64 m5, .int .u32 m6, .int .u8 m7, .int .u64 m8, .int .u64 m9, .slice A6 bs.length c7])]) rfl
  refine xt_norm ?_
  refine wpN_seq ?_
  refine cm_region (is := [0, 1, 2]) rfl ?_
  replace hS := hS.front 4 (C := [(c2, .chan n (ps.map msgV).toArray false s2 r2 false)]) (L' := [(b1, rowO [.int .u64 m0, .int .u64 m1, .int .u32 m2, .int .u16 m3, .int .u16 m4, .int .u64 m5, .int .u32 m6, .int .u8 m7, .int .u64 m8, .int .u64 m9, .slice A6 bs.length c7] 37)] :: C5 :: [(b, rowO [.chan (some c1), .chan (some c2)] 59)] :: [(c1, .chan n (us.map msgV).toArray false s1 r1 false)] :: D :: F) rfl rfl
  refine cm_sel_full (v := msgV (m0, m1, m2, m3, m4, m5, m6, m7, m8, m9, A6, c7, bs)) tbOk hA hS rfl rfl rfl rfl rfl (by rw [size_msg]; omega) rfl rfl (by decide) ?_; clear hA; intro a hA
  refine cm_pure tbOk hA (v := .int .i64 (-1)) rfl rfl rfl (by decide) rfl ?_; clear hA; intro a hA
  refine cm_pure tbOk hA (v := .bool false) rfl rfl rfl (by decide) rfl ?_; clear hA; intro a hA
  refine cm_end ?_
  replace hA := hA.sel [25] (e' := [(25, .bool false)]) rfl
  refine xt_norm ?_
  refine wpN_block ?_
  refine cdN_cond_f hA rfl ?_
  refine wpN_seq ?_
  refine wpN_of (wp_region_lit ?_)
  refine st_run tbOk 2 hA (e' := (6, .iface 41 (.int .i64 5)) :: (26, .iface 41 (.int .i64 5)) :: _) rfl ?_; clear hA; intro a hA
  refine wpList_nil ?_
  replace hA := hA.sel [6] (e' := [(6, .iface 41 (.int .i64 5))]) rfl
  refine xt_norm ?_
  refine wpN_ret (xb_ret ?_)
  refine ret1 (fn := Tryd.f9) hA rfl rfl ?_
  replace hS := hS.front 1 (C := [(b1, rowO [.int .u64 m0, .int .u64 m1, .int .u32 m2, .int .u16 m3, .int .u16 m4, .int .u64 m5, .int .u32 m6, .int .u8 m7, .int .u64 m8, .int .u64 m9, .slice A6 bs.length c7] 37)]) (L' := [(c2, .chan n (ps.map msgV).toArray false s2 r2 false)] :: C5 :: [(b, rowO [.chan (some c1), .chan (some c2)] 59)] :: [(c1, .chan n (us.map msgV).toArray false s1 r1 false)] :: D :: F) rfl rfl
  replace hS := hS.drop1
  replace hS := hS.front 1 (C := C5) (L' := [(c2, .chan n (ps.map msgV).toArray false s2 r2 false)] :: [(b, rowO [.chan (some c1), .chan (some c2)] 59)] :: [(c1, .chan n (us.map msgV).toArray false s1 r1 false)] :: D :: F) rfl rfl
  replace hS := hS.drop1
  replace hS := hS.front 2 (C := [(c1, .chan n (us.map msgV).toArray false s1 r1 false)]) (L' := [(c2, .chan n (ps.map msgV).toArray false s2 r2 false)] :: [(b, rowO [.chan (some c1), .chan (some c2)] 59)] :: D :: F) rfl rfl
  replace hS := hS.front 2 (C := [(b, rowO [.chan (some c1), .chan (some c2)] 59)]) (L' := [(c1, .chan n (us.map msgV).toArray false s1 r1 false)] :: [(c2, .chan n (ps.map msgV).toArray false s2 r2 false)] :: D :: F) rfl rfl
  replace hS := hS.front 3 (C := D) (L' := [(b, rowO [.chan (some c1), .chan (some c2)] 59)] :: [(c1, .chan n (us.map msgV).toArray false s1 r1 false)] :: [(c2, .chan n (ps.map msgV).toArray false s2 r2 false)] :: F) rfl rfl
  replace hS := hS.front 3 (C := [(c2, .chan n (ps.map msgV).toArray false s2 r2 false)]) (L' := D :: [(b, rowO [.chan (some c1), .chan (some c2)] 59)] :: [(c1, .chan n (us.map msgV).toArray false s1 r1 false)] :: F) rfl rfl
  replace hS := hS.front 3 (C := [(c1, .chan n (us.map msgV).toArray false s1 r1 false)]) (L' := [(c2, .chan n (ps.map msgV).toArray false s2 r2 false)] :: D :: [(b, rowO [.chan (some c1), .chan (some c2)] 59)] :: F) rfl rfl
  replace hS := hS.front 3 (C := [(b, rowO [.chan (some c1), .chan (some c2)] 59)]) (L' := [(c1, .chan n (us.map msgV).toArray false s1 r1 false)] :: [(c2, .chan n (ps.map msgV).toArray false s2 r2 false)] :: D :: F) rfl rfl
  replace hS := hS.join3
  exact ⟨_, ⟨_, _, _, _, _, _, rfl⟩, rfl, hS⟩

theorem get_u10 {w0 w : World} {F : List Chunk} {L : Chunk} {b n : Nat} (hS : St w0 w (L :: F)) {x : Msg} {us ps : List Msg} (hM : BX b n (x :: us) ps L) :
    Ret Tryd.prog 10 #[.pointer (some ⟨b, 0, none⟩)] w (fun v w' => ∃ L', BX b n us ps L' ∧ v = .tuple #[.agg #[.int .u64 x.1, .int .u64 x.2.1, .int .u32 x.2.2.1, .int .u16 x.2.2.2.1, .int .u16 x.2.2.2.2.1, .int .u64 x.2.2.2.2.2.1, .int .u32 x.2.2.2.2.2.2.1, .int .u8 x.2.2.2.2.2.2.2.1, .int .u64 x.2.2.2.2.2.2.2.2.1, .int .u64 x.2.2.2.2.2.2.2.2.2.1, .slice x.2.2.2.2.2.2.2.2.2.2.1 x.2.2.2.2.2.2.2.2.2.2.2.2.length x.2.2.2.2.2.2.2.2.2.2.2.1], .bool true] ∧ St w0 w' (L' :: F)) := by
  obtain ⟨x0, x1, x2, x3, x4, x5, x6, x7, x8, x9, xA, xc, xb⟩ := x
  obtain ⟨c1, c2, s1, r1, s2, r2, rfl⟩ := hM
  replace hS : St w0 w ([(b, rowO [.chan (some c1), .chan (some c2)] 59)] :: [(c1, .chan n (((x0, x1, x2, x3, x4, x5, x6, x7, x8, x9, xA, xc, xb) :: us).map msgV).toArray false s1 r1 false)] :: [(c2, .chan n (ps.map msgV).toArray false s2 r2 false)] :: F) := hS.split3
  refine enterN (vs := [.pointer (some ⟨b, 0, none⟩)]) 25 Tryd.func10 rfl rfl (by simp) ?_; intro a hA
  refine wpN_seq ?_
  refine wpN_of (wp_region_lit ?_)
  refine st_alloc tbOk hA hS [.int .u64 0, .int .u64 0, .int .u32 0, .int .u16 0, .int .u16 0, .int .u64 0, .int .u32 0, .int .u8 0, .int .u64 0, .int .u64 0, .slice none 0 0] rfl rfl rfl rfl rfl (by decide) ?_; clear hA hS; intro b1 w2 a hS hA
  refine st_run tbOk 1 hA (e' := (3, .bool false) :: _) rfl ?_; clear hA; intro a hA
  refine wpList_nil ?_
  replace hA := hA.sel [0, 2] (e' := [(0, .pointer (some ⟨b, 0, none⟩)), (2, .pointer (some ⟨b1, 0, none⟩))]) rfl
  refine xt_norm ?_
  refine wpN_seq ?_
  refine wpN_seq ?_
  refine wpN_of (wp_region_lit ?_)
  refine st_run tbOk 3 hA (e' := (8, .pointer (some ⟨b, 0, none⟩)) :: (7, .pointer (some ⟨b, 0, none⟩)) :: (6, .pointer (some ⟨b, 0, none⟩)) :: _) rfl ?_; clear hA; intro a hA
  refine st_val hA rfl rfl (by decide) (rn_load tbOk hA rfl rfl rfl rfl (cell_row (hS.heapAt 1 rfl) rfl)) ?_; clear hA; intro a hA
  refine wpList_nil ?_
  replace hA := hA.sel [0, 2, 9] (e' := [(0, .pointer (some ⟨b, 0, none⟩)), (2, .pointer (some ⟨b1, 0, none⟩)), (9, .chan (some c1))]) rfl
  refine xt_norm ?_
  refine wpN_seq ?_
  refine cm_region (is := [0, 1, 2]) rfl ?_
  replace hS := hS.front 2 (C := [(c1, .chan n (((x0, x1, x2, x3, x4, x5, x6, x7, x8, x9, xA, xc, xb) :: us).map msgV).toArray false s1 r1 false)]) (L' := [(b1, rowO [.int .u64 0, .int .u64 0, .int .u32 0, .int .u16 0, .int .u16 0, .int .u64 0, .int .u32 0, .int .u8 0, .int .u64 0, .int .u64 0, .slice none 0 0] 37)] :: [(b, rowO [.chan (some c1), .chan (some c2)] 59)] :: [(c2, .chan n (ps.map msgV).toArray false s2 r2 false)] :: F) rfl rfl
  refine cm_sel_recv (v := msgV (x0, x1, x2, x3, x4, x5, x6, x7, x8, x9, xA, xc, xb)) (vs := us.map msgV) tbOk hA hS rfl rfl rfl rfl rfl rfl (by decide) ?_; clear hA hS; intro w3 a hS hA
  replace hA := hA.rw 10 (v' := .tuple #[.int .i64 0, .bool true, .agg #[.int .u64 x0, .int .u64 x1, .int .u32 x2, .int .u16 x3, .int .u16 x4, .int .u64 x5, .int .u32 x6, .int .u8 x7, .int .u64 x8, .int .u64 x9, .slice xA xb.length xc]]) rfl rfl
  refine cm_pure tbOk hA (v := .int .i64 0) rfl rfl rfl (by decide) rfl ?_; clear hA; intro a hA
  refine cm_pure tbOk hA (v := .bool true) rfl rfl rfl (by decide) rfl ?_; clear hA; intro a hA
  refine cm_end ?_
  replace hA := hA.sel [0, 2, 10, 12] (e' := [(0, .pointer (some ⟨b, 0, none⟩)), (2, .pointer (some ⟨b1, 0, none⟩)), (10, .tuple #[.int .i64 0, .bool true, .agg #[.int .u64 x0, .int .u64 x1, .int .u32 x2, .int .u16 x3, .int .u16 x4, .int .u64 x5, .int .u32 x6, .int .u8 x7, .int .u64 x8, .int .u64 x9, .slice xA xb.length xc]]), (12, .bool true)]) rfl
  refine xt_norm ?_
  refine wpN_block ?_
  refine cdN_cond_t hA rfl ?_
  refine wpN_seq ?_
  refine wpN_of (wp_region_lit ?_)
  refine st_run tbOk 1 hA (e' := (13, .agg #[.int .u64 x0, .int .u64 x1, .int .u32 x2, .int .u16 x3, .int .u16 x4, .int .u64 x5, .int .u32 x6, .int .u8 x7, .int .u64 x8, .int .u64 x9, .slice xA xb.length xc]) :: _) rfl ?_; clear hA; intro a hA
  refine st_alloc tbOk hA hS [.int .u64 0, .int .u64 0, .int .u32 0, .int .u16 0, .int .u16 0, .int .u64 0, .int .u32 0, .int .u8 0, .int .u64 0, .int .u64 0, .slice none 0 0] rfl rfl rfl rfl rfl (by decide) ?_; clear hA hS; intro b4 w5 a hS hA
  refine st_store tbOk hA hS [.int .u64 x0, .int .u64 x1, .int .u32 x2, .int .u16 x3, .int .u16 x4, .int .u64 x5, .int .u32 x6, .int .u8 x7, .int .u64 x8, .int .u64 x9, .slice xA xb.length xc] [.int .u64 x0, .int .u64 x1, .int .u32 x2, .int .u16 x3, .int .u16 x4, .int .u64 x5, .int .u32 x6, .int .u8 x7, .int .u64 x8, .int .u64 x9, .slice xA xb.length xc] rfl rfl rfl rfl rfl rfl (by simp [Value.oneCell']) (Nat.le_of_ble_eq_true rfl) rfl rfl rfl ?_; clear hS; intro w6 hS
  refine wpList_nil ?_
  replace hA := hA.sel [2, 4] (e' := [(2, .pointer (some ⟨b1, 0, none⟩)), (4, .pointer (some ⟨b4, 0, none⟩))]) rfl
  refine xt_norm ?_
  refine wpN_seq ?_
  refine wpN_of (wp_region_lit ?_)
  refine st_val hA rfl rfl (by decide) (rn_loadA tbOk hA [.int .u64 x0, .int .u64 x1, .int .u32 x2, .int .u16 x3, .int .u16 x4, .int .u64 x5, .int .u32 x6, .int .u8 x7, .int .u64 x8, .int .u64 x9, .slice xA xb.length xc] rfl rfl rfl rfl rfl (cells_row (hS.heapAt 0 rfl) rfl)) ?_; clear hA; intro a hA
  replace hS := hS.front 2 (C := [(b1, rowO [.int .u64 0, .int .u64 0, .int .u32 0, .int .u16 0, .int .u16 0, .int .u64 0, .int .u32 0, .int .u8 0, .int .u64 0, .int .u64 0, .slice none 0 0] 37)]) (L' := [(b4, rowO [.int .u64 x0, .int .u64 x1, .int .u32 x2, .int .u16 x3, .int .u16 x4, .int .u64 x5, .int .u32 x6, .int .u8 x7, .int .u64 x8, .int .u64 x9, .slice xA xb.length xc] 37)] :: [(c1, .chan n (us.map msgV).toArray false s1 (r1 + 1) false)] :: [(b, rowO [.chan (some c1), .chan (some c2)] 59)] :: [(c2, .chan n (ps.map msgV).toArray false s2 r2 false)] :: F) rfl rfl
  refine st_store tbOk hA hS [.int .u64 x0, .int .u64 x1, .int .u32 x2, .int .u16 x3, .int .u16 x4, .int .u64 x5, .int .u32 x6, .int .u8 x7, .int .u64 x8, .int .u64 x9, .slice xA xb.length xc] [.int .u64 x0, .int .u64 x1, .int .u32 x2, .int .u16 x3, .int .u16 x4, .int .u64 x5, .int .u32 x6, .int .u8 x7, .int .u64 x8, .int .u64 x9, .slice xA xb.length xc] rfl rfl rfl rfl rfl rfl (by simp [Value.oneCell']) (Nat.le_of_ble_eq_true rfl) rfl rfl rfl ?_; clear hS; intro w7 hS
  refine st_run tbOk 1 hA (e' := (3, .bool true) :: _) rfl ?_; clear hA; intro a hA
  refine wpList_nil ?_
  replace hA := hA.sel [2, 3] (e' := [(2, .pointer (some ⟨b1, 0, none⟩)), (3, .bool true)]) rfl
  refine xt_norm ?_
  refine wpN_ret (xb_ret (xt_ret ?_))
  refine retc2 tbOk (fn := Tryd.f10) (cs := [.int .u64 x0, .int .u64 x1, .int .u32 x2, .int .u16 x3, .int .u16 x4, .int .u64 x5, .int .u32 x6, .int .u8 x7, .int .u64 x8, .int .u64 x9, .slice xA xb.length xc]) hA rfl rfl rfl rfl rfl rfl (cells_row (hS.heapAt 0 rfl) rfl) ?_
  replace hS := hS.drop1
  replace hS := hS.drop1
  replace hS := hS.front 2 (C := [(c2, .chan n (ps.map msgV).toArray false s2 r2 false)]) (L' := [(c1, .chan n (us.map msgV).toArray false s1 (r1 + 1) false)] :: [(b, rowO [.chan (some c1), .chan (some c2)] 59)] :: F) rfl rfl
  replace hS := hS.front 1 (C := [(c1, .chan n (us.map msgV).toArray false s1 (r1 + 1) false)]) (L' := [(c2, .chan n (ps.map msgV).toArray false s2 r2 false)] :: [(b, rowO [.chan (some c1), .chan (some c2)] 59)] :: F) rfl rfl
  replace hS := hS.front 2 (C := [(b, rowO [.chan (some c1), .chan (some c2)] 59)]) (L' := [(c1, .chan n (us.map msgV).toArray false s1 (r1 + 1) false)] :: [(c2, .chan n (ps.map msgV).toArray false s2 r2 false)] :: F) rfl rfl
  replace hS := hS.join3
  exact ⟨_, ⟨_, _, _, _, _, _, rfl⟩, rfl, hS⟩

theorem get_p10 {w0 w : World} {F : List Chunk} {L : Chunk} {b n : Nat} (hS : St w0 w (L :: F)) {x : Msg} {ps : List Msg} (hM : BX b n [] (x :: ps) L) :
    Ret Tryd.prog 10 #[.pointer (some ⟨b, 0, none⟩)] w (fun v w' => ∃ L', BX b n [] ps L' ∧ v = .tuple #[.agg #[.int .u64 x.1, .int .u64 x.2.1, .int .u32 x.2.2.1, .int .u16 x.2.2.2.1, .int .u16 x.2.2.2.2.1, .int .u64 x.2.2.2.2.2.1, .int .u32 x.2.2.2.2.2.2.1, .int .u8 x.2.2.2.2.2.2.2.1, .int .u64 x.2.2.2.2.2.2.2.2.1, .int .u64 x.2.2.2.2.2.2.2.2.2.1, .slice x.2.2.2.2.2.2.2.2.2.2.1 x.2.2.2.2.2.2.2.2.2.2.2.2.length x.2.2.2.2.2.2.2.2.2.2.2.1], .bool true] ∧ St w0 w' (L' :: F)) := by
  obtain ⟨x0, x1, x2, x3, x4, x5, x6, x7, x8, x9, xA, xc, xb⟩ := x
  obtain ⟨c1, c2, s1, r1, s2, r2, rfl⟩ := hM
  replace hS : St w0 w ([(b, rowO [.chan (some c1), .chan (some c2)] 59)] :: [(c1, .chan n (([] : List Msg).map msgV).toArray false s1 r1 false)] :: [(c2, .chan n (((x0, x1, x2, x3, x4, x5, x6, x7, x8, x9, xA, xc, xb) :: ps).map msgV).toArray false s2 r2 false)] :: F) := hS.split3
  refine enterN (vs := [.pointer (some ⟨b, 0, none⟩)]) 25 Tryd.func10 rfl rfl (by simp) ?_; intro a hA
  refine wpN_seq ?_
  refine wpN_of (wp_region_lit ?_)
  refine st_alloc tbOk hA hS [.int .u64 0, .int .u64 0, .int .u32 0, .int .u16 0, .int .u16 0, .int .u64 0, .int .u32 0, .int .u8 0, .int .u64 0, .int .u64 0, .slice none 0 0] rfl rfl rfl rfl rfl (by decide) ?_; clear hA hS; intro b1 w2 a hS hA
  refine st_run tbOk 1 hA (e' := (3, .bool false) :: _) rfl ?_; clear hA; intro a hA
  refine wpList_nil ?_
  replace hA := hA.sel [0, 2] (e' := [(0, .pointer (some ⟨b, 0, none⟩)), (2, .pointer (some ⟨b1, 0, none⟩))]) rfl
  refine xt_norm ?_
  refine wpN_seq ?_
  refine wpN_seq ?_
  refine wpN_of (wp_region_lit ?_)
  refine st_run tbOk 3 hA (e' := (8, .pointer (some ⟨b, 0, none⟩)) :: (7, .pointer (some ⟨b, 0, none⟩)) :: (6, .pointer (some ⟨b, 0, none⟩)) :: _) rfl ?_; clear hA; intro a hA
  refine st_val hA rfl rfl (by decide) (rn_load tbOk hA rfl rfl rfl rfl (cell_row (hS.heapAt 1 rfl) rfl)) ?_; clear hA; intro a hA
  refine wpList_nil ?_
  replace hA := hA.sel [0, 2, 9] (e' := [(0, .pointer (some ⟨b, 0, none⟩)), (2, .pointer (some ⟨b1, 0, none⟩)), (9, .chan (some c1))]) rfl
  refine xt_norm ?_
  refine wpN_seq ?_
  refine cm_region (is := [0, 1, 2]) rfl ?_
  replace hS := hS.front 2 (C := [(c1, .chan n (([] : List Msg).map msgV).toArray false s1 r1 false)]) (L' := [(b1, rowO [.int .u64 0, .int .u64 0, .int .u32 0, .int .u16 0, .int .u16 0, .int .u64 0, .int .u32 0, .int .u8 0, .int .u64 0, .int .u64 0, .slice none 0 0] 37)] :: [(b, rowO [.chan (some c1), .chan (some c2)] 59)] :: [(c2, .chan n (((x0, x1, x2, x3, x4, x5, x6, x7, x8, x9, xA, xc, xb) :: ps).map msgV).toArray false s2 r2 false)] :: F) rfl rfl
  refine cm_sel_none tbOk hA hS rfl rfl rfl rfl rfl rfl (by decide) ?_; clear hA; intro a hA
  refine cm_pure tbOk hA (v := .int .i64 (-1)) rfl rfl rfl (by decide) rfl ?_; clear hA; intro a hA
  refine cm_pure tbOk hA (v := .bool false) rfl rfl rfl (by decide) rfl ?_; clear hA; intro a hA
  refine cm_end ?_
  replace hA := hA.sel [0, 2, 10, 12] (e' := [(0, .pointer (some ⟨b, 0, none⟩)), (2, .pointer (some ⟨b1, 0, none⟩)), (10, .tuple #[.int .i64 (-1), .bool false, .agg #[.int .u64 0, .int .u64 0, .int .u32 0, .int .u16 0, .int .u16 0, .int .u64 0, .int .u32 0, .int .u8 0, .int .u64 0, .int .u64 0, .slice none 0 0]]), (12, .bool false)]) rfl
  refine xt_norm ?_
  refine wpN_block ?_
  refine cdN_cond_f hA rfl ?_
  refine wpN_skip ?_
  refine xb_norm ?_
  refine xt_norm ?_
  refine wpN_seq ?_
  refine wpN_of (wp_region_lit ?_)
  refine st_run tbOk 3 hA (e' := (17, .pointer (some ⟨b, 1, none⟩)) :: (16, .pointer (some ⟨b, 0, none⟩)) :: (15, .pointer (some ⟨b, 0, none⟩)) :: _) rfl ?_; clear hA; intro a hA
  refine st_val hA rfl rfl (by decide) (rn_load tbOk hA rfl rfl rfl rfl (cell_row (hS.heapAt 2 rfl) rfl)) ?_; clear hA; intro a hA
  refine wpList_nil ?_
  replace hA := hA.sel [2, 18] (e' := [(2, .pointer (some ⟨b1, 0, none⟩)), (18, .chan (some c2))]) rfl
  refine xt_norm ?_
  refine wpN_seq ?_
  refine cm_region (is := [0, 1, 2]) rfl ?_
  replace hS := hS.front 3 (C := [(c2, .chan n (((x0, x1, x2, x3, x4, x5, x6, x7, x8, x9, xA, xc, xb) :: ps).map msgV).toArray false s2 r2 false)]) (L' := [(c1, .chan n (([] : List Msg).map msgV).toArray false s1 r1 false)] :: [(b1, rowO [.int .u64 0, .int .u64 0, .int .u32 0, .int .u16 0, .int .u16 0, .int .u64 0, .int .u32 0, .int .u8 0, .int .u64 0, .int .u64 0, .slice none 0 0] 37)] :: [(b, rowO [.chan (some c1), .chan (some c2)] 59)] :: F) rfl rfl
  refine cm_sel_recv (v := msgV (x0, x1, x2, x3, x4, x5, x6, x7, x8, x9, xA, xc, xb)) (vs := ps.map msgV) tbOk hA hS rfl rfl rfl rfl rfl rfl (by decide) ?_; clear hA hS; intro w4 a hS hA
  replace hA := hA.rw 19 (v' := .tuple #[.int .i64 0, .bool true, .agg #[.int .u64 x0, .int .u64 x1, .int .u32 x2, .int .u16 x3, .int .u16 x4, .int .u64 x5, .int .u32 x6, .int .u8 x7, .int .u64 x8, .int .u64 x9, .slice xA xb.length xc]]) rfl rfl
  refine cm_pure tbOk hA (v := .int .i64 0) rfl rfl rfl (by decide) rfl ?_; clear hA; intro a hA
  refine cm_pure tbOk hA (v := .bool true) rfl rfl rfl (by decide) rfl ?_; clear hA; intro a hA
  refine cm_end ?_
  replace hA := hA.sel [2, 19, 21] (e' := [(2, .pointer (some ⟨b1, 0, none⟩)), (19, .tuple #[.int .i64 0, .bool true, .agg #[.int .u64 x0, .int .u64 x1, .int .u32 x2, .int .u16 x3, .int .u16 x4, .int .u64 x5, .int .u32 x6, .int .u8 x7, .int .u64 x8, .int .u64 x9, .slice xA xb.length xc]]), (21, .bool true)]) rfl
  refine xt_norm ?_
  refine wpN_block ?_
  refine cdN_cond_t hA rfl ?_
  refine wpN_seq ?_
  refine wpN_of (wp_region_lit ?_)
  refine st_run tbOk 1 hA (e' := (23, .agg #[.int .u64 x0, .int .u64 x1, .int .u32 x2, .int .u16 x3, .int .u16 x4, .int .u64 x5, .int .u32 x6, .int .u8 x7, .int .u64 x8, .int .u64 x9, .slice xA xb.length xc]) :: _) rfl ?_; clear hA; intro a hA
  refine st_alloc tbOk hA hS [.int .u64 0, .int .u64 0, .int .u32 0, .int .u16 0, .int .u16 0, .int .u64 0, .int .u32 0, .int .u8 0, .int .u64 0, .int .u64 0, .slice none 0 0] rfl rfl rfl rfl rfl (by decide) ?_; clear hA hS; intro b5 w6 a hS hA
  refine st_store tbOk hA hS [.int .u64 x0, .int .u64 x1, .int .u32 x2, .int .u16 x3, .int .u16 x4, .int .u64 x5, .int .u32 x6, .int .u8 x7, .int .u64 x8, .int .u64 x9, .slice xA xb.length xc] [.int .u64 x0, .int .u64 x1, .int .u32 x2, .int .u16 x3, .int .u16 x4, .int .u64 x5, .int .u32 x6, .int .u8 x7, .int .u64 x8, .int .u64 x9, .slice xA xb.length xc] rfl rfl rfl rfl rfl rfl (by simp [Value.oneCell']) (Nat.le_of_ble_eq_true rfl) rfl rfl rfl ?_; clear hS; intro w7 hS
  refine wpList_nil ?_
  replace hA := hA.sel [2, 5] (e' := [(2, .pointer (some ⟨b1, 0, none⟩)), (5, .pointer (some ⟨b5, 0, none⟩))]) rfl
  refine xt_norm ?_
  refine wpN_seq ?_
  refine wpN_of (wp_region_lit ?_)
  refine st_val hA rfl rfl (by decide) (rn_loadA tbOk hA [.int .u64 x0, .int .u64 x1, .int .u32 x2, .int .u16 x3, .int .u16 x4, .int .u64 x5, .int .u32 x6, .int .u8 x7, .int .u64 x8, .int .u64 x9, .slice xA xb.length xc] rfl rfl rfl rfl rfl (cells_row (hS.heapAt 0 rfl) rfl)) ?_; clear hA; intro a hA
  replace hS := hS.front 3 (C := [(b1, rowO [.int .u64 0, .int .u64 0, .int .u32 0, .int .u16 0, .int .u16 0, .int .u64 0, .int .u32 0, .int .u8 0, .int .u64 0, .int .u64 0, .slice none 0 0] 37)]) (L' := [(b5, rowO [.int .u64 x0, .int .u64 x1, .int .u32 x2, .int .u16 x3, .int .u16 x4, .int .u64 x5, .int .u32 x6, .int .u8 x7, .int .u64 x8, .int .u64 x9, .slice xA xb.length xc] 37)] :: [(c2, .chan n (ps.map msgV).toArray false s2 (r2 + 1) false)] :: [(c1, .chan n (([] : List Msg).map msgV).toArray false s1 r1 false)] :: [(b, rowO [.chan (some c1), .chan (some c2)] 59)] :: F) rfl rfl
  refine st_store tbOk hA hS [.int .u64 x0, .int .u64 x1, .int .u32 x2, .int .u16 x3, .int .u16 x4, .int .u64 x5, .int .u32 x6, .int .u8 x7, .int .u64 x8, .int .u64 x9, .slice xA xb.length xc] [.int .u64 x0, .int .u64 x1, .int .u32 x2, .int .u16 x3, .int .u16 x4, .int .u64 x5, .int .u32 x6, .int .u8 x7, .int .u64 x8, .int .u64 x9, .slice xA xb.length xc] rfl rfl rfl rfl rfl rfl (by simp [Value.oneCell']) (Nat.le_of_ble_eq_true rfl) rfl rfl rfl ?_; clear hS; intro w8 hS
  refine st_run tbOk 1 hA (e' := (3, .bool true) :: _) rfl ?_; clear hA; intro a hA
  refine wpList_nil ?_
  replace hA := hA.sel [2, 3] (e' := [(2, .pointer (some ⟨b1, 0, none⟩)), (3, .bool true)]) rfl
  refine xt_norm ?_
  refine wpN_ret (xb_ret ?_)
  refine retc2 tbOk (fn := Tryd.f10) (cs := [.int .u64 x0, .int .u64 x1, .int .u32 x2, .int .u16 x3, .int .u16 x4, .int .u64 x5, .int .u32 x6, .int .u8 x7, .int .u64 x8, .int .u64 x9, .slice xA xb.length xc]) hA rfl rfl rfl rfl rfl rfl (cells_row (hS.heapAt 0 rfl) rfl) ?_
  replace hS := hS.drop1
  replace hS := hS.drop1
  replace hS := hS.front 1 (C := [(c1, .chan n (([] : List Msg).map msgV).toArray false s1 r1 false)]) (L' := [(c2, .chan n (ps.map msgV).toArray false s2 (r2 + 1) false)] :: [(b, rowO [.chan (some c1), .chan (some c2)] 59)] :: F) rfl rfl
  replace hS := hS.front 2 (C := [(b, rowO [.chan (some c1), .chan (some c2)] 59)]) (L' := [(c1, .chan n (([] : List Msg).map msgV).toArray false s1 r1 false)] :: [(c2, .chan n (ps.map msgV).toArray false s2 (r2 + 1) false)] :: F) rfl rfl
  replace hS := hS.join3
  exact ⟨_, ⟨_, _, _, _, _, _, rfl⟩, rfl, hS⟩

theorem get_none10 {w0 w : World} {F : List Chunk} {L : Chunk} {b n : Nat} (hS : St w0 w (L :: F)) (hM : BX b n [] [] L) :
    Ret Tryd.prog 10 #[.pointer (some ⟨b, 0, none⟩)] w (fun v w' => ∃ L', BX b n [] [] L' ∧ v = .tuple #[.agg #[.int .u64 0, .int .u64 0, .int .u32 0, .int .u16 0, .int .u16 0, .int .u64 0, .int .u32 0, .int .u8 0, .int .u64 0, .int .u64 0, .slice none 0 0], .bool false] ∧ St w0 w' (L' :: F)) := by
  obtain ⟨c1, c2, s1, r1, s2, r2, rfl⟩ := hM
  replace hS : St w0 w ([(b, rowO [.chan (some c1), .chan (some c2)] 59)] :: [(c1, .chan n (([] : List Msg).map msgV).toArray false s1 r1 false)] :: [(c2, .chan n (([] : List Msg).map msgV).toArray false s2 r2 false)] :: F) := hS.split3
  refine enterN (vs := [.pointer (some ⟨b, 0, none⟩)]) 25 Tryd.func10 rfl rfl (by simp) ?_; intro a hA
  refine wpN_seq ?_
  refine wpN_of (wp_region_lit ?_)
  refine st_alloc tbOk hA hS [.int .u64 0, .int .u64 0, .int .u32 0, .int .u16 0, .int .u16 0, .int .u64 0, .int .u32 0, .int .u8 0, .int .u64 0, .int .u64 0, .slice none 0 0] rfl rfl rfl rfl rfl (by decide) ?_; clear hA hS; intro b1 w2 a hS hA
  refine st_run tbOk 1 hA (e' := (3, .bool false) :: _) rfl ?_; clear hA; intro a hA
  refine wpList_nil ?_
  replace hA := hA.sel [0, 2] (e' := [(0, .pointer (some ⟨b, 0, none⟩)), (2, .pointer (some ⟨b1, 0, none⟩))]) rfl
  refine xt_norm ?_
  refine wpN_seq ?_
  refine wpN_seq ?_
  refine wpN_of (wp_region_lit ?_)
  refine st_run tbOk 3 hA (e' := (8, .pointer (some ⟨b, 0, none⟩)) :: (7, .pointer (some ⟨b, 0, none⟩)) :: (6, .pointer (some ⟨b, 0, none⟩)) :: _) rfl ?_; clear hA; intro a hA
  refine st_val hA rfl rfl (by decide) (rn_load tbOk hA rfl rfl rfl rfl (cell_row (hS.heapAt 1 rfl) rfl)) ?_; clear hA; intro a hA
  refine wpList_nil ?_
  replace hA := hA.sel [0, 2, 9] (e' := [(0, .pointer (some ⟨b, 0, none⟩)), (2, .pointer (some ⟨b1, 0, none⟩)), (9, .chan (some c1))]) rfl
  refine xt_norm ?_
  refine wpN_seq ?_
  refine cm_region (is := [0, 1, 2]) rfl ?_
  replace hS := hS.front 2 (C := [(c1, .chan n (([] : List Msg).map msgV).toArray false s1 r1 false)]) (L' := [(b1, rowO [.int .u64 0, .int .u64 0, .int .u32 0, .int .u16 0, .int .u16 0, .int .u64 0, .int .u32 0, .int .u8 0, .int .u64 0, .int .u64 0, .slice none 0 0] 37)] :: [(b, rowO [.chan (some c1), .chan (some c2)] 59)] :: [(c2, .chan n (([] : List Msg).map msgV).toArray false s2 r2 false)] :: F) rfl rfl
  refine cm_sel_none tbOk hA hS rfl rfl rfl rfl rfl rfl (by decide) ?_; clear hA; intro a hA
  refine cm_pure tbOk hA (v := .int .i64 (-1)) rfl rfl rfl (by decide) rfl ?_; clear hA; intro a hA
  refine cm_pure tbOk hA (v := .bool false) rfl rfl rfl (by decide) rfl ?_; clear hA; intro a hA
  refine cm_end ?_
  replace hA := hA.sel [0, 2, 10, 12] (e' := [(0, .pointer (some ⟨b, 0, none⟩)), (2, .pointer (some ⟨b1, 0, none⟩)), (10, .tuple #[.int .i64 (-1), .bool false, .agg #[.int .u64 0, .int .u64 0, .int .u32 0, .int .u16 0, .int .u16 0, .int .u64 0, .int .u32 0, .int .u8 0, .int .u64 0, .int .u64 0, .slice none 0 0]]), (12, .bool false)]) rfl
  refine xt_norm ?_
  refine wpN_block ?_
  refine cdN_cond_f hA rfl ?_
  refine wpN_skip ?_
  refine xb_norm ?_
  refine xt_norm ?_
  refine wpN_seq ?_
  refine wpN_of (wp_region_lit ?_)
  refine st_run tbOk 3 hA (e' := (17, .pointer (some ⟨b, 1, none⟩)) :: (16, .pointer (some ⟨b, 0, none⟩)) :: (15, .pointer (some ⟨b, 0, none⟩)) :: _) rfl ?_; clear hA; intro a hA
  refine st_val hA rfl rfl (by decide) (rn_load tbOk hA rfl rfl rfl rfl (cell_row (hS.heapAt 2 rfl) rfl)) ?_; clear hA; intro a hA
  refine wpList_nil ?_
  replace hA := hA.sel [2, 18] (e' := [(2, .pointer (some ⟨b1, 0, none⟩)), (18, .chan (some c2))]) rfl
  refine xt_norm ?_
  refine wpN_seq ?_
  refine cm_region (is := [0, 1, 2]) rfl ?_
  replace hS := hS.front 3 (C := [(c2, .chan n (([] : List Msg).map msgV).toArray false s2 r2 false)]) (L' := [(c1, .chan n (([] : List Msg).map msgV).toArray false s1 r1 false)] :: [(b1, rowO [.int .u64 0, .int .u64 0, .int .u32 0, .int .u16 0, .int .u16 0, .int .u64 0, .int .u32 0, .int .u8 0, .int .u64 0, .int .u64 0, .slice none 0 0] 37)] :: [(b, rowO [.chan (some c1), .chan (some c2)] 59)] :: F) rfl rfl
  refine cm_sel_none tbOk hA hS rfl rfl rfl rfl rfl rfl (by decide) ?_; clear hA; intro a hA
  refine cm_pure tbOk hA (v := .int .i64 (-1)) rfl rfl rfl (by decide) rfl ?_; clear hA; intro a hA
  refine cm_pure tbOk hA (v := .bool false) rfl rfl rfl (by decide) rfl ?_; clear hA; intro a hA
  refine cm_end ?_
  replace hA := hA.sel [2, 19, 21] (e' := [(2, .pointer (some ⟨b1, 0, none⟩)), (19, .tuple #[.int .i64 (-1), .bool false, .agg #[.int .u64 0, .int .u64 0, .int .u32 0, .int .u16 0, .int .u16 0, .int .u64 0, .int .u32 0, .int .u8 0, .int .u64 0, .int .u64 0, .slice none 0 0]]), (21, .bool false)]) rfl
  refine xt_norm ?_
  refine wpN_block ?_
  refine cdN_cond_f hA rfl ?_
  refine wpN_seq ?_
  refine wpN_of (wp_region_lit ?_)
  refine st_val hA rfl rfl (by decide) (rn_build tbOk hA rfl rfl rfl rfl rfl rfl rfl) ?_; clear hA; intro a hA
  replace hS := hS.front 2 (C := [(b1, rowO [.int .u64 0, .int .u64 0, .int .u32 0, .int .u16 0, .int .u16 0, .int .u64 0, .int .u32 0, .int .u8 0, .int .u64 0, .int .u64 0, .slice none 0 0] 37)]) (L' := [(c2, .chan n (([] : List Msg).map msgV).toArray false s2 r2 false)] :: [(c1, .chan n (([] : List Msg).map msgV).toArray false s1 r1 false)] :: [(b, rowO [.chan (some c1), .chan (some c2)] 59)] :: F) rfl rfl
  refine st_store tbOk hA hS [.int .u64 0, .int .u64 0, .int .u32 0, .int .u16 0, .int .u16 0, .int .u64 0, .int .u32 0, .int .u8 0, .int .u64 0, .int .u64 0, .slice none 0 0] [.int .u64 0, .int .u64 0, .int .u32 0, .int .u16 0, .int .u16 0, .int .u64 0, .int .u32 0, .int .u8 0, .int .u64 0, .int .u64 0, .slice none 0 0] rfl rfl rfl rfl rfl rfl (by simp [Value.oneCell']) (Nat.le_of_ble_eq_true rfl) rfl rfl rfl ?_; clear hS; intro w5 hS
  refine st_run tbOk 1 hA (e' := (3, .bool false) :: _) rfl ?_; clear hA; intro a hA
  refine wpList_nil ?_
  replace hA := hA.sel [2, 3] (e' := [(2, .pointer (some ⟨b1, 0, none⟩)), (3, .bool false)]) rfl
  refine xt_norm ?_
  refine wpN_ret (xb_ret ?_)
  refine retc2 tbOk (fn := Tryd.f10) (cs := [.int .u64 0, .int .u64 0, .int .u32 0, .int .u16 0, .int .u16 0, .int .u64 0, .int .u32 0, .int .u8 0, .int .u64 0, .int .u64 0, .slice none 0 0]) hA rfl rfl rfl rfl rfl rfl (cells_row (hS.heapAt 0 rfl) rfl) ?_
  replace hS := hS.drop1
  replace hS := hS.front 1 (C := [(c1, .chan n (([] : List Msg).map msgV).toArray false s1 r1 false)]) (L' := [(c2, .chan n (([] : List Msg).map msgV).toArray false s2 r2 false)] :: [(b, rowO [.chan (some c1), .chan (some c2)] 59)] :: F) rfl rfl
  replace hS := hS.front 2 (C := [(b, rowO [.chan (some c1), .chan (some c2)] 59)]) (L' := [(c1, .chan n (([] : List Msg).map msgV).toArray false s1 r1 false)] :: [(c2, .chan n (([] : List Msg).map msgV).toArray false s2 r2 false)] :: F) rfl rfl
  replace hS := hS.join3
  exact ⟨_, ⟨_, _, _, _, _, _, rfl⟩, rfl, hS⟩

theorem len16 {w0 w : World} {F : List Chunk} {L : Chunk} {b n : Nat} {us ps : List Msg} (hS : St w0 w (L :: F)) (hM : BX b n us ps L) :
    Ret Tryd.prog 16 #[.pointer (some ⟨b, 0, none⟩)] w (fun v w' => ∃ L', BX b n us ps L' ∧ v = .tuple #[.int .i64 ((us.length : Nat) : Int), .int .i64 ((ps.length : Nat) : Int)] ∧ St w0 w' (L' :: F)) := by
  obtain ⟨c1, c2, s1, r1, s2, r2, rfl⟩ := hM
  replace hS : St w0 w ([(b, rowO [.chan (some c1), .chan (some c2)] 59)] :: [(c1, .chan n (us.map msgV).toArray false s1 r1 false)] :: [(c2, .chan n (ps.map msgV).toArray false s2 r2 false)] :: F) := hS.split3
  refine enter (vs := [.pointer (some ⟨b, 0, none⟩)]) 14 Tryd.func16 rfl rfl (by simp) ?_; intro a hA
  refine wp_seq ?_
  refine wp_region_lit ?_
  refine st_run tbOk 2 hA (e' := (3, .int .i64 0) :: (2, .int .i64 0) :: _) rfl ?_; clear hA; intro a hA
  refine wpList_nil ?_
  replace hA := hA.sel [0] (e' := [(0, .pointer (some ⟨b, 0, none⟩))]) rfl
  refine xt_norm ?_
  refine wp_seq ?_
  refine wp_draw (fun w' => St w0 w' ([(b, rowO [.chan (some c1), .chan (some c2)] 59)] :: [(c1, .chan n (us.map msgV).toArray false s1 r1 false)] :: [(c2, .chan n (ps.map msgV).toArray false s2 r2 false)] :: F)) [] [(0, true), (1, true), (2, true), (3, true), (4, true), (5, true), (6, true), (7, true), (8, true), (9, true), (10, true), (11, true)] mixed (by kernel_rfl) (by rintro c a w ⟨_, _, h, _⟩; cases h) (by rfl) (by kernel_rfl) ?_
  replace hS := hS.drew
  refine dr_run tbOk 3 hA hS (e' := (6, .pointer (some ⟨b, 0, none⟩)) :: (5, .pointer (some ⟨b, 0, none⟩)) :: (4, .pointer (some ⟨b, 0, none⟩)) :: _) rfl ?_; clear hA; intro a hA
  refine dr_y hA rfl rfl rfl (by decide) hS (fun w' hS' => rn_load tbOk hA rfl rfl rfl rfl (cell_row (hS'.heapAt 0 rfl) rfl)) ?_; clear hA; intro a hA
  refine dr_y hA rfl rfl rfl (by decide) hS (fun w' hS' => rn_lenchan tbOk hA rfl rfl rfl rfl (hS'.heapAt 1 rfl)) ?_; clear hA; intro a hA
  replace hA := hA.rw 8 (v' := .int .i64 ((us.length : Nat) : Int)) rfl (vint (by rw [size_msg]))
  refine dr_run tbOk 3 hA hS (e' := (11, .pointer (some ⟨b, 1, none⟩)) :: (10, .pointer (some ⟨b, 0, none⟩)) :: (9, .pointer (some ⟨b, 0, none⟩)) :: _) rfl ?_; clear hA; intro a hA
  refine dr_y hA rfl rfl rfl (by decide) hS (fun w' hS' => rn_load tbOk hA rfl rfl rfl rfl (cell_row (hS'.heapAt 0 rfl) rfl)) ?_; clear hA; intro a hA
  refine dr_y hA rfl rfl rfl (by decide) hS (fun w' hS' => rn_lenchan tbOk hA rfl rfl rfl rfl (hS'.heapAt 2 rfl)) ?_; clear hA; intro a hA
  replace hA := hA.rw 13 (v' := .int .i64 ((ps.length : Nat) : Int)) rfl (vint (by rw [size_msg]))
  refine dr_run tbOk 2 hA hS (e' := (3, .int .i64 ((ps.length : Nat) : Int)) :: (2, .int .i64 ((us.length : Nat) : Int)) :: _) rfl ?_; clear hA; intro a hA
  refine dr_end ?_
  replace hA := hA.sel [2, 3] (e' := [(2, .int .i64 ((us.length : Nat) : Int)), (3, .int .i64 ((ps.length : Nat) : Int))]) rfl
  refine xt_norm ?_
  refine wp_ret ?_
  refine ret2 (fn := Tryd.f16) hA rfl rfl rfl ?_
  replace hS := hS.front 2 (C := [(c2, .chan n (ps.map msgV).toArray false s2 r2 false)]) (L' := [(b, rowO [.chan (some c1), .chan (some c2)] 59)] :: [(c1, .chan n (us.map msgV).toArray false s1 r1 false)] :: F) rfl rfl
  replace hS := hS.front 2 (C := [(c1, .chan n (us.map msgV).toArray false s1 r1 false)]) (L' := [(c2, .chan n (ps.map msgV).toArray false s2 r2 false)] :: [(b, rowO [.chan (some c1), .chan (some c2)] 59)] :: F) rfl rfl
  replace hS := hS.front 2 (C := [(b, rowO [.chan (some c1), .chan (some c2)] 59)]) (L' := [(c1, .chan n (us.map msgV).toArray false s1 r1 false)] :: [(c2, .chan n (ps.map msgV).toArray false s2 r2 false)] :: F) rfl rfl
  replace hS := hS.join3
  exact ⟨_, ⟨_, _, _, _, _, _, rfl⟩, rfl, hS⟩

end Go.Proofs.YtjmnajcjbimbiaaDoor
