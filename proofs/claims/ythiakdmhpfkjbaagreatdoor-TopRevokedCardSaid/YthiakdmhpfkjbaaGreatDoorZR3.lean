import Derived.Test.YthiakdmhpfkjbaaGreatDoorZR2
set_option linter.unusedVariables false
set_option linter.unusedSimpArgs false
set_option linter.unusedVariables false
set_option linter.unusedSimpArgs false
set_option maxRecDepth 4000
namespace Go.Proofs.YthiakdmhpfkjbaaGreatDoor
open Go Go.SK
def msgV (x : Msg) : Value := .agg (encMessage x).toArray
theorem push_msg (us : List Msg) (m : Msg) : (us.map msgV).toArray.push (msgV m) = ((us ++ [m]).map msgV).toArray := by simp
theorem size_msg (us : List Msg) : (us.map msgV).toArray.size = us.length := by simp
def BX (b n : Nat) (us ps : List Msg) (L : Chunk) : Prop := ∃ c1 c2 s1 r1 s2 r2, L = (b, rowO [.chan (some c1), .chan (some c2)] 182) :: ([(c1, .chan n (us.map msgV).toArray false s1 r1 false)] ++ [(c2, .chan n (ps.map msgV).toArray false s2 r2 false)])
theorem of53 {w0 w : World} {F : List Chunk} (hS : St w0 w F) (r : Int) (n : Nat) (hn : (r ≤ 0 ∧ n = 0) ∨ (0 ≤ r ∧ r ≤ 64 ∧ ((n : Nat) : Int) = r) ∨ (64 ≤ r ∧ n = 64)) :
 Ret Tryz.prog 53 #[.int .i64 r] w (fun v w' => ∃ b L, BX b n [] [] L ∧ v = vP b 0 ∧ St w0 w' (L :: F)) := by
 refine enter (vs := [.int .i64 r]) 12 Tryz.func53 rfl rfl (by simp) ?_; intro a hA
 refine zs (zr (zR 1 ((2, .pointer none) :: _) hA rfl fun a hA => zn (zx (zs (zr (zR 3 ((5, .int .i64 (if (if 64 < r then 64 else r) > 0 then (if 64 < r then 64 else r) else 0)) :: (4, .int .i64 (if 64 < r then 64 else r)) :: (3, .int .i64 r) :: _) hA rfl fun a hA => ?_))))))
 replace hA := hA.rw 5 (v' := vI n) rfl (vint (by first | omega | (split <;> omega) | (split <;> split <;> omega)))
 refine zR 1 ((0, vI n) :: _) hA rfl fun a hA => zn (zx (zs ?_))
 refine wp_drawN (fun w' => St w0 w' (F)) [] [(0, true), (2, true)] 1 (.L [(3, false), (4, true), (5, false), (6, true)]) 3 (.L [(1, false), (4, true), (5, false), (6, true)]) mixed (by kernel_rfl) (by rintro c a w ⟨_, _, h, _⟩; cases h) (by rfl) (by kernel_rfl) ?_
 replace hS := hS.drew
 refine zW 2 ((8, vI n) :: (6, vI n) :: _) hA hS rfl fun a hA => ?_
 refine dr_fork ?_ ?_
 · refine dr_b (o := _) rfl ?_
   refine st_makeChan tbOk hA hS n rfl rfl rfl rfl rfl (by show (80 : Int) * ((n : Nat) : Int) ≤ 281474976710544; omega) (by omega) rfl rfl (by decide) fun b1 w2 a hS hA => ?_
   refine zi (hS.tail 1 rfl) ?_
   refine dr_subL ?_
   refine dr_b (o := _) rfl ?_
   refine st_makeChan tbOk hA hS n rfl rfl rfl rfl rfl (by show (80 : Int) * ((n : Nat) : Int) ≤ 281474976710544; omega) (by omega) rfl rfl (by decide) fun b3 w4 a hS hA => ?_
   refine zi (hS.tail 2 rfl) (zW 1 ((10, .agg #[.chan (some b1), .chan (some b3)]) :: _) hA (hS.tail 2 rfl) rfl fun a hA => dr_b (o := _) rfl ?_)
   refine st_box hA hS [.chan (some b1), .chan (some b3)] rfl rfl rfl rfl rfl (by decide) fun b5 w6 a hS hA => ?_
   refine zi (hS.tail 3 rfl) (zW 1 ((2, vP b5 0) :: _) hA (hS.tail 3 rfl) rfl fun a hA => ze (zx ?_))
   refine wp_ret ?_
   refine ret1 (fn := Tryz.f53) hA rfl rfl ?_
   replace hS := hS.m1.m2.m2
   replace hS := hS.join3
   exact ⟨_, _, ⟨_, _, _, _, _, _, rfl⟩, rfl, hS⟩
 · refine dr_b (o := _) rfl ?_
   refine st_makeChan tbOk hA hS n rfl rfl rfl rfl rfl (by show (80 : Int) * ((n : Nat) : Int) ≤ 281474976710544; omega) (by omega) rfl rfl (by decide) fun b7 w8 a hS hA => ?_
   refine zi (hS.tail 1 rfl) ?_
   refine dr_subL ?_
   refine dr_b (o := _) rfl ?_
   refine st_makeChan tbOk hA hS n rfl rfl rfl rfl rfl (by show (80 : Int) * ((n : Nat) : Int) ≤ 281474976710544; omega) (by omega) rfl rfl (by decide) fun b9 w10 a hS hA => ?_
   refine zi (hS.tail 2 rfl) (zW 1 ((10, .agg #[.chan (some b9), .chan (some b7)]) :: _) hA (hS.tail 2 rfl) rfl fun a hA => dr_b (o := _) rfl ?_)
   refine st_box hA hS [.chan (some b9), .chan (some b7)] rfl rfl rfl rfl rfl (by decide) fun b11 w12 a hS hA => ?_
   refine zi (hS.tail 3 rfl) (zW 1 ((2, vP b11 0) :: _) hA (hS.tail 3 rfl) rfl fun a hA => ze (zx ?_))
   refine wp_ret ?_
   refine ret1 (fn := Tryz.f53) hA rfl rfl ?_
   replace hS := hS.m2.m2.m2
   replace hS := hS.join3
   exact ⟨_, _, ⟨_, _, _, _, _, _, rfl⟩, rfl, hS⟩
theorem put_u_room64 {w0 w : World} {F : List Chunk} {L D : Chunk} {b n : Nat} {us ps : List Msg} (hS : St w0 w (L :: D :: F)) (hM : BX b n us ps L) (m0 m1 m2 m3 m4 m5 m6 m7 m8 m9 : Int) {d : Value} {bs : List UInt8} (hd : RdSX w0 (D :: F) 1 d bs.length (rows encB bs)) (hbl : bs.length ≤ 140737488351232) (hl : us.length < n) :
 Ret Tryz.prog 64 #[vP b 0, .agg #[.int .u64 m0, .int .u64 m1, .int .u32 m2, .int .u16 m3, .int .u16 m4, .int .u64 m5, .int .u32 m6, .int .u8 m7, .int .u64 m8, .int .u64 m9, d], yT] w (fun v w' => ∃ L' E A c, BX b n (us ++ [(m0, m1, m2, m3, m4, m5, m6, m7, m8, m9, A, c, bs)]) (ps) L' ∧ DD w0 E A c bs ∧ v = yN ∧ St w0 w' (L' :: (E ++ D) :: F)) := by
 obtain ⟨c1, c2, s1, r1, s2, r2, rfl⟩ := hM
 replace hS : St w0 w ([(b, rowO [.chan (some c1), .chan (some c2)] 182)] :: [(c1, .chan n (us.map msgV).toArray false s1 r1 false)] :: [(c2, .chan n (ps.map msgV).toArray false s2 r2 false)] :: D :: F) := hS.split3
 obtain ⟨B, d', rfl, hmd, hdx⟩ := (hd _ (hS.tail 3 rfl)).open'
 refine enterN (vs := [vP b 0, .agg #[.int .u64 m0, .int .u64 m1, .int .u32 m2, .int .u16 m3, .int .u16 m4, .int .u64 m5, .int .u32 m6, .int .u8 m7, .int .u64 m8, .int .u64 m9, .slice B bs.length d'], yT]) 27 Tryz.func64 rfl rfl (by simp) ?_; intro a hA
 refine wpN_seq ?_
 refine wpN_of (wp_region_lit ?_)
 refine st_box hA hS [.int .u64 m0, .int .u64 m1, .int .u32 m2, .int .u16 m3, .int .u16 m4, .int .u64 m5, .int .u32 m6, .int .u8 m7, .int .u64 m8, .int .u64 m9, .slice B bs.length d'] rfl rfl rfl rfl rfl (by decide) fun b1 w2 a hS hA => ?_
 refine zR 1 ((6, yN) :: _) hA rfl fun a hA => zn (zx ?_)
 refine wpN_seq ?_
 refine wpN_of (wp_region_lit ?_)
 refine zR 1 ((8, vP b1 10) :: _) hA rfl fun a hA => zL hA hS 0 rfl rfl rfl rfl rfl rfl rfl rfl rfl fun a hA => ?_
 replace hS := hS.nil
 refine st_append tbOk hA (m := 0) (q := bs.length) (xs := rows encB ([] : List UInt8)) (news := rows encB bs) rfl rfl rfl rfl rfl rfl rfl rfl (by decide) (Own.nil 5 1) hS ((hd _ (hS.tail 5 rfl))) (rows_one encB_ok _) (maxLen_le (by omega)) (by show (0 + bs.length) * 1 ≤ 140737488355328; omega) rfl rfl (by decide) ?_
 clear hA hS; intro v3 w4 C5 a hO5 hS hA
 replace hO5 := Own.app (l := ([] : List UInt8)) (l2 := bs) hO5
 replace hO5 : Own 5 1 v3 bs.length (rows encB bs) C5 := hO5
 obtain ⟨A6, c7, rfl, hmc7, hxc7⟩ := hO5.open'
 refine zR 1 ((11, vP b1 10) :: _) hA rfl fun a hA => ?_
 replace hS := hS.m1
 refine st_store tbOk hA hS [.slice A6 bs.length c7] [.int .u64 m0, .int .u64 m1, .int .u32 m2, .int .u16 m3, .int .u16 m4, .int .u64 m5, .int .u32 m6, .int .u8 m7, .int .u64 m8, .int .u64 m9, .slice A6 bs.length c7] rfl rfl rfl rfl rfl rfl (by intro u hu; rw [List.mem_singleton.1 hu]; rfl) (zle rfl) rfl rfl rfl fun w8 hS => ?_
 refine zn (zx ?_)
 refine wpN_seq ?_
 refine wpN_of (wp_region_lit ?_)
 refine zR 3 ((14, vP b 1) :: (13, vP b 0) :: (12, vP b 0) :: _) hA rfl fun a hA => zL hA hS 2 rfl rfl rfl rfl rfl rfl rfl rfl rfl fun a hA => zR 1 ((7, .chan (some c2)) :: _) hA rfl fun a hA => zn (zx ?_)
 refine wpN_seq ?_
 refine wpN_seq ?_
 refine wpN_of (wp_region_lit ?_)
 refine zR 1 ((16, yT) :: _) hA rfl fun a hA => zn (zx ?_)
 refine cdN_cond_t hA rfl ?_
 refine wpN_of (wp_region_lit ?_)
 refine zR 3 ((19, vP b 0) :: (18, vP b 0) :: (17, vP b 0) :: _) hA rfl fun a hA => zL hA hS 2 rfl rfl rfl rfl rfl rfl rfl rfl rfl fun a hA => zR 1 ((7, .chan (some c1)) :: _) hA rfl fun a hA => zn (zx ?_)
 refine wpN_seq ?_
 refine wpN_seq ?_
 refine wpN_of (wp_region_lit ?_)
 refine zR 1 ((21, .chan (some c1)) :: _) hA rfl fun a hA => zn (zx ?_)
 refine wpN_of (wp_region_lit ?_)
 refine zLA hA hS 0 [.int .u64 m0, .int .u64 m1, .int .u32 m2, .int .u16 m3, .int .u16 m4, .int .u64 m5, .int .u32 m6, .int .u8 m7, .int .u64 m8, .int .u64 m9, .slice A6 bs.length c7] rfl rfl rfl rfl rfl rfl rfl rfl rfl rfl fun a hA => zn (zx ?_)
 refine wpN_seq ?_
 refine cm_region (is := [0, 1, 2]) rfl ?_
 replace hS := hS.m3
 refine cm_sel_send (v := msgV (m0, m1, m2, m3, m4, m5, m6, m7, m8, m9, A6, c7, bs)) tbOk hA hS rfl rfl rfl rfl rfl (by rw [size_msg]; omega) rfl rfl (by decide) fun w9 a hS hA => ?_
 rw [push_msg] at hS
 refine cm_pure tbOk hA (v := yI) rfl rfl rfl (by decide) rfl fun a hA => ?_
 refine cm_pure tbOk hA (v := yT) rfl rfl rfl (by decide) rfl fun a hA => ?_
 refine cm_end ?_
 refine zx ?_
 refine wpN_block ?_
 refine cdN_cond_t hA rfl ?_
 refine wpN_seq ?_
 refine wpN_of (wp_region_lit ?_)
 refine zR 1 ((6, yN) :: _) hA rfl fun a hA => zn (zx ?_)
 refine wpN_ret (xb_ret ?_)
 refine ret1 (fn := Tryz.f64) hA rfl rfl ?_
 replace hS := hS.m1.d0.m3.m1.m3.m4.m4
 replace hS := hS.join
 replace hS := hS.m3.m3.m3
 replace hS := hS.join3
 exact ⟨_, C5, _, _, ⟨_, _, _, _, _, _, rfl⟩, DD.new hO5, rfl, hS⟩
theorem put_p_room64 {w0 w : World} {F : List Chunk} {L D : Chunk} {b n : Nat} {us ps : List Msg} (hS : St w0 w (L :: D :: F)) (hM : BX b n us ps L) (m0 m1 m2 m3 m4 m5 m6 m7 m8 m9 : Int) {d : Value} {bs : List UInt8} (hd : RdSX w0 (D :: F) 1 d bs.length (rows encB bs)) (hbl : bs.length ≤ 140737488351232) (hl : ps.length < n) :
 Ret Tryz.prog 64 #[vP b 0, .agg #[.int .u64 m0, .int .u64 m1, .int .u32 m2, .int .u16 m3, .int .u16 m4, .int .u64 m5, .int .u32 m6, .int .u8 m7, .int .u64 m8, .int .u64 m9, d], yF] w (fun v w' => ∃ L' E A c, BX b n (us) (ps ++ [(m0, m1, m2, m3, m4, m5, m6, m7, m8, m9, A, c, bs)]) L' ∧ DD w0 E A c bs ∧ v = yN ∧ St w0 w' (L' :: (E ++ D) :: F)) := by
 obtain ⟨c1, c2, s1, r1, s2, r2, rfl⟩ := hM
 replace hS : St w0 w ([(b, rowO [.chan (some c1), .chan (some c2)] 182)] :: [(c1, .chan n (us.map msgV).toArray false s1 r1 false)] :: [(c2, .chan n (ps.map msgV).toArray false s2 r2 false)] :: D :: F) := hS.split3
 obtain ⟨B, d', rfl, hmd, hdx⟩ := (hd _ (hS.tail 3 rfl)).open'
 refine enterN (vs := [vP b 0, .agg #[.int .u64 m0, .int .u64 m1, .int .u32 m2, .int .u16 m3, .int .u16 m4, .int .u64 m5, .int .u32 m6, .int .u8 m7, .int .u64 m8, .int .u64 m9, .slice B bs.length d'], yF]) 27 Tryz.func64 rfl rfl (by simp) ?_; intro a hA
 refine wpN_seq ?_
 refine wpN_of (wp_region_lit ?_)
 refine st_box hA hS [.int .u64 m0, .int .u64 m1, .int .u32 m2, .int .u16 m3, .int .u16 m4, .int .u64 m5, .int .u32 m6, .int .u8 m7, .int .u64 m8, .int .u64 m9, .slice B bs.length d'] rfl rfl rfl rfl rfl (by decide) fun b1 w2 a hS hA => ?_
 refine zR 1 ((6, yN) :: _) hA rfl fun a hA => zn (zx ?_)
 refine wpN_seq ?_
 refine wpN_of (wp_region_lit ?_)
 refine zR 1 ((8, vP b1 10) :: _) hA rfl fun a hA => zL hA hS 0 rfl rfl rfl rfl rfl rfl rfl rfl rfl fun a hA => ?_
 replace hS := hS.nil
 refine st_append tbOk hA (m := 0) (q := bs.length) (xs := rows encB ([] : List UInt8)) (news := rows encB bs) rfl rfl rfl rfl rfl rfl rfl rfl (by decide) (Own.nil 5 1) hS ((hd _ (hS.tail 5 rfl))) (rows_one encB_ok _) (maxLen_le (by omega)) (by show (0 + bs.length) * 1 ≤ 140737488355328; omega) rfl rfl (by decide) ?_
 clear hA hS; intro v3 w4 C5 a hO5 hS hA
 replace hO5 := Own.app (l := ([] : List UInt8)) (l2 := bs) hO5
 replace hO5 : Own 5 1 v3 bs.length (rows encB bs) C5 := hO5
 obtain ⟨A6, c7, rfl, hmc7, hxc7⟩ := hO5.open'
 refine zR 1 ((11, vP b1 10) :: _) hA rfl fun a hA => ?_
 replace hS := hS.m1
 refine st_store tbOk hA hS [.slice A6 bs.length c7] [.int .u64 m0, .int .u64 m1, .int .u32 m2, .int .u16 m3, .int .u16 m4, .int .u64 m5, .int .u32 m6, .int .u8 m7, .int .u64 m8, .int .u64 m9, .slice A6 bs.length c7] rfl rfl rfl rfl rfl rfl (by intro u hu; rw [List.mem_singleton.1 hu]; rfl) (zle rfl) rfl rfl rfl fun w8 hS => ?_
 refine zn (zx ?_)
 refine wpN_seq ?_
 refine wpN_of (wp_region_lit ?_)
 refine zR 3 ((14, vP b 1) :: (13, vP b 0) :: (12, vP b 0) :: _) hA rfl fun a hA => zL hA hS 2 rfl rfl rfl rfl rfl rfl rfl rfl rfl fun a hA => zR 1 ((7, .chan (some c2)) :: _) hA rfl fun a hA => zn (zx ?_)
 refine wpN_seq ?_
 refine wpN_seq ?_
 refine wpN_of (wp_region_lit ?_)
 refine zR 1 ((16, yF) :: _) hA rfl fun a hA => zn (zx ?_)
 refine cdN_cond_f hA rfl ?_
 refine wpN_skip ?_
 refine zx ?_
 refine wpN_seq ?_
 refine wpN_seq ?_
 refine wpN_of (wp_region_lit ?_)
 refine zR 1 ((21, .chan (some c2)) :: _) hA rfl fun a hA => zn (zx ?_)
 refine wpN_of (wp_region_lit ?_)
 refine zLA hA hS 0 [.int .u64 m0, .int .u64 m1, .int .u32 m2, .int .u16 m3, .int .u16 m4, .int .u64 m5, .int .u32 m6, .int .u8 m7, .int .u64 m8, .int .u64 m9, .slice A6 bs.length c7] rfl rfl rfl rfl rfl rfl rfl rfl rfl rfl fun a hA => zn (zx ?_)
 refine wpN_seq ?_
 refine cm_region (is := [0, 1, 2]) rfl ?_
 replace hS := hS.m4
 refine cm_sel_send (v := msgV (m0, m1, m2, m3, m4, m5, m6, m7, m8, m9, A6, c7, bs)) tbOk hA hS rfl rfl rfl rfl rfl (by rw [size_msg]; omega) rfl rfl (by decide) fun w9 a hS hA => ?_
 rw [push_msg] at hS
 refine cm_pure tbOk hA (v := yI) rfl rfl rfl (by decide) rfl fun a hA => ?_
 refine cm_pure tbOk hA (v := yT) rfl rfl rfl (by decide) rfl fun a hA => ?_
 refine cm_end ?_
 refine zx ?_
 refine wpN_block ?_
 refine cdN_cond_t hA rfl ?_
 refine wpN_seq ?_
 refine wpN_of (wp_region_lit ?_)
 refine zR 1 ((6, yN) :: _) hA rfl fun a hA => zn (zx ?_)
 refine wpN_ret (xb_ret ?_)
 refine ret1 (fn := Tryz.f64) hA rfl rfl ?_
 replace hS := hS.m1.d0.m3.m3.m4.m4
 replace hS := hS.join
 replace hS := hS.m3.m3.m3
 replace hS := hS.join3
 exact ⟨_, C5, _, _, ⟨_, _, _, _, _, _, rfl⟩, DD.new hO5, rfl, hS⟩
theorem get_u66 {w0 w : World} {F : List Chunk} {L : Chunk} {b n : Nat} (hS : St w0 w (L :: F)) {x : Msg} {us ps : List Msg} (hM : BX b n (x :: us) ps L) :
 Ret Tryz.prog 66 #[vP b 0] w (fun v w' => ∃ L', BX b n us ps L' ∧ v = .tuple #[.agg #[.int .u64 x.1, .int .u64 x.2.1, .int .u32 x.2.2.1, .int .u16 x.2.2.2.1, .int .u16 x.2.2.2.2.1, .int .u64 x.2.2.2.2.2.1, .int .u32 x.2.2.2.2.2.2.1, .int .u8 x.2.2.2.2.2.2.2.1, .int .u64 x.2.2.2.2.2.2.2.2.1, .int .u64 x.2.2.2.2.2.2.2.2.2.1, .slice x.2.2.2.2.2.2.2.2.2.2.1 x.2.2.2.2.2.2.2.2.2.2.2.2.length x.2.2.2.2.2.2.2.2.2.2.2.1], yT] ∧ St w0 w' (L' :: F)) := by
 obtain ⟨x0, x1, x2, x3, x4, x5, x6, x7, x8, x9, xA, xc, xb⟩ := x
 obtain ⟨c1, c2, s1, r1, s2, r2, rfl⟩ := hM
 replace hS : St w0 w ([(b, rowO [.chan (some c1), .chan (some c2)] 182)] :: [(c1, .chan n (((x0, x1, x2, x3, x4, x5, x6, x7, x8, x9, xA, xc, xb) :: us).map msgV).toArray false s1 r1 false)] :: [(c2, .chan n (ps.map msgV).toArray false s2 r2 false)] :: F) := hS.split3
 refine enterN (vs := [vP b 0]) 25 Tryz.func66 rfl rfl (by simp) ?_; intro a hA
 refine wpN_seq ?_
 refine wpN_of (wp_region_lit ?_)
 refine st_alloc tbOk hA hS [yU, yU, yW, yH, yH, yU, yW, yB, yU, yU, yS] rfl rfl rfl rfl rfl (by decide) fun b1 w2 a hS hA => ?_
 refine zR 1 ((3, yF) :: _) hA rfl fun a hA => zn (zx ?_)
 refine wpN_seq ?_
 refine wpN_seq ?_
 refine wpN_of (wp_region_lit ?_)
 refine zR 3 ((8, vP b 0) :: (7, vP b 0) :: (6, vP b 0) :: _) hA rfl fun a hA => zL hA hS 1 rfl rfl rfl rfl rfl rfl rfl rfl rfl fun a hA => zn (zx ?_)
 refine wpN_seq ?_
 refine cm_region (is := [0, 1, 2]) rfl ?_
 replace hS := hS.m2
 refine cm_sel_recv (v := msgV (x0, x1, x2, x3, x4, x5, x6, x7, x8, x9, xA, xc, xb)) (vs := us.map msgV) tbOk hA hS rfl rfl rfl rfl rfl rfl (by decide) fun w3 a hS hA => ?_
 replace hA := hA.rw 10 (v' := .tuple #[yI, yT, .agg #[.int .u64 x0, .int .u64 x1, .int .u32 x2, .int .u16 x3, .int .u16 x4, .int .u64 x5, .int .u32 x6, .int .u8 x7, .int .u64 x8, .int .u64 x9, .slice xA xb.length xc]]) rfl rfl
 refine cm_pure tbOk hA (v := yI) rfl rfl rfl (by decide) rfl fun a hA => ?_
 refine cm_pure tbOk hA (v := yT) rfl rfl rfl (by decide) rfl fun a hA => ?_
 refine cm_end ?_
 refine zx ?_
 refine wpN_block ?_
 refine cdN_cond_t hA rfl ?_
 refine wpN_seq ?_
 refine wpN_of (wp_region_lit ?_)
 refine zR 1 ((13, .agg #[.int .u64 x0, .int .u64 x1, .int .u32 x2, .int .u16 x3, .int .u16 x4, .int .u64 x5, .int .u32 x6, .int .u8 x7, .int .u64 x8, .int .u64 x9, .slice xA xb.length xc]) :: _) hA rfl fun a hA => ?_
 refine st_alloc tbOk hA hS [yU, yU, yW, yH, yH, yU, yW, yB, yU, yU, yS] rfl rfl rfl rfl rfl (by decide) fun b4 w5 a hS hA => ?_
 refine st_store tbOk hA hS [.int .u64 x0, .int .u64 x1, .int .u32 x2, .int .u16 x3, .int .u16 x4, .int .u64 x5, .int .u32 x6, .int .u8 x7, .int .u64 x8, .int .u64 x9, .slice xA xb.length xc] [.int .u64 x0, .int .u64 x1, .int .u32 x2, .int .u16 x3, .int .u16 x4, .int .u64 x5, .int .u32 x6, .int .u8 x7, .int .u64 x8, .int .u64 x9, .slice xA xb.length xc] rfl rfl rfl rfl rfl rfl (zn1 rfl) (zle rfl) rfl rfl rfl fun w6 hS => ?_
 refine zn (zx ?_)
 refine wpN_seq ?_
 refine wpN_of (wp_region_lit ?_)
 refine zLA hA hS 0 [.int .u64 x0, .int .u64 x1, .int .u32 x2, .int .u16 x3, .int .u16 x4, .int .u64 x5, .int .u32 x6, .int .u8 x7, .int .u64 x8, .int .u64 x9, .slice xA xb.length xc] rfl rfl rfl rfl rfl rfl rfl rfl rfl rfl fun a hA => ?_
 replace hS := hS.m2
 refine st_store tbOk hA hS [.int .u64 x0, .int .u64 x1, .int .u32 x2, .int .u16 x3, .int .u16 x4, .int .u64 x5, .int .u32 x6, .int .u8 x7, .int .u64 x8, .int .u64 x9, .slice xA xb.length xc] [.int .u64 x0, .int .u64 x1, .int .u32 x2, .int .u16 x3, .int .u16 x4, .int .u64 x5, .int .u32 x6, .int .u8 x7, .int .u64 x8, .int .u64 x9, .slice xA xb.length xc] rfl rfl rfl rfl rfl rfl (zn1 rfl) (zle rfl) rfl rfl rfl fun w7 hS => ?_
 refine zR 1 ((3, yT) :: _) hA rfl fun a hA => zn (zx ?_)
 refine wpN_ret (xb_ret (xt_ret ?_))
 refine retc2 tbOk (fn := Tryz.f66) (cs := [.int .u64 x0, .int .u64 x1, .int .u32 x2, .int .u16 x3, .int .u16 x4, .int .u64 x5, .int .u32 x6, .int .u8 x7, .int .u64 x8, .int .u64 x9, .slice xA xb.length xc]) hA rfl rfl rfl rfl rfl rfl (cells_row (hS.heapAt 0 rfl) rfl) ?_
 replace hS := hS.d0.d0.m2.m1.m2
 replace hS := hS.join3
 exact ⟨_, ⟨_, _, _, _, _, _, rfl⟩, rfl, hS⟩
theorem get_p66 {w0 w : World} {F : List Chunk} {L : Chunk} {b n : Nat} (hS : St w0 w (L :: F)) {x : Msg} {ps : List Msg} (hM : BX b n [] (x :: ps) L) :
 Ret Tryz.prog 66 #[vP b 0] w (fun v w' => ∃ L', BX b n [] ps L' ∧ v = .tuple #[.agg #[.int .u64 x.1, .int .u64 x.2.1, .int .u32 x.2.2.1, .int .u16 x.2.2.2.1, .int .u16 x.2.2.2.2.1, .int .u64 x.2.2.2.2.2.1, .int .u32 x.2.2.2.2.2.2.1, .int .u8 x.2.2.2.2.2.2.2.1, .int .u64 x.2.2.2.2.2.2.2.2.1, .int .u64 x.2.2.2.2.2.2.2.2.2.1, .slice x.2.2.2.2.2.2.2.2.2.2.1 x.2.2.2.2.2.2.2.2.2.2.2.2.length x.2.2.2.2.2.2.2.2.2.2.2.1], yT] ∧ St w0 w' (L' :: F)) := by
 obtain ⟨x0, x1, x2, x3, x4, x5, x6, x7, x8, x9, xA, xc, xb⟩ := x
 obtain ⟨c1, c2, s1, r1, s2, r2, rfl⟩ := hM
 replace hS : St w0 w ([(b, rowO [.chan (some c1), .chan (some c2)] 182)] :: [(c1, .chan n (([] : List Msg).map msgV).toArray false s1 r1 false)] :: [(c2, .chan n (((x0, x1, x2, x3, x4, x5, x6, x7, x8, x9, xA, xc, xb) :: ps).map msgV).toArray false s2 r2 false)] :: F) := hS.split3
 refine enterN (vs := [vP b 0]) 25 Tryz.func66 rfl rfl (by simp) ?_; intro a hA
 refine wpN_seq ?_
 refine wpN_of (wp_region_lit ?_)
 refine st_alloc tbOk hA hS [yU, yU, yW, yH, yH, yU, yW, yB, yU, yU, yS] rfl rfl rfl rfl rfl (by decide) fun b1 w2 a hS hA => ?_
 refine zR 1 ((3, yF) :: _) hA rfl fun a hA => zn (zx ?_)
 refine wpN_seq ?_
 refine wpN_seq ?_
 refine wpN_of (wp_region_lit ?_)
 refine zR 3 ((8, vP b 0) :: (7, vP b 0) :: (6, vP b 0) :: _) hA rfl fun a hA => zL hA hS 1 rfl rfl rfl rfl rfl rfl rfl rfl rfl fun a hA => zn (zx ?_)
 refine wpN_seq ?_
 refine cm_region (is := [0, 1, 2]) rfl ?_
 replace hS := hS.m2
 refine cm_sel_none tbOk hA hS rfl rfl rfl rfl rfl rfl (by decide) fun a hA => ?_
 refine cm_pure tbOk hA (v := .int .i64 (-1)) rfl rfl rfl (by decide) rfl fun a hA => ?_
 refine cm_pure tbOk hA (v := yF) rfl rfl rfl (by decide) rfl fun a hA => ?_
 refine cm_end ?_
 refine zx ?_
 refine wpN_block ?_
 refine cdN_cond_f hA rfl ?_
 refine wpN_skip ?_
 refine zm (zx ?_)
 refine wpN_seq ?_
 refine wpN_of (wp_region_lit ?_)
 refine zR 3 ((17, vP b 1) :: (16, vP b 0) :: (15, vP b 0) :: _) hA rfl fun a hA => zL hA hS 2 rfl rfl rfl rfl rfl rfl rfl rfl rfl fun a hA => zn (zx ?_)
 refine wpN_seq ?_
 refine cm_region (is := [0, 1, 2]) rfl ?_
 replace hS := hS.m3
 refine cm_sel_recv (v := msgV (x0, x1, x2, x3, x4, x5, x6, x7, x8, x9, xA, xc, xb)) (vs := ps.map msgV) tbOk hA hS rfl rfl rfl rfl rfl rfl (by decide) fun w4 a hS hA => ?_
 replace hA := hA.rw 19 (v' := .tuple #[yI, yT, .agg #[.int .u64 x0, .int .u64 x1, .int .u32 x2, .int .u16 x3, .int .u16 x4, .int .u64 x5, .int .u32 x6, .int .u8 x7, .int .u64 x8, .int .u64 x9, .slice xA xb.length xc]]) rfl rfl
 refine cm_pure tbOk hA (v := yI) rfl rfl rfl (by decide) rfl fun a hA => ?_
 refine cm_pure tbOk hA (v := yT) rfl rfl rfl (by decide) rfl fun a hA => ?_
 refine cm_end ?_
 refine zx ?_
 refine wpN_block ?_
 refine cdN_cond_t hA rfl ?_
 refine wpN_seq ?_
 refine wpN_of (wp_region_lit ?_)
 refine zR 1 ((23, .agg #[.int .u64 x0, .int .u64 x1, .int .u32 x2, .int .u16 x3, .int .u16 x4, .int .u64 x5, .int .u32 x6, .int .u8 x7, .int .u64 x8, .int .u64 x9, .slice xA xb.length xc]) :: _) hA rfl fun a hA => ?_
 refine st_alloc tbOk hA hS [yU, yU, yW, yH, yH, yU, yW, yB, yU, yU, yS] rfl rfl rfl rfl rfl (by decide) fun b5 w6 a hS hA => ?_
 refine st_store tbOk hA hS [.int .u64 x0, .int .u64 x1, .int .u32 x2, .int .u16 x3, .int .u16 x4, .int .u64 x5, .int .u32 x6, .int .u8 x7, .int .u64 x8, .int .u64 x9, .slice xA xb.length xc] [.int .u64 x0, .int .u64 x1, .int .u32 x2, .int .u16 x3, .int .u16 x4, .int .u64 x5, .int .u32 x6, .int .u8 x7, .int .u64 x8, .int .u64 x9, .slice xA xb.length xc] rfl rfl rfl rfl rfl rfl (zn1 rfl) (zle rfl) rfl rfl rfl fun w7 hS => ?_
 refine zn (zx ?_)
 refine wpN_seq ?_
 refine wpN_of (wp_region_lit ?_)
 refine zLA hA hS 0 [.int .u64 x0, .int .u64 x1, .int .u32 x2, .int .u16 x3, .int .u16 x4, .int .u64 x5, .int .u32 x6, .int .u8 x7, .int .u64 x8, .int .u64 x9, .slice xA xb.length xc] rfl rfl rfl rfl rfl rfl rfl rfl rfl rfl fun a hA => ?_
 replace hS := hS.m3
 refine st_store tbOk hA hS [.int .u64 x0, .int .u64 x1, .int .u32 x2, .int .u16 x3, .int .u16 x4, .int .u64 x5, .int .u32 x6, .int .u8 x7, .int .u64 x8, .int .u64 x9, .slice xA xb.length xc] [.int .u64 x0, .int .u64 x1, .int .u32 x2, .int .u16 x3, .int .u16 x4, .int .u64 x5, .int .u32 x6, .int .u8 x7, .int .u64 x8, .int .u64 x9, .slice xA xb.length xc] rfl rfl rfl rfl rfl rfl (zn1 rfl) (zle rfl) rfl rfl rfl fun w8 hS => ?_
 refine zR 1 ((3, yT) :: _) hA rfl fun a hA => zn (zx ?_)
 refine wpN_ret (xb_ret ?_)
 refine retc2 tbOk (fn := Tryz.f66) (cs := [.int .u64 x0, .int .u64 x1, .int .u32 x2, .int .u16 x3, .int .u16 x4, .int .u64 x5, .int .u32 x6, .int .u8 x7, .int .u64 x8, .int .u64 x9, .slice xA xb.length xc]) hA rfl rfl rfl rfl rfl rfl (cells_row (hS.heapAt 0 rfl) rfl) ?_
 replace hS := hS.d0.d0.m1.m2
 replace hS := hS.join3
 exact ⟨_, ⟨_, _, _, _, _, _, rfl⟩, rfl, hS⟩
theorem get_none66 {w0 w : World} {F : List Chunk} {L : Chunk} {b n : Nat} (hS : St w0 w (L :: F)) (hM : BX b n [] [] L) :
 Ret Tryz.prog 66 #[vP b 0] w (fun v w' => ∃ L', BX b n [] [] L' ∧ v = .tuple #[.agg #[yU, yU, yW, yH, yH, yU, yW, yB, yU, yU, yS], yF] ∧ St w0 w' (L' :: F)) := by
 obtain ⟨c1, c2, s1, r1, s2, r2, rfl⟩ := hM
 replace hS : St w0 w ([(b, rowO [.chan (some c1), .chan (some c2)] 182)] :: [(c1, .chan n (([] : List Msg).map msgV).toArray false s1 r1 false)] :: [(c2, .chan n (([] : List Msg).map msgV).toArray false s2 r2 false)] :: F) := hS.split3
 refine enterN (vs := [vP b 0]) 25 Tryz.func66 rfl rfl (by simp) ?_; intro a hA
 refine wpN_seq ?_
 refine wpN_of (wp_region_lit ?_)
 refine st_alloc tbOk hA hS [yU, yU, yW, yH, yH, yU, yW, yB, yU, yU, yS] rfl rfl rfl rfl rfl (by decide) fun b1 w2 a hS hA => ?_
 refine zR 1 ((3, yF) :: _) hA rfl fun a hA => zn (zx ?_)
 refine wpN_seq ?_
 refine wpN_seq ?_
 refine wpN_of (wp_region_lit ?_)
 refine zR 3 ((8, vP b 0) :: (7, vP b 0) :: (6, vP b 0) :: _) hA rfl fun a hA => zL hA hS 1 rfl rfl rfl rfl rfl rfl rfl rfl rfl fun a hA => zn (zx ?_)
 refine wpN_seq ?_
 refine cm_region (is := [0, 1, 2]) rfl ?_
 replace hS := hS.m2
 refine cm_sel_none tbOk hA hS rfl rfl rfl rfl rfl rfl (by decide) fun a hA => ?_
 refine cm_pure tbOk hA (v := .int .i64 (-1)) rfl rfl rfl (by decide) rfl fun a hA => ?_
 refine cm_pure tbOk hA (v := yF) rfl rfl rfl (by decide) rfl fun a hA => ?_
 refine cm_end ?_
 refine zx ?_
 refine wpN_block ?_
 refine cdN_cond_f hA rfl ?_
 refine wpN_skip ?_
 refine zm (zx ?_)
 refine wpN_seq ?_
 refine wpN_of (wp_region_lit ?_)
 refine zR 3 ((17, vP b 1) :: (16, vP b 0) :: (15, vP b 0) :: _) hA rfl fun a hA => zL hA hS 2 rfl rfl rfl rfl rfl rfl rfl rfl rfl fun a hA => zn (zx ?_)
 refine wpN_seq ?_
 refine cm_region (is := [0, 1, 2]) rfl ?_
 replace hS := hS.m3
 refine cm_sel_none tbOk hA hS rfl rfl rfl rfl rfl rfl (by decide) fun a hA => ?_
 refine cm_pure tbOk hA (v := .int .i64 (-1)) rfl rfl rfl (by decide) rfl fun a hA => ?_
 refine cm_pure tbOk hA (v := yF) rfl rfl rfl (by decide) rfl fun a hA => ?_
 refine cm_end ?_
 refine zx ?_
 refine wpN_block ?_
 refine cdN_cond_f hA rfl ?_
 refine wpN_seq ?_
 refine wpN_of (wp_region_lit ?_)
 refine st_val hA rfl rfl (by decide) (rn_build tbOk hA rfl rfl rfl rfl rfl rfl rfl) fun a hA => ?_
 replace hS := hS.m2
 refine st_store tbOk hA hS [yU, yU, yW, yH, yH, yU, yW, yB, yU, yU, yS] [yU, yU, yW, yH, yH, yU, yW, yB, yU, yU, yS] rfl rfl rfl rfl rfl rfl (zn1 rfl) (zle rfl) rfl rfl rfl fun w5 hS => ?_
 refine zR 1 ((3, yF) :: _) hA rfl fun a hA => zn (zx ?_)
 refine wpN_ret (xb_ret ?_)
 refine retc2 tbOk (fn := Tryz.f66) (cs := [yU, yU, yW, yH, yH, yU, yW, yB, yU, yU, yS]) hA rfl rfl rfl rfl rfl rfl (cells_row (hS.heapAt 0 rfl) rfl) ?_
 replace hS := hS.d0.m1.m2
 replace hS := hS.join3
 exact ⟨_, ⟨_, _, _, _, _, _, rfl⟩, rfl, hS⟩
end Go.Proofs.YthiakdmhpfkjbaaGreatDoor

set_option linter.unusedVariables false
set_option linter.unusedSimpArgs false
set_option maxRecDepth 4000
namespace Go.Proofs.YthiakdmhpfkjbaaGreatDoor
open Go Go.SK
def encEntry (x : Int × Int × Int × Int × Int × Int × Int × Int × Int × Int × Int × Int × Int × Option Addr × Nat × List UInt8) : List Value := [.int .u64 x.1, .int .u32 x.2.1, .int .i64 x.2.2.1, .int .u64 x.2.2.2.1, .int .u64 x.2.2.2.2.1, .int .u32 x.2.2.2.2.2.1, .int .u16 x.2.2.2.2.2.2.1, .int .u16 x.2.2.2.2.2.2.2.1, .int .u64 x.2.2.2.2.2.2.2.2.1, .int .u32 x.2.2.2.2.2.2.2.2.2.1, .int .u8 x.2.2.2.2.2.2.2.2.2.2.1, .int .u64 x.2.2.2.2.2.2.2.2.2.2.2.1, .int .u64 x.2.2.2.2.2.2.2.2.2.2.2.2.1, .slice x.2.2.2.2.2.2.2.2.2.2.2.2.2.1 x.2.2.2.2.2.2.2.2.2.2.2.2.2.2.2.length x.2.2.2.2.2.2.2.2.2.2.2.2.2.2.1]
theorem encEntry_ok : Enc encEntry 14 := ⟨fun _ => rfl, fun x u hu => by simp only [encEntry, List.mem_cons, List.not_mem_nil, or_false] at hu; rcases hu with rfl | rfl | rfl | rfl | rfl | rfl | rfl | rfl | rfl | rfl | rfl | rfl | rfl | rfl <;> rfl⟩
def encEntry_dd (w0 : World) (D : Chunk) (x : Int × Int × Int × Int × Int × Int × Int × Int × Int × Int × Int × Int × Int × Option Addr × Nat × List UInt8) : Prop := DD w0 D x.2.2.2.2.2.2.2.2.2.2.2.2.2.1 x.2.2.2.2.2.2.2.2.2.2.2.2.2.2.1 x.2.2.2.2.2.2.2.2.2.2.2.2.2.2.2
abbrev Ent := Int × Int × Int × Int × Int × Int × Int × Int × Int × Int × Int × Int × Int × Option Addr × Nat × List UInt8
def fnd (rp id : Int) (x : Ent) : Bool := x.1 == rp && x.2.1 == id
def SR (b : Nat) (es : List Ent) (L : Chunk) : Prop := ∃ v C, Own 215 14 v es.length (rows encEntry es) C ∧ L = (b, rowO [v] 127) :: C
theorem SR.new (b : Nat) : SR b [] [(b, rowO [yS] 127)] := ⟨_, [], Own.nil _ _, rfl⟩
theorem indexFunc100 {w0 w : World} {F : List Chunk} (hS : St w0 w F) {v : Value} {l : List (Int × Int × Int × Int × Int × Int × Int × Int × Int × Int × Int × Int × Int × Option Addr × Nat × List UInt8)} (hr : RdS w0 F 14 v l.length (rows encEntry l)) {g : Nat} {first cap : Array Value} {p : (Int × Int × Int × Int × Int × Int × Int × Int × Int × Int × Int × Int × Int × Option Addr × Nat × List UInt8) → Bool} (hg : IsFn Tryz.prog g) (hp : Pred Tryz.prog w0 F g first cap (fun x => .agg (encEntry x).toArray) p) :
 Ret Tryz.prog 100 #[v, .func (.func g) first cap] w (fun v w' => v = .int .i64 (idx p l) ∧ St w0 w' F) := by
 obtain ⟨A, c, rfl, hmc, hcx⟩ := (hr w hS).open'
 refine enter (vs := [.slice A l.length c, .func (.func g) first cap]) 19 Tryz.func100 rfl rfl (by simp) ?_; intro a hA
 refine zs (zr (zR 1 ((4, yI) :: _) hA rfl fun a hA => zn (zx (zs (zs (zr (zR 3 ((8, yI) :: (7, vI l.length) :: (6, .slice A l.length c) :: _) hA rfl fun a hA => zn (zx (zb ?_)))))))))
 refine wp_loop_ghost (fun m a w => ∃ (k : Nat), m = l.length - k ∧ Has a 19 [(0, .slice A l.length c), (1, .func (.func g) first cap), (7, vI l.length), (8, vI k)] ∧ St w0 w (F) ∧ (k ≤ l.length) ∧ (∀ (i : Nat) (y : (Int × Int × Int × Int × Int × Int × Int × Int × Int × Int × Int × Int × Int × Option Addr × Nat × List UInt8)), i < k → l[i]? = some y → p y = false)) (l.length - 0)
  ⟨0, rfl, (hA.sel [0, 1, 7, 8] rfl), hS, Nat.zero_le _, fun i y hi => absurd hi (by omega)⟩ ?_
 clear hA hS; rintro m0 a w1 ⟨k, rfl, hA, hS, hk, hb⟩
 refine zs (zr (zR 1 ((9, .bool (decide (((k : Nat) : Int) < ((l.length : Nat) : Int)))) :: _) hA rfl fun a hA => zn (zx (zs ?_))))
 by_cases hc2 : ((k : Nat) : Int) < ((l.length : Nat) : Int)
 · first
   | (exfalso; omega)
   | (replace hA := hA.rw 9 (v' := yT) rfl (vb_true hc2)
      refine cd_cond_t hA rfl (zk (zx (zs (zb (zs (zr (zR 2 ((5, vI k) :: (10, vI k) :: _) hA rfl fun a hA => zn (zx (zs (zr (zR 3 ((13, vI k) :: (12, .slice A l.length c) :: (11, .func (.func g) first cap) :: _) hA rfl fun a hA => ?_)))))))))))
      obtain ⟨b3, o4, rfl⟩ := (hr _ hS).isSome (k := k) (by omega)
      refine st_val hA rfl rfl (by decide) (rn_indexAddr tbOk hA k (o4 + (k * 14)) rfl rfl rfl rfl rfl rfl (by rfl) (by omega) (by first | rfl | simp [Nat.mul_one, Nat.zero_add] | omega)) fun a hA => ?_
      obtain ⟨x5, hx5⟩ := get_ex (l := l) (k := k) (by omega)
      obtain ⟨x5f0, x5f1, x5f2, x5f3, x5f4, x5f5, x5f6, x5f7, x5f8, x5f9, x5f10, x5f11, x5f12, x5A13, x5c13, x5b13⟩ := x5
      refine st_val hA rfl rfl (by decide) (rn_loadA tbOk hA ([.int .u64 x5f0, .int .u32 x5f1, .int .i64 x5f2, .int .u64 x5f3, .int .u64 x5f4, .int .u32 x5f5, .int .u16 x5f6, .int .u16 x5f7, .int .u64 x5f8, .int .u32 x5f9, .int .u8 x5f10, .int .u64 x5f11, .int .u64 x5f12, .slice x5A13 x5b13.length x5c13]) rfl rfl rfl rfl (by rfl) ((hr _ hS).elem (k := k) encEntry_ok hx5)) fun a hA => ?_
      refine st_call hA rfl rfl rfl rfl hg rfl rfl (by decide) (hp _ (x5f0, x5f1, x5f2, x5f3, x5f4, x5f5, x5f6, x5f7, x5f8, x5f9, x5f10, x5f11, x5f12, x5A13, x5c13, x5b13) hS) ?_
      clear hA; rintro v w6 a ⟨rfl, hS'⟩ hA; replace hS : St w0 w6 (F) := hS.trans hS'
      refine zn (zx ?_)
      by_cases hpx : (p (x5f0, x5f1, x5f2, x5f3, x5f4, x5f5, x5f6, x5f7, x5f8, x5f9, x5f10, x5f11, x5f12, x5A13, x5c13, x5b13)) = true
      · first
        | (exfalso; omega)
        | (replace hA := hA.rw 16 (v' := yT) rfl (vb_t hpx)
           refine cd_cond_t hA rfl (zs (zr (zR 2 ((4, vI k) :: (17, vI k) :: _) hA rfl fun a hA => zn (zx ?_))))
           refine wp_ret (xb_ret (xt_ret (xt_ret (xb_ret (xt_ret ?_)))))
           refine ret1 (fn := Tryz.f100) hA rfl rfl ?_
           exact ⟨vint (idx_some hx5 hpx (fun i y hi hy => hb i y hi hy)).symm, hS⟩)
      · first
        | (exfalso; omega)
        | (replace hA := hA.rw 16 (v' := yF) rfl (vb_f hpx)
           refine cd_cond_f hA rfl (zk (zm (zx (zr (zR 1 ((18, .int .i64 (IntKind.i64.wrap (((k : Nat) : Int) + 1))) :: _) hA rfl fun a hA => ?_)))))
           replace hA := hA.rw 18 (v' := vI (k + 1)) rfl (wr64 (by omega) (by omega) (by omega))
           refine zR 1 ((8, vI (k + 1)) :: _) hA rfl fun a hA => zn ?_
           exact lp_next _ (by omega) ⟨(k + 1), rfl, (hA.sel [0, 1, 7, 8] rfl), hS, by omega, fun i y hi hy => (Nat.lt_succ_iff_lt_or_eq.1 hi).elim (fun h => hb i y h hy) (fun h => by subst h; rw [hx5] at hy; injection hy with hy; subst hy; simpa using hpx)⟩))
 · first
   | (exfalso; omega)
   | (replace hA := hA.rw 9 (v' := yF) rfl (vb_false hc2)
      refine cd_cond_f hA rfl ?_
      refine wp_exit ?_
      refine xt_exit (xt_exit (cd_exit_eq (zx (zs (zr (zR 1 ((4, .int .i64 (-1)) :: _) hA rfl fun a hA => zn (zx ?_)))))))
      refine wp_ret ?_
      refine ret1 (fn := Tryz.f100) hA rfl rfl ?_
      exact ⟨vint (idx_none (fun i y hy => hb i y (by have := (List.getElem?_eq_some_iff.1 hy).1; omega) hy)).symm, hS⟩)
theorem fndc121 {w0 w : World} {F : List Chunk} (hS : St w0 w F) {bx : Nat} {rp id : Int} (hc1 : ∀ w', St w0 w' F → w'.cell? ⟨bx, 1, none⟩ = some (.int .u64 rp)) (hc2 : ∀ w', St w0 w' F → w'.cell? ⟨bx, 2, none⟩ = some (.int .u32 id)) (x : Ent) :
 Ret Tryz.prog 121 #[.agg #[.int .u64 x.1, .int .u32 x.2.1, .int .i64 x.2.2.1, .int .u64 x.2.2.2.1, .int .u64 x.2.2.2.2.1, .int .u32 x.2.2.2.2.2.1, .int .u16 x.2.2.2.2.2.2.1, .int .u16 x.2.2.2.2.2.2.2.1, .int .u64 x.2.2.2.2.2.2.2.2.1, .int .u32 x.2.2.2.2.2.2.2.2.2.1, .int .u8 x.2.2.2.2.2.2.2.2.2.2.1, .int .u64 x.2.2.2.2.2.2.2.2.2.2.2.1, .int .u64 x.2.2.2.2.2.2.2.2.2.2.2.2.1, .slice x.2.2.2.2.2.2.2.2.2.2.2.2.2.1 x.2.2.2.2.2.2.2.2.2.2.2.2.2.2.2.length x.2.2.2.2.2.2.2.2.2.2.2.2.2.2.1], vP bx 0] w (fun v w' => v = .bool (fnd rp id x) ∧ St w0 w' F) := by
 refine enter (vs := [.agg #[.int .u64 x.1, .int .u32 x.2.1, .int .i64 x.2.2.1, .int .u64 x.2.2.2.1, .int .u64 x.2.2.2.2.1, .int .u32 x.2.2.2.2.2.1, .int .u16 x.2.2.2.2.2.2.1, .int .u16 x.2.2.2.2.2.2.2.1, .int .u64 x.2.2.2.2.2.2.2.2.1, .int .u32 x.2.2.2.2.2.2.2.2.2.1, .int .u8 x.2.2.2.2.2.2.2.2.2.2.1, .int .u64 x.2.2.2.2.2.2.2.2.2.2.2.1, .int .u64 x.2.2.2.2.2.2.2.2.2.2.2.2.1, .slice x.2.2.2.2.2.2.2.2.2.2.2.2.2.1 x.2.2.2.2.2.2.2.2.2.2.2.2.2.2.2.length x.2.2.2.2.2.2.2.2.2.2.2.2.2.2.1], vP bx 0]) 16 Tryz.func121 rfl rfl (by simp) ?_; intro a hA
 refine zs (zr ?_)
 refine st_box hA hS [.int .u64 x.1, .int .u32 x.2.1, .int .i64 x.2.2.1, .int .u64 x.2.2.2.1, .int .u64 x.2.2.2.2.1, .int .u32 x.2.2.2.2.2.1, .int .u16 x.2.2.2.2.2.2.1, .int .u16 x.2.2.2.2.2.2.2.1, .int .u64 x.2.2.2.2.2.2.2.2.1, .int .u32 x.2.2.2.2.2.2.2.2.2.1, .int .u8 x.2.2.2.2.2.2.2.2.2.2.1, .int .u64 x.2.2.2.2.2.2.2.2.2.2.2.1, .int .u64 x.2.2.2.2.2.2.2.2.2.2.2.2.1, .slice x.2.2.2.2.2.2.2.2.2.2.2.2.2.1 x.2.2.2.2.2.2.2.2.2.2.2.2.2.2.2.length x.2.2.2.2.2.2.2.2.2.2.2.2.2.2.1] rfl rfl rfl rfl rfl (by decide) fun b1 w2 a hS hA => ?_
 refine zR 1 ((3, yF) :: _) hA rfl fun a hA => zn (zx (zs (zr (zR 1 ((4, vP b1 0) :: _) hA rfl fun a hA => zL hA hS 0 rfl rfl rfl rfl rfl rfl rfl rfl rfl fun a hA => zR 1 ((6, vP bx 1) :: _) hA rfl fun a hA => st_val hA rfl rfl (by decide) (rn_load tbOk hA rfl rfl rfl rfl (hc1 _ (hS.tail 1 rfl))) fun a hA => zR 2 ((9, .bool (x.1 == rp)) :: (8, .bool (x.1 == rp)) :: _) hA rfl fun a hA => ?_))))
 by_cases hc3 : x.1 = rp
 · replace hA := hA.rw 8 (v' := yT) rfl (vb_eq_t hc3)
   replace hA := hA.rw 9 (v' := yT) rfl (vb_eq_t hc3)
   refine zR 1 ((10, vP b1 1) :: _) hA rfl fun a hA => zL hA hS 0 rfl rfl rfl rfl rfl rfl rfl rfl rfl fun a hA => zR 1 ((12, vP bx 2) :: _) hA rfl fun a hA => st_val hA rfl rfl (by decide) (rn_load tbOk hA rfl rfl rfl rfl (hc2 _ (hS.tail 1 rfl))) fun a hA => zR 3 ((3, .bool (x.2.1 == id)) :: (15, .bool (x.2.1 == id)) :: (14, .bool (x.2.1 == id)) :: _) hA rfl fun a hA => zn (zx ?_)
   refine wp_ret ?_
   refine ret1 (fn := Tryz.f121) hA rfl rfl ?_
   replace hS := hS.d0
   exact ⟨congrArg Value.bool (by have hq : (x.1 == rp) = true := beq_iff_eq.2 (by assumption); simp [fnd, hq]), hS⟩
 · replace hA := hA.rw 8 (v' := yF) rfl (vb_eq_f hc3)
   replace hA := hA.rw 9 (v' := yF) rfl (vb_eq_f hc3)
   refine zR 7 ((3, yF) :: (15, yF) :: (14, undef) :: (13, undef) :: (12, undef) :: (11, undef) :: (10, undef) :: _) hA rfl fun a hA => zn (zx ?_)
   refine wp_ret ?_
   refine ret1 (fn := Tryz.f121) hA rfl rfl ?_
   replace hS := hS.d0
   exact ⟨congrArg Value.bool (by simp [fnd]; intros; omega), hS⟩
theorem fndcP {w0 : World} {F : List Chunk} {bx : Nat} {rp id : Int} (hc1 : ∀ w', St w0 w' F → w'.cell? ⟨bx, 1, none⟩ = some (.int .u64 rp)) (hc2 : ∀ w', St w0 w' F → w'.cell? ⟨bx, 2, none⟩ = some (.int .u32 id)) : Pred Tryz.prog w0 F 121 #[] #[vP bx 0] (fun x => .agg (encEntry x).toArray) (fun x => fnd rp id x) := by
  intro w x hS
  exact fndc121 (St.refl w) (fun w' h => h.old (hc1 w hS)) (fun w' h => h.old (hc2 w hS)) x
theorem find99 {w0 w : World} {F : List Chunk} {L : Chunk} {b : Nat} {es : List Ent} (hS : St w0 w (L :: F)) (hM : SR b es L) (m0 m1 m2 m3 m4 m5 m6 m7 m8 m9 : Int) (d : Value) :
 Ret Tryz.prog 99 #[vP b 0, .agg #[.int .u64 m0, .int .u64 m1, .int .u32 m2, .int .u16 m3, .int .u16 m4, .int .u64 m5, .int .u32 m6, .int .u8 m7, .int .u64 m8, .int .u64 m9, d]] w (fun v w' => ∃ L', SR b es L' ∧ v = .int .i64 (idx (fun x => fnd m1 m2 x) es) ∧ St w0 w' (L' :: F)) := by
 obtain ⟨v, C, hO, rfl⟩ := hM
 obtain ⟨A, c, rfl, hmc, hcx⟩ := hO.open'
 replace hS : St w0 w ([(b, rowO [.slice A es.length c] 127)] :: C :: F) := hS.split
 refine enter (vs := [vP b 0, .agg #[.int .u64 m0, .int .u64 m1, .int .u32 m2, .int .u16 m3, .int .u16 m4, .int .u64 m5, .int .u32 m6, .int .u8 m7, .int .u64 m8, .int .u64 m9, d]]) 11 Tryz.func99 rfl rfl (by simp) ?_; intro a hA
 refine zs (zr ?_)
 refine st_box hA hS [.int .u64 m0, .int .u64 m1, .int .u32 m2, .int .u16 m3, .int .u16 m4, .int .u64 m5, .int .u32 m6, .int .u8 m7, .int .u64 m8, .int .u64 m9, d] rfl rfl rfl rfl rfl (by decide) fun b1 w2 a hS hA => ?_
 refine zR 1 ((4, yI) :: _) hA rfl fun a hA => zn (zx (zs (zr (zR 3 ((7, vP b 0) :: (6, vP b 0) :: (5, vP b 0) :: _) hA rfl fun a hA => zL hA hS 1 rfl rfl rfl rfl rfl rfl rfl rfl rfl fun a hA => zR 1 ((9, .func (.func 121) #[] #[vP b1 0]) :: _) hA rfl fun a hA => ?_))))
 refine st_call0 hA rfl rfl rfl isfn100 rfl rfl (by decide) (indexFunc100 hS (l := es) (RdS.own hO 2 rfl) isfn121 (fndcP (bx := b1) (fun w' h => cell_row (h.heapAt 0 rfl) rfl) (fun w' h => cell_row (h.heapAt 0 rfl) rfl))) ?_
 clear hA hS; rintro v w3 a ⟨rfl, hS⟩ hA
 refine zR 1 ((4, .int .i64 (idx (fun x => fnd m1 m2 x) es)) :: _) hA rfl fun a hA => zn (zx ?_)
 refine wp_ret ?_
 refine ret1 (fn := Tryz.f99) hA rfl rfl ?_
 replace hS := hS.d0.m1.m1
 replace hS := hS.join
 exact ⟨_, ⟨_, _, hO, rfl⟩, rfl, hS⟩
theorem take_new68 {w0 w : World} {F : List Chunk} {L D : Chunk} {b : Nat} {es : List Ent} (hS : St w0 w (L :: D :: F)) (hM : SR b es L) (m0 m1 m2 m3 m4 m5 m6 m7 m8 m9 : Int) (d : Value) (hno : ∀ (i : Nat) (y : Ent), es[i]? = some y → fnd m1 m2 y = false) (hl : es.length < 32) :
 Ret Tryz.prog 68 #[vP b 0, .agg #[.int .u64 m0, .int .u64 m1, .int .u32 m2, .int .u16 m3, .int .u16 m4, .int .u64 m5, .int .u32 m6, .int .u8 m7, .int .u64 m8, .int .u64 m9, d]] w (fun v w' => ∃ L', SR b (es ++ [(m1, m2, 1, 0, 0, 0, 0, 0, 0, 0, 0, 0, 0, none, 0, ([] : List UInt8))]) L' ∧ v = .tuple #[yI, .agg #[yU, yU, yW, yH, yH, yU, yW, yB, yU, yU, yS], yN] ∧ St w0 w' (L' :: D :: F)) := by
 refine enter (vs := [vP b 0, .agg #[.int .u64 m0, .int .u64 m1, .int .u32 m2, .int .u16 m3, .int .u16 m4, .int .u64 m5, .int .u32 m6, .int .u8 m7, .int .u64 m8, .int .u64 m9, d]]) 73 Tryz.func68 rfl rfl (by simp) ?_; intro a hA
 refine zs (zr ?_)
 refine st_box hA hS [.int .u64 m0, .int .u64 m1, .int .u32 m2, .int .u16 m3, .int .u16 m4, .int .u64 m5, .int .u32 m6, .int .u8 m7, .int .u64 m8, .int .u64 m9, d] rfl rfl rfl rfl rfl (by decide) fun b1 w2 a hS hA => ?_
 refine zR 1 ((4, yI) :: _) hA rfl fun a hA => ?_
 refine st_alloc tbOk hA hS [yU, yU, yW, yH, yH, yU, yW, yB, yU, yU, yS] rfl rfl rfl rfl rfl (by decide) fun b3 w4 a hS hA => ?_
 refine zR 1 ((6, yN) :: _) hA rfl fun a hA => zn (zx (zs (zs (zr (zR 1 ((10, vP b 0) :: _) hA rfl fun a hA => zLA hA hS 1 [.int .u64 m0, .int .u64 m1, .int .u32 m2, .int .u16 m3, .int .u16 m4, .int .u64 m5, .int .u32 m6, .int .u8 m7, .int .u64 m8, .int .u64 m9, d] rfl rfl rfl rfl rfl rfl rfl rfl rfl rfl fun a hA => ?_)))))
 replace hS := hS.m2
 refine st_call0 hA rfl rfl rfl isfn99 rfl rfl (by decide) (find99 hS hM m0 m1 m2 m3 m4 m5 m6 m7 m8 m9 _) ?_
 clear hA hS; rintro _ w5 a ⟨L9, hM9, rfl, hS⟩ hA
 have hix := idx_none hno
 replace hA := hA.rw 12 (v' := .int .i64 (-1)) rfl (vint hix)
 obtain ⟨v, C, hO, rfl⟩ := hM9
 obtain ⟨A, c, rfl, hmc, hcx⟩ := hO.open'
 replace hS : St w0 w5 ([(b, rowO [.slice A es.length c] 127)] :: C :: [(b3, rowO [yU, yU, yW, yH, yH, yU, yW, yB, yU, yU, yS] 46)] :: [(b1, rowO [.int .u64 m0, .int .u64 m1, .int .u32 m2, .int .u16 m3, .int .u16 m4, .int .u64 m5, .int .u32 m6, .int .u8 m7, .int .u64 m8, .int .u64 m9, d] 46)] :: D :: F) := hS.split
 refine zR 1 ((7, .int .i64 (-1)) :: _) hA rfl fun a hA => zn (zx (zs (zr (zR 2 ((14, yF) :: (13, .int .i64 (-1)) :: _) hA rfl fun a hA => zn (zx (cd_cond_f hA rfl (zk (zx (zs (zs (zr (zR 3 ((34, vP b 0) :: (33, vP b 0) :: (32, vP b 0) :: _) hA rfl fun a hA => zL hA hS 0 rfl rfl rfl rfl rfl rfl rfl rfl rfl fun a hA => zR 2 ((37, .bool (((es.length : Nat) : Int) == 32)) :: (36, vI es.length) :: _) hA rfl fun a hA => zn (zx ?_)))))))))))))
 have hc6 : ¬ (((es.length : Nat) : Int) = 32) := by omega
 replace hA := hA.rw 37 (v' := yF) rfl (vb_eq_f hc6)
 refine cd_cond_f hA rfl (zk (zx (zs ?_)))
 replace hS := hS.m1
 refine zD1 hS [14] [(0, true), (1, true), (2, true), (3, true), (4, true), (5, true), (6, true), (7, true), (8, true), (9, true), (10, false), (11, false), (12, true), (13, true), (14, false)] mixed (by kernel_rfl) (by rintro c a w ⟨_, _, h, _⟩; cases h) (by rfl) (by kernel_rfl) ?_
 replace hS := hS.drew
 refine zW 4 ((61, vP b 0) :: (60, vP b 0) :: (59, vP b 0) :: (58, vP b 0) :: _) hA (hS.tail 1 rfl) rfl fun a hA => zY hA (hS.tail 1 rfl) 0 rfl rfl rfl rfl rfl rfl rfl rfl rfl rfl fun a hA => zW 1 ((63, vP b1 1) :: _) hA (hS.tail 1 rfl) rfl fun a hA => zY hA (hS.tail 1 rfl) 2 rfl rfl rfl rfl rfl rfl rfl rfl rfl rfl fun a hA => zW 1 ((65, vP b1 2) :: _) hA (hS.tail 1 rfl) rfl fun a hA => zY hA (hS.tail 1 rfl) 2 rfl rfl rfl rfl rfl rfl rfl rfl rfl rfl fun a hA => dr_y hA rfl rfl rfl (by decide) (hS.tail 1 rfl) (fun w' hS' => rn_build tbOk hA rfl rfl rfl rfl rfl rfl rfl) fun a hA => dr_b (o := _) rfl ?_
 refine st_buildSlice tbOk hA hS [.int .u64 m1, .int .u32 m2, .int .i64 1, yU, yU, yW, yH, yH, yU, yW, yB, yU, yU, yS] rfl rfl rfl rfl rfl (by decide) (by kernel_rfl) rfl rfl (by decide) fun b7 w8 a hS hA => ?_
 refine zi (hS.tail 2 rfl) (dr_b (o := _) rfl ?_)
 replace hS := hS.m1
 refine st_append tbOk hA (m := es.length) (q := 1) (xs := rows encEntry es) (news := rows encEntry ([(m1, m2, 1, 0, 0, 0, 0, 0, 0, 0, 0, 0, 0, none, 0, ([] : List UInt8))] : List (Int × Int × Int × Int × Int × Int × Int × Int × Int × Int × Int × Int × Int × Option Addr × Nat × List UInt8))) rfl rfl rfl rfl rfl rfl rfl rfl (by decide) hO hS (((Own.full (T := 215) (size := 14) (g := b7) (m := 1) rfl (by decide)).rd (hS.own_ 1 rfl)).x) (rows_one encEntry_ok _) (maxLen_le (by first | omega | (simp; omega))) (by show (es.length + 1) * 104 ≤ 140737488355328; first | omega | (simp; omega)) rfl rfl (by decide) ?_
 clear hA hS; intro v9 w10 C11 a hO11 hS hA
 replace hO11 := Own.app (l := es) (l2 := ([(m1, m2, 1, 0, 0, 0, 0, 0, 0, 0, 0, 0, 0, none, 0, ([] : List UInt8))] : List (Int × Int × Int × Int × Int × Int × Int × Int × Int × Int × Int × Int × Int × Option Addr × Nat × List UInt8))) hO11
 obtain ⟨A12, c13, rfl, hmc13, hxc13⟩ := hO11.open'
 refine zi (hS.tail 2 rfl) (zW 2 ((71, vP b 0) :: (70, vP b 0) :: _) hA (hS.tail 2 rfl) rfl fun a hA => dr_b (o := _) rfl ?_)
 replace hS := hS.m2
 refine st_store tbOk hA hS [.slice A12 ((es ++ ([(m1, m2, 1, 0, 0, 0, 0, 0, 0, 0, 0, 0, 0, none, 0, ([] : List UInt8))] : List (Int × Int × Int × Int × Int × Int × Int × Int × Int × Int × Int × Int × Int × Option Addr × Nat × List UInt8))).length) c13] [.slice A12 ((es ++ ([(m1, m2, 1, 0, 0, 0, 0, 0, 0, 0, 0, 0, 0, none, 0, ([] : List UInt8))] : List (Int × Int × Int × Int × Int × Int × Int × Int × Int × Int × Int × Int × Int × Option Addr × Nat × List UInt8))).length) c13] rfl rfl rfl rfl rfl rfl (by intro u hu; rw [List.mem_singleton.1 hu]; rfl) (zle rfl) rfl rfl rfl fun w14 hS => ?_
 refine dr_nil (.inl (by decide)) (ze (zx (zs (zr (st_val hA rfl rfl (by decide) (rn_build tbOk hA rfl rfl rfl rfl rfl rfl rfl) fun a hA => zR 1 ((4, yI) :: _) hA rfl fun a hA => ?_)))))
 replace hS := hS.m3
 refine st_store tbOk hA hS [yU, yU, yW, yH, yH, yU, yW, yB, yU, yU, yS] [yU, yU, yW, yH, yH, yU, yW, yB, yU, yU, yS] rfl rfl rfl rfl rfl rfl (zn1 rfl) (zle rfl) rfl rfl rfl fun w15 hS => ?_
 refine zR 1 ((6, yN) :: _) hA rfl fun a hA => zn (zx ?_)
 refine wp_ret ?_
 refine rettct tbOk (fn := Tryz.f68) (cs := [yU, yU, yW, yH, yH, yU, yW, yB, yU, yU, yS]) hA rfl rfl rfl rfl rfl rfl rfl (cells_row (hS.heapAt 0 rfl) rfl) ?_
 replace hS := hS.d0.m2.d0.m2.d0.m1.m1.m2.m2.m2
 replace hS := hS.join
 exact ⟨_, ⟨_, _, hO11, rfl⟩, rfl, hS⟩
theorem reply_ok70 {w0 w : World} {F : List Chunk} {L D : Chunk} {b : Nat} {es : List Ent} (hS : St w0 w (L :: D :: F)) (hM : SR b es L) (m0 m1 m2 m3 m4 m5 m6 m7 m8 m9 : Int) (d : Value) (r0 r1 r2 r3 r4 r5 r6 r7 r8 r9 : Int) {d2 : Value} {bs : List UInt8} (hd : RdSX w0 (D :: F) 1 d2 bs.length (rows encB bs)) (hbl : bs.length ≤ 140737488351232) {k : Nat} {x : Ent} (hk : es[k]? = some x) (hkf : fnd m1 m2 x = true) (hkb : ∀ (i : Nat) (y : Ent), i < k → es[i]? = some y → fnd m1 m2 y = false) (hst : x.2.2.1 = 1) (hl : es.length ≤ 1048576) :
 Ret Tryz.prog 70 #[vP b 0, .agg #[.int .u64 m0, .int .u64 m1, .int .u32 m2, .int .u16 m3, .int .u16 m4, .int .u64 m5, .int .u32 m6, .int .u8 m7, .int .u64 m8, .int .u64 m9, d], .agg #[.int .u64 r0, .int .u64 r1, .int .u32 r2, .int .u16 r3, .int .u16 r4, .int .u64 r5, .int .u32 r6, .int .u8 r7, .int .u64 r8, .int .u64 r9, d2]] w (fun v w' => ∃ L' E A c, SR b (es.set k (x.1, x.2.1, 2, r0, r1, r2, r3, r4, r5, r6, r7, r8, r9, A, c, bs)) L' ∧ DD w0 E A c bs ∧ v = yT ∧ St w0 w' (L' :: (E ++ D) :: F)) := by
 obtain ⟨B, d', rfl, hmd, hdx⟩ := (hd _ (hS.tail 1 rfl)).open'
 have hkl := (List.getElem?_eq_some_iff.1 hk).1
 refine enter (vs := [vP b 0, .agg #[.int .u64 m0, .int .u64 m1, .int .u32 m2, .int .u16 m3, .int .u16 m4, .int .u64 m5, .int .u32 m6, .int .u8 m7, .int .u64 m8, .int .u64 m9, d], .agg #[.int .u64 r0, .int .u64 r1, .int .u32 r2, .int .u16 r3, .int .u16 r4, .int .u64 r5, .int .u32 r6, .int .u8 r7, .int .u64 r8, .int .u64 r9, .slice B bs.length d']]) 43 Tryz.func70 rfl rfl (by simp) ?_; intro a hA
 refine zs (zr ?_)
 refine st_box hA hS [.int .u64 m0, .int .u64 m1, .int .u32 m2, .int .u16 m3, .int .u16 m4, .int .u64 m5, .int .u32 m6, .int .u8 m7, .int .u64 m8, .int .u64 m9, d] rfl rfl rfl rfl rfl (by decide) fun b1 w2 a hS hA => ?_
 refine st_box hA hS [.int .u64 r0, .int .u64 r1, .int .u32 r2, .int .u16 r3, .int .u16 r4, .int .u64 r5, .int .u32 r6, .int .u8 r7, .int .u64 r8, .int .u64 r9, .slice B bs.length d'] rfl rfl rfl rfl rfl (by decide) fun b3 w4 a hS hA => ?_
 refine zR 1 ((6, yF) :: _) hA rfl fun a hA => zn (zx (zs (zr (zR 1 ((8, vP b 0) :: _) hA rfl fun a hA => zLA hA hS 1 [.int .u64 m0, .int .u64 m1, .int .u32 m2, .int .u16 m3, .int .u16 m4, .int .u64 m5, .int .u32 m6, .int .u8 m7, .int .u64 m8, .int .u64 m9, d] rfl rfl rfl rfl rfl rfl rfl rfl rfl rfl fun a hA => ?_))))
 replace hS := hS.m2
 refine st_call0 hA rfl rfl rfl isfn99 rfl rfl (by decide) (find99 hS hM m0 m1 m2 m3 m4 m5 m6 m7 m8 m9 _) ?_
 clear hA hS; rintro _ w5 a ⟨L9, hM9, rfl, hS⟩ hA
 have hix := idx_some hk hkf hkb
 replace hA := hA.rw 10 (v' := vI k) rfl (vint hix)
 obtain ⟨v, C, hO, rfl⟩ := hM9
 obtain ⟨A, c, rfl, hmc, hcx⟩ := hO.open'
 replace hS : St w0 w5 ([(b, rowO [.slice A es.length c] 127)] :: C :: [(b3, rowO [.int .u64 r0, .int .u64 r1, .int .u32 r2, .int .u16 r3, .int .u16 r4, .int .u64 r5, .int .u32 r6, .int .u8 r7, .int .u64 r8, .int .u64 r9, .slice B bs.length d'] 46)] :: [(b1, rowO [.int .u64 m0, .int .u64 m1, .int .u32 m2, .int .u16 m3, .int .u16 m4, .int .u64 m5, .int .u32 m6, .int .u8 m7, .int .u64 m8, .int .u64 m9, d] 46)] :: D :: F) := hS.split
 refine zR 1 ((7, vI k) :: _) hA rfl fun a hA => zn (zx (zs (zs (zr ?_))))
 obtain ⟨xf0, xf1, xf2, xf3, xf4, xf5, xf6, xf7, xf8, xf9, xf10, xf11, xf12, xA13, xc13, xb13⟩ := x
 refine zR 3 ((13, .bool (decide (((k : Nat) : Int) < 0))) :: (12, .bool (decide (((k : Nat) : Int) < 0))) :: (11, vI k) :: _) hA rfl fun a hA => ?_
 have hc6 : ¬ (((k : Nat) : Int) < 0) := by omega
 replace hA := hA.rw 12 (v' := yF) rfl (vb_false hc6)
 replace hA := hA.rw 13 (v' := yF) rfl (vb_false hc6)
 refine zR 3 ((16, vP b 0) :: (15, vP b 0) :: (14, vP b 0) :: _) hA rfl fun a hA => zL hA hS 0 rfl rfl rfl rfl rfl rfl rfl rfl rfl fun a hA => zR 1 ((18, vI k) :: _) hA rfl fun a hA => ?_
 obtain ⟨b7, o8, rfl⟩ := hO.isSome (k := k) (by omega)
 refine st_val hA rfl rfl (by decide) (rn_indexAddr tbOk hA k (o8 + (k * 14)) rfl rfl rfl rfl rfl rfl (by rfl) (by omega) (by first | rfl | simp [Nat.mul_one, Nat.zero_add] | omega)) fun a hA => zR 1 ((20, vP b7 (o8 + (k * 14) + 2)) :: _) hA rfl fun a hA => st_val hA rfl rfl (by decide) (rn_load tbOk hA rfl rfl rfl rfl ((hO.rd (hS.own_ 1 rfl)).elemf (k := k) encEntry_ok hk (j := 2) rfl)) fun a hA => zR 2 ((23, .bool (xf2 != 1)) :: (22, .bool (xf2 != 1)) :: _) hA rfl fun a hA => zn (zx ?_)
 have hc9 : xf2 = 1 := hst
 replace hA := hA.rw 23 (v' := yF) rfl (vb_ne_f hc9)
 refine cd_cond_f hA rfl (zk (zx (zs (zr (zR 1 ((24, vP b3 10) :: _) hA rfl fun a hA => zL hA hS 2 rfl rfl rfl rfl rfl rfl rfl rfl rfl fun a hA => ?_)))))
 refine st_call0 hA rfl rfl rfl isfn83 rfl rfl (by decide) (clonex83 hS (l := bs) (fun w' h => (hd _ (h.tail 4 rfl))) (by first | omega | (simp; omega))) ?_
 clear hA hS; rintro _ w13 a ⟨A10, c11, C12, hOC12, rfl, hS⟩ hA
 refine zR 1 ((27, vP b3 10) :: _) hA rfl fun a hA => ?_
 replace hS := hS.m3
 refine st_store tbOk hA hS [.slice A10 bs.length c11] [.int .u64 r0, .int .u64 r1, .int .u32 r2, .int .u16 r3, .int .u16 r4, .int .u64 r5, .int .u32 r6, .int .u8 r7, .int .u64 r8, .int .u64 r9, .slice A10 bs.length c11] rfl rfl rfl rfl rfl rfl (by intro u hu; rw [List.mem_singleton.1 hu]; rfl) (zle rfl) rfl rfl rfl fun w14 hS => ?_
 refine zn (zx (zs ?_))
 replace hS := hS.m3
 refine zD1 hS [] [(0, true), (1, true), (2, true), (3, true), (4, true), (5, true), (6, true), (7, true), (8, true), (9, true), (10, true), (11, true), (12, true), (13, false), (14, true), (15, true), (16, false)] mixed (by kernel_rfl) (by rintro c a w ⟨_, _, h, _⟩; cases h) (by rfl) (by kernel_rfl) ?_
 replace hS := hS.drew
 refine zW 3 ((30, vP b 0) :: (29, vP b 0) :: (28, vP b 0) :: _) hA (hS.tail 1 rfl) rfl fun a hA => zY hA (hS.tail 1 rfl) 2 rfl rfl rfl rfl rfl rfl rfl rfl rfl rfl fun a hA => zW 4 ((35, vP b 0) :: (34, vP b 0) :: (33, vP b 0) :: (32, vI k) :: _) hA (hS.tail 1 rfl) rfl fun a hA => zY hA (hS.tail 1 rfl) 2 rfl rfl rfl rfl rfl rfl rfl rfl rfl rfl fun a hA => zW 1 ((37, vI k) :: _) hA (hS.tail 1 rfl) rfl fun a hA => zYA hA (hS.tail 1 rfl) 0 [.int .u64 r0, .int .u64 r1, .int .u32 r2, .int .u16 r3, .int .u16 r4, .int .u64 r5, .int .u32 r6, .int .u8 r7, .int .u64 r8, .int .u64 r9, .slice A10 bs.length c11] rfl rfl rfl rfl rfl rfl rfl rfl rfl rfl rfl fun a hA => dr_y hA rfl rfl rfl (by decide) (hS.tail 1 rfl) (fun w' hS' => rn_indexAddr tbOk hA k (o8 + (k * 14)) rfl rfl rfl rfl rfl rfl (by rfl) (by omega) (by first | rfl | simp [Nat.mul_one, Nat.zero_add] | omega)) fun a hA => ?_
 refine zW 1 ((40, vP b7 (o8 + (k * 14) + 2)) :: _) hA (hS.tail 1 rfl) rfl fun a hA => dr_b (o := _) rfl ?_
 refine st_store_own tbOk hA hO hS ((k * 14) + 2) (o8 + (k * 14) + 2) [.int .i64 2] (rows encEntry (es.set k (xf0, xf1, 2, xf3, xf4, xf5, xf6, xf7, xf8, xf9, xf10, xf11, xf12, xA13, xc13, xb13))) rfl rfl rfl rfl (by rfl) rfl rfl (by intro u hu; first | (rw [List.mem_singleton.1 hu]; rfl) | (simp only [List.mem_cons, List.not_mem_nil, or_false] at hu; rcases hu with rfl <;> rfl)) (by simp only [rows_length encEntry_ok]; simp; omega) (rows_setf encEntry_ok (xf0, xf1, 2, xf3, xf4, xf5, xf6, xf7, xf8, xf9, xf10, xf11, xf12, xA13, xc13, xb13) (hk) 2 [.int .i64 2] (zle rfl) rfl) rfl rfl ?_; clear hS; intro w15 C16 hO16 hS
 refine zi (hS.tail 1 rfl) (dr_y hA rfl rfl rfl (by decide) (hS.tail 1 rfl) (fun w' hS' => rn_indexAddr tbOk hA k (o8 + (k * 14)) rfl rfl rfl rfl rfl rfl (by rfl) (by omega) (by first | rfl | simp [Nat.mul_one, Nat.zero_add] | omega)) fun a hA => zW 1 ((42, vP b7 (o8 + (k * 14) + 3)) :: _) hA (hS.tail 1 rfl) rfl fun a hA => dr_b (o := _) rfl ?_)
 refine st_store_own tbOk hA hO16 hS ((k * 14) + 3) (o8 + (k * 14) + 3) [.int .u64 r0, .int .u64 r1, .int .u32 r2, .int .u16 r3, .int .u16 r4, .int .u64 r5, .int .u32 r6, .int .u8 r7, .int .u64 r8, .int .u64 r9, .slice A10 bs.length c11] (rows encEntry ((es.set k (xf0, xf1, 2, xf3, xf4, xf5, xf6, xf7, xf8, xf9, xf10, xf11, xf12, xA13, xc13, xb13)).set k (xf0, xf1, 2, r0, r1, r2, r3, r4, r5, r6, r7, r8, r9, A10, c11, bs))) rfl rfl rfl rfl (by rfl) rfl rfl (by intro u hu; first | (rw [List.mem_singleton.1 hu]; rfl) | (simp only [List.mem_cons, List.not_mem_nil, or_false] at hu; rcases hu with rfl | rfl | rfl | rfl | rfl | rfl | rfl | rfl | rfl | rfl | rfl <;> rfl)) (by simp only [rows_length encEntry_ok]; simp; omega) (rows_setf encEntry_ok (xf0, xf1, 2, r0, r1, r2, r3, r4, r5, r6, r7, r8, r9, A10, c11, bs) ((List.getElem?_set_self hkl)) 3 [.int .u64 r0, .int .u64 r1, .int .u32 r2, .int .u16 r3, .int .u16 r4, .int .u64 r5, .int .u32 r6, .int .u8 r7, .int .u64 r8, .int .u64 r9, .slice A10 bs.length c11] (zle rfl) rfl) rfl rfl ?_; clear hS; intro w17 C18 hO18 hS
 refine zi (hS.tail 1 rfl) (ze (zx (zs (zr (zR 1 ((6, yT) :: _) hA rfl fun a hA => zn (zx ?_))))))
 refine wp_ret ?_
 refine ret1 (fn := Tryz.f70) hA rfl rfl ?_
 have hss : (es.set k (xf0, xf1, 2, xf3, xf4, xf5, xf6, xf7, xf8, xf9, xf10, xf11, xf12, xA13, xc13, xb13)).set k (xf0, xf1, 2, r0, r1, r2, r3, r4, r5, r6, r7, r8, r9, A10, c11, bs) = es.set k (xf0, xf1, 2, r0, r1, r2, r3, r4, r5, r6, r7, r8, r9, A10, c11, bs) := by rw [List.set_set]
 rw [hss] at hO18
 replace hS := hS.m1.d0.m3.d0.m2.m3.m3
 replace hS := hS.join
 replace hS := hS.m2.m2
 replace hS := hS.join
 exact ⟨_, _, _, _, ⟨_, _, (by rw [List.length_set]; exact hO18), rfl⟩, DD.new hOC12, rfl, hS⟩
end Go.Proofs.YthiakdmhpfkjbaaGreatDoor

set_option linter.unusedVariables false
set_option linter.unusedSimpArgs false
namespace Go.Proofs.YthiakdmhpfkjbaaGreatDoor
open Go Go.RowKit Go.Extern.Stop Go.Stop Go.Extern
theorem valueOfT (t : Addr) (w : World) : (ReflectliteValue.unpack (.iface 105 (.pointer (some t)))).run Tryz.prog w
    = .ok (.agg #[.pointer (some ⟨1, 105, none⟩), .pointer (some ⟨w.heap.size, 0, none⟩), .int .u64 150]) (w.alloc (.cells #[.pointer (some t)] 105)) := by kernel_rfl
theorem typeT (a : Addr) (w : World) : (ReflectliteValue.methodAny (ReflectliteValue.valueError "reflectlite.Value.Type" 0) (fun t _ _ _ => ReflectliteType.toType t) #[.agg #[.pointer (some ⟨1, 105, none⟩), .pointer (some a), .int .u64 150]]).run Tryz.prog w
    = .ok (.iface 230 (.agg #[.pointer (some ⟨1, 105, none⟩)])) w := by kernel_rfl
theorem methodKind (h : Value) (w : World) : (Go.method 455 230 (.agg #[h]) "Kind").run Tryz.prog w = .ok (149, h) w := by kernel_rfl
theorem kindT (w : World) : ((ReflectliteType.abiMethod fun t => (fun a : Nat => Value.int IntKind.u8 (a : Int)) <$> Rtype.kind t) #[.pointer (some ⟨1, 105, none⟩)]).run Tryz.prog w = .ok (.int .u8 22) w := by kernel_rfl
theorem kindE (w : World) : ((ReflectliteType.abiMethod fun t => (fun a : Nat => Value.int IntKind.u8 (a : Int)) <$> Rtype.kind t) #[.pointer (some ⟨1, 55, none⟩)]).run Tryz.prog w = .ok (.int .u8 2) w := by kernel_rfl
theorem rlm (z : Sem Value) (f : TypeId → Addr → Nat → Nat → Sem Value) (v : Value) :
    ReflectliteValue.method z f #[v] = (do match ← ReflectliteValue.parts v with | none => z | some (t, a, fl) => f t a fl (fl % 32)) := rfl
theorem partsT (a : Addr) (w : World) : (ReflectliteValue.parts (.agg #[.pointer (some ⟨1, 105, none⟩), .pointer (some a), .int .u64 150])).run Tryz.prog w = .ok (some (105, a, 150)) w := by kernel_rfl
theorem isNilT (a p : Addr) (W : World) (ha : W.cell? a = some (.pointer (some p))) :
    (ReflectliteValue.method (ReflectliteValue.valueError "reflectlite.Value.IsNil" 0) ReflectliteValue.isNil #[.agg #[.pointer (some ⟨1, 105, none⟩), .pointer (some a), .int .u64 150]]).run Tryz.prog W = .ok (.bool false) W := by
  rw [rlm]
  simp only [Sem.run_bind, partsT, Result.andThen]
  simp [ReflectliteValue.isNil, loadVar, isAgg, underlying, Tryz.underlying105, ha, Result.andThen]
theorem methodElem (h : Value) (w : World) : (Go.method 455 230 (.agg #[h]) "Elem").run Tryz.prog w = .ok (170, .agg #[h]) w := by kernel_rfl
theorem methodImplements (h : Value) (w : World) : (Go.method 455 230 (.agg #[h]) "Implements").run Tryz.prog w = .ok (171, .agg #[h]) w := by kernel_rfl
theorem methodAssignableTo (h : Value) (w : World) : (Go.method 455 230 (.agg #[h]) "AssignableTo").run Tryz.prog w = .ok (168, .agg #[h]) w := by kernel_rfl
theorem elemT (w : World) : (ReflectliteType.method ReflectliteType.elem #[.agg #[.pointer (some ⟨1, 105, none⟩)]]).run Tryz.prog w = .ok (.iface 230 (.agg #[.pointer (some ⟨1, 55, none⟩)])) w := by kernel_rfl
theorem implementsE (w : World) : (ReflectliteType.relation "Implements" ReflectliteType.implements_ #[.agg #[.pointer (some ⟨1, 55, none⟩)], .iface 230 (.agg #[.pointer (some ⟨1, 26, none⟩)])]).run Tryz.prog w = .ok (.bool true) w := by kernel_rfl
theorem typeOfE (v : Value) (w : World) : (ReflectliteType.typeOf #[.iface 55 v]).run Tryz.prog w = .ok (.iface 230 (.agg #[.pointer (some ⟨1, 55, none⟩)])) w := by kernel_rfl
theorem assignableE (w : World) : (ReflectliteType.relation "AssignableTo" ReflectliteType.assignableTo #[.agg #[.pointer (some ⟨1, 55, none⟩)], .iface 230 (.agg #[.pointer (some ⟨1, 55, none⟩)])]).run Tryz.prog w = .ok (.bool true) w := by kernel_rfl
theorem valueOfE (n : Int) (w : World) : (ReflectliteValue.unpack (.iface 55 (.int .i64 n))).run Tryz.prog w
    = .ok (.agg #[.pointer (some ⟨1, 55, none⟩), .pointer (some ⟨w.heap.size, 0, none⟩), .int .u64 130]) (w.alloc (.cells #[.int .i64 n] 55)) := by kernel_rfl
theorem elemOfT (w : World) : (Rtype.elem? 105).run Tryz.prog w = .ok (some 55) w := by kernel_rfl
theorem mkE (p : Addr) (w : World) : (ReflectliteValue.mk 55 p ReflectliteValue.flagAddr).run Tryz.prog w = .ok (.agg #[.pointer (some ⟨1, 55, none⟩), .pointer (some p), .int .u64 386]) w := by kernel_rfl
theorem elemVT (a p : Addr) (W : World) (ha : W.cell? a = some (.pointer (some p))) :
    (ReflectliteValue.method (ReflectliteValue.valueError "reflectlite.Value.Elem" 0) ReflectliteValue.elem #[.agg #[.pointer (some ⟨1, 105, none⟩), .pointer (some a), .int .u64 150]]).run Tryz.prog W
      = .ok (.agg #[.pointer (some ⟨1, 55, none⟩), .pointer (some p), .int .u64 386]) W := by
  rw [rlm]
  simp only [Sem.run_bind, partsT, Result.andThen]
  simp [ReflectliteValue.elem, loadVar, isAgg, underlying, Tryz.underlying105, ha, Result.andThen, elemOfT, mkE]
theorem rls (v x : Value) : ReflectliteValue.set #[v, x] = (do
    let (some (dst, a, fl), some (src, b, _)) := (← ReflectliteValue.parts v, ← ReflectliteValue.parts x)
      | unsupported (.noEntry "extern/(internal/reflectlite.Value).Set.zeroValue")
    if fl / ReflectliteValue.flagAddr % 2 == 0 then unsupported (.noEntry "extern/(internal/reflectlite.Value).Set.unaddressable")
    let val ← loadVar src b
    if ← Rtype.directlyAssignable dst src then storeVar dst a val
    else if ← Rtype.implements dst src then
      if (← Rtype.kind src) == 20 then
        match val with
        | .nilIface => unsupported (.noEntry "extern/reflectlite: a nil value of one interface type handed on as a value of another")
        | _ => storeVar dst a val
      else storeVar dst a (.iface src val)
    else panicString ("reflectlite.Set: value of type " ++ (← Rtype.spelt src) ++ " is not assignable to type " ++ (← Rtype.spelt dst))
    pure (.tuple #[])) := rfl
theorem partsEa (a : Addr) (w : World) : (ReflectliteValue.parts (.agg #[.pointer (some ⟨1, 55, none⟩), .pointer (some a), .int .u64 386])).run Tryz.prog w = .ok (some (55, a, 386)) w := by kernel_rfl
theorem partsE (a : Addr) (w : World) : (ReflectliteValue.parts (.agg #[.pointer (some ⟨1, 55, none⟩), .pointer (some a), .int .u64 130])).run Tryz.prog w = .ok (some (55, a, 130)) w := by kernel_rfl
theorem directE (w : World) : (Rtype.directlyAssignable 55 55).run Tryz.prog w = .ok true w := by kernel_rfl
theorem setE (ta b : Addr) (n : Int) (old : Value) (W : World) (hb : W.cell? b = some (.int .i64 n)) (ht : W.cell? ta = some old) (hf : W.frozen? ta = false) :
    (ReflectliteValue.set #[.agg #[.pointer (some ⟨1, 55, none⟩), .pointer (some ta), .int .u64 386], .agg #[.pointer (some ⟨1, 55, none⟩), .pointer (some b), .int .u64 130]]).run Tryz.prog W
      = .ok (.tuple #[]) (W.setCell ta (.int .i64 n)) := by
  rw [rls]
  simp only [Sem.run_bind, partsEa, partsE, Result.andThen]
  simp [ReflectliteValue.flagAddr, loadVar, isAgg, underlying, Tryz.underlying55, hb, Result.andThen, directE, storeVar, Value.cells, storeCells, Addr.add]
  rw [run_store Tryz.prog W ta _ _ (by rfl)]
  simp [ht, hf]
set_option maxHeartbeats 4000000 in
theorem as_hit (n : Int) (t : Addr) (old : Value) (w : World) (hg : w.cell? ⟨0, 0, none⟩ = some (.iface 230 (.agg #[.pointer (some ⟨1, 26, none⟩)]))) (ht0 : w.cell? t = some old) (hf0 : w.frozen? t = false) :
    Calls Tryz.prog 45 #[.iface 55 (.int .i64 n), .iface 105 (.pointer (some t))] w fun ev w' => ev = .returned (.bool true) ∧ w' = ((((w.alloc (.cells #[.pointer (some t)] 105)).alloc (.cells #[.pointer (some ⟨1, 105, none⟩), .pointer (some ⟨w.heap.size, 0, none⟩), .int .u64 150] 157)).alloc (.cells #[.pointer (some ⟨1, 105, none⟩), .pointer (some ⟨w.heap.size, 0, none⟩), .int .u64 150] 157)).alloc (.cells #[.int .i64 n] 55)).setCell t (.int .i64 n) := by
  have h6 := @run_callFunc_extern Tryz.prog 72 _ (fun args => ReflectliteValue.unpack (args.getD 0 (.tuple #[]))) Tryz.func72 (by kernel_rfl) (by kernel_rfl) (by kernel_rfl) (by kernel_rfl)
  have h7 := @run_callFunc_extern Tryz.prog 73 _ (ReflectliteValue.methodAny (ReflectliteValue.valueError "reflectlite.Value.Type" 0) (fun t _ _ _ => ReflectliteType.toType t)) Tryz.func73 (by kernel_rfl) (by kernel_rfl) (by kernel_rfl) (by kernel_rfl)
  have h8 := @run_callFunc_extern Tryz.prog 74 _ (ReflectliteValue.method (ReflectliteValue.valueError "reflectlite.Value.IsNil" 0) ReflectliteValue.isNil) Tryz.func74 (by kernel_rfl) (by kernel_rfl) (by kernel_rfl) (by kernel_rfl)
  have h27 := @run_callFunc_extern Tryz.prog 149 _ (ReflectliteType.abiMethod fun t => do pure (.int .u8 (← Rtype.kind t))) Tryz.func149 (by kernel_rfl) (by kernel_rfl) (by kernel_rfl) (by kernel_rfl)
  have h37 := @run_callFunc_extern Tryz.prog 170 _ (ReflectliteType.method ReflectliteType.elem) Tryz.func170 (by kernel_rfl) (by kernel_rfl) (by kernel_rfl) (by kernel_rfl)
  have h38 := @run_callFunc_extern Tryz.prog 171 _ (ReflectliteType.relation "Implements" ReflectliteType.implements_) Tryz.func171 (by kernel_rfl) (by kernel_rfl) (by kernel_rfl) (by kernel_rfl)
  have h10 := @run_callFunc_extern Tryz.prog 106 _ ReflectliteType.typeOf Tryz.func106 (by kernel_rfl) (by kernel_rfl) (by kernel_rfl) (by kernel_rfl)
  have h35 := @run_callFunc_extern Tryz.prog 168 _ (ReflectliteType.relation "AssignableTo" ReflectliteType.assignableTo) Tryz.func168 (by kernel_rfl) (by kernel_rfl) (by kernel_rfl) (by kernel_rfl)
  have h11 := @run_callFunc_extern Tryz.prog 107 _ (ReflectliteValue.method (ReflectliteValue.valueError "reflectlite.Value.Elem" 0) ReflectliteValue.elem) Tryz.func107 (by kernel_rfl) (by kernel_rfl) (by kernel_rfl) (by kernel_rfl)
  have h12 := @run_callFunc_extern Tryz.prog 108 _ ReflectliteValue.set Tryz.func108 (by kernel_rfl) (by kernel_rfl) (by kernel_rfl) (by kernel_rfl)
  have tO := typeOfE
  have mA := methodAssignableTo
  have a25 := assignableE
  have v25 := valueOfE
  have f6 := valueOfT
  have f7 := typeT
  have mK := methodKind
  have mE := methodElem
  have mI := methodImplements
  have k27 := kindT
  have k25 := kindE
  have e27 := elemT
  have i25 := implementsE
  have n8 := isNilT ⟨w.heap.size, 0, none⟩ t ((w.alloc (.cells #[.pointer (some t)] 105)).alloc (.cells #[.pointer (some ⟨1, 105, none⟩), .pointer (some ⟨w.heap.size, 0, none⟩), .int .u64 150] 157)) (by simp)
  have hlt : 0 < w.heap.size := by
    rcases Nat.lt_or_ge 0 w.heap.size with h | h
    · exact h
    · simp [World.cell?, Array.getElem?_eq_none h] at hg
  have hg2 : ((w.alloc (.cells #[.pointer (some t)] 105)).alloc (.cells #[.pointer (some ⟨1, 105, none⟩), .pointer (some ⟨w.heap.size, 0, none⟩), .int .u64 150] 157)).cell? ⟨0, 0, none⟩ = some (.iface 230 (.agg #[.pointer (some ⟨1, 26, none⟩)])) := by
    rw [World.cell?_alloc_lt _ _ ⟨0, 0, none⟩ (by first | (simp; done) | (simp; omega)), World.cell?_alloc_lt _ _ ⟨0, 0, none⟩ hlt]; exact hg
  have htl : t.block < w.heap.size := by
    rcases Nat.lt_or_ge t.block w.heap.size with h | h
    · exact h
    · simp [World.cell?, Array.getElem?_eq_none h] at ht0
  have el := elemVT ⟨w.heap.size, 0, none⟩ t (((w.alloc (.cells #[.pointer (some t)] 105)).alloc (.cells #[.pointer (some ⟨1, 105, none⟩), .pointer (some ⟨w.heap.size, 0, none⟩), .int .u64 150] 157)).alloc (.cells #[.pointer (some ⟨1, 105, none⟩), .pointer (some ⟨w.heap.size, 0, none⟩), .int .u64 150] 157)) (by rw [World.cell?_alloc_lt _ _ ⟨w.heap.size, 0, none⟩ (by first | (simp; done) | (simp; omega))]; simp)
  have st := setE t ⟨w.heap.size + 1 + 1 + 1, 0, none⟩ n old ((((w.alloc (.cells #[.pointer (some t)] 105)).alloc (.cells #[.pointer (some ⟨1, 105, none⟩), .pointer (some ⟨w.heap.size, 0, none⟩), .int .u64 150] 157)).alloc (.cells #[.pointer (some ⟨1, 105, none⟩), .pointer (some ⟨w.heap.size, 0, none⟩), .int .u64 150] 157)).alloc (.cells #[.int .i64 n] 55))
    (by rw [World.cell?_alloc_at _ _ _ _ (by simp)]; rfl)
    (by rw [World.cell?_alloc_lt _ _ t (by simp; omega), World.cell?_alloc_lt _ _ t (by simp; omega), World.cell?_alloc_lt _ _ t (by simp; omega), World.cell?_alloc_lt _ _ t htl]; exact ht0)
    (by rw [World.frozen?_alloc_old _ _ t (by simp; omega), World.frozen?_alloc_old _ _ t (by simp; omega), World.frozen?_alloc_old _ _ t (by simp; omega), World.frozen?_alloc_old _ _ t (Nat.ne_of_lt htl)]; exact hf0)
  go_enter Tryz.func45, Tryz.ntmps45
  go_wp2
  refine wp_loop_rounds 1 ?_
  rw [rounds_succ]
  go_wp2
  go_ret
  exact ⟨rfl, rfl⟩
end Go.Proofs.YthiakdmhpfkjbaaGreatDoor

set_option linter.unusedVariables false
set_option linter.unusedSimpArgs false
set_option maxRecDepth 4000
namespace Go.Proofs.YthiakdmhpfkjbaaGreatDoor
open Go Go.SK
theorem cut47 {w0 w : World} {F : List Chunk} (hS : St w0 w F) {x : Nat} (h0 : x < 2 ^ 64) :
 Ret Tryz.prog 47 #[vU x] w (fun v w' => v = vU (x % 281474976710656) ∧ St w0 w' F) := by
 refine enter (vs := [vU x]) 5 Tryz.func47 rfl rfl (by simp) ?_; intro a hA
 refine zs (zr (zR 1 ((2, yU) :: _) hA rfl fun a hA => zn (zx (zs (zr (zR 1 ((3, vU x) :: _) hA rfl fun a hA => st_val hA rfl rfl (by decide) (rn_and hA rfl rfl rfl) fun a hA => ?_))))))
 replace hA := hA.rw 4 (v' := vU (x % 281474976710656)) rfl (vint (cut48 h0))
 refine zR 1 ((2, vU (x % 281474976710656)) :: _) hA rfl fun a hA => zn (zx ?_)
 refine wp_ret ?_
 refine ret1 (fn := Tryz.f47) hA rfl rfl ?_
 exact ⟨rfl, hS⟩
theorem put116 {w0 w : World} {F : List Chunk} (hS : St w0 w F) {d : Value} {b : List UInt8} (hd : RdSX w0 F 1 d b.length (rows encB b)) (x n : Nat) (hbl : b.length ≤ 1048576) (h1 : 1 ≤ n) (h8 : n ≤ 8) (hx : x < 2 ^ 64) :
 Ret Tryz.prog 116 #[d, vU x, vI n] w (fun v w' => ∃ A c C, Own 5 1 (.slice A (b ++ be n x).length c) (b ++ be n x).length (rows encB (b ++ be n x)) C ∧ v = .slice A (b ++ be n x).length c ∧ St w0 w' (C :: F)) := by
 obtain ⟨B, d', rfl, hmd, hdx⟩ := (hd w hS).open'
 refine enter (vs := [.slice B b.length d', vU x, vI n]) 33 Tryz.func116 rfl rfl (by simp) ?_; intro a hA
 refine zs (zr (zR 1 ((6, yS) :: _) hA rfl fun a hA => zn (zx (zs (zr (zR 1 ((9, .slice B b.length d') :: _) hA rfl fun a hA => ?_))))))
 replace hS := hS.nil
 refine st_append tbOk hA (m := 0) (q := b.length) (xs := rows encB ([] : List UInt8)) (news := rows encB b) rfl rfl rfl rfl rfl rfl rfl rfl (by decide) (Own.nil 5 1) hS ((hd _ (hS.tail 1 rfl))) (rows_one encB_ok _) (maxLen_le (by first | omega | (simp only [List.length_append, be_length, List.length_cons, List.length_nil]; omega))) (by show (0 + b.length) * 1 ≤ 140737488355328; first | omega | (simp only [List.length_append, be_length, List.length_cons, List.length_nil]; omega)) rfl rfl (by decide) ?_
 clear hA hS; intro v1 w2 C3 a hO3 hS hA
 replace hO3 := Own.app (l := ([] : List UInt8)) (l2 := b) hO3
 replace hO3 : Own 5 1 v1 b.length (rows encB b) C3 := hO3
 obtain ⟨A4, c5, rfl, hmc5, hxc5⟩ := hO3.open'
 refine zR 1 ((7, .slice A4 b.length c5) :: _) hA rfl fun a hA => zn (zx (zs (zs (zr (zR 3 ((13, .bool (decide (((n : Nat) : Int) < 1))) :: (12, .bool (decide (((n : Nat) : Int) < 1))) :: (11, vI n) :: _) hA rfl fun a hA => ?_)))))
 have hc6 : ¬ (((n : Nat) : Int) < 1) := by omega
 replace hA := hA.rw 12 (v' := yF) rfl (vb_false hc6)
 replace hA := hA.rw 13 (v' := yF) rfl (vb_false hc6)
 refine zR 3 ((16, .bool (decide (((n : Nat) : Int) > 8))) :: (15, .bool (decide (((n : Nat) : Int) > 8))) :: (14, vI n) :: _) hA rfl fun a hA => zn (zx ?_)
 have hc7 : ¬ (((n : Nat) : Int) > 8) := by omega
 replace hA := hA.rw 16 (v' := yF) rfl (vb_false hc7)
 refine cd_cond_f hA rfl (zk (zx (zs (zs (zr (zR 2 ((19, .int .i64 (IntKind.i64.wrap (((n : Nat) : Int) - 1))) :: (18, vI n) :: _) hA rfl fun a hA => ?_))))))
 replace hA := hA.rw 19 (v' := .int .i64 (((n : Nat) : Int) - 1)) rfl (wr64 (by omega) (by omega) (by omega))
 refine zR 1 ((8, .int .i64 (((n : Nat) : Int) - 1)) :: _) hA rfl fun a hA => zn (zx (zb ?_))
 have hO0 : Own 5 1 (.slice A4 (b ++ be 0 (x / 256 ^ (n - 0))).length c5) (b ++ be 0 (x / 256 ^ (n - 0))).length (rows encB (b ++ be 0 (x / 256 ^ (n - 0)))) C3 := by rw [be, List.append_nil]; exact hO3
 replace hA := hA.rw 7 (v' := .slice A4 ((b ++ be 0 (x / 256 ^ (n - 0))).length) c5) rfl (by rw [be, List.append_nil])
 replace hA := hA.rw 8 (v' := .int .i64 (((n : Nat) : Int) - 1 - ((0 : Nat) : Int))) rfl (vint (by omega))
 refine wp_loop_ghost (fun m a w => ∃ (j : Nat) (A : Option Addr) (c : Nat) (C : Chunk), m = n - j ∧ Has a 33 [(1, vU x), (7, .slice A ((b ++ be j (x / 256 ^ (n - j))).length) c), (8, .int .i64 (((n : Nat) : Int) - 1 - ((j : Nat) : Int)))] ∧ St w0 w (C :: F) ∧ (j ≤ n) ∧ (Own 5 1 (.slice A (b ++ be j (x / 256 ^ (n - j))).length c) (b ++ be j (x / 256 ^ (n - j))).length (rows encB (b ++ be j (x / 256 ^ (n - j)))) C)) (n - 0)
  ⟨0, A4, c5, C3, rfl, (hA.sel [1, 7, 8] rfl), hS, Nat.zero_le _, hO0⟩ ?_
 clear hA hS; rintro m0 a w8 ⟨j, A, c, C, rfl, hA, hS, hj, hO⟩
 have hln : (b ++ be j (x / 256 ^ (n - j))).length = b.length + j := by rw [List.length_append, be_length]
 refine zs (zs (zr (zR 2 ((21, .bool (decide (((n : Nat) : Int) - 1 - ((j : Nat) : Int) ≥ 0))) :: (20, .int .i64 (((n : Nat) : Int) - 1 - ((j : Nat) : Int))) :: _) hA rfl fun a hA => zn (zx ?_))))
 by_cases hc9 : ((n : Nat) : Int) - 1 - ((j : Nat) : Int) ≥ 0
 · first
   | (exfalso; omega)
   | (replace hA := hA.rw 21 (v' := yT) rfl (vb_true hc9)
      refine cd_cond_t hA rfl (zk (zx (zs (zb (zr (zR 4 ((27, .int .i64 (IntKind.i64.wrap (8 * (((n : Nat) : Int) - 1 - ((j : Nat) : Int))))) :: (26, .int .i64 (((n : Nat) : Int) - 1 - ((j : Nat) : Int))) :: (25, vU x) :: (24, .slice A ((b ++ be j (x / 256 ^ (n - j))).length) c) :: _) hA rfl fun a hA => ?_))))))
      replace hA := hA.rw 27 (v' := .int .i64 (8 * (((n : Nat) : Int) - 1 - ((j : Nat) : Int)))) rfl (wr64 (by omega) (by omega) (by omega))
      refine st_val hA rfl rfl (by decide) (rn_shr hA rfl rfl rfl (by omega)) fun a hA => ?_
      replace hA := hA.rw 28 (v' := vU (x / 256 ^ (n - 1 - j))) rfl (vint (shr8n (by omega) (by omega)))
      refine zR 1 ((29, .int .u8 (IntKind.u8.wrap ((x / 256 ^ (n - 1 - j) : Nat) : Int))) :: _) hA rfl fun a hA => ?_
      replace hA := hA.rw 29 (v' := vB ((UInt8.ofNat (x / 256 ^ (n - 1 - j))).toNat)) rfl (vint (wrap_u8_of _))
      refine st_buildSlice tbOk hA hS [vB ((UInt8.ofNat (x / 256 ^ (n - 1 - j))).toNat)] rfl rfl rfl rfl rfl (by decide) (by kernel_rfl) rfl rfl (by decide) fun b10 w11 a hS hA => ?_
      replace hS := hS.m1
      refine st_append tbOk hA (m := (b ++ be j (x / 256 ^ (n - j))).length) (q := 1) (xs := rows encB (b ++ be j (x / 256 ^ (n - j)))) (news := rows encB ([(UInt8.ofNat (x / 256 ^ (n - 1 - j)))] : List UInt8)) rfl rfl rfl rfl rfl rfl rfl rfl (by decide) hO hS (((Own.full (T := 5) (size := 1) (g := b10) (m := 1) rfl (by decide)).rd (hS.own_ 1 rfl)).x) (rows_one encB_ok _) (maxLen_le (by first | omega | (simp only [List.length_append, be_length, List.length_cons, List.length_nil]; omega))) (by show ((b ++ be j (x / 256 ^ (n - j))).length + 1) * 1 ≤ 140737488355328; first | omega | (simp only [List.length_append, be_length, List.length_cons, List.length_nil]; omega)) rfl rfl (by decide) ?_
      clear hA hS; intro v12 w13 C14 a hO14 hS hA
      replace hO14 := Own.app (l := b ++ be j (x / 256 ^ (n - j))) (l2 := ([(UInt8.ofNat (x / 256 ^ (n - 1 - j)))] : List UInt8)) hO14
      obtain ⟨A15, c16, rfl, hmc16, hxc16⟩ := hO14.open'
      refine zR 1 ((7, .slice A15 (((b ++ be j (x / 256 ^ (n - j))) ++ ([(UInt8.ofNat (x / 256 ^ (n - 1 - j)))] : List UInt8)).length) c16) :: _) hA rfl fun a hA => zn (zm (zx (zr (zR 2 ((23, .int .i64 (IntKind.i64.wrap ((((n : Nat) : Int) - 1 - ((j : Nat) : Int)) - 1))) :: (22, .int .i64 (((n : Nat) : Int) - 1 - ((j : Nat) : Int))) :: _) hA rfl fun a hA => ?_))))
      replace hA := hA.rw 23 (v' := .int .i64 ((((n : Nat) : Int) - 1 - ((j : Nat) : Int)) - 1)) rfl (wr64 (by omega) (by omega) (by omega))
      refine zR 1 ((8, .int .i64 ((((n : Nat) : Int) - 1 - ((j : Nat) : Int)) - 1)) :: _) hA rfl fun a hA => zn ?_
      replace hS := hS.d1
      have hO9 := hO14; rw [List.append_assoc, be_step x n j (by omega)] at hO9
      replace hA := hA.rw 7 (v' := .slice A15 ((b ++ be (j + 1) (x / 256 ^ (n - (j + 1)))).length) c16) rfl (by rw [List.append_assoc, be_step x n j (by omega)])
      replace hA := hA.rw 8 (v' := .int .i64 (((n : Nat) : Int) - 1 - ((j + 1 : Nat) : Int))) rfl (vint (by omega))
      exact lp_next _ (by omega) ⟨(j + 1), A15, c16, C14, rfl, (hA.sel [1, 7, 8] rfl), hS, by omega, hO9⟩)
 · first
   | (exfalso; omega)
   | (replace hA := hA.rw 21 (v' := yF) rfl (vb_false hc9)
      refine cd_cond_f hA rfl ?_
      refine wp_exit ?_
      refine xt_exit (xt_exit (cd_exit_eq (zx (zs (zr (zR 2 ((6, .slice A ((b ++ be j (x / 256 ^ (n - j))).length) c) :: (32, .slice A ((b ++ be j (x / 256 ^ (n - j))).length) c) :: _) hA rfl fun a hA => zn (zx ?_)))))))
      refine wp_ret ?_
      refine ret1 (fn := Tryz.f116) hA rfl rfl ?_
      obtain rfl : j = n := by omega
      rw [Nat.sub_self, Nat.pow_zero, Nat.div_one] at hO
      exact ⟨_, _, _, hO, by rw [Nat.sub_self, Nat.pow_zero, Nat.div_one], hS⟩)
theorem putn116 {w0 w : World} {F : List Chunk} (hS : St w0 w F) (x n : Nat) (h1 : 1 ≤ n) (h8 : n ≤ 8) (hx : x < 2 ^ 64) :
    Ret Tryz.prog 116 #[yS, vU x, vI n] w (fun v w' => ∃ A c C, Own 5 1 (.slice A (be n x).length c) (be n x).length (rows encB (be n x)) C ∧ v = .slice A (be n x).length c ∧ St w0 w' (C :: F)) := by
  have h := put116 hS (b := []) RdSX.nil x n (Nat.zero_le _) h1 h8 hx
  rw [List.nil_append] at h
  exact h
theorem get93 {w0 w : World} {F : List Chunk} (hS : St w0 w F) {d : Value} {b : List UInt8} (hd : RdS w0 F 1 d b.length (rows encB b)) (k n : Nat) (hbl : b.length ≤ 1048576) (h1 : 1 ≤ n) (h8 : n ≤ 8) (hk : k + n ≤ b.length) :
 Ret Tryz.prog 93 #[d, vI k, vI n] w (fun v w' => v = .tuple #[vU (beval (bsub b k n)), yT] ∧ St w0 w' F) := by
 obtain ⟨B, d', rfl, hmd, hdx⟩ := (hd w hS).open'
 refine enter (vs := [.slice B b.length d', vI k, vI n]) 47 Tryz.func93 rfl rfl (by simp) ?_; intro a hA
 refine zs (zr (zR 2 ((7, yF) :: (6, yU) :: _) hA rfl fun a hA => zn (zx (zs (zs (zr (zR 3 ((13, .bool (decide (((n : Nat) : Int) < 1))) :: (12, .bool (decide (((n : Nat) : Int) < 1))) :: (11, vI n) :: _) hA rfl fun a hA => ?_)))))))
 have hc1 : ¬ (((n : Nat) : Int) < 1) := by omega
 replace hA := hA.rw 12 (v' := yF) rfl (vb_false hc1)
 replace hA := hA.rw 13 (v' := yF) rfl (vb_false hc1)
 refine zR 4 ((17, .bool (decide (((n : Nat) : Int) > 8))) :: (16, .bool (decide (((n : Nat) : Int) > 8))) :: (15, .bool (decide (((n : Nat) : Int) > 8))) :: (14, vI n) :: _) hA rfl fun a hA => ?_
 have hc2 : ¬ (((n : Nat) : Int) > 8) := by omega
 replace hA := hA.rw 15 (v' := yF) rfl (vb_false hc2)
 replace hA := hA.rw 16 (v' := yF) rfl (vb_false hc2)
 replace hA := hA.rw 17 (v' := yF) rfl (vb_false hc2)
 refine zR 4 ((21, .bool (decide (((k : Nat) : Int) < 0))) :: (20, .bool (decide (((k : Nat) : Int) < 0))) :: (19, .bool (decide (((k : Nat) : Int) < 0))) :: (18, vI k) :: _) hA rfl fun a hA => ?_
 have hc3 : ¬ (((k : Nat) : Int) < 0) := by omega
 replace hA := hA.rw 19 (v' := yF) rfl (vb_false hc3)
 replace hA := hA.rw 20 (v' := yF) rfl (vb_false hc3)
 replace hA := hA.rw 21 (v' := yF) rfl (vb_false hc3)
 refine zR 5 ((26, .int .i64 (IntKind.i64.wrap (((b.length : Nat) : Int) - ((n : Nat) : Int)))) :: (25, vI n) :: (24, vI b.length) :: (23, .slice B b.length d') :: (22, vI k) :: _) hA rfl fun a hA => ?_
 replace hA := hA.rw 26 (v' := .int .i64 (((b.length : Nat) : Int) - ((n : Nat) : Int))) rfl (wr64 (by omega) (by omega) (by omega))
 refine zR 2 ((28, .bool (decide (((k : Nat) : Int) > ((b.length : Nat) : Int) - ((n : Nat) : Int)))) :: (27, .bool (decide (((k : Nat) : Int) > ((b.length : Nat) : Int) - ((n : Nat) : Int)))) :: _) hA rfl fun a hA => zn (zx ?_)
 have hc4 : ¬ (((k : Nat) : Int) > ((b.length : Nat) : Int) - ((n : Nat) : Int)) := by omega
 replace hA := hA.rw 28 (v' := yF) rfl (vb_false hc4)
 refine cd_cond_f hA rfl (zk (zx (zs (zr (zR 1 ((8, yU) :: _) hA rfl fun a hA => zn (zx (zs (zs (zr (zR 5 ((33, .int .i64 (IntKind.i64.wrap (((k : Nat) : Int) + ((n : Nat) : Int)))) :: (32, vI n) :: (31, vI k) :: (30, vI k) :: (29, .slice B b.length d') :: _) hA rfl fun a hA => ?_))))))))))
 replace hA := hA.rw 33 (v' := vI (k + n)) rfl (wr64 (by omega) (by omega) (by omega))
 refine st_val hA rfl rfl (by decide) (rn_slice_lh tbOk hA k (k + n) rfl rfl rfl rfl rfl rfl rfl (by rfl) (by rfl) (by omega) (by omega)) fun a hA => ?_
 generalize hsv : slv B k (k + n) d' 1 = vs at hA
 have hln : (bsub b k n).length = n := bsub_length (by omega)
 have hR : RdS w0 F 1 vs (bsub b k n).length (rows encB (bsub b k n)) := by rw [← hsv]; exact fun w9 h => ((hd _ h).rslv encB_ok k (k + n) d' (by omega) (by omega) (by omega) (by omega))
 clear hsv; obtain ⟨B3, d3, rfl, hm3, hx3⟩ := (hR w hS).open'
 refine zR 2 ((36, yI) :: (35, vI ((bsub b k n).length)) :: _) hA rfl fun a hA => zn (zx (zb ?_))
 refine wp_loop_ghost (fun m a w => ∃ (j : Nat), m = n - j ∧ Has a 47 [(8, vU (beval ((bsub b k n).take j))), (34, .slice B3 ((bsub b k n).length) d3), (35, vI ((bsub b k n).length)), (36, vI j)] ∧ St w0 w (F) ∧ (j ≤ n)) (n - 0)
  ⟨0, rfl, (hA.sel [8, 34, 35, 36] rfl), hS, Nat.zero_le _⟩ ?_
 clear hA hS; rintro m0 a w5 ⟨j, rfl, hA, hS, hj⟩
 refine zs (zr (zR 1 ((37, .bool (decide (((j : Nat) : Int) < (((bsub b k n).length : Nat) : Int)))) :: _) hA rfl fun a hA => zn (zx (zs ?_))))
 by_cases hc6 : ((j : Nat) : Int) < (((bsub b k n).length : Nat) : Int)
 · first
   | (exfalso; omega)
   | (replace hA := hA.rw 37 (v' := yT) rfl (vb_true hc6)
      refine cd_cond_t hA rfl (zk (zx (zs (zb (zs (zr ?_))))))
      obtain ⟨b7, o8, rfl⟩ := (hR _ hS).isSome (k := j) (by omega)
      refine st_val hA rfl rfl (by decide) (rn_indexAddr tbOk hA j (o8 + j) rfl rfl rfl rfl rfl rfl (by rfl) (by omega) (by first | rfl | simp [Nat.mul_one, Nat.zero_add] | omega)) fun a hA => ?_
      obtain ⟨x9, hx9⟩ := get_ex (l := (bsub b k n)) (k := j) (by omega)
      have hbx9 : x9.toNat < 256 := UInt8.toNat_lt x9
      refine st_val hA rfl rfl (by decide) (rn_load tbOk hA rfl rfl rfl rfl ((hR _ hS).elem0 (k := j) encB_ok hx9 rfl)) fun a hA => zR 1 ((10, vB x9.toNat) :: _) hA rfl fun a hA => zn (zx (zr (zR 1 ((40, vU (beval ((bsub b k n).take j))) :: _) hA rfl fun a hA => st_val hA rfl rfl (by decide) (rn_shl hA rfl rfl rfl (by omega)) fun a hA => zR 2 ((43, .int .u64 (IntKind.u64.wrap ((x9.toNat : Nat) : Int))) :: (42, vB x9.toNat) :: _) hA rfl fun a hA => ?_)))
      replace hA := hA.rw 43 (v' := vU x9.toNat) rfl (by rw [wrap_u64 (by omega) (by omega)])
      refine st_val hA rfl rfl (by decide) (rn_or hA rfl rfl rfl) fun a hA => ?_
      replace hA := hA.rw 44 (v' := vU (beval ((bsub b k n).take (j + 1)))) rfl (vint (beval_step hx9 (by omega)))
      refine zR 1 ((8, vU (beval ((bsub b k n).take (j + 1)))) :: _) hA rfl fun a hA => zn (zm (zx (zr (zR 1 ((45, .int .i64 (IntKind.i64.wrap (((j : Nat) : Int) + 1))) :: _) hA rfl fun a hA => ?_))))
      replace hA := hA.rw 45 (v' := vI (j + 1)) rfl (wr64 (by omega) (by omega) (by omega))
      refine zR 1 ((36, vI (j + 1)) :: _) hA rfl fun a hA => zn ?_
      exact lp_next _ (by omega) ⟨(j + 1), rfl, (hA.sel [8, 34, 35, 36] rfl), hS, by omega⟩)
 · first
   | (exfalso; omega)
   | (replace hA := hA.rw 37 (v' := yF) rfl (vb_false hc6)
      refine cd_cond_f hA rfl ?_
      refine wp_exit ?_
      refine xt_exit (xt_exit (cd_exit_eq (zx (zs (zr (zR 3 ((7, yT) :: (6, vU (beval ((bsub b k n).take j))) :: (46, vU (beval ((bsub b k n).take j))) :: _) hA rfl fun a hA => zn (zx ?_)))))))
      refine wp_ret ?_
      refine ret2 (fn := Tryz.f93) hA rfl rfl rfl ?_
      obtain rfl : j = n := by omega
      rw [show beval ((bsub b k j).take j) = beval (bsub b k j) by rw [List.take_of_length_le (Nat.le_of_eq hln)]]
      exact ⟨rfl, hS⟩)
end Go.Proofs.YthiakdmhpfkjbaaGreatDoor

set_option linter.unusedVariables false
set_option linter.unusedSimpArgs false
set_option maxRecDepth 4000
namespace Go.Proofs.YthiakdmhpfkjbaaGreatDoor
open Go Go.SK
structure MN where
  to : Nat
  rp : Nat
  id : Nat
  op : Nat
  st : Nat
  po : Nat
  ob : Nat
  ri : Nat
  ck : Nat
  ar : Nat
  da : List UInt8
deriving DecidableEq
def MN.ok (m : MN) : Prop := m.to < 281474976710656 ∧ m.rp < 281474976710656 ∧ m.id < 4294967296 ∧ m.op < 65536 ∧ m.st < 65536 ∧ m.po < 281474976710656 ∧ m.ob < 16777216 ∧ m.ri < 256 ∧ m.ck < 281474976710656 ∧ m.ar < 18446744073709551616 ∧ m.da.length ≤ 4096
instance (m : MN) : Decidable m.ok := by unfold MN.ok; infer_instance
def capb (po ob ri ck : Nat) : List UInt8 := be 6 po ++ be 3 ob ++ be 1 ri ++ be 6 ck
def encM (m : MN) : List UInt8 := be 6 m.to ++ be 6 m.rp ++ be 4 m.id ++ be 2 m.op ++ be 2 m.st ++ capb m.po m.ob m.ri m.ck ++ be 8 m.ar ++ be 2 m.da.length ++ m.da
theorem capb_length (po ob ri ck : Nat) : (capb po ob ri ck).length = 16 := by simp [capb, be_length]
theorem encM_length (m : MN) : (encM m).length = 46 + m.da.length := by simp only [encM, List.length_append, be_length, capb_length]
theorem bsub_at {b p x q : List UInt8} {k n : Nat} (h : b = p ++ (x ++ q)) (hp : p.length = k) (hx : x.length = n) : bsub b k n = x := by
  subst h; subst hp; subst hx
  rw [bsub, ← List.append_assoc, ← List.length_append, List.take_left, List.drop_left]
theorem bsub_lt (b : List UInt8) (k n : Nat) : beval (bsub b k n) < 256 ^ n := by
  refine Nat.lt_of_lt_of_le (beval_lt _) (Nat.pow_le_pow_right (by decide) ?_)
  rw [bsub, List.length_drop, List.length_take]; omega
theorem beval_at {b p x q : List UInt8} {k n v : Nat} (h : b = p ++ (x ++ q)) (hp : p.length = k) (hx : x = be n v) (hv : v < 256 ^ n) : beval (bsub b k n) = v := by
  rw [bsub_at h hp (by rw [hx, be_length]), hx, beval_be n v hv]
section
variable (m : MN)
theorem dec_to (h : m.ok) : beval (bsub (encM m) 0 6) = m.to := beval_at (p := []) (x := be 6 m.to) (q := _) (by simp only [encM, List.append_assoc, List.nil_append]; rfl) rfl rfl h.1
theorem dec_rp (h : m.ok) : beval (bsub (encM m) 6 6) = m.rp := beval_at (p := be 6 m.to) (x := be 6 m.rp) (by simp only [encM, List.append_assoc]; rfl) (by simp [be_length]) rfl h.2.1
theorem dec_id (h : m.ok) : beval (bsub (encM m) 12 4) = m.id := beval_at (p := be 6 m.to ++ be 6 m.rp) (x := be 4 m.id) (by simp only [encM, List.append_assoc]; rfl) (by simp [be_length]) rfl h.2.2.1
theorem dec_op (h : m.ok) : beval (bsub (encM m) 16 2) = m.op := beval_at (p := be 6 m.to ++ be 6 m.rp ++ be 4 m.id) (x := be 2 m.op) (by simp only [encM, List.append_assoc]; rfl) (by simp [be_length]) rfl h.2.2.2.1
theorem dec_st (h : m.ok) : beval (bsub (encM m) 18 2) = m.st := beval_at (p := be 6 m.to ++ be 6 m.rp ++ be 4 m.id ++ be 2 m.op) (x := be 2 m.st) (by simp only [encM, List.append_assoc]; rfl) (by simp [be_length]) rfl h.2.2.2.2.1
theorem dec_cap : bsub (encM m) 20 16 = capb m.po m.ob m.ri m.ck := bsub_at (p := be 6 m.to ++ be 6 m.rp ++ be 4 m.id ++ be 2 m.op ++ be 2 m.st) (by simp only [encM, List.append_assoc]; rfl) (by simp [be_length]) (capb_length _ _ _ _)
theorem dec_ar (h : m.ok) : beval (bsub (encM m) 36 8) = m.ar := beval_at (p := be 6 m.to ++ be 6 m.rp ++ be 4 m.id ++ be 2 m.op ++ be 2 m.st ++ capb m.po m.ob m.ri m.ck) (x := be 8 m.ar) (by simp only [encM, List.append_assoc]; rfl) (by simp [be_length, capb_length]) rfl h.2.2.2.2.2.2.2.2.2.1
theorem dec_ln (h : m.ok) : beval (bsub (encM m) 44 2) = m.da.length := beval_at (p := be 6 m.to ++ be 6 m.rp ++ be 4 m.id ++ be 2 m.op ++ be 2 m.st ++ capb m.po m.ob m.ri m.ck ++ be 8 m.ar) (x := be 2 m.da.length) (by simp only [encM, List.append_assoc]; rfl) (by simp [be_length, capb_length]) rfl (Nat.lt_of_le_of_lt h.2.2.2.2.2.2.2.2.2.2 (by decide))
theorem dec_da : bsub (encM m) 46 m.da.length = m.da := bsub_at (p := be 6 m.to ++ be 6 m.rp ++ be 4 m.id ++ be 2 m.op ++ be 2 m.st ++ capb m.po m.ob m.ri m.ck ++ be 8 m.ar ++ be 2 m.da.length) (q := []) (by simp only [encM, List.append_assoc, List.append_nil]) (by simp [be_length, capb_length]) rfl
end
theorem dec_po {po ob ri ck : Nat} (h : po < 281474976710656) : beval (bsub (capb po ob ri ck) 0 6) = po := beval_at (p := []) (x := be 6 po) (by simp only [capb, List.append_assoc, List.nil_append]; rfl) rfl rfl h
theorem dec_ob {po ob ri ck : Nat} (h : ob < 16777216) : beval (bsub (capb po ob ri ck) 6 3) = ob := beval_at (p := be 6 po) (x := be 3 ob) (by simp only [capb, List.append_assoc]; rfl) (by simp [be_length]) rfl h
theorem dec_ck {po ob ri ck : Nat} (h : ck < 281474976710656) : beval (bsub (capb po ob ri ck) 10 6) = ck := beval_at (p := be 6 po ++ be 3 ob ++ be 1 ri) (x := be 6 ck) (q := []) (by simp only [capb, List.append_assoc, List.append_nil]) (by simp [be_length]) rfl h
theorem dec_ri {po ob ri ck : Nat} (h : ri < 256) : (capb po ob ri ck)[9]? = some (UInt8.ofNat ri) := by
  have e : capb po ob ri ck = (be 6 po ++ be 3 ob) ++ (UInt8.ofNat ri :: be 6 ck) := by simp only [capb, List.append_assoc]; rfl
  rw [e, List.getElem?_append_right (by simp [be_length])]; simp [be_length]
theorem pbytes118 {w0 w : World} {F : List Chunk} (hS : St w0 w F) {d e : Value} {b s : List UInt8} (hd : RdSX w0 F 1 d b.length (rows encB b)) (he : RdSX w0 F 1 e s.length (rows encB s)) (hbl : b.length ≤ 1000000) (hsl : s.length ≤ 4096) :
 Ret Tryz.prog 118 #[d, e] w (fun v w' => ∃ A c C, Own 5 1 (.slice A (b ++ be 2 s.length ++ s).length c) (b ++ be 2 s.length ++ s).length (rows encB (b ++ be 2 s.length ++ s)) C ∧ v = .tuple #[.slice A (b ++ be 2 s.length ++ s).length c, yT] ∧ St w0 w' (C :: F)) := by
 obtain ⟨Bb, db, rfl, hmdb, hdxb⟩ := (hd w hS).open'
 obtain ⟨Bs, ds, rfl, hmds, hdxs⟩ := (he w hS).open'
 refine enter (vs := [.slice Bb b.length db, .slice Bs s.length ds]) 16 Tryz.func118 rfl rfl (by simp) ?_; intro a hA
 refine zs (zr (zR 2 ((5, yF) :: (4, yS) :: _) hA rfl fun a hA => zn (zx (zs (zs (zr (zR 3 ((8, .bool (decide (((s.length : Nat) : Int) > 65535))) :: (7, vI s.length) :: (6, .slice Bs s.length ds) :: _) hA rfl fun a hA => zn (zx ?_))))))))
 have hc1 : ¬ (((s.length : Nat) : Int) > 65535) := by omega
 replace hA := hA.rw 8 (v' := yF) rfl (vb_false hc1)
 refine cd_cond_f hA rfl (zk (zx (zs (zr (zR 4 ((12, .int .u64 (IntKind.u64.wrap ((s.length : Nat) : Int))) :: (11, vI s.length) :: (10, .slice Bs s.length ds) :: (9, .slice Bb b.length db) :: _) hA rfl fun a hA => ?_)))))
 replace hA := hA.rw 12 (v' := vU s.length) rfl (by rw [wrap_u64 (by omega) (by omega)])
 refine st_call0 hA rfl rfl rfl isfn116 rfl rfl (by decide) (put116 hS (b := b) (fun w' h => (hd _ h)) s.length 2 (by first | omega | (simp only [List.length_append, be_length, capb_length, List.length_cons, List.length_nil, List.length_drop, List.length_take]; omega)) (by omega) (by omega) (by omega)) ?_
 clear hA hS; rintro _ w5 a ⟨A2, c3, C4, hO4, rfl, hS⟩ hA
 obtain ⟨_, _, _, hmc3, hxc3⟩ := hO4.open'
 refine zR 1 ((14, .slice Bs s.length ds) :: _) hA rfl fun a hA => ?_
 refine st_append tbOk hA (m := (b ++ be 2 s.length).length) (q := s.length) (xs := rows encB (b ++ be 2 s.length)) (news := rows encB s) rfl rfl rfl rfl rfl rfl rfl rfl (by decide) hO4 hS ((he _ (hS.tail 1 rfl))) (rows_one encB_ok _) (maxLen_le (by first | omega | (simp only [List.length_append, be_length, capb_length, List.length_cons, List.length_nil, List.length_drop, List.length_take]; omega))) (by show ((b ++ be 2 s.length).length + s.length) * 1 ≤ 140737488355328; first | omega | (simp only [List.length_append, be_length, capb_length, List.length_cons, List.length_nil, List.length_drop, List.length_take]; omega)) rfl rfl (by decide) ?_
 clear hA hS; intro v6 w7 C8 a hO8 hS hA
 replace hO8 := Own.app (l := b ++ be 2 s.length) (l2 := s) hO8
 obtain ⟨A9, c10, rfl, hmc10, hxc10⟩ := hO8.open'
 refine zR 2 ((5, yT) :: (4, .slice A9 (((b ++ be 2 s.length) ++ s).length) c10) :: _) hA rfl fun a hA => zn (zx ?_)
 refine wp_ret ?_
 refine ret2 (fn := Tryz.f118) hA rfl rfl rfl ?_
 exact ⟨_, _, _, hO8, rfl, hS⟩
theorem gbytes92 {w0 w : World} {F : List Chunk} (hS : St w0 w F) {d : Value} {b : List UInt8} (hd : RdS w0 F 1 d b.length (rows encB b)) (k : Nat) (hbl : b.length ≤ 1000000) (hk : k + 2 + beval (bsub b k 2) ≤ b.length) :
 Ret Tryz.prog 92 #[d, vI k] w (fun v w' => ∃ A c C, Own 5 1 (.slice A (bsub b (k + 2) (beval (bsub b k 2))).length c) (bsub b (k + 2) (beval (bsub b k 2))).length (rows encB (bsub b (k + 2) (beval (bsub b k 2)))) C ∧ v = .tuple #[.slice A (bsub b (k + 2) (beval (bsub b k 2))).length c, vI (k + 2 + beval (bsub b k 2)), yT] ∧ St w0 w' (C :: F)) := by
 obtain ⟨B, d', rfl, hmd, hdx⟩ := (hd w hS).open'
 refine enter (vs := [.slice B b.length d', vI k]) 40 Tryz.func92 rfl rfl (by simp) ?_; intro a hA
 refine zs (zr (zR 3 ((6, yF) :: (5, yI) :: (4, yS) :: _) hA rfl fun a hA => zn (zx (zs (zr (zR 2 ((12, vI k) :: (11, .slice B b.length d') :: _) hA rfl fun a hA => ?_))))))
 refine st_call0 hA rfl rfl rfl isfn93 rfl rfl (by decide) (get93 hS (b := b) (fun w' h => (hd _ h)) k 2 (by omega) (by omega) (by omega) (by omega)) ?_
 clear hA hS; rintro _ w1 a ⟨rfl, hS⟩ hA
 refine zR 5 ((8, yT) :: (7, vU (beval (bsub b k 2))) :: (15, yT) :: (14, vU (beval (bsub b k 2))) :: (10, .tuple #[vU (beval (bsub b k 2)), yT]) :: _) hA rfl fun a hA => zn (zx (zs (zs (zr (zR 5 ((20, .int .i64 (IntKind.i64.wrap ((beval (bsub b k 2) : Nat) : Int))) :: (19, vU (beval (bsub b k 2))) :: (18, yF) :: (17, yF) :: (16, yT) :: _) hA rfl fun a hA => ?_)))))
 replace hA := hA.rw 20 (v' := vI (beval (bsub b k 2))) rfl (wr64 (by rfl) (by omega) (by omega))
 refine zR 4 ((24, .int .i64 (IntKind.i64.wrap (((b.length : Nat) : Int) - ((k : Nat) : Int)))) :: (23, vI k) :: (22, vI b.length) :: (21, .slice B b.length d') :: _) hA rfl fun a hA => ?_
 replace hA := hA.rw 24 (v' := .int .i64 (((b.length : Nat) : Int) - ((k : Nat) : Int))) rfl (wr64 (by omega) (by omega) (by omega))
 refine zR 1 ((25, .int .i64 (IntKind.i64.wrap ((((b.length : Nat) : Int) - ((k : Nat) : Int)) - 2))) :: _) hA rfl fun a hA => ?_
 replace hA := hA.rw 25 (v' := .int .i64 ((((b.length : Nat) : Int) - ((k : Nat) : Int)) - 2)) rfl (wr64 (by omega) (by omega) (by omega))
 refine zR 2 ((27, .bool (decide (((beval (bsub b k 2) : Nat) : Int) > (((b.length : Nat) : Int) - ((k : Nat) : Int)) - 2))) :: (26, .bool (decide (((beval (bsub b k 2) : Nat) : Int) > (((b.length : Nat) : Int) - ((k : Nat) : Int)) - 2))) :: _) hA rfl fun a hA => zn (zx ?_)
 have hc2 : ¬ (((beval (bsub b k 2) : Nat) : Int) > (((b.length : Nat) : Int) - ((k : Nat) : Int)) - 2) := by omega
 replace hA := hA.rw 27 (v' := yF) rfl (vb_false hc2)
 refine cd_cond_f hA rfl (zk (zx (zs (zr (zR 2 ((29, .int .i64 (IntKind.i64.wrap (((k : Nat) : Int) + 2))) :: (28, vI k) :: _) hA rfl fun a hA => ?_)))))
 replace hA := hA.rw 29 (v' := vI (k + 2)) rfl (wr64 (by omega) (by omega) (by omega))
 refine zR 2 ((31, .int .i64 (IntKind.i64.wrap ((beval (bsub b k 2) : Nat) : Int))) :: (30, vU (beval (bsub b k 2))) :: _) hA rfl fun a hA => ?_
 replace hA := hA.rw 31 (v' := vI (beval (bsub b k 2))) rfl (wr64 (by rfl) (by omega) (by omega))
 refine zR 1 ((32, .int .i64 (IntKind.i64.wrap (((k + 2 : Nat) : Int) + ((beval (bsub b k 2) : Nat) : Int)))) :: _) hA rfl fun a hA => ?_
 replace hA := hA.rw 32 (v' := vI ((k + 2) + (beval (bsub b k 2)))) rfl (wr64 (by omega) (by omega) (by omega))
 refine zR 1 ((9, vI ((k + 2) + (beval (bsub b k 2)))) :: _) hA rfl fun a hA => zn (zx (zs (zr (zR 3 ((35, .int .i64 (IntKind.i64.wrap (((k : Nat) : Int) + 2))) :: (34, vI k) :: (33, .slice B b.length d') :: _) hA rfl fun a hA => ?_))))
 replace hA := hA.rw 35 (v' := vI (k + 2)) rfl (wr64 (by omega) (by omega) (by omega))
 refine zR 1 ((36, vI ((k + 2) + (beval (bsub b k 2)))) :: _) hA rfl fun a hA => st_val hA rfl rfl (by decide) (rn_slice_lh tbOk hA (k + 2) ((k + 2) + (beval (bsub b k 2))) rfl rfl rfl rfl rfl rfl rfl (by rfl) (by rfl) (by omega) (by omega)) fun a hA => ?_
 replace hS := hS.nil
 refine st_append tbOk hA (m := 0) (q := ((b.take ((k + 2) + (beval (bsub b k 2)))).drop (k + 2)).length) (xs := rows encB ([] : List UInt8)) (news := rows encB ((b.take ((k + 2) + (beval (bsub b k 2)))).drop (k + 2))) rfl rfl rfl rfl rfl rfl rfl rfl (by decide) (Own.nil 5 1) hS (((hd _ (hS.tail 1 rfl)).rslv encB_ok (k + 2) ((k + 2) + (beval (bsub b k 2))) d' (by omega) (by omega) (by omega) (by omega)).x) (rows_one encB_ok _) (maxLen_le (by first | omega | (simp only [List.length_append, be_length, capb_length, List.length_cons, List.length_nil, List.length_drop, List.length_take]; omega))) (by show (0 + ((b.take ((k + 2) + (beval (bsub b k 2)))).drop (k + 2)).length) * 1 ≤ 140737488355328; first | omega | (simp only [List.length_append, be_length, capb_length, List.length_cons, List.length_nil, List.length_drop, List.length_take]; omega)) rfl rfl (by decide) ?_
 clear hA hS; intro v3 w4 C5 a hO5 hS hA
 replace hO5 := Own.app (l := ([] : List UInt8)) (l2 := (b.take ((k + 2) + (beval (bsub b k 2)))).drop (k + 2)) hO5
 replace hO5 : Own 5 1 v3 ((b.take ((k + 2) + (beval (bsub b k 2)))).drop (k + 2)).length (rows encB ((b.take ((k + 2) + (beval (bsub b k 2)))).drop (k + 2))) C5 := hO5
 obtain ⟨A6, c7, rfl, hmc7, hxc7⟩ := hO5.open'
 refine zR 4 ((6, yT) :: (5, vI ((k + 2) + (beval (bsub b k 2)))) :: (4, .slice A6 (((b.take ((k + 2) + (beval (bsub b k 2)))).drop (k + 2)).length) c7) :: (39, vI ((k + 2) + (beval (bsub b k 2)))) :: _) hA rfl fun a hA => zn (zx ?_)
 refine wp_ret ?_
 refine ret3 (fn := Tryz.f92) hA rfl rfl rfl rfl ?_
 have hO9 : Own 5 1 (.slice A6 (bsub b (k + 2) (beval (bsub b k 2))).length c7) (bsub b (k + 2) (beval (bsub b k 2))).length (rows encB (bsub b (k + 2) (beval (bsub b k 2)))) C5 := by exact hO5
 exact ⟨_, _, _, hO9, rfl, hS⟩
theorem cmay82 {w0 w : World} {F : List Chunk} (hS : St w0 w F) {po ob ri ck : Nat} (h1 : po < 281474976710656) (h2 : ob < 16777216) (h4 : ck < 281474976710656) :
 Ret Tryz.prog 82 #[.agg #[vU po, vW ob, vB ri, vU ck]] w (fun v w' => v = yT ∧ St w0 w' F) := by
 refine enter (vs := [.agg #[vU po, vW ob, vB ri, vU ck]]) 16 Tryz.func82 rfl rfl (by simp) ?_; intro a hA
 refine zs (zr ?_)
 refine st_box hA hS [vU po, vW ob, vB ri, vU ck] rfl rfl rfl rfl rfl (by decide) fun b1 w2 a hS hA => ?_
 refine zR 1 ((2, yF) :: _) hA rfl fun a hA => zn (zx (zs (zr (zR 1 ((3, vP b1 0) :: _) hA rfl fun a hA => zL hA hS 0 rfl rfl rfl rfl rfl rfl rfl rfl rfl fun a hA => zR 2 ((6, .bool (decide (((po : Nat) : Int) ≤ 281474976710655))) :: (5, .bool (decide (((po : Nat) : Int) ≤ 281474976710655))) :: _) hA rfl fun a hA => ?_))))
 have hc3 : ((po : Nat) : Int) ≤ 281474976710655 := by omega
 replace hA := hA.rw 5 (v' := yT) rfl (vb_true hc3)
 replace hA := hA.rw 6 (v' := yT) rfl (vb_true hc3)
 refine zR 1 ((7, vP b1 1) :: _) hA rfl fun a hA => zL hA hS 0 rfl rfl rfl rfl rfl rfl rfl rfl rfl fun a hA => zR 3 ((11, .bool (decide (((ob : Nat) : Int) < 16777216))) :: (10, .bool (decide (((ob : Nat) : Int) < 16777216))) :: (9, .bool (decide (((ob : Nat) : Int) < 16777216))) :: _) hA rfl fun a hA => ?_
 have hc4 : ((ob : Nat) : Int) < 16777216 := by omega
 replace hA := hA.rw 9 (v' := yT) rfl (vb_true hc4)
 replace hA := hA.rw 10 (v' := yT) rfl (vb_true hc4)
 replace hA := hA.rw 11 (v' := yT) rfl (vb_true hc4)
 refine zR 1 ((12, vP b1 3) :: _) hA rfl fun a hA => zL hA hS 0 rfl rfl rfl rfl rfl rfl rfl rfl rfl fun a hA => zR 3 ((2, .bool (decide (((ck : Nat) : Int) ≤ 281474976710655))) :: (15, .bool (decide (((ck : Nat) : Int) ≤ 281474976710655))) :: (14, .bool (decide (((ck : Nat) : Int) ≤ 281474976710655))) :: _) hA rfl fun a hA => zn (zx ?_)
 refine wp_ret ?_
 refine ret1 (fn := Tryz.f82) hA rfl rfl ?_
 replace hS := hS.d0
 exact ⟨vbool (decide_eq_true (by omega)), hS⟩
theorem cenc117 {w0 w : World} {F : List Chunk} (hS : St w0 w F) {po ob ri ck : Nat} (h1 : po < 281474976710656) (h2 : ob < 16777216) (h4 : ck < 281474976710656) (h3 : ri < 256) :
 Ret Tryz.prog 117 #[.agg #[vU po, vW ob, vB ri, vU ck]] w (fun v w' => ∃ A c C, Own 5 1 (.slice A (capb po ob ri ck).length c) (capb po ob ri ck).length (rows encB (capb po ob ri ck)) C ∧ v = .slice A (capb po ob ri ck).length c ∧ St w0 w' (C :: F)) := by
 refine enter (vs := [.agg #[vU po, vW ob, vB ri, vU ck]]) 24 Tryz.func117 rfl rfl (by simp) ?_; intro a hA
 refine zs (zr ?_)
 refine st_box hA hS [vU po, vW ob, vB ri, vU ck] rfl rfl rfl rfl rfl (by decide) fun b1 w2 a hS hA => ?_
 refine zR 1 ((2, yS) :: _) hA rfl fun a hA => zn (zx (zs (zs (zr (zLA hA hS 0 [vU po, vW ob, vB ri, vU ck] rfl rfl rfl rfl rfl rfl rfl rfl rfl rfl fun a hA => ?_)))))
 refine st_call0 hA rfl rfl rfl isfn82 rfl rfl (by decide) (cmay82 hS (po := po) (ob := ob) (ri := ri) (ck := ck) (by omega) (by omega) (by omega)) ?_
 clear hA hS; rintro _ w3 a ⟨rfl, hS⟩ hA
 refine zR 1 ((6, yF) :: _) hA rfl fun a hA => zn (zx (cd_cond_f hA rfl (zk (zx (zs (zr (zR 1 ((7, vP b1 0) :: _) hA rfl fun a hA => zL hA hS 0 rfl rfl rfl rfl rfl rfl rfl rfl rfl fun a hA => ?_)))))))
 refine st_call0 hA rfl rfl rfl isfn116 rfl rfl (by decide) (putn116 hS po 6 (by omega) (by omega) (by omega)) ?_
 clear hA hS; rintro _ w7 a ⟨A4, c5, C6, hO6, rfl, hS⟩ hA
 obtain ⟨_, _, _, hmc5, hxc5⟩ := hO6.open'
 refine zR 1 ((3, .slice A4 ((be 6 po).length) c5) :: _) hA rfl fun a hA => zn (zx (zs (zr (zR 2 ((11, vP b1 1) :: (10, .slice A4 ((be 6 po).length) c5) :: _) hA rfl fun a hA => zL hA hS 1 rfl rfl rfl rfl rfl rfl rfl rfl rfl fun a hA => zR 1 ((13, .int .u64 (IntKind.u64.wrap ((ob : Nat) : Int))) :: _) hA rfl fun a hA => ?_))))
 replace hA := hA.rw 13 (v' := vU ob) rfl (by rw [wrap_u64 (by omega) (by omega)])
 refine st_call0 hA rfl rfl rfl isfn116 rfl rfl (by decide) (put116 hS (b := be 6 po) (RdS.x (RdS.own hO6 0 rfl)) ob 3 (by first | omega | (simp only [List.length_append, be_length, capb_length, List.length_cons, List.length_nil, List.length_drop, List.length_take]; omega)) (by omega) (by omega) (by omega)) ?_
 clear hA hS; rintro _ w11 a ⟨A8, c9, C10, hO10, rfl, hS⟩ hA
 obtain ⟨_, _, _, hmc9, hxc9⟩ := hO10.open'
 refine zR 1 ((3, .slice A8 ((be 6 po ++ be 3 ob).length) c9) :: _) hA rfl fun a hA => zn (zx (zs (zr (zR 2 ((16, vP b1 2) :: (15, .slice A8 ((be 6 po ++ be 3 ob).length) c9) :: _) hA rfl fun a hA => zL hA hS 2 rfl rfl rfl rfl rfl rfl rfl rfl rfl fun a hA => zR 1 ((18, .int .u64 (IntKind.u64.wrap ((ri : Nat) : Int))) :: _) hA rfl fun a hA => ?_))))
 replace hA := hA.rw 18 (v' := vU ri) rfl (by rw [wrap_u64 (by omega) (by omega)])
 refine st_call0 hA rfl rfl rfl isfn116 rfl rfl (by decide) (put116 hS (b := be 6 po ++ be 3 ob) (RdS.x (RdS.own hO10 0 rfl)) ri 1 (by first | omega | (simp only [List.length_append, be_length, capb_length, List.length_cons, List.length_nil, List.length_drop, List.length_take]; omega)) (by omega) (by omega) (by omega)) ?_
 clear hA hS; rintro _ w15 a ⟨A12, c13, C14, hO14, rfl, hS⟩ hA
 obtain ⟨_, _, _, hmc13, hxc13⟩ := hO14.open'
 refine zR 1 ((3, .slice A12 ((be 6 po ++ be 3 ob ++ be 1 ri).length) c13) :: _) hA rfl fun a hA => zn (zx (zs (zr (zR 2 ((21, vP b1 3) :: (20, .slice A12 ((be 6 po ++ be 3 ob ++ be 1 ri).length) c13) :: _) hA rfl fun a hA => zL hA hS 3 rfl rfl rfl rfl rfl rfl rfl rfl rfl fun a hA => ?_))))
 refine st_call0 hA rfl rfl rfl isfn116 rfl rfl (by decide) (put116 hS (b := be 6 po ++ be 3 ob ++ be 1 ri) (RdS.x (RdS.own hO14 0 rfl)) ck 6 (by first | omega | (simp only [List.length_append, be_length, capb_length, List.length_cons, List.length_nil, List.length_drop, List.length_take]; omega)) (by omega) (by omega) (by omega)) ?_
 clear hA hS; rintro _ w19 a ⟨A16, c17, C18, hO18, rfl, hS⟩ hA
 obtain ⟨_, _, _, hmc17, hxc17⟩ := hO18.open'
 refine zR 1 ((2, .slice A16 ((be 6 po ++ be 3 ob ++ be 1 ri ++ be 6 ck).length) c17) :: _) hA rfl fun a hA => zn (zx ?_)
 refine wp_ret ?_
 refine ret1 (fn := Tryz.f117) hA rfl rfl ?_
 replace hS := hS.d1.d1.d1.d1
 exact ⟨_, _, _, hO18, rfl, hS⟩
theorem cdec94 {w0 w : World} {F : List Chunk} (hS : St w0 w F) {d : Value} {b : List UInt8} {po ob ri ck : Nat} (hd : RdS w0 F 1 d b.length (rows encB b)) (hb : b = capb po ob ri ck) (h1 : po < 281474976710656) (h2 : ob < 16777216) (h3 : ri < 256) (h4 : ck < 281474976710656) :
 Ret Tryz.prog 94 #[d] w (fun v w' => v = .tuple #[.agg #[vU po, vW ob, vB ri, vU ck], yT] ∧ St w0 w' F) := by
 have hbl : b.length = 16 := by rw [hb]; exact capb_length _ _ _ _
 obtain ⟨B, d', rfl, hmd, hdx⟩ := (hd w hS).open'
 refine enter (vs := [.slice B b.length d']) 37 Tryz.func94 rfl rfl (by simp) ?_; intro a hA
 refine zs (zr ?_)
 refine st_alloc tbOk hA hS [yU, yW, yB, yU] rfl rfl rfl rfl rfl (by decide) fun b1 w2 a hS hA => ?_
 refine zR 1 ((3, yF) :: _) hA rfl fun a hA => zn (zx (zs (zs (zr (zR 3 ((12, .bool (((b.length : Nat) : Int) != 16)) :: (11, vI b.length) :: (10, .slice B b.length d') :: _) hA rfl fun a hA => zn (zx ?_))))))
 have hc3 : ((b.length : Nat) : Int) = 16 := by omega
 replace hA := hA.rw 12 (v' := yF) rfl (vb_ne_f hc3)
 refine cd_cond_f hA rfl (zk (zx (zs (zr (zR 1 ((15, .slice B b.length d') :: _) hA rfl fun a hA => ?_)))))
 refine st_call0 hA rfl rfl rfl isfn93 rfl rfl (by decide) (get93 hS (b := b) (fun w' h => (hd _ (h.tail 1 rfl))) 0 6 (by omega) (by omega) (by omega) (by omega)) ?_
 clear hA hS; rintro _ w4 a ⟨rfl, hS⟩ hA
 refine zR 5 ((5, yT) :: (4, vU (beval (bsub b 0 6))) :: (18, yT) :: (17, vU (beval (bsub b 0 6))) :: (14, .tuple #[vU (beval (bsub b 0 6)), yT]) :: _) hA rfl fun a hA => zn (zx (zs (zr (zR 1 ((20, .slice B b.length d') :: _) hA rfl fun a hA => ?_))))
 refine st_call0 hA rfl rfl rfl isfn93 rfl rfl (by decide) (get93 hS (b := b) (fun w' h => (hd _ (h.tail 1 rfl))) 6 3 (by omega) (by omega) (by omega) (by omega)) ?_
 clear hA hS; rintro _ w5 a ⟨rfl, hS⟩ hA
 refine zR 5 ((7, yT) :: (6, vU (beval (bsub b 6 3))) :: (23, yT) :: (22, vU (beval (bsub b 6 3))) :: (19, .tuple #[vU (beval (bsub b 6 3)), yT]) :: _) hA rfl fun a hA => zn (zx (zs (zr (zR 1 ((25, .slice B b.length d') :: _) hA rfl fun a hA => ?_))))
 refine st_call0 hA rfl rfl rfl isfn93 rfl rfl (by decide) (get93 hS (b := b) (fun w' h => (hd _ (h.tail 1 rfl))) 10 6 (by omega) (by omega) (by omega) (by omega)) ?_
 clear hA hS; rintro _ w6 a ⟨rfl, hS⟩ hA
 refine zR 5 ((9, yT) :: (8, vU (beval (bsub b 10 6))) :: (28, yT) :: (27, vU (beval (bsub b 10 6))) :: (24, .tuple #[vU (beval (bsub b 10 6)), yT]) :: _) hA rfl fun a hA => zn (zx (zs (zr ?_)))
 have hlt := bsub_lt b 6 3
 refine zR 3 ((31, .int .u32 (IntKind.u32.wrap ((beval (bsub b 6 3) : Nat) : Int))) :: (30, vU (beval (bsub b 6 3))) :: (29, vU (beval (bsub b 0 6))) :: _) hA rfl fun a hA => ?_
 replace hA := hA.rw 31 (v' := vW (beval (bsub b 6 3))) rfl (by rw [wrap_u32 (by omega) (by omega)])
 refine zR 1 ((32, .slice B b.length d') :: _) hA rfl fun a hA => ?_
 obtain ⟨b7, o8, rfl⟩ := (hd _ (hS.tail 1 rfl)).isSome (k := 9) (by omega)
 refine st_val hA rfl rfl (by decide) (rn_indexAddr tbOk hA 9 (o8 + 9) rfl rfl rfl rfl rfl rfl (by rfl) (by omega) (by first | rfl | simp [Nat.mul_one, Nat.zero_add] | omega)) fun a hA => ?_
 obtain ⟨x9, hx9⟩ := get_ex (l := b) (k := 9) (by omega)
 have hbx9 : x9.toNat < 256 := UInt8.toNat_lt x9
 refine st_val hA rfl rfl (by decide) (rn_load tbOk hA rfl rfl rfl rfl ((hd _ (hS.tail 1 rfl)).elem0 (k := 9) encB_ok hx9 rfl)) fun a hA => zR 1 ((35, vU (beval (bsub b 10 6))) :: _) hA rfl fun a hA => st_val hA rfl rfl (by decide) (rn_build tbOk hA rfl rfl rfl rfl rfl rfl rfl) fun a hA => ?_
 refine st_store tbOk hA hS [vU (beval (bsub b 0 6)), vW (beval (bsub b 6 3)), vB x9.toNat, vU (beval (bsub b 10 6))] [vU (beval (bsub b 0 6)), vW (beval (bsub b 6 3)), vB x9.toNat, vU (beval (bsub b 10 6))] rfl rfl rfl rfl rfl rfl (zn1 rfl) (zle rfl) rfl rfl rfl fun w10 hS => ?_
 refine zR 1 ((3, yT) :: _) hA rfl fun a hA => zn (zx ?_)
 refine wp_ret ?_
 refine retc2 tbOk (fn := Tryz.f94) (cs := [vU (beval (bsub b 0 6)), vW (beval (bsub b 6 3)), vB x9.toNat, vU (beval (bsub b 10 6))]) hA rfl rfl rfl rfl rfl rfl (cells_row (hS.heapAt 0 rfl) rfl) ?_
 have hri : x9 = UInt8.ofNat ri := by have h9 := hx9; rw [hb, dec_ri h3] at h9; exact (Option.some.inj h9).symm
 replace hS := hS.d0
 have e1 := dec_po (ob := ob) (ri := ri) (ck := ck) h1; have e2 := dec_ob (po := po) (ri := ri) (ck := ck) h2; have e4 := dec_ck (po := po) (ob := ob) (ri := ri) h4; rw [← hb] at e1 e2 e4
 have e3 : (UInt8.ofNat ri).toNat = ri := by simp; omega
 exact ⟨by rw [e1, e2, e4, hri, e3], hS⟩
theorem hmay54 {w0 w : World} {F : List Chunk} (hS : St w0 w F) (m : MN) (hm : m.ok) (A : Option Addr) (c : Nat) :
 Ret Tryz.prog 54 #[.agg #[vU m.to, vU m.rp, vW m.id, vH m.op, vH m.st, vU m.po, vW m.ob, vB m.ri, vU m.ck, vU m.ar, .slice A m.da.length c]] w (fun v w' => v = yT ∧ St w0 w' F) := by
 obtain ⟨hk1, hk2, hk3, hk4, hk5, hk6, hk7, hk8, hk9, hk10, hk11⟩ := hm
 refine enter (vs := [.agg #[vU m.to, vU m.rp, vW m.id, vH m.op, vH m.st, vU m.po, vW m.ob, vB m.ri, vU m.ck, vU m.ar, .slice A m.da.length c]]) 22 Tryz.func54 rfl rfl (by simp) ?_; intro a hA
 refine zs (zr ?_)
 refine st_box hA hS [vU m.to, vU m.rp, vW m.id, vH m.op, vH m.st, vU m.po, vW m.ob, vB m.ri, vU m.ck, vU m.ar, .slice A m.da.length c] rfl rfl rfl rfl rfl (by decide) fun b1 w2 a hS hA => ?_
 refine zR 1 ((2, yF) :: _) hA rfl fun a hA => zn (zx (zs (zr (zR 1 ((3, vP b1 0) :: _) hA rfl fun a hA => zL hA hS 0 rfl rfl rfl rfl rfl rfl rfl rfl rfl fun a hA => zR 2 ((6, .bool (decide (((m.to : Nat) : Int) ≤ 281474976710655))) :: (5, .bool (decide (((m.to : Nat) : Int) ≤ 281474976710655))) :: _) hA rfl fun a hA => ?_))))
 have hc3 : ((m.to : Nat) : Int) ≤ 281474976710655 := by omega
 replace hA := hA.rw 5 (v' := yT) rfl (vb_true hc3)
 replace hA := hA.rw 6 (v' := yT) rfl (vb_true hc3)
 refine zR 1 ((7, vP b1 1) :: _) hA rfl fun a hA => zL hA hS 0 rfl rfl rfl rfl rfl rfl rfl rfl rfl fun a hA => zR 3 ((11, .bool (decide (((m.rp : Nat) : Int) ≤ 281474976710655))) :: (10, .bool (decide (((m.rp : Nat) : Int) ≤ 281474976710655))) :: (9, .bool (decide (((m.rp : Nat) : Int) ≤ 281474976710655))) :: _) hA rfl fun a hA => ?_
 have hc4 : ((m.rp : Nat) : Int) ≤ 281474976710655 := by omega
 replace hA := hA.rw 9 (v' := yT) rfl (vb_true hc4)
 replace hA := hA.rw 10 (v' := yT) rfl (vb_true hc4)
 replace hA := hA.rw 11 (v' := yT) rfl (vb_true hc4)
 refine zR 1 ((12, vP b1 5) :: _) hA rfl fun a hA => zLA hA hS 0 [vU m.po, vW m.ob, vB m.ri, vU m.ck] rfl rfl rfl rfl rfl rfl rfl rfl rfl rfl fun a hA => ?_
 refine st_call0 hA rfl rfl rfl isfn82 rfl rfl (by decide) (cmay82 hS (po := m.po) (ob := m.ob) (ri := m.ri) (ck := m.ck) (by omega) (by omega) (by omega)) ?_
 clear hA hS; rintro _ w5 a ⟨rfl, hS⟩ hA
 refine zR 3 ((17, vP b1 10) :: (16, yT) :: (15, yT) :: _) hA rfl fun a hA => zL hA hS 0 rfl rfl rfl rfl rfl rfl rfl rfl rfl fun a hA => zR 4 ((2, .bool (decide (((m.da.length : Nat) : Int) ≤ 4096))) :: (21, .bool (decide (((m.da.length : Nat) : Int) ≤ 4096))) :: (20, .bool (decide (((m.da.length : Nat) : Int) ≤ 4096))) :: (19, vI m.da.length) :: _) hA rfl fun a hA => zn (zx ?_)
 refine wp_ret ?_
 refine ret1 (fn := Tryz.f54) hA rfl rfl ?_
 replace hS := hS.d0
 exact ⟨vbool (decide_eq_true (by omega)), hS⟩
theorem henc95 {w0 w : World} {F : List Chunk} (hS : St w0 w F) (m : MN) (hm : m.ok) {d : Value} (hd : RdSX w0 F 1 d m.da.length (rows encB m.da)) :
 Ret Tryz.prog 95 #[.agg #[vU m.to, vU m.rp, vW m.id, vH m.op, vH m.st, vU m.po, vW m.ob, vB m.ri, vU m.ck, vU m.ar, d]] w (fun v w' => ∃ A c C, Own 5 1 (.slice A (encM m).length c) (encM m).length (rows encB (encM m)) C ∧ v = .tuple #[.slice A (encM m).length c, yN] ∧ St w0 w' (C :: F)) := by
 obtain ⟨B, d', rfl, hmd, hdx⟩ := (hd w hS).open'
 have hm0 := hm
 obtain ⟨hk1, hk2, hk3, hk4, hk5, hk6, hk7, hk8, hk9, hk10, hk11⟩ := hm
 refine enter (vs := [.agg #[vU m.to, vU m.rp, vW m.id, vH m.op, vH m.st, vU m.po, vW m.ob, vB m.ri, vU m.ck, vU m.ar, .slice B m.da.length d']]) 48 Tryz.func95 rfl rfl (by simp) ?_; intro a hA
 refine zs (zr ?_)
 refine st_box hA hS [vU m.to, vU m.rp, vW m.id, vH m.op, vH m.st, vU m.po, vW m.ob, vB m.ri, vU m.ck, vU m.ar, .slice B m.da.length d'] rfl rfl rfl rfl rfl (by decide) fun b1 w2 a hS hA => ?_
 refine zR 2 ((3, yN) :: (2, yS) :: _) hA rfl fun a hA => zn (zx (zs (zs (zr (zLA hA hS 0 [vU m.to, vU m.rp, vW m.id, vH m.op, vH m.st, vU m.po, vW m.ob, vB m.ri, vU m.ck, vU m.ar, .slice B m.da.length d'] rfl rfl rfl rfl rfl rfl rfl rfl rfl rfl fun a hA => ?_)))))
 refine st_call0 hA rfl rfl rfl isfn54 rfl rfl (by decide) (hmay54 hS m hm0 B d' ) ?_
 clear hA hS; rintro _ w3 a ⟨rfl, hS⟩ hA
 refine zR 1 ((7, yF) :: _) hA rfl fun a hA => zn (zx (cd_cond_f hA rfl (zk (zx (zs (zr (zR 1 ((9, vP b1 0) :: _) hA rfl fun a hA => zL hA hS 0 rfl rfl rfl rfl rfl rfl rfl rfl rfl fun a hA => ?_)))))))
 refine st_call0 hA rfl rfl rfl isfn116 rfl rfl (by decide) (putn116 hS m.to 6 (by omega) (by omega) (by omega)) ?_
 clear hA hS; rintro _ w7 a ⟨A4, c5, C6, hO6, rfl, hS⟩ hA
 obtain ⟨_, _, _, hmc5, hxc5⟩ := hO6.open'
 refine zR 1 ((4, .slice A4 ((be 6 m.to).length) c5) :: _) hA rfl fun a hA => zn (zx (zs (zr (zR 2 ((13, vP b1 1) :: (12, .slice A4 ((be 6 m.to).length) c5) :: _) hA rfl fun a hA => zL hA hS 1 rfl rfl rfl rfl rfl rfl rfl rfl rfl fun a hA => ?_))))
 refine st_call0 hA rfl rfl rfl isfn116 rfl rfl (by decide) (put116 hS (b := be 6 m.to) (RdS.x (RdS.own hO6 0 rfl)) m.rp 6 (by first | omega | (simp only [List.length_append, be_length, capb_length, List.length_cons, List.length_nil, List.length_drop, List.length_take]; omega)) (by omega) (by omega) (by omega)) ?_
 clear hA hS; rintro _ w11 a ⟨A8, c9, C10, hO10, rfl, hS⟩ hA
 obtain ⟨_, _, _, hmc9, hxc9⟩ := hO10.open'
 refine zR 1 ((4, .slice A8 ((be 6 m.to ++ be 6 m.rp).length) c9) :: _) hA rfl fun a hA => zn (zx (zs (zr (zR 2 ((17, vP b1 2) :: (16, .slice A8 ((be 6 m.to ++ be 6 m.rp).length) c9) :: _) hA rfl fun a hA => zL hA hS 2 rfl rfl rfl rfl rfl rfl rfl rfl rfl fun a hA => zR 1 ((19, .int .u64 (IntKind.u64.wrap ((m.id : Nat) : Int))) :: _) hA rfl fun a hA => ?_))))
 replace hA := hA.rw 19 (v' := vU m.id) rfl (by rw [wrap_u64 (by omega) (by omega)])
 refine st_call0 hA rfl rfl rfl isfn116 rfl rfl (by decide) (put116 hS (b := be 6 m.to ++ be 6 m.rp) (RdS.x (RdS.own hO10 0 rfl)) m.id 4 (by first | omega | (simp only [List.length_append, be_length, capb_length, List.length_cons, List.length_nil, List.length_drop, List.length_take]; omega)) (by omega) (by omega) (by omega)) ?_
 clear hA hS; rintro _ w15 a ⟨A12, c13, C14, hO14, rfl, hS⟩ hA
 obtain ⟨_, _, _, hmc13, hxc13⟩ := hO14.open'
 refine zR 1 ((4, .slice A12 ((be 6 m.to ++ be 6 m.rp ++ be 4 m.id).length) c13) :: _) hA rfl fun a hA => zn (zx (zs (zr (zR 2 ((22, vP b1 3) :: (21, .slice A12 ((be 6 m.to ++ be 6 m.rp ++ be 4 m.id).length) c13) :: _) hA rfl fun a hA => zL hA hS 3 rfl rfl rfl rfl rfl rfl rfl rfl rfl fun a hA => zR 1 ((24, .int .u64 (IntKind.u64.wrap ((m.op : Nat) : Int))) :: _) hA rfl fun a hA => ?_))))
 replace hA := hA.rw 24 (v' := vU m.op) rfl (by rw [wrap_u64 (by omega) (by omega)])
 refine st_call0 hA rfl rfl rfl isfn116 rfl rfl (by decide) (put116 hS (b := be 6 m.to ++ be 6 m.rp ++ be 4 m.id) (RdS.x (RdS.own hO14 0 rfl)) m.op 2 (by first | omega | (simp only [List.length_append, be_length, capb_length, List.length_cons, List.length_nil, List.length_drop, List.length_take]; omega)) (by omega) (by omega) (by omega)) ?_
 clear hA hS; rintro _ w19 a ⟨A16, c17, C18, hO18, rfl, hS⟩ hA
 obtain ⟨_, _, _, hmc17, hxc17⟩ := hO18.open'
 refine zR 1 ((4, .slice A16 ((be 6 m.to ++ be 6 m.rp ++ be 4 m.id ++ be 2 m.op).length) c17) :: _) hA rfl fun a hA => zn (zx (zs (zr (zR 2 ((27, vP b1 4) :: (26, .slice A16 ((be 6 m.to ++ be 6 m.rp ++ be 4 m.id ++ be 2 m.op).length) c17) :: _) hA rfl fun a hA => zL hA hS 4 rfl rfl rfl rfl rfl rfl rfl rfl rfl fun a hA => zR 1 ((29, .int .u64 (IntKind.u64.wrap ((m.st : Nat) : Int))) :: _) hA rfl fun a hA => ?_))))
 replace hA := hA.rw 29 (v' := vU m.st) rfl (by rw [wrap_u64 (by omega) (by omega)])
 refine st_call0 hA rfl rfl rfl isfn116 rfl rfl (by decide) (put116 hS (b := be 6 m.to ++ be 6 m.rp ++ be 4 m.id ++ be 2 m.op) (RdS.x (RdS.own hO18 0 rfl)) m.st 2 (by first | omega | (simp only [List.length_append, be_length, capb_length, List.length_cons, List.length_nil, List.length_drop, List.length_take]; omega)) (by omega) (by omega) (by omega)) ?_
 clear hA hS; rintro _ w23 a ⟨A20, c21, C22, hO22, rfl, hS⟩ hA
 obtain ⟨_, _, _, hmc21, hxc21⟩ := hO22.open'
 refine zR 1 ((4, .slice A20 ((be 6 m.to ++ be 6 m.rp ++ be 4 m.id ++ be 2 m.op ++ be 2 m.st).length) c21) :: _) hA rfl fun a hA => zn (zx (zs (zr (zR 2 ((32, vP b1 5) :: (31, .slice A20 ((be 6 m.to ++ be 6 m.rp ++ be 4 m.id ++ be 2 m.op ++ be 2 m.st).length) c21) :: _) hA rfl fun a hA => zLA hA hS 5 [vU m.po, vW m.ob, vB m.ri, vU m.ck] rfl rfl rfl rfl rfl rfl rfl rfl rfl rfl fun a hA => ?_))))
 refine st_call0 hA rfl rfl rfl isfn117 rfl rfl (by decide) (cenc117 hS (po := m.po) (ob := m.ob) (ri := m.ri) (ck := m.ck) (by omega) (by omega) (by omega) (by omega)) ?_
 clear hA hS; rintro _ w27 a ⟨A24, c25, C26, hO26, rfl, hS⟩ hA
 obtain ⟨_, _, _, hmc25, hxc25⟩ := hO26.open'
 replace hS := hS.m1
 refine st_append tbOk hA (m := (be 6 m.to ++ be 6 m.rp ++ be 4 m.id ++ be 2 m.op ++ be 2 m.st).length) (q := (capb m.po m.ob m.ri m.ck).length) (xs := rows encB (be 6 m.to ++ be 6 m.rp ++ be 4 m.id ++ be 2 m.op ++ be 2 m.st)) (news := rows encB (capb m.po m.ob m.ri m.ck)) rfl rfl rfl rfl rfl rfl rfl rfl (by decide) hO22 hS ((hO26.rd (hS.own_ 1 rfl)).x) (rows_one encB_ok _) (maxLen_le (by first | omega | (simp only [List.length_append, be_length, capb_length, List.length_cons, List.length_nil, List.length_drop, List.length_take]; omega))) (by show ((be 6 m.to ++ be 6 m.rp ++ be 4 m.id ++ be 2 m.op ++ be 2 m.st).length + (capb m.po m.ob m.ri m.ck).length) * 1 ≤ 140737488355328; first | omega | (simp only [List.length_append, be_length, capb_length, List.length_cons, List.length_nil, List.length_drop, List.length_take]; omega)) rfl rfl (by decide) ?_
 clear hA hS; intro v28 w29 C30 a hO30 hS hA
 replace hO30 := Own.app (l := be 6 m.to ++ be 6 m.rp ++ be 4 m.id ++ be 2 m.op ++ be 2 m.st) (l2 := capb m.po m.ob m.ri m.ck) hO30
 obtain ⟨A31, c32, rfl, hmc32, hxc32⟩ := hO30.open'
 refine zR 1 ((4, .slice A31 (((be 6 m.to ++ be 6 m.rp ++ be 4 m.id ++ be 2 m.op ++ be 2 m.st) ++ (capb m.po m.ob m.ri m.ck)).length) c32) :: _) hA rfl fun a hA => zn (zx (zs (zr (zR 2 ((37, vP b1 9) :: (36, .slice A31 (((be 6 m.to ++ be 6 m.rp ++ be 4 m.id ++ be 2 m.op ++ be 2 m.st) ++ (capb m.po m.ob m.ri m.ck)).length) c32) :: _) hA rfl fun a hA => zL hA hS 6 rfl rfl rfl rfl rfl rfl rfl rfl rfl fun a hA => ?_))))
 refine st_call0 hA rfl rfl rfl isfn116 rfl rfl (by decide) (put116 hS (b := (be 6 m.to ++ be 6 m.rp ++ be 4 m.id ++ be 2 m.op ++ be 2 m.st) ++ (capb m.po m.ob m.ri m.ck)) (RdS.x (RdS.own hO30 0 rfl)) m.ar 8 (by first | omega | (simp only [List.length_append, be_length, capb_length, List.length_cons, List.length_nil, List.length_drop, List.length_take]; omega)) (by omega) (by omega) (by omega)) ?_
 clear hA hS; rintro _ w36 a ⟨A33, c34, C35, hO35, rfl, hS⟩ hA
 obtain ⟨_, _, _, hmc34, hxc34⟩ := hO35.open'
 refine zR 1 ((4, .slice A33 (((be 6 m.to ++ be 6 m.rp ++ be 4 m.id ++ be 2 m.op ++ be 2 m.st) ++ (capb m.po m.ob m.ri m.ck) ++ be 8 m.ar).length) c34) :: _) hA rfl fun a hA => zn (zx (zs (zr (zR 2 ((42, vP b1 10) :: (41, .slice A33 (((be 6 m.to ++ be 6 m.rp ++ be 4 m.id ++ be 2 m.op ++ be 2 m.st) ++ (capb m.po m.ob m.ri m.ck) ++ be 8 m.ar).length) c34) :: _) hA rfl fun a hA => zL hA hS 7 rfl rfl rfl rfl rfl rfl rfl rfl rfl fun a hA => ?_))))
 refine st_call0 hA rfl rfl rfl isfn118 rfl rfl (by decide) (pbytes118 hS (b := (be 6 m.to ++ be 6 m.rp ++ be 4 m.id ++ be 2 m.op ++ be 2 m.st) ++ (capb m.po m.ob m.ri m.ck) ++ be 8 m.ar) (RdS.x (RdS.own hO35 0 rfl)) (s := m.da) (fun w' h => (hd _ (h.tail 8 rfl))) (by first | omega | (simp only [List.length_append, be_length, capb_length, List.length_cons, List.length_nil, List.length_drop, List.length_take]; omega)) (by omega)) ?_
 clear hA hS; rintro _ w40 a ⟨A37, c38, C39, hO39, rfl, hS⟩ hA
 obtain ⟨_, _, _, hmc38, hxc38⟩ := hO39.open'
 refine zR 4 ((4, .slice A37 (((be 6 m.to ++ be 6 m.rp ++ be 4 m.id ++ be 2 m.op ++ be 2 m.st) ++ (capb m.po m.ob m.ri m.ck) ++ be 8 m.ar ++ be 2 m.da.length ++ m.da).length) c38) :: (46, yT) :: (45, .slice A37 (((be 6 m.to ++ be 6 m.rp ++ be 4 m.id ++ be 2 m.op ++ be 2 m.st) ++ (capb m.po m.ob m.ri m.ck) ++ be 8 m.ar ++ be 2 m.da.length ++ m.da).length) c38) :: (40, .tuple #[.slice A37 (((be 6 m.to ++ be 6 m.rp ++ be 4 m.id ++ be 2 m.op ++ be 2 m.st) ++ (capb m.po m.ob m.ri m.ck) ++ be 8 m.ar ++ be 2 m.da.length ++ m.da).length) c38, yT]) :: _) hA rfl fun a hA => zn (zx (zs (zr ?_)))
 refine zR 3 ((3, yN) :: (2, .slice A37 (((be 6 m.to ++ be 6 m.rp ++ be 4 m.id ++ be 2 m.op ++ be 2 m.st) ++ (capb m.po m.ob m.ri m.ck) ++ be 8 m.ar ++ be 2 m.da.length ++ m.da).length) c38) :: (47, .slice A37 (((be 6 m.to ++ be 6 m.rp ++ be 4 m.id ++ be 2 m.op ++ be 2 m.st) ++ (capb m.po m.ob m.ri m.ck) ++ be 8 m.ar ++ be 2 m.da.length ++ m.da).length) c38) :: _) hA rfl fun a hA => zn (zx ?_)
 refine wp_ret ?_
 refine ret2 (fn := Tryz.f95) hA rfl rfl rfl ?_
 replace hS := hS.d1.d1.d1.d1.d1.d1.d1.d1
 exact ⟨_, _, _, hO39, rfl, hS⟩
theorem hdec61 {w0 w : World} {F : List Chunk} (hS : St w0 w F) {d : Value} {b : List UInt8} (hd : RdS w0 F 1 d b.length (rows encB b)) (m : MN) (hm : m.ok) (hb : b = encM m) :
 Ret Tryz.prog 61 #[d] w (fun v w' => ∃ A c C, Own 5 1 (.slice A (m.da).length c) (m.da).length (rows encB (m.da)) C ∧ v = .tuple #[.agg #[vU m.to, vU m.rp, vW m.id, vH m.op, vH m.st, vU m.po, vW m.ob, vB m.ri, vU m.ck, vU m.ar, .slice A m.da.length c], yN] ∧ St w0 w' (C :: F)) := by
 have hm0 := hm
 obtain ⟨hk1, hk2, hk3, hk4, hk5, hk6, hk7, hk8, hk9, hk10, hk11⟩ := hm
 have hbl : b.length = 46 + m.da.length := by rw [hb]; exact encM_length m
 have hln := dec_ln m hm0; rw [← hb] at hln
 obtain ⟨B, d', rfl, hmd, hdx⟩ := (hd w hS).open'
 refine enter (vs := [.slice B b.length d']) 95 Tryz.func61 rfl rfl (by simp) ?_; intro a hA
 refine zs (zr ?_)
 refine st_alloc tbOk hA hS [yU, yU, yW, yH, yH, yU, yW, yB, yU, yU, yS] rfl rfl rfl rfl rfl (by decide) fun b1 w2 a hS hA => ?_
 refine zR 1 ((3, yN) :: _) hA rfl fun a hA => zn (zx (zs (zs (zr (zR 3 ((23, .bool (decide (((b.length : Nat) : Int) < 46))) :: (22, vI b.length) :: (21, .slice B b.length d') :: _) hA rfl fun a hA => zn (zx ?_))))))
 have hc3 : ¬ (((b.length : Nat) : Int) < 46) := by omega
 replace hA := hA.rw 23 (v' := yF) rfl (vb_false hc3)
 refine cd_cond_f hA rfl (zk (zx (zs (zr (zR 1 ((27, .slice B b.length d') :: _) hA rfl fun a hA => ?_)))))
 refine st_call0 hA rfl rfl rfl isfn92 rfl rfl (by decide) (gbytes92 hS (b := b) (fun w' h => (hd _ (h.tail 1 rfl))) 44 (by omega) (by omega)) ?_
 clear hA hS; rintro _ w7 a ⟨A4, c5, C6, hO6, rfl, hS⟩ hA
 obtain ⟨_, _, _, hmc5, hxc5⟩ := hO6.open'
 refine zR 7 ((6, yT) :: (5, vI (44 + 2 + beval (bsub b 44 2))) :: (4, .slice A4 ((bsub b (44 + 2) (beval (bsub b 44 2))).length) c5) :: (31, yT) :: (30, vI (44 + 2 + beval (bsub b 44 2))) :: (29, .slice A4 ((bsub b (44 + 2) (beval (bsub b 44 2))).length) c5) :: (26, .tuple #[.slice A4 ((bsub b (44 + 2) (beval (bsub b 44 2))).length) c5, vI (44 + 2 + beval (bsub b 44 2)), yT]) :: _) hA rfl fun a hA => zn (zx (zs (zs (zr ?_))))
 have hdl : (bsub b (44 + 2) (beval (bsub b 44 2))).length = m.da.length := by rw [bsub_length (by omega)]; exact hln
 refine zR 9 ((40, .bool (((44 + 2 + beval (bsub b 44 2) : Nat) : Int) != ((b.length : Nat) : Int))) :: (39, .bool (((44 + 2 + beval (bsub b 44 2) : Nat) : Int) != ((b.length : Nat) : Int))) :: (38, .bool (((44 + 2 + beval (bsub b 44 2) : Nat) : Int) != ((b.length : Nat) : Int))) :: (37, vI b.length) :: (36, .slice B b.length d') :: (35, vI (44 + 2 + beval (bsub b 44 2))) :: (34, yF) :: (33, yF) :: (32, yT) :: _) hA rfl fun a hA => ?_
 have hc8 : ((44 + 2 + beval (bsub b 44 2) : Nat) : Int) = ((b.length : Nat) : Int) := by omega
 replace hA := hA.rw 38 (v' := yF) rfl (vb_ne_f hc8)
 replace hA := hA.rw 39 (v' := yF) rfl (vb_ne_f hc8)
 replace hA := hA.rw 40 (v' := yF) rfl (vb_ne_f hc8)
 refine zR 4 ((44, .bool (decide ((((bsub b (44 + 2) (beval (bsub b 44 2))).length : Nat) : Int) > 4096))) :: (43, .bool (decide ((((bsub b (44 + 2) (beval (bsub b 44 2))).length : Nat) : Int) > 4096))) :: (42, vI ((bsub b (44 + 2) (beval (bsub b 44 2))).length)) :: (41, .slice A4 ((bsub b (44 + 2) (beval (bsub b 44 2))).length) c5) :: _) hA rfl fun a hA => zn (zx ?_)
 have hc9 : ¬ ((((bsub b (44 + 2) (beval (bsub b 44 2))).length : Nat) : Int) > 4096) := by omega
 replace hA := hA.rw 44 (v' := yF) rfl (vb_false hc9)
 refine cd_cond_f hA rfl (zk (zx (zs (zr (zR 1 ((48, .slice B b.length d') :: _) hA rfl fun a hA => ?_)))))
 refine st_call0 hA rfl rfl rfl isfn93 rfl rfl (by decide) (get93 hS (b := b) (fun w' h => (hd _ (h.tail 2 rfl))) 0 6 (by omega) (by omega) (by omega) (by omega)) ?_
 clear hA hS; rintro _ w10 a ⟨rfl, hS⟩ hA
 refine zR 5 ((8, yT) :: (7, vU (beval (bsub b 0 6))) :: (51, yT) :: (50, vU (beval (bsub b 0 6))) :: (47, .tuple #[vU (beval (bsub b 0 6)), yT]) :: _) hA rfl fun a hA => zn (zx (zs (zr (zR 1 ((53, .slice B b.length d') :: _) hA rfl fun a hA => ?_))))
 refine st_call0 hA rfl rfl rfl isfn93 rfl rfl (by decide) (get93 hS (b := b) (fun w' h => (hd _ (h.tail 2 rfl))) 6 6 (by omega) (by omega) (by omega) (by omega)) ?_
 clear hA hS; rintro _ w11 a ⟨rfl, hS⟩ hA
 refine zR 5 ((10, yT) :: (9, vU (beval (bsub b 6 6))) :: (56, yT) :: (55, vU (beval (bsub b 6 6))) :: (52, .tuple #[vU (beval (bsub b 6 6)), yT]) :: _) hA rfl fun a hA => zn (zx (zs (zr (zR 1 ((58, .slice B b.length d') :: _) hA rfl fun a hA => ?_))))
 refine st_call0 hA rfl rfl rfl isfn93 rfl rfl (by decide) (get93 hS (b := b) (fun w' h => (hd _ (h.tail 2 rfl))) 12 4 (by omega) (by omega) (by omega) (by omega)) ?_
 clear hA hS; rintro _ w12 a ⟨rfl, hS⟩ hA
 refine zR 5 ((12, yT) :: (11, vU (beval (bsub b 12 4))) :: (61, yT) :: (60, vU (beval (bsub b 12 4))) :: (57, .tuple #[vU (beval (bsub b 12 4)), yT]) :: _) hA rfl fun a hA => zn (zx (zs (zr (zR 1 ((63, .slice B b.length d') :: _) hA rfl fun a hA => ?_))))
 refine st_call0 hA rfl rfl rfl isfn93 rfl rfl (by decide) (get93 hS (b := b) (fun w' h => (hd _ (h.tail 2 rfl))) 16 2 (by omega) (by omega) (by omega) (by omega)) ?_
 clear hA hS; rintro _ w13 a ⟨rfl, hS⟩ hA
 refine zR 5 ((14, yT) :: (13, vU (beval (bsub b 16 2))) :: (66, yT) :: (65, vU (beval (bsub b 16 2))) :: (62, .tuple #[vU (beval (bsub b 16 2)), yT]) :: _) hA rfl fun a hA => zn (zx (zs (zr (zR 1 ((68, .slice B b.length d') :: _) hA rfl fun a hA => ?_))))
 refine st_call0 hA rfl rfl rfl isfn93 rfl rfl (by decide) (get93 hS (b := b) (fun w' h => (hd _ (h.tail 2 rfl))) 18 2 (by omega) (by omega) (by omega) (by omega)) ?_
 clear hA hS; rintro _ w14 a ⟨rfl, hS⟩ hA
 refine zR 5 ((16, yT) :: (15, vU (beval (bsub b 18 2))) :: (71, yT) :: (70, vU (beval (bsub b 18 2))) :: (67, .tuple #[vU (beval (bsub b 18 2)), yT]) :: _) hA rfl fun a hA => zn (zx (zs (zr (zR 1 ((73, .slice B b.length d') :: _) hA rfl fun a hA => st_val hA rfl rfl (by decide) (rn_slice_lh tbOk hA 20 36 rfl rfl rfl rfl rfl rfl rfl (by rfl) (by rfl) (by omega) (by omega)) fun a hA => ?_))))
 refine st_call0 hA rfl rfl rfl isfn94 rfl rfl (by decide) (cdec94 hS (b := (b.take 36).drop 20) (po := m.po) (ob := m.ob) (ri := m.ri) (ck := m.ck) (fun w' h => ((hd _ (h.tail 2 rfl)).rslv encB_ok 20 36 d' (by omega) (by omega) (by omega) (by omega))) (by rw [hb]; exact dec_cap m) hk6 hk7 hk8 hk9) ?_
 clear hA hS; rintro _ w15 a ⟨rfl, hS⟩ hA
 refine zR 3 ((77, yT) :: (76, .agg #[vU m.po, vW m.ob, vB m.ri, vU m.ck]) :: (72, .tuple #[.agg #[vU m.po, vW m.ob, vB m.ri, vU m.ck], yT]) :: _) hA rfl fun a hA => ?_
 refine st_alloc tbOk hA hS [yU, yW, yB, yU] rfl rfl rfl rfl rfl (by decide) fun b16 w17 a hS hA => ?_
 refine st_store tbOk hA hS [vU m.po, vW m.ob, vB m.ri, vU m.ck] [vU m.po, vW m.ob, vB m.ri, vU m.ck] rfl rfl rfl rfl rfl rfl (zn1 rfl) (zle rfl) rfl rfl rfl fun w18 hS => ?_
 refine zR 1 ((18, yT) :: _) hA rfl fun a hA => zn (zx (zs (zr (zR 1 ((79, .slice B b.length d') :: _) hA rfl fun a hA => ?_))))
 refine st_call0 hA rfl rfl rfl isfn93 rfl rfl (by decide) (get93 hS (b := b) (fun w' h => (hd _ (h.tail 3 rfl))) 36 8 (by omega) (by omega) (by omega) (by omega)) ?_
 clear hA hS; rintro _ w19 a ⟨rfl, hS⟩ hA
 refine zR 5 ((20, yT) :: (19, vU (beval (bsub b 36 8))) :: (82, yT) :: (81, vU (beval (bsub b 36 8))) :: (78, .tuple #[vU (beval (bsub b 36 8)), yT]) :: _) hA rfl fun a hA => zn (zx (zs (zr ?_)))
 have hlt := bsub_lt b 12 4
 refine zR 4 ((86, .int .u32 (IntKind.u32.wrap ((beval (bsub b 12 4) : Nat) : Int))) :: (85, vU (beval (bsub b 12 4))) :: (84, vU (beval (bsub b 6 6))) :: (83, vU (beval (bsub b 0 6))) :: _) hA rfl fun a hA => ?_
 replace hA := hA.rw 86 (v' := vW (beval (bsub b 12 4))) rfl (by rw [wrap_u32 (by omega) (by omega)])
 have hlt := bsub_lt b 16 2
 refine zR 2 ((88, .int .u16 (IntKind.u16.wrap ((beval (bsub b 16 2) : Nat) : Int))) :: (87, vU (beval (bsub b 16 2))) :: _) hA rfl fun a hA => ?_
 replace hA := hA.rw 88 (v' := vH (beval (bsub b 16 2))) rfl (vint (wrap_u16 (by omega) (by omega)))
 have hlt := bsub_lt b 18 2
 refine zR 2 ((90, .int .u16 (IntKind.u16.wrap ((beval (bsub b 18 2) : Nat) : Int))) :: (89, vU (beval (bsub b 18 2))) :: _) hA rfl fun a hA => ?_
 replace hA := hA.rw 90 (v' := vH (beval (bsub b 18 2))) rfl (vint (wrap_u16 (by omega) (by omega)))
 refine zLA hA hS 0 [vU m.po, vW m.ob, vB m.ri, vU m.ck] rfl rfl rfl rfl rfl rfl rfl rfl rfl rfl fun a hA => zR 2 ((93, .slice A4 ((bsub b (44 + 2) (beval (bsub b 44 2))).length) c5) :: (92, vU (beval (bsub b 36 8))) :: _) hA rfl fun a hA => st_val hA rfl rfl (by decide) (rn_build tbOk hA rfl rfl rfl rfl rfl rfl rfl) fun a hA => ?_
 replace hS := hS.m2
 refine st_store tbOk hA hS [vU (beval (bsub b 0 6)), vU (beval (bsub b 6 6)), vW (beval (bsub b 12 4)), vH (beval (bsub b 16 2)), vH (beval (bsub b 18 2)), vU m.po, vW m.ob, vB m.ri, vU m.ck, vU (beval (bsub b 36 8)), .slice A4 ((bsub b (44 + 2) (beval (bsub b 44 2))).length) c5] [vU (beval (bsub b 0 6)), vU (beval (bsub b 6 6)), vW (beval (bsub b 12 4)), vH (beval (bsub b 16 2)), vH (beval (bsub b 18 2)), vU m.po, vW m.ob, vB m.ri, vU m.ck, vU (beval (bsub b 36 8)), .slice A4 ((bsub b (44 + 2) (beval (bsub b 44 2))).length) c5] rfl rfl rfl rfl rfl rfl (zn1 rfl) (zle rfl) rfl rfl rfl fun w20 hS => ?_
 refine zR 1 ((3, yN) :: _) hA rfl fun a hA => zn (zx ?_)
 refine wp_ret ?_
 refine retc2 tbOk (fn := Tryz.f61) (cs := [vU (beval (bsub b 0 6)), vU (beval (bsub b 6 6)), vW (beval (bsub b 12 4)), vH (beval (bsub b 16 2)), vH (beval (bsub b 18 2)), vU m.po, vW m.ob, vB m.ri, vU m.ck, vU (beval (bsub b 36 8)), .slice A4 ((bsub b (44 + 2) (beval (bsub b 44 2))).length) c5]) hA rfl rfl rfl rfl rfl rfl (cells_row (hS.heapAt 0 rfl) rfl) ?_
 replace hS := hS.d0.d0
 have e0 := dec_to m hm0; have e1 := dec_rp m hm0; have e2 := dec_id m hm0; have e3 := dec_op m hm0; have e4 := dec_st m hm0; have e9 := dec_ar m hm0; have e10 := dec_da m; rw [← hb] at e0 e1 e2 e3 e4 e9 e10
 have hO9 := hO6; rw [show (44 + 2 : Nat) = 46 from rfl, hln, e10] at hO9
 exact ⟨_, _, _, hO9, by rw [e0, e1, e2, e3, e4, e9, show (44 + 2 : Nat) = 46 from rfl, hln, e10], hS⟩
end Go.Proofs.YthiakdmhpfkjbaaGreatDoor

set_option linter.unusedVariables false
set_option linter.unusedSimpArgs false
set_option maxRecDepth 4000
namespace Go.Proofs.YthiakdmhpfkjbaaGreatDoor
open Go Go.SK
def encW (x : Nat) : List Value := [vU x]
theorem encW_ok : Enc encW 1 := ⟨fun _ => rfl, fun x u hu => by simp only [encW, List.mem_cons, List.not_mem_nil, or_false] at hu; rcases hu with rfl <;> rfl⟩
def encEn (x : Nat × Nat × Nat) : List Value := [vI x.1, vU x.2.1, vU x.2.2]
theorem encEn_ok : Enc encEn 3 := ⟨fun _ => rfl, fun x u hu => by simp only [encEn, List.mem_cons, List.not_mem_nil, or_false] at hu; rcases hu with rfl | rfl | rfl <;> rfl⟩
def TPR (b : Nat) (ts : List Nat) (k : Nat) (L : Chunk) : Prop := ∃ v C, Own 36 1 v ts.length (rows encW ts) C ∧ L = (b, rowO [v, vI k] 111) :: C
def ORR (b : Nat) (en : List (Nat × Nat × Nat)) (ts : List Nat) (k : Nat) (L : Chunk) : Prop := ∃ v C bt v2 C2, Own 244 3 v en.length (rows encEn en) C ∧ Own 36 1 v2 ts.length (rows encW ts) C2 ∧ L = (b, rowO [v, vP bt 0] 109) :: (C ++ ((bt, rowO [v2, vI k] 111) :: C2))
theorem tdraw76 {w0 w : World} {F : List Chunk} {bt k c x : Nat} {ts : List Nat} {A : Option Addr} {C : Chunk} (hS : St w0 w ([(bt, rowO [.slice A ts.length c, vI k] 111)] :: C :: F)) (hO : Own 36 1 (.slice A ts.length c) ts.length (rows encW ts) C) (hx : ts[k]? = some x) :
 Ret Tryz.prog 76 #[vP bt 0] w (fun v w' => v = .tuple #[vU x, yN] ∧ St w0 w' ([(bt, rowO [.slice A ts.length c, vI (k + 1)] 111)] :: C :: F)) := by
 have hk := (List.getElem?_eq_some_iff.1 hx).1; have hcr := hO.rcap
 refine enter (vs := [vP bt 0]) 33 Tryz.func76 rfl rfl (by simp) ?_; intro a hA
 refine zs (zr (zR 2 ((3, yN) :: (2, yU) :: _) hA rfl fun a hA => zn (zx (zs (zs ?_)))))
 refine zD0 hS [] [(0, true), (1, true), (2, true), (3, true), (4, true), (5, true), (6, true), (7, true), (8, true), (9, true)] mixed (by kernel_rfl) (by rintro c a w ⟨_, _, h, _⟩; cases h) (by rfl) (by kernel_rfl) ?_
 replace hS := hS.drew
 refine zW 3 ((6, vP bt 1) :: (5, vP bt 0) :: (4, vP bt 0) :: _) hA hS rfl fun a hA => zY hA hS 0 rfl rfl rfl rfl rfl rfl rfl rfl rfl rfl fun a hA => zW 3 ((10, vP bt 0) :: (9, vP bt 0) :: (8, vP bt 0) :: _) hA hS rfl fun a hA => zY hA hS 0 rfl rfl rfl rfl rfl rfl rfl rfl rfl rfl fun a hA => zW 2 ((13, .bool (((k : Nat) : Int) == ((ts.length : Nat) : Int))) :: (12, vI ts.length) :: _) hA hS rfl fun a hA => ze (zx ?_)
 have hc1 : ¬ (((k : Nat) : Int) = ((ts.length : Nat) : Int)) := by omega
 replace hA := hA.rw 13 (v' := yF) rfl (vb_eq_f hc1)
 refine cd_cond_f hA rfl (zk (zx (zs (zr (zR 3 ((17, vP bt 1) :: (16, vP bt 0) :: (15, vP bt 0) :: _) hA rfl fun a hA => zL hA hS 0 rfl rfl rfl rfl rfl rfl rfl rfl rfl fun a hA => zR 1 ((19, .int .i64 (IntKind.i64.wrap (((k : Nat) : Int) + 1))) :: _) hA rfl fun a hA => ?_)))))
 replace hA := hA.rw 19 (v' := vI (k + 1)) rfl (wr64 (by omega) (by omega) (by omega))
 refine zR 2 ((21, vP bt 1) :: (20, vP bt 0) :: _) hA rfl fun a hA => ?_
 refine st_store tbOk hA hS [vI (k + 1)] [.slice A ts.length c, vI (k + 1)] rfl rfl rfl rfl rfl rfl (by intro u hu; rw [List.mem_singleton.1 hu]; rfl) (zle rfl) rfl rfl rfl fun w2 hS => ?_
 refine zn (zx (zs ?_))
 refine zD0 hS [] [(0, true), (1, true), (2, true), (3, true), (4, true), (5, true), (6, true), (7, true), (8, true), (9, true), (10, true), (11, true), (12, true)] mixed (by kernel_rfl) (by rintro c a w ⟨_, _, h, _⟩; cases h) (by rfl) (by kernel_rfl) ?_
 replace hS := hS.drew
 refine zW 3 ((24, vP bt 0) :: (23, vP bt 0) :: (22, vP bt 0) :: _) hA hS rfl fun a hA => zY hA hS 0 rfl rfl rfl rfl rfl rfl rfl rfl rfl rfl fun a hA => zW 3 ((28, vP bt 1) :: (27, vP bt 0) :: (26, vP bt 0) :: _) hA hS rfl fun a hA => zY hA hS 0 rfl rfl rfl rfl rfl rfl rfl rfl rfl rfl fun a hA => zW 1 ((30, .int .i64 (IntKind.i64.wrap (((k + 1 : Nat) : Int) - 1))) :: _) hA hS rfl fun a hA => ?_
 replace hA := hA.rw 30 (v' := .int .i64 (((k + 1 : Nat) : Int) - 1)) rfl (wr64 (by omega) (by omega) (by omega))
 replace hA := hA.rw 30 (v' := vI k) rfl (vint (by omega))
 obtain ⟨b3, o4, rfl⟩ := hO.isSome (k := k) (by omega)
 refine dr_y hA rfl rfl rfl (by decide) hS (fun w' hS' => rn_indexAddr tbOk hA k (o4 + k) rfl rfl rfl rfl rfl rfl (by rfl) (by omega) (by first | rfl | simp [Nat.mul_one, Nat.zero_add] | omega)) fun a hA => dr_y hA rfl rfl rfl (by decide) hS (fun w' hS' => rn_load tbOk hA rfl rfl rfl rfl ((hO.rd (hS'.own_ 1 rfl)).elem0 (k := k) encW_ok hx rfl)) fun a hA => zW 2 ((3, yN) :: (2, vU x) :: _) hA hS rfl fun a hA => ze (zx ?_)
 refine wp_ret ?_
 refine ret2 (fn := Tryz.f76) hA rfl rfl rfl ?_
 replace hS := hS.m1.m1
 exact ⟨rfl, hS⟩
theorem odraw48 {w0 w : World} {F : List Chunk} {b : Nat} {en : List (Nat × Nat × Nat)} {ts : List Nat} {k : Nat} {L : Chunk} (hS : St w0 w (L :: F)) (hO : ORR b en ts k L) {x : Nat} (hx : ts[k]? = some x) :
 Ret Tryz.prog 48 #[vP b 0] w (fun v w' => ∃ L', ORR b en ts (k + 1) L' ∧ v = .tuple #[vU x, yN] ∧ St w0 w' (L' :: F)) := by
 obtain ⟨v1, C1, bt, v2, C2, hO1, hO2, rfl⟩ := hO
 obtain ⟨A1, c1, rfl, hm1, hx1⟩ := hO1.open'; obtain ⟨A2, c2, rfl, hm2, hx2⟩ := hO2.open'
 replace hS : St w0 w ([(b, rowO [.slice A1 en.length c1, vP bt 0] 109)] :: C1 :: [(bt, rowO [.slice A2 ts.length c2, vI k] 111)] :: C2 :: F) := hS.cast (by simp)
 refine enter (vs := [vP b 0]) 11 Tryz.func48 rfl rfl (by simp) ?_; intro a hA
 refine zs (zr (zR 2 ((3, yN) :: (2, yU) :: _) hA rfl fun a hA => zn (zx (zs (zr (zR 3 ((6, vP b 1) :: (5, vP b 0) :: (4, vP b 0) :: _) hA rfl fun a hA => zL hA hS 0 rfl rfl rfl rfl rfl rfl rfl rfl rfl fun a hA => ?_))))))
 replace hS := hS.m3.m3
 refine st_call0 hA rfl rfl rfl isfn76 rfl rfl (by decide) (tdraw76 hS hO2 hx) ?_
 clear hA hS; rintro _ w1 a ⟨rfl, hS⟩ hA
 refine zR 4 ((3, yN) :: (2, vU x) :: (10, yN) :: (9, vU x) :: _) hA rfl fun a hA => zn (zx ?_)
 refine wp_ret ?_
 refine ret2 (fn := Tryz.f48) hA rfl rfl rfl ?_
 replace hS := hS.m1.m1.m3.m3
 replace hS : St w0 w1 (((b, rowO [.slice A1 en.length c1, vP bt 0] 109) :: (C1 ++ ((bt, rowO [.slice A2 ts.length c2, vI (k + 1)] 111) :: C2))) :: F) := hS.cast (by simp)
 exact ⟨_, ⟨_, _, _, _, _, hO1, hO2, rfl⟩, rfl, hS⟩
theorem known_none109 {w0 w : World} {F : List Chunk} {b : Nat} {en : List (Nat × Nat × Nat)} {ts : List Nat} {k : Nat} {L : Chunk} (hS : St w0 w (L :: F)) (hO : ORR b en ts k L) (g i : Nat) (hi : i < 2 ^ 64) (hno : ∀ x ∈ en, ¬ (x.1 = g ∧ x.2.1 = i % 281474976710656)) :
 Ret Tryz.prog 109 #[vP b 0, vI g, vU i] w (fun v w' => ∃ L', ORR b en ts k L' ∧ v = .tuple #[yU, yF] ∧ St w0 w' (L' :: F)) := by
 obtain ⟨v1, C1, bt, v2, C2, hO1, hO2, rfl⟩ := hO
 obtain ⟨A1, c1, rfl, hm1, hx1⟩ := hO1.open'; obtain ⟨A2, c2, rfl, hm2, hx2⟩ := hO2.open'
 replace hS : St w0 w ([(b, rowO [.slice A1 en.length c1, vP bt 0] 109)] :: C1 :: [(bt, rowO [.slice A2 ts.length c2, vI k] 111)] :: C2 :: F) := hS.cast (by simp)
 refine enter (vs := [vP b 0, vI g, vU i]) 33 Tryz.func109 rfl rfl (by simp) ?_; intro a hA
 refine zs (zr (zR 2 ((7, yF) :: (6, yU) :: _) hA rfl fun a hA => zn (zx (zs (zs (zr (zR 3 ((12, vP b 0) :: (11, vP b 0) :: (10, vP b 0) :: _) hA rfl fun a hA => zL hA hS 0 rfl rfl rfl rfl rfl rfl rfl rfl rfl fun a hA => zR 2 ((15, yI) :: (14, vI en.length) :: _) hA rfl fun a hA => zn (zx (zb ?_)))))))))
 refine wp_loop_ghost (fun m a w => ∃ (q : Nat), m = en.length - q ∧ Has a 33 [(1, vI g), (2, vU i), (13, .slice A1 en.length c1), (14, vI en.length), (15, vI q)] ∧ St w0 w ([(b, rowO [.slice A1 en.length c1, vP bt 0] 109)] :: C1 :: [(bt, rowO [.slice A2 ts.length c2, vI k] 111)] :: C2 :: F) ∧ (q ≤ en.length)) (en.length - 0)
  ⟨0, rfl, (hA.sel [1, 2, 13, 14, 15] rfl), hS, Nat.zero_le _⟩ ?_
 clear hA hS; rintro m0 a w1 ⟨q, rfl, hA, hS, hq⟩
 refine zs (zr (zR 1 ((16, .bool (decide (((q : Nat) : Int) < ((en.length : Nat) : Int)))) :: _) hA rfl fun a hA => zn (zx (zs ?_))))
 by_cases hc2 : ((q : Nat) : Int) < ((en.length : Nat) : Int)
 · first
   | (exfalso; omega)
   | (replace hA := hA.rw 16 (v' := yT) rfl (vb_true hc2)
      refine cd_cond_t hA rfl (zk (zx (zs (zb (zs (zr ?_))))))
      obtain ⟨x3, hx3⟩ := get_ex (l := en) (k := q) (by omega)
      obtain ⟨x3f0, x3f1, x3f2⟩ := x3
      have hnx := hno _ (List.mem_of_getElem? hx3); dsimp only at hnx
      obtain ⟨b4, o5, rfl⟩ := hO1.isSome (k := q) (by omega)
      refine st_val hA rfl rfl (by decide) (rn_indexAddr tbOk hA q (o5 + (q * 3)) rfl rfl rfl rfl rfl rfl (by rfl) (by omega) (by first | rfl | simp [Nat.mul_one, Nat.zero_add] | omega)) fun a hA => st_val hA rfl rfl (by decide) (rn_loadA tbOk hA ([vI x3f0, vU x3f1, vU x3f2]) rfl rfl rfl rfl (by rfl) ((hO1.rd (hS.own_ 1 rfl)).elem (k := q) encEn_ok hx3)) fun a hA => ?_
      refine st_alloc tbOk hA hS [yI, yU, yU] rfl rfl rfl rfl rfl (by decide) fun b6 w7 a hS hA => ?_
      refine st_store tbOk hA hS [vI x3f0, vU x3f1, vU x3f2] [vI x3f0, vU x3f1, vU x3f2] rfl rfl rfl rfl rfl rfl (zn1 rfl) (zle rfl) rfl rfl rfl fun w8 hS => ?_
      refine zn (zx (zs ?_))
      refine zD0 hS [] [(0, true), (1, true), (2, true), (3, true), (4, true), (5, true), (6, true), (7, true), (8, false), (9, true), (10, true)] mixed (by kernel_rfl) (by rintro c a w ⟨_, _, h, _⟩; cases h) (by rfl) (by kernel_rfl) ?_
      replace hS := hS.drew
      refine zW 1 ((19, vP b6 0) :: _) hA hS rfl fun a hA => zY hA hS 0 rfl rfl rfl rfl rfl rfl rfl rfl rfl rfl fun a hA => zW 3 ((23, .bool (((x3f0 : Nat) : Int) == ((g : Nat) : Int))) :: (22, .bool (((x3f0 : Nat) : Int) == ((g : Nat) : Int))) :: (21, vI g) :: _) hA hS rfl fun a hA => ?_
      by_cases hc9 : ((x3f0 : Nat) : Int) = ((g : Nat) : Int)
      · first
        | (exfalso; omega)
        | (replace hA := hA.rw 22 (v' := yT) rfl (vb_eq_t hc9)
           replace hA := hA.rw 23 (v' := yT) rfl (vb_eq_t hc9)
           refine zW 1 ((24, vP b6 1) :: _) hA hS rfl fun a hA => zY hA hS 0 rfl rfl rfl rfl rfl rfl rfl rfl rfl rfl fun a hA => zW 1 ((26, vU i) :: _) hA hS rfl fun a hA => dr_b (o := _) rfl ?_
           refine st_call0 hA rfl rfl rfl isfn47 rfl rfl (by decide) (cut47 hS (x := i) (by omega)) ?_
           clear hA hS; rintro _ w10 a ⟨rfl, hS⟩ hA
           refine zi hS (zW 2 ((29, .bool (((x3f1 : Nat) : Int) == ((i % 281474976710656 : Nat) : Int))) :: (28, .bool (((x3f1 : Nat) : Int) == ((i % 281474976710656 : Nat) : Int))) :: _) hA hS rfl fun a hA => ze (zx ?_))
           by_cases hc11 : ((x3f1 : Nat) : Int) = ((i % 281474976710656 : Nat) : Int)
           · first
             | (exfalso; omega)
             | (replace hA := hA.rw 29 (v' := yT) rfl (vb_eq_t hc11)
                refine cd_cond_t hA rfl (zs (zr (zR 1 ((30, vP b6 2) :: _) hA rfl fun a hA => zL hA hS 0 rfl rfl rfl rfl rfl rfl rfl rfl rfl fun a hA => zR 2 ((7, yT) :: (6, vU x3f2) :: _) hA rfl fun a hA => zn (zx ?_))))
                refine wp_ret (xb_ret (xt_ret (xt_ret (xb_ret (xt_ret ?_)))))
                refine ret2 (fn := Tryz.f109) hA rfl rfl rfl ?_
                replace hS := hS.d0.m3.m3.m3.m3
                replace hS : St w0 w10 (((b, rowO [.slice (some ⟨b4, o5, none⟩) en.length c1, vP bt 0] 109) :: (C1 ++ ((bt, rowO [.slice A2 ts.length c2, vI k] 111) :: C2))) :: F) := hS.cast (by simp)
                exact ⟨_, ⟨_, _, _, _, _, hO1, hO2, rfl⟩, rfl, hS⟩)
           · first
             | (exfalso; omega)
             | (replace hA := hA.rw 29 (v' := yF) rfl (vb_eq_f hc11)
                refine cd_cond_f hA rfl (zk (zm (zx (zr (zR 1 ((32, .int .i64 (IntKind.i64.wrap (((q : Nat) : Int) + 1))) :: _) hA rfl fun a hA => ?_)))))
                replace hA := hA.rw 32 (v' := vI (q + 1)) rfl (wr64 (by omega) (by omega) (by omega))
                refine zR 1 ((15, vI (q + 1)) :: _) hA rfl fun a hA => zn ?_
                replace hS := hS.d0.m3.m3.m3.m3
                exact lp_next _ (by omega) ⟨(q + 1), rfl, (hA.sel [1, 2, 13, 14, 15] rfl), hS, by omega⟩))
      · first
        | (exfalso; omega)
        | (replace hA := hA.rw 22 (v' := yF) rfl (vb_eq_f hc9)
           replace hA := hA.rw 23 (v' := yF) rfl (vb_eq_f hc9)
           refine zW 3 ((26, undef) :: (25, undef) :: (24, undef) :: _) hA hS rfl fun a hA => dr_b (o := _) rfl ?_
           refine st_no hA rfl rfl (by decide) fun a hA => ?_
           refine zi hS (zW 2 ((29, yF) :: (28, undef) :: _) hA hS rfl fun a hA => ze (zx (cd_cond_f hA rfl (zk (zm (zx (zr (zR 1 ((32, .int .i64 (IntKind.i64.wrap (((q : Nat) : Int) + 1))) :: _) hA rfl fun a hA => ?_))))))))
           replace hA := hA.rw 32 (v' := vI (q + 1)) rfl (wr64 (by omega) (by omega) (by omega))
           refine zR 1 ((15, vI (q + 1)) :: _) hA rfl fun a hA => zn ?_
           replace hS := hS.d0.m3.m3.m3.m3
           exact lp_next _ (by omega) ⟨(q + 1), rfl, (hA.sel [1, 2, 13, 14, 15] rfl), hS, by omega⟩))
 · first
   | (exfalso; omega)
   | (replace hA := hA.rw 16 (v' := yF) rfl (vb_false hc2)
      refine cd_cond_f hA rfl ?_
      refine wp_exit ?_
      refine xt_exit (xt_exit (cd_exit_eq (zx (zs (zr (zR 2 ((7, yF) :: (6, yU) :: _) hA rfl fun a hA => zn (zx ?_)))))))
      refine wp_ret ?_
      refine ret2 (fn := Tryz.f109) hA rfl rfl rfl ?_
      replace hS := hS.m3.m3.m3.m3
      replace hS : St w0 w1 (((b, rowO [.slice A1 en.length c1, vP bt 0] 109) :: (C1 ++ ((bt, rowO [.slice A2 ts.length c2, vI k] 111) :: C2))) :: F) := hS.cast (by simp)
      exact ⟨_, ⟨_, _, _, _, _, hO1, hO2, rfl⟩, rfl, hS⟩)
theorem known_hit109 {w0 w : World} {F : List Chunk} {b : Nat} {en : List (Nat × Nat × Nat)} {ts : List Nat} {k : Nat} {L : Chunk} (hS : St w0 w (L :: F)) (hO : ORR b en ts k L) (g i : Nat) (hi : i < 2 ^ 64) {j x : Nat} (hj : en[j]? = some (g, i % 281474976710656, x)) (hno : ∀ (q : Nat) (y : Nat × Nat × Nat), q < j → en[q]? = some y → ¬ (y.1 = g ∧ y.2.1 = i % 281474976710656)) :
 Ret Tryz.prog 109 #[vP b 0, vI g, vU i] w (fun v w' => ∃ L', ORR b en ts k L' ∧ v = .tuple #[vU x, yT] ∧ St w0 w' (L' :: F)) := by
 obtain ⟨v1, C1, bt, v2, C2, hO1, hO2, rfl⟩ := hO
 obtain ⟨A1, c1, rfl, hm1, hx1⟩ := hO1.open'; obtain ⟨A2, c2, rfl, hm2, hx2⟩ := hO2.open'
 replace hS : St w0 w ([(b, rowO [.slice A1 en.length c1, vP bt 0] 109)] :: C1 :: [(bt, rowO [.slice A2 ts.length c2, vI k] 111)] :: C2 :: F) := hS.cast (by simp)
 refine enter (vs := [vP b 0, vI g, vU i]) 33 Tryz.func109 rfl rfl (by simp) ?_; intro a hA
 have hjl := (List.getElem?_eq_some_iff.1 hj).1
 refine zs (zr (zR 2 ((7, yF) :: (6, yU) :: _) hA rfl fun a hA => zn (zx (zs (zs (zr (zR 3 ((12, vP b 0) :: (11, vP b 0) :: (10, vP b 0) :: _) hA rfl fun a hA => zL hA hS 0 rfl rfl rfl rfl rfl rfl rfl rfl rfl fun a hA => zR 2 ((15, yI) :: (14, vI en.length) :: _) hA rfl fun a hA => zn (zx (zb ?_)))))))))
 refine wp_loop_ghost (fun m a w => ∃ (q : Nat), m = en.length - q ∧ Has a 33 [(1, vI g), (2, vU i), (13, .slice A1 en.length c1), (14, vI en.length), (15, vI q)] ∧ St w0 w ([(b, rowO [.slice A1 en.length c1, vP bt 0] 109)] :: C1 :: [(bt, rowO [.slice A2 ts.length c2, vI k] 111)] :: C2 :: F) ∧ (q ≤ j)) (en.length - 0)
  ⟨0, rfl, (hA.sel [1, 2, 13, 14, 15] rfl), hS, Nat.zero_le _⟩ ?_
 clear hA hS; rintro m0 a w1 ⟨q, rfl, hA, hS, hq⟩
 refine zs (zr (zR 1 ((16, .bool (decide (((q : Nat) : Int) < ((en.length : Nat) : Int)))) :: _) hA rfl fun a hA => zn (zx (zs ?_))))
 by_cases hc2 : ((q : Nat) : Int) < ((en.length : Nat) : Int)
 · first
   | (exfalso; omega)
   | (replace hA := hA.rw 16 (v' := yT) rfl (vb_true hc2)
      refine cd_cond_t hA rfl (zk (zx (zs (zb (zs (zr ?_))))))
      obtain ⟨x3, hx3⟩ := get_ex (l := en) (k := q) (by omega)
      obtain ⟨x3f0, x3f1, x3f2⟩ := x3
      have hnx : q < j → ¬ (x3f0 = g ∧ x3f1 = i % 281474976710656) := fun h => hno q _ h hx3
      have hnj : q = j → x3f0 = g ∧ x3f1 = i % 281474976710656 ∧ x3f2 = x := fun h => by subst h; rw [hj] at hx3; injection hx3 with h9; injection h9 with h8 h9; injection h9 with h7 h6; exact ⟨h8.symm, h7.symm, h6.symm⟩
      obtain ⟨b4, o5, rfl⟩ := hO1.isSome (k := q) (by omega)
      refine st_val hA rfl rfl (by decide) (rn_indexAddr tbOk hA q (o5 + (q * 3)) rfl rfl rfl rfl rfl rfl (by rfl) (by omega) (by first | rfl | simp [Nat.mul_one, Nat.zero_add] | omega)) fun a hA => st_val hA rfl rfl (by decide) (rn_loadA tbOk hA ([vI x3f0, vU x3f1, vU x3f2]) rfl rfl rfl rfl (by rfl) ((hO1.rd (hS.own_ 1 rfl)).elem (k := q) encEn_ok hx3)) fun a hA => ?_
      refine st_alloc tbOk hA hS [yI, yU, yU] rfl rfl rfl rfl rfl (by decide) fun b6 w7 a hS hA => ?_
      refine st_store tbOk hA hS [vI x3f0, vU x3f1, vU x3f2] [vI x3f0, vU x3f1, vU x3f2] rfl rfl rfl rfl rfl rfl (zn1 rfl) (zle rfl) rfl rfl rfl fun w8 hS => ?_
      refine zn (zx (zs ?_))
      refine zD0 hS [] [(0, true), (1, true), (2, true), (3, true), (4, true), (5, true), (6, true), (7, true), (8, false), (9, true), (10, true)] mixed (by kernel_rfl) (by rintro c a w ⟨_, _, h, _⟩; cases h) (by rfl) (by kernel_rfl) ?_
      replace hS := hS.drew
      refine zW 1 ((19, vP b6 0) :: _) hA hS rfl fun a hA => zY hA hS 0 rfl rfl rfl rfl rfl rfl rfl rfl rfl rfl fun a hA => zW 3 ((23, .bool (((x3f0 : Nat) : Int) == ((g : Nat) : Int))) :: (22, .bool (((x3f0 : Nat) : Int) == ((g : Nat) : Int))) :: (21, vI g) :: _) hA hS rfl fun a hA => ?_
      by_cases hc9 : ((x3f0 : Nat) : Int) = ((g : Nat) : Int)
      · first
        | (exfalso; omega)
        | (replace hA := hA.rw 22 (v' := yT) rfl (vb_eq_t hc9)
           replace hA := hA.rw 23 (v' := yT) rfl (vb_eq_t hc9)
           refine zW 1 ((24, vP b6 1) :: _) hA hS rfl fun a hA => zY hA hS 0 rfl rfl rfl rfl rfl rfl rfl rfl rfl rfl fun a hA => zW 1 ((26, vU i) :: _) hA hS rfl fun a hA => dr_b (o := _) rfl ?_
           refine st_call0 hA rfl rfl rfl isfn47 rfl rfl (by decide) (cut47 hS (x := i) (by omega)) ?_
           clear hA hS; rintro _ w10 a ⟨rfl, hS⟩ hA
           refine zi hS (zW 2 ((29, .bool (((x3f1 : Nat) : Int) == ((i % 281474976710656 : Nat) : Int))) :: (28, .bool (((x3f1 : Nat) : Int) == ((i % 281474976710656 : Nat) : Int))) :: _) hA hS rfl fun a hA => ze (zx ?_))
           by_cases hc11 : ((x3f1 : Nat) : Int) = ((i % 281474976710656 : Nat) : Int)
           · first
             | (exfalso; omega)
             | (replace hA := hA.rw 29 (v' := yT) rfl (vb_eq_t hc11)
                refine cd_cond_t hA rfl (zs (zr (zR 1 ((30, vP b6 2) :: _) hA rfl fun a hA => zL hA hS 0 rfl rfl rfl rfl rfl rfl rfl rfl rfl fun a hA => zR 2 ((7, yT) :: (6, vU x3f2) :: _) hA rfl fun a hA => zn (zx ?_))))
                refine wp_ret (xb_ret (xt_ret (xt_ret (xb_ret (xt_ret ?_)))))
                refine ret2 (fn := Tryz.f109) hA rfl rfl rfl ?_
                replace hS := hS.d0
                obtain ⟨_, _, h6⟩ := hnj (by omega)
                replace hS := hS.m3.m3.m3.m3
                replace hS : St w0 w10 (((b, rowO [.slice (some ⟨b4, o5, none⟩) en.length c1, vP bt 0] 109) :: (C1 ++ ((bt, rowO [.slice A2 ts.length c2, vI k] 111) :: C2))) :: F) := hS.cast (by simp)
                exact ⟨_, ⟨_, _, _, _, _, hO1, hO2, rfl⟩, by rw [h6], hS⟩)
           · first
             | (exfalso; omega)
             | (replace hA := hA.rw 29 (v' := yF) rfl (vb_eq_f hc11)
                refine cd_cond_f hA rfl (zk (zm (zx (zr (zR 1 ((32, .int .i64 (IntKind.i64.wrap (((q : Nat) : Int) + 1))) :: _) hA rfl fun a hA => ?_)))))
                replace hA := hA.rw 32 (v' := vI (q + 1)) rfl (wr64 (by omega) (by omega) (by omega))
                refine zR 1 ((15, vI (q + 1)) :: _) hA rfl fun a hA => zn ?_
                replace hS := hS.d0.m3.m3.m3.m3
                exact lp_next _ (by omega) ⟨(q + 1), rfl, (hA.sel [1, 2, 13, 14, 15] rfl), hS, by omega⟩))
      · first
        | (exfalso; omega)
        | (replace hA := hA.rw 22 (v' := yF) rfl (vb_eq_f hc9)
           replace hA := hA.rw 23 (v' := yF) rfl (vb_eq_f hc9)
           refine zW 3 ((26, undef) :: (25, undef) :: (24, undef) :: _) hA hS rfl fun a hA => dr_b (o := _) rfl ?_
           refine st_no hA rfl rfl (by decide) fun a hA => ?_
           refine zi hS (zW 2 ((29, yF) :: (28, undef) :: _) hA hS rfl fun a hA => ze (zx (cd_cond_f hA rfl (zk (zm (zx (zr (zR 1 ((32, .int .i64 (IntKind.i64.wrap (((q : Nat) : Int) + 1))) :: _) hA rfl fun a hA => ?_))))))))
           replace hA := hA.rw 32 (v' := vI (q + 1)) rfl (wr64 (by omega) (by omega) (by omega))
           refine zR 1 ((15, vI (q + 1)) :: _) hA rfl fun a hA => zn ?_
           replace hS := hS.d0.m3.m3.m3.m3
           exact lp_next _ (by omega) ⟨(q + 1), rfl, (hA.sel [1, 2, 13, 14, 15] rfl), hS, by omega⟩))
 · first
   | (exfalso; omega)
   | (replace hA := hA.rw 16 (v' := yF) rfl (vb_false hc2)
      refine cd_cond_f hA rfl ?_
      refine wp_exit ?_
      refine xt_exit (xt_exit (cd_exit_eq (zx (zs (zr (zR 2 ((7, yF) :: (6, yU) :: _) hA rfl fun a hA => zn (zx ?_)))))))
      refine wp_ret ?_
      refine ret2 (fn := Tryz.f109) hA rfl rfl rfl ?_
      exfalso; omega)
end Go.Proofs.YthiakdmhpfkjbaaGreatDoor

set_option linter.unusedVariables false
set_option linter.unusedSimpArgs false
set_option maxRecDepth 4000
namespace Go.Proofs.YthiakdmhpfkjbaaGreatDoor
open Go Go.SK
theorem ask_new77 {w0 w : World} {F : List Chunk} {b : Nat} {en : List (Nat × Nat × Nat)} {ts : List Nat} {k : Nat} {L : Chunk} (hS : St w0 w (L :: F)) (hO : ORR b en ts k L) (g i : Nat) (hi : i < 2 ^ 64) (hno : ∀ x ∈ en, ¬ (x.1 = g ∧ x.2.1 = i % 281474976710656)) {x : Nat} (hx : ts[k]? = some x) (hel : en.length ≤ 1048576) :
 Ret Tryz.prog 77 #[vP b 0, vI g, vU i] w (fun v w' => ∃ L', ORR b (en ++ [(g, i % 281474976710656, x)]) ts (k + 1) L' ∧ v = .tuple #[vU x, yN] ∧ St w0 w' (L' :: F)) := by
 refine enter (vs := [vP b 0, vI g, vU i]) 47 Tryz.func77 rfl rfl (by simp) ?_; intro a hA
 refine zs (zr (zR 2 ((7, yN) :: (6, yU) :: _) hA rfl fun a hA => zn (zx (zs (zs (zr (zR 3 ((15, vU i) :: (14, vI g) :: (13, vP b 0) :: _) hA rfl fun a hA => ?_)))))))
 refine st_call0 hA rfl rfl rfl isfn109 rfl rfl (by decide) (known_none109 hS hO g i (by omega) hno) ?_
 clear hA hS; rintro _ w1 a ⟨L2, hO3, rfl, hS⟩ hA
 refine zR 5 ((9, yF) :: (8, yU) :: (18, yF) :: (17, yU) :: (12, .tuple #[yU, yF]) :: _) hA rfl fun a hA => zn (zx (zs (zr (zR 1 ((19, yF) :: _) hA rfl fun a hA => zn (zx (cd_cond_f hA rfl (zk (zx (zs (zr ?_))))))))))
 obtain ⟨v13, C6, bt7, v14, C10, hP11, hP12, rfl⟩ := hO3
 obtain ⟨A4, c5, rfl, hmc5, hxc5⟩ := hP11.open'; obtain ⟨A8, c9, rfl, hmc9, hxc9⟩ := hP12.open'
 replace hS : St w0 w1 ([(b, rowO [.slice A4 en.length c5, vP bt7 0] 109)] :: C6 :: [(bt7, rowO [.slice A8 ts.length c9, vI k] 111)] :: C10 :: F) := hS.cast (by simp)
 refine zR 3 ((24, vP b 1) :: (23, vP b 0) :: (22, vP b 0) :: _) hA rfl fun a hA => zL hA hS 0 rfl rfl rfl rfl rfl rfl rfl rfl rfl fun a hA => ?_
 replace hS := hS.m3.m3
 refine st_call0 hA rfl rfl rfl isfn76 rfl rfl (by decide) (tdraw76 hS hP12 hx) ?_
 clear hA hS; rintro _ w15 a ⟨rfl, hS⟩ hA
 refine zR 5 ((11, yN) :: (10, vU x) :: (28, yN) :: (27, vU x) :: (21, .tuple #[vU x, yN]) :: _) hA rfl fun a hA => zn (zx (zs (zs (zr (zR 2 ((30, yF) :: (29, yN) :: _) hA rfl fun a hA => zn (zx (cd_cond_f hA rfl (zk (zx (zs ?_))))))))))
 replace hS := hS.m3
 refine zD1 hS [14] [(0, true), (1, true), (2, true), (3, true), (4, true), (5, true), (6, true), (8, true), (7, false), (9, true), (10, false), (11, false), (12, true), (13, true), (14, false)] mixed (by kernel_rfl) (by rintro c a w ⟨_, _, h, _⟩; cases h) (by rfl) (by kernel_rfl) ?_
 replace hS := hS.drew
 refine zW 4 ((35, vP b 0) :: (34, vP b 0) :: (33, vP b 0) :: (32, vP b 0) :: _) hA (hS.tail 1 rfl) rfl fun a hA => zY hA (hS.tail 1 rfl) 2 rfl rfl rfl rfl rfl rfl rfl rfl rfl rfl fun a hA => zW 3 ((40, vU x) :: (38, vU i) :: (37, vI g) :: _) hA (hS.tail 1 rfl) rfl fun a hA => dr_b (o := _) rfl ?_
 refine st_call0 hA rfl rfl rfl isfn47 rfl rfl (by decide) (cut47 hS (x := i) (by omega)) ?_
 clear hA hS; rintro _ w16 a ⟨rfl, hS⟩ hA
 refine zi (hS.tail 1 rfl) (zW 1 ((41, .agg #[vI g, vU (i % 281474976710656), vU x]) :: _) hA (hS.tail 1 rfl) rfl fun a hA => dr_b (o := _) rfl ?_)
 refine st_buildSlice tbOk hA hS [vI g, vU (i % 281474976710656), vU x] rfl rfl rfl rfl rfl (by decide) (by kernel_rfl) rfl rfl (by decide) fun b17 w18 a hS hA => ?_
 refine zi (hS.tail 2 rfl) (dr_b (o := _) rfl ?_)
 replace hS := hS.m1
 refine st_append tbOk hA (m := en.length) (q := 1) (xs := rows encEn en) (news := rows encEn ([(g, i % 281474976710656, x)] : List (Nat × Nat × Nat))) rfl rfl rfl rfl rfl rfl rfl rfl (by decide) hP11 hS (((Own.full (T := 244) (size := 3) (g := b17) (m := 1) rfl (by decide)).rd (hS.own_ 1 rfl)).x) (rows_one encEn_ok _) (maxLen_le (by first | omega | (simp only [List.length_append, List.length_cons, List.length_nil]; omega))) (by show (en.length + 1) * 24 ≤ 140737488355328; first | omega | (simp only [List.length_append, List.length_cons, List.length_nil]; omega)) rfl rfl (by decide) ?_
 clear hA hS; intro v19 w20 C21 a hO21 hS hA
 replace hO21 := Own.app (l := en) (l2 := ([(g, i % 281474976710656, x)] : List (Nat × Nat × Nat))) hO21
 obtain ⟨A22, c23, rfl, hmc23, hxc23⟩ := hO21.open'
 refine zi (hS.tail 2 rfl) (zW 2 ((45, vP b 0) :: (44, vP b 0) :: _) hA (hS.tail 2 rfl) rfl fun a hA => dr_b (o := _) rfl ?_)
 replace hS := hS.m4
 refine st_store tbOk hA hS [.slice A22 ((en ++ ([(g, i % 281474976710656, x)] : List (Nat × Nat × Nat))).length) c23] [.slice A22 ((en ++ ([(g, i % 281474976710656, x)] : List (Nat × Nat × Nat))).length) c23, vP bt7 0] rfl rfl rfl rfl rfl rfl (by intro u hu; rw [List.mem_singleton.1 hu]; rfl) (zle rfl) rfl rfl rfl fun w24 hS => ?_
 refine dr_nil (.inl (by decide)) (ze (zx (zs (zr (zR 3 ((7, yN) :: (6, vU x) :: (46, vU x) :: _) hA rfl fun a hA => zn (zx ?_))))))
 refine wp_ret ?_
 refine ret2 (fn := Tryz.f77) hA rfl rfl rfl ?_
 replace hS := hS.m2.d0.m3.m3.m3.m3
 replace hS : St w0 w24 (((b, rowO [.slice A22 ((en ++ ([(g, i % 281474976710656, x)] : List (Nat × Nat × Nat))).length) c23, vP bt7 0] 109) :: (C21 ++ ((bt7, rowO [.slice A8 ts.length c9, vI (k + 1)] 111) :: C10))) :: F) := hS.cast (by simp)
 exact ⟨_, ⟨_, _, _, _, _, hO21, hP12, rfl⟩, rfl, hS⟩
theorem ask_hit77 {w0 w : World} {F : List Chunk} {b : Nat} {en : List (Nat × Nat × Nat)} {ts : List Nat} {k : Nat} {L : Chunk} (hS : St w0 w (L :: F)) (hO : ORR b en ts k L) (g i : Nat) (hi : i < 2 ^ 64) {j x : Nat} (hj : en[j]? = some (g, i % 281474976710656, x)) (hno : ∀ (q : Nat) (y : Nat × Nat × Nat), q < j → en[q]? = some y → ¬ (y.1 = g ∧ y.2.1 = i % 281474976710656)) :
 Ret Tryz.prog 77 #[vP b 0, vI g, vU i] w (fun v w' => ∃ L', ORR b en ts k L' ∧ v = .tuple #[vU x, yN] ∧ St w0 w' (L' :: F)) := by
 refine enter (vs := [vP b 0, vI g, vU i]) 47 Tryz.func77 rfl rfl (by simp) ?_; intro a hA
 refine zs (zr (zR 2 ((7, yN) :: (6, yU) :: _) hA rfl fun a hA => zn (zx (zs (zs (zr (zR 3 ((15, vU i) :: (14, vI g) :: (13, vP b 0) :: _) hA rfl fun a hA => ?_)))))))
 refine st_call0 hA rfl rfl rfl isfn109 rfl rfl (by decide) (known_hit109 hS hO g i (by omega) hj hno) ?_
 clear hA hS; rintro _ w1 a ⟨L2, hO3, rfl, hS⟩ hA
 refine zR 5 ((9, yT) :: (8, vU x) :: (18, yT) :: (17, vU x) :: (12, .tuple #[vU x, yT]) :: _) hA rfl fun a hA => zn (zx (zs (zr (zR 1 ((19, yT) :: _) hA rfl fun a hA => zn (zx (cd_cond_t hA rfl (zs (zr (zR 3 ((7, yN) :: (6, vU x) :: (20, vU x) :: _) hA rfl fun a hA => zn (zx ?_))))))))))
 refine wp_ret (xt_ret ?_)
 refine ret2 (fn := Tryz.f77) hA rfl rfl rfl ?_
 exact ⟨_, hO3, rfl, hS⟩
theorem tport49 {w0 w : World} {F : List Chunk} {b : Nat} {en : List (Nat × Nat × Nat)} {ts : List Nat} {k : Nat} {L : Chunk} (hS : St w0 w (L :: F)) (hO : ORR b en ts k L) (i : Nat) (hi : i < 2 ^ 64) (hno : ∀ x ∈ en, ¬ (x.1 = 0 ∧ x.2.1 = i % 281474976710656)) {x : Nat} (hx : ts[k]? = some x) (hel : en.length ≤ 1048576) :
 Ret Tryz.prog 49 #[vP b 0, vU i] w (fun v w' => ∃ L', ORR b (en ++ [(0, i % 281474976710656, x)]) ts (k + 1) L' ∧ v = .tuple #[vU x, yN] ∧ St w0 w' (L' :: F)) := by
 refine enter (vs := [vP b 0, vU i]) 11 Tryz.func49 rfl rfl (by simp) ?_; intro a hA
 refine zs (zr (zR 2 ((5, yN) :: (4, yU) :: _) hA rfl fun a hA => zn (zx (zs (zr (zR 2 ((7, vU i) :: (6, vP b 0) :: _) hA rfl fun a hA => ?_))))))
 refine st_call0 hA rfl rfl rfl isfn77 rfl rfl (by decide) (ask_new77 hS hO 0 i (by omega) hno hx hel) ?_
 clear hA hS; rintro _ w1 a ⟨L2, hO3, rfl, hS⟩ hA
 refine zR 4 ((5, yN) :: (4, vU x) :: (10, yN) :: (9, vU x) :: _) hA rfl fun a hA => zn (zx ?_)
 refine wp_ret ?_
 refine ret2 (fn := Tryz.f49) hA rfl rfl rfl ?_
 exact ⟨_, hO3, rfl, hS⟩
theorem tof_owner131 {w0 w : World} {F : List Chunk} (hS : St w0 w F) (d : Value) {s : Nat} (hs : s < 2 ^ 64) :
 Ret Tryz.prog 131 #[d, vU s, .int .u8 255] w (fun v w' => v = .tuple #[vU (s % 281474976710656), yN] ∧ St w0 w' F) := by
 refine enter (vs := [d, vU s, .int .u8 255]) 19 Tryz.func131 rfl rfl (by simp) ?_; intro a hA
 refine zs (zr (zR 2 ((7, yN) :: (6, yU) :: _) hA rfl fun a hA => zn (zx (zs (zs (zr (zR 2 ((9, yT) :: (8, .int .u8 255) :: _) hA rfl fun a hA => zn (zx (cd_cond_t hA rfl (zs (zr (zR 1 ((10, vU s) :: _) hA rfl fun a hA => ?_))))))))))))
 refine st_call0 hA rfl rfl rfl isfn47 rfl rfl (by decide) (cut47 hS (x := s) (by omega)) ?_
 clear hA hS; rintro _ w1 a ⟨rfl, hS⟩ hA
 refine zR 2 ((7, yN) :: (6, vU (s % 281474976710656)) :: _) hA rfl fun a hA => zn (zx ?_)
 refine wp_ret (xt_ret ?_)
 refine ret2 (fn := Tryz.f131) hA rfl rfl rfl ?_
 exact ⟨rfl, hS⟩
theorem tgood_owner133 {w0 w : World} {F : List Chunk} (hS : St w0 w F) (d : Value) {s po ob ck : Nat} (hs : s < 2 ^ 64) :
 Ret Tryz.prog 133 #[d, vU s, .agg #[vU po, vW ob, .int .u8 255, vU ck]] w (fun v w' => v = .tuple #[.bool (decide (s % 281474976710656 = ck)), yN] ∧ St w0 w' F) := by
 refine enter (vs := [d, vU s, .agg #[vU po, vW ob, .int .u8 255, vU ck]]) 27 Tryz.func133 rfl rfl (by simp) ?_; intro a hA
 refine zs (zr ?_)
 refine st_box hA hS [vU po, vW ob, .int .u8 255, vU ck] rfl rfl rfl rfl rfl (by decide) fun b1 w2 a hS hA => ?_
 refine zR 2 ((7, yN) :: (6, yF) :: _) hA rfl fun a hA => zn (zx (zs (zr (zR 3 ((13, vP b1 2) :: (12, vU s) :: (11, d) :: _) hA rfl fun a hA => zL hA hS 0 rfl rfl rfl rfl rfl rfl rfl rfl rfl fun a hA => ?_))))
 refine st_call0 hA rfl rfl rfl isfn131 rfl rfl (by decide) (tof_owner131 hS _ (s := s) hs) ?_
 clear hA hS; rintro _ w3 a ⟨rfl, hS⟩ hA
 refine zR 5 ((9, yN) :: (8, vU (s % 281474976710656)) :: (17, yN) :: (16, vU (s % 281474976710656)) :: (10, .tuple #[vU (s % 281474976710656), yN]) :: _) hA rfl fun a hA => zn (zx (zs (zr (zR 5 ((22, vP b1 3) :: (21, vU (s % 281474976710656)) :: (20, yT) :: (19, yT) :: (18, yN) :: _) hA rfl fun a hA => zL hA hS 0 rfl rfl rfl rfl rfl rfl rfl rfl rfl fun a hA => zR 5 ((7, yN) :: (6, .bool (((s % 281474976710656 : Nat) : Int) == ((ck : Nat) : Int))) :: (26, yN) :: (25, .bool (((s % 281474976710656 : Nat) : Int) == ((ck : Nat) : Int))) :: (24, .bool (((s % 281474976710656 : Nat) : Int) == ((ck : Nat) : Int))) :: _) hA rfl fun a hA => zn (zx ?_)))))
 refine wp_ret ?_
 refine ret2 (fn := Tryz.f133) hA rfl rfl rfl ?_
 replace hS := hS.d0
 exact ⟨congrArg (fun z => Value.tuple #[.bool z, yN]) (by first | (rw [Bool.eq_iff_iff]; simp; omega) | simp; omega), hS⟩
end Go.Proofs.YthiakdmhpfkjbaaGreatDoor

set_option linter.unusedVariables false
set_option linter.unusedSimpArgs false
set_option maxRecDepth 4000
namespace Go.Proofs.YthiakdmhpfkjbaaGreatDoor
open Go Go.SK
def encOb (x : Bool × Nat × Int × Int × Int) : List Value := [.bool x.1, vU x.2.1, .int .i64 x.2.2.1, .int .i64 x.2.2.2.1, .int .i64 x.2.2.2.2]
theorem encOb_ok : Enc encOb 5 := ⟨fun _ => rfl, fun x u hu => by simp only [encOb, List.mem_cons, List.not_mem_nil, or_false] at hu; rcases hu with rfl | rfl | rfl | rfl | rfl <;> rfl⟩
def spread (n : Nat) : List Nat := (List.range n).map (fun k => (k + 1) * 1048576 + 703488)
theorem spread_length (n : Nat) : (spread n).length = n := by rw [spread, List.length_map, List.length_range]
theorem spread_succ (n : Nat) : spread (n + 1) = spread n ++ [(n + 1) * 1048576 + 703488] := by rw [spread, spread, List.range_succ, List.map_append]; rfl
theorem spread_bits {k : Nat} (h : k < 1048576) : Go.bits .or .u64 (IntKind.u64.wrap (((k : Nat) : Int) * 2 ^ min (20 : Int).toNat 64)) 703488 = ((k * 1048576 + 703488 : Nat) : Int) := by
  have e : IntKind.u64.wrap (((k : Nat) : Int) * 2 ^ min (20 : Int).toNat 64) = ((k * 1048576 : Nat) : Int) := by
    rw [show min (20 : Int).toNat 64 = 20 from rfl, show (2 : Int) ^ 20 = 1048576 from rfl, wrap_u64 (by omega) (by omega)]; omega
  have h1 := bits_or_u64 (p := k * 1048576) (q := 703488) (by omega) (by omega)
  have h2 := Nat.two_pow_add_eq_or_of_lt (b := 703488) (i := 20) (by omega) k
  rw [show k * 1048576 = 2 ^ 20 * k by omega, ← h2] at h1
  rw [e, show k * 1048576 = 2 ^ 20 * k by omega]
  exact h1
def cutl (ts : List Nat) : List Nat := ts.map (· % 281474976710656)
theorem cutl_length (ts : List Nat) : (cutl ts).length = ts.length := List.length_map ..
theorem cutl_step {ts : List Nat} {j x : Nat} (h : ts[j]? = some x) : cutl (ts.take (j + 1)) = cutl (ts.take j) ++ [x % 281474976710656] := by
  rw [List.take_add_one, h, cutl, List.map_append]; rfl
def OBR (b po bo : Nat) (os : List (Bool × Nat × Int × Int × Int)) (L : Chunk) : Prop := ∃ v C, Own 284 5 v os.length (rows encOb os) C ∧ L = (b, rowO [vU po, vP bo 0, v] 247) :: C
theorem set_last5 {α : Type} {l : List α} {x y : α} : (l ++ [x]).set l.length y = l ++ [y] := by
  rw [List.set_append_right _ _ (Nat.le_refl _), Nat.sub_self]; rfl
theorem and255 {n : Nat} (h : n < 256) : Go.bits .and .u8 255 (n : Int) = (n : Int) := by
  have := bits_and_u8 (p := 255) (q := n) (by decide) h
  rw [show ((255 : Nat) : Int) = 255 from rfl] at this
  rw [this, Nat.and_comm, show (255 : Nat) = 2 ^ 8 - 1 from rfl, Nat.and_two_pow_sub_one_eq_mod, Nat.mod_eq_of_lt h]
theorem spread_10 {w0 w : World} {F : List Chunk} (hS : St w0 w F) (n : Nat) (hn : n ≤ 10000) :
 Ret Tryz.prog 10 #[vI n] w (fun v w' => ∃ A c C, Own 36 1 (.slice A (spread n).length c) (spread n).length (rows encW (spread n)) C ∧ v = .slice A (spread n).length c ∧ St w0 w' (C :: F)) := by
 refine enter (vs := [vI n]) 18 Tryz.func10 rfl rfl (by simp) ?_; intro a hA
 refine zs (zr (zR 1 ((2, yS) :: _) hA rfl fun a hA => zn (zx (zs (zr (zR 1 ((3, yS) :: _) hA rfl fun a hA => zn (zx (zs (zs (zr (zR 1 ((4, .int .i64 1) :: _) hA rfl fun a hA => zn (zx (zb ?_)))))))))))))
 replace hS := hS.nil
 refine wp_loop_ghost (fun m a w => ∃ (j : Nat) (A : Option Addr) (c : Nat) (C : Chunk), m = n - j ∧ Has a 18 [(0, vI n), (3, .slice A ((spread j).length) c), (4, vI (j + 1))] ∧ St w0 w (C :: F) ∧ (j ≤ n) ∧ (Own 36 1 (.slice A (spread j).length c) (spread j).length (rows encW (spread j)) C)) (n - 0)
  ⟨0, none, 0, ([]), rfl, (hA.sel [0, 3, 4] rfl), hS, Nat.zero_le _, (Own.nil 36 1)⟩ ?_
 clear hA hS; rintro m0 a w1 ⟨j, A, c, C, rfl, hA, hS, hj, hO⟩
 have hln : (spread j).length = j := spread_length j
 refine zs (zs (zr (zR 3 ((7, .bool (decide (((j + 1 : Nat) : Int) ≤ ((n : Nat) : Int)))) :: (6, vI n) :: (5, vI (j + 1)) :: _) hA rfl fun a hA => zn (zx ?_))))
 by_cases hc2 : ((j + 1 : Nat) : Int) ≤ ((n : Nat) : Int)
 · first
   | (exfalso; omega)
   | (replace hA := hA.rw 7 (v' := yT) rfl (vb_true hc2)
      refine cd_cond_t hA rfl (zk (zx (zs (zb (zr (zR 3 ((12, .int .u64 (IntKind.u64.wrap ((j + 1 : Nat) : Int))) :: (11, vI (j + 1)) :: (10, .slice A ((spread j).length) c) :: _) hA rfl fun a hA => ?_))))))
      replace hA := hA.rw 12 (v' := vU (j + 1)) rfl (by rw [wrap_u64 (by omega) (by omega)])
      refine st_val hA rfl rfl (by decide) (rn_shl hA rfl rfl rfl (by omega)) fun a hA => st_val hA rfl rfl (by decide) (rn_or hA rfl rfl rfl) fun a hA => ?_
      replace hA := hA.rw 14 (v' := vU ((j + 1) * 1048576 + 703488)) rfl (vint (spread_bits (by omega)))
      refine st_buildSlice tbOk hA hS [vU ((j + 1) * 1048576 + 703488)] rfl rfl rfl rfl rfl (by decide) (by kernel_rfl) rfl rfl (by decide) fun b3 w4 a hS hA => ?_
      replace hS := hS.m1
      refine st_append tbOk hA (m := (spread j).length) (q := 1) (xs := rows encW (spread j)) (news := rows encW ([(j + 1) * 1048576 + 703488] : List Nat)) rfl rfl rfl rfl rfl rfl rfl rfl (by decide) hO hS (((Own.full (T := 36) (size := 1) (g := b3) (m := 1) rfl (by decide)).rd (hS.own_ 1 rfl)).x) (rows_one encW_ok _) (maxLen_le (by first | omega | (simp only [List.length_append, spread_length, List.length_cons, List.length_nil]; omega))) (by show ((spread j).length + 1) * 8 ≤ 140737488355328; first | omega | (simp only [List.length_append, spread_length, List.length_cons, List.length_nil]; omega)) rfl rfl (by decide) ?_
      clear hA hS; intro v5 w6 C7 a hO7 hS hA
      replace hO7 := Own.app (l := spread j) (l2 := ([(j + 1) * 1048576 + 703488] : List Nat)) hO7
      obtain ⟨A8, c9, rfl, hmc9, hxc9⟩ := hO7.open'
      refine zR 1 ((3, .slice A8 (((spread j) ++ ([(j + 1) * 1048576 + 703488] : List Nat)).length) c9) :: _) hA rfl fun a hA => zn (zm (zx (zr (zR 2 ((9, .int .i64 (IntKind.i64.wrap (((j + 1 : Nat) : Int) + 1))) :: (8, vI (j + 1)) :: _) hA rfl fun a hA => ?_))))
      replace hA := hA.rw 9 (v' := vI ((j + 1) + 1)) rfl (wr64 (by omega) (by omega) (by omega))
      refine zR 1 ((4, vI ((j + 1) + 1)) :: _) hA rfl fun a hA => zn ?_
      replace hS := hS.d1
      have hO9 := hO7; rw [← spread_succ] at hO9
      replace hA := hA.rw 3 (v' := .slice A8 ((spread (j + 1)).length) c9) rfl (by rw [spread_succ])
      exact lp_next _ (by omega) ⟨(j + 1), A8, c9, C7, rfl, (hA.sel [0, 3, 4] rfl), hS, by omega, hO9⟩)
 · first
   | (exfalso; omega)
   | (replace hA := hA.rw 7 (v' := yF) rfl (vb_false hc2)
      refine cd_cond_f hA rfl ?_
      refine wp_exit ?_
      refine xt_exit (xt_exit (cd_exit_eq (zx (zs (zr (zR 2 ((2, .slice A ((spread j).length) c) :: (17, .slice A ((spread j).length) c) :: _) hA rfl fun a hA => zn (zx ?_)))))))
      refine wp_ret ?_
      refine ret1 (fn := Tryz.f10) hA rfl rfl ?_
      obtain rfl : j = n := by omega
      exact ⟨_, _, _, hO, rfl, hS⟩)
theorem tape_of27 {w0 w : World} {F : List Chunk} (hS : St w0 w F) {d : Value} {ts : List Nat} (hd : RdS w0 F 1 d ts.length (rows encW ts)) (hl : ts.length ≤ 10000) (hw : ∀ x ∈ ts, x < 2 ^ 64) :
 Ret Tryz.prog 27 #[d] w (fun v w' => ∃ b L, TPR b (cutl ts) 0 L ∧ v = vP b 0 ∧ St w0 w' (L :: F)) := by
 obtain ⟨B, d', rfl, hmd, hdx⟩ := (hd w hS).open'
 refine enter (vs := [.slice B ts.length d']) 27 Tryz.func27 rfl rfl (by simp) ?_; intro a hA
 refine zs (zr (zR 1 ((2, .pointer none) :: _) hA rfl fun a hA => zn (zx (zs (zr (zR 1 ((6, .agg #[yS, yI]) :: _) hA rfl fun a hA => ?_))))))
 refine st_box hA hS [yS, yI] rfl rfl rfl rfl rfl (by decide) fun b1 w2 a hS hA => ?_
 refine zR 1 ((3, vP b1 0) :: _) hA rfl fun a hA => zn (zx (zs (zs (zr (zR 3 ((10, yI) :: (9, vI ts.length) :: (8, .slice B ts.length d') :: _) hA rfl fun a hA => zn (zx (zb ?_)))))))
 replace hS := hS.nil
 replace hS := hS.m1
 refine wp_loop_ghost (fun m a w => ∃ (j : Nat) (A : Option Addr) (c : Nat) (C : Chunk), m = ts.length - j ∧ Has a 27 [(3, vP b1 0), (8, .slice B ts.length d'), (9, vI ts.length), (10, vI j)] ∧ St w0 w ([(b1, rowO [.slice A ((cutl (ts.take j)).length) c, yI] 111)] :: C :: F) ∧ (j ≤ ts.length) ∧ (Own 36 1 (.slice A (cutl (ts.take j)).length c) (cutl (ts.take j)).length (rows encW (cutl (ts.take j))) C)) (ts.length - 0)
  ⟨0, none, 0, ([]), rfl, (hA.sel [3, 8, 9, 10] rfl), hS, Nat.zero_le _, (Own.nil 36 1)⟩ ?_
 clear hA hS; rintro m0 a w3 ⟨j, A, c, C, rfl, hA, hS, hj, hO⟩
 have hln : (cutl (ts.take j)).length = j := by rw [cutl_length, List.length_take]; omega
 refine zs (zr (zR 1 ((11, .bool (decide (((j : Nat) : Int) < ((ts.length : Nat) : Int)))) :: _) hA rfl fun a hA => zn (zx (zs ?_))))
 by_cases hc4 : ((j : Nat) : Int) < ((ts.length : Nat) : Int)
 · first
   | (exfalso; omega)
   | (replace hA := hA.rw 11 (v' := yT) rfl (vb_true hc4)
      refine cd_cond_t hA rfl (zk (zx (zs (zb (zs (zr ?_))))))
      obtain ⟨b5, o6, rfl⟩ := (hd _ (hS.tail 2 rfl)).isSome (k := j) (by omega)
      refine st_val hA rfl rfl (by decide) (rn_indexAddr tbOk hA j (o6 + j) rfl rfl rfl rfl rfl rfl (by rfl) (by omega) (by first | rfl | simp [Nat.mul_one, Nat.zero_add] | omega)) fun a hA => ?_
      obtain ⟨x7, hx7⟩ := get_ex (l := ts) (k := j) (by omega)
      refine st_val hA rfl rfl (by decide) (rn_load tbOk hA rfl rfl rfl rfl ((hd _ (hS.tail 2 rfl)).elem0 (k := j) encW_ok hx7 rfl)) fun a hA => zR 1 ((5, vU x7) :: _) hA rfl fun a hA => zn (zx ?_)
      replace hS := hS.m1
      refine wp_draw (fun w' => St w0 w' ([(b1, rowO [.slice A ((cutl (ts.take j)).length) c, yI] 111)] :: F)) [11] [(0, true), (1, true), (2, true), (3, true), (4, true), (5, true), (6, false), (7, false), (8, false), (9, true), (10, true), (11, false)] mixed (by kernel_rfl) (by rintro c a w ⟨_, _, h, _⟩; cases h) (by rfl) (by kernel_rfl) ?_
      replace hS := hS.drew
      have hxw := hw _ (List.mem_of_getElem? hx7)
      refine zW 4 ((17, vP b1 0) :: (16, vP b1 0) :: (15, vP b1 0) :: (14, vP b1 0) :: _) hA (hS.tail 1 rfl) rfl fun a hA => zY hA (hS.tail 1 rfl) 0 rfl rfl rfl rfl rfl rfl rfl rfl rfl rfl fun a hA => zW 1 ((19, vU x7) :: _) hA (hS.tail 1 rfl) rfl fun a hA => dr_b (o := _) rfl ?_
      refine st_call0 hA rfl rfl rfl isfn47 rfl rfl (by decide) (cut47 hS (x := x7) (by omega)) ?_
      clear hA hS; rintro _ w8 a ⟨rfl, hS⟩ hA
      refine zi (hS.tail 1 rfl) (dr_b (o := _) rfl ?_)
      refine st_buildSlice tbOk hA hS [vU (x7 % 281474976710656)] rfl rfl rfl rfl rfl (by decide) (by kernel_rfl) rfl rfl (by decide) fun b9 w10 a hS hA => ?_
      refine zi (hS.tail 2 rfl) (dr_b (o := _) rfl ?_)
      replace hS := hS.m1
      refine st_append tbOk hA (m := (cutl (ts.take j)).length) (q := 1) (xs := rows encW (cutl (ts.take j))) (news := rows encW ([x7 % 281474976710656] : List Nat)) rfl rfl rfl rfl rfl rfl rfl rfl (by decide) hO hS (((Own.full (T := 36) (size := 1) (g := b9) (m := 1) rfl (by decide)).rd (hS.own_ 1 rfl)).x) (rows_one encW_ok _) (maxLen_le (by first | omega | (simp only [List.length_append, List.length_cons, List.length_nil]; omega))) (by show ((cutl (ts.take j)).length + 1) * 8 ≤ 140737488355328; first | omega | (simp only [List.length_append, List.length_cons, List.length_nil]; omega)) rfl rfl (by decide) ?_
      clear hA hS; intro v11 w12 C13 a hO13 hS hA
      replace hO13 := Own.app (l := cutl (ts.take j)) (l2 := ([x7 % 281474976710656] : List Nat)) hO13
      obtain ⟨A14, c15, rfl, hmc15, hxc15⟩ := hO13.open'
      refine zi (hS.tail 2 rfl) (zW 2 ((24, vP b1 0) :: (23, vP b1 0) :: _) hA (hS.tail 2 rfl) rfl fun a hA => dr_b (o := _) rfl ?_)
      replace hS := hS.m2
      refine st_store tbOk hA hS [.slice A14 (((cutl (ts.take j)) ++ ([x7 % 281474976710656] : List Nat)).length) c15] [.slice A14 (((cutl (ts.take j)) ++ ([x7 % 281474976710656] : List Nat)).length) c15, yI] rfl rfl rfl rfl rfl rfl (by intro u hu; rw [List.mem_singleton.1 hu]; rfl) (zle rfl) rfl rfl rfl fun w16 hS => ?_
      refine dr_nil (.inl (by decide)) (ze (zm (zx (zr (zR 1 ((25, .int .i64 (IntKind.i64.wrap (((j : Nat) : Int) + 1))) :: _) hA rfl fun a hA => ?_)))))
      replace hA := hA.rw 25 (v' := vI (j + 1)) rfl (wr64 (by omega) (by omega) (by omega))
      refine zR 1 ((10, vI (j + 1)) :: _) hA rfl fun a hA => zn ?_
      replace hS := hS.m2.d0.m1.m1
      have hO9 := hO13; rw [← cutl_step hx7] at hO9
      rw [← cutl_step hx7] at hS
      exact lp_next _ (by omega) ⟨(j + 1), A14, c15, C13, rfl, (hA.sel [3, 8, 9, 10] rfl), hS, by omega, hO9⟩)
 · first
   | (exfalso; omega)
   | (replace hA := hA.rw 11 (v' := yF) rfl (vb_false hc4)
      refine cd_cond_f hA rfl ?_
      refine wp_exit ?_
      refine xt_exit (xt_exit (cd_exit_eq (zx (zs (zr (zR 2 ((2, vP b1 0) :: (26, vP b1 0) :: _) hA rfl fun a hA => zn (zx ?_)))))))
      refine wp_ret ?_
      refine ret1 (fn := Tryz.f27) hA rfl rfl ?_
      obtain rfl : j = ts.length := by omega
      rw [List.take_length] at hO hS
      exact ⟨_, _, ⟨_, _, hO, rfl⟩, rfl, hS.join⟩)
theorem oracle_of26 {w0 w : World} {F : List Chunk} {L : Chunk} {bt k : Nat} {ts : List Nat} (hS : St w0 w (L :: F)) (hO : TPR bt ts k L) :
 Ret Tryz.prog 26 #[vP bt 0] w (fun v w' => ∃ b L', ORR b [] ts k L' ∧ v = vP b 0 ∧ St w0 w' (L' :: F)) := by
 refine enter (vs := [vP bt 0]) 9 Tryz.func26 rfl rfl (by simp) ?_; intro a hA
 refine zs (zr (zR 1 ((2, .pointer none) :: _) hA rfl fun a hA => zn (zx (zs (zs (zr (zR 2 ((4, yF) :: (3, vP bt 0) :: _) hA rfl fun a hA => zn (zx (cd_cond_f hA rfl (zk (zx (zs (zr (zR 2 ((7, .agg #[yS, vP bt 0]) :: (6, vP bt 0) :: _) hA rfl fun a hA => ?_))))))))))))))
 refine st_box hA hS [yS, vP bt 0] rfl rfl rfl rfl rfl (by decide) fun b1 w2 a hS hA => ?_
 refine zR 1 ((2, vP b1 0) :: _) hA rfl fun a hA => zn (zx ?_)
 refine wp_ret ?_
 refine ret1 (fn := Tryz.f26) hA rfl rfl ?_
 obtain ⟨v2, C2, hO2, rfl⟩ := hO
 replace hS : St w0 w2 (((b1, rowO [yS, vP bt 0] 109) :: ([] ++ ((bt, rowO [v2, vI k] 111) :: C2))) :: F) := hS.cast (by simp)
 exact ⟨_, _, ⟨_, _, _, _, _, Own.nil _ _, hO2, rfl⟩, rfl, hS⟩
end Go.Proofs.YthiakdmhpfkjbaaGreatDoor

set_option linter.unusedVariables false
set_option linter.unusedSimpArgs false
set_option maxRecDepth 4000
namespace Go.Proofs.YthiakdmhpfkjbaaGreatDoor
open Go Go.SK
theorem obj_of78 {w0 w : World} {F : List Chunk} (hS : St w0 w F) (po bo : Nat) :
 Ret Tryz.prog 78 #[vU po, vP bo 0] w (fun v w' => ∃ b L, OBR b po bo [] L ∧ v = vP b 0 ∧ St w0 w' (L :: F)) := by
 refine enter (vs := [vU po, vP bo 0]) 12 Tryz.func78 rfl rfl (by simp) ?_; intro a hA
 refine zs (zr (zR 1 ((4, .pointer none) :: _) hA rfl fun a hA => zn (zx (zs (zs (zr (zR 2 ((6, yF) :: (5, vP bo 0) :: _) hA rfl fun a hA => zn (zx (cd_cond_f hA rfl (zk (zx (zs (zr (zR 3 ((10, .agg #[vU po, vP bo 0, yS]) :: (9, vP bo 0) :: (8, vU po) :: _) hA rfl fun a hA => ?_))))))))))))))
 refine st_box hA hS [vU po, vP bo 0, yS] rfl rfl rfl rfl rfl (by decide) fun b1 w2 a hS hA => ?_
 refine zR 1 ((4, vP b1 0) :: _) hA rfl fun a hA => zn (zx ?_)
 refine wp_ret ?_
 refine ret1 (fn := Tryz.f78) hA rfl rfl ?_
 replace hS : St w0 w2 (((b1, rowO [vU po, vP bo 0, yS] 247) :: []) :: F) := hS
 exact ⟨_, _, ⟨_, _, Own.nil _ _, rfl⟩, rfl, hS⟩
theorem obcap129 {w0 w : World} {F : List Chunk} {b po bo : Nat} {sl : Value} (hS : St w0 w ([(b, rowO [vU po, vP bo 0, sl] 247)] :: F)) (q ri ck : Nat) (hq : q < 1000000) :
 Ret Tryz.prog 129 #[vP b 0, vI q, vB ri, vU ck] w (fun v w' => v = .agg #[vU po, vW q, vB ri, vU ck] ∧ St w0 w' ([(b, rowO [vU po, vP bo 0, sl] 247)] :: F)) := by
 refine enter (vs := [vP b 0, vI q, vB ri, vU ck]) 18 Tryz.func129 rfl rfl (by simp) ?_; intro a hA
 refine zs (zr ?_)
 refine st_alloc tbOk hA hS [yU, yW, yB, yU] rfl rfl rfl rfl rfl (by decide) fun b1 w2 a hS hA => ?_
 refine zn (zx (zs (zr (zR 3 ((11, vP b 0) :: (10, vP b 0) :: (9, vP b 0) :: _) hA rfl fun a hA => zL hA hS 1 rfl rfl rfl rfl rfl rfl rfl rfl rfl fun a hA => zR 2 ((14, .int .u32 (IntKind.u32.wrap ((q : Nat) : Int))) :: (13, vI q) :: _) hA rfl fun a hA => ?_))))
 replace hA := hA.rw 14 (v' := vW q) rfl (by rw [wrap_u32 (by omega) (by omega)])
 refine zR 2 ((16, vU ck) :: (15, vB ri) :: _) hA rfl fun a hA => st_val hA rfl rfl (by decide) (rn_build tbOk hA rfl rfl rfl rfl rfl rfl rfl) fun a hA => ?_
 refine st_store tbOk hA hS [vU po, vW q, vB ri, vU ck] [vU po, vW q, vB ri, vU ck] rfl rfl rfl rfl rfl rfl (zn1 rfl) (zle rfl) rfl rfl rfl fun w3 hS => ?_
 refine zn (zx ?_)
 refine wp_ret ?_
 refine retc1 tbOk (fn := Tryz.f129) (cs := [vU po, vW q, vB ri, vU ck]) hA rfl rfl rfl rfl rfl (cells_row (hS.heapAt 0 rfl) rfl) ?_
 replace hS := hS.d0
 exact ⟨rfl, hS⟩
theorem create110 {w0 w : World} {F : List Chunk} {b po bo : Nat} {os : List (Bool × Nat × Int × Int × Int)} {L : Chunk} {O : Chunk} {en : List (Nat × Nat × Nat)} {ts : List Nat} {k x : Nat} (hS : St w0 w (L :: O :: F)) (hM : OBR b po bo os L) (hO : ORR bo en ts k O) (va : Int) (hall : ∀ x ∈ os, x.1 = true) (hl : os.length < 64) (hx : ts[k]? = some x) :
 Ret Tryz.prog 110 #[vP b 0, .int .i64 va] w (fun v w' => ∃ L' O', OBR b po bo (os ++ [(true, x, 0, va, 24)]) L' ∧ ORR bo en ts (k + 1) O' ∧ v = .tuple #[.agg #[vU po, vW os.length, .int .u8 255, vU x], yN] ∧ St w0 w' (L' :: O' :: F)) := by
 obtain ⟨v1, C1, hO1, rfl⟩ := hM
 obtain ⟨A1, c1, rfl, hm1, hx1⟩ := hO1.open'
 replace hS : St w0 w ([(b, rowO [vU po, vP bo 0, .slice A1 os.length c1] 247)] :: C1 :: O :: F) := hS.split
 refine enter (vs := [vP b 0, .int .i64 va]) 74 Tryz.func110 rfl rfl (by simp) ?_; intro a hA
 refine zs (zr ?_)
 refine st_alloc tbOk hA hS [yU, yW, yB, yU] rfl rfl rfl rfl rfl (by decide) fun b1 w2 a hS hA => ?_
 refine zR 1 ((5, yN) :: _) hA rfl fun a hA => zn (zx (zs (zr (zR 1 ((6, yI) :: _) hA rfl fun a hA => zn (zx (zs (zb ?_)))))))
 refine wp_loop_ghost (fun m a w => ∃ (j : Nat), m = os.length - j ∧ Has a 74 [(0, vP b 0), (1, .int .i64 va), (4, vP b1 0), (6, vI j)] ∧ St w0 w ([(b1, rowO [yU, yW, yB, yU] 39)] :: [(b, rowO [vU po, vP bo 0, .slice A1 os.length c1] 247)] :: C1 :: O :: F) ∧ (j ≤ os.length)) (os.length - 0)
  ⟨0, rfl, (hA.sel [0, 1, 4, 6] rfl), hS, Nat.zero_le _⟩ ?_
 clear hA hS; rintro m0 a w3 ⟨j, rfl, hA, hS, hj⟩
 refine zs (zs (zr (zR 4 ((12, vP b 2) :: (11, vP b 0) :: (10, vP b 0) :: (9, vI j) :: _) hA rfl fun a hA => zL hA hS 1 rfl rfl rfl rfl rfl rfl rfl rfl rfl fun a hA => zR 3 ((16, .bool (decide (((j : Nat) : Int) < ((os.length : Nat) : Int)))) :: (15, .bool (decide (((j : Nat) : Int) < ((os.length : Nat) : Int)))) :: (14, vI os.length) :: _) hA rfl fun a hA => ?_)))
 by_cases hc4 : ((j : Nat) : Int) < ((os.length : Nat) : Int)
 · first
   | (exfalso; omega)
   | (replace hA := hA.rw 15 (v' := yT) rfl (vb_true hc4)
      replace hA := hA.rw 16 (v' := yT) rfl (vb_true hc4)
      refine zR 3 ((19, vP b 2) :: (18, vP b 0) :: (17, vP b 0) :: _) hA rfl fun a hA => zL hA hS 1 rfl rfl rfl rfl rfl rfl rfl rfl rfl fun a hA => zR 1 ((21, vI j) :: _) hA rfl fun a hA => ?_
      obtain ⟨b5, o6, rfl⟩ := hO1.isSome (k := j) (by omega)
      refine st_val hA rfl rfl (by decide) (rn_indexAddr tbOk hA j (o6 + (j * 5)) rfl rfl rfl rfl rfl rfl (by rfl) (by omega) (by first | rfl | simp [Nat.mul_one, Nat.zero_add] | omega)) fun a hA => zR 1 ((23, vP b5 (o6 + (j * 5))) :: _) hA rfl fun a hA => ?_
      obtain ⟨x7, hx7⟩ := get_ex (l := os) (k := j) (by omega)
      obtain ⟨x7f0, x7f1, x7f2, x7f3, x7f4⟩ := x7
      refine st_val hA rfl rfl (by decide) (rn_load tbOk hA rfl rfl rfl rfl ((hO1.rd (hS.own_ 2 rfl)).elemf (k := j) encOb_ok hx7 (j := 0) rfl)) fun a hA => ?_
      replace hA := hA.rw 24 (v' := yT) rfl (vbool (hall _ (List.mem_of_getElem? hx7)))
      refine zR 1 ((25, yT) :: _) hA rfl fun a hA => zn (zx (cd_cond_t hA rfl (zk (zx (zb (zr (zR 2 ((27, .int .i64 (IntKind.i64.wrap (((j : Nat) : Int) + 1))) :: (26, vI j) :: _) hA rfl fun a hA => ?_)))))))
      replace hA := hA.rw 27 (v' := vI (j + 1)) rfl (wr64 (by omega) (by omega) (by omega))
      refine zR 1 ((6, vI (j + 1)) :: _) hA rfl fun a hA => zn (zm ?_)
      replace hS := hS.m3.m3.m3.m3
      exact lp_next _ (by omega) ⟨(j + 1), rfl, (hA.sel [0, 1, 4, 6] rfl), hS, by omega⟩)
 · first
   | (exfalso; omega)
   | (replace hA := hA.rw 15 (v' := yF) rfl (vb_false hc4)
      replace hA := hA.rw 16 (v' := yF) rfl (vb_false hc4)
      refine zR 8 ((24, undef) :: (23, undef) :: (22, undef) :: (21, undef) :: (20, undef) :: (19, undef) :: (18, undef) :: (17, undef) :: _) hA rfl fun a hA => zR 1 ((25, yF) :: _) hA rfl fun a hA => zn (zx (cd_cond_f hA rfl ?_))
      refine wp_exit ?_
      refine xt_exit (xt_exit (cd_exit_eq (zx (zs (zs (zr ?_))))))
      have hje : j = os.length := by omega
      refine zR 2 ((29, .bool (decide (((j : Nat) : Int) ≥ 64))) :: (28, vI j) :: _) hA rfl fun a hA => zn (zx ?_)
      have hc8 : ¬ (((j : Nat) : Int) ≥ 64) := by omega
      replace hA := hA.rw 29 (v' := yF) rfl (vb_false hc8)
      refine cd_cond_f hA rfl (zk (zx (zs (zr (zR 3 ((35, vP b 1) :: (34, vP b 0) :: (33, vP b 0) :: _) hA rfl fun a hA => zL hA hS 1 rfl rfl rfl rfl rfl rfl rfl rfl rfl fun a hA => ?_)))))
      replace hS := hS.m3
      refine st_call0 hA rfl rfl rfl isfn48 rfl rfl (by decide) (odraw48 hS hO (x := x) hx) ?_
      clear hA hS; rintro _ w9 a ⟨L10, hO11, rfl, hS⟩ hA
      refine zR 5 ((8, yN) :: (7, vU x) :: (39, yN) :: (38, vU x) :: (32, .tuple #[vU x, yN]) :: _) hA rfl fun a hA => zn (zx (zs (zs (zr (zR 2 ((41, yF) :: (40, yN) :: _) hA rfl fun a hA => zn (zx (cd_cond_f hA rfl (zk (zx (zs (zs (zr (zR 4 ((47, vP b 2) :: (46, vP b 0) :: (45, vP b 0) :: (44, vI j) :: _) hA rfl fun a hA => zL hA hS 2 rfl rfl rfl rfl rfl rfl rfl rfl rfl fun a hA => zR 2 ((50, .bool (((j : Nat) : Int) == ((os.length : Nat) : Int))) :: (49, vI os.length) :: _) hA rfl fun a hA => zn (zx ?_))))))))))))))
      have hc12 : ((j : Nat) : Int) = ((os.length : Nat) : Int) := by omega
      replace hA := hA.rw 50 (v' := yT) rfl (vb_eq_t hc12)
      refine cd_cond_t hA rfl (zr (zR 4 ((54, vP b 2) :: (53, vP b 0) :: (52, vP b 0) :: (51, vP b 0) :: _) hA rfl fun a hA => zL hA hS 2 rfl rfl rfl rfl rfl rfl rfl rfl rfl fun a hA => zR 1 ((56, .agg #[yF, yU, yI, yI, yI]) :: _) hA rfl fun a hA => ?_))
      refine st_buildSlice tbOk hA hS [yF, yU, yI, yI, yI] rfl rfl rfl rfl rfl (by decide) (by kernel_rfl) rfl rfl (by decide) fun b13 w14 a hS hA => ?_
      replace hS := hS.m4
      refine st_append tbOk hA (m := os.length) (q := 1) (xs := rows encOb os) (news := rows encOb ([(false, 0, 0, 0, 0)] : List (Bool × Nat × Int × Int × Int))) rfl rfl rfl rfl rfl rfl rfl rfl (by decide) hO1 hS (((Own.full (T := 284) (size := 5) (g := b13) (m := 1) rfl (by decide)).rd (hS.own_ 1 rfl)).x) (rows_one encOb_ok _) (maxLen_le (by first | omega | (simp only [List.length_append, List.length_cons, List.length_nil]; omega))) (by show (os.length + 1) * 40 ≤ 140737488355328; first | omega | (simp only [List.length_append, List.length_cons, List.length_nil]; omega)) rfl rfl (by decide) ?_
      clear hA hS; intro v15 w16 C17 a hO17 hS hA
      replace hO17 := Own.app (l := os) (l2 := ([(false, 0, 0, 0, 0)] : List (Bool × Nat × Int × Int × Int))) hO17
      obtain ⟨A18, c19, rfl, hmc19, hxc19⟩ := hO17.open'
      refine zR 2 ((60, vP b 2) :: (59, vP b 0) :: _) hA rfl fun a hA => ?_
      replace hS := hS.m4
      refine st_store tbOk hA hS [.slice A18 ((os ++ ([(false, 0, 0, 0, 0)] : List (Bool × Nat × Int × Int × Int))).length) c19] [vU po, vP bo 0, .slice A18 ((os ++ ([(false, 0, 0, 0, 0)] : List (Bool × Nat × Int × Int × Int))).length) c19] rfl rfl rfl rfl rfl rfl (by intro u hu; rw [List.mem_singleton.1 hu]; rfl) (zle rfl) rfl rfl rfl fun w20 hS => ?_
      refine zn (zx (zs (zr ?_)))
      have hlz : (os ++ [((false, 0, 0, 0, 0) : Bool × Nat × Int × Int × Int)]).length = os.length + 1 := by rw [List.length_append]; rfl
      refine zR 3 ((63, vP b 2) :: (62, vP b 0) :: (61, vP b 0) :: _) hA rfl fun a hA => zL hA hS 0 rfl rfl rfl rfl rfl rfl rfl rfl rfl fun a hA => zR 3 ((67, .int .i64 va) :: (66, vU x) :: (65, vI j) :: _) hA rfl fun a hA => st_val hA rfl rfl (by decide) (rn_build tbOk hA rfl rfl rfl rfl rfl rfl rfl) fun a hA => ?_
      obtain ⟨b21, o22, rfl⟩ := hO17.isSome (k := j) (by omega)
      refine st_val hA rfl rfl (by decide) (rn_indexAddr tbOk hA j (o22 + (j * 5)) rfl rfl rfl rfl rfl rfl (by rfl) (by omega) (by first | rfl | simp [Nat.mul_one, Nat.zero_add] | omega)) fun a hA => ?_
      replace hS := hS.m1
      refine st_store_own tbOk hA hO17 hS ((j * 5)) (o22 + (j * 5)) [yT, vU x, yI, .int .i64 va, .int .i64 24] (rows encOb ((os ++ ([(false, 0, 0, 0, 0)] : List (Bool × Nat × Int × Int × Int))).set j (true, x, 0, va, 24))) rfl rfl rfl rfl (by rfl) rfl rfl (zn1 rfl) (by simp only [rows_length encOb_ok, List.length_append, List.length_cons, List.length_nil]; omega) (rows_set encOb_ok (x := (true, x, 0, va, 24)) (l := os ++ ([(false, 0, 0, 0, 0)] : List (Bool × Nat × Int × Int × Int))) (k := j) (by rw [List.length_append, List.length_singleton]; omega)) rfl rfl ?_; clear hS; intro w23 C24 hO24 hS
      refine zn (zx (zs (zr (zR 3 ((72, vU x) :: (71, vI j) :: (70, vP b 0) :: _) hA rfl fun a hA => ?_))))
      replace hS := hS.m1
      refine st_call0 hA rfl rfl rfl isfn129 rfl rfl (by decide) (obcap129 hS j 255 x (by omega)) ?_
      clear hA hS; rintro _ w25 a ⟨rfl, hS⟩ hA
      replace hS := hS.m4
      refine st_store tbOk hA hS [vU po, vW j, .int .u8 255, vU x] [vU po, vW j, .int .u8 255, vU x] rfl rfl rfl rfl rfl rfl (zn1 rfl) (zle rfl) rfl rfl rfl fun w26 hS => ?_
      refine zR 1 ((5, yN) :: _) hA rfl fun a hA => zn (zx ?_)
      refine wp_ret ?_
      refine retc2 tbOk (fn := Tryz.f110) (cs := [vU po, vW j, .int .u8 255, vU x]) hA rfl rfl rfl rfl rfl rfl (cells_row (hS.heapAt 0 rfl) rfl) ?_
      replace hS := hS.d0.m2.d0.m2.m2.m2
      replace hS := hS.join
      have hse : (os ++ ([(false, 0, 0, 0, 0)] : List (Bool × Nat × Int × Int × Int))).set j (true, x, 0, va, 24) = os ++ [((true, x, 0, va, 24) : Bool × Nat × Int × Int × Int)] := by rw [hje]; exact set_last5
      have hlen : (os ++ [((false, 0, 0, 0, 0) : Bool × Nat × Int × Int × Int)]).length = os.length + 1 := by rw [List.length_append]; rfl
      have h9 := hO24; rw [hse] at h9
      have hl9 : (os ++ [((false, 0, 0, 0, 0) : Bool × Nat × Int × Int × Int)]).length = (os ++ [((true, x, 0, va, 24) : Bool × Nat × Int × Int × Int)]).length := by rw [List.length_append, List.length_append]; rfl
      rw [hl9] at h9 hS; exact ⟨_, _, ⟨_, _, h9, rfl⟩, hO11, by rw [hje], hS⟩)
end Go.Proofs.YthiakdmhpfkjbaaGreatDoor

set_option linter.unusedVariables false
set_option linter.unusedSimpArgs false
set_option maxRecDepth 4000
namespace Go.Proofs.YthiakdmhpfkjbaaGreatDoor
open Go Go.SK
theorem ocheck127 {w0 w : World} {F : List Chunk} {b po bo : Nat} {os : List (Bool × Nat × Int × Int × Int)} {L : Chunk} (hS : St w0 w (L :: F)) (hM : OBR b po bo os L) {ob s ck n : Nat} {e va li : Int} (hx : os[ob]? = some (true, s, e, va, li)) (hl : os.length ≤ 64) (hs : s < 2 ^ 64) (hck : s % 281474976710656 = ck) (hn : n < 256) :
 Ret Tryz.prog 127 #[vP b 0, .agg #[vU po, vW ob, .int .u8 255, vU ck], vB n] w (fun v w' => ∃ L', OBR b po bo os L' ∧ v = .tuple #[vI ob, yN] ∧ St w0 w' (L' :: F)) := by
 obtain ⟨v1, C1, hO1, rfl⟩ := hM
 obtain ⟨A1, c1, rfl, hm1, hx1⟩ := hO1.open'
 replace hS : St w0 w ([(b, rowO [vU po, vP bo 0, .slice A1 os.length c1] 247)] :: C1 :: F) := hS.split
 have hol := (List.getElem?_eq_some_iff.1 hx).1
 refine enter (vs := [vP b 0, .agg #[vU po, vW ob, .int .u8 255, vU ck], vB n]) 76 Tryz.func127 rfl rfl (by simp) ?_; intro a hA
 refine zs (zr ?_)
 refine st_box hA hS [vU po, vW ob, .int .u8 255, vU ck] rfl rfl rfl rfl rfl (by decide) fun b1 w2 a hS hA => ?_
 refine zR 2 ((7, yN) :: (6, yI) :: _) hA rfl fun a hA => zn (zx (zs (zr (zR 1 ((11, vP b1 1) :: _) hA rfl fun a hA => zL hA hS 0 rfl rfl rfl rfl rfl rfl rfl rfl rfl fun a hA => zR 1 ((13, .int .i64 (IntKind.i64.wrap ((ob : Nat) : Int))) :: _) hA rfl fun a hA => ?_))))
 replace hA := hA.rw 13 (v' := vI ob) rfl (wr64 (by rfl) (by omega) (by omega))
 refine zR 1 ((8, vI ob) :: _) hA rfl fun a hA => zn (zx (zs (zs ?_)))
 refine zD0 hS [] [(0, true), (1, true), (2, true), (3, true), (4, true), (5, true), (6, true), (7, true), (8, true), (9, true), (10, true), (11, true), (12, true), (13, true), (14, true), (15, true), (16, true), (17, true), (18, true), (19, true), (20, true), (21, true), (22, true), (23, true), (24, true), (25, true), (26, true)] mixed (by kernel_rfl) (by rintro c a w ⟨_, _, h, _⟩; cases h) (by rfl) (by kernel_rfl) ?_
 replace hS := hS.drew
 refine zW 1 ((14, vP b1 0) :: _) hA hS rfl fun a hA => zY hA hS 0 rfl rfl rfl rfl rfl rfl rfl rfl rfl rfl fun a hA => zW 3 ((18, vP b 0) :: (17, vP b 0) :: (16, vP b 0) :: _) hA hS rfl fun a hA => zY hA hS 1 rfl rfl rfl rfl rfl rfl rfl rfl rfl rfl fun a hA => zW 2 ((21, .bool (((po : Nat) : Int) != ((po : Nat) : Int))) :: (20, .bool (((po : Nat) : Int) != ((po : Nat) : Int))) :: _) hA hS rfl fun a hA => ?_
 have hc3 : ((po : Nat) : Int) = ((po : Nat) : Int) := rfl
 replace hA := hA.rw 20 (v' := yF) rfl (vb_ne_f hc3)
 replace hA := hA.rw 21 (v' := yF) rfl (vb_ne_f hc3)
 refine zW 4 ((25, vP b 2) :: (24, vP b 0) :: (23, vP b 0) :: (22, vI ob) :: _) hA hS rfl fun a hA => zY hA hS 1 rfl rfl rfl rfl rfl rfl rfl rfl rfl rfl fun a hA => zW 4 ((30, .bool (decide (((ob : Nat) : Int) ≥ ((os.length : Nat) : Int)))) :: (29, .bool (decide (((ob : Nat) : Int) ≥ ((os.length : Nat) : Int)))) :: (28, .bool (decide (((ob : Nat) : Int) ≥ ((os.length : Nat) : Int)))) :: (27, vI os.length) :: _) hA hS rfl fun a hA => ?_
 have hc4 : ¬ (((ob : Nat) : Int) ≥ ((os.length : Nat) : Int)) := by omega
 replace hA := hA.rw 28 (v' := yF) rfl (vb_false hc4)
 replace hA := hA.rw 29 (v' := yF) rfl (vb_false hc4)
 replace hA := hA.rw 30 (v' := yF) rfl (vb_false hc4)
 refine zW 3 ((33, vP b 2) :: (32, vP b 0) :: (31, vP b 0) :: _) hA hS rfl fun a hA => zY hA hS 1 rfl rfl rfl rfl rfl rfl rfl rfl rfl rfl fun a hA => zW 1 ((35, vI ob) :: _) hA hS rfl fun a hA => ?_
 obtain ⟨b5, o6, rfl⟩ := hO1.isSome (k := ob) (by omega)
 refine dr_y hA rfl rfl rfl (by decide) hS (fun w' hS' => rn_indexAddr tbOk hA ob (o6 + (ob * 5)) rfl rfl rfl rfl rfl rfl (by rfl) (by omega) (by first | rfl | simp [Nat.mul_one, Nat.zero_add] | omega)) fun a hA => zW 1 ((37, vP b5 (o6 + (ob * 5))) :: _) hA hS rfl fun a hA => dr_y hA rfl rfl rfl (by decide) hS (fun w' hS' => rn_load tbOk hA rfl rfl rfl rfl ((hO1.rd (hS'.own_ 2 rfl)).elemf (k := ob) encOb_ok hx (j := 0) rfl)) fun a hA => zW 2 ((40, yF) :: (39, yF) :: _) hA hS rfl fun a hA => ze (zx (cd_cond_f hA rfl (zk (zx (zs ?_)))))
 refine zD0 hS [] [(0, true), (1, true), (2, true), (3, true), (4, true), (5, true), (6, true), (7, true), (8, true), (9, true), (10, true), (11, true), (12, true), (13, false), (14, true), (15, true), (16, true), (17, true), (18, true)] mixed (by kernel_rfl) (by rintro c a w ⟨_, _, h, _⟩; cases h) (by rfl) (by kernel_rfl) ?_
 replace hS := hS.drew
 refine zW 3 ((45, vP b 1) :: (44, vP b 0) :: (43, vP b 0) :: _) hA hS rfl fun a hA => zY hA hS 1 rfl rfl rfl rfl rfl rfl rfl rfl rfl rfl fun a hA => zW 3 ((49, vP b 2) :: (48, vP b 0) :: (47, vP b 0) :: _) hA hS rfl fun a hA => zY hA hS 1 rfl rfl rfl rfl rfl rfl rfl rfl rfl rfl fun a hA => zW 1 ((51, vI ob) :: _) hA hS rfl fun a hA => dr_y hA rfl rfl rfl (by decide) hS (fun w' hS' => rn_indexAddr tbOk hA ob (o6 + (ob * 5)) rfl rfl rfl rfl rfl rfl (by rfl) (by omega) (by first | rfl | simp [Nat.mul_one, Nat.zero_add] | omega)) fun a hA => zW 1 ((53, vP b5 (o6 + (ob * 5) + 1)) :: _) hA hS rfl fun a hA => dr_y hA rfl rfl rfl (by decide) hS (fun w' hS' => rn_load tbOk hA rfl rfl rfl rfl ((hO1.rd (hS'.own_ 2 rfl)).elemf (k := ob) encOb_ok hx (j := 1) rfl)) fun a hA => zYA hA hS 0 [vU po, vW ob, .int .u8 255, vU ck] rfl rfl rfl rfl rfl rfl rfl rfl rfl rfl rfl fun a hA => ?_
 refine dr_b (o := _) rfl ?_
 refine st_call0 hA rfl rfl rfl isfn133 rfl rfl (by decide) (tgood_owner133 hS _ (s := s) (po := po) (ob := ob) (ck := ck) hs) ?_
 clear hA hS; rintro _ w7 a ⟨rfl, hS⟩ hA
 replace hA := hA.rw 56 (v' := .tuple #[yT, yN]) rfl (by rw [decide_eq_true hck])
 refine zi hS (zW 5 ((10, yN) :: (9, yT) :: (58, yN) :: (57, yT) :: (42, .tuple #[yT, yN]) :: _) hA hS rfl fun a hA => ze (zx (zs (zb (zs (zr (zR 3 ((59, yF) :: (61, yF) :: (60, yN) :: _) hA rfl fun a hA => zn (zx (cd_cond_f hA rfl (zs (zr (zR 3 ((63, yF) :: (65, yF) :: (64, yT) :: _) hA rfl fun a hA => zn (zx (cd_cond_f hA rfl (zs (zr (zR 1 ((68, vP b1 2) :: _) hA rfl fun a hA => zL hA hS 0 rfl rfl rfl rfl rfl rfl rfl rfl rfl fun a hA => zR 1 ((70, vB n) :: _) hA rfl fun a hA => st_val hA rfl rfl (by decide) (rn_and hA rfl rfl rfl) fun a hA => ?_)))))))))))))))))
 replace hA := hA.rw 71 (v' := vB n) rfl (vint (and255 hn))
 refine zR 3 ((67, .bool (((n : Nat) : Int) != ((n : Nat) : Int))) :: (73, .bool (((n : Nat) : Int) != ((n : Nat) : Int))) :: (72, vB n) :: _) hA rfl fun a hA => zn (zx ?_)
 have hc8 : ((n : Nat) : Int) = ((n : Nat) : Int) := rfl
 replace hA := hA.rw 67 (v' := yF) rfl (vb_ne_f hc8)
 refine cd_cond_f hA rfl (zk (zm (zx (zs (zr (zR 3 ((7, yN) :: (6, vI ob) :: (75, vI ob) :: _) hA rfl fun a hA => zn (zx ?_)))))))
 refine wp_ret ?_
 refine ret2 (fn := Tryz.f127) hA rfl rfl rfl ?_
 replace hS := hS.d0.m1.m1
 replace hS := hS.join
 exact ⟨_, ⟨_, _, hO1, rfl⟩, rfl, hS⟩
theorem ovalue128 {w0 w : World} {F : List Chunk} {b po bo : Nat} {os : List (Bool × Nat × Int × Int × Int)} {L : Chunk} (hS : St w0 w (L :: F)) (hM : OBR b po bo os L) {ob s : Nat} {e va li : Int} (hx : os[ob]? = some (true, s, e, va, li)) (hl : os.length ≤ 64) :
 Ret Tryz.prog 128 #[vP b 0, vI ob] w (fun v w' => ∃ L', OBR b po bo os L' ∧ v = .tuple #[.int .i64 va, yT] ∧ St w0 w' (L' :: F)) := by
 obtain ⟨v1, C1, hO1, rfl⟩ := hM
 obtain ⟨A1, c1, rfl, hm1, hx1⟩ := hO1.open'
 replace hS : St w0 w ([(b, rowO [vU po, vP bo 0, .slice A1 os.length c1] 247)] :: C1 :: F) := hS.split
 have hol := (List.getElem?_eq_some_iff.1 hx).1
 refine enter (vs := [vP b 0, vI ob]) 36 Tryz.func128 rfl rfl (by simp) ?_; intro a hA
 refine zs (zr (zR 2 ((5, yF) :: (4, yI) :: _) hA rfl fun a hA => zn (zx (zs (zs (zr (zR 3 ((8, .bool (decide (((ob : Nat) : Int) < 0))) :: (7, .bool (decide (((ob : Nat) : Int) < 0))) :: (6, vI ob) :: _) hA rfl fun a hA => ?_)))))))
 have hc1 : ¬ (((ob : Nat) : Int) < 0) := by omega
 replace hA := hA.rw 7 (v' := yF) rfl (vb_false hc1)
 replace hA := hA.rw 8 (v' := yF) rfl (vb_false hc1)
 refine zR 4 ((12, vP b 2) :: (11, vP b 0) :: (10, vP b 0) :: (9, vI ob) :: _) hA rfl fun a hA => zL hA hS 0 rfl rfl rfl rfl rfl rfl rfl rfl rfl fun a hA => zR 4 ((17, .bool (decide (((ob : Nat) : Int) ≥ ((os.length : Nat) : Int)))) :: (16, .bool (decide (((ob : Nat) : Int) ≥ ((os.length : Nat) : Int)))) :: (15, .bool (decide (((ob : Nat) : Int) ≥ ((os.length : Nat) : Int)))) :: (14, vI os.length) :: _) hA rfl fun a hA => ?_
 have hc2 : ¬ (((ob : Nat) : Int) ≥ ((os.length : Nat) : Int)) := by omega
 replace hA := hA.rw 15 (v' := yF) rfl (vb_false hc2)
 replace hA := hA.rw 16 (v' := yF) rfl (vb_false hc2)
 replace hA := hA.rw 17 (v' := yF) rfl (vb_false hc2)
 refine zR 3 ((20, vP b 2) :: (19, vP b 0) :: (18, vP b 0) :: _) hA rfl fun a hA => zL hA hS 0 rfl rfl rfl rfl rfl rfl rfl rfl rfl fun a hA => zR 1 ((22, vI ob) :: _) hA rfl fun a hA => ?_
 obtain ⟨b3, o4, rfl⟩ := hO1.isSome (k := ob) (by omega)
 refine st_val hA rfl rfl (by decide) (rn_indexAddr tbOk hA ob (o4 + (ob * 5)) rfl rfl rfl rfl rfl rfl (by rfl) (by omega) (by first | rfl | simp [Nat.mul_one, Nat.zero_add] | omega)) fun a hA => zR 1 ((24, vP b3 (o4 + (ob * 5))) :: _) hA rfl fun a hA => st_val hA rfl rfl (by decide) (rn_load tbOk hA rfl rfl rfl rfl ((hO1.rd (hS.own_ 1 rfl)).elemf (k := ob) encOb_ok hx (j := 0) rfl)) fun a hA => zR 2 ((27, yF) :: (26, yF) :: _) hA rfl fun a hA => zn (zx (cd_cond_f hA rfl (zk (zx (zs (zr (zR 3 ((30, vP b 2) :: (29, vP b 0) :: (28, vP b 0) :: _) hA rfl fun a hA => zL hA hS 0 rfl rfl rfl rfl rfl rfl rfl rfl rfl fun a hA => zR 1 ((32, vI ob) :: _) hA rfl fun a hA => st_val hA rfl rfl (by decide) (rn_indexAddr tbOk hA ob (o4 + (ob * 5)) rfl rfl rfl rfl rfl rfl (by rfl) (by omega) (by first | rfl | simp [Nat.mul_one, Nat.zero_add] | omega)) fun a hA => ?_)))))))
 refine zR 1 ((34, vP b3 (o4 + (ob * 5) + 3)) :: _) hA rfl fun a hA => st_val hA rfl rfl (by decide) (rn_load tbOk hA rfl rfl rfl rfl ((hO1.rd (hS.own_ 1 rfl)).elemf (k := ob) encOb_ok hx (j := 3) rfl)) fun a hA => zR 2 ((5, yT) :: (4, .int .i64 va) :: _) hA rfl fun a hA => zn (zx ?_)
 refine wp_ret ?_
 refine ret2 (fn := Tryz.f128) hA rfl rfl rfl ?_
 replace hS := hS.m1.m1
 replace hS := hS.join
 exact ⟨_, ⟨_, _, hO1, rfl⟩, rfl, hS⟩
end Go.Proofs.YthiakdmhpfkjbaaGreatDoor

set_option linter.unusedVariables false
set_option linter.unusedSimpArgs false
set_option maxRecDepth 4000
namespace Go.Proofs.YthiakdmhpfkjbaaGreatDoor
open Go Go.SK
def encPl (x : Nat × Nat × Nat) : List Value := [vU x.1, vI x.2.1, vI x.2.2]
theorem encPl_ok : Enc encPl 3 := ⟨fun _ => rfl, fun x u hu => by simp only [encPl, List.mem_cons, List.not_mem_nil, or_false] at hu; rcases hu with rfl | rfl | rfl <;> rfl⟩
def PMR (b : Nat) (ag : Int) (pl : List (Nat × Nat × Nat)) (L : Chunk) : Prop := ∃ v C, Own 210 3 v pl.length (rows encPl pl) C ∧ L = (b, rowO [v, .int .i64 ag] 179) :: C
def pfit (po now : Nat) (ag : Int) (x : Nat × Nat × Nat) : Bool := decide (x.1 = po ∧ x.2.2 ≤ now ∧ ((now : Nat) : Int) - ((x.2.2 : Nat) : Int) < ag)
theorem filt_snoc {α : Type} {p : α → Bool} {l : List α} {j : Nat} {x : α} (h : l[j]? = some x) (hp : p x = true) : (l.take (j + 1)).filter p = (l.take j).filter p ++ [x] := by
  rw [List.take_add_one, h, List.filter_append]; simp [hp]
theorem filt_skip {α : Type} {p : α → Bool} {l : List α} {j : Nat} {x : α} (h : l[j]? = some x) (hp : p x = false) : (l.take (j + 1)).filter p = (l.take j).filter p := by
  rw [List.take_add_one, h, List.filter_append]; simp [hp]
theorem pm_of52 {w0 w : World} {F : List Chunk} (hS : St w0 w F) (g : Int) (hg : 1 ≤ g) :
 Ret Tryz.prog 52 #[.int .i64 g] w (fun v w' => ∃ b L, PMR b g [] L ∧ v = vP b 0 ∧ St w0 w' (L :: F)) := by
 refine enter (vs := [.int .i64 g]) 7 Tryz.func52 rfl rfl (by simp) ?_; intro a hA
 refine zs (zr (zR 1 ((2, .pointer none) :: _) hA rfl fun a hA => zn (zx (zs (zr (zR 2 ((4, .int .i64 (if g > 1 then g else 1)) :: (3, .int .i64 g) :: _) hA rfl fun a hA => ?_))))))
 replace hA := hA.rw 4 (v' := .int .i64 g) rfl (vint (by split <;> omega))
 refine zR 1 ((5, .agg #[yS, .int .i64 g]) :: _) hA rfl fun a hA => ?_
 refine st_box hA hS [yS, .int .i64 g] rfl rfl rfl rfl rfl (by decide) fun b1 w2 a hS hA => ?_
 refine zR 1 ((2, vP b1 0) :: _) hA rfl fun a hA => zn (zx ?_)
 refine wp_ret ?_
 refine ret1 (fn := Tryz.f52) hA rfl rfl ?_
 replace hS : St w0 w2 (((b1, rowO [yS, .int .i64 g] 179) :: []) :: F) := hS
 exact ⟨_, _, ⟨_, _, Own.nil _ _, rfl⟩, rfl, hS⟩
theorem pfind_hit85 {w0 w : World} {F : List Chunk} {b : Nat} {ag : Int} {pl : List (Nat × Nat × Nat)} {L : Chunk} (hS : St w0 w (L :: F)) (hM : PMR b ag pl L) (po now : Nat) (hnow : now < 1000000) (hpl : ∀ x ∈ pl, x.2.2 < 1000000) (hag : 0 ≤ ag ∧ ag < 1000000) {j no at_ : Nat} (hj : pl[j]? = some (po, no, at_)) (h1 : at_ ≤ now) (h2 : ((now : Nat) : Int) - ((at_ : Nat) : Int) < ag) (hno : ∀ (q : Nat) (y : Nat × Nat × Nat), q < j → pl[q]? = some y → pfit po now ag y = false) :
 Ret Tryz.prog 85 #[vP b 0, vU po, vI now] w (fun v w' => ∃ L', PMR b ag pl L' ∧ v = .tuple #[vI no, yT] ∧ St w0 w' (L' :: F)) := by
 obtain ⟨v1, C1, hO1, rfl⟩ := hM
 obtain ⟨A1, c1, rfl, hm1, hx1⟩ := hO1.open'
 replace hS : St w0 w ([(b, rowO [.slice A1 pl.length c1, .int .i64 ag] 179)] :: C1 :: F) := hS.split
 refine enter (vs := [vP b 0, vU po, vI now]) 43 Tryz.func85 rfl rfl (by simp) ?_; intro a hA
 have hjl := (List.getElem?_eq_some_iff.1 hj).1
 refine zs (zr (zR 2 ((7, yF) :: (6, yI) :: _) hA rfl fun a hA => zn (zx (zs (zs (zr (zR 3 ((12, vP b 0) :: (11, vP b 0) :: (10, vP b 0) :: _) hA rfl fun a hA => zL hA hS 0 rfl rfl rfl rfl rfl rfl rfl rfl rfl fun a hA => zR 2 ((15, yI) :: (14, vI pl.length) :: _) hA rfl fun a hA => zn (zx (zb ?_)))))))))
 refine wp_loop_ghost (fun m a w => ∃ (q : Nat), m = pl.length - q ∧ Has a 43 [(0, vP b 0), (1, vU po), (2, vI now), (13, .slice A1 pl.length c1), (14, vI pl.length), (15, vI q)] ∧ St w0 w ([(b, rowO [.slice A1 pl.length c1, .int .i64 ag] 179)] :: C1 :: F) ∧ (q ≤ j)) (pl.length - 0)
  ⟨0, rfl, (hA.sel [0, 1, 2, 13, 14, 15] rfl), hS, Nat.zero_le _⟩ ?_
 clear hA hS; rintro m0 a w1 ⟨q, rfl, hA, hS, hq⟩
 refine zs (zr (zR 1 ((16, .bool (decide (((q : Nat) : Int) < ((pl.length : Nat) : Int)))) :: _) hA rfl fun a hA => zn (zx (zs ?_))))
 by_cases hc2 : ((q : Nat) : Int) < ((pl.length : Nat) : Int)
 · first
   | (exfalso; omega)
   | (replace hA := hA.rw 16 (v' := yT) rfl (vb_true hc2)
      refine cd_cond_t hA rfl (zk (zx (zs (zb (zs (zr ?_))))))
      obtain ⟨x3, hx3⟩ := get_ex (l := pl) (k := q) (by omega)
      obtain ⟨x3f0, x3f1, x3f2⟩ := x3
      have hnx : q < j → ¬ (x3f0 = po ∧ x3f2 ≤ now ∧ ((now : Nat) : Int) - ((x3f2 : Nat) : Int) < ag) := fun h => of_decide_eq_false (hno q _ h hx3)
      have hnj : q = j → x3f0 = po ∧ x3f1 = no ∧ x3f2 = at_ := fun h => by subst h; rw [hj] at hx3; injection hx3 with h9; injection h9 with h8 h9; injection h9 with h7 h6; exact ⟨h8.symm, h7.symm, h6.symm⟩
      obtain ⟨b4, o5, rfl⟩ := hO1.isSome (k := q) (by omega)
      refine st_val hA rfl rfl (by decide) (rn_indexAddr tbOk hA q (o5 + (q * 3)) rfl rfl rfl rfl rfl rfl (by rfl) (by omega) (by first | rfl | simp [Nat.mul_one, Nat.zero_add] | omega)) fun a hA => st_val hA rfl rfl (by decide) (rn_loadA tbOk hA ([vU x3f0, vI x3f1, vI x3f2]) rfl rfl rfl rfl (by rfl) ((hO1.rd (hS.own_ 1 rfl)).elem (k := q) encPl_ok hx3)) fun a hA => ?_
      refine st_alloc tbOk hA hS [yU, yI, yI] rfl rfl rfl rfl rfl (by decide) fun b6 w7 a hS hA => ?_
      refine st_store tbOk hA hS [vU x3f0, vI x3f1, vI x3f2] [vU x3f0, vI x3f1, vI x3f2] rfl rfl rfl rfl rfl rfl (zn1 rfl) (zle rfl) rfl rfl rfl fun w8 hS => ?_
      refine zn (zx (zs ?_))
      refine zD0 hS [] [(0, true), (1, true), (2, true), (3, true), (4, true), (5, true), (6, true), (7, true), (8, true), (9, true), (10, true), (11, true), (12, true), (13, true), (14, true), (15, true), (16, true), (17, true), (18, true), (19, true), (20, true)] mixed (by kernel_rfl) (by rintro c a w ⟨_, _, h, _⟩; cases h) (by rfl) (by kernel_rfl) ?_
      replace hS := hS.drew
      refine zW 1 ((19, vP b6 0) :: _) hA hS rfl fun a hA => zY hA hS 0 rfl rfl rfl rfl rfl rfl rfl rfl rfl rfl fun a hA => zW 3 ((23, .bool (((x3f0 : Nat) : Int) == ((po : Nat) : Int))) :: (22, .bool (((x3f0 : Nat) : Int) == ((po : Nat) : Int))) :: (21, vU po) :: _) hA hS rfl fun a hA => ?_
      by_cases hc9 : ((x3f0 : Nat) : Int) = ((po : Nat) : Int)
      · first
        | (exfalso; omega)
        | (replace hA := hA.rw 22 (v' := yT) rfl (vb_eq_t hc9)
           replace hA := hA.rw 23 (v' := yT) rfl (vb_eq_t hc9)
           refine zW 2 ((25, vP b6 2) :: (24, vI now) :: _) hA hS rfl fun a hA => zY hA hS 0 rfl rfl rfl rfl rfl rfl rfl rfl rfl rfl fun a hA => zW 3 ((29, .bool (decide (((now : Nat) : Int) ≥ ((x3f2 : Nat) : Int)))) :: (28, .bool (decide (((now : Nat) : Int) ≥ ((x3f2 : Nat) : Int)))) :: (27, .bool (decide (((now : Nat) : Int) ≥ ((x3f2 : Nat) : Int)))) :: _) hA hS rfl fun a hA => ?_
           by_cases hc10 : ((now : Nat) : Int) ≥ ((x3f2 : Nat) : Int)
           · first
             | (exfalso; omega)
             | (replace hA := hA.rw 27 (v' := yT) rfl (vb_true hc10)
                replace hA := hA.rw 28 (v' := yT) rfl (vb_true hc10)
                replace hA := hA.rw 29 (v' := yT) rfl (vb_true hc10)
                refine zW 2 ((31, vP b6 2) :: (30, vI now) :: _) hA hS rfl fun a hA => zY hA hS 0 rfl rfl rfl rfl rfl rfl rfl rfl rfl rfl fun a hA => zW 1 ((33, .int .i64 (IntKind.i64.wrap (((now : Nat) : Int) - ((x3f2 : Nat) : Int)))) :: _) hA hS rfl fun a hA => ?_
                replace hA := hA.rw 33 (v' := .int .i64 (((now : Nat) : Int) - ((x3f2 : Nat) : Int))) rfl (wr64 (by omega) (by omega) (by omega))
                refine zW 3 ((36, vP b 1) :: (35, vP b 0) :: (34, vP b 0) :: _) hA hS rfl fun a hA => zY hA hS 1 rfl rfl rfl rfl rfl rfl rfl rfl rfl rfl fun a hA => zW 2 ((39, .bool (decide (((now : Nat) : Int) - ((x3f2 : Nat) : Int) < ag))) :: (38, .bool (decide (((now : Nat) : Int) - ((x3f2 : Nat) : Int) < ag))) :: _) hA hS rfl fun a hA => ze (zx ?_)
                by_cases hc11 : ((now : Nat) : Int) - ((x3f2 : Nat) : Int) < ag
                · first
                  | (exfalso; omega)
                  | (replace hA := hA.rw 39 (v' := yT) rfl (vb_true hc11)
                     refine cd_cond_t hA rfl (zs (zr (zR 1 ((40, vP b6 1) :: _) hA rfl fun a hA => zL hA hS 0 rfl rfl rfl rfl rfl rfl rfl rfl rfl fun a hA => zR 2 ((7, yT) :: (6, vI x3f1) :: _) hA rfl fun a hA => zn (zx ?_))))
                     refine wp_ret (xb_ret (xt_ret (xt_ret (xb_ret (xt_ret ?_)))))
                     refine ret2 (fn := Tryz.f85) hA rfl rfl rfl ?_
                     obtain ⟨_, h7, _⟩ := hnj (by omega)
                     replace hS := hS.d0.m1.m1
                     replace hS := hS.join
                     exact ⟨_, ⟨_, _, hO1, rfl⟩, by rw [h7], hS⟩)
                · first
                  | (exfalso; omega)
                  | (replace hA := hA.rw 39 (v' := yF) rfl (vb_false hc11)
                     refine cd_cond_f hA rfl (zk (zm (zx (zr (zR 1 ((42, .int .i64 (IntKind.i64.wrap (((q : Nat) : Int) + 1))) :: _) hA rfl fun a hA => ?_)))))
                     replace hA := hA.rw 42 (v' := vI (q + 1)) rfl (wr64 (by omega) (by omega) (by omega))
                     refine zR 1 ((15, vI (q + 1)) :: _) hA rfl fun a hA => zn ?_
                     replace hS := hS.d0.m1.m1
                     exact lp_next _ (by omega) ⟨(q + 1), rfl, (hA.sel [0, 1, 2, 13, 14, 15] rfl), hS, by omega⟩))
           · first
             | (exfalso; omega)
             | (replace hA := hA.rw 27 (v' := yF) rfl (vb_false hc10)
                replace hA := hA.rw 28 (v' := yF) rfl (vb_false hc10)
                replace hA := hA.rw 29 (v' := yF) rfl (vb_false hc10)
                refine zW 10 ((39, yF) :: (38, undef) :: (37, undef) :: (36, undef) :: (35, undef) :: (34, undef) :: (33, undef) :: (32, undef) :: (31, undef) :: (30, undef) :: _) hA hS rfl fun a hA => ze (zx (cd_cond_f hA rfl (zk (zm (zx (zr (zR 1 ((42, .int .i64 (IntKind.i64.wrap (((q : Nat) : Int) + 1))) :: _) hA rfl fun a hA => ?_)))))))
                replace hA := hA.rw 42 (v' := vI (q + 1)) rfl (wr64 (by omega) (by omega) (by omega))
                refine zR 1 ((15, vI (q + 1)) :: _) hA rfl fun a hA => zn ?_
                replace hS := hS.d0.m1.m1
                exact lp_next _ (by omega) ⟨(q + 1), rfl, (hA.sel [0, 1, 2, 13, 14, 15] rfl), hS, by omega⟩))
      · first
        | (exfalso; omega)
        | (replace hA := hA.rw 22 (v' := yF) rfl (vb_eq_f hc9)
           replace hA := hA.rw 23 (v' := yF) rfl (vb_eq_f hc9)
           refine zW 16 ((39, yF) :: (38, undef) :: (37, undef) :: (36, undef) :: (35, undef) :: (34, undef) :: (33, undef) :: (32, undef) :: (31, undef) :: (30, undef) :: (29, yF) :: (28, yF) :: (27, undef) :: (26, undef) :: (25, undef) :: (24, undef) :: _) hA hS rfl fun a hA => ze (zx (cd_cond_f hA rfl (zk (zm (zx (zr (zR 1 ((42, .int .i64 (IntKind.i64.wrap (((q : Nat) : Int) + 1))) :: _) hA rfl fun a hA => ?_)))))))
           replace hA := hA.rw 42 (v' := vI (q + 1)) rfl (wr64 (by omega) (by omega) (by omega))
           refine zR 1 ((15, vI (q + 1)) :: _) hA rfl fun a hA => zn ?_
           replace hS := hS.d0.m1.m1
           exact lp_next _ (by omega) ⟨(q + 1), rfl, (hA.sel [0, 1, 2, 13, 14, 15] rfl), hS, by omega⟩))
 · first
   | (exfalso; omega)
   | (replace hA := hA.rw 16 (v' := yF) rfl (vb_false hc2)
      refine cd_cond_f hA rfl ?_
      refine wp_exit ?_
      refine xt_exit (xt_exit (cd_exit_eq (zx (zs (zr (zR 2 ((7, yF) :: (6, yI) :: _) hA rfl fun a hA => zn (zx ?_)))))))
      refine wp_ret ?_
      refine ret2 (fn := Tryz.f85) hA rfl rfl rfl ?_
      exfalso; omega)
theorem pfind_none85 {w0 w : World} {F : List Chunk} {b : Nat} {ag : Int} {pl : List (Nat × Nat × Nat)} {L : Chunk} (hS : St w0 w (L :: F)) (hM : PMR b ag pl L) (po now : Nat) (hnow : now < 1000000) (hpl : ∀ x ∈ pl, x.2.2 < 1000000) (hag : 0 ≤ ag ∧ ag < 1000000) (hno : ∀ x ∈ pl, pfit po now ag x = false) :
 Ret Tryz.prog 85 #[vP b 0, vU po, vI now] w (fun v w' => ∃ L', PMR b ag pl L' ∧ v = .tuple #[yI, yF] ∧ St w0 w' (L' :: F)) := by
 obtain ⟨v1, C1, hO1, rfl⟩ := hM
 obtain ⟨A1, c1, rfl, hm1, hx1⟩ := hO1.open'
 replace hS : St w0 w ([(b, rowO [.slice A1 pl.length c1, .int .i64 ag] 179)] :: C1 :: F) := hS.split
 refine enter (vs := [vP b 0, vU po, vI now]) 43 Tryz.func85 rfl rfl (by simp) ?_; intro a hA
 refine zs (zr (zR 2 ((7, yF) :: (6, yI) :: _) hA rfl fun a hA => zn (zx (zs (zs (zr (zR 3 ((12, vP b 0) :: (11, vP b 0) :: (10, vP b 0) :: _) hA rfl fun a hA => zL hA hS 0 rfl rfl rfl rfl rfl rfl rfl rfl rfl fun a hA => zR 2 ((15, yI) :: (14, vI pl.length) :: _) hA rfl fun a hA => zn (zx (zb ?_)))))))))
 refine wp_loop_ghost (fun m a w => ∃ (q : Nat), m = pl.length - q ∧ Has a 43 [(0, vP b 0), (1, vU po), (2, vI now), (13, .slice A1 pl.length c1), (14, vI pl.length), (15, vI q)] ∧ St w0 w ([(b, rowO [.slice A1 pl.length c1, .int .i64 ag] 179)] :: C1 :: F) ∧ (q ≤ pl.length)) (pl.length - 0)
  ⟨0, rfl, (hA.sel [0, 1, 2, 13, 14, 15] rfl), hS, Nat.zero_le _⟩ ?_
 clear hA hS; rintro m0 a w1 ⟨q, rfl, hA, hS, hq⟩
 refine zs (zr (zR 1 ((16, .bool (decide (((q : Nat) : Int) < ((pl.length : Nat) : Int)))) :: _) hA rfl fun a hA => zn (zx (zs ?_))))
 by_cases hc2 : ((q : Nat) : Int) < ((pl.length : Nat) : Int)
 · first
   | (exfalso; omega)
   | (replace hA := hA.rw 16 (v' := yT) rfl (vb_true hc2)
      refine cd_cond_t hA rfl (zk (zx (zs (zb (zs (zr ?_))))))
      obtain ⟨x3, hx3⟩ := get_ex (l := pl) (k := q) (by omega)
      obtain ⟨x3f0, x3f1, x3f2⟩ := x3
      have hnx := hno _ (List.mem_of_getElem? hx3); have hnx := of_decide_eq_false hnx; dsimp only at hnx
      obtain ⟨b4, o5, rfl⟩ := hO1.isSome (k := q) (by omega)
      refine st_val hA rfl rfl (by decide) (rn_indexAddr tbOk hA q (o5 + (q * 3)) rfl rfl rfl rfl rfl rfl (by rfl) (by omega) (by first | rfl | simp [Nat.mul_one, Nat.zero_add] | omega)) fun a hA => st_val hA rfl rfl (by decide) (rn_loadA tbOk hA ([vU x3f0, vI x3f1, vI x3f2]) rfl rfl rfl rfl (by rfl) ((hO1.rd (hS.own_ 1 rfl)).elem (k := q) encPl_ok hx3)) fun a hA => ?_
      refine st_alloc tbOk hA hS [yU, yI, yI] rfl rfl rfl rfl rfl (by decide) fun b6 w7 a hS hA => ?_
      refine st_store tbOk hA hS [vU x3f0, vI x3f1, vI x3f2] [vU x3f0, vI x3f1, vI x3f2] rfl rfl rfl rfl rfl rfl (zn1 rfl) (zle rfl) rfl rfl rfl fun w8 hS => ?_
      refine zn (zx (zs ?_))
      refine zD0 hS [] [(0, true), (1, true), (2, true), (3, true), (4, true), (5, true), (6, true), (7, true), (8, true), (9, true), (10, true), (11, true), (12, true), (13, true), (14, true), (15, true), (16, true), (17, true), (18, true), (19, true), (20, true)] mixed (by kernel_rfl) (by rintro c a w ⟨_, _, h, _⟩; cases h) (by rfl) (by kernel_rfl) ?_
      replace hS := hS.drew
      refine zW 1 ((19, vP b6 0) :: _) hA hS rfl fun a hA => zY hA hS 0 rfl rfl rfl rfl rfl rfl rfl rfl rfl rfl fun a hA => zW 3 ((23, .bool (((x3f0 : Nat) : Int) == ((po : Nat) : Int))) :: (22, .bool (((x3f0 : Nat) : Int) == ((po : Nat) : Int))) :: (21, vU po) :: _) hA hS rfl fun a hA => ?_
      by_cases hc9 : ((x3f0 : Nat) : Int) = ((po : Nat) : Int)
      · first
        | (exfalso; omega)
        | (replace hA := hA.rw 22 (v' := yT) rfl (vb_eq_t hc9)
           replace hA := hA.rw 23 (v' := yT) rfl (vb_eq_t hc9)
           refine zW 2 ((25, vP b6 2) :: (24, vI now) :: _) hA hS rfl fun a hA => zY hA hS 0 rfl rfl rfl rfl rfl rfl rfl rfl rfl rfl fun a hA => zW 3 ((29, .bool (decide (((now : Nat) : Int) ≥ ((x3f2 : Nat) : Int)))) :: (28, .bool (decide (((now : Nat) : Int) ≥ ((x3f2 : Nat) : Int)))) :: (27, .bool (decide (((now : Nat) : Int) ≥ ((x3f2 : Nat) : Int)))) :: _) hA hS rfl fun a hA => ?_
           by_cases hc10 : ((now : Nat) : Int) ≥ ((x3f2 : Nat) : Int)
           · first
             | (exfalso; omega)
             | (replace hA := hA.rw 27 (v' := yT) rfl (vb_true hc10)
                replace hA := hA.rw 28 (v' := yT) rfl (vb_true hc10)
                replace hA := hA.rw 29 (v' := yT) rfl (vb_true hc10)
                refine zW 2 ((31, vP b6 2) :: (30, vI now) :: _) hA hS rfl fun a hA => zY hA hS 0 rfl rfl rfl rfl rfl rfl rfl rfl rfl rfl fun a hA => zW 1 ((33, .int .i64 (IntKind.i64.wrap (((now : Nat) : Int) - ((x3f2 : Nat) : Int)))) :: _) hA hS rfl fun a hA => ?_
                replace hA := hA.rw 33 (v' := .int .i64 (((now : Nat) : Int) - ((x3f2 : Nat) : Int))) rfl (wr64 (by omega) (by omega) (by omega))
                refine zW 3 ((36, vP b 1) :: (35, vP b 0) :: (34, vP b 0) :: _) hA hS rfl fun a hA => zY hA hS 1 rfl rfl rfl rfl rfl rfl rfl rfl rfl rfl fun a hA => zW 2 ((39, .bool (decide (((now : Nat) : Int) - ((x3f2 : Nat) : Int) < ag))) :: (38, .bool (decide (((now : Nat) : Int) - ((x3f2 : Nat) : Int) < ag))) :: _) hA hS rfl fun a hA => ze (zx ?_)
                by_cases hc11 : ((now : Nat) : Int) - ((x3f2 : Nat) : Int) < ag
                · first
                  | (exfalso; omega)
                  | (replace hA := hA.rw 39 (v' := yT) rfl (vb_true hc11)
                     refine cd_cond_t hA rfl (zs (zr (zR 1 ((40, vP b6 1) :: _) hA rfl fun a hA => zL hA hS 0 rfl rfl rfl rfl rfl rfl rfl rfl rfl fun a hA => zR 2 ((7, yT) :: (6, vI x3f1) :: _) hA rfl fun a hA => zn (zx ?_))))
                     refine wp_ret (xb_ret (xt_ret (xt_ret (xb_ret (xt_ret ?_)))))
                     refine ret2 (fn := Tryz.f85) hA rfl rfl rfl ?_
                     replace hS := hS.d0.m1.m1
                     replace hS := hS.join
                     exact ⟨_, ⟨_, _, hO1, rfl⟩, rfl, hS⟩)
                · first
                  | (exfalso; omega)
                  | (replace hA := hA.rw 39 (v' := yF) rfl (vb_false hc11)
                     refine cd_cond_f hA rfl (zk (zm (zx (zr (zR 1 ((42, .int .i64 (IntKind.i64.wrap (((q : Nat) : Int) + 1))) :: _) hA rfl fun a hA => ?_)))))
                     replace hA := hA.rw 42 (v' := vI (q + 1)) rfl (wr64 (by omega) (by omega) (by omega))
                     refine zR 1 ((15, vI (q + 1)) :: _) hA rfl fun a hA => zn ?_
                     replace hS := hS.d0.m1.m1
                     exact lp_next _ (by omega) ⟨(q + 1), rfl, (hA.sel [0, 1, 2, 13, 14, 15] rfl), hS, by omega⟩))
           · first
             | (exfalso; omega)
             | (replace hA := hA.rw 27 (v' := yF) rfl (vb_false hc10)
                replace hA := hA.rw 28 (v' := yF) rfl (vb_false hc10)
                replace hA := hA.rw 29 (v' := yF) rfl (vb_false hc10)
                refine zW 10 ((39, yF) :: (38, undef) :: (37, undef) :: (36, undef) :: (35, undef) :: (34, undef) :: (33, undef) :: (32, undef) :: (31, undef) :: (30, undef) :: _) hA hS rfl fun a hA => ze (zx (cd_cond_f hA rfl (zk (zm (zx (zr (zR 1 ((42, .int .i64 (IntKind.i64.wrap (((q : Nat) : Int) + 1))) :: _) hA rfl fun a hA => ?_)))))))
                replace hA := hA.rw 42 (v' := vI (q + 1)) rfl (wr64 (by omega) (by omega) (by omega))
                refine zR 1 ((15, vI (q + 1)) :: _) hA rfl fun a hA => zn ?_
                replace hS := hS.d0.m1.m1
                exact lp_next _ (by omega) ⟨(q + 1), rfl, (hA.sel [0, 1, 2, 13, 14, 15] rfl), hS, by omega⟩))
      · first
        | (exfalso; omega)
        | (replace hA := hA.rw 22 (v' := yF) rfl (vb_eq_f hc9)
           replace hA := hA.rw 23 (v' := yF) rfl (vb_eq_f hc9)
           refine zW 16 ((39, yF) :: (38, undef) :: (37, undef) :: (36, undef) :: (35, undef) :: (34, undef) :: (33, undef) :: (32, undef) :: (31, undef) :: (30, undef) :: (29, yF) :: (28, yF) :: (27, undef) :: (26, undef) :: (25, undef) :: (24, undef) :: _) hA hS rfl fun a hA => ze (zx (cd_cond_f hA rfl (zk (zm (zx (zr (zR 1 ((42, .int .i64 (IntKind.i64.wrap (((q : Nat) : Int) + 1))) :: _) hA rfl fun a hA => ?_)))))))
           replace hA := hA.rw 42 (v' := vI (q + 1)) rfl (wr64 (by omega) (by omega) (by omega))
           refine zR 1 ((15, vI (q + 1)) :: _) hA rfl fun a hA => zn ?_
           replace hS := hS.d0.m1.m1
           exact lp_next _ (by omega) ⟨(q + 1), rfl, (hA.sel [0, 1, 2, 13, 14, 15] rfl), hS, by omega⟩))
 · first
   | (exfalso; omega)
   | (replace hA := hA.rw 16 (v' := yF) rfl (vb_false hc2)
      refine cd_cond_f hA rfl ?_
      refine wp_exit ?_
      refine xt_exit (xt_exit (cd_exit_eq (zx (zs (zr (zR 2 ((7, yF) :: (6, yI) :: _) hA rfl fun a hA => zn (zx ?_)))))))
      refine wp_ret ?_
      refine ret2 (fn := Tryz.f85) hA rfl rfl rfl ?_
      replace hS := hS.m1.m1
      replace hS := hS.join
      exact ⟨_, ⟨_, _, hO1, rfl⟩, rfl, hS⟩)
theorem fgc120 {w0 w : World} {F : List Chunk} (hS : St w0 w F) {bx po : Nat} (hc : ∀ w', St w0 w' F → w'.cell? ⟨bx, 0, none⟩ = some (vU po)) (x : Nat × Nat × Nat) :
 Ret Tryz.prog 120 #[.agg #[vU x.1, vI x.2.1, vI x.2.2], vP bx 0] w (fun v w' => v = .bool (!(x.1 == po)) ∧ St w0 w' F) := by
 refine enter (vs := [.agg #[vU x.1, vI x.2.1, vI x.2.2], vP bx 0]) 8 Tryz.func120 rfl rfl (by simp) ?_; intro a hA
 refine zs (zr ?_)
 refine st_box hA hS [vU x.1, vI x.2.1, vI x.2.2] rfl rfl rfl rfl rfl (by decide) fun b1 w2 a hS hA => ?_
 refine zR 1 ((3, yF) :: _) hA rfl fun a hA => zn (zx (zs (zr (zR 1 ((4, vP b1 0) :: _) hA rfl fun a hA => zL hA hS 0 rfl rfl rfl rfl rfl rfl rfl rfl rfl fun a hA => st_val hA rfl rfl (by decide) (rn_load tbOk hA rfl rfl rfl rfl (hc _ (hS.tail 1 rfl))) fun a hA => zR 2 ((3, .bool (((x.1 : Nat) : Int) != ((po : Nat) : Int))) :: (7, .bool (((x.1 : Nat) : Int) != ((po : Nat) : Int))) :: _) hA rfl fun a hA => zn (zx ?_)))))
 refine wp_ret ?_
 refine ret1 (fn := Tryz.f120) hA rfl rfl ?_
 replace hS := hS.d0
 exact ⟨vbool (by rw [Bool.eq_iff_iff]; simp; omega), hS⟩
theorem fgcP {w0 : World} {F : List Chunk} {bx po : Nat} (hc : ∀ w', St w0 w' F → w'.cell? ⟨bx, 0, none⟩ = some (vU po)) : Pred Tryz.prog w0 F 120 #[] #[vP bx 0] (fun x => .agg (encPl x).toArray) (fun x => !(x.1 == po)) := by
  intro w x hS
  exact fgc120 (St.refl w) (fun w' h => h.old (hc w hS)) x
theorem St.drop3 {w0 w : World} {L : List Chunk} {C D E : Chunk} (h : St w0 w (C :: D :: E :: L)) : St w0 w (C :: D :: L) := h.sub (by simp)
theorem pkeep119 {w0 w : World} {F : List Chunk} {b : Nat} {ag : Int} {pl : List (Nat × Nat × Nat)} {L : Chunk} (hS : St w0 w (L :: F)) (hM : PMR b ag pl L) (hpl : pl.length ≤ 16) {g : Nat} {first cap : Array Value} {p : Nat × Nat × Nat → Bool} (hg : IsFn Tryz.prog g) (hp : Pred Tryz.prog w0 F g first cap (fun x => .agg (encPl x).toArray) p) :
 Ret Tryz.prog 119 #[vP b 0, .func (.func g) first cap] w (fun v w' => ∃ L', PMR b ag (pl.filter p) L' ∧ v = .tuple #[] ∧ St w0 w' (L' :: F)) := by
 obtain ⟨v1, C1, hO1, rfl⟩ := hM
 obtain ⟨A1, c1, rfl, hm1, hx1⟩ := hO1.open'
 replace hS : St w0 w ([(b, rowO [.slice A1 pl.length c1, .int .i64 ag] 179)] :: C1 :: F) := hS.split
 refine enter (vs := [vP b 0, .func (.func g) first cap]) 28 Tryz.func119 rfl rfl (by simp) ?_; intro a hA
 refine zs (zr (zR 1 ((4, yS) :: _) hA rfl fun a hA => zn (zx (zs (zs (zr (zR 3 ((9, vP b 0) :: (8, vP b 0) :: (7, vP b 0) :: _) hA rfl fun a hA => zL hA hS 0 rfl rfl rfl rfl rfl rfl rfl rfl rfl fun a hA => zR 2 ((12, yI) :: (11, vI pl.length) :: _) hA rfl fun a hA => zn (zx (zb ?_)))))))))
 replace hS := hS.nil
 refine wp_loop_ghost (fun m a w => ∃ (j : Nat) (A : Option Addr) (c : Nat) (C : Chunk), m = pl.length - j ∧ Has a 28 [(0, vP b 0), (1, .func (.func g) first cap), (4, .slice A (((pl.take j).filter p).length) c), (10, .slice A1 pl.length c1), (11, vI pl.length), (12, vI j)] ∧ St w0 w (C :: [(b, rowO [.slice A1 pl.length c1, .int .i64 ag] 179)] :: C1 :: F) ∧ (j ≤ pl.length) ∧ (Own 210 3 (.slice A ((pl.take j).filter p).length c) ((pl.take j).filter p).length (rows encPl ((pl.take j).filter p)) C)) (pl.length - 0)
  ⟨0, none, 0, ([]), rfl, (hA.sel [0, 1, 4, 10, 11, 12] rfl), hS, Nat.zero_le _, (Own.nil 210 3)⟩ ?_
 clear hA hS; rintro m0 a w1 ⟨j, A, c, C, rfl, hA, hS, hj, hO⟩
 have hln : ((pl.take j).filter p).length ≤ j := Nat.le_trans (List.length_filter_le _ _) (by rw [List.length_take]; omega)
 refine zs (zr (zR 1 ((13, .bool (decide (((j : Nat) : Int) < ((pl.length : Nat) : Int)))) :: _) hA rfl fun a hA => zn (zx (zs ?_))))
 by_cases hc2 : ((j : Nat) : Int) < ((pl.length : Nat) : Int)
 · first
   | (exfalso; omega)
   | (replace hA := hA.rw 13 (v' := yT) rfl (vb_true hc2)
      refine cd_cond_t hA rfl (zk (zx (zs (zb (zs (zr ?_))))))
      obtain ⟨b3, o4, rfl⟩ := hO1.isSome (k := j) (by omega)
      refine st_val hA rfl rfl (by decide) (rn_indexAddr tbOk hA j (o4 + (j * 3)) rfl rfl rfl rfl rfl rfl (by rfl) (by omega) (by first | rfl | simp [Nat.mul_one, Nat.zero_add] | omega)) fun a hA => ?_
      obtain ⟨x5, hx5⟩ := get_ex (l := pl) (k := j) (by omega)
      obtain ⟨x5f0, x5f1, x5f2⟩ := x5
      refine st_val hA rfl rfl (by decide) (rn_loadA tbOk hA ([vU x5f0, vI x5f1, vI x5f2]) rfl rfl rfl rfl (by rfl) ((hO1.rd (hS.own_ 2 rfl)).elem (k := j) encPl_ok hx5)) fun a hA => ?_
      refine st_alloc tbOk hA hS [yU, yI, yI] rfl rfl rfl rfl rfl (by decide) fun b6 w7 a hS hA => ?_
      refine st_store tbOk hA hS [vU x5f0, vI x5f1, vI x5f2] [vU x5f0, vI x5f1, vI x5f2] rfl rfl rfl rfl rfl rfl (zn1 rfl) (zle rfl) rfl rfl rfl fun w8 hS => ?_
      refine zn (zx (zs (zr (zR 1 ((16, .func (.func g) first cap) :: _) hA rfl fun a hA => zLA hA hS 0 [vU x5f0, vI x5f1, vI x5f2] rfl rfl rfl rfl rfl rfl rfl rfl rfl rfl fun a hA => ?_))))
      refine st_call hA rfl rfl rfl rfl hg rfl rfl (by decide) (hp _ (x5f0, x5f1, x5f2) (hS.tail 4 rfl)) ?_
      clear hA; rintro v w9 a ⟨rfl, hS'⟩ hA; replace hS : St w0 w9 ([(b6, rowO [vU x5f0, vI x5f1, vI x5f2] 210)] :: C :: [(b, rowO [.slice (some ⟨b3, o4, none⟩) pl.length c1, .int .i64 ag] 179)] :: C1 :: F) := hS.trans hS'
      refine zn (zx ?_)
      by_cases hpx : (p (x5f0, x5f1, x5f2)) = true
      · first
        | (exfalso; omega)
        | (replace hA := hA.rw 18 (v' := yT) rfl (vb_t hpx)
           refine cd_cond_t hA rfl (zr (zR 1 ((19, .slice A (((pl.take j).filter p).length) c) :: _) hA rfl fun a hA => zLA hA hS 0 [vU x5f0, vI x5f1, vI x5f2] rfl rfl rfl rfl rfl rfl rfl rfl rfl rfl fun a hA => ?_))
           refine st_buildSlice tbOk hA hS [vU x5f0, vI x5f1, vI x5f2] rfl rfl rfl rfl rfl (by decide) (by kernel_rfl) rfl rfl (by decide) fun b10 w11 a hS hA => ?_
           replace hS := hS.m2
           refine st_append tbOk hA (m := ((pl.take j).filter p).length) (q := 1) (xs := rows encPl ((pl.take j).filter p)) (news := rows encPl ([(x5f0, x5f1, x5f2)] : List (Nat × Nat × Nat))) rfl rfl rfl rfl rfl rfl rfl rfl (by decide) hO hS (((Own.full (T := 210) (size := 3) (g := b10) (m := 1) rfl (by decide)).rd (hS.own_ 1 rfl)).x) (rows_one encPl_ok _) (maxLen_le (by first | omega | (simp only [List.length_append, List.length_cons, List.length_nil]; omega))) (by show (((pl.take j).filter p).length + 1) * 24 ≤ 140737488355328; first | omega | (simp only [List.length_append, List.length_cons, List.length_nil]; omega)) rfl rfl (by decide) ?_
           clear hA hS; intro v12 w13 C14 a hO14 hS hA
           replace hO14 := Own.app (l := ((pl.take j).filter p)) (l2 := ([(x5f0, x5f1, x5f2)] : List (Nat × Nat × Nat))) hO14
           obtain ⟨A15, c16, rfl, hmc16, hxc16⟩ := hO14.open'
           refine zR 1 ((4, .slice A15 ((((pl.take j).filter p) ++ ([(x5f0, x5f1, x5f2)] : List (Nat × Nat × Nat))).length) c16) :: _) hA rfl fun a hA => zn (zm (zx (zr (zR 1 ((23, .int .i64 (IntKind.i64.wrap (((j : Nat) : Int) + 1))) :: _) hA rfl fun a hA => ?_))))
           replace hA := hA.rw 23 (v' := vI (j + 1)) rfl (wr64 (by omega) (by omega) (by omega))
           refine zR 1 ((12, vI (j + 1)) :: _) hA rfl fun a hA => zn ?_
           replace hS := hS.m1.d0.m1.d0.m2.m2.m2
           have hO9 := hO14; rw [← (filt_snoc hx5 hpx)] at hO9
           replace hA := hA.rw 4 (v' := .slice A15 (((pl.take (j + 1)).filter p).length) c16) rfl (by rw [(filt_snoc hx5 hpx)])
           exact lp_next _ (by omega) ⟨(j + 1), A15, c16, C14, rfl, (hA.sel [0, 1, 4, 10, 11, 12] rfl), hS, by omega, hO9⟩)
      · first
        | (exfalso; omega)
        | (replace hA := hA.rw 18 (v' := yF) rfl (vb_f hpx)
           refine cd_cond_f hA rfl (zk (zm (zx (zr (zR 1 ((23, .int .i64 (IntKind.i64.wrap (((j : Nat) : Int) + 1))) :: _) hA rfl fun a hA => ?_)))))
           replace hA := hA.rw 23 (v' := vI (j + 1)) rfl (wr64 (by omega) (by omega) (by omega))
           refine zR 1 ((12, vI (j + 1)) :: _) hA rfl fun a hA => zn ?_
           replace hS := hS.d0.m2.m2.m2
           have hO9 := hO; rw [← (filt_skip hx5 (by simpa using hpx))] at hO9
           replace hA := hA.rw 4 (v' := .slice A (((pl.take (j + 1)).filter p).length) c) rfl (by rw [(filt_skip hx5 (by simpa using hpx))])
           exact lp_next _ (by omega) ⟨(j + 1), A, c, C, rfl, (hA.sel [0, 1, 4, 10, 11, 12] rfl), hS, by omega, hO9⟩))
 · first
   | (exfalso; omega)
   | (replace hA := hA.rw 13 (v' := yF) rfl (vb_false hc2)
      refine cd_cond_f hA rfl ?_
      refine wp_exit ?_
      refine xt_exit (xt_exit (cd_exit_eq (zx (zr (zR 4 ((27, vP b 0) :: (26, vP b 0) :: (25, .slice A (((pl.take j).filter p).length) c) :: (24, vP b 0) :: _) hA rfl fun a hA => ?_)))))
      replace hS := hS.m1
      refine st_store tbOk hA hS [.slice A (((pl.take j).filter p).length) c] [.slice A (((pl.take j).filter p).length) c, .int .i64 ag] rfl rfl rfl rfl rfl rfl (by intro u hu; rw [List.mem_singleton.1 hu]; rfl) (zle rfl) rfl rfl rfl fun w17 hS => ?_
      refine zn ?_
      refine ret0n (fn := Tryz.f119) hA rfl ?_
      replace hS := hS.m2.m2.m2
      obtain rfl : j = pl.length := by omega
      rw [List.take_length] at hO hS
      exact ⟨_, ⟨_, _, hO, rfl⟩, rfl, (St.drop3 hS).join⟩)
theorem pforget97 {w0 w : World} {F : List Chunk} {b : Nat} {ag : Int} {pl : List (Nat × Nat × Nat)} {L : Chunk} (hS : St w0 w (L :: F)) (hM : PMR b ag pl L) (po : Nat) (hpl : pl.length ≤ 16) :
 Ret Tryz.prog 97 #[vP b 0, vU po] w (fun v w' => ∃ L', PMR b ag (pl.filter (fun x => !(x.1 == po))) L' ∧ v = .tuple #[] ∧ St w0 w' (L' :: F)) := by
 refine enter (vs := [vP b 0, vU po]) 7 Tryz.func97 rfl rfl (by simp) ?_; intro a hA
 refine zs (zr ?_)
 refine st_box hA hS [vU po] rfl rfl rfl rfl rfl (by decide) fun b1 w2 a hS hA => ?_
 refine zn (zx (zr (zR 2 ((5, .func (.func 120) #[] #[vP b1 0]) :: (4, vP b 0) :: _) hA rfl fun a hA => ?_)))
 replace hS := hS.m1
 refine st_call0 hA rfl rfl rfl isfn119 rfl rfl (by decide) (pkeep119 hS hM hpl isfn120 (fgcP (po := po) (fun w' h => cell_row (h.heapAt 0 rfl) rfl))) ?_
 clear hA hS; rintro _ w3 a ⟨L2, hM2, rfl, hS⟩ hA
 refine zn ?_
 refine ret0n (fn := Tryz.f97) hA rfl ?_
 exact ⟨_, hM2, rfl, hS.drop2⟩
theorem plearn63 {w0 w : World} {F : List Chunk} {b : Nat} {ag : Int} {pl : List (Nat × Nat × Nat)} {L : Chunk} (hS : St w0 w (L :: F)) (hM : PMR b ag pl L) (po no now : Nat) (hpl : pl.length < 16) :
 Ret Tryz.prog 63 #[vP b 0, vU po, vI no, vI now] w (fun v w' => ∃ L', PMR b ag (pl.filter (fun x => !(x.1 == po)) ++ [(po, no, now)]) L' ∧ v = .tuple #[] ∧ St w0 w' (L' :: F)) := by
 refine enter (vs := [vP b 0, vU po, vI no, vI now]) 49 Tryz.func63 rfl rfl (by simp) ?_; intro a hA
 refine zs (zr (zR 2 ((9, vU po) :: (8, vP b 0) :: _) hA rfl fun a hA => ?_))
 refine st_call0 hA rfl rfl rfl isfn97 rfl rfl (by decide) (pforget97 hS hM po (by omega)) ?_
 clear hA hS; rintro _ w1 a ⟨L2, hM2, rfl, hS⟩ hA
 have hql : (pl.filter (fun x => !(x.1 == po))).length ≤ pl.length := List.length_filter_le _ _
 obtain ⟨ql, hqe⟩ : ∃ z, z = pl.filter (fun x => !(x.1 == po)) := ⟨_, rfl⟩; rw [← hqe] at hM2 hql
 obtain ⟨v1, C1, hO1, rfl⟩ := hM2
 obtain ⟨A1, c1, rfl, hm1, hx1⟩ := hO1.open'
 replace hS : St w0 w1 ([(b, rowO [.slice A1 ql.length c1, .int .i64 ag] 179)] :: C1 :: F) := hS.split
 refine zn (zx (zs (zs (zr (zR 3 ((13, vP b 0) :: (12, vP b 0) :: (11, vP b 0) :: _) hA rfl fun a hA => zL hA hS 0 rfl rfl rfl rfl rfl rfl rfl rfl rfl fun a hA => zR 2 ((16, .bool (((ql.length : Nat) : Int) == 16)) :: (15, vI ql.length) :: _) hA rfl fun a hA => zn (zx ?_))))))
 have hc2 : ¬ (((ql.length : Nat) : Int) = 16) := by omega
 replace hA := hA.rw 16 (v' := yF) rfl (vb_eq_f hc2)
 refine cd_cond_f hA rfl (zk (zx ?_))
 replace hS := hS.m1
 refine zD1 hS [24] [(0, true), (1, true), (2, true), (3, true), (4, true), (5, true), (6, true), (7, true), (8, true), (9, true), (10, true), (11, true), (12, true), (13, true), (14, true), (15, true), (16, true), (17, true), (18, true), (19, true), (20, false), (21, false), (22, true), (23, true), (24, false)] mixed (by kernel_rfl) (by rintro c a w ⟨_, _, h, _⟩; cases h) (by rfl) (by kernel_rfl) ?_
 replace hS := hS.drew
 refine zW 4 ((28, vP b 0) :: (27, vP b 0) :: (26, vP b 0) :: (25, vP b 0) :: _) hA (hS.tail 1 rfl) rfl fun a hA => zY hA (hS.tail 1 rfl) 0 rfl rfl rfl rfl rfl rfl rfl rfl rfl rfl fun a hA => zW 3 ((32, vP b 0) :: (31, vP b 0) :: (30, vP b 0) :: _) hA (hS.tail 1 rfl) rfl fun a hA => zY hA (hS.tail 1 rfl) 0 rfl rfl rfl rfl rfl rfl rfl rfl rfl rfl fun a hA => zW 4 ((37, vP b 0) :: (36, vP b 0) :: (35, vP b 0) :: (34, vI ql.length) :: _) hA (hS.tail 1 rfl) rfl fun a hA => zY hA (hS.tail 1 rfl) 0 rfl rfl rfl rfl rfl rfl rfl rfl rfl rfl fun a hA => zW 1 ((39, vI ql.length) :: _) hA (hS.tail 1 rfl) rfl fun a hA => dr_y hA rfl rfl rfl (by decide) (hS.tail 1 rfl) (fun w' hS' => rn_slice_hm tbOk hA ql.length ql.length rfl rfl rfl rfl rfl rfl rfl (by rfl) (by rfl) (by omega) (by omega)) fun a hA => ?_
 refine zW 4 ((44, .agg #[vU po, vI no, vI now]) :: (43, vI now) :: (42, vI no) :: (41, vU po) :: _) hA (hS.tail 1 rfl) rfl fun a hA => dr_b (o := _) rfl ?_
 refine st_buildSlice tbOk hA hS [vU po, vI no, vI now] rfl rfl rfl rfl rfl (by decide) (by kernel_rfl) rfl rfl (by decide) fun b3 w4 a hS hA => ?_
 refine zi (hS.tail 2 rfl) (dr_b (o := _) rfl ?_)
 replace hS := hS.m1
 refine st_append tbOk hA (m := ql.length) (q := 1) (xs := rows encPl ql) (news := rows encPl ([(po, no, now)] : List (Nat × Nat × Nat))) rfl rfl rfl rfl rfl rfl rfl rfl (by decide) (Own.capped hO1) hS (((Own.full (T := 210) (size := 3) (g := b3) (m := 1) rfl (by decide)).rd (hS.own_ 1 rfl)).x) (rows_one encPl_ok _) (maxLen_le (by first | omega | (simp only [List.length_append, List.length_cons, List.length_nil]; omega))) (by show (ql.length + 1) * 24 ≤ 140737488355328; first | omega | (simp only [List.length_append, List.length_cons, List.length_nil]; omega)) rfl rfl (by decide) ?_
 clear hA hS; intro v5 w6 C7 a hO7 hS hA
 replace hO7 := Own.app (l := ql) (l2 := ([(po, no, now)] : List (Nat × Nat × Nat))) hO7
 obtain ⟨A8, c9, rfl, hmc9, hxc9⟩ := hO7.open'
 refine zi (hS.tail 2 rfl) (zW 2 ((48, vP b 0) :: (47, vP b 0) :: _) hA (hS.tail 2 rfl) rfl fun a hA => dr_b (o := _) rfl ?_)
 replace hS := hS.m2
 refine st_store tbOk hA hS [.slice A8 ((ql ++ ([(po, no, now)] : List (Nat × Nat × Nat))).length) c9] [.slice A8 ((ql ++ ([(po, no, now)] : List (Nat × Nat × Nat))).length) c9, .int .i64 ag] rfl rfl rfl rfl rfl rfl (by intro u hu; rw [List.mem_singleton.1 hu]; rfl) (zle rfl) rfl rfl rfl fun w10 hS => ?_
 refine dr_nil (.inl (by decide)) (ze ?_)
 refine ret0n (fn := Tryz.f63) hA rfl ?_
 replace hS := hS.m2.d0.m1.m1
 replace hS := hS.join
 subst hqe
 exact ⟨_, ⟨_, _, hO7, rfl⟩, rfl, hS⟩
end Go.Proofs.YthiakdmhpfkjbaaGreatDoor

set_option linter.unusedVariables false
set_option linter.unusedSimpArgs false
set_option maxRecDepth 4000
namespace Go.Proofs.YthiakdmhpfkjbaaGreatDoor
open Go Go.SK
theorem sk_of111 {w0 w : World} {F : List Chunk} (hS : St w0 w F) (bt t bf : Nat) :
 Ret Tryz.prog 111 #[vP bt 0, .iface t (vP bf 0)] w (fun v w' => ∃ b, v = vP b 0 ∧ St w0 w' ([(b, rowO [vP bt 0, .iface t (vP bf 0)] 222)] :: F)) := by
 refine enter (vs := [vP bt 0, .iface t (vP bf 0)]) 9 Tryz.func111 rfl rfl (by simp) ?_; intro a hA
 refine zs (zr (zR 1 ((4, .pointer none) :: _) hA rfl fun a hA => zn (zx (zs (zr (zR 3 ((7, .agg #[vP bt 0, .iface t (vP bf 0)]) :: (6, .iface t (vP bf 0)) :: (5, vP bt 0) :: _) hA rfl fun a hA => ?_))))))
 refine st_box hA hS [vP bt 0, .iface t (vP bf 0)] rfl rfl rfl rfl rfl (by decide) fun b1 w2 a hS hA => ?_
 refine zR 1 ((4, vP b1 0) :: _) hA rfl fun a hA => zn (zx ?_)
 refine wp_ret ?_
 refine ret1 (fn := Tryz.f111) hA rfl rfl ?_
 exact ⟨_, rfl, hS⟩
theorem pages_of130 {w0 w : World} {F : List Chunk} (hS : St w0 w F) :
 Ret Tryz.prog 130 #[.int .i64 10] w (fun v w' => ∃ b L, v = vP b 0 ∧ St w0 w' (L :: F)) := by
 refine enter (vs := [.int .i64 10]) 13 Tryz.func130 rfl rfl (by simp) ?_; intro a hA
 refine zs (zr (zR 1 ((2, .pointer none) :: _) hA rfl fun a hA => zn (zx (zs (zr (zR 2 ((4, .int .i64 (if 4096 < 10 then 4096 else 10)) :: (3, .int .i64 10) :: _) hA rfl fun a hA => ?_))))))
 replace hA := hA.rw 4 (v' := .int .i64 10) rfl (vint (by decide))
 refine zR 1 ((5, .int .i64 (if 10 > 0 then 10 else 0)) :: _) hA rfl fun a hA => ?_
 replace hA := hA.rw 5 (v' := .int .i64 10) rfl (vint (by decide))
 refine zR 1 ((0, .int .i64 10) :: _) hA rfl fun a hA => zn (zx (zs ?_))
 refine wp_drawN (fun w' => St w0 w' (F)) [] [(0, true), (1, true), (3, true)] 2 (.L [(4, false), (5, true), (6, false), (7, true)]) 4 (.L [(2, false), (5, true), (6, false), (7, true)]) mixed (by kernel_rfl) (by rintro c a w ⟨_, _, h, _⟩; cases h) (by rfl) (by kernel_rfl) ?_
 replace hS := hS.drew
 refine zW 2 ((7, .int .i64 (IntKind.i64.wrap (10 * 64))) :: (6, .int .i64 10) :: _) hA hS rfl fun a hA => ?_
 replace hA := hA.rw 7 (v' := .int .i64 640) rfl (wr64 (by omega) (by omega) (by omega))
 refine zW 1 ((9, .int .i64 10) :: _) hA hS rfl fun a hA => ?_
 refine dr_fork ?_ ?_
 · refine dr_b (o := _) rfl ?_
   refine st_makeSlice tbOk hA hS 640 encB_ok (by decide) (0 : UInt8) rfl rfl rfl rfl rfl rfl rfl rfl (by show 1 * 640 ≤ 281474976710656; omega) (by omega) rfl rfl (by decide) fun b1 w2 a hS hA => ?_
   obtain ⟨C3, hO3, hS⟩ : ∃ Cq9, Own 5 1 (.slice (some ⟨b1, 0, none⟩) 640 640) 640 (rows encB (List.replicate 640 (0 : UInt8))) Cq9 ∧ St w0 w2 (Cq9 :: F) := ⟨_, Own.full (by rw [rows_length encB_ok, List.length_replicate]) (by show 640 ≤ 9223372036854775807; omega), hS⟩
   generalize (some (⟨b1, 0, none⟩ : Addr)) = A4 at hO3 hA
   refine zi (hS.tail 1 rfl) ?_
   refine dr_subL ?_
   refine dr_b (o := _) rfl ?_
   refine st_makeSlice tbOk hA hS 10 encBo_ok (by decide) false rfl rfl rfl rfl rfl rfl rfl rfl (by show 1 * 10 ≤ 281474976710656; omega) (by omega) rfl rfl (by decide) fun b5 w6 a hS hA => ?_
   obtain ⟨C7, hO7, hS⟩ : ∃ Cq9, Own 4 1 (.slice (some ⟨b5, 0, none⟩) 10 10) 10 (rows encBo (List.replicate 10 false)) Cq9 ∧ St w0 w6 (Cq9 :: C3 :: F) := ⟨_, Own.full (by rw [rows_length encBo_ok, List.length_replicate]) (by show 10 ≤ 9223372036854775807; omega), hS⟩
   generalize (some (⟨b5, 0, none⟩ : Addr)) = A8 at hO7 hA
   refine zi (hS.tail 2 rfl) (zW 1 ((11, .agg #[.slice A4 640 640, .slice A8 10 10]) :: _) hA (hS.tail 2 rfl) rfl fun a hA => dr_b (o := _) rfl ?_)
   refine st_box hA hS [.slice A4 640 640, .slice A8 10 10] rfl rfl rfl rfl rfl (by decide) fun b9 w10 a hS hA => ?_
   refine zi (hS.tail 3 rfl) (zW 1 ((2, vP b9 0) :: _) hA (hS.tail 3 rfl) rfl fun a hA => ze (zx ?_))
   refine wp_ret ?_
   refine ret1 (fn := Tryz.f130) hA rfl rfl ?_
   replace hS := hS.join
   replace hS := hS.join
   exact ⟨_, _, rfl, hS⟩
 · refine dr_b (o := _) rfl ?_
   refine st_makeSlice tbOk hA hS 10 encBo_ok (by decide) false rfl rfl rfl rfl rfl rfl rfl rfl (by show 1 * 10 ≤ 281474976710656; omega) (by omega) rfl rfl (by decide) fun b11 w12 a hS hA => ?_
   obtain ⟨C13, hO13, hS⟩ : ∃ Cq9, Own 4 1 (.slice (some ⟨b11, 0, none⟩) 10 10) 10 (rows encBo (List.replicate 10 false)) Cq9 ∧ St w0 w12 (Cq9 :: F) := ⟨_, Own.full (by rw [rows_length encBo_ok, List.length_replicate]) (by show 10 ≤ 9223372036854775807; omega), hS⟩
   generalize (some (⟨b11, 0, none⟩ : Addr)) = A14 at hO13 hA
   refine zi (hS.tail 1 rfl) ?_
   refine dr_subL ?_
   refine dr_b (o := _) rfl ?_
   refine st_makeSlice tbOk hA hS 640 encB_ok (by decide) (0 : UInt8) rfl rfl rfl rfl rfl rfl rfl rfl (by show 1 * 640 ≤ 281474976710656; omega) (by omega) rfl rfl (by decide) fun b15 w16 a hS hA => ?_
   obtain ⟨C17, hO17, hS⟩ : ∃ Cq9, Own 5 1 (.slice (some ⟨b15, 0, none⟩) 640 640) 640 (rows encB (List.replicate 640 (0 : UInt8))) Cq9 ∧ St w0 w16 (Cq9 :: C13 :: F) := ⟨_, Own.full (by rw [rows_length encB_ok, List.length_replicate]) (by show 640 ≤ 9223372036854775807; omega), hS⟩
   generalize (some (⟨b15, 0, none⟩ : Addr)) = A18 at hO17 hA
   refine zi (hS.tail 2 rfl) (zW 1 ((11, .agg #[.slice A18 640 640, .slice A14 10 10]) :: _) hA (hS.tail 2 rfl) rfl fun a hA => dr_b (o := _) rfl ?_)
   refine st_box hA hS [.slice A18 640 640, .slice A14 10 10] rfl rfl rfl rfl rfl (by decide) fun b19 w20 a hS hA => ?_
   refine zi (hS.tail 3 rfl) (zW 1 ((2, vP b19 0) :: _) hA (hS.tail 3 rfl) rfl fun a hA => ze (zx ?_))
   refine wp_ret ?_
   refine ret1 (fn := Tryz.f130) hA rfl rfl ?_
   replace hS := hS.join
   replace hS := hS.join
   exact ⟨_, _, rfl, hS⟩
theorem seg_of112 {w0 w : World} {F : List Chunk} (hS : St w0 w F) :
 Ret Tryz.prog 112 #[.int .i64 10] w (fun v w' => ∃ b L, v = vP b 0 ∧ St w0 w' (L :: F)) := by
 refine enter (vs := [.int .i64 10]) 7 Tryz.func112 rfl rfl (by simp) ?_; intro a hA
 refine zs (zr (zR 1 ((2, .pointer none) :: _) hA rfl fun a hA => zn (zx (zs (zr (zR 1 ((3, .int .i64 10) :: _) hA rfl fun a hA => ?_))))))
 refine st_call0 hA rfl rfl rfl isfn130 rfl rfl (by decide) (pages_of130 hS) ?_
 clear hA hS; rintro _ w3 a ⟨b1, L2, rfl, hS⟩ hA
 refine zR 1 ((5, .agg #[vP b1 0, yS]) :: _) hA rfl fun a hA => ?_
 refine st_box hA hS [vP b1 0, yS] rfl rfl rfl rfl rfl (by decide) fun b4 w5 a hS hA => ?_
 refine zR 1 ((2, vP b4 0) :: _) hA rfl fun a hA => zn (zx ?_)
 refine wp_ret ?_
 refine ret1 (fn := Tryz.f112) hA rfl rfl ?_
 replace hS := hS.join
 exact ⟨_, _, rfl, hS⟩
theorem mem_of79 {w0 w : World} {F : List Chunk} {bt po bo : Nat} {L O : Chunk} {en : List (Nat × Nat × Nat)} {ts : List Nat} {k x : Nat} (hS : St w0 w (L :: O :: F)) (hM : OBR bt po bo [] L) (hO : ORR bo en ts k O) (hx : ts[k]? = some x) :
 Ret Tryz.prog 79 #[vP bt 0, .int .i64 10] w (fun v w' => ∃ b L' O', v = .tuple #[vP b 0, .agg #[vU po, yW, .int .u8 255, vU x], yN] ∧ ORR bo en ts (k + 1) O' ∧ St w0 w' (L' :: O' :: F)) := by
 refine enter (vs := [vP bt 0, .int .i64 10]) 27 Tryz.func79 rfl rfl (by simp) ?_; intro a hA
 refine zs (zr (zR 1 ((4, .pointer none) :: _) hA rfl fun a hA => ?_))
 refine st_alloc tbOk hA hS [yU, yW, yB, yU] rfl rfl rfl rfl rfl (by decide) fun b1 w2 a hS hA => ?_
 refine zR 1 ((6, yN) :: _) hA rfl fun a hA => zn (zx (zs (zr (zR 1 ((10, vP bt 0) :: _) hA rfl fun a hA => ?_))))
 replace hS := hS.m2.m2
 refine st_call0 hA rfl rfl rfl isfn110 rfl rfl (by decide) (create110 hS hM hO (-1) (fun x hx => by cases hx) (by decide) hx) ?_
 clear hA hS; rintro _ w3 a ⟨L2, O2, hM2, hO2, rfl, hS⟩ hA
 refine zR 3 ((13, yN) :: (12, .agg #[vU po, yW, .int .u8 255, vU x]) :: (9, .tuple #[.agg #[vU po, yW, .int .u8 255, vU x], yN]) :: _) hA rfl fun a hA => ?_
 refine st_alloc tbOk hA hS [yU, yW, yB, yU] rfl rfl rfl rfl rfl (by decide) fun b4 w5 a hS hA => ?_
 refine st_store tbOk hA hS [vU po, yW, .int .u8 255, vU x] [vU po, yW, .int .u8 255, vU x] rfl rfl rfl rfl rfl rfl (zn1 rfl) (zle rfl) rfl rfl rfl fun w6 hS => ?_
 refine zR 1 ((8, yN) :: _) hA rfl fun a hA => zn (zx (zs (zs (zr (zR 2 ((15, yF) :: (14, yN) :: _) hA rfl fun a hA => zn (zx (cd_cond_f hA rfl (zk (zx (zs ?_))))))))))
 replace hS := hS.m3
 refine zD1 hS [10] [(0, true), (1, true), (3, true), (8, true), (2, false), (4, true), (5, false), (6, true), (7, false), (9, true), (10, false), (11, false)] mixed (by kernel_rfl) (by rintro c a w ⟨_, _, h, _⟩; cases h) (by rfl) (by kernel_rfl) ?_
 replace hS := hS.drew
 refine zW 3 ((21, vP bt 0) :: (19, .int .i64 10) :: (18, vP bt 0) :: _) hA (hS.tail 1 rfl) rfl fun a hA => zYA hA (hS.tail 1 rfl) 0 [vU po, yW, .int .u8 255, vU x] rfl rfl rfl rfl rfl rfl rfl rfl rfl rfl rfl fun a hA => dr_b (o := _) rfl ?_
 refine st_call0 hA rfl rfl rfl isfn112 rfl rfl (by decide) (seg_of112 hS) ?_
 clear hA hS; rintro _ w9 a ⟨b7, L8, rfl, hS⟩ hA
 refine zi (hS.tail 2 rfl) (zW 1 ((22, .agg #[vP b7 0, vP bt 0]) :: _) hA (hS.tail 2 rfl) rfl fun a hA => dr_b (o := _) rfl ?_)
 refine st_box hA hS [vP b7 0, vP bt 0] rfl rfl rfl rfl rfl (by decide) fun b10 w11 a hS hA => ?_
 refine zi (hS.tail 3 rfl) (zW 1 ((24, .iface 251 (vP b10 0)) :: _) hA (hS.tail 3 rfl) rfl fun a hA => dr_b (o := _) rfl ?_)
 refine st_call0 hA rfl rfl rfl isfn111 rfl rfl (by decide) (sk_of111 hS _ _ _) ?_
 clear hA hS; rintro _ w13 a ⟨b12, rfl, hS⟩ hA
 refine zi (hS.tail 4 rfl) (zW 1 ((4, vP b12 0) :: _) hA (hS.tail 4 rfl) rfl fun a hA => dr_b (o := _) rfl ?_)
 replace hS := hS.m3
 refine st_store tbOk hA hS [vU po, yW, .int .u8 255, vU x] [vU po, yW, .int .u8 255, vU x] rfl rfl rfl rfl rfl rfl (zn1 rfl) (zle rfl) rfl rfl rfl fun w14 hS => ?_
 refine dr_nil (.inl (by decide)) (dr_b (o := _) rfl (zR 1 ((6, yN) :: _) hA rfl fun a hA => zi (hS.tail 4 rfl) (ze (zx ?_))))
 refine wp_ret ?_
 refine rettct tbOk (fn := Tryz.f79) (cs := [vU po, yW, .int .u8 255, vU x]) hA rfl rfl rfl rfl rfl rfl rfl (cells_row (hS.heapAt 0 rfl) rfl) ?_
 replace hS := hS.m6
 replace hS : St w0 w14 (([(b1, rowO [vU po, yW, .int .u8 255, vU x] 39)] ++ [(b12, rowO [vP bt 0, .iface 251 (vP b10 0)] 222)] ++ [(b10, rowO [vP b7 0, vP bt 0] 255)] ++ L8 ++ [(b4, rowO [vU po, yW, .int .u8 255, vU x] 39)] ++ L2) :: O2 :: F) := (hS.cast (L' := [O2] ++ [([(b1, rowO [vU po, yW, .int .u8 255, vU x] 39)] ++ [(b12, rowO [vP bt 0, .iface 251 (vP b10 0)] 222)] ++ [(b10, rowO [vP b7 0, vP bt 0] 255)] ++ L8 ++ [(b4, rowO [vU po, yW, .int .u8 255, vU x] 39)] ++ L2)] ++ F) (by simp)).swap
 exact ⟨_, _, _, rfl, hO2, hS⟩
theorem dir_of80 {w0 w : World} {F : List Chunk} {bt po bo : Nat} {L O : Chunk} {en : List (Nat × Nat × Nat)} {ts : List Nat} {k x : Nat} (hS : St w0 w (L :: O :: F)) (hM : OBR bt po bo [] L) (hO : ORR bo en ts k O) (hx : ts[k]? = some x) :
 Ret Tryz.prog 80 #[vP bt 0, vP bo 0] w (fun v w' => ∃ b L' O', v = .tuple #[vP b 0, .agg #[vU po, yW, .int .u8 255, vU x], yN] ∧ ORR bo en ts (k + 1) O' ∧ St w0 w' (L' :: O' :: F)) := by
 refine enter (vs := [vP bt 0, vP bo 0]) 33 Tryz.func80 rfl rfl (by simp) ?_; intro a hA
 refine zs (zr (zR 1 ((4, .pointer none) :: _) hA rfl fun a hA => ?_))
 refine st_alloc tbOk hA hS [yU, yW, yB, yU] rfl rfl rfl rfl rfl (by decide) fun b1 w2 a hS hA => ?_
 refine zR 1 ((6, yN) :: _) hA rfl fun a hA => zn (zx (zs (zr (zR 1 ((11, vP bt 0) :: _) hA rfl fun a hA => ?_))))
 replace hS := hS.m2.m2
 refine st_call0 hA rfl rfl rfl isfn110 rfl rfl (by decide) (create110 hS hM hO (0) (fun x hx => by cases hx) (by decide) hx) ?_
 clear hA hS; rintro _ w3 a ⟨L2, O2, hM2, hO2, rfl, hS⟩ hA
 refine zR 3 ((14, yN) :: (13, .agg #[vU po, yW, .int .u8 255, vU x]) :: (10, .tuple #[.agg #[vU po, yW, .int .u8 255, vU x], yN]) :: _) hA rfl fun a hA => ?_
 refine st_alloc tbOk hA hS [yU, yW, yB, yU] rfl rfl rfl rfl rfl (by decide) fun b4 w5 a hS hA => ?_
 refine st_store tbOk hA hS [vU po, yW, .int .u8 255, vU x] [vU po, yW, .int .u8 255, vU x] rfl rfl rfl rfl rfl rfl (zn1 rfl) (zle rfl) rfl rfl rfl fun w6 hS => ?_
 refine zR 1 ((8, yN) :: _) hA rfl fun a hA => zn (zx (zs (zs (zr (zR 2 ((16, yF) :: (15, yN) :: _) hA rfl fun a hA => zn (zx (cd_cond_f hA rfl (zk (zx (zs (zs (zr (zR 2 ((20, yF) :: (19, vP bo 0) :: _) hA rfl fun a hA => zn (zx (cd_cond_f hA rfl (zk (zx (zs (zr ?_)))))))))))))))))))
 refine st_makeMap hA hS rfl rfl rfl (by decide) fun m7 w8 a hS hA => ?_
 refine st_mapNew tbOk hA hS (by first | exact .inl rfl | exact .inr rfl) rfl rfl rfl rfl rfl rfl rfl (MapO.new .i64) (fun p hp => by cases hp) rfl rfl ?_; clear hS; intro w9 ob10 hS hm11
 refine zR 3 ((25, vP bo 0) :: (24, vP bt 0) :: (23, .map (some m7)) :: _) hA rfl fun a hA => st_val hA rfl rfl (by decide) (rn_build tbOk hA rfl rfl rfl rfl rfl rfl rfl) fun a hA => ?_
 refine st_box hA hS [.map (some m7), .int .i64 1, vP bt 0, vP bo 0] rfl rfl rfl rfl rfl (by decide) fun b12 w13 a hS hA => ?_
 refine zR 1 ((9, vP b12 0) :: _) hA rfl fun a hA => zn (zx (zs ?_))
 replace hS := hS.m5
 refine zD1 hS [6] [(0, true), (1, true), (2, true), (4, true), (3, false), (5, true), (6, false), (7, false)] mixed (by kernel_rfl) (by rintro c a w ⟨_, _, h, _⟩; cases h) (by rfl) (by kernel_rfl) ?_
 replace hS := hS.drew
 refine zW 3 ((30, .iface 256 (vP b12 0)) :: (29, vP b12 0) :: (28, vP bt 0) :: _) hA (hS.tail 1 rfl) rfl fun a hA => zYA hA (hS.tail 1 rfl) 2 [vU po, yW, .int .u8 255, vU x] rfl rfl rfl rfl rfl rfl rfl rfl rfl rfl rfl fun a hA => dr_b (o := _) rfl ?_
 refine st_call0 hA rfl rfl rfl isfn111 rfl rfl (by decide) (sk_of111 hS _ _ _) ?_
 clear hA hS; rintro _ w15 a ⟨b14, rfl, hS⟩ hA
 refine zi (hS.tail 2 rfl) (zW 1 ((4, vP b14 0) :: _) hA (hS.tail 2 rfl) rfl fun a hA => dr_b (o := _) rfl ?_)
 replace hS := hS.m1
 refine st_store tbOk hA hS [vU po, yW, .int .u8 255, vU x] [vU po, yW, .int .u8 255, vU x] rfl rfl rfl rfl rfl rfl (zn1 rfl) (zle rfl) rfl rfl rfl fun w16 hS => ?_
 refine dr_nil (.inl (by decide)) (dr_b (o := _) rfl (zR 1 ((6, yN) :: _) hA rfl fun a hA => zi (hS.tail 2 rfl) (ze (zx ?_))))
 refine wp_ret ?_
 refine rettct tbOk (fn := Tryz.f80) (cs := [vU po, yW, .int .u8 255, vU x]) hA rfl rfl rfl rfl rfl rfl rfl (cells_row (hS.heapAt 0 rfl) rfl) ?_
 replace hS := hS.m6
 replace hS : St w0 w16 (([(b1, rowO [vU po, yW, .int .u8 255, vU x] 39)] ++ [(b14, rowO [vP bt 0, .iface 256 (vP b12 0)] 222)] ++ [(b12, rowO [.map (some m7), .int .i64 1, vP bt 0, vP bo 0] 259)] ++ [(m7, ob10)] ++ [(b4, rowO [vU po, yW, .int .u8 255, vU x] 39)] ++ L2) :: O2 :: F) := (hS.cast (L' := [O2] ++ [([(b1, rowO [vU po, yW, .int .u8 255, vU x] 39)] ++ [(b14, rowO [vP bt 0, .iface 256 (vP b12 0)] 222)] ++ [(b12, rowO [.map (some m7), .int .i64 1, vP bt 0, vP bo 0] 259)] ++ [(m7, ob10)] ++ [(b4, rowO [vU po, yW, .int .u8 255, vU x] 39)] ++ L2)] ++ F) (by simp)).swap
 exact ⟨_, _, _, rfl, hO2, hS⟩
end Go.Proofs.YthiakdmhpfkjbaaGreatDoor
