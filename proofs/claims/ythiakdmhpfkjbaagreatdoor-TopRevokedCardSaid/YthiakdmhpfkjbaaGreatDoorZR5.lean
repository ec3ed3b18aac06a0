import Derived.Test.YthiakdmhpfkjbaaGreatDoorZR4
set_option linter.unusedVariables false
set_option linter.unusedSimpArgs false
set_option linter.unusedVariables false
set_option linter.unusedSimpArgs false
set_option maxRecDepth 4000
namespace Go.Proofs.YthiakdmhpfkjbaaGreatDoor
open Go Go.SK
theorem node_of28 {w0 w : World} {F : List Chunk} (hS : St w0 w F) (s : NC) (bo : Nat) :
 Ret Tryz.prog 28 #[vI s.id, vI s.ki, .agg #[vI s.no, vI s.pc, vI s.wa, vI s.tr, vI s.ag, vI s.pg, vI s.ro], vP bo 0] w (fun v w' => ∃ b, v = vP b 0 ∧ St w0 w' ([(b, rowO [vI s.id, vI s.ki, vI s.no, vI s.pc, vI s.wa, vI s.tr, vI s.ag, vI s.pg, vI s.ro, vP bo 0, yF, yI, yU, yU, yU, yU, yW, yB, yU, .pointer none, .pointer none, .pointer none, .pointer none, .pointer none, .pointer none, .map none] 121)] :: F)) := by
 refine enter (vs := [vI s.id, vI s.ki, .agg #[vI s.no, vI s.pc, vI s.wa, vI s.tr, vI s.ag, vI s.pg, vI s.ro], vP bo 0]) 15 Tryz.func28 rfl rfl (by simp) ?_; intro a hA
 refine zs (zr ?_)
 refine st_box hA hS [vI s.no, vI s.pc, vI s.wa, vI s.tr, vI s.ag, vI s.pg, vI s.ro] rfl rfl rfl rfl rfl (by decide) fun b1 w2 a hS hA => ?_
 refine zR 1 ((8, .pointer none) :: _) hA rfl fun a hA => zn (zx (zs (zr (zR 2 ((10, vI s.ki) :: (9, vI s.id) :: _) hA rfl fun a hA => zLA hA hS 0 [vI s.no, vI s.pc, vI s.wa, vI s.tr, vI s.ag, vI s.pg, vI s.ro] rfl rfl rfl rfl rfl rfl rfl rfl rfl rfl fun a hA => zR 1 ((12, vP bo 0) :: _) hA rfl fun a hA => st_val hA rfl rfl (by decide) (rn_build tbOk hA rfl rfl rfl rfl rfl rfl rfl) fun a hA => ?_))))
 refine st_box hA hS [vI s.id, vI s.ki, vI s.no, vI s.pc, vI s.wa, vI s.tr, vI s.ag, vI s.pg, vI s.ro, vP bo 0, yF, yI, yU, yU, yU, yU, yW, yB, yU, .pointer none, .pointer none, .pointer none, .pointer none, .pointer none, .pointer none, .map none] rfl rfl rfl rfl rfl (by decide) fun b3 w4 a hS hA => ?_
 refine zR 1 ((8, vP b3 0) :: _) hA rfl fun a hA => zn (zx ?_)
 refine wp_ret ?_
 refine ret1 (fn := Tryz.f28) hA rfl rfl ?_
 replace hS := hS.m1.d0
 exact ⟨_, rfl, hS⟩
set_option maxHeartbeats 4000000 in
theorem nserve1_50 {w0 w : World} {F : List Chunk} {b bo rp g po x : Nat} {s : NC} {D : Chunk} {O : Chunk} {en : List (Nat × Nat × Nat)} {ts : List Nat} {k : Nat} (hS : St w0 w ([(b, rowO [vI s.id, .int .i64 1, vI s.no, vI s.pc, vI s.wa, vI s.tr, vI s.ag, .int .i64 10, vI s.ro, vP bo 0, yF, vI s.now, vU s.sent, vU rp, yU, yU, yW, yB, yU, .pointer none, .pointer none, .pointer none, .pointer none, .pointer none, .pointer none, .map none] 121)] :: O :: F)) (hO : ORR bo en ts k O) (hx0 : ts[k]? = some g) (hx1 : ts[k + 1]? = some po) (hx2 : ts[k + 1 + 1]? = some x) (hg : g < 281474976710656) (hno : ∀ x ∈ en, ¬ (x.1 = 0 ∧ x.2.1 = g % 281474976710656)) (hel : en.length ≤ 1000) :
 Ret Tryz.prog 50 #[vP b 0] w (fun v w' => ∃ sv LV O', SVO w0 bo po .other sv LV D ∧ ORR bo (en ++ [(0, g % 281474976710656, po)]) ts (k + 1 + 1 + 1) O' ∧ v = yN ∧ St w0 w' ([(b, rowO [vI s.id, .int .i64 1, vI s.no, vI s.pc, vI s.wa, vI s.tr, vI s.ag, .int .i64 10, vI s.ro, vP bo 0, yF, vI s.now, vU s.sent, vU rp, vU po, vU po, yW, .int .u8 255, vU x, sv, .pointer none, .pointer none, .pointer none, .pointer none, .pointer none, .map none] 121)] :: LV :: O' :: F)) := by
 refine enter (vs := [vP b 0]) 96 Tryz.func50 rfl rfl (by simp) ?_; intro a hA
 refine zs (zr (zR 1 ((2, yN) :: _) hA rfl fun a hA => zn (zx (zs (zr (zR 3 ((10, vP b 9) :: (9, vP b 0) :: (8, vP b 0) :: _) hA rfl fun a hA => zL hA hS 0 rfl rfl rfl rfl rfl rfl rfl rfl rfl fun a hA => ?_))))))
 replace hS := hS.m1
 refine st_call0 hA rfl rfl rfl isfn48 rfl rfl (by decide) (odraw48 hS hO (x := g) hx0) ?_
 clear hA hS; rintro _ w1 a ⟨O2, hO3, rfl, hS⟩ hA
 refine zR 5 ((4, yN) :: (3, vU g) :: (14, yN) :: (13, vU g) :: (7, .tuple #[vU g, yN]) :: _) hA rfl fun a hA => zn (zx (zs (zs (zr (zR 2 ((16, yF) :: (15, yN) :: _) hA rfl fun a hA => zn (zx (cd_cond_f hA rfl (zk (zx (zs (zr (zR 3 ((21, vP b 9) :: (20, vP b 0) :: (19, vP b 0) :: _) hA rfl fun a hA => zL hA hS 1 rfl rfl rfl rfl rfl rfl rfl rfl rfl fun a hA => zR 1 ((23, vU g) :: _) hA rfl fun a hA => ?_))))))))))))
 refine st_call0 hA rfl rfl rfl isfn49 rfl rfl (by decide) (tport49 hS hO3 g (by omega) hno (x := po) hx1 (by omega)) ?_
 clear hA hS; rintro _ w4 a ⟨O5, hO6, rfl, hS⟩ hA
 refine zR 5 ((4, yN) :: (5, vU po) :: (26, yN) :: (25, vU po) :: (18, .tuple #[vU po, yN]) :: _) hA rfl fun a hA => zn (zx (zs (zs (zr (zR 2 ((28, yF) :: (27, yN) :: _) hA rfl fun a hA => zn (zx (cd_cond_f hA rfl (zk (zx (zs (zr (zR 4 ((33, vP b 9) :: (32, vP b 0) :: (31, vP b 0) :: (30, vU po) :: _) hA rfl fun a hA => zL hA hS 1 rfl rfl rfl rfl rfl rfl rfl rfl rfl fun a hA => ?_))))))))))))
 refine st_call0 hA rfl rfl rfl isfn78 rfl rfl (by decide) (obj_of78 hS po bo) ?_
 clear hA hS; rintro _ w7 a ⟨bt, LT, hT, rfl, hS⟩ hA
 refine zR 1 ((6, vP bt 0) :: _) hA rfl fun a hA => zn (zx (zs (zs (zr (zR 3 ((38, vP b 1) :: (37, vP b 0) :: (36, vP b 0) :: _) hA rfl fun a hA => zL hA hS 2 rfl rfl rfl rfl rfl rfl rfl rfl rfl fun a hA => zn (zx (zb (zs (zr (zR 2 ((52, yT) :: (53, yT) :: _) hA rfl fun a hA => zn (zx (cd_cond_t hA rfl (zr (zR 7 ((61, vP b 7) :: (60, vP b 2) :: (59, vP b 0) :: (58, vP b 0) :: (57, vP bt 0) :: (56, vP b 0) :: (55, vP b 0) :: _) hA rfl fun a hA => zL hA hS 2 rfl rfl rfl rfl rfl rfl rfl rfl rfl fun a hA => ?_))))))))))))))
 replace hS := hS.m1.m1
 refine st_call0 hA rfl rfl rfl isfn79 rfl rfl (by decide) (mem_of79 hS hT hO6 (x := x) hx2) ?_
 clear hA hS; rintro _ w8 a ⟨bs, LV, O9, rfl, hO9, hS⟩ hA
 refine zR 6 ((68, vP b 19) :: (67, vP b 0) :: (66, yN) :: (65, .agg #[vU po, yW, .int .u8 255, vU x]) :: (64, vP bs 0) :: (54, .tuple #[vP bs 0, .agg #[vU po, yW, .int .u8 255, vU x], yN]) :: _) hA rfl fun a hA => ?_
 replace hS := hS.m2
 refine st_store tbOk hA hS [vP bs 0] [vI s.id, .int .i64 1, vI s.no, vI s.pc, vI s.wa, vI s.tr, vI s.ag, .int .i64 10, vI s.ro, vP bo 0, yF, vI s.now, vU s.sent, vU rp, yU, yU, yW, yB, yU, vP bs 0, .pointer none, .pointer none, .pointer none, .pointer none, .pointer none, .map none] rfl rfl rfl rfl rfl rfl (by intro u hu; rw [List.mem_singleton.1 hu]; rfl) (zle rfl) rfl rfl rfl fun w9 hS => ?_
 refine zR 2 ((70, vP b 15) :: (69, vP b 0) :: _) hA rfl fun a hA => ?_
 refine st_store tbOk hA hS [vU po, yW, .int .u8 255, vU x] [vI s.id, .int .i64 1, vI s.no, vI s.pc, vI s.wa, vI s.tr, vI s.ag, .int .i64 10, vI s.ro, vP bo 0, yF, vI s.now, vU s.sent, vU rp, yU, vU po, yW, .int .u8 255, vU x, vP bs 0, .pointer none, .pointer none, .pointer none, .pointer none, .pointer none, .map none] rfl rfl rfl rfl rfl rfl (zn1 rfl) (zle rfl) rfl rfl rfl fun w10 hS => ?_
 refine zR 1 ((4, yN) :: _) hA rfl fun a hA => zn (zm (zx (zs (zs (zr (zR 2 ((90, yT) :: (89, yN) :: _) hA rfl fun a hA => zn (zx (cd_cond_t hA rfl (zr (zR 4 ((94, vP b 14) :: (93, vP b 0) :: (92, vU po) :: (91, vP b 0) :: _) hA rfl fun a hA => ?_))))))))))
 refine st_store tbOk hA hS [vU po] [vI s.id, .int .i64 1, vI s.no, vI s.pc, vI s.wa, vI s.tr, vI s.ag, .int .i64 10, vI s.ro, vP bo 0, yF, vI s.now, vU s.sent, vU rp, vU po, vU po, yW, .int .u8 255, vU x, vP bs 0, .pointer none, .pointer none, .pointer none, .pointer none, .pointer none, .map none] rfl rfl rfl rfl rfl rfl (by intro u hu; rw [List.mem_singleton.1 hu]; rfl) (zle rfl) rfl rfl rfl fun w11 hS => ?_
 refine zn (zx (zs (zr (zR 2 ((2, yN) :: (95, yN) :: _) hA rfl fun a hA => zn (zx ?_)))))
 refine wp_ret ?_
 refine ret1 (fn := Tryz.f50) hA rfl rfl ?_
 replace hS := hS.m2.m2.m2
 exact ⟨_, _, O9, ⟨bs, rfl⟩, hO9, rfl, hS⟩
set_option maxHeartbeats 4000000 in
theorem nserve2_50 {w0 w : World} {F : List Chunk} {b bo rp g po x : Nat} {s : NC} {D : Chunk} {O : Chunk} {en : List (Nat × Nat × Nat)} {ts : List Nat} {k : Nat} (hS : St w0 w ([(b, rowO [vI s.id, .int .i64 2, vI s.no, vI s.pc, vI s.wa, vI s.tr, vI s.ag, vI s.pg, vI s.ro, vP bo 0, yF, vI s.now, vU s.sent, vU rp, yU, yU, yW, yB, yU, .pointer none, .pointer none, .pointer none, .pointer none, .pointer none, .pointer none, .map none] 121)] :: O :: F)) (hO : ORR bo en ts k O) (hx0 : ts[k]? = some g) (hx1 : ts[k + 1]? = some po) (hx2 : ts[k + 1 + 1]? = some x) (hg : g < 281474976710656) (hno : ∀ x ∈ en, ¬ (x.1 = 0 ∧ x.2.1 = g % 281474976710656)) (hel : en.length ≤ 1000) :
 Ret Tryz.prog 50 #[vP b 0] w (fun v w' => ∃ sv LV O', SVO w0 bo po .other sv LV D ∧ ORR bo (en ++ [(0, g % 281474976710656, po)]) ts (k + 1 + 1 + 1) O' ∧ v = yN ∧ St w0 w' ([(b, rowO [vI s.id, .int .i64 2, vI s.no, vI s.pc, vI s.wa, vI s.tr, vI s.ag, vI s.pg, vI s.ro, vP bo 0, yF, vI s.now, vU s.sent, vU rp, vU po, vU po, yW, .int .u8 255, vU x, sv, .pointer none, .pointer none, .pointer none, .pointer none, .pointer none, .map none] 121)] :: LV :: O' :: F)) := by
 refine enter (vs := [vP b 0]) 96 Tryz.func50 rfl rfl (by simp) ?_; intro a hA
 refine zs (zr (zR 1 ((2, yN) :: _) hA rfl fun a hA => zn (zx (zs (zr (zR 3 ((10, vP b 9) :: (9, vP b 0) :: (8, vP b 0) :: _) hA rfl fun a hA => zL hA hS 0 rfl rfl rfl rfl rfl rfl rfl rfl rfl fun a hA => ?_))))))
 replace hS := hS.m1
 refine st_call0 hA rfl rfl rfl isfn48 rfl rfl (by decide) (odraw48 hS hO (x := g) hx0) ?_
 clear hA hS; rintro _ w1 a ⟨O2, hO3, rfl, hS⟩ hA
 refine zR 5 ((4, yN) :: (3, vU g) :: (14, yN) :: (13, vU g) :: (7, .tuple #[vU g, yN]) :: _) hA rfl fun a hA => zn (zx (zs (zs (zr (zR 2 ((16, yF) :: (15, yN) :: _) hA rfl fun a hA => zn (zx (cd_cond_f hA rfl (zk (zx (zs (zr (zR 3 ((21, vP b 9) :: (20, vP b 0) :: (19, vP b 0) :: _) hA rfl fun a hA => zL hA hS 1 rfl rfl rfl rfl rfl rfl rfl rfl rfl fun a hA => zR 1 ((23, vU g) :: _) hA rfl fun a hA => ?_))))))))))))
 refine st_call0 hA rfl rfl rfl isfn49 rfl rfl (by decide) (tport49 hS hO3 g (by omega) hno (x := po) hx1 (by omega)) ?_
 clear hA hS; rintro _ w4 a ⟨O5, hO6, rfl, hS⟩ hA
 refine zR 5 ((4, yN) :: (5, vU po) :: (26, yN) :: (25, vU po) :: (18, .tuple #[vU po, yN]) :: _) hA rfl fun a hA => zn (zx (zs (zs (zr (zR 2 ((28, yF) :: (27, yN) :: _) hA rfl fun a hA => zn (zx (cd_cond_f hA rfl (zk (zx (zs (zr (zR 4 ((33, vP b 9) :: (32, vP b 0) :: (31, vP b 0) :: (30, vU po) :: _) hA rfl fun a hA => zL hA hS 1 rfl rfl rfl rfl rfl rfl rfl rfl rfl fun a hA => ?_))))))))))))
 refine st_call0 hA rfl rfl rfl isfn78 rfl rfl (by decide) (obj_of78 hS po bo) ?_
 clear hA hS; rintro _ w7 a ⟨bt, LT, hT, rfl, hS⟩ hA
 refine zR 1 ((6, vP bt 0) :: _) hA rfl fun a hA => zn (zx (zs (zs (zr (zR 3 ((38, vP b 1) :: (37, vP b 0) :: (36, vP b 0) :: _) hA rfl fun a hA => zL hA hS 2 rfl rfl rfl rfl rfl rfl rfl rfl rfl fun a hA => zn (zx (zb (zs (zr (zR 2 ((52, yF) :: (53, yF) :: _) hA rfl fun a hA => zn (zx (cd_cond_f hA rfl (zs (zr (zR 2 ((71, yT) :: (72, yT) :: _) hA rfl fun a hA => zn (zx (cd_cond_t hA rfl (zr (zR 6 ((79, vP b 9) :: (78, vP b 0) :: (77, vP b 0) :: (76, vP bt 0) :: (75, vP b 0) :: (74, vP b 0) :: _) hA rfl fun a hA => zL hA hS 2 rfl rfl rfl rfl rfl rfl rfl rfl rfl fun a hA => ?_)))))))))))))))))))
 replace hS := hS.m1.m1
 refine st_call0 hA rfl rfl rfl isfn80 rfl rfl (by decide) (dir_of80 hS hT hO6 (x := x) hx2) ?_
 clear hA hS; rintro _ w8 a ⟨bs, LV, O9, rfl, hO9, hS⟩ hA
 refine zR 6 ((86, vP b 19) :: (85, vP b 0) :: (84, yN) :: (83, .agg #[vU po, yW, .int .u8 255, vU x]) :: (82, vP bs 0) :: (73, .tuple #[vP bs 0, .agg #[vU po, yW, .int .u8 255, vU x], yN]) :: _) hA rfl fun a hA => ?_
 replace hS := hS.m2
 refine st_store tbOk hA hS [vP bs 0] [vI s.id, .int .i64 2, vI s.no, vI s.pc, vI s.wa, vI s.tr, vI s.ag, vI s.pg, vI s.ro, vP bo 0, yF, vI s.now, vU s.sent, vU rp, yU, yU, yW, yB, yU, vP bs 0, .pointer none, .pointer none, .pointer none, .pointer none, .pointer none, .map none] rfl rfl rfl rfl rfl rfl (by intro u hu; rw [List.mem_singleton.1 hu]; rfl) (zle rfl) rfl rfl rfl fun w9 hS => ?_
 refine zR 2 ((88, vP b 15) :: (87, vP b 0) :: _) hA rfl fun a hA => ?_
 refine st_store tbOk hA hS [vU po, yW, .int .u8 255, vU x] [vI s.id, .int .i64 2, vI s.no, vI s.pc, vI s.wa, vI s.tr, vI s.ag, vI s.pg, vI s.ro, vP bo 0, yF, vI s.now, vU s.sent, vU rp, yU, vU po, yW, .int .u8 255, vU x, vP bs 0, .pointer none, .pointer none, .pointer none, .pointer none, .pointer none, .map none] rfl rfl rfl rfl rfl rfl (zn1 rfl) (zle rfl) rfl rfl rfl fun w10 hS => ?_
 refine zR 1 ((4, yN) :: _) hA rfl fun a hA => zn (zm (zx (zs (zs (zr (zR 2 ((90, yT) :: (89, yN) :: _) hA rfl fun a hA => zn (zx (cd_cond_t hA rfl (zr (zR 4 ((94, vP b 14) :: (93, vP b 0) :: (92, vU po) :: (91, vP b 0) :: _) hA rfl fun a hA => ?_))))))))))
 refine st_store tbOk hA hS [vU po] [vI s.id, .int .i64 2, vI s.no, vI s.pc, vI s.wa, vI s.tr, vI s.ag, vI s.pg, vI s.ro, vP bo 0, yF, vI s.now, vU s.sent, vU rp, vU po, vU po, yW, .int .u8 255, vU x, vP bs 0, .pointer none, .pointer none, .pointer none, .pointer none, .pointer none, .map none] rfl rfl rfl rfl rfl rfl (by intro u hu; rw [List.mem_singleton.1 hu]; rfl) (zle rfl) rfl rfl rfl fun w11 hS => ?_
 refine zn (zx (zs (zr (zR 2 ((2, yN) :: (95, yN) :: _) hA rfl fun a hA => zn (zx ?_)))))
 refine wp_ret ?_
 refine ret1 (fn := Tryz.f50) hA rfl rfl ?_
 replace hS := hS.m2.m2.m2
 exact ⟨_, _, O9, ⟨bs, rfl⟩, hO9, rfl, hS⟩
set_option maxHeartbeats 4000000 in
theorem nserve3_50 {w0 w : World} {F : List Chunk} {b bo rp g po x : Nat} {s : NC} {D : Chunk} {O : Chunk} {en : List (Nat × Nat × Nat)} {ts : List Nat} {k : Nat} (hS : St w0 w ([(b, rowO [vI s.id, .int .i64 3, vI s.no, vI s.pc, vI s.wa, vI s.tr, vI s.ag, vI s.pg, vI s.ro, vP bo 0, yF, vI s.now, vU s.sent, vU rp, yU, yU, yW, yB, yU, .pointer none, .pointer none, .pointer none, .pointer none, .pointer none, .pointer none, .map none] 121)] :: O :: F)) (hO : ORR bo en ts k O) (hx0 : ts[k]? = some g) (hx1 : ts[k + 1]? = some po) (hx2 : ts[k + 1 + 1]? = some x) (hg : g < 281474976710656) (hno : ∀ x ∈ en, ¬ (x.1 = 0 ∧ x.2.1 = g % 281474976710656)) (hel : en.length ≤ 1000) :
 Ret Tryz.prog 50 #[vP b 0] w (fun v w' => ∃ sv LV O', SVO w0 bo po (.file [(true, x, 0, -1, 24)] [] 0 0) sv LV D ∧ ORR bo (en ++ [(0, g % 281474976710656, po)]) ts (k + 1 + 1 + 1) O' ∧ v = yN ∧ St w0 w' ([(b, rowO [vI s.id, .int .i64 3, vI s.no, vI s.pc, vI s.wa, vI s.tr, vI s.ag, vI s.pg, vI s.ro, vP bo 0, yF, vI s.now, vU s.sent, vU rp, vU po, vU po, yW, .int .u8 255, vU x, sv, .pointer none, .pointer none, .pointer none, .pointer none, .pointer none, .map none] 121)] :: LV :: O' :: F)) := by
 refine enter (vs := [vP b 0]) 96 Tryz.func50 rfl rfl (by simp) ?_; intro a hA
 refine zs (zr (zR 1 ((2, yN) :: _) hA rfl fun a hA => zn (zx (zs (zr (zR 3 ((10, vP b 9) :: (9, vP b 0) :: (8, vP b 0) :: _) hA rfl fun a hA => zL hA hS 0 rfl rfl rfl rfl rfl rfl rfl rfl rfl fun a hA => ?_))))))
 replace hS := hS.m1
 refine st_call0 hA rfl rfl rfl isfn48 rfl rfl (by decide) (odraw48 hS hO (x := g) hx0) ?_
 clear hA hS; rintro _ w1 a ⟨O2, hO3, rfl, hS⟩ hA
 refine zR 5 ((4, yN) :: (3, vU g) :: (14, yN) :: (13, vU g) :: (7, .tuple #[vU g, yN]) :: _) hA rfl fun a hA => zn (zx (zs (zs (zr (zR 2 ((16, yF) :: (15, yN) :: _) hA rfl fun a hA => zn (zx (cd_cond_f hA rfl (zk (zx (zs (zr (zR 3 ((21, vP b 9) :: (20, vP b 0) :: (19, vP b 0) :: _) hA rfl fun a hA => zL hA hS 1 rfl rfl rfl rfl rfl rfl rfl rfl rfl fun a hA => zR 1 ((23, vU g) :: _) hA rfl fun a hA => ?_))))))))))))
 refine st_call0 hA rfl rfl rfl isfn49 rfl rfl (by decide) (tport49 hS hO3 g (by omega) hno (x := po) hx1 (by omega)) ?_
 clear hA hS; rintro _ w4 a ⟨O5, hO6, rfl, hS⟩ hA
 refine zR 5 ((4, yN) :: (5, vU po) :: (26, yN) :: (25, vU po) :: (18, .tuple #[vU po, yN]) :: _) hA rfl fun a hA => zn (zx (zs (zs (zr (zR 2 ((28, yF) :: (27, yN) :: _) hA rfl fun a hA => zn (zx (cd_cond_f hA rfl (zk (zx (zs (zr (zR 4 ((33, vP b 9) :: (32, vP b 0) :: (31, vP b 0) :: (30, vU po) :: _) hA rfl fun a hA => zL hA hS 1 rfl rfl rfl rfl rfl rfl rfl rfl rfl fun a hA => ?_))))))))))))
 refine st_call0 hA rfl rfl rfl isfn78 rfl rfl (by decide) (obj_of78 hS po bo) ?_
 clear hA hS; rintro _ w7 a ⟨bt, LT, hT, rfl, hS⟩ hA
 refine zR 1 ((6, vP bt 0) :: _) hA rfl fun a hA => zn (zx (zs (zs (zr (zR 3 ((38, vP b 1) :: (37, vP b 0) :: (36, vP b 0) :: _) hA rfl fun a hA => zL hA hS 2 rfl rfl rfl rfl rfl rfl rfl rfl rfl fun a hA => zn (zx (zb (zs (zr (zR 2 ((52, yF) :: (53, yF) :: _) hA rfl fun a hA => zn (zx (cd_cond_f hA rfl (zs (zr (zR 2 ((71, yF) :: (72, yF) :: _) hA rfl fun a hA => zn (zx (cd_cond_f hA rfl (zr (zR 3 ((43, vP bt 0) :: (42, vP b 0) :: (41, vP b 0) :: _) hA rfl fun a hA => ?_)))))))))))))))))))
 replace hS := hS.m1.m1
 refine st_call0 hA rfl rfl rfl isfn81 rfl rfl (by decide) (file_of81 (D := D) hS hT hO6 (x := x) hx2) ?_
 clear hA hS; rintro _ w8 a ⟨bs, bf, LV0, O9, hV, hO9, rfl, hS⟩ hA
 refine zR 6 ((49, vP b 19) :: (48, vP b 0) :: (47, yN) :: (46, .agg #[vU po, yW, .int .u8 255, vU x]) :: (45, vP bs 0) :: (40, .tuple #[vP bs 0, .agg #[vU po, yW, .int .u8 255, vU x], yN]) :: _) hA rfl fun a hA => ?_
 replace hS := hS.m2
 refine st_store tbOk hA hS [vP bs 0] [vI s.id, .int .i64 3, vI s.no, vI s.pc, vI s.wa, vI s.tr, vI s.ag, vI s.pg, vI s.ro, vP bo 0, yF, vI s.now, vU s.sent, vU rp, yU, yU, yW, yB, yU, vP bs 0, .pointer none, .pointer none, .pointer none, .pointer none, .pointer none, .map none] rfl rfl rfl rfl rfl rfl (by intro u hu; rw [List.mem_singleton.1 hu]; rfl) (zle rfl) rfl rfl rfl fun w9 hS => ?_
 refine zR 2 ((51, vP b 15) :: (50, vP b 0) :: _) hA rfl fun a hA => ?_
 refine st_store tbOk hA hS [vU po, yW, .int .u8 255, vU x] [vI s.id, .int .i64 3, vI s.no, vI s.pc, vI s.wa, vI s.tr, vI s.ag, vI s.pg, vI s.ro, vP bo 0, yF, vI s.now, vU s.sent, vU rp, yU, vU po, yW, .int .u8 255, vU x, vP bs 0, .pointer none, .pointer none, .pointer none, .pointer none, .pointer none, .map none] rfl rfl rfl rfl rfl rfl (zn1 rfl) (zle rfl) rfl rfl rfl fun w10 hS => ?_
 refine zR 1 ((4, yN) :: _) hA rfl fun a hA => zn (zm (zx (zs (zs (zr (zR 2 ((90, yT) :: (89, yN) :: _) hA rfl fun a hA => zn (zx (cd_cond_t hA rfl (zr (zR 4 ((94, vP b 14) :: (93, vP b 0) :: (92, vU po) :: (91, vP b 0) :: _) hA rfl fun a hA => ?_))))))))))
 refine st_store tbOk hA hS [vU po] [vI s.id, .int .i64 3, vI s.no, vI s.pc, vI s.wa, vI s.tr, vI s.ag, vI s.pg, vI s.ro, vP bo 0, yF, vI s.now, vU s.sent, vU rp, vU po, vU po, yW, .int .u8 255, vU x, vP bs 0, .pointer none, .pointer none, .pointer none, .pointer none, .pointer none, .map none] rfl rfl rfl rfl rfl rfl (by intro u hu; rw [List.mem_singleton.1 hu]; rfl) (zle rfl) rfl rfl rfl fun w11 hS => ?_
 refine zn (zx (zs (zr (zR 2 ((2, yN) :: (95, yN) :: _) hA rfl fun a hA => zn (zx ?_)))))
 refine wp_ret ?_
 refine ret1 (fn := Tryz.f50) hA rfl rfl ?_
 replace hS := hS.m2.m2.m2
 exact ⟨_, _, O9, ⟨bs, rfl, ⟨bf, bt, LV0, hV, rfl⟩⟩, hO9, rfl, hS⟩
end Go.Proofs.YthiakdmhpfkjbaaGreatDoor

set_option linter.unusedVariables false
set_option linter.unusedSimpArgs false
set_option maxRecDepth 4000
namespace Go.Proofs.YthiakdmhpfkjbaaGreatDoor
open Go Go.SK
theorem DX.bot {w0 : World} {D : Chunk} : DX w0 [] D := fun w' h => h.drop1.nil
theorem max1 {n : Nat} (h : 1 ≤ n) : (if ((n : Nat) : Int) > 1 then ((n : Nat) : Int) else 1) = ((n : Nat) : Int) := by split <;> omega
end Go.Proofs.YthiakdmhpfkjbaaGreatDoor

set_option linter.unusedVariables false
set_option linter.unusedSimpArgs false
set_option maxRecDepth 4000
namespace Go.Proofs.YthiakdmhpfkjbaaGreatDoor
open Go Go.SK
set_option maxHeartbeats 8000000 in
theorem nbootX_29 {w0 w : World} {F : List Chunk} {b bo : Nat} {s : NC} {D : Chunk} {kn pn : Nat} {O : Chunk} {en : List (Nat × Nat × Nat)} {ts : List Nat} {k : Nat} (hS : St w0 w ([(b, rowO [vI s.id, vI kn, vI s.no, vI s.pc, vI s.wa, vI s.tr, vI s.ag, vI pn, vI s.ro, vP bo 0, yF, vI s.now, vU s.sent, yU, yU, yU, yW, yB, yU, .pointer none, .pointer none, .pointer none, .pointer none, .pointer none, .pointer none, .map none] 121)] :: O :: F)) (hO : ORR bo en ts k O) {g rp : Nat} (hx0 : ts[k]? = some g) (hx1 : ts[k + 1]? = some rp) (hg : g < 281474976710656) (hno : ∀ x ∈ en, ¬ (x.1 = 0 ∧ x.2.1 = g % 281474976710656)) (hel : en.length ≤ 900) (hwa : 1 ≤ s.wa) (htr : 1 ≤ s.tr) (hag : 1 ≤ s.ag) (hro : s.ro ≤ 64) {po r0 r1 r2 r3 k2 : Nat} {en2 : List (Nat × Nat × Nat)} {srv : Srv} (h0 : kn = 0 → en2 = en ++ [(0, g % 281474976710656, rp)] ∧ k2 = k + 1 + 1 ∧ po = 0 ∧ r0 = 0 ∧ r1 = 0 ∧ r2 = 0 ∧ r3 = 0 ∧ srv = .none) (hsrv : ¬ kn = 0 → ∀ (w : World) (O : Chunk), St w0 w ([(b, rowO [vI s.id, vI kn, vI s.no, vI s.pc, vI s.wa, vI s.tr, vI s.ag, vI pn, vI s.ro, vP bo 0, yF, vI s.now, vU s.sent, vU rp, yU, yU, yW, yB, yU, .pointer none, .pointer none, .pointer none, .pointer none, .pointer none, .pointer none, .map none] 121)] :: O :: F) → ORR bo (en ++ [(0, g % 281474976710656, rp)]) ts (k + 1 + 1) O → Ret Tryz.prog 50 #[vP b 0] w (fun v w' => ∃ sv LV O', SVO w0 bo po srv sv LV D ∧ ORR bo en2 ts k2 O' ∧ v = yN ∧ St w0 w' ([(b, rowO [vI s.id, vI kn, vI s.no, vI s.pc, vI s.wa, vI s.tr, vI s.ag, vI pn, vI s.ro, vP bo 0, yF, vI s.now, vU s.sent, vU rp, vU po, vU r0, vW r1, vB r2, vU r3, sv, .pointer none, .pointer none, .pointer none, .pointer none, .pointer none, .map none] 121)] :: LV :: O' :: F)))  :
 Ret Tryz.prog 29 #[vP b 0] w (fun v w' => ∃ L' O', NUP w0 b bo ⟨⟨s.id, kn, s.no, s.pc, s.wa, s.tr, s.ag, pn, s.ro, s.now, s.sent, rp, po, r0, r1, r2, r3⟩, [], [], [], [], [], [], []⟩ srv L' D ∧ ORR bo (en2) ts (k2) O' ∧ v = yN ∧ St w0 w' (L' :: O' :: F)) := by
 refine enter (vs := [vP b 0]) 109 Tryz.func29 rfl rfl (by simp) ?_; intro a hA
 refine zs (zr (zR 1 ((2, yN) :: _) hA rfl fun a hA => zn (zx (zs (zs (zr (zR 3 ((9, vP b 10) :: (8, vP b 0) :: (7, vP b 0) :: _) hA rfl fun a hA => zL hA hS 0 rfl rfl rfl rfl rfl rfl rfl rfl rfl fun a hA => zn (zx (cd_cond_f hA rfl (zk (zx (zs (zr (zR 3 ((15, vP b 9) :: (14, vP b 0) :: (13, vP b 0) :: _) hA rfl fun a hA => zL hA hS 0 rfl rfl rfl rfl rfl rfl rfl rfl rfl fun a hA => ?_))))))))))))))
 replace hS := hS.m1
 refine st_call0 hA rfl rfl rfl isfn48 rfl rfl (by decide) (odraw48 hS hO (x := g) hx0) ?_
 clear hA hS; rintro _ w1 a ⟨O2, hO3, rfl, hS⟩ hA
 refine zR 5 ((4, yN) :: (3, vU g) :: (19, yN) :: (18, vU g) :: (12, .tuple #[vU g, yN]) :: _) hA rfl fun a hA => zn (zx (zs (zs (zr (zR 2 ((21, yF) :: (20, yN) :: _) hA rfl fun a hA => zn (zx (cd_cond_f hA rfl (zk (zx (zs (zr (zR 3 ((26, vP b 9) :: (25, vP b 0) :: (24, vP b 0) :: _) hA rfl fun a hA => zL hA hS 1 rfl rfl rfl rfl rfl rfl rfl rfl rfl fun a hA => zR 1 ((28, vU g) :: _) hA rfl fun a hA => ?_))))))))))))
 refine st_call0 hA rfl rfl rfl isfn49 rfl rfl (by decide) (tport49 hS hO3 g (by omega) hno (x := rp) hx1 (by omega)) ?_
 clear hA hS; rintro _ w4 a ⟨O5, hO6, rfl, hS⟩ hA
 refine zR 5 ((4, yN) :: (5, vU rp) :: (31, yN) :: (30, vU rp) :: (23, .tuple #[vU rp, yN]) :: _) hA rfl fun a hA => zn (zx (zs (zs (zr (zR 2 ((33, yF) :: (32, yN) :: _) hA rfl fun a hA => zn (zx (cd_cond_f hA rfl (zk (zx (zs (zr (zR 8 ((42, vP b 13) :: (41, vP b 0) :: (40, .agg #[yU, yW, yB, yU]) :: (39, vU rp) :: (38, vP b 0) :: (37, vP b 0) :: (36, vP b 0) :: (35, vP b 0) :: _) hA rfl fun a hA => ?_))))))))))))
 replace hS := hS.m1
 refine st_store tbOk hA hS [vU rp] [vI s.id, vI kn, vI s.no, vI s.pc, vI s.wa, vI s.tr, vI s.ag, vI pn, vI s.ro, vP bo 0, yF, vI s.now, vU s.sent, vU rp, yU, yU, yW, yB, yU, .pointer none, .pointer none, .pointer none, .pointer none, .pointer none, .pointer none, .map none] rfl rfl rfl rfl rfl rfl (by intro u hu; rw [List.mem_singleton.1 hu]; rfl) (zle rfl) rfl rfl rfl fun w7 hS => ?_
 refine zR 2 ((44, vP b 14) :: (43, vP b 0) :: _) hA rfl fun a hA => ?_
 refine st_store tbOk hA hS [yU] [vI s.id, vI kn, vI s.no, vI s.pc, vI s.wa, vI s.tr, vI s.ag, vI pn, vI s.ro, vP bo 0, yF, vI s.now, vU s.sent, vU rp, yU, yU, yW, yB, yU, .pointer none, .pointer none, .pointer none, .pointer none, .pointer none, .pointer none, .map none] rfl rfl rfl rfl rfl rfl (by intro u hu; rw [List.mem_singleton.1 hu]; rfl) (zle rfl) rfl rfl rfl fun w8 hS => ?_
 refine zR 2 ((46, vP b 15) :: (45, vP b 0) :: _) hA rfl fun a hA => ?_
 refine st_store tbOk hA hS [yU, yW, yB, yU] [vI s.id, vI kn, vI s.no, vI s.pc, vI s.wa, vI s.tr, vI s.ag, vI pn, vI s.ro, vP bo 0, yF, vI s.now, vU s.sent, vU rp, yU, yU, yW, yB, yU, .pointer none, .pointer none, .pointer none, .pointer none, .pointer none, .pointer none, .map none] rfl rfl rfl rfl rfl rfl (zn1 rfl) (zle rfl) rfl rfl rfl fun w9 hS => ?_
 refine zR 2 ((48, vP b 19) :: (47, vP b 0) :: _) hA rfl fun a hA => ?_
 refine st_store tbOk hA hS [.pointer none] [vI s.id, vI kn, vI s.no, vI s.pc, vI s.wa, vI s.tr, vI s.ag, vI pn, vI s.ro, vP bo 0, yF, vI s.now, vU s.sent, vU rp, yU, yU, yW, yB, yU, .pointer none, .pointer none, .pointer none, .pointer none, .pointer none, .pointer none, .map none] rfl rfl rfl rfl rfl rfl (by intro u hu; rw [List.mem_singleton.1 hu]; rfl) (zle rfl) rfl rfl rfl fun w10 hS => ?_
 refine zn (zx ?_)
 refine wp_seq_join (fun a w => ∃ (sv : Value) (LV : Chunk) (O9 : Chunk), Has a 109 [(0, vP b 0), (5, vU rp)] ∧ St w0 w ([(b, rowO [vI s.id, vI kn, vI s.no, vI s.pc, vI s.wa, vI s.tr, vI s.ag, vI pn, vI s.ro, vP bo 0, yF, vI s.now, vU s.sent, vU rp, vU po, vU r0, vW r1, vB r2, vU r3, sv, .pointer none, .pointer none, .pointer none, .pointer none, .pointer none, .map none] 121)] :: LV :: O9 :: F) ∧ (SVO w0 bo po srv sv LV D) ∧ (ORR bo en2 ts k2 O9)) ?_ ?_
 · refine zs (zr (zR 3 ((51, vP b 1) :: (50, vP b 0) :: (49, vP b 0) :: _) hA rfl fun a hA => zL hA hS 0 rfl rfl rfl rfl rfl rfl rfl rfl rfl fun a hA => zR 1 ((53, .bool (((kn : Nat) : Int) != 0)) :: _) hA rfl fun a hA => zn (zx ?_)))
   by_cases hc11 : ((kn : Nat) : Int) = 0
   · first
     | (exfalso; omega)
     | (replace hA := hA.rw 53 (v' := yF) rfl (vb_ne_f hc11)
        refine cd_cond_f hA rfl (zk (zx ?_))
        obtain ⟨rfl, rfl, rfl, rfl, rfl, rfl, rfl, rfl⟩ := h0 (by omega)
        replace hS := hS.nil
        replace hS := hS.m1
        exact ⟨(.pointer none), ([]), O5, (hA.sel [0, 5] rfl), hS, ⟨rfl, rfl⟩, hO6⟩)
   · first
     | (exfalso; omega)
     | (replace hA := hA.rw 53 (v' := yT) rfl (vb_ne_t hc11)
        refine cd_cond_t hA rfl (zs (zr (zR 1 ((54, vP b 0) :: _) hA rfl fun a hA => ?_)))
        replace hS := hS.m1.m1
        refine st_call0 hA rfl rfl rfl isfn50 rfl rfl (by decide) (hsrv (by omega) _ _ hS hO6) ?_
        clear hA hS; rintro _ w12 a ⟨sv, LV, O9, hV, hO9, rfl, hS⟩ hA
        refine zR 1 ((6, yN) :: _) hA rfl fun a hA => zn (zx (zs (zr (zR 2 ((57, yF) :: (56, yN) :: _) hA rfl fun a hA => zn (zx (cd_cond_f hA rfl (zk (zx ?_))))))))
        exact ⟨sv, LV, O9, (hA.sel [0, 5] rfl), hS, hV, hO9⟩)
 · clear hA hS; rintro a w13 ⟨sv, LV, O9, hA, hS, hV, hO9⟩
   refine wp_seq_join (fun a w => ∃ (bd : Nat) (bg : Nat) (bc : Nat) (LC : Chunk), Has a 109 [(0, vP b 0)] ∧ St w0 w ([(b, rowO [vI s.id, vI kn, vI s.no, vI s.pc, vI s.wa, vI s.tr, vI s.ag, vI pn, vI s.ro, vP bo 0, yF, vI s.now, vU s.sent, vU rp, vU po, vU r0, vW r1, vB r2, vU r3, sv, vP bd 0, vP bg 0, vP bc 0, .pointer none, .pointer none, .map none] 121)] :: [(bd, rowO [yS] 127)] :: [(bg, rowO [yS] 130)] :: LC :: LV :: O9 :: F) ∧ (CR bc ((rp : Nat) : Int) ((s.wa : Nat) : Int) ((s.tr : Nat) : Int) [] LC)) ?_ ?_
   · refine wp_drawM (fun w' => ∃ z1 z2 z3, St w0 w' ([(b, rowO [vI s.id, vI kn, vI s.no, vI s.pc, vI s.wa, vI s.tr, vI s.ag, vI pn, vI s.ro, vP bo 0, yF, vI s.now, vU s.sent, vU rp, vU po, vU r0, vW r1, vB r2, vU r3, sv, z1, z2, z3, .pointer none, .pointer none, .map none] 121)] :: LV :: O9 :: F)) [] [(0, true), (1, true), (2, true), (3, true), (5, true), (7, true), (8, true), (9, true), (10, true), (11, true), (12, true), (13, true), (14, true), (15, true), (16, true), (17, true)] 4 (.N [] 6 (.L [(18, false), (19, true), (20, true), (21, false), (22, true), (23, true), (24, false), (25, true), (26, true), (27, false)]) 18 (.N [(19, true), (20, true)] 6 (.L [(21, false), (22, true), (23, true), (24, false), (25, true), (26, true), (27, false)]) 21 (.L [(6, false), (22, true), (23, true), (24, false), (25, true), (26, true), (27, false)]))) 6 (.N [] 4 (.L [(18, false), (19, true), (20, true), (21, false), (22, true), (23, true), (24, false), (25, true), (26, true), (27, false)]) 18 (.L [(4, false), (19, true), (20, true), (21, false), (22, true), (23, true), (24, false), (25, true), (26, true), (27, false)])) 18 (.N [] 4 (.N [(19, true), (20, true)] 6 (.L [(21, false), (22, true), (23, true), (24, false), (25, true), (26, true), (27, false)]) 21 (.L [(6, false), (22, true), (23, true), (24, false), (25, true), (26, true), (27, false)])) 6 (.L [(4, false), (19, true), (20, true), (21, false), (22, true), (23, true), (24, false), (25, true), (26, true), (27, false)])) mixed (by kernel_rfl) (by rintro c a w ⟨_, _, h, _⟩; cases h) (by rfl) (by kernel_rfl) ?_
     replace hS := hS.drew
     refine dr_run tbOk 10 hA ⟨_, _, _, hS⟩ (e' := (70, vP b 4) :: (69, vP b 2) :: (68, vP b 0) :: (67, vP b 0) :: (66, vU rp) :: (64, .agg #[yS]) :: (62, .agg #[yS]) :: (61, vP b 0) :: (60, vP b 0) :: (59, vP b 0) :: _) rfl fun a hA => dr_y hA rfl rfl rfl (by decide) ⟨_, _, _, hS⟩ (fun w' ⟨z1, z2, z3, hS'⟩ => rn_load tbOk hA rfl rfl rfl rfl (cell_row (hS'.heapAt 0 rfl) rfl)) fun a hA => dr_run tbOk 4 hA ⟨_, _, _, hS⟩ (e' := (75, vP b 5) :: (74, vP b 2) :: (73, vP b 0) :: (72, vP b 0) :: _) rfl fun a hA => dr_y hA rfl rfl rfl (by decide) ⟨_, _, _, hS⟩ (fun w' ⟨z1, z2, z3, hS'⟩ => rn_load tbOk hA rfl rfl rfl rfl (cell_row (hS'.heapAt 0 rfl) rfl)) fun a hA => ?_
     refine dr_fork3 ?_ ?_ ?_
     · refine dr_b (o := _) rfl ?_
       refine st_box hA hS [yS] rfl rfl rfl rfl rfl (by decide) fun b14 w15 a hS hA => ?_
       refine dr_nil (.inr ⟨_, _, _, (hS.tail 1 rfl)⟩) ?_
       refine dr_subN ?_
       refine dr_fork ?_ ?_
       · refine dr_b (o := _) rfl ?_
         refine st_box hA hS [yS] rfl rfl rfl rfl rfl (by decide) fun b16 w17 a hS hA => ?_
         refine dr_nil (.inr ⟨_, _, _, (hS.tail 2 rfl)⟩) ?_
         refine dr_subL ?_
         refine dr_b (o := _) rfl ?_
         refine st_call0 hA rfl rfl rfl isfn51 rfl rfl (by decide) (cof51 hS _ _ _) ?_
         clear hA hS; rintro _ w18 a ⟨bc19, LC20, hc21, rfl, hS⟩ hA; rw [max1 hwa, max1 htr] at hc21
         refine dr_nil (.inr ⟨_, _, _, (hS.tail 3 rfl)⟩) (dr_run tbOk 2 hA ⟨_, _, _, (hS.tail 3 rfl)⟩ (e' := (79, vP b 20) :: (78, vP b 0) :: _) rfl fun a hA => dr_b (o := _) rfl ?_)
         replace hS := hS.m3
         refine st_store tbOk hA hS [vP b14 0] [vI s.id, vI kn, vI s.no, vI s.pc, vI s.wa, vI s.tr, vI s.ag, vI pn, vI s.ro, vP bo 0, yF, vI s.now, vU s.sent, vU rp, vU po, vU r0, vW r1, vB r2, vU r3, sv, vP b14 0, .pointer none, .pointer none, .pointer none, .pointer none, .map none] rfl rfl rfl rfl rfl rfl (by intro u hu; rw [List.mem_singleton.1 hu]; rfl) (zle rfl) rfl rfl rfl fun w22 hS => ?_
         replace hS := hS.m3.m3.m3
         refine dr_nil (.inr ⟨_, _, _, (hS.tail 3 rfl)⟩) (dr_run tbOk 2 hA ⟨_, _, _, (hS.tail 3 rfl)⟩ (e' := (81, vP b 21) :: (80, vP b 0) :: _) rfl fun a hA => dr_b (o := _) rfl ?_)
         replace hS := hS.m3
         refine st_store tbOk hA hS [vP b16 0] [vI s.id, vI kn, vI s.no, vI s.pc, vI s.wa, vI s.tr, vI s.ag, vI pn, vI s.ro, vP bo 0, yF, vI s.now, vU s.sent, vU rp, vU po, vU r0, vW r1, vB r2, vU r3, sv, vP b14 0, vP b16 0, .pointer none, .pointer none, .pointer none, .map none] rfl rfl rfl rfl rfl rfl (by intro u hu; rw [List.mem_singleton.1 hu]; rfl) (zle rfl) rfl rfl rfl fun w23 hS => ?_
         replace hS := hS.m3.m3.m3
         refine dr_nil (.inr ⟨_, _, _, (hS.tail 3 rfl)⟩) (dr_run tbOk 2 hA ⟨_, _, _, (hS.tail 3 rfl)⟩ (e' := (83, vP b 22) :: (82, vP b 0) :: _) rfl fun a hA => dr_b (o := _) rfl ?_)
         replace hS := hS.m3
         refine st_store tbOk hA hS [vP bc19 0] [vI s.id, vI kn, vI s.no, vI s.pc, vI s.wa, vI s.tr, vI s.ag, vI pn, vI s.ro, vP bo 0, yF, vI s.now, vU s.sent, vU rp, vU po, vU r0, vW r1, vB r2, vU r3, sv, vP b14 0, vP b16 0, vP bc19 0, .pointer none, .pointer none, .map none] rfl rfl rfl rfl rfl rfl (by intro u hu; rw [List.mem_singleton.1 hu]; rfl) (zle rfl) rfl rfl rfl fun w24 hS => ?_
         replace hS := hS.m3.m3.m3
         refine dr_nil (.inr ⟨_, _, _, (hS.tail 3 rfl)⟩) (ze (zx ?_))
         replace hS := hS.m1.m2.m3
         exact ⟨b14, b16, bc19, LC20, (hA.sel [0] rfl), hS, hc21⟩
       · refine dr_b (o := _) rfl ?_
         refine st_call0 hA rfl rfl rfl isfn51 rfl rfl (by decide) (cof51 hS _ _ _) ?_
         clear hA hS; rintro _ w25 a ⟨bc26, LC27, hc28, rfl, hS⟩ hA; rw [max1 hwa, max1 htr] at hc28
         refine dr_nil (.inr ⟨_, _, _, (hS.tail 2 rfl)⟩) ?_
         refine dr_subN ?_
         refine dr_run tbOk 2 hA ⟨_, _, _, (hS.tail 2 rfl)⟩ (e' := (79, vP b 20) :: (78, vP b 0) :: _) rfl fun a hA => ?_
         refine dr_fork ?_ ?_
         · refine dr_b (o := _) rfl ?_
           refine st_box hA hS [yS] rfl rfl rfl rfl rfl (by decide) fun b29 w30 a hS hA => ?_
           refine dr_nil (.inr ⟨_, _, _, (hS.tail 3 rfl)⟩) ?_
           refine dr_subL ?_
           refine dr_b (o := _) rfl ?_
           replace hS := hS.m3
           refine st_store tbOk hA hS [vP b14 0] [vI s.id, vI kn, vI s.no, vI s.pc, vI s.wa, vI s.tr, vI s.ag, vI pn, vI s.ro, vP bo 0, yF, vI s.now, vU s.sent, vU rp, vU po, vU r0, vW r1, vB r2, vU r3, sv, vP b14 0, .pointer none, .pointer none, .pointer none, .pointer none, .map none] rfl rfl rfl rfl rfl rfl (by intro u hu; rw [List.mem_singleton.1 hu]; rfl) (zle rfl) rfl rfl rfl fun w31 hS => ?_
           replace hS := hS.m3.m3.m3
           refine dr_nil (.inr ⟨_, _, _, (hS.tail 3 rfl)⟩) (dr_run tbOk 2 hA ⟨_, _, _, (hS.tail 3 rfl)⟩ (e' := (81, vP b 21) :: (80, vP b 0) :: _) rfl fun a hA => dr_b (o := _) rfl ?_)
           replace hS := hS.m3
           refine st_store tbOk hA hS [vP b29 0] [vI s.id, vI kn, vI s.no, vI s.pc, vI s.wa, vI s.tr, vI s.ag, vI pn, vI s.ro, vP bo 0, yF, vI s.now, vU s.sent, vU rp, vU po, vU r0, vW r1, vB r2, vU r3, sv, vP b14 0, vP b29 0, .pointer none, .pointer none, .pointer none, .map none] rfl rfl rfl rfl rfl rfl (by intro u hu; rw [List.mem_singleton.1 hu]; rfl) (zle rfl) rfl rfl rfl fun w32 hS => ?_
           replace hS := hS.m3.m3.m3
           refine dr_nil (.inr ⟨_, _, _, (hS.tail 3 rfl)⟩) (dr_run tbOk 2 hA ⟨_, _, _, (hS.tail 3 rfl)⟩ (e' := (83, vP b 22) :: (82, vP b 0) :: _) rfl fun a hA => dr_b (o := _) rfl ?_)
           replace hS := hS.m3
           refine st_store tbOk hA hS [vP bc26 0] [vI s.id, vI kn, vI s.no, vI s.pc, vI s.wa, vI s.tr, vI s.ag, vI pn, vI s.ro, vP bo 0, yF, vI s.now, vU s.sent, vU rp, vU po, vU r0, vW r1, vB r2, vU r3, sv, vP b14 0, vP b29 0, vP bc26 0, .pointer none, .pointer none, .map none] rfl rfl rfl rfl rfl rfl (by intro u hu; rw [List.mem_singleton.1 hu]; rfl) (zle rfl) rfl rfl rfl fun w33 hS => ?_
           replace hS := hS.m3.m3.m3
           refine dr_nil (.inr ⟨_, _, _, (hS.tail 3 rfl)⟩) (ze (zx ?_))
           replace hS := hS.m2.m3
           exact ⟨b14, b29, bc26, LC27, (hA.sel [0] rfl), hS, hc28⟩
         · refine dr_b (o := _) rfl ?_
           replace hS := hS.m2
           refine st_store tbOk hA hS [vP b14 0] [vI s.id, vI kn, vI s.no, vI s.pc, vI s.wa, vI s.tr, vI s.ag, vI pn, vI s.ro, vP bo 0, yF, vI s.now, vU s.sent, vU rp, vU po, vU r0, vW r1, vB r2, vU r3, sv, vP b14 0, .pointer none, .pointer none, .pointer none, .pointer none, .map none] rfl rfl rfl rfl rfl rfl (by intro u hu; rw [List.mem_singleton.1 hu]; rfl) (zle rfl) rfl rfl rfl fun w34 hS => ?_
           replace hS := hS.m2.m2
           refine dr_nil (.inr ⟨_, _, _, (hS.tail 2 rfl)⟩) ?_
           refine dr_subL ?_
           refine dr_b (o := _) rfl ?_
           refine st_box hA hS [yS] rfl rfl rfl rfl rfl (by decide) fun b35 w36 a hS hA => ?_
           refine dr_nil (.inr ⟨_, _, _, (hS.tail 3 rfl)⟩) (dr_run tbOk 2 hA ⟨_, _, _, (hS.tail 3 rfl)⟩ (e' := (81, vP b 21) :: (80, vP b 0) :: _) rfl fun a hA => dr_b (o := _) rfl ?_)
           replace hS := hS.m3
           refine st_store tbOk hA hS [vP b35 0] [vI s.id, vI kn, vI s.no, vI s.pc, vI s.wa, vI s.tr, vI s.ag, vI pn, vI s.ro, vP bo 0, yF, vI s.now, vU s.sent, vU rp, vU po, vU r0, vW r1, vB r2, vU r3, sv, vP b14 0, vP b35 0, .pointer none, .pointer none, .pointer none, .map none] rfl rfl rfl rfl rfl rfl (by intro u hu; rw [List.mem_singleton.1 hu]; rfl) (zle rfl) rfl rfl rfl fun w37 hS => ?_
           replace hS := hS.m3.m3.m3
           refine dr_nil (.inr ⟨_, _, _, (hS.tail 3 rfl)⟩) (dr_run tbOk 2 hA ⟨_, _, _, (hS.tail 3 rfl)⟩ (e' := (83, vP b 22) :: (82, vP b 0) :: _) rfl fun a hA => dr_b (o := _) rfl ?_)
           replace hS := hS.m3
           refine st_store tbOk hA hS [vP bc26 0] [vI s.id, vI kn, vI s.no, vI s.pc, vI s.wa, vI s.tr, vI s.ag, vI pn, vI s.ro, vP bo 0, yF, vI s.now, vU s.sent, vU rp, vU po, vU r0, vW r1, vB r2, vU r3, sv, vP b14 0, vP b35 0, vP bc26 0, .pointer none, .pointer none, .map none] rfl rfl rfl rfl rfl rfl (by intro u hu; rw [List.mem_singleton.1 hu]; rfl) (zle rfl) rfl rfl rfl fun w38 hS => ?_
           replace hS := hS.m3.m3.m3
           refine dr_nil (.inr ⟨_, _, _, (hS.tail 3 rfl)⟩) (ze (zx ?_))
           replace hS := hS.m2.m3
           exact ⟨b14, b35, bc26, LC27, (hA.sel [0] rfl), hS, hc28⟩
     · refine dr_b (o := _) rfl ?_
       refine st_box hA hS [yS] rfl rfl rfl rfl rfl (by decide) fun b39 w40 a hS hA => ?_
       refine dr_nil (.inr ⟨_, _, _, (hS.tail 1 rfl)⟩) ?_
       refine dr_subN ?_
       refine dr_fork ?_ ?_
       · refine dr_b (o := _) rfl ?_
         refine st_box hA hS [yS] rfl rfl rfl rfl rfl (by decide) fun b41 w42 a hS hA => ?_
         refine dr_nil (.inr ⟨_, _, _, (hS.tail 2 rfl)⟩) ?_
         refine dr_subL ?_
         refine dr_b (o := _) rfl ?_
         refine st_call0 hA rfl rfl rfl isfn51 rfl rfl (by decide) (cof51 hS _ _ _) ?_
         clear hA hS; rintro _ w43 a ⟨bc44, LC45, hc46, rfl, hS⟩ hA; rw [max1 hwa, max1 htr] at hc46
         refine dr_nil (.inr ⟨_, _, _, (hS.tail 3 rfl)⟩) (dr_run tbOk 2 hA ⟨_, _, _, (hS.tail 3 rfl)⟩ (e' := (79, vP b 20) :: (78, vP b 0) :: _) rfl fun a hA => dr_b (o := _) rfl ?_)
         replace hS := hS.m3
         refine st_store tbOk hA hS [vP b41 0] [vI s.id, vI kn, vI s.no, vI s.pc, vI s.wa, vI s.tr, vI s.ag, vI pn, vI s.ro, vP bo 0, yF, vI s.now, vU s.sent, vU rp, vU po, vU r0, vW r1, vB r2, vU r3, sv, vP b41 0, .pointer none, .pointer none, .pointer none, .pointer none, .map none] rfl rfl rfl rfl rfl rfl (by intro u hu; rw [List.mem_singleton.1 hu]; rfl) (zle rfl) rfl rfl rfl fun w47 hS => ?_
         replace hS := hS.m3.m3.m3
         refine dr_nil (.inr ⟨_, _, _, (hS.tail 3 rfl)⟩) (dr_run tbOk 2 hA ⟨_, _, _, (hS.tail 3 rfl)⟩ (e' := (81, vP b 21) :: (80, vP b 0) :: _) rfl fun a hA => dr_b (o := _) rfl ?_)
         replace hS := hS.m3
         refine st_store tbOk hA hS [vP b39 0] [vI s.id, vI kn, vI s.no, vI s.pc, vI s.wa, vI s.tr, vI s.ag, vI pn, vI s.ro, vP bo 0, yF, vI s.now, vU s.sent, vU rp, vU po, vU r0, vW r1, vB r2, vU r3, sv, vP b41 0, vP b39 0, .pointer none, .pointer none, .pointer none, .map none] rfl rfl rfl rfl rfl rfl (by intro u hu; rw [List.mem_singleton.1 hu]; rfl) (zle rfl) rfl rfl rfl fun w48 hS => ?_
         replace hS := hS.m3.m3.m3
         refine dr_nil (.inr ⟨_, _, _, (hS.tail 3 rfl)⟩) (dr_run tbOk 2 hA ⟨_, _, _, (hS.tail 3 rfl)⟩ (e' := (83, vP b 22) :: (82, vP b 0) :: _) rfl fun a hA => dr_b (o := _) rfl ?_)
         replace hS := hS.m3
         refine st_store tbOk hA hS [vP bc44 0] [vI s.id, vI kn, vI s.no, vI s.pc, vI s.wa, vI s.tr, vI s.ag, vI pn, vI s.ro, vP bo 0, yF, vI s.now, vU s.sent, vU rp, vU po, vU r0, vW r1, vB r2, vU r3, sv, vP b41 0, vP b39 0, vP bc44 0, .pointer none, .pointer none, .map none] rfl rfl rfl rfl rfl rfl (by intro u hu; rw [List.mem_singleton.1 hu]; rfl) (zle rfl) rfl rfl rfl fun w49 hS => ?_
         replace hS := hS.m3.m3.m3
         refine dr_nil (.inr ⟨_, _, _, (hS.tail 3 rfl)⟩) (ze (zx ?_))
         replace hS := hS.m2.m2.m3
         exact ⟨b41, b39, bc44, LC45, (hA.sel [0] rfl), hS, hc46⟩
       · refine dr_b (o := _) rfl ?_
         refine st_call0 hA rfl rfl rfl isfn51 rfl rfl (by decide) (cof51 hS _ _ _) ?_
         clear hA hS; rintro _ w50 a ⟨bc51, LC52, hc53, rfl, hS⟩ hA; rw [max1 hwa, max1 htr] at hc53
         refine dr_nil (.inr ⟨_, _, _, (hS.tail 2 rfl)⟩) ?_
         refine dr_subL ?_
         refine dr_b (o := _) rfl ?_
         refine st_box hA hS [yS] rfl rfl rfl rfl rfl (by decide) fun b54 w55 a hS hA => ?_
         refine dr_nil (.inr ⟨_, _, _, (hS.tail 3 rfl)⟩) (dr_run tbOk 2 hA ⟨_, _, _, (hS.tail 3 rfl)⟩ (e' := (79, vP b 20) :: (78, vP b 0) :: _) rfl fun a hA => dr_b (o := _) rfl ?_)
         replace hS := hS.m3
         refine st_store tbOk hA hS [vP b54 0] [vI s.id, vI kn, vI s.no, vI s.pc, vI s.wa, vI s.tr, vI s.ag, vI pn, vI s.ro, vP bo 0, yF, vI s.now, vU s.sent, vU rp, vU po, vU r0, vW r1, vB r2, vU r3, sv, vP b54 0, .pointer none, .pointer none, .pointer none, .pointer none, .map none] rfl rfl rfl rfl rfl rfl (by intro u hu; rw [List.mem_singleton.1 hu]; rfl) (zle rfl) rfl rfl rfl fun w56 hS => ?_
         replace hS := hS.m3.m3.m3
         refine dr_nil (.inr ⟨_, _, _, (hS.tail 3 rfl)⟩) (dr_run tbOk 2 hA ⟨_, _, _, (hS.tail 3 rfl)⟩ (e' := (81, vP b 21) :: (80, vP b 0) :: _) rfl fun a hA => dr_b (o := _) rfl ?_)
         replace hS := hS.m3
         refine st_store tbOk hA hS [vP b39 0] [vI s.id, vI kn, vI s.no, vI s.pc, vI s.wa, vI s.tr, vI s.ag, vI pn, vI s.ro, vP bo 0, yF, vI s.now, vU s.sent, vU rp, vU po, vU r0, vW r1, vB r2, vU r3, sv, vP b54 0, vP b39 0, .pointer none, .pointer none, .pointer none, .map none] rfl rfl rfl rfl rfl rfl (by intro u hu; rw [List.mem_singleton.1 hu]; rfl) (zle rfl) rfl rfl rfl fun w57 hS => ?_
         replace hS := hS.m3.m3.m3
         refine dr_nil (.inr ⟨_, _, _, (hS.tail 3 rfl)⟩) (dr_run tbOk 2 hA ⟨_, _, _, (hS.tail 3 rfl)⟩ (e' := (83, vP b 22) :: (82, vP b 0) :: _) rfl fun a hA => dr_b (o := _) rfl ?_)
         replace hS := hS.m3
         refine st_store tbOk hA hS [vP bc51 0] [vI s.id, vI kn, vI s.no, vI s.pc, vI s.wa, vI s.tr, vI s.ag, vI pn, vI s.ro, vP bo 0, yF, vI s.now, vU s.sent, vU rp, vU po, vU r0, vW r1, vB r2, vU r3, sv, vP b54 0, vP b39 0, vP bc51 0, .pointer none, .pointer none, .map none] rfl rfl rfl rfl rfl rfl (by intro u hu; rw [List.mem_singleton.1 hu]; rfl) (zle rfl) rfl rfl rfl fun w58 hS => ?_
         replace hS := hS.m3.m3.m3
         refine dr_nil (.inr ⟨_, _, _, (hS.tail 3 rfl)⟩) (ze (zx ?_))
         replace hS := hS.m2.m1.m3
         exact ⟨b54, b39, bc51, LC52, (hA.sel [0] rfl), hS, hc53⟩
     · refine dr_b (o := _) rfl ?_
       refine st_call0 hA rfl rfl rfl isfn51 rfl rfl (by decide) (cof51 hS _ _ _) ?_
       clear hA hS; rintro _ w59 a ⟨bc60, LC61, hc62, rfl, hS⟩ hA; rw [max1 hwa, max1 htr] at hc62
       refine dr_nil (.inr ⟨_, _, _, (hS.tail 1 rfl)⟩) ?_
       refine dr_subN ?_
       refine dr_fork ?_ ?_
       · refine dr_b (o := _) rfl ?_
         refine st_box hA hS [yS] rfl rfl rfl rfl rfl (by decide) fun b63 w64 a hS hA => ?_
         refine dr_nil (.inr ⟨_, _, _, (hS.tail 2 rfl)⟩) ?_
         refine dr_subN ?_
         refine dr_run tbOk 2 hA ⟨_, _, _, (hS.tail 2 rfl)⟩ (e' := (79, vP b 20) :: (78, vP b 0) :: _) rfl fun a hA => ?_
         refine dr_fork ?_ ?_
         · refine dr_b (o := _) rfl ?_
           refine st_box hA hS [yS] rfl rfl rfl rfl rfl (by decide) fun b65 w66 a hS hA => ?_
           refine dr_nil (.inr ⟨_, _, _, (hS.tail 3 rfl)⟩) ?_
           refine dr_subL ?_
           refine dr_b (o := _) rfl ?_
           replace hS := hS.m3
           refine st_store tbOk hA hS [vP b63 0] [vI s.id, vI kn, vI s.no, vI s.pc, vI s.wa, vI s.tr, vI s.ag, vI pn, vI s.ro, vP bo 0, yF, vI s.now, vU s.sent, vU rp, vU po, vU r0, vW r1, vB r2, vU r3, sv, vP b63 0, .pointer none, .pointer none, .pointer none, .pointer none, .map none] rfl rfl rfl rfl rfl rfl (by intro u hu; rw [List.mem_singleton.1 hu]; rfl) (zle rfl) rfl rfl rfl fun w67 hS => ?_
           replace hS := hS.m3.m3.m3
           refine dr_nil (.inr ⟨_, _, _, (hS.tail 3 rfl)⟩) (dr_run tbOk 2 hA ⟨_, _, _, (hS.tail 3 rfl)⟩ (e' := (81, vP b 21) :: (80, vP b 0) :: _) rfl fun a hA => dr_b (o := _) rfl ?_)
           replace hS := hS.m3
           refine st_store tbOk hA hS [vP b65 0] [vI s.id, vI kn, vI s.no, vI s.pc, vI s.wa, vI s.tr, vI s.ag, vI pn, vI s.ro, vP bo 0, yF, vI s.now, vU s.sent, vU rp, vU po, vU r0, vW r1, vB r2, vU r3, sv, vP b63 0, vP b65 0, .pointer none, .pointer none, .pointer none, .map none] rfl rfl rfl rfl rfl rfl (by intro u hu; rw [List.mem_singleton.1 hu]; rfl) (zle rfl) rfl rfl rfl fun w68 hS => ?_
           replace hS := hS.m3.m3.m3
           refine dr_nil (.inr ⟨_, _, _, (hS.tail 3 rfl)⟩) (dr_run tbOk 2 hA ⟨_, _, _, (hS.tail 3 rfl)⟩ (e' := (83, vP b 22) :: (82, vP b 0) :: _) rfl fun a hA => dr_b (o := _) rfl ?_)
           replace hS := hS.m3
           refine st_store tbOk hA hS [vP bc60 0] [vI s.id, vI kn, vI s.no, vI s.pc, vI s.wa, vI s.tr, vI s.ag, vI pn, vI s.ro, vP bo 0, yF, vI s.now, vU s.sent, vU rp, vU po, vU r0, vW r1, vB r2, vU r3, sv, vP b63 0, vP b65 0, vP bc60 0, .pointer none, .pointer none, .map none] rfl rfl rfl rfl rfl rfl (by intro u hu; rw [List.mem_singleton.1 hu]; rfl) (zle rfl) rfl rfl rfl fun w69 hS => ?_
           replace hS := hS.m3.m3.m3
           refine dr_nil (.inr ⟨_, _, _, (hS.tail 3 rfl)⟩) (ze (zx ?_))
           replace hS := hS.m1.m3
           exact ⟨b63, b65, bc60, LC61, (hA.sel [0] rfl), hS, hc62⟩
         · refine dr_b (o := _) rfl ?_
           replace hS := hS.m2
           refine st_store tbOk hA hS [vP b63 0] [vI s.id, vI kn, vI s.no, vI s.pc, vI s.wa, vI s.tr, vI s.ag, vI pn, vI s.ro, vP bo 0, yF, vI s.now, vU s.sent, vU rp, vU po, vU r0, vW r1, vB r2, vU r3, sv, vP b63 0, .pointer none, .pointer none, .pointer none, .pointer none, .map none] rfl rfl rfl rfl rfl rfl (by intro u hu; rw [List.mem_singleton.1 hu]; rfl) (zle rfl) rfl rfl rfl fun w70 hS => ?_
           replace hS := hS.m2.m2
           refine dr_nil (.inr ⟨_, _, _, (hS.tail 2 rfl)⟩) ?_
           refine dr_subL ?_
           refine dr_b (o := _) rfl ?_
           refine st_box hA hS [yS] rfl rfl rfl rfl rfl (by decide) fun b71 w72 a hS hA => ?_
           refine dr_nil (.inr ⟨_, _, _, (hS.tail 3 rfl)⟩) (dr_run tbOk 2 hA ⟨_, _, _, (hS.tail 3 rfl)⟩ (e' := (81, vP b 21) :: (80, vP b 0) :: _) rfl fun a hA => dr_b (o := _) rfl ?_)
           replace hS := hS.m3
           refine st_store tbOk hA hS [vP b71 0] [vI s.id, vI kn, vI s.no, vI s.pc, vI s.wa, vI s.tr, vI s.ag, vI pn, vI s.ro, vP bo 0, yF, vI s.now, vU s.sent, vU rp, vU po, vU r0, vW r1, vB r2, vU r3, sv, vP b63 0, vP b71 0, .pointer none, .pointer none, .pointer none, .map none] rfl rfl rfl rfl rfl rfl (by intro u hu; rw [List.mem_singleton.1 hu]; rfl) (zle rfl) rfl rfl rfl fun w73 hS => ?_
           replace hS := hS.m3.m3.m3
           refine dr_nil (.inr ⟨_, _, _, (hS.tail 3 rfl)⟩) (dr_run tbOk 2 hA ⟨_, _, _, (hS.tail 3 rfl)⟩ (e' := (83, vP b 22) :: (82, vP b 0) :: _) rfl fun a hA => dr_b (o := _) rfl ?_)
           replace hS := hS.m3
           refine st_store tbOk hA hS [vP bc60 0] [vI s.id, vI kn, vI s.no, vI s.pc, vI s.wa, vI s.tr, vI s.ag, vI pn, vI s.ro, vP bo 0, yF, vI s.now, vU s.sent, vU rp, vU po, vU r0, vW r1, vB r2, vU r3, sv, vP b63 0, vP b71 0, vP bc60 0, .pointer none, .pointer none, .map none] rfl rfl rfl rfl rfl rfl (by intro u hu; rw [List.mem_singleton.1 hu]; rfl) (zle rfl) rfl rfl rfl fun w74 hS => ?_
           replace hS := hS.m3.m3.m3
           refine dr_nil (.inr ⟨_, _, _, (hS.tail 3 rfl)⟩) (ze (zx ?_))
           replace hS := hS.m1.m3
           exact ⟨b63, b71, bc60, LC61, (hA.sel [0] rfl), hS, hc62⟩
       · refine dr_b (o := _) rfl ?_
         refine st_box hA hS [yS] rfl rfl rfl rfl rfl (by decide) fun b75 w76 a hS hA => ?_
         refine dr_nil (.inr ⟨_, _, _, (hS.tail 2 rfl)⟩) ?_
         refine dr_subL ?_
         refine dr_b (o := _) rfl ?_
         refine st_box hA hS [yS] rfl rfl rfl rfl rfl (by decide) fun b77 w78 a hS hA => ?_
         refine dr_nil (.inr ⟨_, _, _, (hS.tail 3 rfl)⟩) (dr_run tbOk 2 hA ⟨_, _, _, (hS.tail 3 rfl)⟩ (e' := (79, vP b 20) :: (78, vP b 0) :: _) rfl fun a hA => dr_b (o := _) rfl ?_)
         replace hS := hS.m3
         refine st_store tbOk hA hS [vP b77 0] [vI s.id, vI kn, vI s.no, vI s.pc, vI s.wa, vI s.tr, vI s.ag, vI pn, vI s.ro, vP bo 0, yF, vI s.now, vU s.sent, vU rp, vU po, vU r0, vW r1, vB r2, vU r3, sv, vP b77 0, .pointer none, .pointer none, .pointer none, .pointer none, .map none] rfl rfl rfl rfl rfl rfl (by intro u hu; rw [List.mem_singleton.1 hu]; rfl) (zle rfl) rfl rfl rfl fun w79 hS => ?_
         replace hS := hS.m3.m3.m3
         refine dr_nil (.inr ⟨_, _, _, (hS.tail 3 rfl)⟩) (dr_run tbOk 2 hA ⟨_, _, _, (hS.tail 3 rfl)⟩ (e' := (81, vP b 21) :: (80, vP b 0) :: _) rfl fun a hA => dr_b (o := _) rfl ?_)
         replace hS := hS.m3
         refine st_store tbOk hA hS [vP b75 0] [vI s.id, vI kn, vI s.no, vI s.pc, vI s.wa, vI s.tr, vI s.ag, vI pn, vI s.ro, vP bo 0, yF, vI s.now, vU s.sent, vU rp, vU po, vU r0, vW r1, vB r2, vU r3, sv, vP b77 0, vP b75 0, .pointer none, .pointer none, .pointer none, .map none] rfl rfl rfl rfl rfl rfl (by intro u hu; rw [List.mem_singleton.1 hu]; rfl) (zle rfl) rfl rfl rfl fun w80 hS => ?_
         replace hS := hS.m3.m3.m3
         refine dr_nil (.inr ⟨_, _, _, (hS.tail 3 rfl)⟩) (dr_run tbOk 2 hA ⟨_, _, _, (hS.tail 3 rfl)⟩ (e' := (83, vP b 22) :: (82, vP b 0) :: _) rfl fun a hA => dr_b (o := _) rfl ?_)
         replace hS := hS.m3
         refine st_store tbOk hA hS [vP bc60 0] [vI s.id, vI kn, vI s.no, vI s.pc, vI s.wa, vI s.tr, vI s.ag, vI pn, vI s.ro, vP bo 0, yF, vI s.now, vU s.sent, vU rp, vU po, vU r0, vW r1, vB r2, vU r3, sv, vP b77 0, vP b75 0, vP bc60 0, .pointer none, .pointer none, .map none] rfl rfl rfl rfl rfl rfl (by intro u hu; rw [List.mem_singleton.1 hu]; rfl) (zle rfl) rfl rfl rfl fun w81 hS => ?_
         replace hS := hS.m3.m3.m3
         refine dr_nil (.inr ⟨_, _, _, (hS.tail 3 rfl)⟩) (ze (zx ?_))
         replace hS := hS.m3
         exact ⟨b77, b75, bc60, LC61, (hA.sel [0] rfl), hS, hc62⟩
   · clear hA hS; rintro a w82 ⟨bd, bg, bc, LC, hA, hS, hcr⟩
     refine wp_seq_join (fun a w => ∃ (bp : Nat) (bx : Nat) (mp : Nat) (LP : Chunk) (LB : Chunk), Has a 109 [(0, vP b 0)] ∧ St w0 w ([(b, rowO [vI s.id, vI kn, vI s.no, vI s.pc, vI s.wa, vI s.tr, vI s.ag, vI pn, vI s.ro, vP bo 0, yF, vI s.now, vU s.sent, vU rp, vU po, vU r0, vW r1, vB r2, vU r3, sv, vP bd 0, vP bg 0, vP bc 0, vP bp 0, vP bx 0, .map (some mp)] 121)] :: [(bd, rowO [yS] 127)] :: [(bg, rowO [yS] 130)] :: LC :: LP :: LB :: [(mp, .map #[] 0)] :: LV :: O9 :: F) ∧ (PMR bp ((s.ag : Nat) : Int) [] LP) ∧ (BX bx s.ro [] [] LB)) ?_ ?_
     · refine wp_drawN (fun w' => ∃ z1 z2 z3, St w0 w' ([(b, rowO [vI s.id, vI kn, vI s.no, vI s.pc, vI s.wa, vI s.tr, vI s.ag, vI pn, vI s.ro, vP bo 0, yF, vI s.now, vU s.sent, vU rp, vU po, vU r0, vW r1, vB r2, vU r3, sv, vP bd 0, vP bg 0, vP bc 0, z1, z2, z3] 121)] :: [(bd, rowO [yS] 127)] :: [(bg, rowO [yS] 130)] :: LC :: LV :: O9 :: F)) [] [(0, true), (1, true), (2, true), (3, true), (4, true), (5, true), (6, true), (7, true), (9, true), (10, true), (11, true), (12, true), (13, true)] 8 (.N [] 14 (.N [(16, true), (17, true)] 15 (.L [(18, false), (19, true), (20, true), (21, false), (22, true), (23, true), (24, false)]) 18 (.N [(19, true), (20, true)] 15 (.L [(21, false), (22, true), (23, true), (24, false)]) 21 (.L [(15, false), (22, true), (23, true), (24, false)]))) 15 (.L [(14, false), (16, true), (17, true), (18, false), (19, true), (20, true), (21, false), (22, true), (23, true), (24, false)])) 15 (.L [(8, false), (14, false), (16, true), (17, true), (18, false), (19, true), (20, true), (21, false), (22, true), (23, true), (24, false)]) mixed (by kernel_rfl) (by rintro c a w ⟨_, _, h, _⟩; cases h) (by rfl) (by kernel_rfl) ?_
       replace hS := hS.drew
       refine dr_run tbOk 7 hA ⟨_, _, _, hS⟩ (e' := (90, vP b 6) :: (89, vP b 2) :: (88, vP b 0) :: (87, vP b 0) :: (86, vP b 0) :: (85, vP b 0) :: (84, vP b 0) :: _) rfl fun a hA => dr_y hA rfl rfl rfl (by decide) ⟨_, _, _, hS⟩ (fun w' ⟨z1, z2, z3, hS'⟩ => rn_load tbOk hA rfl rfl rfl rfl (cell_row (hS'.heapAt 0 rfl) rfl)) fun a hA => dr_run tbOk 4 hA ⟨_, _, _, hS⟩ (e' := (96, vP b 8) :: (95, vP b 2) :: (94, vP b 0) :: (93, vP b 0) :: _) rfl fun a hA => dr_y hA rfl rfl rfl (by decide) ⟨_, _, _, hS⟩ (fun w' ⟨z1, z2, z3, hS'⟩ => rn_load tbOk hA rfl rfl rfl rfl (cell_row (hS'.heapAt 0 rfl) rfl)) fun a hA => ?_
       refine dr_fork ?_ ?_
       · refine dr_b (o := _) rfl ?_
         refine st_call0 hA rfl rfl rfl isfn52 rfl rfl (by decide) (pm_of52 hS _ (by omega)) ?_
         clear hA hS; rintro _ w83 a ⟨bp84, LP85, hp86, rfl, hS⟩ hA
         refine dr_nil (.inr ⟨_, _, _, (hS.tail 1 rfl)⟩) ?_
         refine dr_subN ?_
         refine dr_fork ?_ ?_
         · refine dr_b (o := _) rfl ?_
           refine st_call0 hA rfl rfl rfl isfn53 rfl rfl (by decide) (of53 hS _ s.ro (.inr (.inl ⟨by omega, by omega, rfl⟩))) ?_
           clear hA hS; rintro _ w87 a ⟨bx88, LB89, hb90, rfl, hS⟩ hA
           refine dr_nil (.inr ⟨_, _, _, (hS.tail 2 rfl)⟩) ?_
           refine dr_subN ?_
           refine dr_run tbOk 2 hA ⟨_, _, _, (hS.tail 2 rfl)⟩ (e' := (101, vP b 23) :: (100, vP b 0) :: _) rfl fun a hA => ?_
           refine dr_fork ?_ ?_
           · refine dr_b (o := _) rfl ?_
             refine st_makeMap hA hS rfl rfl rfl (by decide) fun m91 w92 a hS hA => ?_
             refine dr_nil (.inr ⟨_, _, _, (hS.tail 3 rfl)⟩) ?_
             refine dr_subL ?_
             refine dr_b (o := _) rfl ?_
             replace hS := hS.m3
             refine st_store tbOk hA hS [vP bp84 0] [vI s.id, vI kn, vI s.no, vI s.pc, vI s.wa, vI s.tr, vI s.ag, vI pn, vI s.ro, vP bo 0, yF, vI s.now, vU s.sent, vU rp, vU po, vU r0, vW r1, vB r2, vU r3, sv, vP bd 0, vP bg 0, vP bc 0, vP bp84 0, .pointer none, .map none] rfl rfl rfl rfl rfl rfl (by intro u hu; rw [List.mem_singleton.1 hu]; rfl) (zle rfl) rfl rfl rfl fun w93 hS => ?_
             replace hS := hS.m3.m3.m3
             refine dr_nil (.inr ⟨_, _, _, (hS.tail 3 rfl)⟩) (dr_run tbOk 2 hA ⟨_, _, _, (hS.tail 3 rfl)⟩ (e' := (103, vP b 24) :: (102, vP b 0) :: _) rfl fun a hA => dr_b (o := _) rfl ?_)
             replace hS := hS.m3
             refine st_store tbOk hA hS [vP bx88 0] [vI s.id, vI kn, vI s.no, vI s.pc, vI s.wa, vI s.tr, vI s.ag, vI pn, vI s.ro, vP bo 0, yF, vI s.now, vU s.sent, vU rp, vU po, vU r0, vW r1, vB r2, vU r3, sv, vP bd 0, vP bg 0, vP bc 0, vP bp84 0, vP bx88 0, .map none] rfl rfl rfl rfl rfl rfl (by intro u hu; rw [List.mem_singleton.1 hu]; rfl) (zle rfl) rfl rfl rfl fun w94 hS => ?_
             replace hS := hS.m3.m3.m3
             refine dr_nil (.inr ⟨_, _, _, (hS.tail 3 rfl)⟩) (dr_run tbOk 2 hA ⟨_, _, _, (hS.tail 3 rfl)⟩ (e' := (105, vP b 25) :: (104, vP b 0) :: _) rfl fun a hA => dr_b (o := _) rfl ?_)
             replace hS := hS.m3
             refine st_store tbOk hA hS [.map (some m91)] [vI s.id, vI kn, vI s.no, vI s.pc, vI s.wa, vI s.tr, vI s.ag, vI pn, vI s.ro, vP bo 0, yF, vI s.now, vU s.sent, vU rp, vU po, vU r0, vW r1, vB r2, vU r3, sv, vP bd 0, vP bg 0, vP bc 0, vP bp84 0, vP bx88 0, .map (some m91)] rfl rfl rfl rfl rfl rfl (by intro u hu; rw [List.mem_singleton.1 hu]; rfl) (zle rfl) rfl rfl rfl fun w95 hS => ?_
             replace hS := hS.m3.m3.m3
             refine dr_nil (.inr ⟨_, _, _, (hS.tail 3 rfl)⟩) (ze (zx ?_))
             replace hS := hS.m1.m2.m6.m6.m6.m6
             exact ⟨bp84, bx88, m91, LP85, LB89, (hA.sel [0] rfl), hS, hp86, hb90⟩
           · refine dr_b (o := _) rfl ?_
             replace hS := hS.m2
             refine st_store tbOk hA hS [vP bp84 0] [vI s.id, vI kn, vI s.no, vI s.pc, vI s.wa, vI s.tr, vI s.ag, vI pn, vI s.ro, vP bo 0, yF, vI s.now, vU s.sent, vU rp, vU po, vU r0, vW r1, vB r2, vU r3, sv, vP bd 0, vP bg 0, vP bc 0, vP bp84 0, .pointer none, .map none] rfl rfl rfl rfl rfl rfl (by intro u hu; rw [List.mem_singleton.1 hu]; rfl) (zle rfl) rfl rfl rfl fun w96 hS => ?_
             replace hS := hS.m2.m2
             refine dr_nil (.inr ⟨_, _, _, (hS.tail 2 rfl)⟩) ?_
             refine dr_subN ?_
             refine dr_run tbOk 2 hA ⟨_, _, _, (hS.tail 2 rfl)⟩ (e' := (103, vP b 24) :: (102, vP b 0) :: _) rfl fun a hA => ?_
             refine dr_fork ?_ ?_
             · refine dr_b (o := _) rfl ?_
               refine st_makeMap hA hS rfl rfl rfl (by decide) fun m97 w98 a hS hA => ?_
               refine dr_nil (.inr ⟨_, _, _, (hS.tail 3 rfl)⟩) ?_
               refine dr_subL ?_
               refine dr_b (o := _) rfl ?_
               replace hS := hS.m3
               refine st_store tbOk hA hS [vP bx88 0] [vI s.id, vI kn, vI s.no, vI s.pc, vI s.wa, vI s.tr, vI s.ag, vI pn, vI s.ro, vP bo 0, yF, vI s.now, vU s.sent, vU rp, vU po, vU r0, vW r1, vB r2, vU r3, sv, vP bd 0, vP bg 0, vP bc 0, vP bp84 0, vP bx88 0, .map none] rfl rfl rfl rfl rfl rfl (by intro u hu; rw [List.mem_singleton.1 hu]; rfl) (zle rfl) rfl rfl rfl fun w99 hS => ?_
               replace hS := hS.m3.m3.m3
               refine dr_nil (.inr ⟨_, _, _, (hS.tail 3 rfl)⟩) (dr_run tbOk 2 hA ⟨_, _, _, (hS.tail 3 rfl)⟩ (e' := (105, vP b 25) :: (104, vP b 0) :: _) rfl fun a hA => dr_b (o := _) rfl ?_)
               replace hS := hS.m3
               refine st_store tbOk hA hS [.map (some m97)] [vI s.id, vI kn, vI s.no, vI s.pc, vI s.wa, vI s.tr, vI s.ag, vI pn, vI s.ro, vP bo 0, yF, vI s.now, vU s.sent, vU rp, vU po, vU r0, vW r1, vB r2, vU r3, sv, vP bd 0, vP bg 0, vP bc 0, vP bp84 0, vP bx88 0, .map (some m97)] rfl rfl rfl rfl rfl rfl (by intro u hu; rw [List.mem_singleton.1 hu]; rfl) (zle rfl) rfl rfl rfl fun w100 hS => ?_
               replace hS := hS.m3.m3.m3
               refine dr_nil (.inr ⟨_, _, _, (hS.tail 3 rfl)⟩) (ze (zx ?_))
               replace hS := hS.m1.m2.m6.m6.m6.m6
               exact ⟨bp84, bx88, m97, LP85, LB89, (hA.sel [0] rfl), hS, hp86, hb90⟩
             · refine dr_b (o := _) rfl ?_
               replace hS := hS.m2
               refine st_store tbOk hA hS [vP bx88 0] [vI s.id, vI kn, vI s.no, vI s.pc, vI s.wa, vI s.tr, vI s.ag, vI pn, vI s.ro, vP bo 0, yF, vI s.now, vU s.sent, vU rp, vU po, vU r0, vW r1, vB r2, vU r3, sv, vP bd 0, vP bg 0, vP bc 0, vP bp84 0, vP bx88 0, .map none] rfl rfl rfl rfl rfl rfl (by intro u hu; rw [List.mem_singleton.1 hu]; rfl) (zle rfl) rfl rfl rfl fun w101 hS => ?_
               replace hS := hS.m2.m2
               refine dr_nil (.inr ⟨_, _, _, (hS.tail 2 rfl)⟩) ?_
               refine dr_subL ?_
               refine dr_b (o := _) rfl ?_
               refine st_makeMap hA hS rfl rfl rfl (by decide) fun m102 w103 a hS hA => ?_
               refine dr_nil (.inr ⟨_, _, _, (hS.tail 3 rfl)⟩) (dr_run tbOk 2 hA ⟨_, _, _, (hS.tail 3 rfl)⟩ (e' := (105, vP b 25) :: (104, vP b 0) :: _) rfl fun a hA => dr_b (o := _) rfl ?_)
               replace hS := hS.m3
               refine st_store tbOk hA hS [.map (some m102)] [vI s.id, vI kn, vI s.no, vI s.pc, vI s.wa, vI s.tr, vI s.ag, vI pn, vI s.ro, vP bo 0, yF, vI s.now, vU s.sent, vU rp, vU po, vU r0, vW r1, vB r2, vU r3, sv, vP bd 0, vP bg 0, vP bc 0, vP bp84 0, vP bx88 0, .map (some m102)] rfl rfl rfl rfl rfl rfl (by intro u hu; rw [List.mem_singleton.1 hu]; rfl) (zle rfl) rfl rfl rfl fun w104 hS => ?_
               replace hS := hS.m3.m3.m3
               refine dr_nil (.inr ⟨_, _, _, (hS.tail 3 rfl)⟩) (ze (zx ?_))
               replace hS := hS.m1.m2.m6.m6.m6.m6
               exact ⟨bp84, bx88, m102, LP85, LB89, (hA.sel [0] rfl), hS, hp86, hb90⟩
         · refine dr_b (o := _) rfl ?_
           refine st_makeMap hA hS rfl rfl rfl (by decide) fun m105 w106 a hS hA => ?_
           refine dr_nil (.inr ⟨_, _, _, (hS.tail 2 rfl)⟩) ?_
           refine dr_subL ?_
           refine dr_b (o := _) rfl ?_
           refine st_call0 hA rfl rfl rfl isfn53 rfl rfl (by decide) (of53 hS _ s.ro (.inr (.inl ⟨by omega, by omega, rfl⟩))) ?_
           clear hA hS; rintro _ w107 a ⟨bx108, LB109, hb110, rfl, hS⟩ hA
           refine dr_nil (.inr ⟨_, _, _, (hS.tail 3 rfl)⟩) (dr_run tbOk 2 hA ⟨_, _, _, (hS.tail 3 rfl)⟩ (e' := (101, vP b 23) :: (100, vP b 0) :: _) rfl fun a hA => dr_b (o := _) rfl ?_)
           replace hS := hS.m3
           refine st_store tbOk hA hS [vP bp84 0] [vI s.id, vI kn, vI s.no, vI s.pc, vI s.wa, vI s.tr, vI s.ag, vI pn, vI s.ro, vP bo 0, yF, vI s.now, vU s.sent, vU rp, vU po, vU r0, vW r1, vB r2, vU r3, sv, vP bd 0, vP bg 0, vP bc 0, vP bp84 0, .pointer none, .map none] rfl rfl rfl rfl rfl rfl (by intro u hu; rw [List.mem_singleton.1 hu]; rfl) (zle rfl) rfl rfl rfl fun w111 hS => ?_
           replace hS := hS.m3.m3.m3
           refine dr_nil (.inr ⟨_, _, _, (hS.tail 3 rfl)⟩) (dr_run tbOk 2 hA ⟨_, _, _, (hS.tail 3 rfl)⟩ (e' := (103, vP b 24) :: (102, vP b 0) :: _) rfl fun a hA => dr_b (o := _) rfl ?_)
           replace hS := hS.m3
           refine st_store tbOk hA hS [vP bx108 0] [vI s.id, vI kn, vI s.no, vI s.pc, vI s.wa, vI s.tr, vI s.ag, vI pn, vI s.ro, vP bo 0, yF, vI s.now, vU s.sent, vU rp, vU po, vU r0, vW r1, vB r2, vU r3, sv, vP bd 0, vP bg 0, vP bc 0, vP bp84 0, vP bx108 0, .map none] rfl rfl rfl rfl rfl rfl (by intro u hu; rw [List.mem_singleton.1 hu]; rfl) (zle rfl) rfl rfl rfl fun w112 hS => ?_
           replace hS := hS.m3.m3.m3
           refine dr_nil (.inr ⟨_, _, _, (hS.tail 3 rfl)⟩) (dr_run tbOk 2 hA ⟨_, _, _, (hS.tail 3 rfl)⟩ (e' := (105, vP b 25) :: (104, vP b 0) :: _) rfl fun a hA => dr_b (o := _) rfl ?_)
           replace hS := hS.m3
           refine st_store tbOk hA hS [.map (some m105)] [vI s.id, vI kn, vI s.no, vI s.pc, vI s.wa, vI s.tr, vI s.ag, vI pn, vI s.ro, vP bo 0, yF, vI s.now, vU s.sent, vU rp, vU po, vU r0, vW r1, vB r2, vU r3, sv, vP bd 0, vP bg 0, vP bc 0, vP bp84 0, vP bx108 0, .map (some m105)] rfl rfl rfl rfl rfl rfl (by intro u hu; rw [List.mem_singleton.1 hu]; rfl) (zle rfl) rfl rfl rfl fun w113 hS => ?_
           replace hS := hS.m3.m3.m3
           refine dr_nil (.inr ⟨_, _, _, (hS.tail 3 rfl)⟩) (ze (zx ?_))
           replace hS := hS.m2.m6.m6.m6.m6
           exact ⟨bp84, bx108, m105, LP85, LB109, (hA.sel [0] rfl), hS, hp86, hb110⟩
       · refine dr_b (o := _) rfl ?_
         refine st_makeMap hA hS rfl rfl rfl (by decide) fun m114 w115 a hS hA => ?_
         refine dr_nil (.inr ⟨_, _, _, (hS.tail 1 rfl)⟩) ?_
         refine dr_subL ?_
         refine dr_b (o := _) rfl ?_
         refine st_call0 hA rfl rfl rfl isfn52 rfl rfl (by decide) (pm_of52 hS _ (by omega)) ?_
         clear hA hS; rintro _ w116 a ⟨bp117, LP118, hp119, rfl, hS⟩ hA
         refine dr_nil (.inr ⟨_, _, _, (hS.tail 2 rfl)⟩) (dr_b (o := _) rfl ?_)
         refine st_call0 hA rfl rfl rfl isfn53 rfl rfl (by decide) (of53 hS _ s.ro (.inr (.inl ⟨by omega, by omega, rfl⟩))) ?_
         clear hA hS; rintro _ w120 a ⟨bx121, LB122, hb123, rfl, hS⟩ hA
         refine dr_nil (.inr ⟨_, _, _, (hS.tail 3 rfl)⟩) (dr_run tbOk 2 hA ⟨_, _, _, (hS.tail 3 rfl)⟩ (e' := (101, vP b 23) :: (100, vP b 0) :: _) rfl fun a hA => dr_b (o := _) rfl ?_)
         replace hS := hS.m3
         refine st_store tbOk hA hS [vP bp117 0] [vI s.id, vI kn, vI s.no, vI s.pc, vI s.wa, vI s.tr, vI s.ag, vI pn, vI s.ro, vP bo 0, yF, vI s.now, vU s.sent, vU rp, vU po, vU r0, vW r1, vB r2, vU r3, sv, vP bd 0, vP bg 0, vP bc 0, vP bp117 0, .pointer none, .map none] rfl rfl rfl rfl rfl rfl (by intro u hu; rw [List.mem_singleton.1 hu]; rfl) (zle rfl) rfl rfl rfl fun w124 hS => ?_
         replace hS := hS.m3.m3.m3
         refine dr_nil (.inr ⟨_, _, _, (hS.tail 3 rfl)⟩) (dr_run tbOk 2 hA ⟨_, _, _, (hS.tail 3 rfl)⟩ (e' := (103, vP b 24) :: (102, vP b 0) :: _) rfl fun a hA => dr_b (o := _) rfl ?_)
         replace hS := hS.m3
         refine st_store tbOk hA hS [vP bx121 0] [vI s.id, vI kn, vI s.no, vI s.pc, vI s.wa, vI s.tr, vI s.ag, vI pn, vI s.ro, vP bo 0, yF, vI s.now, vU s.sent, vU rp, vU po, vU r0, vW r1, vB r2, vU r3, sv, vP bd 0, vP bg 0, vP bc 0, vP bp117 0, vP bx121 0, .map none] rfl rfl rfl rfl rfl rfl (by intro u hu; rw [List.mem_singleton.1 hu]; rfl) (zle rfl) rfl rfl rfl fun w125 hS => ?_
         replace hS := hS.m3.m3.m3
         refine dr_nil (.inr ⟨_, _, _, (hS.tail 3 rfl)⟩) (dr_run tbOk 2 hA ⟨_, _, _, (hS.tail 3 rfl)⟩ (e' := (105, vP b 25) :: (104, vP b 0) :: _) rfl fun a hA => dr_b (o := _) rfl ?_)
         replace hS := hS.m3
         refine st_store tbOk hA hS [.map (some m114)] [vI s.id, vI kn, vI s.no, vI s.pc, vI s.wa, vI s.tr, vI s.ag, vI pn, vI s.ro, vP bo 0, yF, vI s.now, vU s.sent, vU rp, vU po, vU r0, vW r1, vB r2, vU r3, sv, vP bd 0, vP bg 0, vP bc 0, vP bp117 0, vP bx121 0, .map (some m114)] rfl rfl rfl rfl rfl rfl (by intro u hu; rw [List.mem_singleton.1 hu]; rfl) (zle rfl) rfl rfl rfl fun w126 hS => ?_
         replace hS := hS.m3.m3.m3
         refine dr_nil (.inr ⟨_, _, _, (hS.tail 3 rfl)⟩) (ze (zx ?_))
         replace hS := hS.m1.m6.m6.m6.m6
         exact ⟨bp117, bx121, m114, LP118, LB122, (hA.sel [0] rfl), hS, hp119, hb123⟩
     · clear hA hS; rintro a w127 ⟨bp, bx, mp, LP, LB, hA, hS, hpm, hbx⟩
       refine zs (zr (zR 3 ((108, vP b 10) :: (107, vP b 0) :: (106, vP b 0) :: _) hA rfl fun a hA => ?_))
       refine st_store tbOk hA hS [yT] [vI s.id, vI kn, vI s.no, vI s.pc, vI s.wa, vI s.tr, vI s.ag, vI pn, vI s.ro, vP bo 0, yT, vI s.now, vU s.sent, vU rp, vU po, vU r0, vW r1, vB r2, vU r3, sv, vP bd 0, vP bg 0, vP bc 0, vP bp 0, vP bx 0, .map (some mp)] rfl rfl rfl rfl rfl rfl (by intro u hu; rw [List.mem_singleton.1 hu]; rfl) (zle rfl) rfl rfl rfl fun w128 hS => ?_
       refine zn (zx (zs (zr (zR 1 ((2, yN) :: _) hA rfl fun a hA => zn (zx ?_)))))
       refine wp_ret ?_
       refine ret1 (fn := Tryz.f29) hA rfl rfl ?_
       replace hS : St w0 w128 (((b, rowO [vI s.id, vI kn, vI s.no, vI s.pc, vI s.wa, vI s.tr, vI s.ag, vI pn, vI s.ro, vP bo 0, yT, vI s.now, vU s.sent, vU rp, vU po, vU r0, vW r1, vB r2, vU r3, sv, vP bd 0, vP bg 0, vP bc 0, vP bp 0, vP bx 0, .map (some mp)] 121) :: ([(bd, rowO [yS] 127)] ++ ([(bg, rowO [yS] 130)] ++ (LC ++ (LP ++ (LB ++ ((mp, .map #[] 0) :: LV))))))) :: O9 :: F) := hS.cast (by simp)
       exact ⟨_, _, ⟨_, _, _, _, _, _, _, _, [], [], [], [], _, _, _, _, _, _, ⟨SR.new _, (GS.new w0 _).dx DX.bot, hcr, hpm, hbx, MapO.new .u64, hV, rfl, (fun x hx => by cases hx), rfl, (fun x hx => by cases hx), rfl, (fun x hx => by cases hx), rfl, (fun x hx => by cases hx)⟩, rfl⟩, hO9, rfl, hS⟩
theorem nboot0_29 {w0 w : World} {F : List Chunk} {b bo : Nat} {s : NC} {D : Chunk} {O : Chunk} {en : List (Nat × Nat × Nat)} {ts : List Nat} {k : Nat} (hS : St w0 w ([(b, rowO [vI s.id, yI, vI s.no, vI s.pc, vI s.wa, vI s.tr, vI s.ag, vI s.pg, vI s.ro, vP bo 0, yF, vI s.now, vU s.sent, yU, yU, yU, yW, yB, yU, .pointer none, .pointer none, .pointer none, .pointer none, .pointer none, .pointer none, .map none] 121)] :: O :: F)) (hO : ORR bo en ts k O) {g rp : Nat} (hx0 : ts[k]? = some g) (hx1 : ts[k + 1]? = some rp) (hg : g < 281474976710656) (hno : ∀ x ∈ en, ¬ (x.1 = 0 ∧ x.2.1 = g % 281474976710656)) (hel : en.length ≤ 900) (hwa : 1 ≤ s.wa) (htr : 1 ≤ s.tr) (hag : 1 ≤ s.ag) (hro : s.ro ≤ 64) :
    Ret Tryz.prog 29 #[vP b 0] w (fun v w' => ∃ L' O', NUP w0 b bo ⟨⟨s.id, 0, s.no, s.pc, s.wa, s.tr, s.ag, s.pg, s.ro, s.now, s.sent, rp, 0, 0, 0, 0, 0⟩, [], [], [], [], [], [], []⟩ .none L' D ∧ ORR bo (en ++ [(0, g % 281474976710656, rp)]) ts (k + 1 + 1) O' ∧ v = yN ∧ St w0 w' (L' :: O' :: F)) := by
  exact nbootX_29 (kn := 0) (pn := s.pg) (po := 0) (r0 := 0) (r1 := 0) (r2 := 0) (r3 := 0) (srv := .none) hS hO hx0 hx1 hg hno hel hwa htr hag hro (fun _ => ⟨rfl, rfl, rfl, rfl, rfl, rfl, rfl, rfl⟩) (fun h => absurd rfl h)
theorem nboot1_29 {w0 w : World} {F : List Chunk} {b bo : Nat} {s : NC} {D : Chunk} {O : Chunk} {en : List (Nat × Nat × Nat)} {ts : List Nat} {k : Nat} (hS : St w0 w ([(b, rowO [vI s.id, .int .i64 1, vI s.no, vI s.pc, vI s.wa, vI s.tr, vI s.ag, .int .i64 10, vI s.ro, vP bo 0, yF, vI s.now, vU s.sent, yU, yU, yU, yW, yB, yU, .pointer none, .pointer none, .pointer none, .pointer none, .pointer none, .pointer none, .map none] 121)] :: O :: F)) (hO : ORR bo en ts k O) {g rp : Nat} (hx0 : ts[k]? = some g) (hx1 : ts[k + 1]? = some rp) (hg : g < 281474976710656) (hno : ∀ x ∈ en, ¬ (x.1 = 0 ∧ x.2.1 = g % 281474976710656)) (hel : en.length ≤ 900) (hwa : 1 ≤ s.wa) (htr : 1 ≤ s.tr) (hag : 1 ≤ s.ag) (hro : s.ro ≤ 64) {g2 po x : Nat} (hx2 : ts[k + 1 + 1]? = some g2) (hx3 : ts[k + 1 + 1 + 1]? = some po) (hx4 : ts[k + 1 + 1 + 1 + 1]? = some x) (hg2 : g2 < 281474976710656) (hno2 : ∀ x ∈ en ++ [(0, g % 281474976710656, rp)], ¬ (x.1 = 0 ∧ x.2.1 = g2 % 281474976710656)) :
    Ret Tryz.prog 29 #[vP b 0] w (fun v w' => ∃ L' O', NUP w0 b bo ⟨⟨s.id, 1, s.no, s.pc, s.wa, s.tr, s.ag, 10, s.ro, s.now, s.sent, rp, po, po, 0, 255, x⟩, [], [], [], [], [], [], []⟩ .other L' D ∧ ORR bo (en ++ [(0, g % 281474976710656, rp)] ++ [(0, g2 % 281474976710656, po)]) ts (k + 1 + 1 + 1 + 1 + 1) O' ∧ v = yN ∧ St w0 w' (L' :: O' :: F)) := by
  exact nbootX_29 (kn := 1) (pn := 10) (po := po) (r0 := po) (r1 := 0) (r2 := 255) (r3 := x) hS hO hx0 hx1 hg hno hel hwa htr hag hro (fun h => by cases h) (fun _ w9 O9 h9 hO9 => nserve1_50 (D := D) h9 hO9 hx2 hx3 hx4 hg2 hno2 (by rw [List.length_append]; show en.length + 1 ≤ _; omega))
theorem nboot2_29 {w0 w : World} {F : List Chunk} {b bo : Nat} {s : NC} {D : Chunk} {O : Chunk} {en : List (Nat × Nat × Nat)} {ts : List Nat} {k : Nat} (hS : St w0 w ([(b, rowO [vI s.id, .int .i64 2, vI s.no, vI s.pc, vI s.wa, vI s.tr, vI s.ag, vI s.pg, vI s.ro, vP bo 0, yF, vI s.now, vU s.sent, yU, yU, yU, yW, yB, yU, .pointer none, .pointer none, .pointer none, .pointer none, .pointer none, .pointer none, .map none] 121)] :: O :: F)) (hO : ORR bo en ts k O) {g rp : Nat} (hx0 : ts[k]? = some g) (hx1 : ts[k + 1]? = some rp) (hg : g < 281474976710656) (hno : ∀ x ∈ en, ¬ (x.1 = 0 ∧ x.2.1 = g % 281474976710656)) (hel : en.length ≤ 900) (hwa : 1 ≤ s.wa) (htr : 1 ≤ s.tr) (hag : 1 ≤ s.ag) (hro : s.ro ≤ 64) {g2 po x : Nat} (hx2 : ts[k + 1 + 1]? = some g2) (hx3 : ts[k + 1 + 1 + 1]? = some po) (hx4 : ts[k + 1 + 1 + 1 + 1]? = some x) (hg2 : g2 < 281474976710656) (hno2 : ∀ x ∈ en ++ [(0, g % 281474976710656, rp)], ¬ (x.1 = 0 ∧ x.2.1 = g2 % 281474976710656)) :
    Ret Tryz.prog 29 #[vP b 0] w (fun v w' => ∃ L' O', NUP w0 b bo ⟨⟨s.id, 2, s.no, s.pc, s.wa, s.tr, s.ag, s.pg, s.ro, s.now, s.sent, rp, po, po, 0, 255, x⟩, [], [], [], [], [], [], []⟩ .other L' D ∧ ORR bo (en ++ [(0, g % 281474976710656, rp)] ++ [(0, g2 % 281474976710656, po)]) ts (k + 1 + 1 + 1 + 1 + 1) O' ∧ v = yN ∧ St w0 w' (L' :: O' :: F)) := by
  exact nbootX_29 (kn := 2) (pn := s.pg) (po := po) (r0 := po) (r1 := 0) (r2 := 255) (r3 := x) hS hO hx0 hx1 hg hno hel hwa htr hag hro (fun h => by cases h) (fun _ w9 O9 h9 hO9 => nserve2_50 (D := D) h9 hO9 hx2 hx3 hx4 hg2 hno2 (by rw [List.length_append]; show en.length + 1 ≤ _; omega))
theorem nboot3_29 {w0 w : World} {F : List Chunk} {b bo : Nat} {s : NC} {D : Chunk} {O : Chunk} {en : List (Nat × Nat × Nat)} {ts : List Nat} {k : Nat} (hS : St w0 w ([(b, rowO [vI s.id, .int .i64 3, vI s.no, vI s.pc, vI s.wa, vI s.tr, vI s.ag, vI s.pg, vI s.ro, vP bo 0, yF, vI s.now, vU s.sent, yU, yU, yU, yW, yB, yU, .pointer none, .pointer none, .pointer none, .pointer none, .pointer none, .pointer none, .map none] 121)] :: O :: F)) (hO : ORR bo en ts k O) {g rp : Nat} (hx0 : ts[k]? = some g) (hx1 : ts[k + 1]? = some rp) (hg : g < 281474976710656) (hno : ∀ x ∈ en, ¬ (x.1 = 0 ∧ x.2.1 = g % 281474976710656)) (hel : en.length ≤ 900) (hwa : 1 ≤ s.wa) (htr : 1 ≤ s.tr) (hag : 1 ≤ s.ag) (hro : s.ro ≤ 64) {g2 po x : Nat} (hx2 : ts[k + 1 + 1]? = some g2) (hx3 : ts[k + 1 + 1 + 1]? = some po) (hx4 : ts[k + 1 + 1 + 1 + 1]? = some x) (hg2 : g2 < 281474976710656) (hno2 : ∀ x ∈ en ++ [(0, g % 281474976710656, rp)], ¬ (x.1 = 0 ∧ x.2.1 = g2 % 281474976710656)) :
    Ret Tryz.prog 29 #[vP b 0] w (fun v w' => ∃ L' O', NUP w0 b bo ⟨⟨s.id, 3, s.no, s.pc, s.wa, s.tr, s.ag, s.pg, s.ro, s.now, s.sent, rp, po, po, 0, 255, x⟩, [], [], [], [], [], [], []⟩ (.file [(true, x, 0, -1, 24)] [] 0 0) L' D ∧ ORR bo (en ++ [(0, g % 281474976710656, rp)] ++ [(0, g2 % 281474976710656, po)]) ts (k + 1 + 1 + 1 + 1 + 1) O' ∧ v = yN ∧ St w0 w' (L' :: O' :: F)) := by
  exact nbootX_29 (kn := 3) (pn := s.pg) (po := po) (r0 := po) (r1 := 0) (r2 := 255) (r3 := x) hS hO hx0 hx1 hg hno hel hwa htr hag hro (fun h => by cases h) (fun _ w9 O9 h9 hO9 => nserve3_50 (D := D) h9 hO9 hx2 hx3 hx4 hg2 hno2 (by rw [List.length_append]; show en.length + 1 ≤ _; omega))
end Go.Proofs.YthiakdmhpfkjbaaGreatDoor

set_option linter.unusedVariables false
set_option linter.unusedSimpArgs false
set_option maxRecDepth 4000
namespace Go.Proofs.YthiakdmhpfkjbaaGreatDoor
open Go Go.SK
def askM (g i : Nat) (en : List (Nat × Nat × Nat)) (ts : List Nat) (k : Nat) : Option (Nat × List (Nat × Nat × Nat) × Nat) :=
  match en.find? (fun y => y.1 == g && y.2.1 == i % 281474976710656) with
  | some y => some (y.2.2, en, k)
  | none => match ts[k]? with
    | some x => if en.length ≤ 1048576 then some (x, en ++ [(g, i % 281474976710656, x)], k + 1) else none
    | none => none
theorem askA77 {w0 w : World} {F : List Chunk} {b g i k k' x : Nat} {en en' : List (Nat × Nat × Nat)} {ts : List Nat} {L : Chunk} (hS : St w0 w (L :: F)) (hO : ORR b en ts k L) (hi : i < 2 ^ 64) (h : askM g i en ts k = some (x, en', k')) :
    Ret Tryz.prog 77 #[vP b 0, vI g, vU i] w (fun v w' => ∃ L', ORR b en' ts k' L' ∧ v = .tuple #[vU x, yN] ∧ St w0 w' (L' :: F)) := by
  rw [askM] at h
  cases hf : en.find? (fun y => y.1 == g && y.2.1 == i % 281474976710656) with
  | some y =>
    rw [hf] at h
    injection h with h; injection h with e1 h; injection h with e2 e3; subst e1; subst e2; subst e3
    obtain ⟨j, h1, h2, h3⟩ := find_at hf
    obtain ⟨y1, y2, y3⟩ := y
    rw [Bool.and_eq_true, beq_iff_eq, beq_iff_eq] at h2
    have a1 : y1 = g := h2.1
    have a2 : y2 = i % 281474976710656 := h2.2
    rw [a1, a2] at h1
    exact ask_hit77 hS hO g i hi h1 (fun q y hq hy e => by have h9 := h3 q y hq hy; simp [e.1, e.2] at h9)
  | none =>
    rw [hf] at h; dsimp only at h
    cases hk : ts[k]? with
    | none => rw [hk] at h; cases h
    | some x0 =>
      rw [hk] at h; dsimp only at h
      by_cases hl : en.length ≤ 1048576
      · rw [if_pos hl] at h
        injection h with h; injection h with e1 h; injection h with e2 e3; subst e1; subst e2; subst e3
        exact ask_new77 hS hO g i hi (fun y hy e => by have h9 := List.find?_eq_none.1 hf y hy; simp [e.1, e.2] at h9) hk hl
      · rw [if_neg hl] at h; cases h
def mxr (s ri : Nat) : Nat := (s % 281474976710656) ^^^ ri
theorem mxr_lt {s ri : Nat} (h : ri < 256) : mxr s ri < 2 ^ 64 := Nat.xor_lt_two_pow (by omega) (by omega)
def tokM (s ri : Nat) (en : List (Nat × Nat × Nat)) (ts : List Nat) (k : Nat) : Option (Nat × List (Nat × Nat × Nat) × Nat) := if ri = 255 then some (s % 281474976710656, en, k) else askM 1 (mxr s ri) en ts k
theorem tmixed134 {w0 w : World} {F : List Chunk} (hS : St w0 w F) {s ri : Nat} (hs : s < 2 ^ 64) (hri : ri < 256) :
 Ret Tryz.prog 134 #[vU s, vB ri] w (fun v w' => v = vU (mxr s ri) ∧ St w0 w' F) := by
 refine enter (vs := [vU s, vB ri]) 10 Tryz.func134 rfl rfl (by simp) ?_; intro a hA
 refine zs (zr (zR 1 ((4, yU) :: _) hA rfl fun a hA => zn (zx (zs (zr (zR 1 ((5, vU s) :: _) hA rfl fun a hA => ?_))))))
 refine st_call0 hA rfl rfl rfl isfn47 rfl rfl (by decide) (cut47 hS (x := s) (by omega)) ?_
 clear hA hS; rintro _ w1 a ⟨rfl, hS⟩ hA
 refine zR 2 ((8, .int .u64 (IntKind.u64.wrap ((ri : Nat) : Int))) :: (7, vB ri) :: _) hA rfl fun a hA => ?_
 replace hA := hA.rw 8 (v' := vU ri) rfl (by rw [wrap_u64 (by omega) (by omega)])
 refine st_val hA rfl rfl (by decide) (rn_xor hA rfl rfl rfl) fun a hA => ?_
 replace hA := hA.rw 9 (v' := vU (mxr s ri)) rfl (vint (show _ = ((mxr s ri : Nat) : Int) from bits_xor_u64 (by omega) (by omega)))
 refine zR 1 ((4, vU (mxr s ri)) :: _) hA rfl fun a hA => zn (zx ?_)
 refine wp_ret ?_
 refine ret1 (fn := Tryz.f134) hA rfl rfl ?_
 exact ⟨rfl, hS⟩
theorem tof_ask131 {w0 w : World} {F : List Chunk} {b : Nat} {en en2 : List (Nat × Nat × Nat)} {ts : List Nat} {k k2 : Nat} {L : Chunk} (hS : St w0 w (L :: F)) (hO : ORR b en ts k L) {s ri x : Nat} (hs : s < 2 ^ 64) (hri : ri < 256) (hr : ¬ ri = 255) (hM : askM 1 (mxr s ri) en ts k = some (x, en2, k2)) :
 Ret Tryz.prog 131 #[vP b 0, vU s, vB ri] w (fun v w' => ∃ L', ORR b en2 ts k2 L' ∧ v = .tuple #[vU x, yN] ∧ St w0 w' (L' :: F)) := by
 refine enter (vs := [vP b 0, vU s, vB ri]) 19 Tryz.func131 rfl rfl (by simp) ?_; intro a hA
 refine zs (zr (zR 2 ((7, yN) :: (6, yU) :: _) hA rfl fun a hA => zn (zx (zs (zs (zr (zR 2 ((9, .bool (((ri : Nat) : Int) == 255)) :: (8, vB ri) :: _) hA rfl fun a hA => zn (zx ?_))))))))
 have hc1 : ¬ (((ri : Nat) : Int) = 255) := by omega
 replace hA := hA.rw 9 (v' := yF) rfl (vb_eq_f hc1)
 refine cd_cond_f hA rfl (zk (zx (zs (zr (zR 3 ((14, vB ri) :: (13, vU s) :: (12, vP b 0) :: _) hA rfl fun a hA => ?_)))))
 refine st_call0 hA rfl rfl rfl isfn134 rfl rfl (by decide) (tmixed134 hS hs hri) ?_
 clear hA hS; rintro _ w2 a ⟨rfl, hS⟩ hA
 refine st_call0 hA rfl rfl rfl isfn77 rfl rfl (by decide) (askA77 (g := 1) (i := mxr s ri) hS hO (mxr_lt hri) hM) ?_
 clear hA hS; rintro _ w3 a ⟨L4, hO5, rfl, hS⟩ hA
 refine zR 4 ((7, yN) :: (6, vU x) :: (18, yN) :: (17, vU x) :: _) hA rfl fun a hA => zn (zx ?_)
 refine wp_ret ?_
 refine ret2 (fn := Tryz.f131) hA rfl rfl rfl ?_
 exact ⟨_, hO5, rfl, hS⟩
theorem tok131 {w0 w : World} {F : List Chunk} {b s ri k k' x : Nat} {en en' : List (Nat × Nat × Nat)} {ts : List Nat} {L : Chunk} (hS : St w0 w (L :: F)) (hO : ORR b en ts k L) (hs : s < 2 ^ 64) (hri : ri < 256) (h : tokM s ri en ts k = some (x, en', k')) :
    Ret Tryz.prog 131 #[vP b 0, vU s, vB ri] w (fun v w' => ∃ L', ORR b en' ts k' L' ∧ v = .tuple #[vU x, yN] ∧ St w0 w' (L' :: F)) := by
  rw [tokM] at h
  by_cases hr : ri = 255
  · rw [if_pos hr] at h
    injection h with h; injection h with e1 h; injection h with e2 e3; subst e1; subst e2; subst e3
    subst hr
    refine Calls.mono (tof_owner131 hS _ (s := s) hs) ?_
    rintro e w' ⟨v, he, g1, g2⟩
    exact ⟨v, he, L, hO, g1, g2⟩
  · rw [if_neg hr] at h
    exact tof_ask131 hS hO hs hri hr h
theorem tgood133 {w0 w : World} {F : List Chunk} {b : Nat} {en en2 : List (Nat × Nat × Nat)} {ts : List Nat} {k k2 : Nat} {L : Chunk} (hS : St w0 w (L :: F)) (hO : ORR b en ts k L) {s po ob ri ck x : Nat} (hs : s < 2 ^ 64) (hri : ri < 256) (hM : tokM s ri en ts k = some (x, en2, k2)) :
 Ret Tryz.prog 133 #[vP b 0, vU s, .agg #[vU po, vW ob, vB ri, vU ck]] w (fun v w' => ∃ L', ORR b en2 ts k2 L' ∧ v = .tuple #[.bool (decide (x = ck)), yN] ∧ St w0 w' (L' :: F)) := by
 refine enter (vs := [vP b 0, vU s, .agg #[vU po, vW ob, vB ri, vU ck]]) 27 Tryz.func133 rfl rfl (by simp) ?_; intro a hA
 refine zs (zr ?_)
 refine st_box hA hS [vU po, vW ob, vB ri, vU ck] rfl rfl rfl rfl rfl (by decide) fun b1 w2 a hS hA => ?_
 refine zR 2 ((7, yN) :: (6, yF) :: _) hA rfl fun a hA => zn (zx (zs (zr (zR 3 ((13, vP b1 2) :: (12, vU s) :: (11, vP b 0) :: _) hA rfl fun a hA => zL hA hS 0 rfl rfl rfl rfl rfl rfl rfl rfl rfl fun a hA => ?_))))
 replace hS := hS.m1
 refine st_call0 hA rfl rfl rfl isfn131 rfl rfl (by decide) (tok131 hS hO hs hri hM) ?_
 clear hA hS; rintro _ w3 a ⟨L4, hO5, rfl, hS⟩ hA
 refine zR 5 ((9, yN) :: (8, vU x) :: (17, yN) :: (16, vU x) :: (10, .tuple #[vU x, yN]) :: _) hA rfl fun a hA => zn (zx (zs (zr (zR 5 ((22, vP b1 3) :: (21, vU x) :: (20, yT) :: (19, yT) :: (18, yN) :: _) hA rfl fun a hA => zL hA hS 1 rfl rfl rfl rfl rfl rfl rfl rfl rfl fun a hA => zR 5 ((7, yN) :: (6, .bool (((x : Nat) : Int) == ((ck : Nat) : Int))) :: (26, yN) :: (25, .bool (((x : Nat) : Int) == ((ck : Nat) : Int))) :: (24, .bool (((x : Nat) : Int) == ((ck : Nat) : Int))) :: _) hA rfl fun a hA => zn (zx ?_)))))
 refine wp_ret ?_
 refine ret2 (fn := Tryz.f133) hA rfl rfl rfl ?_
 replace hS := hS.m1.d0
 exact ⟨_, hO5, congrArg (fun z => Value.tuple #[.bool z, yN]) (by first | (rw [Bool.eq_iff_iff]; simp; omega) | simp; omega), hS⟩
theorem ocheck_bad127 {w0 w : World} {F : List Chunk} {b po bo : Nat} {os : List (Bool × Nat × Int × Int × Int)} {L : Chunk} {O : Chunk} {en en2 : List (Nat × Nat × Nat)} {ts : List Nat} {k k2 : Nat} (hS : St w0 w (L :: O :: F)) (hM : OBR b po bo os L) (hO : ORR bo en ts k O) {ob s ck x : Nat} {e va li : Int} (hx : os[ob]? = some (true, s, e, va, li)) (hl : os.length ≤ 64) (hs : s < 2 ^ 64) {ri n : Nat} (hri : ri < 256) (hT : tokM s ri en ts k = some (x, en2, k2)) (hne : ¬ x = ck) :
 Ret Tryz.prog 127 #[vP b 0, .agg #[vU po, vW ob, vB ri, vU ck], vB n] w (fun v w' => ∃ L' O', OBR b po bo os L' ∧ ORR bo en2 ts k2 O' ∧ v = .tuple #[yI, .iface 55 (.int .i64 1)] ∧ St w0 w' (L' :: O' :: F)) := by
 obtain ⟨v1, C1, hO1, rfl⟩ := hM
 obtain ⟨A1, c1, rfl, hm1, hx1⟩ := hO1.open'
 replace hS : St w0 w ([(b, rowO [vU po, vP bo 0, .slice A1 os.length c1] 247)] :: C1 :: O :: F) := hS.split
 have hol := (List.getElem?_eq_some_iff.1 hx).1
 refine enter (vs := [vP b 0, .agg #[vU po, vW ob, vB ri, vU ck], vB n]) 76 Tryz.func127 rfl rfl (by simp) ?_; intro a hA
 refine zs (zr ?_)
 refine st_box hA hS [vU po, vW ob, vB ri, vU ck] rfl rfl rfl rfl rfl (by decide) fun b1 w2 a hS hA => ?_
 refine zR 2 ((7, yN) :: (6, yI) :: _) hA rfl fun a hA => zn (zx (zs (zr (zR 1 ((11, vP b1 1) :: _) hA rfl fun a hA => zL hA hS 0 rfl rfl rfl rfl rfl rfl rfl rfl rfl fun a hA => zR 1 ((13, .int .i64 (IntKind.i64.wrap ((ob : Nat) : Int))) :: _) hA rfl fun a hA => ?_))))
 replace hA := hA.rw 13 (v' := vI ob) rfl (wr64 (by rfl) (by omega) (by omega))
 refine zR 1 ((8, vI ob) :: _) hA rfl fun a hA => zn (zx (zs (zs ?_)))
 refine zD0 hS [] [(0, true), (1, true), (2, true), (3, true), (4, true), (5, true), (6, true), (7, true), (8, true), (9, true), (10, true), (11, true), (12, true), (13, true), (14, true), (15, true), (16, true), (17, true), (18, true), (19, true), (20, true), (21, true), (22, true), (23, true), (24, true), (25, true), (26, true)] mixed (by kernel_rfl) (by rintro c a w ⟨_, _, h, _⟩; cases h) (by rfl) (by kernel_rfl) ?_
 replace hS := hS.drew
 refine zW 1 ((14, vP b1 0) :: _) hA hS rfl fun a hA => zY hA hS 0 rfl rfl rfl rfl rfl rfl rfl rfl rfl rfl fun a hA => zW 3 ((18, vP b 0) :: (17, vP b 0) :: (16, vP b 0) :: _) hA hS rfl fun a hA => zY hA hS 1 rfl rfl rfl rfl rfl rfl rfl rfl rfl rfl fun a hA => zW 2 ((21, .bool (((po : Nat) : Int) != ((po : Nat) : Int))) :: (20, .bool (((po : Nat) : Int) != ((po : Nat) : Int))) :: _) hA hS rfl fun a hA => ?_
 have hc3 : ((po : Nat) : Int) = ((po : Nat) : Int) := rfl
 replace hA := hA.rw 20 (v' := yF) rfl (vb_ne_f hc3)
 replace hA := hA.rw 21 (v' := yF) rfl (vb_ne_f hc3)
 refine zW 4 ((25, vP b 2) :: (24, vP b 0) :: (23, vP b 0) :: (22, vI ob) :: _) hA hS rfl fun a hA => zY hA hS 1 rfl rfl rfl rfl rfl rfl rfl rfl rfl rfl fun a hA => zW 4 ((30, .bool (decide (((ob : Nat) : Int) ≥ ((os.length : Nat) : Int)))) :: (29, .bool (decide (((ob : Nat) : Int) ≥ ((os.length : Nat) : Int)))) :: (28, .bool (decide (((ob : Nat) : Int) ≥ ((os.length : Nat) : Int)))) :: (27, vI os.length) :: _) hA hS rfl fun a hA => ?_
 have hc4 : ¬ (((ob : Nat) : Int) ≥ ((os.length : Nat) : Int)) := by omega
 replace hA := hA.rw 28 (v' := yF) rfl (vb_false hc4)
 replace hA := hA.rw 29 (v' := yF) rfl (vb_false hc4)
 replace hA := hA.rw 30 (v' := yF) rfl (vb_false hc4)
 refine zW 3 ((33, vP b 2) :: (32, vP b 0) :: (31, vP b 0) :: _) hA hS rfl fun a hA => zY hA hS 1 rfl rfl rfl rfl rfl rfl rfl rfl rfl rfl fun a hA => zW 1 ((35, vI ob) :: _) hA hS rfl fun a hA => ?_
 obtain ⟨b5, o6, rfl⟩ := hO1.isSome (k := ob) (by omega)
 refine dr_y hA rfl rfl rfl (by decide) hS (fun w' hS' => rn_indexAddr tbOk hA ob (o6 + (ob * 5)) rfl rfl rfl rfl rfl rfl (by rfl) (by omega) (by first | rfl | simp [Nat.mul_one, Nat.zero_add] | omega)) fun a hA => zW 1 ((37, vP b5 (o6 + (ob * 5))) :: _) hA hS rfl fun a hA => dr_y hA rfl rfl rfl (by decide) hS (fun w' hS' => rn_load tbOk hA rfl rfl rfl rfl ((hO1.rd (hS'.own_ 2 rfl)).elemf (k := ob) encOb_ok hx (j := 0) rfl)) fun a hA => zW 2 ((40, yF) :: (39, yF) :: _) hA hS rfl fun a hA => ze (zx (cd_cond_f hA rfl (zk (zx (zs ?_)))))
 replace hS := hS.m3
 refine zD1 hS [] [(0, true), (1, true), (2, true), (3, true), (4, true), (5, true), (6, true), (7, true), (8, true), (9, true), (10, true), (11, true), (12, true), (13, false), (14, true), (15, true), (16, true), (17, true), (18, true)] mixed (by kernel_rfl) (by rintro c a w ⟨_, _, h, _⟩; cases h) (by rfl) (by kernel_rfl) ?_
 replace hS := hS.drew
 refine zW 3 ((45, vP b 1) :: (44, vP b 0) :: (43, vP b 0) :: _) hA (hS.tail 1 rfl) rfl fun a hA => zY hA (hS.tail 1 rfl) 1 rfl rfl rfl rfl rfl rfl rfl rfl rfl rfl fun a hA => zW 3 ((49, vP b 2) :: (48, vP b 0) :: (47, vP b 0) :: _) hA (hS.tail 1 rfl) rfl fun a hA => zY hA (hS.tail 1 rfl) 1 rfl rfl rfl rfl rfl rfl rfl rfl rfl rfl fun a hA => zW 1 ((51, vI ob) :: _) hA (hS.tail 1 rfl) rfl fun a hA => dr_y hA rfl rfl rfl (by decide) (hS.tail 1 rfl) (fun w' hS' => rn_indexAddr tbOk hA ob (o6 + (ob * 5)) rfl rfl rfl rfl rfl rfl (by rfl) (by omega) (by first | rfl | simp [Nat.mul_one, Nat.zero_add] | omega)) fun a hA => zW 1 ((53, vP b5 (o6 + (ob * 5) + 1)) :: _) hA (hS.tail 1 rfl) rfl fun a hA => dr_y hA rfl rfl rfl (by decide) (hS.tail 1 rfl) (fun w' hS' => rn_load tbOk hA rfl rfl rfl rfl ((hO1.rd (hS'.own_ 2 rfl)).elemf (k := ob) encOb_ok hx (j := 1) rfl)) fun a hA => ?_
 refine zYA hA (hS.tail 1 rfl) 0 [vU po, vW ob, vB ri, vU ck] rfl rfl rfl rfl rfl rfl rfl rfl rfl rfl rfl fun a hA => dr_b (o := _) rfl ?_
 refine st_call0 hA rfl rfl rfl isfn133 rfl rfl (by decide) (tgood133 (po := po) (ob := ob) (ck := ck) hS hO hs hri hT) ?_
 clear hA hS; rintro _ w7 a ⟨L8, hO9, rfl, hS⟩ hA
 replace hA := hA.rw 56 (v' := .tuple #[yF, yN]) rfl (by rw [decide_eq_false hne])
 refine zi (hS.tail 1 rfl) (zW 5 ((10, yN) :: (9, yF) :: (58, yN) :: (57, yF) :: (42, .tuple #[yF, yN]) :: _) hA (hS.tail 1 rfl) rfl fun a hA => ze (zx (zs (zb (zs (zr (zR 3 ((59, yF) :: (61, yF) :: (60, yN) :: _) hA rfl fun a hA => zn (zx (cd_cond_f hA rfl (zs (zr (zR 3 ((63, yT) :: (65, yT) :: (64, yF) :: _) hA rfl fun a hA => zn (zx (cd_cond_t hA rfl (zs (zr (zR 3 ((7, .iface 55 (.int .i64 1)) :: (6, yI) :: (66, .iface 55 (.int .i64 1)) :: _) hA rfl fun a hA => zn (zx ?_))))))))))))))))))
 refine wp_ret (xb_ret (xt_ret ?_))
 refine ret2 (fn := Tryz.f127) hA rfl rfl rfl ?_
 replace hS := hS.m1.d0.m2.m2
 replace hS := hS.join
 exact ⟨_, _, ⟨_, _, hO1, rfl⟩, hO9, rfl, hS⟩
theorem orestrict124 {w0 w : World} {F : List Chunk} {b po bo : Nat} {os : List (Bool × Nat × Int × Int × Int)} {L : Chunk} {O : Chunk} {en en2 : List (Nat × Nat × Nat)} {ts : List Nat} {k k2 : Nat} (hS : St w0 w (L :: O :: F)) (hM : OBR b po bo os L) (hO : ORR bo en ts k O) {ob s ck x : Nat} {e va li : Int} (hx : os[ob]? = some (true, s, e, va, li)) (hl : os.length ≤ 64) (hs : s < 2 ^ 64) {n : Nat} (hck : s % 281474976710656 = ck) (hn : n < 256) (hT : tokM s n en ts k = some (x, en2, k2)) :
 Ret Tryz.prog 124 #[vP b 0, .agg #[vU po, vW ob, .int .u8 255, vU ck], vB n] w (fun v w' => ∃ L' O', OBR b po bo os L' ∧ ORR bo en2 ts k2 O' ∧ v = .tuple #[.agg #[vU po, vW ob, vB n, vU x], yN] ∧ St w0 w' (L' :: O' :: F)) := by
 have hol := (List.getElem?_eq_some_iff.1 hx).1
 refine enter (vs := [vP b 0, .agg #[vU po, vW ob, .int .u8 255, vU ck], vB n]) 53 Tryz.func124 rfl rfl (by simp) ?_; intro a hA
 refine zs (zr ?_)
 refine st_box hA hS [vU po, vW ob, .int .u8 255, vU ck] rfl rfl rfl rfl rfl (by decide) fun b1 w2 a hS hA => ?_
 refine st_alloc tbOk hA hS [yU, yW, yB, yU] rfl rfl rfl rfl rfl (by decide) fun b3 w4 a hS hA => ?_
 refine zR 1 ((7, yN) :: _) hA rfl fun a hA => zn (zx (zs (zr (zR 1 ((12, vP b 0) :: _) hA rfl fun a hA => zLA hA hS 1 [vU po, vW ob, .int .u8 255, vU ck] rfl rfl rfl rfl rfl rfl rfl rfl rfl rfl fun a hA => ?_))))
 replace hS := hS.m2
 refine st_call0 hA rfl rfl rfl isfn127 rfl rfl (by decide) (ocheck127 (n := 0) hS hM hx hl hs hck (by decide)) ?_
 clear hA hS; rintro _ w5 a ⟨L2, hM2, rfl, hS⟩ hA
 obtain ⟨v1, C1, hO1, rfl⟩ := hM2
 obtain ⟨A1, c1, rfl, hm1, hx1⟩ := hO1.open'
 replace hS : St w0 w5 ([(b, rowO [vU po, vP bo 0, .slice A1 os.length c1] 247)] :: C1 :: [(b3, rowO [yU, yW, yB, yU] 39)] :: [(b1, rowO [vU po, vW ob, .int .u8 255, vU ck] 39)] :: O :: F) := hS.split
 refine zR 5 ((9, yN) :: (8, vI ob) :: (16, yN) :: (15, vI ob) :: (11, .tuple #[vI ob, yN]) :: _) hA rfl fun a hA => zn (zx (zs (zs (zr (zR 2 ((18, yF) :: (17, yN) :: _) hA rfl fun a hA => zn (zx (cd_cond_f hA rfl (zk (zx (zs ?_))))))))))
 replace hS := hS.m4
 refine zD1 hS [] [(0, true), (1, true), (2, true), (3, true), (4, true), (5, true), (6, true), (7, true), (8, true), (9, true), (10, true), (11, true), (12, true), (13, true), (14, true), (15, true), (16, false), (17, true), (18, true), (19, true), (20, true), (21, true)] mixed (by kernel_rfl) (by rintro c a w ⟨_, _, h, _⟩; cases h) (by rfl) (by kernel_rfl) ?_
 replace hS := hS.drew
 refine zW 3 ((24, vP b 1) :: (23, vP b 0) :: (22, vP b 0) :: _) hA (hS.tail 1 rfl) rfl fun a hA => zY hA (hS.tail 1 rfl) 0 rfl rfl rfl rfl rfl rfl rfl rfl rfl rfl fun a hA => zW 3 ((28, vP b 2) :: (27, vP b 0) :: (26, vP b 0) :: _) hA (hS.tail 1 rfl) rfl fun a hA => zY hA (hS.tail 1 rfl) 0 rfl rfl rfl rfl rfl rfl rfl rfl rfl rfl fun a hA => zW 1 ((30, vI ob) :: _) hA (hS.tail 1 rfl) rfl fun a hA => ?_
 obtain ⟨b6, o7, rfl⟩ := hO1.isSome (k := ob) (by omega)
 refine dr_y hA rfl rfl rfl (by decide) (hS.tail 1 rfl) (fun w' hS' => rn_indexAddr tbOk hA ob (o7 + (ob * 5)) rfl rfl rfl rfl rfl rfl (by rfl) (by omega) (by first | rfl | simp [Nat.mul_one, Nat.zero_add] | omega)) fun a hA => zW 1 ((32, vP b6 (o7 + (ob * 5) + 1)) :: _) hA (hS.tail 1 rfl) rfl fun a hA => dr_y hA rfl rfl rfl (by decide) (hS.tail 1 rfl) (fun w' hS' => rn_load tbOk hA rfl rfl rfl rfl ((hO1.rd (hS'.own_ 1 rfl)).elemf (k := ob) encOb_ok hx (j := 1) rfl)) fun a hA => zW 1 ((34, vP b1 2) :: _) hA (hS.tail 1 rfl) rfl fun a hA => zY hA (hS.tail 1 rfl) 3 rfl rfl rfl rfl rfl rfl rfl rfl rfl rfl fun a hA => zW 1 ((36, vB n) :: _) hA (hS.tail 1 rfl) rfl fun a hA => dr_y hA rfl rfl rfl (by decide) (hS.tail 1 rfl) (fun w' hS' => rn_and hA rfl rfl rfl) fun a hA => ?_
 replace hA := hA.rw 37 (v' := vB n) rfl (vint (and255 hn))
 refine dr_b (o := _) rfl ?_
 refine st_call0 hA rfl rfl rfl isfn131 rfl rfl (by decide) (tok131 hS hO hs hn hT) ?_
 clear hA hS; rintro _ w8 a ⟨L9, hO10, rfl, hS⟩ hA
 refine zi (hS.tail 1 rfl) (zW 5 ((9, yN) :: (10, vU x) :: (40, yN) :: (39, vU x) :: (21, .tuple #[vU x, yN]) :: _) hA (hS.tail 1 rfl) rfl fun a hA => ze (zx (zs (zs (zr (zR 2 ((42, yF) :: (41, yN) :: _) hA rfl fun a hA => zn (zx (cd_cond_f hA rfl (zk (zx (zs (zr (zR 3 ((47, vP b1 2) :: (46, vI ob) :: (45, vP b 0) :: _) hA rfl fun a hA => zL hA hS 4 rfl rfl rfl rfl rfl rfl rfl rfl rfl fun a hA => zR 1 ((49, vB n) :: _) hA rfl fun a hA => st_val hA rfl rfl (by decide) (rn_and hA rfl rfl rfl) fun a hA => ?_)))))))))))))
 replace hA := hA.rw 50 (v' := vB n) rfl (vint (and255 hn))
 refine zR 1 ((51, vU x) :: _) hA rfl fun a hA => ?_
 replace hS := hS.m1
 refine st_call0 hA rfl rfl rfl isfn129 rfl rfl (by decide) (obcap129 hS ob n x (by omega)) ?_
 clear hA hS; rintro _ w11 a ⟨rfl, hS⟩ hA
 replace hS := hS.m3
 refine st_store tbOk hA hS [vU po, vW ob, vB n, vU x] [vU po, vW ob, vB n, vU x] rfl rfl rfl rfl rfl rfl (zn1 rfl) (zle rfl) rfl rfl rfl fun w12 hS => ?_
 refine zR 1 ((7, yN) :: _) hA rfl fun a hA => zn (zx ?_)
 refine wp_ret ?_
 refine retc2 tbOk (fn := Tryz.f124) (cs := [vU po, vW ob, vB n, vU x]) hA rfl rfl rfl rfl rfl rfl (cells_row (hS.heapAt 0 rfl) rfl) ?_
 replace hS := hS.d0.m3.d0.m1.m2.m2
 replace hS := hS.join
 exact ⟨_, _, ⟨_, _, hO1, rfl⟩, hO10, rfl, hS⟩
theorem orevoke125 {w0 w : World} {F : List Chunk} {b po bo : Nat} {os : List (Bool × Nat × Int × Int × Int)} {L : Chunk} {O : Chunk} {en : List (Nat × Nat × Nat)} {ts : List Nat} {k : Nat} (hS : St w0 w (L :: O :: F)) (hM : OBR b po bo os L) (hO : ORR bo en ts k O) {ob s ck x : Nat} {e va li : Int} (hx : os[ob]? = some (true, s, e, va, li)) (hl : os.length ≤ 64) (hs : s < 2 ^ 64) (hck : s % 281474976710656 = ck) (hkx : ts[k]? = some x) (he0 : 0 ≤ e) (he1 : e < 1000000) :
 Ret Tryz.prog 125 #[vP b 0, .agg #[vU po, vW ob, .int .u8 255, vU ck]] w (fun v w' => ∃ L' O', OBR b po bo (os.set ob (true, x, e + 1, va, li)) L' ∧ ORR bo en ts (k + 1) O' ∧ v = .tuple #[.agg #[vU po, vW ob, .int .u8 255, vU x], yN] ∧ St w0 w' (L' :: O' :: F)) := by
 have hol := (List.getElem?_eq_some_iff.1 hx).1
 refine enter (vs := [vP b 0, .agg #[vU po, vW ob, .int .u8 255, vU ck]]) 54 Tryz.func125 rfl rfl (by simp) ?_; intro a hA
 refine zs (zr ?_)
 refine st_box hA hS [vU po, vW ob, .int .u8 255, vU ck] rfl rfl rfl rfl rfl (by decide) fun b1 w2 a hS hA => ?_
 refine st_alloc tbOk hA hS [yU, yW, yB, yU] rfl rfl rfl rfl rfl (by decide) fun b3 w4 a hS hA => ?_
 refine zR 1 ((5, yN) :: _) hA rfl fun a hA => zn (zx (zs (zr (zR 1 ((10, vP b 0) :: _) hA rfl fun a hA => zLA hA hS 1 [vU po, vW ob, .int .u8 255, vU ck] rfl rfl rfl rfl rfl rfl rfl rfl rfl rfl fun a hA => ?_))))
 replace hS := hS.m2
 refine st_call0 hA rfl rfl rfl isfn127 rfl rfl (by decide) (ocheck127 (n := 255) hS hM hx hl hs hck (by decide)) ?_
 clear hA hS; rintro _ w5 a ⟨L2, hM2, rfl, hS⟩ hA
 obtain ⟨v1, C1, hO1, rfl⟩ := hM2
 obtain ⟨A1, c1, rfl, hm1, hx1⟩ := hO1.open'
 replace hS : St w0 w5 ([(b, rowO [vU po, vP bo 0, .slice A1 os.length c1] 247)] :: C1 :: [(b3, rowO [yU, yW, yB, yU] 39)] :: [(b1, rowO [vU po, vW ob, .int .u8 255, vU ck] 39)] :: O :: F) := hS.split
 refine zR 5 ((7, yN) :: (6, vI ob) :: (14, yN) :: (13, vI ob) :: (9, .tuple #[vI ob, yN]) :: _) hA rfl fun a hA => zn (zx (zs (zs (zr (zR 2 ((16, yF) :: (15, yN) :: _) hA rfl fun a hA => zn (zx (cd_cond_f hA rfl (zk (zx (zs (zr (zR 3 ((22, vP b 1) :: (21, vP b 0) :: (20, vP b 0) :: _) hA rfl fun a hA => zL hA hS 0 rfl rfl rfl rfl rfl rfl rfl rfl rfl fun a hA => ?_))))))))))))
 replace hS := hS.m4
 refine st_call0 hA rfl rfl rfl isfn48 rfl rfl (by decide) (odraw48 hS hO (x := x) hkx) ?_
 clear hA hS; rintro _ w6 a ⟨L7, hO8, rfl, hS⟩ hA
 refine zR 5 ((7, yN) :: (8, vU x) :: (26, yN) :: (25, vU x) :: (19, .tuple #[vU x, yN]) :: _) hA rfl fun a hA => zn (zx (zs (zs (zr (zR 2 ((28, yF) :: (27, yN) :: _) hA rfl fun a hA => zn (zx (cd_cond_f hA rfl (zk (zx (zs (zr (zR 3 ((33, vP b 2) :: (32, vP b 0) :: (31, vP b 0) :: _) hA rfl fun a hA => zL hA hS 1 rfl rfl rfl rfl rfl rfl rfl rfl rfl fun a hA => zR 2 ((36, vU x) :: (35, vI ob) :: _) hA rfl fun a hA => ?_))))))))))))
 obtain ⟨b9, o10, rfl⟩ := hO1.isSome (k := ob) (by omega)
 refine st_val hA rfl rfl (by decide) (rn_indexAddr tbOk hA ob (o10 + (ob * 5)) rfl rfl rfl rfl rfl rfl (by rfl) (by omega) (by first | rfl | simp [Nat.mul_one, Nat.zero_add] | omega)) fun a hA => zR 1 ((38, vP b9 (o10 + (ob * 5) + 1)) :: _) hA rfl fun a hA => ?_
 replace hS := hS.m2
 refine st_store_own tbOk hA hO1 hS ((ob * 5) + 1) (o10 + (ob * 5) + 1) [vU x] (rows encOb (os.set ob (true, x, e, va, li))) rfl rfl rfl rfl (by rfl) rfl rfl (by intro u hu; rw [List.mem_singleton.1 hu]; rfl) (by simp only [rows_length encOb_ok, List.length_set]; simp; omega) (rows_setf encOb_ok (true, x, e, va, li) (hx) 1 [vU x] (zle rfl) rfl) rfl rfl ?_; clear hS; intro w11 C12 hO12 hS
 refine zn (zx (zs (zr (zR 3 ((41, vP b 2) :: (40, vP b 0) :: (39, vP b 0) :: _) hA rfl fun a hA => zL hA hS 2 rfl rfl rfl rfl rfl rfl rfl rfl rfl fun a hA => zR 1 ((43, vI ob) :: _) hA rfl fun a hA => st_val hA rfl rfl (by decide) (rn_indexAddr tbOk hA ob (o10 + (ob * 5)) rfl rfl rfl rfl rfl rfl (by rfl) (by omega) (by first | rfl | simp [Nat.mul_one, Nat.zero_add] | omega)) fun a hA => zR 1 ((45, vP b9 (o10 + (ob * 5) + 2)) :: _) hA rfl fun a hA => st_val hA rfl rfl (by decide) (rn_load tbOk hA rfl rfl rfl rfl ((hO12.rd (hS.own_ 0 rfl)).elemf (k := ob) encOb_ok (List.getElem?_set_self hol) (j := 2) rfl)) fun a hA => ?_))))
 refine zR 1 ((47, .int .i64 (IntKind.i64.wrap (e + 1))) :: _) hA rfl fun a hA => ?_
 replace hA := hA.rw 47 (v' := .int .i64 (e + 1)) rfl (wr64 (by omega) (by omega) (by omega))
 refine st_val hA rfl rfl (by decide) (rn_indexAddr tbOk hA ob (o10 + (ob * 5)) rfl rfl rfl rfl rfl rfl (by rfl) (by omega) (by first | rfl | simp [Nat.mul_one, Nat.zero_add] | omega)) fun a hA => zR 1 ((49, vP b9 (o10 + (ob * 5) + 2)) :: _) hA rfl fun a hA => ?_
 refine st_store_own tbOk hA hO12 hS ((ob * 5) + 2) (o10 + (ob * 5) + 2) [.int .i64 (e + 1)] (rows encOb ((os.set ob (true, x, e, va, li)).set ob (true, x, e + 1, va, li))) rfl rfl rfl rfl (by rfl) rfl rfl (by intro u hu; rw [List.mem_singleton.1 hu]; rfl) (by simp only [rows_length encOb_ok, List.length_set]; simp; omega) (rows_setf encOb_ok (true, x, e + 1, va, li) ((List.getElem?_set_self hol)) 2 [.int .i64 (e + 1)] (zle rfl) rfl) rfl rfl ?_; clear hS; intro w13 C14 hO14 hS
 refine zn (zx (zs (zr (zR 3 ((52, vU x) :: (51, vI ob) :: (50, vP b 0) :: _) hA rfl fun a hA => ?_))))
 replace hS := hS.m2
 refine st_call0 hA rfl rfl rfl isfn129 rfl rfl (by decide) (obcap129 hS ob 255 x (by omega)) ?_
 clear hA hS; rintro _ w15 a ⟨rfl, hS⟩ hA
 replace hS := hS.m3
 refine st_store tbOk hA hS [vU po, vW ob, .int .u8 255, vU x] [vU po, vW ob, .int .u8 255, vU x] rfl rfl rfl rfl rfl rfl (zn1 rfl) (zle rfl) rfl rfl rfl fun w16 hS => ?_
 refine zR 1 ((5, yN) :: _) hA rfl fun a hA => zn (zx ?_)
 refine wp_ret ?_
 refine retc2 tbOk (fn := Tryz.f125) (cs := [vU po, vW ob, .int .u8 255, vU x]) hA rfl rfl rfl rfl rfl rfl (cells_row (hS.heapAt 0 rfl) rfl) ?_
 replace hS := hS.d0.m3.d0.m2.m2.m2
 replace hS := hS.join
 have hse : (os.set ob (true, x, e, va, li)).set ob (true, x, e + 1, va, li) = os.set ob (true, x, e + 1, va, li) := by rw [List.set_set]
 have h9 := hO14; rw [hse] at h9
 have hl9 : os.length = (os.set ob (true, x, e + 1, va, li)).length := by rw [List.length_set]
 rw [hl9] at h9 hS; exact ⟨_, _, ⟨_, _, h9, rfl⟩, hO8, rfl, hS⟩
end Go.Proofs.YthiakdmhpfkjbaaGreatDoor

set_option linter.unusedVariables false
set_option linter.unusedSimpArgs false
set_option maxRecDepth 4000
namespace Go.Proofs.YthiakdmhpfkjbaaGreatDoor
open Go Go.SK
theorem upd_setCell {w : World} {b : Nat} {x v : Value} {T : TypeId} (hb : w.heap[b]? = some (rowO [x] T)) : Upd w (w.setCell ⟨b, 0, none⟩ v) b (rowO [v] T) := by
  refine ⟨rfl, rfl, rfl, by simp [World.setCell], ?_, fun k _ hk => RowKit.Below.heap_setCell w _ _ k hk⟩
  simp only [World.setCell, Array.getElem?_modify, if_true, hb]
  rfl
def HG (w : World) : Prop := w.cell? ⟨0, 0, none⟩ = some (.iface 230 (.agg #[vP 1 26]))
theorem asHit {w0 w : World} {F : List Chunk} {b : Nat} {x : Value} (hS : St w0 w ([(b, rowO [x] 55)] :: F)) (hg : HG w0) (n : Int) :
    Ret Tryz.prog 45 #[.iface 55 (.int .i64 n), .iface 105 (vP b 0)] w (fun v w' => v = yT ∧ St w0 w' ([(b, rowO [.int .i64 n] 55)] :: F)) := by
  have hb := hS.heapAt 0 rfl
  refine Calls.mono (as_hit n ⟨b, 0, none⟩ x w (hS.old hg) (cell_row hb rfl) (by simp [World.frozen?, hb, rowO])) fun e w' ⟨he, hw⟩ => ⟨_, he, rfl, ?_⟩
  subst hw
  have h4 := (((hS.alloc (.cells #[vP b 0] 105)).alloc (.cells #[vP 1 105, vP w.heap.size 0, .int .u64 150] 157)).alloc (.cells #[vP 1 105, vP w.heap.size 0, .int .u64 150] 157)).alloc (.cells #[.int .i64 n] 55)
  have h5 := h4.drop1.drop1.drop1.drop1
  exact h5.upd (upd_setCell (h5.heapAt 0 rfl))
theorem number_hit17 {w0 w : World} {F : List Chunk} (hS : St w0 w F) (hg : HG w0) (n : Int) :
 Ret Tryz.prog 17 #[.iface 55 (.int .i64 n)] w (fun v w' => v = .int .i64 n ∧ St w0 w' F) := by
 refine enter (vs := [.iface 55 (.int .i64 n)]) 8 Tryz.func17 rfl rfl (by simp) ?_; intro a hA
 refine zs (zr (zR 1 ((2, yI) :: _) hA rfl fun a hA => zn (zx (zs (zr ?_)))))
 refine st_alloc tbOk hA hS [yI] rfl rfl rfl rfl rfl (by decide) fun b1 w2 a hS hA => ?_
 refine zn (zx (zs (zs (zr (zR 2 ((5, .iface 105 (vP b1 0)) :: (4, .iface 55 (.int .i64 n)) :: _) hA rfl fun a hA => ?_)))))
 refine st_call0 hA rfl rfl rfl isfn45 rfl rfl (by decide) (asHit hS hg n) ?_
 clear hA hS; rintro v w3 a ⟨rfl, hS⟩ hA
 refine zn (zx (cd_cond_t hA rfl (zs (zr (zL hA hS 0 rfl rfl rfl rfl rfl rfl rfl rfl rfl fun a hA => zR 1 ((2, .int .i64 n) :: _) hA rfl fun a hA => zn (zx ?_))))))
 refine wp_ret (xt_ret ?_)
 refine ret1 (fn := Tryz.f17) hA rfl rfl ?_
 replace hS := hS.d0
 exact ⟨rfl, hS⟩
theorem fneed_102_214 {w0 w : World} {F : List Chunk} (hS : St w0 w F) (p : Value) :
 Ret Tryz.prog 214 #[p, .int .u16 102] w (fun v w' => v = .tuple #[.int .u8 1, yT] ∧ St w0 w' F) := by
 refine enter (vs := [p, .int .u16 102]) 14 Tryz.func214 rfl rfl (by simp) ?_; intro a hA
 refine zs (zr (zR 2 ((5, yF) :: (4, yB) :: _) hA rfl fun a hA => zn (zx (zs (zs (zr (zR 1 ((6, .int .u16 102) :: _) hA rfl fun a hA => zn (zx (zb (zs (zr (zR 2 ((7, yF) :: (8, yF) :: _) hA rfl fun a hA => zn (zx (cd_cond_f hA rfl (zs (zs (zr (zR 2 ((9, yF) :: (10, yF) :: _) hA rfl fun a hA => zn (zx (cd_cond_f hA rfl (zr (zR 2 ((9, yT) :: (11, yT) :: _) hA rfl fun a hA => zn (zx (cd_cond_t hA rfl (zs (zr (zR 2 ((5, yT) :: (4, .int .u8 1) :: _) hA rfl fun a hA => zn (zx ?_))))))))))))))))))))))))))))
 refine wp_ret (xb_ret (xt_ret ?_))
 refine ret2 (fn := Tryz.f214) hA rfl rfl rfl ?_
 exact ⟨rfl, hS⟩
theorem hfault103 {w0 w : World} {F : List Chunk} (hS : St w0 w F) (hg : HG w0) (m : MN) (d : Value) {n : Nat} (hn : n < 65536) :
 Ret Tryz.prog 103 #[.agg #[vU m.to, vU m.rp, vW m.id, vH m.op, vH m.st, vU m.po, vW m.ob, vB m.ri, vU m.ck, vU m.ar, d], .iface 55 (vI n)] w (fun v w' => ∃ A c C, Own 5 1 (.slice A (([] : List UInt8)).length c) (([] : List UInt8)).length (rows encB (([] : List UInt8))) C ∧ v = .agg #[vU m.rp, vU m.to, vW m.id, vH m.op, vH n, yU, yW, yB, yU, yU, .slice A 0 c] ∧ St w0 w' (C :: F)) := by
 refine enter (vs := [.agg #[vU m.to, vU m.rp, vW m.id, vH m.op, vH m.st, vU m.po, vW m.ob, vB m.ri, vU m.ck, vU m.ar, d], .iface 55 (vI n)]) 10 Tryz.func103 rfl rfl (by simp) ?_; intro a hA
 refine zs (zr ?_)
 refine st_box hA hS [vU m.to, vU m.rp, vW m.id, vH m.op, vH m.st, vU m.po, vW m.ob, vB m.ri, vU m.ck, vU m.ar, d] rfl rfl rfl rfl rfl (by decide) fun b1 w2 a hS hA => ?_
 refine st_alloc tbOk hA hS [yU, yU, yW, yH, yH, yU, yW, yB, yU, yU, yS] rfl rfl rfl rfl rfl (by decide) fun b3 w4 a hS hA => ?_
 refine zn (zx (zs ?_))
 refine zD1 hS [5] [(0, true), (1, true), (3, true), (2, false), (4, false), (5, false)] mixed (by kernel_rfl) (by rintro c a w ⟨_, _, h, _⟩; cases h) (by rfl) (by kernel_rfl) ?_
 replace hS := hS.drew
 refine zYA hA (hS.tail 1 rfl) 0 [vU m.to, vU m.rp, vW m.id, vH m.op, vH m.st, vU m.po, vW m.ob, vB m.ri, vU m.ck, vU m.ar, d] rfl rfl rfl rfl rfl rfl rfl rfl rfl rfl rfl fun a hA => zW 2 ((8, .agg #[yU, yW, yB, yU]) :: (6, .iface 55 (vI n)) :: _) hA (hS.tail 1 rfl) rfl fun a hA => dr_b (o := _) rfl ?_
 refine st_call0 hA rfl rfl rfl isfn17 rfl rfl (by decide) (number_hit17 hS hg ((n : Nat) : Int)) ?_
 clear hA hS; rintro v w5 a ⟨rfl, hS⟩ hA
 refine zi (hS.tail 1 rfl) (dr_b (o := _) rfl ?_)
 refine st_call0 hA rfl rfl rfl isfn105 rfl rfl (by decide) (answer105 hS { m with op := m.op } _ n 0 0 0 0 0 (da := ([] : List UInt8)) RdSX.nil (by first | omega | (simp only [List.length_append, be_length, capb_length, List.length_cons, List.length_nil, List.length_drop, List.length_take]; omega)) (by omega)) ?_
 clear hA hS; rintro _ w9 a ⟨A6, c7, C8, hO8, rfl, hS⟩ hA
 obtain ⟨_, _, _, hmc7, hxc7⟩ := hO8.open'
 refine zi (hS.tail 2 rfl) (dr_b (o := _) rfl ?_)
 replace hS := hS.m1
 refine st_store tbOk hA hS [vU m.rp, vU m.to, vW m.id, vH m.op, vH n, yU, yW, yB, yU, yU, .slice A6 (([] : List UInt8).length) c7] [vU m.rp, vU m.to, vW m.id, vH m.op, vH n, yU, yW, yB, yU, yU, .slice A6 (([] : List UInt8).length) c7] rfl rfl rfl rfl rfl rfl (zn1 rfl) (zle rfl) rfl rfl rfl fun w10 hS => ?_
 refine dr_nil (.inl (by decide)) (ze (zx ?_))
 refine wp_ret ?_
 refine retc1 tbOk (fn := Tryz.f103) (cs := [vU m.rp, vU m.to, vW m.id, vH m.op, vH n, yU, yW, yB, yU, yU, .slice A6 (([] : List UInt8).length) c7]) hA rfl rfl rfl rfl rfl (cells_row (hS.heapAt 0 rfl) rfl) ?_
 replace hS := hS.d0.d1
 exact ⟨_, _, _, hO8, rfl, hS⟩
set_option maxHeartbeats 4000000 in
theorem skdo_restrict104 {w0 w : World} {F : List Chunk} {b po bo nx bb : Nat} {os : List (Bool × Nat × Int × Int × Int)} {fl : List (Nat × List UInt8)} {L O D : Chunk} {en en2 : List (Nat × Nat × Nat)} {ts : List Nat} {k k2 : Nat} (hS : St w0 w (L :: O :: F)) (hV : SVR w0 b po bo os fl nx bb L D) (hO : ORR bo en ts k O) (m : MN) (hpo : po < 281474976710656) (hob : m.ob < 16777216) (hck : m.ck < 281474976710656) {s x : Nat} {e va li : Int} (hox : os[m.ob]? = some (true, s, e, va, li)) (hos : s < 2 ^ 64) (hol1 : os.length ≤ 64) (d : Value) (hock : s % 281474976710656 = m.ck) (har : m.ar < 256) (hT : tokM s m.ar en ts k = some (x, en2, k2)) :
 Ret Tryz.prog 104 #[vP b 0, .agg #[vU m.to, vU m.rp, vW m.id, .int .u16 3, vH m.st, vU po, vW m.ob, .int .u8 255, vU m.ck, vU m.ar, d]] w (fun v w' => ∃ L' O', SVR w0 b po bo os fl nx bb L' D ∧ ORR bo en2 ts k2 O' ∧ v = .tuple #[.agg #[vU po, vW m.ob, vB m.ar, vU x, yU, yS], yN] ∧ St w0 w' (L' :: O' :: F)) := by
 obtain ⟨bf, bt, L1, hB, rfl⟩ := hV
 replace hS : St w0 w ([(b, rowO [vP bt 0, .iface 260 (vP bf 0)] 222)] :: L1 :: O :: F) := hS.cast (by simp)
 refine enter (vs := [vP b 0, .agg #[vU m.to, vU m.rp, vW m.id, .int .u16 3, vH m.st, vU po, vW m.ob, .int .u8 255, vU m.ck, vU m.ar, d]]) 152 Tryz.func104 rfl rfl (by simp) ?_; intro a hA
 refine zs (zr ?_)
 refine st_box hA hS [vU m.to, vU m.rp, vW m.id, .int .u16 3, vH m.st, vU po, vW m.ob, .int .u8 255, vU m.ck, vU m.ar, d] rfl rfl rfl rfl rfl (by decide) fun b1 w2 a hS hA => ?_
 refine st_alloc tbOk hA hS [yU, yW, yB, yU, yU, yS] rfl rfl rfl rfl rfl (by decide) fun b3 w4 a hS hA => ?_
 refine zR 1 ((5, yN) :: _) hA rfl fun a hA => zn (zx (zs (zs (zr (zR 1 ((19, vP b1 5) :: _) hA rfl fun a hA => zLA hA hS 1 [vU po, vW m.ob, .int .u8 255, vU m.ck] rfl rfl rfl rfl rfl rfl rfl rfl rfl rfl fun a hA => ?_)))))
 refine st_call0 hA rfl rfl rfl isfn82 rfl rfl (by decide) (cmay82 hS (po := po) (ob := m.ob) (ri := 255) (ck := m.ck) (by omega) (by omega) (by omega)) ?_
 clear hA hS; rintro _ w5 a ⟨rfl, hS⟩ hA
 refine zR 1 ((22, yF) :: _) hA rfl fun a hA => zn (zx (cd_cond_f hA rfl (zk (zx (zs (zs (zr (zR 1 ((25, vP b1 3) :: _) hA rfl fun a hA => zL hA hS 1 rfl rfl rfl rfl rfl rfl rfl rfl rfl fun a hA => zn (zx (zb (zs (zr (zR 2 ((27, yF) :: (28, yF) :: _) hA rfl fun a hA => zn (zx (cd_cond_f hA rfl (zs (zr (zR 2 ((48, yF) :: (49, yF) :: _) hA rfl fun a hA => zn (zx (cd_cond_f hA rfl (zs (zr (zR 2 ((58, yT) :: (59, yT) :: _) hA rfl fun a hA => zn (zx (cd_cond_t hA rfl (zs ?_))))))))))))))))))))))))))
 replace hS := hS.m4.m4
 refine wp_drawN (fun w' => St w0 w' ([(b3, rowO [yU, yW, yB, yU, yU, yS] 225)] :: [(b1, rowO [vU m.to, vU m.rp, vW m.id, .int .u16 3, vH m.st, vU po, vW m.ob, .int .u8 255, vU m.ck, vU m.ar, d] 46)] :: [(b, rowO [vP bt 0, .iface 260 (vP bf 0)] 222)] :: F)) [] [(0, true), (1, true), (2, true), (3, true), (4, true), (5, true), (6, true), (7, true), (8, true)] 9 (.L [(10, true), (11, true), (12, true), (13, false), (14, false), (15, true)]) 13 (.L [(9, false), (10, true), (11, true), (12, true), (14, false), (15, true)]) mixed (by kernel_rfl) (by rintro c a w ⟨_, _, h, _⟩; cases h) (by rfl) (by kernel_rfl) ?_
 replace hS := hS.drew
 refine zW 3 ((63, vP b 0) :: (62, vP b 0) :: (61, vP b 0) :: _) hA (hS.tail 2 rfl) rfl fun a hA => zY hA (hS.tail 2 rfl) 2 rfl rfl rfl rfl rfl rfl rfl rfl rfl rfl fun a hA => zW 1 ((65, vP b1 5) :: _) hA (hS.tail 2 rfl) rfl fun a hA => zYA hA (hS.tail 2 rfl) 1 [vU po, vW m.ob, .int .u8 255, vU m.ck] rfl rfl rfl rfl rfl rfl rfl rfl rfl rfl rfl fun a hA => zW 1 ((67, vP b1 9) :: _) hA (hS.tail 2 rfl) rfl fun a hA => zY hA (hS.tail 2 rfl) 1 rfl rfl rfl rfl rfl rfl rfl rfl rfl rfl fun a hA => zW 1 ((69, .int .u8 (IntKind.u8.wrap ((m.ar : Nat) : Int))) :: _) hA (hS.tail 2 rfl) rfl fun a hA => ?_
 replace hA := hA.rw 69 (v' := vB m.ar) rfl (vint (wrap_u8 (by omega) (by omega)))
 refine dr_fork ?_ ?_
 · refine dr_b (o := _) rfl ?_
   replace hS := hS.m1.m1
   obtain ⟨mq6, obq6, LTq6, fcq6, hTq6, hMpq6, hfkq6, hfdq6, rfl⟩ := hB
   replace hS : St w0 w5.drew ([(bf, rowO [.map (some mq6), vI nx, vI bb, vP bt 0] 263), (mq6, obq6)] :: LTq6 :: O :: [(b3, rowO [yU, yW, yB, yU, yU, yS] 225)] :: [(b1, rowO [vU m.to, vU m.rp, vW m.id, .int .u16 3, vH m.st, vU po, vW m.ob, .int .u8 255, vU m.ck, vU m.ar, d] 46)] :: [(b, rowO [vP bt 0, .iface 260 (vP bf 0)] 222)] :: F) := hS.cast (by simp)
   replace hS := hS.m2.m2
   refine st_call0 hA rfl rfl rfl isfn124 rfl rfl (by decide) (orestrict124 hS hTq6 hO hox hol1 hos hock har hT) ?_
   clear hA hS; rintro _ w7 a ⟨LT2q6, O2q6, hT2q6, hO2, rfl, hS⟩ hA
   replace hS := hS.m2.m1.m1
   replace hS : St w0 w7 (((bf, rowO [.map (some mq6), vI nx, vI bb, vP bt 0] 263) :: ((mq6, obq6) :: LT2q6)) :: O2q6 :: [(b3, rowO [yU, yW, yB, yU, yU, yS] 225)] :: [(b1, rowO [vU m.to, vU m.rp, vW m.id, .int .u16 3, vH m.st, vU po, vW m.ob, .int .u8 255, vU m.ck, vU m.ar, d] 46)] :: [(b, rowO [vP bt 0, .iface 260 (vP bf 0)] 222)] :: F) := hS.cast (by simp)
   obtain ⟨L9q6, hBq6, hS9⟩ : ∃ L9, FBR w0 bf bt po bo os fl nx bb L9 D ∧ St w0 w7 (L9 :: O2q6 :: [(b3, rowO [yU, yW, yB, yU, yU, yS] 225)] :: [(b1, rowO [vU m.to, vU m.rp, vW m.id, .int .u16 3, vH m.st, vU po, vW m.ob, .int .u8 255, vU m.ck, vU m.ar, d] 46)] :: [(b, rowO [vP bt 0, .iface 260 (vP bf 0)] 222)] :: F) := ⟨_, ⟨_, _, _, _, hT2q6, hMpq6, hfkq6, hfdq6, rfl⟩, hS⟩
   clear hS; have hS := hS9; clear hS9
   refine zi (hS.tail 2 rfl) ?_
   refine dr_subL ?_
   refine zW 3 ((72, yN) :: (71, .agg #[vU po, vW m.ob, vB m.ar, vU x]) :: (60, .tuple #[.agg #[vU po, vW m.ob, vB m.ar, vU x], yN]) :: _) hA (hS.tail 2 rfl) rfl fun a hA => dr_b (o := _) rfl ?_
   refine st_alloc tbOk hA hS [yU, yW, yB, yU] rfl rfl rfl rfl rfl (by decide) fun b8 w9 a hS hA => ?_
   refine zi (hS.tail 3 rfl) (dr_b (o := _) rfl ?_)
   refine st_store tbOk hA hS [vU po, vW m.ob, vB m.ar, vU x] [vU po, vW m.ob, vB m.ar, vU x] rfl rfl rfl rfl rfl rfl (zn1 rfl) (zle rfl) rfl rfl rfl fun w10 hS => ?_
   refine zi (hS.tail 3 rfl) (zW 1 ((10, yN) :: _) hA (hS.tail 3 rfl) rfl fun a hA => ze (zx (zs (zr (zLA hA hS 0 [vU po, vW m.ob, vB m.ar, vU x] rfl rfl rfl rfl rfl rfl rfl rfl rfl rfl fun a hA => zR 2 ((75, yN) :: (74, .agg #[vU po, vW m.ob, vB m.ar, vU x, yU, yS]) :: _) hA rfl fun a hA => ?_)))))
   replace hS := hS.m3
   refine st_store tbOk hA hS [vU po, vW m.ob, vB m.ar, vU x, yU, yS] [vU po, vW m.ob, vB m.ar, vU x, yU, yS] rfl rfl rfl rfl rfl rfl (zn1 rfl) (zle rfl) rfl rfl rfl fun w11 hS => ?_
   refine zR 1 ((5, yN) :: _) hA rfl fun a hA => zn (zx ?_)
   refine wp_ret (xb_ret (xt_ret ?_))
   refine retc2 tbOk (fn := Tryz.f104) (cs := [vU po, vW m.ob, vB m.ar, vU x, yU, yS]) hA rfl rfl rfl rfl rfl rfl (cells_row (hS.heapAt 0 rfl) rfl) ?_
   replace hS := hS.d0.d0.m2.d0.m1.m1.m2
   exact ⟨_, _, ⟨_, _, _, hBq6, rfl⟩, hO2, rfl, hS.join⟩
 · refine dr_b (o := _) rfl ?_
   refine st_alloc tbOk hA hS [yU, yW, yB, yU] rfl rfl rfl rfl rfl (by decide) fun b12 w13 a hS hA => ?_
   refine zi (hS.tail 3 rfl) ?_
   refine dr_subL ?_
   refine dr_b (o := _) rfl ?_
   replace hS := hS.m2.m2
   obtain ⟨mq14, obq14, LTq14, fcq14, hTq14, hMpq14, hfkq14, hfdq14, rfl⟩ := hB
   replace hS : St w0 w13 ([(bf, rowO [.map (some mq14), vI nx, vI bb, vP bt 0] 263), (mq14, obq14)] :: LTq14 :: O :: [(b12, rowO [yU, yW, yB, yU] 39)] :: [(b3, rowO [yU, yW, yB, yU, yU, yS] 225)] :: [(b1, rowO [vU m.to, vU m.rp, vW m.id, .int .u16 3, vH m.st, vU po, vW m.ob, .int .u8 255, vU m.ck, vU m.ar, d] 46)] :: [(b, rowO [vP bt 0, .iface 260 (vP bf 0)] 222)] :: F) := hS.cast (by simp)
   replace hS := hS.m2.m2
   refine st_call0 hA rfl rfl rfl isfn124 rfl rfl (by decide) (orestrict124 hS hTq14 hO hox hol1 hos hock har hT) ?_
   clear hA hS; rintro _ w15 a ⟨LT2q14, O2q14, hT2q14, hO2, rfl, hS⟩ hA
   replace hS := hS.m2.m1.m1
   replace hS : St w0 w15 (((bf, rowO [.map (some mq14), vI nx, vI bb, vP bt 0] 263) :: ((mq14, obq14) :: LT2q14)) :: O2q14 :: [(b12, rowO [yU, yW, yB, yU] 39)] :: [(b3, rowO [yU, yW, yB, yU, yU, yS] 225)] :: [(b1, rowO [vU m.to, vU m.rp, vW m.id, .int .u16 3, vH m.st, vU po, vW m.ob, .int .u8 255, vU m.ck, vU m.ar, d] 46)] :: [(b, rowO [vP bt 0, .iface 260 (vP bf 0)] 222)] :: F) := hS.cast (by simp)
   obtain ⟨L9q14, hBq14, hS9⟩ : ∃ L9, FBR w0 bf bt po bo os fl nx bb L9 D ∧ St w0 w15 (L9 :: O2q14 :: [(b12, rowO [yU, yW, yB, yU] 39)] :: [(b3, rowO [yU, yW, yB, yU, yU, yS] 225)] :: [(b1, rowO [vU m.to, vU m.rp, vW m.id, .int .u16 3, vH m.st, vU po, vW m.ob, .int .u8 255, vU m.ck, vU m.ar, d] 46)] :: [(b, rowO [vP bt 0, .iface 260 (vP bf 0)] 222)] :: F) := ⟨_, ⟨_, _, _, _, hT2q14, hMpq14, hfkq14, hfdq14, rfl⟩, hS⟩
   clear hS; have hS := hS9; clear hS9
   refine zi (hS.tail 3 rfl) (zW 3 ((72, yN) :: (71, .agg #[vU po, vW m.ob, vB m.ar, vU x]) :: (60, .tuple #[.agg #[vU po, vW m.ob, vB m.ar, vU x], yN]) :: _) hA (hS.tail 3 rfl) rfl fun a hA => dr_b (o := _) rfl ?_)
   replace hS := hS.m2
   refine st_store tbOk hA hS [vU po, vW m.ob, vB m.ar, vU x] [vU po, vW m.ob, vB m.ar, vU x] rfl rfl rfl rfl rfl rfl (zn1 rfl) (zle rfl) rfl rfl rfl fun w16 hS => ?_
   refine zi (hS.tail 3 rfl) (zW 1 ((10, yN) :: _) hA (hS.tail 3 rfl) rfl fun a hA => ze (zx (zs (zr (zLA hA hS 0 [vU po, vW m.ob, vB m.ar, vU x] rfl rfl rfl rfl rfl rfl rfl rfl rfl rfl fun a hA => zR 2 ((75, yN) :: (74, .agg #[vU po, vW m.ob, vB m.ar, vU x, yU, yS]) :: _) hA rfl fun a hA => ?_)))))
   replace hS := hS.m3
   refine st_store tbOk hA hS [vU po, vW m.ob, vB m.ar, vU x, yU, yS] [vU po, vW m.ob, vB m.ar, vU x, yU, yS] rfl rfl rfl rfl rfl rfl (zn1 rfl) (zle rfl) rfl rfl rfl fun w17 hS => ?_
   refine zR 1 ((5, yN) :: _) hA rfl fun a hA => zn (zx ?_)
   refine wp_ret (xb_ret (xt_ret ?_))
   refine retc2 tbOk (fn := Tryz.f104) (cs := [vU po, vW m.ob, vB m.ar, vU x, yU, yS]) hA rfl rfl rfl rfl rfl rfl (cells_row (hS.heapAt 0 rfl) rfl) ?_
   replace hS := hS.d0.d0.m2.d0.m1.m1.m2
   exact ⟨_, _, ⟨_, _, _, hBq14, rfl⟩, hO2, rfl, hS.join⟩
set_option maxHeartbeats 4000000 in
theorem skdo_revoke104 {w0 w : World} {F : List Chunk} {b po bo nx bb : Nat} {os : List (Bool × Nat × Int × Int × Int)} {fl : List (Nat × List UInt8)} {L O D : Chunk} {en : List (Nat × Nat × Nat)} {ts : List Nat} {k : Nat} (hS : St w0 w (L :: O :: F)) (hV : SVR w0 b po bo os fl nx bb L D) (hO : ORR bo en ts k O) (m : MN) (hpo : po < 281474976710656) (hob : m.ob < 16777216) (hck : m.ck < 281474976710656) {s x : Nat} {e va li : Int} (hox : os[m.ob]? = some (true, s, e, va, li)) (hos : s < 2 ^ 64) (hol1 : os.length ≤ 64) (d : Value) (hock : s % 281474976710656 = m.ck) (hkx : ts[k]? = some x) (he0 : 0 ≤ e) (he1 : e < 1000000) :
 Ret Tryz.prog 104 #[vP b 0, .agg #[vU m.to, vU m.rp, vW m.id, .int .u16 4, vH m.st, vU po, vW m.ob, .int .u8 255, vU m.ck, vU m.ar, d]] w (fun v w' => ∃ L' O', SVR w0 b po bo (os.set m.ob (true, x, e + 1, va, li)) fl nx bb L' D ∧ ORR bo en ts (k + 1) O' ∧ v = .tuple #[.agg #[vU po, vW m.ob, .int .u8 255, vU x, yU, yS], yN] ∧ St w0 w' (L' :: O' :: F)) := by
 obtain ⟨bf, bt, L1, hB, rfl⟩ := hV
 replace hS : St w0 w ([(b, rowO [vP bt 0, .iface 260 (vP bf 0)] 222)] :: L1 :: O :: F) := hS.cast (by simp)
 refine enter (vs := [vP b 0, .agg #[vU m.to, vU m.rp, vW m.id, .int .u16 4, vH m.st, vU po, vW m.ob, .int .u8 255, vU m.ck, vU m.ar, d]]) 152 Tryz.func104 rfl rfl (by simp) ?_; intro a hA
 refine zs (zr ?_)
 refine st_box hA hS [vU m.to, vU m.rp, vW m.id, .int .u16 4, vH m.st, vU po, vW m.ob, .int .u8 255, vU m.ck, vU m.ar, d] rfl rfl rfl rfl rfl (by decide) fun b1 w2 a hS hA => ?_
 refine st_alloc tbOk hA hS [yU, yW, yB, yU, yU, yS] rfl rfl rfl rfl rfl (by decide) fun b3 w4 a hS hA => ?_
 refine zR 1 ((5, yN) :: _) hA rfl fun a hA => zn (zx (zs (zs (zr (zR 1 ((19, vP b1 5) :: _) hA rfl fun a hA => zLA hA hS 1 [vU po, vW m.ob, .int .u8 255, vU m.ck] rfl rfl rfl rfl rfl rfl rfl rfl rfl rfl fun a hA => ?_)))))
 refine st_call0 hA rfl rfl rfl isfn82 rfl rfl (by decide) (cmay82 hS (po := po) (ob := m.ob) (ri := 255) (ck := m.ck) (by omega) (by omega) (by omega)) ?_
 clear hA hS; rintro _ w5 a ⟨rfl, hS⟩ hA
 refine zR 1 ((22, yF) :: _) hA rfl fun a hA => zn (zx (cd_cond_f hA rfl (zk (zx (zs (zs (zr (zR 1 ((25, vP b1 3) :: _) hA rfl fun a hA => zL hA hS 1 rfl rfl rfl rfl rfl rfl rfl rfl rfl fun a hA => zn (zx (zb (zs (zr (zR 2 ((27, yF) :: (28, yF) :: _) hA rfl fun a hA => zn (zx (cd_cond_f hA rfl (zs (zr (zR 2 ((48, yF) :: (49, yF) :: _) hA rfl fun a hA => zn (zx (cd_cond_f hA rfl (zs (zr (zR 2 ((58, yF) :: (59, yF) :: _) hA rfl fun a hA => zn (zx (cd_cond_f hA rfl (zs (zr (zR 2 ((76, yT) :: (77, yT) :: _) hA rfl fun a hA => zn (zx (cd_cond_t hA rfl (zs ?_)))))))))))))))))))))))))))))))
 replace hS := hS.m4.m4
 refine wp_drawN (fun w' => St w0 w' ([(b3, rowO [yU, yW, yB, yU, yU, yS] 225)] :: [(b1, rowO [vU m.to, vU m.rp, vW m.id, .int .u16 4, vH m.st, vU po, vW m.ob, .int .u8 255, vU m.ck, vU m.ar, d] 46)] :: [(b, rowO [vP bt 0, .iface 260 (vP bf 0)] 222)] :: F)) [] [(0, true), (1, true), (2, true), (3, true), (4, true), (5, true)] 6 (.L [(7, true), (8, true), (9, true), (10, false), (11, false), (12, true)]) 10 (.L [(6, false), (7, true), (8, true), (9, true), (11, false), (12, true)]) mixed (by kernel_rfl) (by rintro c a w ⟨_, _, h, _⟩; cases h) (by rfl) (by kernel_rfl) ?_
 replace hS := hS.drew
 refine zW 3 ((81, vP b 0) :: (80, vP b 0) :: (79, vP b 0) :: _) hA (hS.tail 2 rfl) rfl fun a hA => zY hA (hS.tail 2 rfl) 2 rfl rfl rfl rfl rfl rfl rfl rfl rfl rfl fun a hA => zW 1 ((83, vP b1 5) :: _) hA (hS.tail 2 rfl) rfl fun a hA => zYA hA (hS.tail 2 rfl) 1 [vU po, vW m.ob, .int .u8 255, vU m.ck] rfl rfl rfl rfl rfl rfl rfl rfl rfl rfl rfl fun a hA => ?_
 refine dr_fork ?_ ?_
 · refine dr_b (o := _) rfl ?_
   replace hS := hS.m1.m1
   obtain ⟨mq6, obq6, LTq6, fcq6, hTq6, hMpq6, hfkq6, hfdq6, rfl⟩ := hB
   replace hS : St w0 w5.drew ([(bf, rowO [.map (some mq6), vI nx, vI bb, vP bt 0] 263), (mq6, obq6)] :: LTq6 :: O :: [(b3, rowO [yU, yW, yB, yU, yU, yS] 225)] :: [(b1, rowO [vU m.to, vU m.rp, vW m.id, .int .u16 4, vH m.st, vU po, vW m.ob, .int .u8 255, vU m.ck, vU m.ar, d] 46)] :: [(b, rowO [vP bt 0, .iface 260 (vP bf 0)] 222)] :: F) := hS.cast (by simp)
   replace hS := hS.m2.m2
   refine st_call0 hA rfl rfl rfl isfn125 rfl rfl (by decide) (orevoke125 hS hTq6 hO hox hol1 hos hock hkx he0 he1) ?_
   clear hA hS; rintro _ w7 a ⟨LT2q6, O2q6, hT2q6, hO2, rfl, hS⟩ hA
   replace hS := hS.m2.m1.m1
   replace hS : St w0 w7 (((bf, rowO [.map (some mq6), vI nx, vI bb, vP bt 0] 263) :: ((mq6, obq6) :: LT2q6)) :: O2q6 :: [(b3, rowO [yU, yW, yB, yU, yU, yS] 225)] :: [(b1, rowO [vU m.to, vU m.rp, vW m.id, .int .u16 4, vH m.st, vU po, vW m.ob, .int .u8 255, vU m.ck, vU m.ar, d] 46)] :: [(b, rowO [vP bt 0, .iface 260 (vP bf 0)] 222)] :: F) := hS.cast (by simp)
   obtain ⟨L9q6, hBq6, hS9⟩ : ∃ L9, FBR w0 bf bt po bo (os.set m.ob (true, x, e + 1, va, li)) fl nx bb L9 D ∧ St w0 w7 (L9 :: O2q6 :: [(b3, rowO [yU, yW, yB, yU, yU, yS] 225)] :: [(b1, rowO [vU m.to, vU m.rp, vW m.id, .int .u16 4, vH m.st, vU po, vW m.ob, .int .u8 255, vU m.ck, vU m.ar, d] 46)] :: [(b, rowO [vP bt 0, .iface 260 (vP bf 0)] 222)] :: F) := ⟨_, ⟨_, _, _, _, hT2q6, hMpq6, hfkq6, hfdq6, rfl⟩, hS⟩
   clear hS; have hS := hS9; clear hS9
   refine zi (hS.tail 2 rfl) ?_
   refine dr_subL ?_
   refine zW 3 ((87, yN) :: (86, .agg #[vU po, vW m.ob, .int .u8 255, vU x]) :: (78, .tuple #[.agg #[vU po, vW m.ob, .int .u8 255, vU x], yN]) :: _) hA (hS.tail 2 rfl) rfl fun a hA => dr_b (o := _) rfl ?_
   refine st_alloc tbOk hA hS [yU, yW, yB, yU] rfl rfl rfl rfl rfl (by decide) fun b8 w9 a hS hA => ?_
   refine zi (hS.tail 3 rfl) (dr_b (o := _) rfl ?_)
   refine st_store tbOk hA hS [vU po, vW m.ob, .int .u8 255, vU x] [vU po, vW m.ob, .int .u8 255, vU x] rfl rfl rfl rfl rfl rfl (zn1 rfl) (zle rfl) rfl rfl rfl fun w10 hS => ?_
   refine zi (hS.tail 3 rfl) (zW 1 ((12, yN) :: _) hA (hS.tail 3 rfl) rfl fun a hA => ze (zx (zs (zr (zLA hA hS 0 [vU po, vW m.ob, .int .u8 255, vU x] rfl rfl rfl rfl rfl rfl rfl rfl rfl rfl fun a hA => zR 2 ((90, yN) :: (89, .agg #[vU po, vW m.ob, .int .u8 255, vU x, yU, yS]) :: _) hA rfl fun a hA => ?_)))))
   replace hS := hS.m3
   refine st_store tbOk hA hS [vU po, vW m.ob, .int .u8 255, vU x, yU, yS] [vU po, vW m.ob, .int .u8 255, vU x, yU, yS] rfl rfl rfl rfl rfl rfl (zn1 rfl) (zle rfl) rfl rfl rfl fun w11 hS => ?_
   refine zR 1 ((5, yN) :: _) hA rfl fun a hA => zn (zx ?_)
   refine wp_ret (xb_ret (xt_ret ?_))
   refine retc2 tbOk (fn := Tryz.f104) (cs := [vU po, vW m.ob, .int .u8 255, vU x, yU, yS]) hA rfl rfl rfl rfl rfl rfl (cells_row (hS.heapAt 0 rfl) rfl) ?_
   replace hS := hS.d0.d0.m2.d0.m1.m1.m2
   exact ⟨_, _, ⟨_, _, _, hBq6, rfl⟩, hO2, rfl, hS.join⟩
 · refine dr_b (o := _) rfl ?_
   refine st_alloc tbOk hA hS [yU, yW, yB, yU] rfl rfl rfl rfl rfl (by decide) fun b12 w13 a hS hA => ?_
   refine zi (hS.tail 3 rfl) ?_
   refine dr_subL ?_
   refine dr_b (o := _) rfl ?_
   replace hS := hS.m2.m2
   obtain ⟨mq14, obq14, LTq14, fcq14, hTq14, hMpq14, hfkq14, hfdq14, rfl⟩ := hB
   replace hS : St w0 w13 ([(bf, rowO [.map (some mq14), vI nx, vI bb, vP bt 0] 263), (mq14, obq14)] :: LTq14 :: O :: [(b12, rowO [yU, yW, yB, yU] 39)] :: [(b3, rowO [yU, yW, yB, yU, yU, yS] 225)] :: [(b1, rowO [vU m.to, vU m.rp, vW m.id, .int .u16 4, vH m.st, vU po, vW m.ob, .int .u8 255, vU m.ck, vU m.ar, d] 46)] :: [(b, rowO [vP bt 0, .iface 260 (vP bf 0)] 222)] :: F) := hS.cast (by simp)
   replace hS := hS.m2.m2
   refine st_call0 hA rfl rfl rfl isfn125 rfl rfl (by decide) (orevoke125 hS hTq14 hO hox hol1 hos hock hkx he0 he1) ?_
   clear hA hS; rintro _ w15 a ⟨LT2q14, O2q14, hT2q14, hO2, rfl, hS⟩ hA
   replace hS := hS.m2.m1.m1
   replace hS : St w0 w15 (((bf, rowO [.map (some mq14), vI nx, vI bb, vP bt 0] 263) :: ((mq14, obq14) :: LT2q14)) :: O2q14 :: [(b12, rowO [yU, yW, yB, yU] 39)] :: [(b3, rowO [yU, yW, yB, yU, yU, yS] 225)] :: [(b1, rowO [vU m.to, vU m.rp, vW m.id, .int .u16 4, vH m.st, vU po, vW m.ob, .int .u8 255, vU m.ck, vU m.ar, d] 46)] :: [(b, rowO [vP bt 0, .iface 260 (vP bf 0)] 222)] :: F) := hS.cast (by simp)
   obtain ⟨L9q14, hBq14, hS9⟩ : ∃ L9, FBR w0 bf bt po bo (os.set m.ob (true, x, e + 1, va, li)) fl nx bb L9 D ∧ St w0 w15 (L9 :: O2q14 :: [(b12, rowO [yU, yW, yB, yU] 39)] :: [(b3, rowO [yU, yW, yB, yU, yU, yS] 225)] :: [(b1, rowO [vU m.to, vU m.rp, vW m.id, .int .u16 4, vH m.st, vU po, vW m.ob, .int .u8 255, vU m.ck, vU m.ar, d] 46)] :: [(b, rowO [vP bt 0, .iface 260 (vP bf 0)] 222)] :: F) := ⟨_, ⟨_, _, _, _, hT2q14, hMpq14, hfkq14, hfdq14, rfl⟩, hS⟩
   clear hS; have hS := hS9; clear hS9
   refine zi (hS.tail 3 rfl) (zW 3 ((87, yN) :: (86, .agg #[vU po, vW m.ob, .int .u8 255, vU x]) :: (78, .tuple #[.agg #[vU po, vW m.ob, .int .u8 255, vU x], yN]) :: _) hA (hS.tail 3 rfl) rfl fun a hA => dr_b (o := _) rfl ?_)
   replace hS := hS.m2
   refine st_store tbOk hA hS [vU po, vW m.ob, .int .u8 255, vU x] [vU po, vW m.ob, .int .u8 255, vU x] rfl rfl rfl rfl rfl rfl (zn1 rfl) (zle rfl) rfl rfl rfl fun w16 hS => ?_
   refine zi (hS.tail 3 rfl) (zW 1 ((12, yN) :: _) hA (hS.tail 3 rfl) rfl fun a hA => ze (zx (zs (zr (zLA hA hS 0 [vU po, vW m.ob, .int .u8 255, vU x] rfl rfl rfl rfl rfl rfl rfl rfl rfl rfl fun a hA => zR 2 ((90, yN) :: (89, .agg #[vU po, vW m.ob, .int .u8 255, vU x, yU, yS]) :: _) hA rfl fun a hA => ?_)))))
   replace hS := hS.m3
   refine st_store tbOk hA hS [vU po, vW m.ob, .int .u8 255, vU x, yU, yS] [vU po, vW m.ob, .int .u8 255, vU x, yU, yS] rfl rfl rfl rfl rfl rfl (zn1 rfl) (zle rfl) rfl rfl rfl fun w17 hS => ?_
   refine zR 1 ((5, yN) :: _) hA rfl fun a hA => zn (zx ?_)
   refine wp_ret (xb_ret (xt_ret ?_))
   refine retc2 tbOk (fn := Tryz.f104) (cs := [vU po, vW m.ob, .int .u8 255, vU x, yU, yS]) hA rfl rfl rfl rfl rfl rfl (cells_row (hS.heapAt 0 rfl) rfl) ?_
   replace hS := hS.d0.d0.m2.d0.m1.m1.m2
   exact ⟨_, _, ⟨_, _, _, hBq14, rfl⟩, hO2, rfl, hS.join⟩
set_option maxHeartbeats 4000000 in
theorem skdo_bad104 {w0 w : World} {F : List Chunk} {b po bo nx bb : Nat} {os : List (Bool × Nat × Int × Int × Int)} {fl : List (Nat × List UInt8)} {L O D : Chunk} {en en2 : List (Nat × Nat × Nat)} {ts : List Nat} {k k2 : Nat} (hS : St w0 w (L :: O :: F)) (hV : SVR w0 b po bo os fl nx bb L D) (hO : ORR bo en ts k O) (m : MN) (hpo : po < 281474976710656) (hob : m.ob < 16777216) (hck : m.ck < 281474976710656) {s x : Nat} {e va li : Int} (hox : os[m.ob]? = some (true, s, e, va, li)) (hos : s < 2 ^ 64) (hol1 : os.length ≤ 64) (d : Value) (hri : m.ri < 256) (hT : tokM s m.ri en ts k = some (x, en2, k2)) (hne : ¬ x = m.ck) :
 Ret Tryz.prog 104 #[vP b 0, .agg #[vU m.to, vU m.rp, vW m.id, .int .u16 102, vH m.st, vU po, vW m.ob, vB m.ri, vU m.ck, vU m.ar, d]] w (fun v w' => ∃ L' O', SVR w0 b po bo os fl nx bb L' D ∧ ORR bo en2 ts k2 O' ∧ v = .tuple #[.agg #[yU, yW, yB, yU, yU, yS], .iface 55 (.int .i64 1)] ∧ St w0 w' (L' :: O' :: F)) := by
 obtain ⟨bf, bt, L1, hB, rfl⟩ := hV
 replace hS : St w0 w ([(b, rowO [vP bt 0, .iface 260 (vP bf 0)] 222)] :: L1 :: O :: F) := hS.cast (by simp)
 refine enter (vs := [vP b 0, .agg #[vU m.to, vU m.rp, vW m.id, .int .u16 102, vH m.st, vU po, vW m.ob, vB m.ri, vU m.ck, vU m.ar, d]]) 152 Tryz.func104 rfl rfl (by simp) ?_; intro a hA
 refine zs (zr ?_)
 refine st_box hA hS [vU m.to, vU m.rp, vW m.id, .int .u16 102, vH m.st, vU po, vW m.ob, vB m.ri, vU m.ck, vU m.ar, d] rfl rfl rfl rfl rfl (by decide) fun b1 w2 a hS hA => ?_
 refine st_alloc tbOk hA hS [yU, yW, yB, yU, yU, yS] rfl rfl rfl rfl rfl (by decide) fun b3 w4 a hS hA => ?_
 refine zR 1 ((5, yN) :: _) hA rfl fun a hA => zn (zx (zs (zs (zr (zR 1 ((19, vP b1 5) :: _) hA rfl fun a hA => zLA hA hS 1 [vU po, vW m.ob, vB m.ri, vU m.ck] rfl rfl rfl rfl rfl rfl rfl rfl rfl rfl fun a hA => ?_)))))
 refine st_call0 hA rfl rfl rfl isfn82 rfl rfl (by decide) (cmay82 hS (po := po) (ob := m.ob) (ri := m.ri) (ck := m.ck) (by omega) (by omega) (by omega)) ?_
 clear hA hS; rintro _ w5 a ⟨rfl, hS⟩ hA
 refine zR 1 ((22, yF) :: _) hA rfl fun a hA => zn (zx (cd_cond_f hA rfl (zk (zx (zs (zs (zr (zR 1 ((25, vP b1 3) :: _) hA rfl fun a hA => zL hA hS 1 rfl rfl rfl rfl rfl rfl rfl rfl rfl fun a hA => zn (zx (zb (zs (zr (zR 2 ((27, yF) :: (28, yF) :: _) hA rfl fun a hA => zn (zx (cd_cond_f hA rfl (zs (zr (zR 2 ((48, yF) :: (49, yF) :: _) hA rfl fun a hA => zn (zx (cd_cond_f hA rfl (zs (zr (zR 2 ((58, yF) :: (59, yF) :: _) hA rfl fun a hA => zn (zx (cd_cond_f hA rfl (zs (zr (zR 2 ((76, yF) :: (77, yF) :: _) hA rfl fun a hA => zn (zx (cd_cond_f hA rfl (zs (zr (zR 2 ((91, yF) :: (92, yF) :: _) hA rfl fun a hA => zn (zx (cd_cond_f hA rfl (zk (zm (zx (zs ?_)))))))))))))))))))))))))))))))))))))))
 refine zD0 hS [] [(0, true), (1, true), (2, true), (3, true), (4, true), (5, true), (6, false), (7, true), (8, true), (9, true), (10, true), (11, true)] mixed (by kernel_rfl) (by rintro c a w ⟨_, _, h, _⟩; cases h) (by rfl) (by kernel_rfl) ?_
 replace hS := hS.drew
 refine zW 3 ((101, vP b 1) :: (100, vP b 0) :: (99, vP b 0) :: _) hA hS rfl fun a hA => zY hA hS 2 rfl rfl rfl rfl rfl rfl rfl rfl rfl rfl fun a hA => zW 1 ((103, vP b1 3) :: _) hA hS rfl fun a hA => zY hA hS 1 rfl rfl rfl rfl rfl rfl rfl rfl rfl rfl fun a hA => dr_b (o := _) rfl ?_
 refine st_invoke hA rfl rfl rfl rfl (methNeed _) isfn214 rfl rfl (by decide) (fneed_102_214 hS _) ?_
 clear hA hS; rintro _ w6 a ⟨rfl, hS⟩ hA
 refine zi hS (zW 5 ((14, yT) :: (13, .int .u8 1) :: (107, yT) :: (106, .int .u8 1) :: (98, .tuple #[.int .u8 1, yT]) :: _) hA hS rfl fun a hA => ze (zx (zs (zs (zr (zR 4 ((111, vP b1 3) :: (110, yF) :: (109, yF) :: (108, yT) :: _) hA rfl fun a hA => zL hA hS 1 rfl rfl rfl rfl rfl rfl rfl rfl rfl fun a hA => zR 2 ((114, yF) :: (113, yF) :: _) hA rfl fun a hA => zn (zx (cd_cond_f hA rfl (zk (zx (zs ?_)))))))))))
 replace hS := hS.m4.m4
 refine zD2 hS [] [(0, true), (1, true), (2, true), (3, true), (4, true), (5, true), (6, true), (7, false), (8, true), (9, true), (10, true), (11, true), (12, true)] mixed (by kernel_rfl) (by rintro c a w ⟨_, _, h, _⟩; cases h) (by rfl) (by kernel_rfl) ?_
 replace hS := hS.drew
 refine zW 3 ((120, vP b 0) :: (119, vP b 0) :: (118, vP b 0) :: _) hA (hS.tail 2 rfl) rfl fun a hA => zY hA (hS.tail 2 rfl) 2 rfl rfl rfl rfl rfl rfl rfl rfl rfl rfl fun a hA => zW 1 ((122, vP b1 5) :: _) hA (hS.tail 2 rfl) rfl fun a hA => zYA hA (hS.tail 2 rfl) 1 [vU po, vW m.ob, vB m.ri, vU m.ck] rfl rfl rfl rfl rfl rfl rfl rfl rfl rfl rfl fun a hA => zW 1 ((124, .int .u8 1) :: _) hA (hS.tail 2 rfl) rfl fun a hA => dr_b (o := _) rfl ?_
 replace hS := hS.m1.m1
 obtain ⟨mq7, obq7, LTq7, fcq7, hTq7, hMpq7, hfkq7, hfdq7, rfl⟩ := hB
 replace hS : St w0 w6.drew ([(bf, rowO [.map (some mq7), vI nx, vI bb, vP bt 0] 263), (mq7, obq7)] :: LTq7 :: O :: [(b3, rowO [yU, yW, yB, yU, yU, yS] 225)] :: [(b1, rowO [vU m.to, vU m.rp, vW m.id, .int .u16 102, vH m.st, vU po, vW m.ob, vB m.ri, vU m.ck, vU m.ar, d] 46)] :: [(b, rowO [vP bt 0, .iface 260 (vP bf 0)] 222)] :: F) := hS.cast (by simp)
 replace hS := hS.m2.m2
 refine st_call0 hA rfl rfl rfl isfn127 rfl rfl (by decide) (ocheck_bad127 (n := 1) hS hTq7 hO hox hol1 hos hri hT hne) ?_
 clear hA hS; rintro _ w8 a ⟨LT2q7, O2q7, hT2q7, hO2, rfl, hS⟩ hA
 replace hS := hS.m2.m1.m1
 replace hS : St w0 w8 (((bf, rowO [.map (some mq7), vI nx, vI bb, vP bt 0] 263) :: ((mq7, obq7) :: LT2q7)) :: O2q7 :: [(b3, rowO [yU, yW, yB, yU, yU, yS] 225)] :: [(b1, rowO [vU m.to, vU m.rp, vW m.id, .int .u16 102, vH m.st, vU po, vW m.ob, vB m.ri, vU m.ck, vU m.ar, d] 46)] :: [(b, rowO [vP bt 0, .iface 260 (vP bf 0)] 222)] :: F) := hS.cast (by simp)
 obtain ⟨L9q7, hBq7, hS9⟩ : ∃ L9, FBR w0 bf bt po bo os fl nx bb L9 D ∧ St w0 w8 (L9 :: O2q7 :: [(b3, rowO [yU, yW, yB, yU, yU, yS] 225)] :: [(b1, rowO [vU m.to, vU m.rp, vW m.id, .int .u16 102, vH m.st, vU po, vW m.ob, vB m.ri, vU m.ck, vU m.ar, d] 46)] :: [(b, rowO [vP bt 0, .iface 260 (vP bf 0)] 222)] :: F) := ⟨_, ⟨_, _, _, _, hT2q7, hMpq7, hfkq7, hfdq7, rfl⟩, hS⟩
 clear hS; have hS := hS9; clear hS9
 refine zi (hS.tail 2 rfl) (zW 5 ((16, .iface 55 (.int .i64 1)) :: (15, yI) :: (127, .iface 55 (.int .i64 1)) :: (126, yI) :: (117, .tuple #[yI, .iface 55 (.int .i64 1)]) :: _) hA (hS.tail 2 rfl) rfl fun a hA => ze (zx (zs (zs (zr (zR 2 ((129, yT) :: (128, .iface 55 (.int .i64 1)) :: _) hA rfl fun a hA => zn (zx (cd_cond_t hA rfl (zs (zr (zR 2 ((131, .iface 55 (.int .i64 1)) :: (130, .agg #[yU, yW, yB, yU, yU, yS]) :: _) hA rfl fun a hA => ?_)))))))))))
 replace hS := hS.m2
 refine st_store tbOk hA hS [yU, yW, yB, yU, yU, yS] [yU, yW, yB, yU, yU, yS] rfl rfl rfl rfl rfl rfl (zn1 rfl) (zle rfl) rfl rfl rfl fun w9 hS => ?_
 refine zR 1 ((5, .iface 55 (.int .i64 1)) :: _) hA rfl fun a hA => zn (zx ?_)
 refine wp_ret (xt_ret ?_)
 refine retc2 tbOk (fn := Tryz.f104) (cs := [yU, yW, yB, yU, yU, yS]) hA rfl rfl rfl rfl rfl rfl (cells_row (hS.heapAt 0 rfl) rfl) ?_
 replace hS := hS.d0.m2.d0.m1.m1.m2
 exact ⟨_, _, ⟨_, _, _, hBq7, rfl⟩, hO2, rfl, hS.join⟩
set_option maxHeartbeats 4000000 in
theorem serve_restrict69 {w0 w : World} {F : List Chunk} {b po bo nx bb : Nat} {os : List (Bool × Nat × Int × Int × Int)} {fl : List (Nat × List UInt8)} {L O D : Chunk} {en en2 : List (Nat × Nat × Nat)} {ts : List Nat} {k k2 : Nat} (hS : St w0 w (L :: O :: D :: F)) (hV : SVR w0 b po bo os fl nx bb L D) (hO : ORR bo en ts k O) (m : MN) (hpo : po < 281474976710656) (hob : m.ob < 16777216) (hck : m.ck < 281474976710656) {s x : Nat} {e va li : Int} (hox : os[m.ob]? = some (true, s, e, va, li)) (hos : s < 2 ^ 64) (hol1 : os.length ≤ 64) (d : Value) (hock : s % 281474976710656 = m.ck) (har : m.ar < 256) (hT : tokM s m.ar en ts k = some (x, en2, k2)) :
 Ret Tryz.prog 69 #[vP b 0, .agg #[vU m.to, vU m.rp, vW m.id, .int .u16 3, vH m.st, vU po, vW m.ob, .int .u8 255, vU m.ck, vU m.ar, d]] w (fun v w' => ∃ L' O' E A c, SVR w0 b po bo os fl nx bb L' (E ++ D) ∧ ORR bo en2 ts k2 O' ∧ DD w0 E A c [] ∧ v = .agg #[vU m.rp, vU m.to, vW m.id, .int .u16 3, yH, vU po, vW m.ob, vB m.ar, vU x, yU, .slice A 0 c] ∧ St w0 w' (L' :: O' :: (E ++ D) :: F)) := by
 have hV0 := hV; obtain ⟨bf0, bt0, L10, hB0, hLe⟩ := hV0
 replace hS : St w0 w ([(b, rowO [vP bt0 0, .iface 260 (vP bf0 0)] 222)] :: L10 :: O :: D :: F) := by rw [hLe] at hS; exact hS.cast (by simp)
 refine enter (vs := [vP b 0, .agg #[vU m.to, vU m.rp, vW m.id, .int .u16 3, vH m.st, vU po, vW m.ob, .int .u8 255, vU m.ck, vU m.ar, d]]) 41 Tryz.func69 rfl rfl (by simp) ?_; intro a hA
 refine zs (zr ?_)
 refine st_box hA hS [vU m.to, vU m.rp, vW m.id, .int .u16 3, vH m.st, vU po, vW m.ob, .int .u8 255, vU m.ck, vU m.ar, d] rfl rfl rfl rfl rfl (by decide) fun b1 w2 a hS hA => ?_
 refine st_alloc tbOk hA hS [yU, yU, yW, yH, yH, yU, yW, yB, yU, yU, yS] rfl rfl rfl rfl rfl (by decide) fun b3 w4 a hS hA => ?_
 refine zn (zx (zs (zs (zr (zR 3 ((9, vP b 0) :: (8, vP b 0) :: (7, vP b 0) :: _) hA rfl fun a hA => zL hA hS 2 rfl rfl rfl rfl rfl rfl rfl rfl rfl fun a hA => zR 5 ((15, vP b 1) :: (14, vP b 0) :: (13, vP b 0) :: (12, yF) :: (11, yF) :: _) hA rfl fun a hA => zL hA hS 2 rfl rfl rfl rfl rfl rfl rfl rfl rfl fun a hA => zR 2 ((18, yF) :: (17, yF) :: _) hA rfl fun a hA => zn (zx (cd_cond_f hA rfl (zk (zx (zs (zr (zR 1 ((23, vP b 0) :: _) hA rfl fun a hA => zLA hA hS 1 [vU m.to, vU m.rp, vW m.id, .int .u16 3, vH m.st, vU po, vW m.ob, .int .u8 255, vU m.ck, vU m.ar, d] rfl rfl rfl rfl rfl rfl rfl rfl rfl rfl fun a hA => ?_))))))))))))
 replace hS := hS.m1.m1.m5.m5.m5.m5
 replace hS : St w0 w4 (L :: O :: D :: [(b3, rowO [yU, yU, yW, yH, yH, yU, yW, yB, yU, yU, yS] 46)] :: [(b1, rowO [vU m.to, vU m.rp, vW m.id, .int .u16 3, vH m.st, vU po, vW m.ob, .int .u8 255, vU m.ck, vU m.ar, d] 46)] :: F) := by rw [hLe]; exact hS.cast (by simp)
 refine st_call0 hA rfl rfl rfl isfn104 rfl rfl (by decide) (skdo_restrict104 hS hV hO m hpo hob hck hox hos hol1 _ hock har hT) ?_
 clear hA hS; rintro _ w5 a ⟨L2, O2, hV2, hO2, rfl, hS⟩ hA
 refine zR 3 ((27, yN) :: (26, .agg #[vU po, vW m.ob, vB m.ar, vU x, yU, yS]) :: (22, .tuple #[.agg #[vU po, vW m.ob, vB m.ar, vU x, yU, yS], yN]) :: _) hA rfl fun a hA => ?_
 refine st_alloc tbOk hA hS [yU, yW, yB, yU, yU, yS] rfl rfl rfl rfl rfl (by decide) fun b6 w7 a hS hA => ?_
 refine st_store tbOk hA hS [vU po, vW m.ob, vB m.ar, vU x, yU, yS] [vU po, vW m.ob, vB m.ar, vU x, yU, yS] rfl rfl rfl rfl rfl rfl (zn1 rfl) (zle rfl) rfl rfl rfl fun w8 hS => ?_
 refine zR 1 ((6, yN) :: _) hA rfl fun a hA => zn (zx (zs (zs (zr (zR 2 ((29, yF) :: (28, yN) :: _) hA rfl fun a hA => zn (zx (cd_cond_f hA rfl (zk (zx (zs (zr (zLA hA hS 5 [vU m.to, vU m.rp, vW m.id, .int .u16 3, vH m.st, vU po, vW m.ob, .int .u8 255, vU m.ck, vU m.ar, d] rfl rfl rfl rfl rfl rfl rfl rfl rfl rfl fun a hA => zR 1 ((34, vP b6 0) :: _) hA rfl fun a hA => zLA hA hS 0 [vU po, vW m.ob, vB m.ar, vU x] rfl rfl rfl rfl rfl rfl rfl rfl rfl rfl fun a hA => zR 1 ((36, vP b6 4) :: _) hA rfl fun a hA => zL hA hS 0 rfl rfl rfl rfl rfl rfl rfl rfl rfl fun a hA => zR 1 ((38, vP b6 5) :: _) hA rfl fun a hA => zL hA hS 0 rfl rfl rfl rfl rfl rfl rfl rfl rfl fun a hA => ?_))))))))))))
 refine st_call0 hA rfl rfl rfl isfn105 rfl rfl (by decide) (answer105 hS { m with op := 3, po := po, ri := 255 } _ 0 po m.ob m.ar x 0 (da := ([] : List UInt8)) RdSX.nil (by first | omega | (simp only [List.length_append, be_length, capb_length, List.length_cons, List.length_nil, List.length_drop, List.length_take]; omega)) (by omega)) ?_
 clear hA hS; rintro _ w12 a ⟨A9, c10, C11, hO11, rfl, hS⟩ hA
 obtain ⟨_, _, _, hmc10, hxc10⟩ := hO11.open'
 replace hS := hS.m5
 refine st_store tbOk hA hS [vU m.rp, vU m.to, vW m.id, .int .u16 3, yH, vU po, vW m.ob, vB m.ar, vU x, yU, .slice A9 (([] : List UInt8).length) c10] [vU m.rp, vU m.to, vW m.id, .int .u16 3, yH, vU po, vW m.ob, vB m.ar, vU x, yU, .slice A9 (([] : List UInt8).length) c10] rfl rfl rfl rfl rfl rfl (zn1 rfl) (zle rfl) rfl rfl rfl fun w13 hS => ?_
 refine zn (zx ?_)
 refine wp_ret ?_
 refine retc1 tbOk (fn := Tryz.f69) (cs := [vU m.rp, vU m.to, vW m.id, .int .u16 3, yH, vU po, vW m.ob, vB m.ar, vU x, yU, .slice A9 (([] : List UInt8).length) c10]) hA rfl rfl rfl rfl rfl (cells_row (hS.heapAt 0 rfl) rfl) ?_
 replace hS := hS.d0.m1.d0.m4.d0.m3.m1.m3.m3
 replace hS : St w0 w13 (L2 :: O2 :: (C11 ++ D) :: F) := hS.cast (by simp)
 exact ⟨_, _, C11, _, _, SVR.dx hV2 DX.refl.step, hO2, DD.new hO11, rfl, hS⟩
set_option maxHeartbeats 4000000 in
theorem serve_revoke69 {w0 w : World} {F : List Chunk} {b po bo nx bb : Nat} {os : List (Bool × Nat × Int × Int × Int)} {fl : List (Nat × List UInt8)} {L O D : Chunk} {en : List (Nat × Nat × Nat)} {ts : List Nat} {k : Nat} (hS : St w0 w (L :: O :: D :: F)) (hV : SVR w0 b po bo os fl nx bb L D) (hO : ORR bo en ts k O) (m : MN) (hpo : po < 281474976710656) (hob : m.ob < 16777216) (hck : m.ck < 281474976710656) {s x : Nat} {e va li : Int} (hox : os[m.ob]? = some (true, s, e, va, li)) (hos : s < 2 ^ 64) (hol1 : os.length ≤ 64) (d : Value) (hock : s % 281474976710656 = m.ck) (hkx : ts[k]? = some x) (he0 : 0 ≤ e) (he1 : e < 1000000) :
 Ret Tryz.prog 69 #[vP b 0, .agg #[vU m.to, vU m.rp, vW m.id, .int .u16 4, vH m.st, vU po, vW m.ob, .int .u8 255, vU m.ck, vU m.ar, d]] w (fun v w' => ∃ L' O' E A c, SVR w0 b po bo (os.set m.ob (true, x, e + 1, va, li)) fl nx bb L' (E ++ D) ∧ ORR bo en ts (k + 1) O' ∧ DD w0 E A c [] ∧ v = .agg #[vU m.rp, vU m.to, vW m.id, .int .u16 4, yH, vU po, vW m.ob, .int .u8 255, vU x, yU, .slice A 0 c] ∧ St w0 w' (L' :: O' :: (E ++ D) :: F)) := by
 have hV0 := hV; obtain ⟨bf0, bt0, L10, hB0, hLe⟩ := hV0
 replace hS : St w0 w ([(b, rowO [vP bt0 0, .iface 260 (vP bf0 0)] 222)] :: L10 :: O :: D :: F) := by rw [hLe] at hS; exact hS.cast (by simp)
 refine enter (vs := [vP b 0, .agg #[vU m.to, vU m.rp, vW m.id, .int .u16 4, vH m.st, vU po, vW m.ob, .int .u8 255, vU m.ck, vU m.ar, d]]) 41 Tryz.func69 rfl rfl (by simp) ?_; intro a hA
 refine zs (zr ?_)
 refine st_box hA hS [vU m.to, vU m.rp, vW m.id, .int .u16 4, vH m.st, vU po, vW m.ob, .int .u8 255, vU m.ck, vU m.ar, d] rfl rfl rfl rfl rfl (by decide) fun b1 w2 a hS hA => ?_
 refine st_alloc tbOk hA hS [yU, yU, yW, yH, yH, yU, yW, yB, yU, yU, yS] rfl rfl rfl rfl rfl (by decide) fun b3 w4 a hS hA => ?_
 refine zn (zx (zs (zs (zr (zR 3 ((9, vP b 0) :: (8, vP b 0) :: (7, vP b 0) :: _) hA rfl fun a hA => zL hA hS 2 rfl rfl rfl rfl rfl rfl rfl rfl rfl fun a hA => zR 5 ((15, vP b 1) :: (14, vP b 0) :: (13, vP b 0) :: (12, yF) :: (11, yF) :: _) hA rfl fun a hA => zL hA hS 2 rfl rfl rfl rfl rfl rfl rfl rfl rfl fun a hA => zR 2 ((18, yF) :: (17, yF) :: _) hA rfl fun a hA => zn (zx (cd_cond_f hA rfl (zk (zx (zs (zr (zR 1 ((23, vP b 0) :: _) hA rfl fun a hA => zLA hA hS 1 [vU m.to, vU m.rp, vW m.id, .int .u16 4, vH m.st, vU po, vW m.ob, .int .u8 255, vU m.ck, vU m.ar, d] rfl rfl rfl rfl rfl rfl rfl rfl rfl rfl fun a hA => ?_))))))))))))
 replace hS := hS.m1.m1.m5.m5.m5.m5
 replace hS : St w0 w4 (L :: O :: D :: [(b3, rowO [yU, yU, yW, yH, yH, yU, yW, yB, yU, yU, yS] 46)] :: [(b1, rowO [vU m.to, vU m.rp, vW m.id, .int .u16 4, vH m.st, vU po, vW m.ob, .int .u8 255, vU m.ck, vU m.ar, d] 46)] :: F) := by rw [hLe]; exact hS.cast (by simp)
 refine st_call0 hA rfl rfl rfl isfn104 rfl rfl (by decide) (skdo_revoke104 hS hV hO m hpo hob hck hox hos hol1 _ hock hkx he0 he1) ?_
 clear hA hS; rintro _ w5 a ⟨L2, O2, hV2, hO2, rfl, hS⟩ hA
 refine zR 3 ((27, yN) :: (26, .agg #[vU po, vW m.ob, .int .u8 255, vU x, yU, yS]) :: (22, .tuple #[.agg #[vU po, vW m.ob, .int .u8 255, vU x, yU, yS], yN]) :: _) hA rfl fun a hA => ?_
 refine st_alloc tbOk hA hS [yU, yW, yB, yU, yU, yS] rfl rfl rfl rfl rfl (by decide) fun b6 w7 a hS hA => ?_
 refine st_store tbOk hA hS [vU po, vW m.ob, .int .u8 255, vU x, yU, yS] [vU po, vW m.ob, .int .u8 255, vU x, yU, yS] rfl rfl rfl rfl rfl rfl (zn1 rfl) (zle rfl) rfl rfl rfl fun w8 hS => ?_
 refine zR 1 ((6, yN) :: _) hA rfl fun a hA => zn (zx (zs (zs (zr (zR 2 ((29, yF) :: (28, yN) :: _) hA rfl fun a hA => zn (zx (cd_cond_f hA rfl (zk (zx (zs (zr (zLA hA hS 5 [vU m.to, vU m.rp, vW m.id, .int .u16 4, vH m.st, vU po, vW m.ob, .int .u8 255, vU m.ck, vU m.ar, d] rfl rfl rfl rfl rfl rfl rfl rfl rfl rfl fun a hA => zR 1 ((34, vP b6 0) :: _) hA rfl fun a hA => zLA hA hS 0 [vU po, vW m.ob, .int .u8 255, vU x] rfl rfl rfl rfl rfl rfl rfl rfl rfl rfl fun a hA => zR 1 ((36, vP b6 4) :: _) hA rfl fun a hA => zL hA hS 0 rfl rfl rfl rfl rfl rfl rfl rfl rfl fun a hA => zR 1 ((38, vP b6 5) :: _) hA rfl fun a hA => zL hA hS 0 rfl rfl rfl rfl rfl rfl rfl rfl rfl fun a hA => ?_))))))))))))
 refine st_call0 hA rfl rfl rfl isfn105 rfl rfl (by decide) (answer105 hS { m with op := 4, po := po, ri := 255 } _ 0 po m.ob 255 x 0 (da := ([] : List UInt8)) RdSX.nil (by first | omega | (simp only [List.length_append, be_length, capb_length, List.length_cons, List.length_nil, List.length_drop, List.length_take]; omega)) (by omega)) ?_
 clear hA hS; rintro _ w12 a ⟨A9, c10, C11, hO11, rfl, hS⟩ hA
 obtain ⟨_, _, _, hmc10, hxc10⟩ := hO11.open'
 replace hS := hS.m5
 refine st_store tbOk hA hS [vU m.rp, vU m.to, vW m.id, .int .u16 4, yH, vU po, vW m.ob, .int .u8 255, vU x, yU, .slice A9 (([] : List UInt8).length) c10] [vU m.rp, vU m.to, vW m.id, .int .u16 4, yH, vU po, vW m.ob, .int .u8 255, vU x, yU, .slice A9 (([] : List UInt8).length) c10] rfl rfl rfl rfl rfl rfl (zn1 rfl) (zle rfl) rfl rfl rfl fun w13 hS => ?_
 refine zn (zx ?_)
 refine wp_ret ?_
 refine retc1 tbOk (fn := Tryz.f69) (cs := [vU m.rp, vU m.to, vW m.id, .int .u16 4, yH, vU po, vW m.ob, .int .u8 255, vU x, yU, .slice A9 (([] : List UInt8).length) c10]) hA rfl rfl rfl rfl rfl (cells_row (hS.heapAt 0 rfl) rfl) ?_
 replace hS := hS.d0.m1.d0.m4.d0.m3.m1.m3.m3
 replace hS : St w0 w13 (L2 :: O2 :: (C11 ++ D) :: F) := hS.cast (by simp)
 exact ⟨_, _, C11, _, _, SVR.dx hV2 DX.refl.step, hO2, DD.new hO11, rfl, hS⟩
set_option maxHeartbeats 4000000 in
theorem serve_bad69 {w0 w : World} {F : List Chunk} {b po bo nx bb : Nat} {os : List (Bool × Nat × Int × Int × Int)} {fl : List (Nat × List UInt8)} {L O D : Chunk} {en en2 : List (Nat × Nat × Nat)} {ts : List Nat} {k k2 : Nat} (hS : St w0 w (L :: O :: D :: F)) (hg : HG w0) (hV : SVR w0 b po bo os fl nx bb L D) (hO : ORR bo en ts k O) (m : MN) (hpo : po < 281474976710656) (hob : m.ob < 16777216) (hck : m.ck < 281474976710656) {s x : Nat} {e va li : Int} (hox : os[m.ob]? = some (true, s, e, va, li)) (hos : s < 2 ^ 64) (hol1 : os.length ≤ 64) (d : Value) (hri : m.ri < 256) (hT : tokM s m.ri en ts k = some (x, en2, k2)) (hne : ¬ x = m.ck) :
 Ret Tryz.prog 69 #[vP b 0, .agg #[vU m.to, vU m.rp, vW m.id, .int .u16 102, vH m.st, vU po, vW m.ob, vB m.ri, vU m.ck, vU m.ar, d]] w (fun v w' => ∃ L' O' E A c, SVR w0 b po bo os fl nx bb L' (E ++ D) ∧ ORR bo en2 ts k2 O' ∧ DD w0 E A c [] ∧ v = .agg #[vU m.rp, vU m.to, vW m.id, .int .u16 102, .int .u16 1, yU, yW, yB, yU, yU, .slice A 0 c] ∧ St w0 w' (L' :: O' :: (E ++ D) :: F)) := by
 have hV0 := hV; obtain ⟨bf0, bt0, L10, hB0, hLe⟩ := hV0
 replace hS : St w0 w ([(b, rowO [vP bt0 0, .iface 260 (vP bf0 0)] 222)] :: L10 :: O :: D :: F) := by rw [hLe] at hS; exact hS.cast (by simp)
 refine enter (vs := [vP b 0, .agg #[vU m.to, vU m.rp, vW m.id, .int .u16 102, vH m.st, vU po, vW m.ob, vB m.ri, vU m.ck, vU m.ar, d]]) 41 Tryz.func69 rfl rfl (by simp) ?_; intro a hA
 refine zs (zr ?_)
 refine st_box hA hS [vU m.to, vU m.rp, vW m.id, .int .u16 102, vH m.st, vU po, vW m.ob, vB m.ri, vU m.ck, vU m.ar, d] rfl rfl rfl rfl rfl (by decide) fun b1 w2 a hS hA => ?_
 refine st_alloc tbOk hA hS [yU, yU, yW, yH, yH, yU, yW, yB, yU, yU, yS] rfl rfl rfl rfl rfl (by decide) fun b3 w4 a hS hA => ?_
 refine zn (zx (zs (zs (zr (zR 3 ((9, vP b 0) :: (8, vP b 0) :: (7, vP b 0) :: _) hA rfl fun a hA => zL hA hS 2 rfl rfl rfl rfl rfl rfl rfl rfl rfl fun a hA => zR 5 ((15, vP b 1) :: (14, vP b 0) :: (13, vP b 0) :: (12, yF) :: (11, yF) :: _) hA rfl fun a hA => zL hA hS 2 rfl rfl rfl rfl rfl rfl rfl rfl rfl fun a hA => zR 2 ((18, yF) :: (17, yF) :: _) hA rfl fun a hA => zn (zx (cd_cond_f hA rfl (zk (zx (zs (zr (zR 1 ((23, vP b 0) :: _) hA rfl fun a hA => zLA hA hS 1 [vU m.to, vU m.rp, vW m.id, .int .u16 102, vH m.st, vU po, vW m.ob, vB m.ri, vU m.ck, vU m.ar, d] rfl rfl rfl rfl rfl rfl rfl rfl rfl rfl fun a hA => ?_))))))))))))
 replace hS := hS.m1.m1.m5.m5.m5.m5
 replace hS : St w0 w4 (L :: O :: D :: [(b3, rowO [yU, yU, yW, yH, yH, yU, yW, yB, yU, yU, yS] 46)] :: [(b1, rowO [vU m.to, vU m.rp, vW m.id, .int .u16 102, vH m.st, vU po, vW m.ob, vB m.ri, vU m.ck, vU m.ar, d] 46)] :: F) := by rw [hLe]; exact hS.cast (by simp)
 refine st_call0 hA rfl rfl rfl isfn104 rfl rfl (by decide) (skdo_bad104 hS hV hO m hpo hob hck hox hos hol1 _ hri hT hne) ?_
 clear hA hS; rintro _ w5 a ⟨L2, O2, hV2, hO2, rfl, hS⟩ hA
 refine zR 3 ((27, .iface 55 (.int .i64 1)) :: (26, .agg #[yU, yW, yB, yU, yU, yS]) :: (22, .tuple #[.agg #[yU, yW, yB, yU, yU, yS], .iface 55 (.int .i64 1)]) :: _) hA rfl fun a hA => ?_
 refine st_alloc tbOk hA hS [yU, yW, yB, yU, yU, yS] rfl rfl rfl rfl rfl (by decide) fun b6 w7 a hS hA => ?_
 refine st_store tbOk hA hS [yU, yW, yB, yU, yU, yS] [yU, yW, yB, yU, yU, yS] rfl rfl rfl rfl rfl rfl (zn1 rfl) (zle rfl) rfl rfl rfl fun w8 hS => ?_
 refine zR 1 ((6, .iface 55 (.int .i64 1)) :: _) hA rfl fun a hA => zn (zx (zs (zs (zr (zR 2 ((29, yT) :: (28, .iface 55 (.int .i64 1)) :: _) hA rfl fun a hA => zn (zx (cd_cond_t hA rfl (zs (zr (zLA hA hS 5 [vU m.to, vU m.rp, vW m.id, .int .u16 102, vH m.st, vU po, vW m.ob, vB m.ri, vU m.ck, vU m.ar, d] rfl rfl rfl rfl rfl rfl rfl rfl rfl rfl fun a hA => zR 1 ((31, .iface 55 (.int .i64 1)) :: _) hA rfl fun a hA => ?_))))))))))
 refine st_call0 hA rfl rfl rfl isfn103 rfl rfl (by decide) (hfault103 (n := 1) hS hg { m with op := 102, po := po } _ (by decide)) ?_
 clear hA hS; rintro _ w12 a ⟨A9, c10, C11, hO11, rfl, hS⟩ hA
 replace hS := hS.m5
 refine st_store tbOk hA hS [vU m.rp, vU m.to, vW m.id, .int .u16 102, .int .u16 1, yU, yW, yB, yU, yU, .slice A9 0 c10] [vU m.rp, vU m.to, vW m.id, .int .u16 102, .int .u16 1, yU, yW, yB, yU, yU, .slice A9 0 c10] rfl rfl rfl rfl rfl rfl (zn1 rfl) (zle rfl) rfl rfl rfl fun w13 hS => ?_
 refine zn (zx ?_)
 refine wp_ret (xt_ret ?_)
 refine retc1 tbOk (fn := Tryz.f69) (cs := [vU m.rp, vU m.to, vW m.id, .int .u16 102, .int .u16 1, yU, yW, yB, yU, yU, .slice A9 0 c10]) hA rfl rfl rfl rfl rfl (cells_row (hS.heapAt 0 rfl) rfl) ?_
 replace hS := hS.d0.m1.d0.m4.d0.m3.m1.m3.m3
 replace hS : St w0 w13 (L2 :: O2 :: (C11 ++ D) :: F) := hS.cast (by simp)
 exact ⟨_, _, C11, _, _, SVR.dx hV2 DX.refl.step, hO2, DD.new hO11, rfl, hS⟩
theorem strestrict22 {w0 w : World} {F : List Chunk} (hS : St w0 w F) (po ob ri ck : Nat) {n : Nat} (hn : n < 256) :
 Ret Tryz.prog 22 #[.agg #[vU po, vW ob, vB ri, vU ck], vB n] w (fun v w' => ∃ A c C, Own 5 1 (.slice A (([] : List UInt8)).length c) (([] : List UInt8)).length (rows encB (([] : List UInt8))) C ∧ v = .agg #[vU po, yU, yW, .int .u16 3, yH, vU po, vW ob, vB ri, vU ck, vU n, .slice A 0 c] ∧ St w0 w' (C :: F)) := by
 refine enter (vs := [.agg #[vU po, vW ob, vB ri, vU ck], vB n]) 9 Tryz.func22 rfl rfl (by simp) ?_; intro a hA
 refine zs (zr ?_)
 refine st_box hA hS [vU po, vW ob, vB ri, vU ck] rfl rfl rfl rfl rfl (by decide) fun b1 w2 a hS hA => ?_
 refine st_alloc tbOk hA hS [yU, yU, yW, yH, yH, yU, yW, yB, yU, yU, yS] rfl rfl rfl rfl rfl (by decide) fun b3 w4 a hS hA => ?_
 refine zn (zx (zs (zr (zLA hA hS 1 [vU po, vW ob, vB ri, vU ck] rfl rfl rfl rfl rfl rfl rfl rfl rfl rfl fun a hA => zR 2 ((7, .int .u64 (IntKind.u64.wrap ((n : Nat) : Int))) :: (6, vB n) :: _) hA rfl fun a hA => ?_))))
 replace hA := hA.rw 7 (v' := vU n) rfl (by rw [wrap_u64 (by omega) (by omega)])
 refine st_call0 hA rfl rfl rfl isfn35 rfl rfl (by decide) (ask_35 hS po ob ri ck 3 n (da := []) (RdSX.nil) (Nat.zero_le _)) ?_
 clear hA hS; rintro _ w5 a ⟨A, c, C, hO, rfl, hS⟩ hA
 replace hS := hS.m1
 refine st_store tbOk hA hS [vU po, yU, yW, .int .u16 3, yH, vU po, vW ob, vB ri, vU ck, vU n, .slice A 0 c] [vU po, yU, yW, .int .u16 3, yH, vU po, vW ob, vB ri, vU ck, vU n, .slice A 0 c] rfl rfl rfl rfl rfl rfl (zn1 rfl) (zle rfl) rfl rfl rfl fun w6 hS => ?_
 refine zn (zx ?_)
 refine wp_ret ?_
 refine retc1 tbOk (fn := Tryz.f22) (cs := [vU po, yU, yW, .int .u16 3, yH, vU po, vW ob, vB ri, vU ck, vU n, .slice A 0 c]) hA rfl rfl rfl rfl rfl (cells_row (hS.heapAt 0 rfl) rfl) ?_
 replace hS := hS.d0.m1.d0
 exact ⟨_, _, _, hO, rfl, hS⟩
theorem strevoke23 {w0 w : World} {F : List Chunk} (hS : St w0 w F) (po ob ri ck : Nat) :
 Ret Tryz.prog 23 #[.agg #[vU po, vW ob, vB ri, vU ck]] w (fun v w' => ∃ A c C, Own 5 1 (.slice A (([] : List UInt8)).length c) (([] : List UInt8)).length (rows encB (([] : List UInt8))) C ∧ v = .agg #[vU po, yU, yW, .int .u16 4, yH, vU po, vW ob, vB ri, vU ck, yU, .slice A 0 c] ∧ St w0 w' (C :: F)) := by
 refine enter (vs := [.agg #[vU po, vW ob, vB ri, vU ck]]) 5 Tryz.func23 rfl rfl (by simp) ?_; intro a hA
 refine zs (zr ?_)
 refine st_box hA hS [vU po, vW ob, vB ri, vU ck] rfl rfl rfl rfl rfl (by decide) fun b1 w2 a hS hA => ?_
 refine st_alloc tbOk hA hS [yU, yU, yW, yH, yH, yU, yW, yB, yU, yU, yS] rfl rfl rfl rfl rfl (by decide) fun b3 w4 a hS hA => ?_
 refine zn (zx (zs (zr (zLA hA hS 1 [vU po, vW ob, vB ri, vU ck] rfl rfl rfl rfl rfl rfl rfl rfl rfl rfl fun a hA => ?_))))
 refine st_call0 hA rfl rfl rfl isfn35 rfl rfl (by decide) (ask_35 hS po ob ri ck 4 0 (da := []) (RdSX.nil) (Nat.zero_le _)) ?_
 clear hA hS; rintro _ w5 a ⟨A, c, C, hO, rfl, hS⟩ hA
 replace hS := hS.m1
 refine st_store tbOk hA hS [vU po, yU, yW, .int .u16 4, yH, vU po, vW ob, vB ri, vU ck, yU, .slice A 0 c] [vU po, yU, yW, .int .u16 4, yH, vU po, vW ob, vB ri, vU ck, yU, .slice A 0 c] rfl rfl rfl rfl rfl rfl (zn1 rfl) (zle rfl) rfl rfl rfl fun w6 hS => ?_
 refine zn (zx ?_)
 refine wp_ret ?_
 refine retc1 tbOk (fn := Tryz.f23) (cs := [vU po, yU, yW, .int .u16 4, yH, vU po, vW ob, vB ri, vU ck, yU, .slice A 0 c]) hA rfl rfl rfl rfl rfl (cells_row (hS.heapAt 0 rfl) rfl) ?_
 replace hS := hS.d0.m1.d0
 exact ⟨_, _, _, hO, rfl, hS⟩
theorem stsize24 {w0 w : World} {F : List Chunk} (hS : St w0 w F) (po ob ri ck : Nat) :
 Ret Tryz.prog 24 #[.agg #[vU po, vW ob, vB ri, vU ck]] w (fun v w' => ∃ A c C, Own 5 1 (.slice A (([] : List UInt8)).length c) (([] : List UInt8)).length (rows encB (([] : List UInt8))) C ∧ v = .agg #[vU po, yU, yW, .int .u16 102, yH, vU po, vW ob, vB ri, vU ck, yU, .slice A 0 c] ∧ St w0 w' (C :: F)) := by
 refine enter (vs := [.agg #[vU po, vW ob, vB ri, vU ck]]) 5 Tryz.func24 rfl rfl (by simp) ?_; intro a hA
 refine zs (zr ?_)
 refine st_box hA hS [vU po, vW ob, vB ri, vU ck] rfl rfl rfl rfl rfl (by decide) fun b1 w2 a hS hA => ?_
 refine st_alloc tbOk hA hS [yU, yU, yW, yH, yH, yU, yW, yB, yU, yU, yS] rfl rfl rfl rfl rfl (by decide) fun b3 w4 a hS hA => ?_
 refine zn (zx (zs (zr (zLA hA hS 1 [vU po, vW ob, vB ri, vU ck] rfl rfl rfl rfl rfl rfl rfl rfl rfl rfl fun a hA => ?_))))
 refine st_call0 hA rfl rfl rfl isfn35 rfl rfl (by decide) (ask_35 hS po ob ri ck 102 0 (da := []) (RdSX.nil) (Nat.zero_le _)) ?_
 clear hA hS; rintro _ w5 a ⟨A, c, C, hO, rfl, hS⟩ hA
 replace hS := hS.m1
 refine st_store tbOk hA hS [vU po, yU, yW, .int .u16 102, yH, vU po, vW ob, vB ri, vU ck, yU, .slice A 0 c] [vU po, yU, yW, .int .u16 102, yH, vU po, vW ob, vB ri, vU ck, yU, .slice A 0 c] rfl rfl rfl rfl rfl rfl (zn1 rfl) (zle rfl) rfl rfl rfl fun w6 hS => ?_
 refine zn (zx ?_)
 refine wp_ret ?_
 refine retc1 tbOk (fn := Tryz.f24) (cs := [vU po, yU, yW, .int .u16 102, yH, vU po, vW ob, vB ri, vU ck, yU, .slice A 0 c]) hA rfl rfl rfl rfl rfl (cells_row (hS.heapAt 0 rfl) rfl) ?_
 replace hS := hS.d0.m1.d0
 exact ⟨_, _, _, hO, rfl, hS⟩
end Go.Proofs.YthiakdmhpfkjbaaGreatDoor

set_option linter.unusedVariables false
set_option linter.unusedSimpArgs false
set_option maxRecDepth 4000
namespace Go.Proofs.YthiakdmhpfkjbaaGreatDoor
open Go Go.SK
def SVOK (w0 : World) (sv : Value) (bo po : Nat) (sr sr' : Srv) (en en' : List (Nat × Nat × Nat)) (ts : List Nat) (k k' : Nat) (m r : MN) : Prop := ∀ {w : World} {F : List Chunk} {LV O D : Chunk} {A : Option Addr} {c : Nat}, St w0 w (LV :: O :: D :: F) → SVO w0 bo po sr sv LV D → ORR bo en ts k O → DD w0 D A c m.da →
    Ret Tryz.prog 69 #[sv, .agg #[vU m.to, vU m.rp, vW m.id, vH m.op, vH m.st, vU m.po, vW m.ob, vB m.ri, vU m.ck, vU m.ar, .slice A m.da.length c]] w (fun v w' => ∃ LV' O' E A1 c1, SVO w0 bo po sr' sv LV' (E ++ D) ∧ ORR bo en' ts k' O' ∧ DD w0 E A1 c1 r.da ∧ v = .agg #[vU r.to, vU r.rp, vW r.id, vH r.op, vH r.st, vU r.po, vW r.ob, vB r.ri, vU r.ck, vU r.ar, .slice A1 r.da.length c1] ∧ St w0 w' (LV' :: O' :: (E ++ D) :: F))
set_option maxHeartbeats 8000000 in
theorem nwork_serve42 {w0 w : World} {F : List Chunk} {b bo : Nat} {st : NS} {sr sr2 : Srv} {L O D : Chunk} {en en2 : List (Nat × Nat × Nat)} {ts : List Nat} {k k2 : Nat} (hS : St w0 w (L :: O :: D :: F)) (hN : NUP w0 b bo st sr L D) (hO : ORR bo en ts k O) (m r : MN) (ps2 : List MN) (hus : st.us = []) (hps : st.ps = m :: ps2) (h1 : ¬ m.to = st.c.rep) (hsv : ∀ sv : Value, SVOK w0 sv bo st.c.port sr sr2 en en2 ts k k2 m r) (hnew : ∀ y ∈ st.es, ¬ (y.who = m.rp ∧ y.id = m.id)) (hel : st.es.length < 32) {js z0 : Nat} (hjs : st.sd[js]? = some (m.rp, z0)) (hjsn : ∀ (q : Nat) (y : Nat × Nat), q < js → st.sd[q]? = some y → ¬ y.1 = m.rp) (hp1 : 1 ≤ st.c.pc) (hp2 : st.c.pc ≤ 32768) (hsn : st.c.sent < 1000000000) (hrok : r.ok) (hnr : nP (encM r) st.c.pc ≤ 256) :
 Ret Tryz.prog 42 #[vP b 0] w (fun v w' => ∃ L' ps A c C O' D', NUP w0 b bo { st with c := { st.c with sent := st.c.sent + 1 }, ps := ps2, es := st.es ++ [⟨m.rp, m.id, 2, r⟩] } sr2 L' D' ∧ ORR bo en2 ts k2 O' ∧ Own 94 6 (.slice A ps.length c) ps.length (rows encPacket ps) C ∧ PKS w0 D' ps (splitM (encM r) st.c.id z0 (st.c.sent + 1) st.c.pc) ∧ DX w0 D D' ∧ v = .tuple #[.slice A ps.length c, yT] ∧ St w0 w' (L' :: C :: O' :: D' :: F)) := by
 have hrd := hrok.2.2.2.2.2.2.2.2.2.2
 obtain ⟨sv, bd, bg, bc, bp, bx, mp, ob, el, cl, ul, pl2, LS, LG, LC, LP, LB, LV, hn, rfl⟩ := hN
 replace hS : St w0 w ([(b, rowO [vI st.c.id, vI st.c.ki, vI st.c.no, vI st.c.pc, vI st.c.wa, vI st.c.tr, vI st.c.ag, vI st.c.pg, vI st.c.ro, vP bo 0, yT, vI st.c.now, vU st.c.sent, vU st.c.rep, vU st.c.port, vU st.c.r0, vW st.c.r1, vB st.c.r2, vU st.c.r3, sv, vP bd 0, vP bg 0, vP bc 0, vP bp 0, vP bx 0, .map (some mp)] 121)] :: LS :: LG :: LC :: LP :: LB :: [(mp, ob)] :: LV :: O :: D :: F) := hS.cast (by simp)
 have hu0 : ul = [] := map_nil9 (by rw [hn.ful, hus]); obtain ⟨x, ul2, hul, e, hum⟩ := map_cons9 (l := pl2) (y := m) (k := ps2) (by rw [hn.fpl, hps]); have hdx := hn.fpd x (by rw [hul]; exact List.mem_cons_self); have hbx0 := hn.fbx; rw [hu0, hul] at hbx0
 obtain ⟨x0, x1, x2, x3, x4, x5, x6, x7, x8, x9, xA, xc, xb⟩ := x
 simp only [mst, mdat, MN.t, Prod.mk.injEq] at e
 obtain ⟨e0, e1, e2, e3, e4, e5, e6, e7, e8, e9, e10⟩ := e
 subst e0 e1 e2 e3 e4 e5 e6 e7 e8 e9 e10
 refine enter (vs := [vP b 0]) 78 Tryz.func42 rfl rfl (by simp) ?_; intro a hA
 refine zs (zr (zR 2 ((3, yF) :: (2, yS) :: _) hA rfl fun a hA => zn (zx (zs (zs (zr (zR 3 ((11, vP b 10) :: (10, vP b 0) :: (9, vP b 0) :: _) hA rfl fun a hA => zL hA hS 0 rfl rfl rfl rfl rfl rfl rfl rfl rfl fun a hA => zR 1 ((13, yF) :: _) hA rfl fun a hA => zn (zx (cd_cond_f hA rfl (zk (zx (zs (zr (zR 3 ((17, vP b 24) :: (16, vP b 0) :: (15, vP b 0) :: _) hA rfl fun a hA => zL hA hS 0 rfl rfl rfl rfl rfl rfl rfl rfl rfl fun a hA => ?_))))))))))))))
 replace hS := hS.m5
 refine st_call0 hA rfl rfl rfl isfn66 rfl rfl (by decide) (get_p66 hS hbx0) ?_
 clear hA hS; rintro _ w1 a ⟨LB2, hb2, rfl, hS⟩ hA
 replace hA := hA.rw 19 (v' := .tuple #[.agg #[vU m.to, vU m.rp, vW m.id, vH m.op, vH m.st, vU m.po, vW m.ob, vB m.ri, vU m.ck, vU m.ar, .slice xA m.da.length xc], yT]) rfl rfl
 refine zR 3 ((21, yT) :: (20, .agg #[vU m.to, vU m.rp, vW m.id, vH m.op, vH m.st, vU m.po, vW m.ob, vB m.ri, vU m.ck, vU m.ar, .slice xA m.da.length xc]) :: (14, .tuple #[.agg #[vU m.to, vU m.rp, vW m.id, vH m.op, vH m.st, vU m.po, vW m.ob, vB m.ri, vU m.ck, vU m.ar, .slice xA m.da.length xc], yT]) :: _) hA rfl fun a hA => ?_
 refine st_alloc tbOk hA hS [yU, yU, yW, yH, yH, yU, yW, yB, yU, yU, yS] rfl rfl rfl rfl rfl (by decide) fun b2 w3 a hS hA => ?_
 refine st_store tbOk hA hS [vU m.to, vU m.rp, vW m.id, vH m.op, vH m.st, vU m.po, vW m.ob, vB m.ri, vU m.ck, vU m.ar, .slice xA m.da.length xc] [vU m.to, vU m.rp, vW m.id, vH m.op, vH m.st, vU m.po, vW m.ob, vB m.ri, vU m.ck, vU m.ar, .slice xA m.da.length xc] rfl rfl rfl rfl rfl rfl (zn1 rfl) (zle rfl) rfl rfl rfl fun w4 hS => ?_
 refine zR 1 ((5, yT) :: _) hA rfl fun a hA => zn (zx (zs (zs (zr (zR 2 ((23, yF) :: (22, yT) :: _) hA rfl fun a hA => zn (zx (cd_cond_f hA rfl (zk (zx (zs (zs ?_)))))))))))
 refine zD0 hS [] [(0, true), (1, true), (2, true), (3, true), (4, true), (5, true), (6, true)] mixed (by kernel_rfl) (by rintro c a w ⟨_, _, h, _⟩; cases h) (by rfl) (by kernel_rfl) ?_
 replace hS := hS.drew
 refine zW 1 ((24, vP b2 0) :: _) hA hS rfl fun a hA => zY hA hS 0 rfl rfl rfl rfl rfl rfl rfl rfl rfl rfl fun a hA => zW 3 ((28, vP b 13) :: (27, vP b 0) :: (26, vP b 0) :: _) hA hS rfl fun a hA => zY hA hS 2 rfl rfl rfl rfl rfl rfl rfl rfl rfl rfl fun a hA => zW 1 ((30, .bool (((m.to : Nat) : Int) == ((st.c.rep : Nat) : Int))) :: _) hA hS rfl fun a hA => ze (zx ?_)
 have hc5 : ¬ (((m.to : Nat) : Int) = ((st.c.rep : Nat) : Int)) := by omega
 replace hA := hA.rw 30 (v' := yF) rfl (vb_eq_f hc5)
 refine cd_cond_f hA rfl (zk (zx (zs ?_)))
 replace hS := hS.m10.m4
 refine wp_drawN (fun w' => St w0 w' ([(b2, rowO [vU m.to, vU m.rp, vW m.id, vH m.op, vH m.st, vU m.po, vW m.ob, vB m.ri, vU m.ck, vU m.ar, .slice xA m.da.length xc] 46)] :: LB2 :: [(b, rowO [vI st.c.id, vI st.c.ki, vI st.c.no, vI st.c.pc, vI st.c.wa, vI st.c.tr, vI st.c.ag, vI st.c.pg, vI st.c.ro, vP bo 0, yT, vI st.c.now, vU st.c.sent, vU st.c.rep, vU st.c.port, vU st.c.r0, vW st.c.r1, vB st.c.r2, vU st.c.r3, sv, vP bd 0, vP bg 0, vP bc 0, vP bp 0, vP bx 0, .map (some mp)] 121)] :: LG :: LC :: LP :: [(mp, ob)] :: LV :: O :: F)) [] [(0, true), (1, true), (2, true), (3, true), (4, true)] 5 (.L [(6, true), (7, true), (8, true), (9, true), (10, false), (11, true), (12, false), (13, true)]) 10 (.L [(5, false), (6, true), (7, true), (8, true), (9, true), (11, true), (12, false), (13, true)]) mixed (by kernel_rfl) (by rintro c a w ⟨_, _, h, _⟩; cases h) (by rfl) (by kernel_rfl) ?_
 replace hS := hS.drew
 refine zW 3 ((40, vP b 20) :: (39, vP b 0) :: (38, vP b 0) :: _) hA (hS.tail 2 rfl) rfl fun a hA => zY hA (hS.tail 2 rfl) 2 rfl rfl rfl rfl rfl rfl rfl rfl rfl rfl fun a hA => zYA hA (hS.tail 2 rfl) 0 [vU m.to, vU m.rp, vW m.id, vH m.op, vH m.st, vU m.po, vW m.ob, vB m.ri, vU m.ck, vU m.ar, .slice xA m.da.length xc] rfl rfl rfl rfl rfl rfl rfl rfl rfl rfl rfl fun a hA => ?_
 refine dr_fork ?_ ?_
 · refine dr_b (o := _) rfl ?_
   replace hS := hS.m1.m1
   refine st_call0 hA rfl rfl rfl isfn68 rfl rfl (by decide) (take_new68 hS hn.fsr ((m.to : Nat) : Int) ((m.rp : Nat) : Int) ((m.id : Nat) : Int) ((m.op : Nat) : Int) ((m.st : Nat) : Int) ((m.po : Nat) : Int) ((m.ob : Nat) : Int) ((m.ri : Nat) : Int) ((m.ck : Nat) : Int) ((m.ar : Nat) : Int) _ (fnd_of hn.fel hnew) (by have h := map_len9 hn.fel; omega)) ?_
   clear hA hS; rintro _ w6 a ⟨LS2, hs2, rfl, hS⟩ hA
   refine zi (hS.tail 2 rfl) ?_
   refine dr_subL ?_
   refine zW 4 ((46, yN) :: (45, .agg #[yU, yU, yW, yH, yH, yU, yW, yB, yU, yU, yS]) :: (44, yI) :: (37, .tuple #[yI, .agg #[yU, yU, yW, yH, yH, yU, yW, yB, yU, yU, yS], yN]) :: _) hA (hS.tail 2 rfl) rfl fun a hA => dr_b (o := _) rfl ?_
   refine st_alloc tbOk hA hS [yU, yU, yW, yH, yH, yU, yW, yB, yU, yU, yS] rfl rfl rfl rfl rfl (by decide) fun b7 w8 a hS hA => ?_
   refine zi (hS.tail 3 rfl) (zW 1 ((6, yI) :: _) hA (hS.tail 3 rfl) rfl fun a hA => dr_b (o := _) rfl ?_)
   refine st_store tbOk hA hS [yU, yU, yW, yH, yH, yU, yW, yB, yU, yU, yS] [yU, yU, yW, yH, yH, yU, yW, yB, yU, yU, yS] rfl rfl rfl rfl rfl rfl (zn1 rfl) (zle rfl) rfl rfl rfl fun w9 hS => ?_
   refine zi (hS.tail 3 rfl) (zW 1 ((8, yN) :: _) hA (hS.tail 3 rfl) rfl fun a hA => ze (zx (zs (zb (zs (zs (zr (zR 3 ((47, yF) :: (49, yF) :: (48, yN) :: _) hA rfl fun a hA => zn (zx (cd_cond_f hA rfl (zr (zR 3 ((47, yF) :: (51, yF) :: (50, yI) :: _) hA rfl fun a hA => zn (zx (cd_cond_f hA rfl (zs (zr (zR 3 ((52, yT) :: (54, yT) :: (53, yI) :: _) hA rfl fun a hA => zn (zx (cd_cond_t hA rfl (zs ?_))))))))))))))))))))
   replace hS := hS.m2.m11.m11
   refine zD4 hS [] [(0, true), (1, true), (2, true), (3, true), (4, true), (5, false), (6, false)] mixed (by kernel_rfl) (by rintro c a w ⟨_, _, h, _⟩; cases h) (by rfl) (by kernel_rfl) ?_
   replace hS := hS.drew
   refine zW 3 ((57, vP b 19) :: (56, vP b 0) :: (55, vP b 0) :: _) hA (hS.tail 4 rfl) rfl fun a hA => zY hA (hS.tail 4 rfl) 3 rfl rfl rfl rfl rfl rfl rfl rfl rfl rfl fun a hA => zYA hA (hS.tail 4 rfl) 1 [vU m.to, vU m.rp, vW m.id, vH m.op, vH m.st, vU m.po, vW m.ob, vB m.ri, vU m.ck, vU m.ar, .slice xA m.da.length xc] rfl rfl rfl rfl rfl rfl rfl rfl rfl rfl rfl fun a hA => dr_b (o := _) rfl ?_
   replace hS := hS.m2.m2.m2
   refine st_call0 hA rfl rfl rfl isfn69 rfl rfl (by decide) (hsv _ hS hn.fsv hO hdx) ?_
   clear hA hS; rintro _ w10 a ⟨LV2, O2, E1, A1, c1, hV2, hO2, hE1, rfl, hS⟩ hA
   have hX11 : DX w0 D (E1 ++ D) := DX.refl.step
   refine zi (hS.tail 4 rfl) (dr_b (o := _) rfl ?_)
   replace hS := hS.m3
   refine st_store tbOk hA hS [vU r.to, vU r.rp, vW r.id, vH r.op, vH r.st, vU r.po, vW r.ob, vB r.ri, vU r.ck, vU r.ar, .slice A1 r.da.length c1] [vU r.to, vU r.rp, vW r.id, vH r.op, vH r.st, vU r.po, vW r.ob, vB r.ri, vU r.ck, vU r.ar, .slice A1 r.da.length c1] rfl rfl rfl rfl rfl rfl (zn1 rfl) (zle rfl) rfl rfl rfl fun w12 hS => ?_
   refine zi (hS.tail 4 rfl) (ze (zx ?_))
   replace hS := hS.m3.m4
   refine zD2 hS [] [(0, true), (1, true), (2, true), (3, true), (4, true), (5, true), (6, false)] mixed (by kernel_rfl) (by rintro c a w ⟨_, _, h, _⟩; cases h) (by rfl) (by kernel_rfl) ?_
   replace hS := hS.drew
   refine zW 3 ((63, vP b 20) :: (62, vP b 0) :: (61, vP b 0) :: _) hA (hS.tail 2 rfl) rfl fun a hA => zY hA (hS.tail 2 rfl) 5 rfl rfl rfl rfl rfl rfl rfl rfl rfl rfl fun a hA => zYA hA (hS.tail 2 rfl) 3 [vU m.to, vU m.rp, vW m.id, vH m.op, vH m.st, vU m.po, vW m.ob, vB m.ri, vU m.ck, vU m.ar, .slice xA m.da.length xc] rfl rfl rfl rfl rfl rfl rfl rfl rfl rfl rfl fun a hA => zYA hA (hS.tail 2 rfl) 0 [vU r.to, vU r.rp, vW r.id, vH r.op, vH r.st, vU r.po, vW r.ob, vB r.ri, vU r.ck, vU r.ar, .slice A1 r.da.length c1] rfl rfl rfl rfl rfl rfl rfl rfl rfl rfl rfl fun a hA => dr_b (o := _) rfl ?_
   replace hS := hS.m1.m1
   refine st_call0 hA rfl rfl rfl isfn70 rfl rfl (by decide) (reply_ok70 hS hs2 ((m.to : Nat) : Int) ((m.rp : Nat) : Int) ((m.id : Nat) : Int) ((m.op : Nat) : Int) ((m.st : Nat) : Int) ((m.po : Nat) : Int) ((m.ob : Nat) : Int) ((m.ri : Nat) : Int) ((m.ck : Nat) : Int) ((m.ar : Nat) : Int) _ ((r.to : Nat) : Int) ((r.rp : Nat) : Int) ((r.id : Nat) : Int) ((r.op : Nat) : Int) ((r.st : Nat) : Int) ((r.po : Nat) : Int) ((r.ob : Nat) : Int) ((r.ri : Nat) : Int) ((r.ck : Nat) : Int) ((r.ar : Nat) : Int) (bs := r.da) (DD.rds (F := (E1 ++ D) :: _) (DD.right hE1) 0 rfl) (by omega) (k := el.length) (x := ((((m.rp : Nat) : Int), ((m.id : Nat) : Int), 1, 0, 0, 0, 0, 0, 0, 0, 0, 0, 0, none, 0, ([] : List UInt8)) : Ent)) last_at (by simp [fnd]) (bef_last (fnd_of hn.fel hnew)) rfl (by have h := map_len9 hn.fel; rw [List.length_append]; show el.length + 1 ≤ _; omega)) ?_
   clear hA hS; rintro _ w13 a ⟨LS3, E2, A2, c2, hs3, hE2, rfl, hS⟩ hA
   have hX14 : DX w0 (E1 ++ D) (E2 ++ (E1 ++ D)) := DX.refl.step
   refine zi (hS.tail 2 rfl) (ze (zm (zx (zs ?_))))
   refine zD0 hS [9, 10, 11] [(0, true), (1, true), (2, true), (3, true), (4, true), (5, true), (6, true), (7, true), (8, false), (9, false), (10, false), (11, false)] mixed (by kernel_rfl) (by rintro c a w ⟨_, _, h, _⟩; cases h) (by rfl) (by kernel_rfl) ?_
   replace hS := hS.drew
   refine zW 1 ((68, vP b 0) :: _) hA hS rfl fun a hA => zYA hA hS 2 [vU r.to, vU r.rp, vW r.id, vH r.op, vH r.st, vU r.po, vW r.ob, vB r.ri, vU r.ck, vU r.ar, .slice A1 r.da.length c1] rfl rfl rfl rfl rfl rfl rfl rfl rfl rfl rfl fun a hA => zW 3 ((72, vP b 25) :: (71, vP b 0) :: (70, vP b 0) :: _) hA hS rfl fun a hA => zY hA hS 7 rfl rfl rfl rfl rfl rfl rfl rfl rfl rfl fun a hA => zW 1 ((74, vP b2 1) :: _) hA hS rfl fun a hA => zY hA hS 5 rfl rfl rfl rfl rfl rfl rfl rfl rfl rfl fun a hA => dr_b (o := _) rfl (st_val hA rfl rfl (by decide) (rn_lookup_hit tbOk hA rfl rfl rfl rfl rfl rfl rfl (hS.heapAt 11 rfl) hn.fmp (sdv_at hjs) (sdv_bef hjsn)) fun a hA => zi hS (dr_b (o := _) rfl ?_))
   replace hS := hS.m1.m7
   refine st_call0 hA rfl rfl rfl isfn62 rfl rfl (by decide) (npackets62 (s := st.c) hS r hrok z0 (DD.rds (F := (E2 ++ (E1 ++ D)) :: _) (DD.left (DD.right hE1)) 0 rfl) (by omega) hp1 hp2 hnr) ?_
   clear hA hS; rintro _ w15 a ⟨psq, Aq, cq, Cq, Eq, hOq, hKq, rfl, hS⟩ hA
   have hX16 : DX w0 (E2 ++ (E1 ++ D)) (Eq ++ (E2 ++ (E1 ++ D))) := DX.refl.step
   refine dr_nil (.inl (by decide)) (dr_b (o := _) rfl (zR 1 ((2, .slice Aq psq.length cq) :: _) hA rfl fun a hA => dr_nil (.inl (by decide)) (dr_b (o := _) rfl (zR 1 ((3, yT) :: _) hA rfl fun a hA => dr_nil (.inl (by decide)) (ze (zx ?_))))))
   refine wp_ret ?_
   refine ret2 (fn := Tryz.f42) hA rfl rfl rfl ?_
   replace hS := hS.m4.d0.m6.d0.m2.m5.m3.m5.m10.m7.m10.m10.m10.m10.m10
   replace hS : St w0 w15 (((b, rowO [vI st.c.id, vI st.c.ki, vI st.c.no, vI st.c.pc, vI st.c.wa, vI st.c.tr, vI st.c.ag, vI st.c.pg, vI st.c.ro, vP bo 0, yT, vI st.c.now, vU (st.c.sent + 1), vU st.c.rep, vU st.c.port, vU st.c.r0, vW st.c.r1, vB st.c.r2, vU st.c.r3, sv, vP bd 0, vP bg 0, vP bc 0, vP bp 0, vP bx 0, .map (some mp)] 121) :: (LS3 ++ (LG ++ (LC ++ (LP ++ (LB2 ++ ((mp, ob) :: LV2))))))) :: Cq :: O2 :: (Eq ++ (E2 ++ (E1 ++ D))) :: F) := hS.cast (by simp)
   exact ⟨_, psq, Aq, cq, Cq, O2, (Eq ++ (E2 ++ (E1 ++ D))), ⟨_, _, _, _, _, _, _, _, _, _, _, _, _, _, _, _, _, _, ⟨hs3, (hn.fgs.dx (hX11.trans (hX14.trans hX16))), hn.fcr, hn.fpm, hb2, hn.fmp, (hV2.dx (hX14.trans hX16)), (by rw [set_last5]; exact map_snoc9 (y := (⟨m.rp, m.id, 2, r⟩ : EA)) hn.fel (by rfl)), (by rw [set_last5]; exact all_snoc9 hn.fed (fun y hy => DX.dd (hX11.trans (hX14.trans hX16)) hy) (DD.left (DD.right hE2))), hn.fcl, ((hX11.trans (hX14.trans hX16)).calls hn.fcd), (by rw [hus]; rfl), (fun z hz => by cases hz), hum, (msg_dx (fun z hz => hn.fpd z (by rw [hul]; exact List.mem_cons_of_mem _ hz)) (hX11.trans (hX14.trans hX16)))⟩, rfl⟩, hO2, hOq, ⟨hKq.1, fun x hx => DD.right (hKq.2 x hx)⟩, (hX11.trans (hX14.trans hX16)), rfl, hS⟩
 · refine dr_b (o := _) rfl ?_
   refine st_alloc tbOk hA hS [yU, yU, yW, yH, yH, yU, yW, yB, yU, yU, yS] rfl rfl rfl rfl rfl (by decide) fun b17 w18 a hS hA => ?_
   refine zi (hS.tail 3 rfl) ?_
   refine dr_subL ?_
   refine dr_b (o := _) rfl ?_
   replace hS := hS.m2.m2
   refine st_call0 hA rfl rfl rfl isfn68 rfl rfl (by decide) (take_new68 hS hn.fsr ((m.to : Nat) : Int) ((m.rp : Nat) : Int) ((m.id : Nat) : Int) ((m.op : Nat) : Int) ((m.st : Nat) : Int) ((m.po : Nat) : Int) ((m.ob : Nat) : Int) ((m.ri : Nat) : Int) ((m.ck : Nat) : Int) ((m.ar : Nat) : Int) _ (fnd_of hn.fel hnew) (by have h := map_len9 hn.fel; omega)) ?_
   clear hA hS; rintro _ w19 a ⟨LS2, hs2, rfl, hS⟩ hA
   refine zi (hS.tail 3 rfl) (zW 5 ((6, yI) :: (46, yN) :: (45, .agg #[yU, yU, yW, yH, yH, yU, yW, yB, yU, yU, yS]) :: (44, yI) :: (37, .tuple #[yI, .agg #[yU, yU, yW, yH, yH, yU, yW, yB, yU, yU, yS], yN]) :: _) hA (hS.tail 3 rfl) rfl fun a hA => dr_b (o := _) rfl ?_)
   replace hS := hS.m2
   refine st_store tbOk hA hS [yU, yU, yW, yH, yH, yU, yW, yB, yU, yU, yS] [yU, yU, yW, yH, yH, yU, yW, yB, yU, yU, yS] rfl rfl rfl rfl rfl rfl (zn1 rfl) (zle rfl) rfl rfl rfl fun w20 hS => ?_
   refine zi (hS.tail 3 rfl) (zW 1 ((8, yN) :: _) hA (hS.tail 3 rfl) rfl fun a hA => ze (zx (zs (zb (zs (zs (zr (zR 3 ((47, yF) :: (49, yF) :: (48, yN) :: _) hA rfl fun a hA => zn (zx (cd_cond_f hA rfl (zr (zR 3 ((47, yF) :: (51, yF) :: (50, yI) :: _) hA rfl fun a hA => zn (zx (cd_cond_f hA rfl (zs (zr (zR 3 ((52, yT) :: (54, yT) :: (53, yI) :: _) hA rfl fun a hA => zn (zx (cd_cond_t hA rfl (zs ?_))))))))))))))))))))
   replace hS := hS.m2.m11.m11
   refine zD4 hS [] [(0, true), (1, true), (2, true), (3, true), (4, true), (5, false), (6, false)] mixed (by kernel_rfl) (by rintro c a w ⟨_, _, h, _⟩; cases h) (by rfl) (by kernel_rfl) ?_
   replace hS := hS.drew
   refine zW 3 ((57, vP b 19) :: (56, vP b 0) :: (55, vP b 0) :: _) hA (hS.tail 4 rfl) rfl fun a hA => zY hA (hS.tail 4 rfl) 3 rfl rfl rfl rfl rfl rfl rfl rfl rfl rfl fun a hA => zYA hA (hS.tail 4 rfl) 1 [vU m.to, vU m.rp, vW m.id, vH m.op, vH m.st, vU m.po, vW m.ob, vB m.ri, vU m.ck, vU m.ar, .slice xA m.da.length xc] rfl rfl rfl rfl rfl rfl rfl rfl rfl rfl rfl fun a hA => dr_b (o := _) rfl ?_
   replace hS := hS.m2.m2.m2
   refine st_call0 hA rfl rfl rfl isfn69 rfl rfl (by decide) (hsv _ hS hn.fsv hO hdx) ?_
   clear hA hS; rintro _ w21 a ⟨LV2, O2, E1, A1, c1, hV2, hO2, hE1, rfl, hS⟩ hA
   have hX22 : DX w0 D (E1 ++ D) := DX.refl.step
   refine zi (hS.tail 4 rfl) (dr_b (o := _) rfl ?_)
   replace hS := hS.m3
   refine st_store tbOk hA hS [vU r.to, vU r.rp, vW r.id, vH r.op, vH r.st, vU r.po, vW r.ob, vB r.ri, vU r.ck, vU r.ar, .slice A1 r.da.length c1] [vU r.to, vU r.rp, vW r.id, vH r.op, vH r.st, vU r.po, vW r.ob, vB r.ri, vU r.ck, vU r.ar, .slice A1 r.da.length c1] rfl rfl rfl rfl rfl rfl (zn1 rfl) (zle rfl) rfl rfl rfl fun w23 hS => ?_
   refine zi (hS.tail 4 rfl) (ze (zx ?_))
   replace hS := hS.m3.m4
   refine zD2 hS [] [(0, true), (1, true), (2, true), (3, true), (4, true), (5, true), (6, false)] mixed (by kernel_rfl) (by rintro c a w ⟨_, _, h, _⟩; cases h) (by rfl) (by kernel_rfl) ?_
   replace hS := hS.drew
   refine zW 3 ((63, vP b 20) :: (62, vP b 0) :: (61, vP b 0) :: _) hA (hS.tail 2 rfl) rfl fun a hA => zY hA (hS.tail 2 rfl) 5 rfl rfl rfl rfl rfl rfl rfl rfl rfl rfl fun a hA => zYA hA (hS.tail 2 rfl) 3 [vU m.to, vU m.rp, vW m.id, vH m.op, vH m.st, vU m.po, vW m.ob, vB m.ri, vU m.ck, vU m.ar, .slice xA m.da.length xc] rfl rfl rfl rfl rfl rfl rfl rfl rfl rfl rfl fun a hA => zYA hA (hS.tail 2 rfl) 0 [vU r.to, vU r.rp, vW r.id, vH r.op, vH r.st, vU r.po, vW r.ob, vB r.ri, vU r.ck, vU r.ar, .slice A1 r.da.length c1] rfl rfl rfl rfl rfl rfl rfl rfl rfl rfl rfl fun a hA => dr_b (o := _) rfl ?_
   replace hS := hS.m1.m1
   refine st_call0 hA rfl rfl rfl isfn70 rfl rfl (by decide) (reply_ok70 hS hs2 ((m.to : Nat) : Int) ((m.rp : Nat) : Int) ((m.id : Nat) : Int) ((m.op : Nat) : Int) ((m.st : Nat) : Int) ((m.po : Nat) : Int) ((m.ob : Nat) : Int) ((m.ri : Nat) : Int) ((m.ck : Nat) : Int) ((m.ar : Nat) : Int) _ ((r.to : Nat) : Int) ((r.rp : Nat) : Int) ((r.id : Nat) : Int) ((r.op : Nat) : Int) ((r.st : Nat) : Int) ((r.po : Nat) : Int) ((r.ob : Nat) : Int) ((r.ri : Nat) : Int) ((r.ck : Nat) : Int) ((r.ar : Nat) : Int) (bs := r.da) (DD.rds (F := (E1 ++ D) :: _) (DD.right hE1) 0 rfl) (by omega) (k := el.length) (x := ((((m.rp : Nat) : Int), ((m.id : Nat) : Int), 1, 0, 0, 0, 0, 0, 0, 0, 0, 0, 0, none, 0, ([] : List UInt8)) : Ent)) last_at (by simp [fnd]) (bef_last (fnd_of hn.fel hnew)) rfl (by have h := map_len9 hn.fel; rw [List.length_append]; show el.length + 1 ≤ _; omega)) ?_
   clear hA hS; rintro _ w24 a ⟨LS3, E2, A2, c2, hs3, hE2, rfl, hS⟩ hA
   have hX25 : DX w0 (E1 ++ D) (E2 ++ (E1 ++ D)) := DX.refl.step
   refine zi (hS.tail 2 rfl) (ze (zm (zx (zs ?_))))
   refine zD0 hS [9, 10, 11] [(0, true), (1, true), (2, true), (3, true), (4, true), (5, true), (6, true), (7, true), (8, false), (9, false), (10, false), (11, false)] mixed (by kernel_rfl) (by rintro c a w ⟨_, _, h, _⟩; cases h) (by rfl) (by kernel_rfl) ?_
   replace hS := hS.drew
   refine zW 1 ((68, vP b 0) :: _) hA hS rfl fun a hA => zYA hA hS 2 [vU r.to, vU r.rp, vW r.id, vH r.op, vH r.st, vU r.po, vW r.ob, vB r.ri, vU r.ck, vU r.ar, .slice A1 r.da.length c1] rfl rfl rfl rfl rfl rfl rfl rfl rfl rfl rfl fun a hA => zW 3 ((72, vP b 25) :: (71, vP b 0) :: (70, vP b 0) :: _) hA hS rfl fun a hA => zY hA hS 7 rfl rfl rfl rfl rfl rfl rfl rfl rfl rfl fun a hA => zW 1 ((74, vP b2 1) :: _) hA hS rfl fun a hA => zY hA hS 5 rfl rfl rfl rfl rfl rfl rfl rfl rfl rfl fun a hA => dr_b (o := _) rfl (st_val hA rfl rfl (by decide) (rn_lookup_hit tbOk hA rfl rfl rfl rfl rfl rfl rfl (hS.heapAt 11 rfl) hn.fmp (sdv_at hjs) (sdv_bef hjsn)) fun a hA => zi hS (dr_b (o := _) rfl ?_))
   replace hS := hS.m1.m7
   refine st_call0 hA rfl rfl rfl isfn62 rfl rfl (by decide) (npackets62 (s := st.c) hS r hrok z0 (DD.rds (F := (E2 ++ (E1 ++ D)) :: _) (DD.left (DD.right hE1)) 0 rfl) (by omega) hp1 hp2 hnr) ?_
   clear hA hS; rintro _ w26 a ⟨psq, Aq, cq, Cq, Eq, hOq, hKq, rfl, hS⟩ hA
   have hX27 : DX w0 (E2 ++ (E1 ++ D)) (Eq ++ (E2 ++ (E1 ++ D))) := DX.refl.step
   refine dr_nil (.inl (by decide)) (dr_b (o := _) rfl (zR 1 ((2, .slice Aq psq.length cq) :: _) hA rfl fun a hA => dr_nil (.inl (by decide)) (dr_b (o := _) rfl (zR 1 ((3, yT) :: _) hA rfl fun a hA => dr_nil (.inl (by decide)) (ze (zx ?_))))))
   refine wp_ret ?_
   refine ret2 (fn := Tryz.f42) hA rfl rfl rfl ?_
   replace hS := hS.m4.d0.m6.d0.m2.m5.m3.m5.m10.m7.m10.m10.m10.m10.m10
   replace hS : St w0 w26 (((b, rowO [vI st.c.id, vI st.c.ki, vI st.c.no, vI st.c.pc, vI st.c.wa, vI st.c.tr, vI st.c.ag, vI st.c.pg, vI st.c.ro, vP bo 0, yT, vI st.c.now, vU (st.c.sent + 1), vU st.c.rep, vU st.c.port, vU st.c.r0, vW st.c.r1, vB st.c.r2, vU st.c.r3, sv, vP bd 0, vP bg 0, vP bc 0, vP bp 0, vP bx 0, .map (some mp)] 121) :: (LS3 ++ (LG ++ (LC ++ (LP ++ (LB2 ++ ((mp, ob) :: LV2))))))) :: Cq :: O2 :: (Eq ++ (E2 ++ (E1 ++ D))) :: F) := hS.cast (by simp)
   exact ⟨_, psq, Aq, cq, Cq, O2, (Eq ++ (E2 ++ (E1 ++ D))), ⟨_, _, _, _, _, _, _, _, _, _, _, _, _, _, _, _, _, _, ⟨hs3, (hn.fgs.dx (hX22.trans (hX25.trans hX27))), hn.fcr, hn.fpm, hb2, hn.fmp, (hV2.dx (hX25.trans hX27)), (by rw [set_last5]; exact map_snoc9 (y := (⟨m.rp, m.id, 2, r⟩ : EA)) hn.fel (by rfl)), (by rw [set_last5]; exact all_snoc9 hn.fed (fun y hy => DX.dd (hX22.trans (hX25.trans hX27)) hy) (DD.left (DD.right hE2))), hn.fcl, ((hX22.trans (hX25.trans hX27)).calls hn.fcd), (by rw [hus]; rfl), (fun z hz => by cases hz), hum, (msg_dx (fun z hz => hn.fpd z (by rw [hul]; exact List.mem_cons_of_mem _ hz)) (hX22.trans (hX25.trans hX27)))⟩, rfl⟩, hO2, hOq, ⟨hKq.1, fun x hx => DD.right (hKq.2 x hx)⟩, (hX22.trans (hX25.trans hX27)), rfl, hS⟩
theorem St.midr {w0 w : World} {L : List Chunk} {A B C : Chunk} (h : St w0 w (A :: B :: C :: L)) : St w0 w (A :: C :: B :: L) := h.pickd [0, 2, 1] [] 3 (by simp only [List.length_cons]; omega) (by decide) rfl
theorem svok_make {w0 : World} {sv : Value} {bo po nx bb k s x : Nat} {os : List (Bool × Nat × Int × Int × Int)} {fl : List (Nat × List UInt8)} {en : List (Nat × Nat × Nat)} {ts : List Nat} {e li : Int} {m : MN} (hop : m.op = 100) (hri : m.ri = 255) (hpe : m.po = po) (hpo : po < 281474976710656) (hob : m.ob < 16777216) (hck : m.ck < 281474976710656) (hox : os[m.ob]? = some (true, s, e, -1, li)) (hos : s < 2 ^ 64) (hock : s % 281474976710656 = m.ck) (hml : m.da.length ≤ 4096) (hall : ∀ x ∈ os, x.1 = true) (hol : os.length < 64) (hlt : ∀ x ∈ fl, x.1 < nx) (hnx : nx < 1000000) (hbb : bb + m.da.length ≤ 65536) (hx : ts[k]? = some x) :
    SVOK w0 sv bo po (.file os fl nx bb) (.file (os ++ [(true, x, 0, ((nx : Nat) : Int), 24)]) (fl ++ [(nx, m.da)]) (nx + 1) (bb + m.da.length)) en en ts k (k + 1) m ⟨m.rp, m.to, m.id, 100, 0, po, os.length, 255, x, 0, []⟩ := by
  intro w F LV O D A c hS hV hO hd
  obtain ⟨b, rfl, hV⟩ := hV
  have h := serve_make69 hS hV hO m hpo hob hck hox hos hock (DD.rds (F := D :: _) hd 0 rfl) (by omega) hall hol hlt hnx hbb hx
  rw [hop, hri, hpe]
  refine Calls.mono h ?_
  rintro e w' ⟨v, he, LV2, O2, E1, A1, c1, hV2, hO2, hE1, rfl, hS⟩
  exact ⟨_, he, LV2, O2, E1, A1, c1, ⟨b, rfl, hV2⟩, hO2, hE1, rfl, hS⟩
theorem svok_read {w0 : World} {sv : Value} {bo po nx bb k s va p n : Nat} {os : List (Bool × Nat × Int × Int × Int)} {fl : List (Nat × List UInt8)} {en : List (Nat × Nat × Nat)} {ts : List Nat} {e li : Int} {m : MN} {bs : List UInt8} {j : Nat} (hop : m.op = 101) (hri : m.ri = 255) (hpe : m.po = po) (har : m.ar = p * 4294967296 + n) (hpo : po < 281474976710656) (hob : m.ob < 16777216) (hck : m.ck < 281474976710656) (hox : os[m.ob]? = some (true, s, e, ((va : Nat) : Int), li)) (hos : s < 2 ^ 64) (hock : s % 281474976710656 = m.ck) (hol : os.length ≤ 64) (hj : fl[j]? = some (va, bs)) (hjn : ∀ (q : Nat) (y : Nat × List UInt8), q < j → fl[q]? = some y → ¬ y.1 = va) (hbl : bs.length ≤ 65536) (hn4 : n ≤ 4096) (hpn : p + n ≤ bs.length) :
    SVOK w0 sv bo po (.file os fl nx bb) (.file os fl nx bb) en en ts k k m ⟨m.rp, m.to, m.id, 101, 0, 0, 0, 0, 0, 0, bsub bs p n⟩ := by
  intro w F LV O D A c hS hV hO hd
  obtain ⟨b, rfl, hV⟩ := hV
  have h := serve_read69 (St.midr hS) hV (.slice A m.da.length c) hol hj hjn hbl hn4 hpn m hpo hob hck hox hos hock
  rw [hop, hri, hpe, har]
  refine Calls.mono h ?_
  rintro e w' ⟨v, he, LV2, E1, A1, c1, hV2, hE1, rfl, hS⟩
  exact ⟨_, he, LV2, O, E1, A1, c1, ⟨b, rfl, hV2⟩, hO, hE1, rfl, St.midr hS⟩
theorem svok_restrict {w0 : World} {sv : Value} {bo po nx bb k k2 s x : Nat} {os : List (Bool × Nat × Int × Int × Int)} {fl : List (Nat × List UInt8)} {en en2 : List (Nat × Nat × Nat)} {ts : List Nat} {e va li : Int} {m : MN} (hop : m.op = 3) (hri : m.ri = 255) (hpe : m.po = po) (hpo : po < 281474976710656) (hob : m.ob < 16777216) (hck : m.ck < 281474976710656) (hox : os[m.ob]? = some (true, s, e, va, li)) (hos : s < 2 ^ 64) (hol : os.length ≤ 64) (hock : s % 281474976710656 = m.ck) (har : m.ar < 256) (hT : tokM s m.ar en ts k = some (x, en2, k2)) :
    SVOK w0 sv bo po (.file os fl nx bb) (.file os fl nx bb) en en2 ts k k2 m ⟨m.rp, m.to, m.id, 3, 0, po, m.ob, m.ar, x, 0, []⟩ := by
  intro w F LV O D A c hS hV hO hd
  obtain ⟨b, rfl, hV⟩ := hV
  have h := serve_restrict69 hS hV hO m hpo hob hck hox hos hol (.slice A m.da.length c) hock har hT
  rw [hop, hri, hpe]
  refine Calls.mono h ?_
  rintro e w' ⟨v, he, LV2, O2, E1, A1, c1, hV2, hO2, hE1, rfl, hS⟩
  exact ⟨_, he, LV2, O2, E1, A1, c1, ⟨b, rfl, hV2⟩, hO2, hE1, rfl, hS⟩
theorem svok_revoke {w0 : World} {sv : Value} {bo po nx bb k s x : Nat} {os : List (Bool × Nat × Int × Int × Int)} {fl : List (Nat × List UInt8)} {en : List (Nat × Nat × Nat)} {ts : List Nat} {e va li : Int} {m : MN} (hop : m.op = 4) (hri : m.ri = 255) (hpe : m.po = po) (hpo : po < 281474976710656) (hob : m.ob < 16777216) (hck : m.ck < 281474976710656) (hox : os[m.ob]? = some (true, s, e, va, li)) (hos : s < 2 ^ 64) (hol : os.length ≤ 64) (hock : s % 281474976710656 = m.ck) (hkx : ts[k]? = some x) (he0 : 0 ≤ e) (he1 : e < 1000000) :
    SVOK w0 sv bo po (.file os fl nx bb) (.file (os.set m.ob (true, x, e + 1, va, li)) fl nx bb) en en ts k (k + 1) m ⟨m.rp, m.to, m.id, 4, 0, po, m.ob, 255, x, 0, []⟩ := by
  intro w F LV O D A c hS hV hO hd
  obtain ⟨b, rfl, hV⟩ := hV
  have h := serve_revoke69 hS hV hO m hpo hob hck hox hos hol (.slice A m.da.length c) hock hkx he0 he1
  rw [hop, hri, hpe]
  refine Calls.mono h ?_
  rintro e w' ⟨v, he, LV2, O2, E1, A1, c1, hV2, hO2, hE1, rfl, hS⟩
  exact ⟨_, he, LV2, O2, E1, A1, c1, ⟨b, rfl, hV2⟩, hO2, hE1, rfl, hS⟩
theorem svok_bad {w0 : World} {sv : Value} {bo po nx bb k k2 s x : Nat} {os : List (Bool × Nat × Int × Int × Int)} {fl : List (Nat × List UInt8)} {en en2 : List (Nat × Nat × Nat)} {ts : List Nat} {e va li : Int} {m : MN} (hg : HG w0) (hop : m.op = 102) (hpe : m.po = po) (hpo : po < 281474976710656) (hob : m.ob < 16777216) (hck : m.ck < 281474976710656) (hox : os[m.ob]? = some (true, s, e, va, li)) (hos : s < 2 ^ 64) (hol : os.length ≤ 64) (hri : m.ri < 256) (hT : tokM s m.ri en ts k = some (x, en2, k2)) (hne : ¬ x = m.ck) :
    SVOK w0 sv bo po (.file os fl nx bb) (.file os fl nx bb) en en2 ts k k2 m ⟨m.rp, m.to, m.id, 102, 1, 0, 0, 0, 0, 0, []⟩ := by
  intro w F LV O D A c hS hV hO hd
  obtain ⟨b, rfl, hV⟩ := hV
  have h := serve_bad69 hS hg hV hO m hpo hob hck hox hos hol (.slice A m.da.length c) hri hT hne
  rw [hop, hpe]
  refine Calls.mono h ?_
  rintro e w' ⟨v, he, LV2, O2, E1, A1, c1, hV2, hO2, hE1, rfl, hS⟩
  exact ⟨_, he, LV2, O2, E1, A1, c1, ⟨b, rfl, hV2⟩, hO2, hE1, rfl, hS⟩
end Go.Proofs.YthiakdmhpfkjbaaGreatDoor

set_option linter.unusedVariables false
set_option linter.unusedSimpArgs false
set_option maxRecDepth 4000
namespace Go.Proofs.YthiakdmhpfkjbaaGreatDoor
open Go Go.SK
def encPt (b : Nat) : List Value := [vP b 0]
theorem encPt_ok : Enc encPt 1 := ⟨fun _ => rfl, fun x u hu => by simp only [encPt, List.mem_cons, List.not_mem_nil, or_false] at hu; rcases hu with rfl <;> rfl⟩
inductive NX where
  | up (st : NS) (sr : Srv) : NX
  | down (c : NC) : NX
def NOD (w0 : World) (b bo : Nat) : NX → Chunk → Chunk → Prop
  | .up st sr, L, D => NUP w0 b bo st sr L D
  | .down s, L, _ => L = [(b, rowO [vI s.id, vI s.ki, vI s.no, vI s.pc, vI s.wa, vI s.tr, vI s.ag, vI s.pg, vI s.ro, vP bo 0, yF, vI s.now, vU s.sent, yU, yU, yU, yW, yB, yU, .pointer none, .pointer none, .pointer none, .pointer none, .pointer none, .pointer none, .map none] 121)]
theorem NOD.dx {w0 : World} {b bo : Nat} {x : NX} {L D D' : Chunk} (h : NOD w0 b bo x L D) (k : DX w0 D D') : NOD w0 b bo x L D' := by
  cases x with
  | up st sr => exact NUP.dx h k
  | down c => exact h
def NDS (w0 : World) (bo : Nat) : List Nat → List NX → Chunk → Chunk → Prop
  | [], [], L, _ => L = []
  | b :: bs, x :: xs, L, D => ∃ L1 L2, NOD w0 b bo x L1 D ∧ NDS w0 bo bs xs L2 D ∧ L = L1 ++ L2
  | _, _, _, _ => False
theorem NDS.dx {w0 : World} {bo : Nat} {D D' : Chunk} (k : DX w0 D D') : ∀ {bs : List Nat} {xs : List NX} {L : Chunk}, NDS w0 bo bs xs L D → NDS w0 bo bs xs L D'
  | [], [], _, h => h
  | [], _ :: _, _, h => h.elim
  | _ :: _, [], _, h => h.elim
  | b :: bs, x :: xs, L, h => by
    obtain ⟨L1, L2, h1, h2, h3⟩ := h
    exact ⟨L1, L2, h1.dx k, NDS.dx k h2, h3⟩
theorem NDS.len {w0 : World} {bo : Nat} {D : Chunk} : ∀ {bs : List Nat} {xs : List NX} {L : Chunk}, NDS w0 bo bs xs L D → bs.length = xs.length
  | [], [], _, h => rfl
  | [], _ :: _, _, h => h.elim
  | _ :: _, [], _, h => h.elim
  | b :: bs, x :: xs, L, h => by
    obtain ⟨L1, L2, h1, h2, h3⟩ := h
    rw [List.length_cons, List.length_cons, NDS.len h2]
theorem NDS.app {w0 : World} {bo : Nat} {D : Chunk} {b : Nat} {x : NX} {L2 : Chunk} (h2 : NOD w0 b bo x L2 D) : ∀ {bs : List Nat} {xs : List NX} {L : Chunk}, NDS w0 bo bs xs L D → NDS w0 bo (bs ++ [b]) (xs ++ [x]) (L ++ L2) D
  | [], [], _, h => by
    have e : _ = [] := h
    subst e
    exact ⟨L2, [], h2, rfl, by simp⟩
  | [], _ :: _, _, h => h.elim
  | _ :: _, [], _, h => h.elim
  | b :: bs, x :: xs, L, h => by
    obtain ⟨L1, L3, h1, h4, h3⟩ := h
    subst h3
    exact ⟨L1, L3 ++ L2, h1, NDS.app h2 h4, by simp⟩
theorem NDS.at_ {w0 : World} {bo : Nat} {D : Chunk} : ∀ {bs : List Nat} {xs : List NX} {L : Chunk} {i b : Nat} {x : NX}, NDS w0 bo bs xs L D → bs[i]? = some b → xs[i]? = some x → ∃ La Li Lb, L = La ++ (Li ++ Lb) ∧ NOD w0 b bo x Li D ∧ ∀ x' Li' D', DX w0 D D' → NOD w0 b bo x' Li' D' → NDS w0 bo bs (xs.set i x') (La ++ (Li' ++ Lb)) D'
  | [], [], _, i, _, _, _, hb, _ => by cases hb
  | [], _ :: _, _, _, _, _, h, _, _ => h.elim
  | _ :: _, [], _, _, _, _, h, _, _ => h.elim
  | b0 :: bs, x0 :: xs, L, 0, b, x, h, hb, hx => by
    obtain ⟨L1, L2, h1, h2, h3⟩ := h
    injection hb with hb; injection hx with hx; subst hb; subst hx; subst h3
    exact ⟨[], L1, L2, rfl, h1, fun x' Li' D' k h' => ⟨Li', L2, h', NDS.dx k h2, rfl⟩⟩
  | b0 :: bs, x0 :: xs, L, i + 1, b, x, h, hb, hx => by
    obtain ⟨L1, L2, h1, h2, h3⟩ := h
    obtain ⟨La, Li, Lb, g1, g2, g3⟩ := NDS.at_ h2 (by simpa using hb) (by simpa using hx)
    subst h3; subst g1
    refine ⟨L1 ++ La, Li, Lb, by simp, g2, fun x' Li' D' k h' => ⟨L1, La ++ (Li' ++ Lb), h1.dx k, g3 x' Li' D' k h', by simp⟩⟩
def WRA (w0 : World) (b : Nat) (pn : List PN) (L D : Chunk) : Prop := ∃ ps, WR b ps L ∧ PKS w0 D ps pn
theorem PKS.dx {w0 : World} {D D' : Chunk} {ps : List Pkt} {pn : List PN} (h : PKS w0 D ps pn) (k : DX w0 D D') : PKS w0 D' ps pn := ⟨h.1, fun x hx => k.dd (h.2 x hx)⟩
theorem WRA.dx {w0 : World} {b : Nat} {pn : List PN} {L D D' : Chunk} (h : WRA w0 b pn L D) (k : DX w0 D D') : WRA w0 b pn L D' := by
  obtain ⟨ps, h1, h2⟩ := h
  exact ⟨ps, h1, h2.dx k⟩
theorem PKS.at_ {w0 : World} {D : Chunk} {ps : List Pkt} {pn : List PN} {j : Nat} {x : Pkt} (h : PKS w0 D ps pn) (hx : ps[j]? = some x) : ∃ p, pn[j]? = some p ∧ pst x = p.t ∧ encPacket_dd w0 D x := by
  obtain ⟨p, hp, e⟩ := map_at9 h.1.symm hx
  exact ⟨p, hp, e.symm, h.2 x (List.mem_of_getElem? hx)⟩
theorem PKS.snoc {w0 : World} {D E : Chunk} {ps : List Pkt} {pn : List PN} {p : PN} {A : Option Addr} {c : Nat} (h : PKS w0 D ps pn) (hE : DD w0 E A c p.da) : PKS w0 (E ++ D) (ps ++ [(((p.fr : Nat) : Int), ((p.to : Nat) : Int), ((p.id : Nat) : Int), ((p.ix : Nat) : Int), ((p.cn : Nat) : Int), A, c, p.da)]) (pn ++ [p]) := ⟨by rw [List.map_append, List.map_append, h.1]; rfl, fun x hx => by
  rcases List.mem_append.1 hx with hx | hx
  · exact encPacket_left (h.2 x hx)
  · rw [List.mem_singleton.1 hx]; exact hE.right⟩
structure SY where
  nx : List NX
  wi : List PN
  en : List (Nat × Nat × Nat)
  k : Nat
structure SYS0 (w0 : World) (ts : List Nat) (s : SY) (D : Chunk) (bw bo : Nat) (bs : List Nat) (A : Option Addr) (c : Nat) (C NL WL OL : Chunk) : Prop where
  fn : NDS w0 bo bs s.nx NL D
  fw : WRA w0 bw s.wi WL D
  fo : ORR bo s.en ts s.k OL
  fr : Own 82 1 (.slice A bs.length c) bs.length (rows encPt bs) C
def SYS (w0 : World) (b : Nat) (ts : List Nat) (s : SY) (L D : Chunk) : Prop := ∃ bw bo bs A c C NL WL OL, SYS0 w0 ts s D bw bo bs A c C NL WL OL ∧ L = (b, rowO [.slice A bs.length c, vP bw 0] 77) :: (C ++ (NL ++ (WL ++ OL)))
set_option maxHeartbeats 4000000 in
theorem ssend34 {w0 w : World} {F : List Chunk} {b bw n0 c0 c : Nat} {A0 A : Option Addr} {WL Cq D : Chunk} {wi pn : List PN} {ps : List Pkt} (hS : St w0 w ([(b, rowO [.slice A0 n0 c0, vP bw 0] 77)] :: WL :: Cq :: D :: F)) (hW : WRA w0 bw wi WL D) (hO : Own 94 6 (.slice A ps.length c) ps.length (rows encPacket ps) Cq) (hK : PKS w0 D ps pn) (hl : wi.length + pn.length ≤ 1024) (hsz : ∀ p ∈ pn, p.da.length ≤ 1000000) :
 Ret Tryz.prog 34 #[vP b 0, .slice A ps.length c] w (fun v w' => ∃ WL' D', WRA w0 bw (wi ++ pn) WL' D' ∧ DX w0 D D' ∧ v = .tuple #[] ∧ St w0 w' ([(b, rowO [.slice A0 n0 c0, vP bw 0] 77)] :: WL' :: D' :: F)) := by
 have hcap := hO.rcap; have hpl := hK.len
 refine enter (vs := [vP b 0, .slice A ps.length c]) 20 Tryz.func34 rfl rfl (by simp) ?_; intro a hA
 refine zs (zr (zR 3 ((8, yI) :: (7, vI ps.length) :: (6, .slice A ps.length c) :: _) hA rfl fun a hA => zn (zx (zb ?_))))
 replace hS := hS.m3.m2.m2
 refine wp_loop_ghost (fun m a w => ∃ (j : Nat) (WL' : Chunk) (D' : Chunk), m = ps.length - j ∧ Has a 20 [(0, vP b 0), (6, .slice A ps.length c), (7, vI ps.length), (8, vI j)] ∧ St w0 w ([(b, rowO [.slice A0 n0 c0, vP bw 0] 77)] :: WL' :: D' :: Cq :: F) ∧ (j ≤ ps.length) ∧ (WRA w0 bw (wi ++ pn.take j) WL' D') ∧ (DX w0 D D')) (ps.length - 0)
  ⟨0, WL, D, rfl, (hA.sel [0, 6, 7, 8] rfl), hS, Nat.zero_le _, (by rw [List.take_zero, List.append_nil]; exact hW), DX.refl⟩ ?_
 clear hA hS; rintro m0 a w1 ⟨j, WL', D', rfl, hA, hS, hj, hW, hX⟩
 refine zs (zr (zR 1 ((9, .bool (decide (((j : Nat) : Int) < ((ps.length : Nat) : Int)))) :: _) hA rfl fun a hA => zn (zx (zs ?_))))
 by_cases hc2 : ((j : Nat) : Int) < ((ps.length : Nat) : Int)
 · first
   | (exfalso; omega)
   | (replace hA := hA.rw 9 (v' := yT) rfl (vb_true hc2)
      refine cd_cond_t hA rfl (zk (zx (zs (zb (zs (zr ?_))))))
      obtain ⟨x, hx⟩ := get_ex (l := ps) (k := j) (by omega)
      obtain ⟨p, hpj, e, hdx⟩ := (hK.dx hX).at_ hx; have hps := hsz p (List.mem_of_getElem? hpj)
      obtain ⟨k0, k1, k2, k3, k4, kA, kc, kb⟩ := x
      simp only [pst, pdat, PN.t, Prod.mk.injEq] at e
      obtain ⟨e0, e1, e2, e3, e4, e5⟩ := e
      subst e0 e1 e2 e3 e4 e5
      obtain ⟨b3, o4, rfl⟩ := hO.isSome (k := j) (by omega)
      refine st_val hA rfl rfl (by decide) (rn_indexAddr tbOk hA j (o4 + (j * 6)) rfl rfl rfl rfl rfl rfl (by rfl) (by omega) (by first | rfl | simp [Nat.mul_one, Nat.zero_add] | omega)) fun a hA => st_val hA rfl rfl (by decide) (rn_loadA tbOk hA ([vI p.fr, vI p.to, vU p.id, vI p.ix, vI p.cn, .slice kA p.da.length kc]) rfl rfl rfl rfl (by rfl) ((hO.rd (hS.own_ 3 rfl)).elem (k := j) encPacket_ok hx)) fun a hA => ?_
      refine st_alloc tbOk hA hS [yI, yI, yU, yI, yI, yS] rfl rfl rfl rfl rfl (by decide) fun b5 w6 a hS hA => ?_
      refine st_store tbOk hA hS [vI p.fr, vI p.to, vU p.id, vI p.ix, vI p.cn, .slice kA p.da.length kc] [vI p.fr, vI p.to, vU p.id, vI p.ix, vI p.cn, .slice kA p.da.length kc] rfl rfl rfl rfl rfl rfl (zn1 rfl) (zle rfl) rfl rfl rfl fun w7 hS => ?_
      refine zn (zx (zs ?_))
      replace hS := hS.m3.m3
      refine zD2 hS [] [(0, true), (1, true), (2, true), (3, true), (4, true), (5, false), (6, true)] mixed (by kernel_rfl) (by rintro c a w ⟨_, _, h, _⟩; cases h) (by rfl) (by kernel_rfl) ?_
      replace hS := hS.drew
      refine zW 3 ((14, vP b 1) :: (13, vP b 0) :: (12, vP b 0) :: _) hA (hS.tail 2 rfl) rfl fun a hA => zY hA (hS.tail 2 rfl) 1 rfl rfl rfl rfl rfl rfl rfl rfl rfl rfl fun a hA => zYA hA (hS.tail 2 rfl) 0 [vI p.fr, vI p.to, vU p.id, vI p.ix, vI p.cn, .slice kA p.da.length kc] rfl rfl rfl rfl rfl rfl rfl rfl rfl rfl rfl fun a hA => dr_b (o := _) rfl ?_
      replace hS := hS.m1.m1
      obtain ⟨wp, hwr, hWK⟩ := hW; have hwl := hWK.len; rw [List.length_append, List.length_take] at hwl
      refine st_call0 hA rfl rfl rfl isfn57 rfl rfl (by decide) (send_ok57 hS hwr ((p.fr : Nat) : Int) ((p.to : Nat) : Int) ((p.id : Nat) : Int) ((p.ix : Nat) : Int) ((p.cn : Nat) : Int) (DD.rds (F := D' :: _) hdx 0 rfl) (by omega) (by omega)) ?_
      clear hA hS; rintro _ w8 a ⟨WL2, E2, A2, c2, hwr2, hE2, rfl, hS⟩ hA
      refine zi (hS.tail 2 rfl) (zW 1 ((18, yF) :: _) hA (hS.tail 2 rfl) rfl fun a hA => ze (zx (cd_cond_f hA rfl (zk (zm (zx (zr (zR 1 ((19, .int .i64 (IntKind.i64.wrap (((j : Nat) : Int) + 1))) :: _) hA rfl fun a hA => ?_))))))))
      replace hA := hA.rw 19 (v' := vI (j + 1)) rfl (wr64 (by omega) (by omega) (by omega))
      refine zR 1 ((8, vI (j + 1)) :: _) hA rfl fun a hA => zn ?_
      replace hS := hS.d2.m2
      have hW9 : WRA w0 bw (wi ++ pn.take (j + 1)) WL2 (E2 ++ D') := by rw [List.take_add_one, hpj, ← List.append_assoc]; exact ⟨_, hwr2, hWK.snoc hE2⟩
      exact lp_next _ (by omega) ⟨(j + 1), WL2, (E2 ++ D'), rfl, (hA.sel [0, 6, 7, 8] rfl), hS, by omega, hW9, (hX.trans DX.refl.step)⟩)
 · first
   | (exfalso; omega)
   | (replace hA := hA.rw 9 (v' := yF) rfl (vb_false hc2)
      refine cd_cond_f hA rfl ?_
      refine wp_exit ?_
      refine xt_exit (xt_exit (cd_exit_eq ?_))
      refine ret0n (fn := Tryz.f34) hA rfl ?_
      replace hS := hS.d3
      have hj9 : pn.take j = pn := List.take_of_length_le (by omega)
      rw [hj9] at hW; exact ⟨_, _, hW, hX, rfl, hS⟩)
theorem sat31 {w0 w : World} {F : List Chunk} {b bw c i bi : Nat} {A : Option Addr} {C : Chunk} {bs : List Nat} (hS : St w0 w ([(b, rowO [.slice A bs.length c, vP bw 0] 77)] :: C :: F)) (hr : Own 82 1 (.slice A bs.length c) bs.length (rows encPt bs) C) (hi : bs[i]? = some bi) :
 Ret Tryz.prog 31 #[vP b 0, vI i] w (fun v w' => v = vP bi 0 ∧ St w0 w' ([(b, rowO [.slice A bs.length c, vP bw 0] 77)] :: C :: F)) := by
 have hil := (List.getElem?_eq_some_iff.1 hi).1
 refine enter (vs := [vP b 0, vI i]) 23 Tryz.func31 rfl rfl (by simp) ?_; intro a hA
 refine zs (zr (zR 1 ((4, .pointer none) :: _) hA rfl fun a hA => zn (zx (zs (zs (zr (zR 3 ((7, .bool (decide (((i : Nat) : Int) < 0))) :: (6, .bool (decide (((i : Nat) : Int) < 0))) :: (5, vI i) :: _) hA rfl fun a hA => ?_)))))))
 have hc1 : ¬ (((i : Nat) : Int) < 0) := by omega
 replace hA := hA.rw 6 (v' := yF) rfl (vb_false hc1)
 replace hA := hA.rw 7 (v' := yF) rfl (vb_false hc1)
 refine zR 4 ((11, vP b 0) :: (10, vP b 0) :: (9, vP b 0) :: (8, vI i) :: _) hA rfl fun a hA => zL hA hS 0 rfl rfl rfl rfl rfl rfl rfl rfl rfl fun a hA => zR 3 ((15, .bool (decide (((i : Nat) : Int) ≥ ((bs.length : Nat) : Int)))) :: (14, .bool (decide (((i : Nat) : Int) ≥ ((bs.length : Nat) : Int)))) :: (13, vI bs.length) :: _) hA rfl fun a hA => zn (zx ?_)
 have hc2 : ¬ (((i : Nat) : Int) ≥ ((bs.length : Nat) : Int)) := by omega
 replace hA := hA.rw 15 (v' := yF) rfl (vb_false hc2)
 refine cd_cond_f hA rfl (zk (zx (zs (zr (zR 3 ((18, vP b 0) :: (17, vP b 0) :: (16, vP b 0) :: _) hA rfl fun a hA => zL hA hS 0 rfl rfl rfl rfl rfl rfl rfl rfl rfl fun a hA => zR 1 ((20, vI i) :: _) hA rfl fun a hA => ?_)))))
 obtain ⟨b3, o4, rfl⟩ := hr.isSome (k := i) (by omega)
 refine st_val hA rfl rfl (by decide) (rn_indexAddr tbOk hA i (o4 + i) rfl rfl rfl rfl rfl rfl (by rfl) (by omega) (by first | rfl | simp [Nat.mul_one, Nat.zero_add] | omega)) fun a hA => st_val hA rfl rfl (by decide) (rn_load tbOk hA rfl rfl rfl rfl ((hr.rd (hS.own_ 1 rfl)).elem0 (k := i) encPt_ok hi rfl)) fun a hA => zR 1 ((4, vP bi 0) :: _) hA rfl fun a hA => zn (zx ?_)
 refine wp_ret ?_
 refine ret1 (fn := Tryz.f31) hA rfl rfl ?_
 exact ⟨rfl, hS⟩
end Go.Proofs.YthiakdmhpfkjbaaGreatDoor

set_option linter.unusedVariables false
set_option linter.unusedSimpArgs false
set_option maxRecDepth 4000
namespace Go.Proofs.YthiakdmhpfkjbaaGreatDoor
open Go Go.SK
def decR (b : List UInt8) : MN := ⟨beval (bsub b 0 6), beval (bsub b 6 6), beval (bsub b 12 4), beval (bsub b 16 2), beval (bsub b 18 2), beval (bsub b 20 6), beval (bsub b 26 3), beval (bsub b 29 1), beval (bsub b 30 6), beval (bsub b 36 8), b.drop 46⟩
def decF12 (b11 b10 b9 b8 b7 b6 b5 b4 b3 b2 b1 b : List UInt8) : Option MN := if 2 ≤ b10.length ∧ b11.length = beval (b10.take 2) ∧ b11.length ≤ 4096 then some ⟨beval (b.take 6), beval (b1.take 6), beval (b2.take 4), beval (b3.take 2), beval (b4.take 2), beval (b5.take 6), beval (b6.take 3), beval (b7.take 1), beval (b8.take 6), beval (b9.take 8), b11⟩ else none
def decF6 (b5 b4 b3 b2 b1 b : List UInt8) : Option MN := (fun b6 => (fun b7 => (fun b8 => (fun b9 => (fun b10 => decF12 (b10.drop 2) b10 b9 b8 b7 b6 b5 b4 b3 b2 b1 b) (b9.drop 8)) (b8.drop 6)) (b7.drop 1)) (b6.drop 3)) (b5.drop 6)
def decM (b : List UInt8) : Option MN := (fun b1 => (fun b2 => (fun b3 => (fun b4 => decF6 (b4.drop 2) b4 b3 b2 b1 b) (b3.drop 2)) (b2.drop 4)) (b1.drop 6)) (b.drop 6)
theorem bsub_dt (b : List UInt8) (k n : Nat) : (b.drop k).take n = bsub b k n := by rw [bsub, List.drop_take]; congr 1; omega
theorem decM_eq (b : List UInt8) : decM b = if 2 ≤ (b.drop 44).length ∧ (b.drop 46).length = beval (bsub b 44 2) ∧ (b.drop 46).length ≤ 4096 then some (decR b) else none := by
  simp only [decM, decF6, decF12, List.drop_drop, bsub_dt, decR]
  rfl
theorem be_beval : ∀ (n : Nat) (x : List UInt8), x.length = n → be n (beval x) = x
  | 0, x, h => by rw [List.eq_nil_of_length_eq_zero h]; rfl
  | n + 1, x, h => by
    obtain ⟨y, c, rfl⟩ : ∃ y c, x = y ++ [c] := ⟨x.dropLast, x.getLast (by intro e; rw [e] at h; cases h), (List.dropLast_concat_getLast _).symm⟩
    have hy : y.length = n := by rw [List.length_append] at h; simpa using h
    have hc := UInt8.toNat_lt c
    rw [beval_snoc, be, show (beval y * 256 + c.toNat) / 256 = beval y by omega, be_beval n y hy]
    congr 2
    apply UInt8.toNat.inj
    rw [UInt8.toNat_ofNat']
    omega
theorem be_bsub {b : List UInt8} {k n : Nat} (h : k + n ≤ b.length) : be n (beval (bsub b k n)) = bsub b k n := be_beval n _ (bsub_length h)
theorem bsub_app {b : List UInt8} {k n : Nat} : bsub b k n ++ b.drop (k + n) = b.drop k := by
  rw [bsub, show b.drop (k + n) = (b.drop k).drop n by rw [List.drop_drop], show (b.take (k + n)).drop k = (b.drop k).take n by rw [List.drop_take]; congr 1; omega]
  exact List.take_append_drop n _
theorem decM_some {b : List UInt8} {m : MN} (h : decM b = some m) : b = encM m ∧ m.ok := by
  rw [decM_eq] at h
  split at h
  · rename_i hc
    injection h with h; subst h
    obtain ⟨h1, hd, h3⟩ := hc
    rw [List.length_drop] at h1 h3
    refine ⟨?_, ?_⟩
    · rw [encM, capb]
      simp only [decR, List.append_assoc]
      rw [hd, be_bsub (by omega), be_bsub (by omega), be_bsub (by omega), be_bsub (by omega), be_bsub (by omega), be_bsub (by omega), be_bsub (by omega), be_bsub (by omega), be_bsub (by omega), be_bsub (by omega), be_bsub (by omega)]
      rw [show b.drop 46 = b.drop (44 + 2) from rfl, bsub_app, show b.drop 44 = b.drop (36 + 8) from rfl, bsub_app, show b.drop 36 = b.drop (30 + 6) from rfl, bsub_app, show b.drop 30 = b.drop (29 + 1) from rfl, bsub_app, show b.drop 29 = b.drop (26 + 3) from rfl, bsub_app, show b.drop 26 = b.drop (20 + 6) from rfl, bsub_app, show b.drop 20 = b.drop (18 + 2) from rfl, bsub_app, show b.drop 18 = b.drop (16 + 2) from rfl, bsub_app, show b.drop 16 = b.drop (12 + 4) from rfl, bsub_app, show b.drop 12 = b.drop (6 + 6) from rfl, bsub_app, show b.drop 6 = b.drop (0 + 6) from rfl, bsub_app]
      rfl
    · exact ⟨bsub_lt _ _ _, bsub_lt _ _ _, bsub_lt _ _ _, bsub_lt _ _ _, bsub_lt _ _ _, bsub_lt _ _ _, bsub_lt _ _ _, bsub_lt _ _ _, bsub_lt _ _ _, bsub_lt _ _ _, by show (b.drop 46).length ≤ 4096; rw [List.length_drop]; omega⟩
  · cases h
theorem sdput_cases (k v : Nat) : ∀ sd : List (Nat × Nat), ((∀ x ∈ sd, ¬ x.1 = k) ∧ sdput k v sd = sd ++ [(k, v)]) ∨ ∃ j z, sd[j]? = some (k, z) ∧ (∀ (q : Nat) (y : Nat × Nat), q < j → sd[q]? = some y → ¬ y.1 = k) ∧ sdput k v sd = sd.set j (k, v)
  | [] => .inl ⟨(fun x hx => by cases hx), rfl⟩
  | x :: l => by
    by_cases hx : x.1 = k
    · refine .inr ⟨0, x.2, by rw [← hx]; rfl, fun q y hq => absurd hq (Nat.not_lt_zero _), ?_⟩
      rw [sdput, if_pos hx]; rfl
    · rw [sdput, if_neg hx]
      rcases sdput_cases k v l with ⟨h1, h2⟩ | ⟨j, z, h1, h2, h3⟩
      · refine .inl ⟨fun y hy => ?_, by rw [h2]; rfl⟩
        rcases List.mem_cons.1 hy with rfl | hy
        · exact hx
        · exact h1 y hy
      · refine .inr ⟨j + 1, z, h1, fun q y hq hy => ?_, by rw [h3]; rfl⟩
        cases q with
        | zero => injection hy with hy; subst hy; exact hx
        | succ q => exact h2 q y (by omega) hy
def narrM (st : NS) (p : PN) : Option (NS × List PN) :=
  if p.to = st.c.id then
    match gaddM st.gs p with
    | none => none
    | some (vs', none) => some ({ st with gs := vs' }, [])
    | some (vs', some bs) =>
      match decM bs with
      | none => none
      | some m =>
        if m.to = 0 then
          if m.op = 1 then
            if st.c.port = 0 ∨ ¬ m.ar = st.c.port then some ({ st with gs := vs' }, [])
            else if 1 ≤ st.c.pc ∧ st.c.pc ≤ 32768 ∧ st.c.sent < 1000000000 then some ({ st with gs := vs', c := { st.c with sent := st.c.sent + 1 } }, splitM (encM (hereM m.ar)) st.c.id p.fr (st.c.sent + 1) st.c.pc) else none
          else if m.op = 2 then (if st.pl.length < 16 then some ({ st with gs := vs', pl := st.pl.filter (fun x => !(x.1 == m.ar)) ++ [(m.ar, p.fr, st.c.now)] }, []) else none)
          else none
        else if m.to = st.c.rep then (if st.us.length < st.c.ro then some ({ st with gs := vs', us := st.us ++ [m] }, []) else none)
        else if m.to = st.c.port then (if st.ps.length < st.c.ro then some ({ st with gs := vs', ps := st.ps ++ [m], sd := sdput m.rp p.fr st.sd }, []) else none)
        else none
  else none
def NRet (w0 : World) (F : List Chunk) (b bo : Nat) (st' : NS) (sr : Srv) (D : Chunk) (out : List PN) (v : Value) (w' : World) : Prop := ∃ L' ps A c C D', NUP w0 b bo st' sr L' D' ∧ Own 94 6 (.slice A ps.length c) ps.length (rows encPacket ps) C ∧ PKS w0 D' ps out ∧ DX w0 D D' ∧ v = .slice A ps.length c ∧ St w0 w' (L' :: C :: D' :: F)
theorem NRet.nil {w0 w' : World} {F : List Chunk} {b bo : Nat} {st' : NS} {sr : Srv} {D L' D' : Chunk} {v : Value} (h1 : NUP w0 b bo st' sr L' D') (h2 : DX w0 D D') (h3 : v = yS) (h4 : St w0 w' (L' :: D' :: F)) : NRet w0 F b bo st' sr D [] v w' :=
  ⟨L', [], none, 0, [], D', h1, Own.nil _ _, PKS.nil, h2, h3, h4.cast (by simp)⟩
theorem narrA {b bo : Nat} {st st' : NS} {sr : Srv} {L D : Chunk} {w0 w : World} {F : List Chunk} {out : List PN} (hS : St w0 w (L :: D :: F)) (hN : NUP w0 b bo st sr L D) (p : PN) {d : Value} (hd : RdSX w0 (D :: F) 1 d p.da.length (rows encB p.da)) (h : narrM st p = some (st', out)) :
    Ret Tryz.prog 38 #[vP b 0, pval p d] w (NRet w0 F b bo st' sr D out) := by
  rw [narrM] at h
  by_cases hto : p.to = st.c.id
  · rw [if_pos hto] at h
    cases hg : gaddM st.gs p with
    | none => rw [hg] at h; cases h
    | some r =>
      obtain ⟨vs', r⟩ := r
      rw [hg] at h
      cases r with
      | none =>
        injection h with h; injection h with e1 e2; subst e1; subst e2
        refine Calls.mono (narr_no38 hS hN p hto hd hg) ?_
        rintro e w' ⟨v, he, L', D', g1, g2, g3, g4⟩
        exact ⟨v, he, NRet.nil g1 g2 g3 g4⟩
      | some bs =>
        dsimp only at h
        cases hdc : decM bs with
        | none => rw [hdc] at h; cases h
        | some m =>
          rw [hdc] at h
          obtain ⟨hb, hm⟩ := decM_some hdc
          dsimp only at h
          by_cases h1 : m.to = 0
          · rw [if_pos h1] at h
            by_cases h2 : m.op = 1
            · rw [if_pos h2] at h
              by_cases h3 : st.c.port = 0 ∨ ¬ m.ar = st.c.port
              · rw [if_pos h3] at h
                injection h with h; injection h with e1 e2; subst e1; subst e2
                refine Calls.mono (narr_locno38 hS hN p hto hd hg m hm hb h1 h2 h3) ?_
                rintro e w' ⟨v, he, L', D', g1, g2, g3, g4⟩
                exact ⟨v, he, NRet.nil g1 g2 g3 g4⟩
              · rw [if_neg h3] at h
                by_cases h4 : 1 ≤ st.c.pc ∧ st.c.pc ≤ 32768 ∧ st.c.sent < 1000000000
                · rw [if_pos h4] at h
                  injection h with h; injection h with e1 e2; subst e1; subst e2
                  exact narr_loc38 hS hN p hto hd hg m hm hb h1 h2 (fun q => h3 (.inl q)) (Classical.byContradiction fun q => h3 (.inr q)) h4.1 h4.2.1 h4.2.2
                · rw [if_neg h4] at h; cases h
            · rw [if_neg h2] at h
              by_cases h3 : m.op = 2
              · rw [if_pos h3] at h
                by_cases h4 : st.pl.length < 16
                · rw [if_pos h4] at h
                  injection h with h; injection h with e1 e2; subst e1; subst e2
                  refine Calls.mono (narr_here38 hS hN p hto hd hg m hm hb h1 h3 h4) ?_
                  rintro e w' ⟨v, he, L', D', g1, g2, g3, g4⟩
                  exact ⟨v, he, NRet.nil g1 g2 g3 g4⟩
                · rw [if_neg h4] at h; cases h
              · rw [if_neg h3] at h; cases h
          · rw [if_neg h1] at h
            by_cases h2 : m.to = st.c.rep
            · rw [if_pos h2] at h
              by_cases h4 : st.us.length < st.c.ro
              · rw [if_pos h4] at h
                injection h with h; injection h with e1 e2; subst e1; subst e2
                refine Calls.mono (narr_reply38 hS hN p hto hd hg m hm hb h1 h2 h4) ?_
                rintro e w' ⟨v, he, L', D', g1, g2, g3, g4⟩
                exact ⟨v, he, NRet.nil g1 g2 g3 g4⟩
              · rw [if_neg h4] at h; cases h
            · rw [if_neg h2] at h
              by_cases h3 : m.to = st.c.port
              · rw [if_pos h3] at h
                by_cases h4 : st.ps.length < st.c.ro
                · rw [if_pos h4] at h
                  injection h with h; injection h with e1 e2; subst e1; subst e2
                  rcases sdput_cases m.rp p.fr st.sd with ⟨k1, k2⟩ | ⟨j, z, k1, k3, k2⟩
                  · rw [k2]
                    refine Calls.mono (narr_reqnew38 hS hN p hto hd hg m hm hb h1 h2 h3 h4 k1) ?_
                    rintro e w' ⟨v, he, L', D', g1, g2, g3, g4⟩
                    exact ⟨v, he, NRet.nil g1 g2 g3 g4⟩
                  · rw [k2]
                    refine Calls.mono (narr_reqhit38 hS hN p hto hd hg m hm hb h1 h2 h3 h4 k1 k3) ?_
                    rintro e w' ⟨v, he, L', D', g1, g2, g3, g4⟩
                    exact ⟨v, he, NRet.nil g1 g2 g3 g4⟩
                · rw [if_neg h4] at h; cases h
              · rw [if_neg h3] at h; cases h
  · rw [if_neg hto] at h; cases h
instance (ca : List CA) : Decidable (cal ca) := by unfold cal; infer_instance
instance (ca : List CA) : Decidable (cag ca) := by unfold cag; infer_instance
instance (st : NS) : Decidable (rqok st) := by unfold rqok; infer_instance
def bndC (s : NC) (pl : List (Nat × Nat × Nat)) : Prop := 1 ≤ s.pc ∧ s.pc ≤ 32768 ∧ s.sent + 1000 < 1000000000 ∧ s.now + 1 < 1000000 ∧ (∀ x ∈ pl, x.2.2 < 1000000) ∧ s.ag < 1000000 ∧ s.rep < 281474976710656 ∧ s.no ≤ 8
instance (s : NC) (pl : List (Nat × Nat × Nat)) : Decidable (bndC s pl) := by unfold bndC; infer_instance
def calM (st : NS) (m : MN) : MN := { m with rp := st.c.rep, id := st.ca.length + 1, st := 0 }
def ncallM (st : NS) (m : MN) : Option (NS × List PN) :=
  if m.ok ∧ st.ca.length < 64 ∧ nP (encM (calM st m)) st.c.pc ≤ 256 ∧ bndC st.c st.pl ∧ ¬ m.to = st.c.port then some ({ st with c := { st.c with sent := (reqP st.c st.pl (calM st m)).2 }, ca := st.ca ++ [⟨calM st m, 1, 1, st.c.wa, MN.zero⟩] }, (reqP st.c st.pl (calM st m)).1) else none
theorem ncallB {b bo : Nat} {st st' : NS} {sr : Srv} {L D : Chunk} {w0 w : World} {F : List Chunk} {out : List PN} (hS : St w0 w (L :: D :: F)) (hN : NUP w0 b bo st sr L D) (m : MN) {d : Value} (hd : RdSX w0 (D :: F) 1 d m.da.length (rows encB m.da)) (h : ncallM st m = some (st', out)) :
    Ret Tryz.prog 33 #[vP b 0, .agg #[vU m.to, vU m.rp, vW m.id, vH m.op, vH m.st, vU m.po, vW m.ob, vB m.ri, vU m.ck, vU m.ar, d]] w (fun v w' => ∃ L' ps A c C D', NUP w0 b bo st' sr L' D' ∧ Own 94 6 (.slice A ps.length c) ps.length (rows encPacket ps) C ∧ PKS w0 D' ps out ∧ DX w0 D D' ∧ v = .tuple #[vW (st.ca.length + 1), .slice A ps.length c, yN] ∧ St w0 w' (L' :: C :: D' :: F)) := by
  rw [ncallM] at h
  by_cases hc : m.ok ∧ st.ca.length < 64 ∧ nP (encM (calM st m)) st.c.pc ≤ 256 ∧ bndC st.c st.pl ∧ ¬ m.to = st.c.port
  · rw [if_pos hc] at h
    injection h with h; injection h with e1 e2; subst e1; subst e2
    obtain ⟨h1, h2, h3, ⟨b1, b2, b3, b4, b5, b6, b7, b8⟩, h5⟩ := hc
    refine Calls.mono (ncallA hS hN m h1 hd h2 h3 b1 b2 (by omega) (by omega) b5 b6 b7 b8 h5) ?_
    rintro e w' ⟨v, he, L', ps, A, c, C, D', ⟨g1, g2, g3, g4, g5, g6⟩⟩
    exact ⟨v, he, L', ps, A, c, C, D', g1, g2, g3, g4, g5, g6⟩
  · rw [if_neg hc] at h; cases h
def ntickM (st : NS) : Option (NS × List PN) :=
  if st.ca.length ≤ 64 ∧ cal st.ca ∧ cag st.ca ∧ rqok st ∧ st.c.wa ≤ 1000 ∧ bndC st.c st.pl then some ({ st with c := { st.c with now := st.c.now + 1, sent := (tickP { st.c with now := st.c.now + 1 } st.pl ((st.ca.filter (agA st.c.tr)).map CA.rq)).2 }, ca := st.ca.map (tickA st.c.wa st.c.tr) }, (tickP { st.c with now := st.c.now + 1 } st.pl ((st.ca.filter (agA st.c.tr)).map CA.rq)).1) else none
theorem ntickB {b bo : Nat} {st st' : NS} {sr : Srv} {L D : Chunk} {w0 w : World} {F : List Chunk} {out : List PN} (hS : St w0 w (L :: D :: F)) (hN : NUP w0 b bo st sr L D) (h : ntickM st = some (st', out)) :
    Ret Tryz.prog 41 #[vP b 0] w (NRet w0 F b bo st' sr D out) := by
  rw [ntickM] at h
  by_cases hc : st.ca.length ≤ 64 ∧ cal st.ca ∧ cag st.ca ∧ rqok st ∧ st.c.wa ≤ 1000 ∧ bndC st.c st.pl
  · rw [if_pos hc] at h
    injection h with h; injection h with e1 e2; subst e1; subst e2
    obtain ⟨h1, h2, h3, h4, h5, ⟨b1, b2, b3, b4, b5, b6, b7, b8⟩⟩ := hc
    exact ntick41 hS hN h1 h2 h3 h4 h5 b1 b2 b3 b4 b5 b6 b7 b8
  · rw [if_neg hc] at h; cases h
def sdof (sd : List (Nat × Nat)) (k : Nat) : Option Nat := (sd.find? (fun y => y.1 == k)).map (·.2)
theorem sdof_some {sd : List (Nat × Nat)} {k z : Nat} (h : sdof sd k = some z) : ∃ j : Nat, sd[j]? = some (k, z) ∧ ∀ (q : Nat) (y : Nat × Nat), q < j → sd[q]? = some y → ¬ y.1 = k := by
  rw [sdof] at h
  cases hf : sd.find? (fun y => y.1 == k) with
  | none => rw [hf] at h; cases h
  | some x =>
    rw [hf] at h
    obtain ⟨j, h1, h2, h3⟩ := find_at hf
    obtain ⟨x1, x2⟩ := x
    have e1 : x1 = k := beq_iff_eq.1 h2
    injection h with h
    have e2 : x2 = z := h
    subst e1; subst e2
    exact ⟨j, h1, fun q y hq hy => beq_eq_false_iff_ne.1 (h3 q y hq hy)⟩
def flof (fl : List (Nat × List UInt8)) (k : Nat) : Option (List UInt8) := (fl.find? (fun y => y.1 == k)).map (·.2)
theorem flof_some {fl : List (Nat × List UInt8)} {k : Nat} {z : List UInt8} (h : flof fl k = some z) : ∃ j : Nat, fl[j]? = some (k, z) ∧ ∀ (q : Nat) (y : Nat × List UInt8), q < j → fl[q]? = some y → ¬ y.1 = k := by
  rw [flof] at h
  cases hf : fl.find? (fun y => y.1 == k) with
  | none => rw [hf] at h; cases h
  | some x =>
    rw [hf] at h
    obtain ⟨j, h1, h2, h3⟩ := find_at hf
    obtain ⟨x1, x2⟩ := x
    have e1 : x1 = k := beq_iff_eq.1 h2
    injection h with h
    have e2 : x2 = z := h
    subst e1; subst e2
    exact ⟨j, h1, fun q y hq hy => beq_eq_false_iff_ne.1 (h3 q y hq hy)⟩
end Go.Proofs.YthiakdmhpfkjbaaGreatDoor

set_option linter.unusedVariables false
set_option linter.unusedSimpArgs false
set_option maxRecDepth 4000
namespace Go.Proofs.YthiakdmhpfkjbaaGreatDoor
open Go Go.SK
def svM (sr : Srv) (po : Nat) (en : List (Nat × Nat × Nat)) (ts : List Nat) (k : Nat) (m : MN) : Option (Srv × List (Nat × Nat × Nat) × Nat × MN) :=
  match sr with
  | .file os fl nx bb =>
    match os[m.ob]? with
    | some (true, s, e, va, li) =>
      if m.po = po ∧ s < 2 ^ 64 ∧ os.length ≤ 64 then
        if m.op = 100 then
          match ts[k]? with
          | some x => if m.ri = 255 ∧ va = -1 ∧ s % 281474976710656 = m.ck ∧ (∀ x ∈ os, x.1 = true) ∧ os.length < 64 ∧ (∀ x ∈ fl, x.1 < nx) ∧ nx < 1000000 ∧ bb + m.da.length ≤ 65536 then some (.file (os ++ [(true, x, 0, ((nx : Nat) : Int), 24)]) (fl ++ [(nx, m.da)]) (nx + 1) (bb + m.da.length), en, k + 1, ⟨m.rp, m.to, m.id, 100, 0, po, os.length, 255, x, 0, []⟩) else none
          | none => none
        else if m.op = 101 then
          match va with
          | .ofNat va =>
            match flof fl va with
            | some bs => if m.ri = 255 ∧ s % 281474976710656 = m.ck ∧ bs.length ≤ 65536 ∧ m.ar % 4294967296 ≤ 4096 ∧ m.ar / 4294967296 + m.ar % 4294967296 ≤ bs.length then some (.file os fl nx bb, en, k, ⟨m.rp, m.to, m.id, 101, 0, 0, 0, 0, 0, 0, bsub bs (m.ar / 4294967296) (m.ar % 4294967296)⟩) else none
            | none => none
          | .negSucc _ => none
        else if m.op = 3 then
          if m.ri = 255 ∧ s % 281474976710656 = m.ck ∧ m.ar < 256 then
            match tokM s m.ar en ts k with
            | some (x, en2, k2) => some (.file os fl nx bb, en2, k2, ⟨m.rp, m.to, m.id, 3, 0, po, m.ob, m.ar, x, 0, []⟩)
            | none => none
          else none
        else if m.op = 4 then
          match ts[k]? with
          | some x => if m.ri = 255 ∧ s % 281474976710656 = m.ck ∧ 0 ≤ e ∧ e < 1000000 then some (.file (os.set m.ob (true, x, e + 1, va, li)) fl nx bb, en, k + 1, ⟨m.rp, m.to, m.id, 4, 0, po, m.ob, 255, x, 0, []⟩) else none
          | none => none
        else if m.op = 102 then
          if m.ri < 256 then
            match tokM s m.ri en ts k with
            | some (x, en2, k2) => if x = m.ck then none else some (.file os fl nx bb, en2, k2, ⟨m.rp, m.to, m.id, 102, 1, 0, 0, 0, 0, 0, []⟩)
            | none => none
          else none
        else none
      else none
    | _ => none
  | _ => none
theorem svM_ok {w0 : World} {bo po k k' : Nat} {sr sr' : Srv} {en en' : List (Nat × Nat × Nat)} {ts : List Nat} {m r : MN} (hg : HG w0) (hm : m.ok) (h : svM sr po en ts k m = some (sr', en', k', r)) (sv : Value) : SVOK w0 sv bo po sr sr' en en' ts k k' m r := by
  obtain ⟨hk1, hk2, hk3, hk4, hk5, hk6, hk7, hk8, hk9, hk10, hk11⟩ := hm
  cases sr with
  | none => cases h
  | other => cases h
  | file os fl nx bb =>
    rw [svM] at h
    cases ho : os[m.ob]? with
    | none => rw [ho] at h; cases h
    | some x =>
      obtain ⟨x1, s, e, va, li⟩ := x
      rw [ho] at h
      cases x1 with
      | false => cases h
      | true =>
        dsimp only at h
        by_cases hc : m.po = po ∧ s < 2 ^ 64 ∧ os.length ≤ 64
        · rw [if_pos hc] at h
          obtain ⟨c1, c2, c3⟩ := hc
          have hpo : po < 281474976710656 := by omega
          by_cases o1 : m.op = 100
          · rw [if_pos o1] at h
            cases hk : ts[k]? with
            | none => rw [hk] at h; cases h
            | some x =>
              rw [hk] at h; dsimp only at h
              split at h
              · rename_i hd
                injection h with h; injection h with e1 h; injection h with e2 h; injection h with e3 e4
                subst e1; subst e2; subst e3; subst e4
                obtain ⟨d1, d2, d3, d4, d5, d6, d7, d8⟩ := hd
                subst d2
                exact svok_make o1 d1 c1 hpo hk7 hk9 ho c2 d3 hk11 d4 d5 d6 d7 d8 hk
              · cases h
          · rw [if_neg o1] at h
            by_cases o2 : m.op = 101
            · rw [if_pos o2] at h
              cases va with
              | negSucc n => cases h
              | ofNat va =>
                dsimp only at h
                cases hf : flof fl va with
                | none => rw [hf] at h; cases h
                | some bs =>
                  rw [hf] at h; dsimp only at h
                  split at h
                  · rename_i hd
                    injection h with h; injection h with e1 h; injection h with e2 h; injection h with e3 e4
                    subst e1; subst e2; subst e3; subst e4
                    obtain ⟨d1, d2, d3, d4, d5⟩ := hd
                    obtain ⟨j, hj, hjb⟩ := flof_some hf
                    exact svok_read (p := m.ar / 4294967296) (n := m.ar % 4294967296) o2 d1 c1 (by omega) hpo hk7 hk9 ho c2 d2 c3 hj hjb d3 d4 d5
                  · cases h
            · rw [if_neg o2] at h
              by_cases o3 : m.op = 3
              · rw [if_pos o3] at h
                split at h
                · rename_i hd
                  cases ht : tokM s m.ar en ts k with
                  | none => rw [ht] at h; cases h
                  | some t =>
                    obtain ⟨x, en2, k2⟩ := t
                    rw [ht] at h
                    injection h with h; injection h with e1 h; injection h with e2 h; injection h with e3 e4
                    subst e1; subst e2; subst e3; subst e4
                    exact svok_restrict o3 hd.1 c1 hpo hk7 hk9 ho c2 c3 hd.2.1 hd.2.2 ht
                · cases h
              · rw [if_neg o3] at h
                by_cases o4 : m.op = 4
                · rw [if_pos o4] at h
                  cases hk : ts[k]? with
                  | none => rw [hk] at h; cases h
                  | some x =>
                    rw [hk] at h; dsimp only at h
                    split at h
                    · rename_i hd
                      injection h with h; injection h with e1 h; injection h with e2 h; injection h with e3 e4
                      subst e1; subst e2; subst e3; subst e4
                      exact svok_revoke o4 hd.1 c1 hpo hk7 hk9 ho c2 c3 hd.2.1 hk hd.2.2.1 hd.2.2.2
                    · cases h
                · rw [if_neg o4] at h
                  by_cases o5 : m.op = 102
                  · rw [if_pos o5] at h
                    by_cases hd : m.ri < 256
                    · rw [if_pos hd] at h
                      cases ht : tokM s m.ri en ts k with
                      | none => rw [ht] at h; cases h
                      | some t =>
                        obtain ⟨x, en2, k2⟩ := t
                        rw [ht] at h; dsimp only at h
                        by_cases hne : x = m.ck
                        · rw [if_pos hne] at h; cases h
                        · rw [if_neg hne] at h
                          injection h with h; injection h with e1 h; injection h with e2 h; injection h with e3 e4
                          subst e1; subst e2; subst e3; subst e4
                          exact svok_bad hg o5 c1 hpo hk7 hk9 ho c2 c3 hd ht hne
                    · rw [if_neg hd] at h; cases h
                  · rw [if_neg o5] at h; cases h
        · rw [if_neg hc] at h; cases h
def wokC (st : NS) (m r : MN) : Prop := m.ok ∧ (∀ y ∈ st.es, ¬ (y.who = m.rp ∧ y.id = m.id)) ∧ st.es.length < 32 ∧ 1 ≤ st.c.pc ∧ st.c.pc ≤ 32768 ∧ st.c.sent < 1000000000 ∧ r.ok ∧ nP (encM r) st.c.pc ≤ 256
instance (st : NS) (m r : MN) : Decidable (wokC st m r) := by unfold wokC; infer_instance
def nworkM (st : NS) (sr : Srv) (en : List (Nat × Nat × Nat)) (ts : List Nat) (k : Nat) : Option (NS × Srv × List (Nat × Nat × Nat) × Nat × Bool × List PN) :=
  match st.us with
  | m :: us2 =>
    match st.ca[m.id - 1]? with
    | some y => if m.to = st.c.rep ∧ 1 ≤ m.id ∧ y.st = 1 ∧ m.rp = y.rq.to ∧ st.ca.length ≤ 64 ∧ m.da.length ≤ 4096 then some ({ st with us := us2, ca := st.ca.set (m.id - 1) { y with st := 2, rp := m } }, sr, en, k, true, []) else none
    | none => none
  | [] =>
    match st.ps with
    | [] => some (st, sr, en, k, false, [])
    | m :: ps2 =>
      if m.to = st.c.rep then none else
      match svM sr st.c.port en ts k m with
      | none => none
      | some (sr2, en2, k2, r) =>
        match sdof st.sd m.rp with
        | none => none
        | some z0 => if wokC st m r then some ({ st with c := { st.c with sent := st.c.sent + 1 }, ps := ps2, es := st.es ++ [⟨m.rp, m.id, 2, r⟩] }, sr2, en2, k2, true, splitM (encM r) st.c.id z0 (st.c.sent + 1) st.c.pc) else none
def WRet (w0 : World) (F : List Chunk) (b bo : Nat) (st' : NS) (sr' : Srv) (en : List (Nat × Nat × Nat)) (ts : List Nat) (k' : Nat) (D : Chunk) (ok : Bool) (out : List PN) (v : Value) (w' : World) : Prop := ∃ L' ps A c C O' D', NUP w0 b bo st' sr' L' D' ∧ ORR bo en ts k' O' ∧ Own 94 6 (.slice A ps.length c) ps.length (rows encPacket ps) C ∧ PKS w0 D' ps out ∧ DX w0 D D' ∧ v = .tuple #[.slice A ps.length c, .bool ok] ∧ St w0 w' (L' :: C :: O' :: D' :: F)
theorem St.mid2 {w0 w : World} {L : List Chunk} {A B C : Chunk} (h : St w0 w (A :: B :: C :: L)) : St w0 w (A :: C :: B :: L) := h.pickd [0, 2, 1] [] 3 (by simp only [List.length_cons]; omega) (by decide) rfl
theorem nworkB {b bo : Nat} {st st' : NS} {sr sr' : Srv} {L O D : Chunk} {w0 w : World} {F : List Chunk} {en en' : List (Nat × Nat × Nat)} {ts : List Nat} {k k' : Nat} {ok : Bool} {out : List PN} (hg : HG w0) (hS : St w0 w (L :: O :: D :: F)) (hN : NUP w0 b bo st sr L D) (hO : ORR bo en ts k O) (h : nworkM st sr en ts k = some (st', sr', en', k', ok, out)) :
    Ret Tryz.prog 42 #[vP b 0] w (WRet w0 F b bo st' sr' en' ts k' D ok out) := by
  rw [nworkM] at h
  cases hu : st.us with
  | cons m us2 =>
    rw [hu] at h
    dsimp only at h
    cases hy : st.ca[m.id - 1]? with
    | none => rw [hy] at h; cases h
    | some y =>
      rw [hy] at h
      dsimp only at h
      by_cases hc : m.to = st.c.rep ∧ 1 ≤ m.id ∧ y.st = 1 ∧ m.rp = y.rq.to ∧ st.ca.length ≤ 64 ∧ m.da.length ≤ 4096
      · rw [if_pos hc] at h
        injection h with h; injection h with e1 h; injection h with e2 h; injection h with e6 h; injection h with e3 h; injection h with e4 e5
        subst e1; subst e2; subst e3; subst e4; subst e5; subst e6
        obtain ⟨h1, h2, h3, h4, h5, h6⟩ := hc
        refine Calls.mono (nwork_reply42 (St.mid2 hS) hN m us2 hu h1 hy (by omega) h3 h4 h5 h6) ?_
        rintro e w' ⟨v, he, L', D', g1, g2, g3, g4⟩
        exact ⟨v, he, L', [], none, 0, [], O, D', g1, hO, Own.nil _ _, PKS.nil, g2, g3, (St.mid2 g4).cast (by simp)⟩
      · rw [if_neg hc] at h; cases h
  | nil =>
    rw [hu] at h
    dsimp only at h
    cases hp : st.ps with
    | nil =>
      rw [hp] at h
      injection h with h; injection h with e1 h; injection h with e2 h; injection h with e6 h; injection h with e3 h; injection h with e4 e5
      subst e1; subst e2; subst e3; subst e4; subst e5; subst e6
      refine Calls.mono (nwork_none42 (St.mid2 hS) hN hu hp) ?_
      rintro e w' ⟨v, he, L', g1, g3, g4⟩
      exact ⟨v, he, L', [], none, 0, [], O, D, g1, hO, Own.nil _ _, PKS.nil, DX.refl, g3, (St.mid2 g4).cast (by simp)⟩
    | cons m ps2 =>
      rw [hp] at h
      dsimp only at h
      by_cases h1 : m.to = st.c.rep
      · rw [if_pos h1] at h; cases h
      · rw [if_neg h1] at h
        cases hsv : svM sr st.c.port en ts k m with
        | none => rw [hsv] at h; cases h
        | some r =>
          obtain ⟨sr2, en2, k2, r⟩ := r
          rw [hsv] at h; dsimp only at h
          cases hs : sdof st.sd m.rp with
          | none => rw [hs] at h; cases h
          | some z0 =>
            rw [hs] at h; dsimp only at h
            by_cases hc : wokC st m r
            · rw [if_pos hc] at h
              injection h with h; injection h with e1 h; injection h with e2 h; injection h with e6 h; injection h with e3 h; injection h with e4 e5
              subst e1; subst e2; subst e3; subst e4; subst e5; subst e6
              obtain ⟨w1, w2, w3, w4, w5, w6, w7, w8⟩ := hc
              obtain ⟨js, hjs, hjn⟩ := sdof_some hs
              refine Calls.mono (nwork_serve42 hS hN hO m r ps2 hu hp h1 (svM_ok hg w1 hsv) w2 w3 hjs hjn w4 w5 w6 w7 w8) ?_
              rintro e w' ⟨v, he, L', ps, A, c, C, O', D', g1, g5, g2, g3, g4, g6, g7⟩
              rw [hu] at g1
              exact ⟨v, he, L', ps, A, c, C, O', D', g1, g5, g2, g3, g4, g6, g7⟩
            · rw [if_neg hc] at h; cases h
end Go.Proofs.YthiakdmhpfkjbaaGreatDoor

set_option linter.unusedVariables false
set_option linter.unusedSimpArgs false
set_option maxRecDepth 4000
namespace Go.Proofs.YthiakdmhpfkjbaaGreatDoor
open Go Go.SK
def sendC (wi out : List PN) : Prop := wi.length + out.length ≤ 1024 ∧ ∀ p ∈ out, p.da.length ≤ 1000000
instance (wi out : List PN) : Decidable (sendC wi out) := by unfold sendC; infer_instance
theorem set_same9 {α : Type} {l : List α} {i : Nat} {x : α} (h : l[i]? = some x) : l.set i x = l := by
  obtain ⟨h1, h2⟩ := List.getElem?_eq_some_iff.1 h
  rw [← h2]; exact List.set_getElem_self h1
set_option maxHeartbeats 4000000 in
theorem sroot11 {w0 w : World} {F : List Chunk} {b : Nat} {ts : List Nat} {s : SY} {L D : Chunk} {i : Nat} {st : NS} {sr : Srv} (hS : St w0 w (L :: D :: F)) (hY : SYS w0 b ts s L D) (hx : s.nx[i]? = some (.up st sr)) :
 Ret Tryz.prog 11 #[vP b 0, vI i] w (fun v w' => ∃ L', SYS w0 b ts s L' D ∧ v = .tuple #[.agg #[vU st.c.r0, vW st.c.r1, vB st.c.r2, vU st.c.r3], .bool (((st.c.port : Nat) : Int) != 0)] ∧ St w0 w' (L' :: D :: F)) := by
 obtain ⟨bw, bo, bs, A, c, C, NL, WL, OL, hs, rfl⟩ := hY
 replace hS : St w0 w ([(b, rowO [.slice A bs.length c, vP bw 0] 77)] :: C :: NL :: WL :: OL :: D :: F) := hS.cast (by simp)
 have hlen := hs.fn.len; obtain ⟨bi, hbi⟩ := get_ex (l := bs) (k := i) (by have h := (List.getElem?_eq_some_iff.1 hx).1; omega)
 obtain ⟨La, Li, Lb, hNLe, hNi, hback⟩ := hs.fn.at_ hbi hx; subst hNLe
 replace hS : St w0 w ([(b, rowO [.slice A bs.length c, vP bw 0] 77)] :: C :: La :: Li :: Lb :: WL :: OL :: D :: F) := hS.cast (by simp)
 refine enter (vs := [vP b 0, vI i]) 17 Tryz.func11 rfl rfl (by simp) ?_; intro a hA
 refine zs (zr ?_)
 refine st_alloc tbOk hA hS [yU, yW, yB, yU] rfl rfl rfl rfl rfl (by decide) fun b1 w2 a hS hA => ?_
 refine zR 1 ((5, yF) :: _) hA rfl fun a hA => zn (zx (zs (zr (zR 2 ((8, vI i) :: (7, vP b 0) :: _) hA rfl fun a hA => ?_))))
 replace hS := hS.m2.m2
 refine st_call0 hA rfl rfl rfl isfn31 rfl rfl (by decide) (sat31 (i := i) hS hs.fr hbi) ?_
 clear hA hS; rintro _ w3 a ⟨rfl, hS⟩ hA
 refine zR 1 ((6, vP bi 0) :: _) hA rfl fun a hA => zn (zx (zs (zs (zr (zR 2 ((11, yF) :: (10, vP bi 0) :: _) hA rfl fun a hA => zn (zx (cd_cond_f hA rfl (zk (zx (zs (zr (zR 1 ((13, vP bi 0) :: _) hA rfl fun a hA => ?_))))))))))))
 replace hS := hS.m4
 obtain ⟨sv, bd, bg, bc, bp, bx, mp, ob, el, cl, ul, pl2, LS, LG, LC, LP, LB, LV, hn, hLi⟩ := hNi
 have hS2 : St w0 w3 ([(bi, rowO [vI st.c.id, vI st.c.ki, vI st.c.no, vI st.c.pc, vI st.c.wa, vI st.c.tr, vI st.c.ag, vI st.c.pg, vI st.c.ro, vP bo 0, yT, vI st.c.now, vU st.c.sent, vU st.c.rep, vU st.c.port, vU st.c.r0, vW st.c.r1, vB st.c.r2, vU st.c.r3, sv, vP bd 0, vP bg 0, vP bc 0, vP bp 0, vP bx 0, .map (some mp)] 121)] :: (LS ++ (LG ++ (LC ++ (LP ++ (LB ++ ((mp, ob) :: LV)))))) :: [(b, rowO [.slice A bs.length c, vP bw 0] 77)] :: C :: [(b1, rowO [yU, yW, yB, yU] 39)] :: La :: Lb :: WL :: OL :: D :: F) := by rw [hLi] at hS; exact hS.cast (by simp)
 clear hS; have hS := hS2; clear hS2
 refine st_call0 hA rfl rfl rfl isfn32 rfl rfl (by decide) (nroot_up32 hS) ?_
 clear hA hS; rintro _ w4 a ⟨rfl, hS⟩ hA
 replace hS : St w0 w4 (Li :: [(b, rowO [.slice A bs.length c, vP bw 0] 77)] :: C :: [(b1, rowO [yU, yW, yB, yU] 39)] :: La :: Lb :: WL :: OL :: D :: F) := by rw [hLi]; exact hS.cast (by simp)
 have hNi : NUP w0 bi bo st sr Li D := ⟨sv, bd, bg, bc, bp, bx, mp, ob, el, cl, ul, pl2, LS, LG, LC, LP, LB, LV, hn, hLi⟩
 refine zR 2 ((16, .bool (((st.c.port : Nat) : Int) != 0)) :: (15, .agg #[vU st.c.r0, vW st.c.r1, vB st.c.r2, vU st.c.r3]) :: _) hA rfl fun a hA => ?_
 replace hS := hS.m3
 refine st_store tbOk hA hS [vU st.c.r0, vW st.c.r1, vB st.c.r2, vU st.c.r3] [vU st.c.r0, vW st.c.r1, vB st.c.r2, vU st.c.r3] rfl rfl rfl rfl rfl rfl (zn1 rfl) (zle rfl) rfl rfl rfl fun w5 hS => ?_
 refine zR 1 ((5, .bool (((st.c.port : Nat) : Int) != 0)) :: _) hA rfl fun a hA => zn (zx ?_)
 refine wp_ret ?_
 refine retc2 tbOk (fn := Tryz.f11) (cs := [vU st.c.r0, vW st.c.r1, vB st.c.r2, vU st.c.r3]) hA rfl rfl rfl rfl rfl rfl (cells_row (hS.heapAt 0 rfl) rfl) ?_
 replace hS := hS.d0.m3.m3.m3
 replace hS : St w0 w5 (((b, rowO [.slice A bs.length c, vP bw 0] 77) :: (C ++ ((La ++ (Li ++ Lb)) ++ (WL ++ OL)))) :: D :: F) := hS.cast (by simp)
 have hns : s.nx.set i (.up st sr) = s.nx := set_same9 hx
 have hY2 : SYS w0 b ts { s with nx := s.nx.set i (.up st sr) } _ D := ⟨bw, bo, bs, A, c, C, _, _, _, ⟨hback _ _ _ DX.refl (NOD.dx (x := .up _ _) hNi DX.refl), hs.fw, hs.fo, hs.fr⟩, rfl⟩
 rw [hns] at hY2; exact ⟨_, hY2, rfl, hS⟩
set_option maxHeartbeats 4000000 in
theorem scall12 {w0 w : World} {F : List Chunk} {b : Nat} {ts : List Nat} {s : SY} {L D : Chunk} {i : Nat} {st st' : NS} {sr : Srv} {out : List PN} (hS : St w0 w (L :: D :: F)) (hY : SYS w0 b ts s L D) (hx : s.nx[i]? = some (.up st sr)) (m : MN) {d : Value} (hd : RdSX w0 (D :: F) 1 d m.da.length (rows encB m.da)) (hc : ncallM st m = some (st', out)) (hsc : sendC s.wi out) :
 Ret Tryz.prog 12 #[vP b 0, vI i, .agg #[vU m.to, vU m.rp, vW m.id, vH m.op, vH m.st, vU m.po, vW m.ob, vB m.ri, vU m.ck, vU m.ar, d]] w (fun v w' => ∃ L' D', SYS w0 b ts { s with nx := s.nx.set i (.up st' sr), wi := s.wi ++ out } L' D' ∧ DX w0 D D' ∧ v = .tuple #[vW (st.ca.length + 1), yN] ∧ St w0 w' (L' :: D' :: F)) := by
 obtain ⟨B, d', rfl, hmd, hdx⟩ := (hd _ (hS.tail 1 rfl)).open'
 obtain ⟨bw, bo, bs, A, c, C, NL, WL, OL, hs, rfl⟩ := hY
 replace hS : St w0 w ([(b, rowO [.slice A bs.length c, vP bw 0] 77)] :: C :: NL :: WL :: OL :: D :: F) := hS.cast (by simp)
 have hlen := hs.fn.len; obtain ⟨bi, hbi⟩ := get_ex (l := bs) (k := i) (by have h := (List.getElem?_eq_some_iff.1 hx).1; omega)
 obtain ⟨La, Li, Lb, hNLe, hNi, hback⟩ := hs.fn.at_ hbi hx; subst hNLe
 replace hS : St w0 w ([(b, rowO [.slice A bs.length c, vP bw 0] 77)] :: C :: La :: Li :: Lb :: WL :: OL :: D :: F) := hS.cast (by simp)
 refine enter (vs := [vP b 0, vI i, .agg #[vU m.to, vU m.rp, vW m.id, vH m.op, vH m.st, vU m.po, vW m.ob, vB m.ri, vU m.ck, vU m.ar, .slice B m.da.length d']]) 32 Tryz.func12 rfl rfl (by simp) ?_; intro a hA
 refine zs (zr ?_)
 refine st_box hA hS [vU m.to, vU m.rp, vW m.id, vH m.op, vH m.st, vU m.po, vW m.ob, vB m.ri, vU m.ck, vU m.ar, .slice B m.da.length d'] rfl rfl rfl rfl rfl (by decide) fun b1 w2 a hS hA => ?_
 refine zR 2 ((7, yN) :: (6, yW) :: _) hA rfl fun a hA => zn (zx (zs (zr (zR 2 ((13, vI i) :: (12, vP b 0) :: _) hA rfl fun a hA => ?_))))
 replace hS := hS.m2.m2
 refine st_call0 hA rfl rfl rfl isfn31 rfl rfl (by decide) (sat31 (i := i) hS hs.fr hbi) ?_
 clear hA hS; rintro _ w3 a ⟨rfl, hS⟩ hA
 refine zR 1 ((8, vP bi 0) :: _) hA rfl fun a hA => zn (zx (zs (zs (zr (zR 2 ((16, yF) :: (15, vP bi 0) :: _) hA rfl fun a hA => zn (zx (cd_cond_f hA rfl (zk (zx (zs (zr (zR 1 ((19, vP bi 0) :: _) hA rfl fun a hA => zLA hA hS 2 [vU m.to, vU m.rp, vW m.id, vH m.op, vH m.st, vU m.po, vW m.ob, vB m.ri, vU m.ck, vU m.ar, .slice B m.da.length d'] rfl rfl rfl rfl rfl rfl rfl rfl rfl rfl fun a hA => ?_))))))))))))
 replace hS := hS.m8.m5
 refine st_call0 hA rfl rfl rfl isfn33 rfl rfl (by decide) (ncallB hS hNi m (fun w' h => hd _ (St.dmid (R := [[(b, rowO [.slice A bs.length c, vP bw 0] 77)], C, [(b1, rowO [vU m.to, vU m.rp, vW m.id, vH m.op, vH m.st, vU m.po, vW m.ob, vB m.ri, vU m.ck, vU m.ar, .slice B m.da.length d'] 46)], La, Lb, WL, OL]) h)) hc) ?_
 clear hA hS; rintro _ w4 a ⟨Li2, psq, Aq, cq, Cq, D2, hN2, hOq, hKq, hX2, rfl, hS⟩ hA
 refine zR 7 ((11, yN) :: (10, .slice Aq psq.length cq) :: (9, vW (st.ca.length + 1)) :: (24, yN) :: (23, .slice Aq psq.length cq) :: (22, vW (st.ca.length + 1)) :: (18, .tuple #[vW (st.ca.length + 1), .slice Aq psq.length cq, yN]) :: _) hA rfl fun a hA => zn (zx (zs (zs (zr (zR 2 ((26, yF) :: (25, yN) :: _) hA rfl fun a hA => zn (zx (cd_cond_f hA rfl (zk (zx (zs (zr (zR 2 ((29, .slice Aq psq.length cq) :: (28, vP b 0) :: _) hA rfl fun a hA => ?_))))))))))))
 replace hS := hS.m2.m2.m8.m4
 refine st_call0 hA rfl rfl rfl isfn34 rfl rfl (by decide) (ssend34 hS (hs.fw.dx hX2) hOq hKq hsc.1 hsc.2) ?_
 clear hA hS; rintro _ w5 a ⟨WL8, Ds7, hW9, hXs6, rfl, hS⟩ hA
 refine zn (zx (zs (zr (zR 3 ((7, yN) :: (6, vW (st.ca.length + 1)) :: (31, vW (st.ca.length + 1)) :: _) hA rfl fun a hA => zn (zx ?_)))))
 refine wp_ret ?_
 refine ret2 (fn := Tryz.f12) hA rfl rfl rfl ?_
 replace hS := hS.d5.m7.m2.m7.m5.m7.m7.m6
 replace hS : St w0 w5 (((b, rowO [.slice A bs.length c, vP bw 0] 77) :: (C ++ ((La ++ (Li2 ++ Lb)) ++ (WL8 ++ OL)))) :: Ds7 :: F) := hS.cast (by simp)
 exact ⟨_, _, ⟨bw, bo, bs, A, c, C, _, _, _, ⟨hback _ _ _ (hX2.trans hXs6) (NOD.dx (x := .up _ _) hN2 hXs6), hW9, hs.fo, hs.fr⟩, rfl⟩, (hX2.trans hXs6), rfl, hS⟩
set_option maxHeartbeats 4000000 in
theorem sget_ok16 {w0 w : World} {F : List Chunk} {b : Nat} {ts : List Nat} {s : SY} {L D : Chunk} {i k : Nat} {st : NS} {sr : Srv} {y : CA} (hS : St w0 w (L :: D :: F)) (hY : SYS w0 b ts s L D) (hx : s.nx[i]? = some (.up st sr)) (hy : st.ca[k]? = some y) (hcal : st.ca.length ≤ 64) (hca : cal st.ca) (hst : ¬ y.st = 3) :
 Ret Tryz.prog 16 #[vP b 0, vI i, vW (k + 1)] w (fun v w' => ∃ L' E A c, SYS w0 b ts s L' (E ++ D) ∧ DD w0 E A c y.rp.da ∧ v = .tuple #[vI y.st, .agg #[vU y.rp.to, vU y.rp.rp, vW y.rp.id, vH y.rp.op, vH y.rp.st, vU y.rp.po, vW y.rp.ob, vB y.rp.ri, vU y.rp.ck, vU y.rp.ar, .slice A y.rp.da.length c], yN] ∧ St w0 w' (L' :: (E ++ D) :: F)) := by
 obtain ⟨bw, bo, bs, A, c, C, NL, WL, OL, hs, rfl⟩ := hY
 replace hS : St w0 w ([(b, rowO [.slice A bs.length c, vP bw 0] 77)] :: C :: NL :: WL :: OL :: D :: F) := hS.cast (by simp)
 have hlen := hs.fn.len; obtain ⟨bi, hbi⟩ := get_ex (l := bs) (k := i) (by have h := (List.getElem?_eq_some_iff.1 hx).1; omega)
 obtain ⟨La, Li, Lb, hNLe, hNi, hback⟩ := hs.fn.at_ hbi hx; subst hNLe
 replace hS : St w0 w ([(b, rowO [.slice A bs.length c, vP bw 0] 77)] :: C :: La :: Li :: Lb :: WL :: OL :: D :: F) := hS.cast (by simp)
 refine enter (vs := [vP b 0, vI i, vW (k + 1)]) 23 Tryz.func16 rfl rfl (by simp) ?_; intro a hA
 refine zs (zr (zR 1 ((6, yI) :: _) hA rfl fun a hA => ?_))
 refine st_alloc tbOk hA hS [yU, yU, yW, yH, yH, yU, yW, yB, yU, yU, yS] rfl rfl rfl rfl rfl (by decide) fun b1 w2 a hS hA => ?_
 refine zR 1 ((8, yN) :: _) hA rfl fun a hA => zn (zx (zs (zr (zR 2 ((11, vI i) :: (10, vP b 0) :: _) hA rfl fun a hA => ?_))))
 replace hS := hS.m2.m2
 refine st_call0 hA rfl rfl rfl isfn31 rfl rfl (by decide) (sat31 (i := i) hS hs.fr hbi) ?_
 clear hA hS; rintro _ w3 a ⟨rfl, hS⟩ hA
 refine zR 1 ((9, vP bi 0) :: _) hA rfl fun a hA => zn (zx (zs (zs (zr (zR 2 ((14, yF) :: (13, vP bi 0) :: _) hA rfl fun a hA => zn (zx (cd_cond_f hA rfl (zk (zx (zs (zr (zR 2 ((18, vW (k + 1)) :: (17, vP bi 0) :: _) hA rfl fun a hA => ?_))))))))))))
 replace hS := hS.m8.m5
 refine st_call0 hA rfl rfl rfl isfn44 rfl rfl (by decide) (nget_ok44 hS hNi hy hcal hca hst) ?_
 clear hA hS; rintro _ w4 a ⟨Li2, E2, A2, c2, hN2, hE2, rfl, hS⟩ hA
 have hX2 : DX w0 D (E2 ++ D) := DX.refl.step
 refine zR 4 ((6, vI y.st) :: (22, yN) :: (21, .agg #[vU y.rp.to, vU y.rp.rp, vW y.rp.id, vH y.rp.op, vH y.rp.st, vU y.rp.po, vW y.rp.ob, vB y.rp.ri, vU y.rp.ck, vU y.rp.ar, .slice A2 y.rp.da.length c2]) :: (20, vI y.st) :: _) hA rfl fun a hA => ?_
 replace hS := hS.m4
 refine st_store tbOk hA hS [vU y.rp.to, vU y.rp.rp, vW y.rp.id, vH y.rp.op, vH y.rp.st, vU y.rp.po, vW y.rp.ob, vB y.rp.ri, vU y.rp.ck, vU y.rp.ar, .slice A2 y.rp.da.length c2] [vU y.rp.to, vU y.rp.rp, vW y.rp.id, vH y.rp.op, vH y.rp.st, vU y.rp.po, vW y.rp.ob, vB y.rp.ri, vU y.rp.ck, vU y.rp.ar, .slice A2 y.rp.da.length c2] rfl rfl rfl rfl rfl rfl (zn1 rfl) (zle rfl) rfl rfl rfl fun w5 hS => ?_
 refine zR 1 ((8, yN) :: _) hA rfl fun a hA => zn (zx ?_)
 refine wp_ret ?_
 refine rettct tbOk (fn := Tryz.f16) (cs := [vU y.rp.to, vU y.rp.rp, vW y.rp.id, vH y.rp.op, vH y.rp.st, vU y.rp.po, vW y.rp.ob, vB y.rp.ri, vU y.rp.ck, vU y.rp.ar, .slice A2 y.rp.da.length c2]) hA rfl rfl rfl rfl rfl rfl rfl (cells_row (hS.heapAt 0 rfl) rfl) ?_
 replace hS := hS.d0.m7.m7.m7.m3.m7.m7.m7
 replace hS : St w0 w5 (((b, rowO [.slice A bs.length c, vP bw 0] 77) :: (C ++ ((La ++ (Li2 ++ Lb)) ++ (WL ++ OL)))) :: (E2 ++ D) :: F) := hS.cast (by simp)
 have hns : s.nx.set i (.up st sr) = s.nx := set_same9 hx
 have hY2 : SYS w0 b ts { s with nx := s.nx.set i (.up st sr) } _ (E2 ++ D) := ⟨bw, bo, bs, A, c, C, _, _, _, ⟨hback _ _ _ hX2 (NOD.dx (x := .up _ _) hN2 DX.refl), hs.fw.dx hX2, hs.fo, hs.fr⟩, rfl⟩
 rw [hns] at hY2; exact ⟨_, E2, A2, c2, hY2, hE2, rfl, hS⟩
set_option maxHeartbeats 4000000 in
theorem sget_failed16 {w0 w : World} {F : List Chunk} {b : Nat} {ts : List Nat} {s : SY} {L D : Chunk} {i k : Nat} {st : NS} {sr : Srv} {y : CA} (hS : St w0 w (L :: D :: F)) (hY : SYS w0 b ts s L D) (hx : s.nx[i]? = some (.up st sr)) (hy : st.ca[k]? = some y) (hcal : st.ca.length ≤ 64) (hca : cal st.ca) (hst : y.st = 3) :
 Ret Tryz.prog 16 #[vP b 0, vI i, vW (k + 1)] w (fun v w' => ∃ L', SYS w0 b ts s L' D ∧ v = .tuple #[.int .i64 3, .agg #[yU, yU, yW, yH, yH, yU, yW, yB, yU, yU, yS], .iface 55 (.int .i64 10)] ∧ St w0 w' (L' :: D :: F)) := by
 obtain ⟨bw, bo, bs, A, c, C, NL, WL, OL, hs, rfl⟩ := hY
 replace hS : St w0 w ([(b, rowO [.slice A bs.length c, vP bw 0] 77)] :: C :: NL :: WL :: OL :: D :: F) := hS.cast (by simp)
 have hlen := hs.fn.len; obtain ⟨bi, hbi⟩ := get_ex (l := bs) (k := i) (by have h := (List.getElem?_eq_some_iff.1 hx).1; omega)
 obtain ⟨La, Li, Lb, hNLe, hNi, hback⟩ := hs.fn.at_ hbi hx; subst hNLe
 replace hS : St w0 w ([(b, rowO [.slice A bs.length c, vP bw 0] 77)] :: C :: La :: Li :: Lb :: WL :: OL :: D :: F) := hS.cast (by simp)
 refine enter (vs := [vP b 0, vI i, vW (k + 1)]) 23 Tryz.func16 rfl rfl (by simp) ?_; intro a hA
 refine zs (zr (zR 1 ((6, yI) :: _) hA rfl fun a hA => ?_))
 refine st_alloc tbOk hA hS [yU, yU, yW, yH, yH, yU, yW, yB, yU, yU, yS] rfl rfl rfl rfl rfl (by decide) fun b1 w2 a hS hA => ?_
 refine zR 1 ((8, yN) :: _) hA rfl fun a hA => zn (zx (zs (zr (zR 2 ((11, vI i) :: (10, vP b 0) :: _) hA rfl fun a hA => ?_))))
 replace hS := hS.m2.m2
 refine st_call0 hA rfl rfl rfl isfn31 rfl rfl (by decide) (sat31 (i := i) hS hs.fr hbi) ?_
 clear hA hS; rintro _ w3 a ⟨rfl, hS⟩ hA
 refine zR 1 ((9, vP bi 0) :: _) hA rfl fun a hA => zn (zx (zs (zs (zr (zR 2 ((14, yF) :: (13, vP bi 0) :: _) hA rfl fun a hA => zn (zx (cd_cond_f hA rfl (zk (zx (zs (zr (zR 2 ((18, vW (k + 1)) :: (17, vP bi 0) :: _) hA rfl fun a hA => ?_))))))))))))
 replace hS := hS.m8.m5
 refine st_call0 hA rfl rfl rfl isfn44 rfl rfl (by decide) (nget_failed44 hS hNi hy hcal hca hst) ?_
 clear hA hS; rintro _ w4 a ⟨Li2, hN2, rfl, hS⟩ hA
 refine zR 4 ((6, .int .i64 3) :: (22, .iface 55 (.int .i64 10)) :: (21, .agg #[yU, yU, yW, yH, yH, yU, yW, yB, yU, yU, yS]) :: (20, .int .i64 3) :: _) hA rfl fun a hA => ?_
 replace hS := hS.m4
 refine st_store tbOk hA hS [yU, yU, yW, yH, yH, yU, yW, yB, yU, yU, yS] [yU, yU, yW, yH, yH, yU, yW, yB, yU, yU, yS] rfl rfl rfl rfl rfl rfl (zn1 rfl) (zle rfl) rfl rfl rfl fun w5 hS => ?_
 refine zR 1 ((8, .iface 55 (.int .i64 10)) :: _) hA rfl fun a hA => zn (zx ?_)
 refine wp_ret ?_
 refine rettct tbOk (fn := Tryz.f16) (cs := [yU, yU, yW, yH, yH, yU, yW, yB, yU, yU, yS]) hA rfl rfl rfl rfl rfl rfl rfl (cells_row (hS.heapAt 0 rfl) rfl) ?_
 replace hS := hS.d0.m7.m7.m7.m3.m7.m7.m7
 replace hS : St w0 w5 (((b, rowO [.slice A bs.length c, vP bw 0] 77) :: (C ++ ((La ++ (Li2 ++ Lb)) ++ (WL ++ OL)))) :: D :: F) := hS.cast (by simp)
 have hns : s.nx.set i (.up st sr) = s.nx := set_same9 hx
 have hY2 : SYS w0 b ts { s with nx := s.nx.set i (.up st sr) } _ D := ⟨bw, bo, bs, A, c, C, _, _, _, ⟨hback _ _ _ DX.refl (NOD.dx (x := .up _ _) hN2 DX.refl), hs.fw, hs.fo, hs.fr⟩, rfl⟩
 rw [hns] at hY2; exact ⟨_, hY2, rfl, hS⟩
end Go.Proofs.YthiakdmhpfkjbaaGreatDoor

set_option linter.unusedVariables false
set_option linter.unusedSimpArgs false
set_option maxRecDepth 4000
namespace Go.Proofs.YthiakdmhpfkjbaaGreatDoor
open Go Go.SK
theorem warr37 {w0 w : World} {F : List Chunk} {bw : Nat} {WL D : Chunk} {p : PN} {wi : List PN} (hS : St w0 w (WL :: D :: F)) (hW : WRA w0 bw (p :: wi) WL D) (hlen : wi.length ≤ 1000000) :
    Ret Tryz.prog 37 #[vP bw 0, yI] w (fun v w' => ∃ WL' A c, WRA w0 bw wi WL' D ∧ DD w0 D A c p.da ∧ v = .tuple #[pval p (.slice A p.da.length c), yT] ∧ St w0 w' (WL' :: D :: F)) := by
  obtain ⟨ps, h1, h2⟩ := hW
  obtain ⟨x, ps2, rfl, e, hm⟩ := map_cons9 h2.1
  refine Calls.mono (arrive_ok37 hS h1 0 (Nat.succ_pos _) (by rw [List.length_cons, map_len9 hm]; omega)) ?_
  rintro en w' ⟨v, he, k, y, hk, hkp, hy, L', g1, g2, g3⟩
  have hk0 : k = 0 := by rw [Int.zero_emod] at hkp; omega
  subst hk0
  injection hy with hy; subst hy
  have hdx := h2.2 x List.mem_cons_self
  obtain ⟨k0, k1, k2, k3, k4, kA, kc, kb⟩ := x
  simp only [pst, pdat, PN.t, Prod.mk.injEq] at e
  obtain ⟨e0, e1, e2, e3, e4, e5⟩ := e
  subst e0 e1 e2 e3 e4 e5
  exact ⟨v, he, L', kA, kc, ⟨ps2, g1, hm, fun z hz => h2.2 z (List.mem_cons_of_mem _ hz)⟩, hdx, g2, g3⟩
end Go.Proofs.YthiakdmhpfkjbaaGreatDoor

set_option linter.unusedVariables false
set_option linter.unusedSimpArgs false
set_option maxRecDepth 4000
namespace Go.Proofs.YthiakdmhpfkjbaaGreatDoor
open Go Go.SK
def narrX (x : NX) (p : PN) : Option (NX × List PN) :=
  match x with
  | .up st sr => match narrM st p with
    | some (st', out) => some (.up st' sr, out)
    | none => none
  | .down c => none
def ntickX (x : NX) : Option (NX × List PN) :=
  match x with
  | .up st sr => match ntickM st with
    | some (st', out) => some (.up st' sr, out)
    | none => none
  | .down c => none
def nworkX (x : NX) (en : List (Nat × Nat × Nat)) (ts : List Nat) (k : Nat) : Option (NX × List (Nat × Nat × Nat) × Nat × Bool × List PN) :=
  match x with
  | .up st sr => match nworkM st sr en ts k with
    | some (st', sr', en', k', ok, out) => some (.up st' sr', en', k', ok, out)
    | none => none
  | .down c => none
def XRet (w0 : World) (F : List Chunk) (b bo : Nat) (x' : NX) (D : Chunk) (out : List PN) (v : Value) (w' : World) : Prop := ∃ L' ps A c C D', NOD w0 b bo x' L' D' ∧ Own 94 6 (.slice A ps.length c) ps.length (rows encPacket ps) C ∧ PKS w0 D' ps out ∧ DX w0 D D' ∧ v = .slice A ps.length c ∧ St w0 w' (L' :: C :: D' :: F)
theorem narrX38 {b bo : Nat} {x x' : NX} {L D : Chunk} {w0 w : World} {F : List Chunk} {out : List PN} (hS : St w0 w (L :: D :: F)) (hN : NOD w0 b bo x L D) (p : PN) {d : Value} (hd : RdSX w0 (D :: F) 1 d p.da.length (rows encB p.da)) (h : narrX x p = some (x', out)) :
    Ret Tryz.prog 38 #[vP b 0, pval p d] w (XRet w0 F b bo x' D out) := by
  cases x with
  | up st sr =>
    rw [narrX] at h
    cases hm : narrM st p with
    | none => rw [hm] at h; cases h
    | some r =>
      obtain ⟨st', o2⟩ := r
      rw [hm] at h
      injection h with h; injection h with e1 e2; subst e1; subst e2
      refine Calls.mono (narrA hS hN p hd hm) ?_
      rintro e w' ⟨v, he, L', ps, A, c, C, D', g1, g2, g3, g4, g5, g6⟩
      exact ⟨v, he, L', ps, A, c, C, D', g1, g2, g3, g4, g5, g6⟩
  | down c => cases h
theorem ntickX41 {b bo : Nat} {x x' : NX} {L D : Chunk} {w0 w : World} {F : List Chunk} {out : List PN} (hS : St w0 w (L :: D :: F)) (hN : NOD w0 b bo x L D) (h : ntickX x = some (x', out)) :
    Ret Tryz.prog 41 #[vP b 0] w (XRet w0 F b bo x' D out) := by
  cases x with
  | up st sr =>
    rw [ntickX] at h
    cases hm : ntickM st with
    | none => rw [hm] at h; cases h
    | some r =>
      obtain ⟨st', o2⟩ := r
      rw [hm] at h
      injection h with h; injection h with e1 e2; subst e1; subst e2
      refine Calls.mono (ntickB hS hN hm) ?_
      rintro e w' ⟨v, he, L', ps, A, c, C, D', g1, g2, g3, g4, g5, g6⟩
      exact ⟨v, he, L', ps, A, c, C, D', g1, g2, g3, g4, g5, g6⟩
  | down c => cases h
def WXRet (w0 : World) (F : List Chunk) (b bo : Nat) (x' : NX) (en : List (Nat × Nat × Nat)) (ts : List Nat) (k' : Nat) (D : Chunk) (ok : Bool) (out : List PN) (v : Value) (w' : World) : Prop := ∃ L' ps A c C O' D', NOD w0 b bo x' L' D' ∧ ORR bo en ts k' O' ∧ Own 94 6 (.slice A ps.length c) ps.length (rows encPacket ps) C ∧ PKS w0 D' ps out ∧ DX w0 D D' ∧ v = .tuple #[.slice A ps.length c, .bool ok] ∧ St w0 w' (L' :: C :: O' :: D' :: F)
theorem nworkX42 {b bo : Nat} {x x' : NX} {L O D : Chunk} {w0 w : World} {F : List Chunk} {en en' : List (Nat × Nat × Nat)} {ts : List Nat} {k k' : Nat} {ok : Bool} {out : List PN} (hg : HG w0) (hS : St w0 w (L :: O :: D :: F)) (hN : NOD w0 b bo x L D) (hO : ORR bo en ts k O) (h : nworkX x en ts k = some (x', en', k', ok, out)) :
    Ret Tryz.prog 42 #[vP b 0] w (WXRet w0 F b bo x' en' ts k' D ok out) := by
  cases x with
  | up st sr =>
    rw [nworkX] at h
    cases hm : nworkM st sr en ts k with
    | none => rw [hm] at h; cases h
    | some r =>
      obtain ⟨st', sr', en2, k2, ok2, o2⟩ := r
      rw [hm] at h
      injection h with h; injection h with e1 h; injection h with e5 h; injection h with e2 h; injection h with e3 e4
      subst e1; subst e2; subst e3; subst e4; subst e5
      refine Calls.mono (nworkB hg hS hN hO hm) ?_
      rintro e w' ⟨v, he, L', ps, A, c, C, O', D', g1, g2, g3, g4, g5, g6, g7⟩
      exact ⟨v, he, L', ps, A, c, C, O', D', g1, g2, g3, g4, g5, g6, g7⟩
  | down c => cases h
def app (wi out : List PN) : List PN := match out with
  | [] => wi
  | _ :: _ => forceS (wi ++ out) id
theorem app_eq (wi out : List PN) : app wi out = wi ++ out := by
  cases out with
  | nil => exact (List.append_nil wi).symm
  | cons a l => rw [app, forceS_eq]; rfl
def arrM (s : SY) : Option SY :=
  match s.wi with
  | [] => none
  | p :: wi => match s.nx[p.to]? with
    | some x => match narrX x p with
      | some (x', out) => if sendC wi out ∧ wi.length ≤ 1000000 then some { s with nx := s.nx.set p.to x', wi := app wi out } else none
      | none => none
    | none => none
def workM (ts : List Nat) (s : SY) (i : Nat) : Option (SY × Bool) :=
  match s.nx[i]? with
  | some x => match nworkX x s.en ts s.k with
    | some (x', en', k', ok, out) => if sendC s.wi out then some ({ s with nx := s.nx.set i x', en := en', k := k', wi := app s.wi (if ok then out else []) }, ok) else none
    | none => none
  | none => none
def tick1M (s : SY) (i : Nat) : Option SY :=
  match s.nx[i]? with
  | some x => match ntickX x with
    | some (x', out) => if sendC s.wi out then some { s with nx := s.nx.set i x', wi := app s.wi out } else none
    | none => none
  | none => none
def ticksM (s : SY) : Nat → Option SY
  | 0 => some s
  | j + 1 => match ticksM s j with
    | some s' => tick1M s' j
    | none => none
theorem ticksM_le {s x : SY} {n : Nat} (h : ticksM s n = some x) : ∀ j ≤ n, ∃ y, ticksM s j = some y := by
  induction n generalizing x with
  | zero => intro j hj; obtain rfl : j = 0 := by omega
            exact ⟨x, h⟩
  | succ n ih =>
    intro j hj
    by_cases hjn : j = n + 1
    · subst hjn; exact ⟨x, h⟩
    · rw [ticksM] at h
      cases hm : ticksM s n with
      | none => rw [hm] at h; cases h
      | some y => exact ih hm j (by omega)
theorem tick1M_some {s s' : SY} {j : Nat} (h : tick1M s j = some s') : ∃ x x' out, s.nx[j]? = some x ∧ ntickX x = some (x', out) ∧ sendC s.wi out ∧ s' = { s with nx := s.nx.set j x', wi := s.wi ++ out } := by
  rw [tick1M] at h
  cases hx : s.nx[j]? with
  | none => rw [hx] at h; cases h
  | some x =>
    rw [hx] at h; dsimp only at h
    cases ht : ntickX x with
    | none => rw [ht] at h; cases h
    | some r =>
      obtain ⟨x', out⟩ := r
      rw [ht] at h; dsimp only at h
      by_cases hc : sendC s.wi out
      · rw [if_pos hc, app_eq] at h; injection h with h
        exact ⟨x, x', out, rfl, ht, hc, h.symm⟩
      · rw [if_neg hc] at h; cases h
theorem workM_some {ts : List Nat} {s s' : SY} {i : Nat} {ok : Bool} (h : workM ts s i = some (s', ok)) : ∃ x x' en' k' out, s.nx[i]? = some x ∧ nworkX x s.en ts s.k = some (x', en', k', ok, out) ∧ sendC s.wi out ∧ s' = { s with nx := s.nx.set i x', en := en', k := k', wi := s.wi ++ (if ok then out else []) } := by
  rw [workM] at h
  cases hx : s.nx[i]? with
  | none => rw [hx] at h; cases h
  | some x =>
    rw [hx] at h; dsimp only at h
    cases ht : nworkX x s.en ts s.k with
    | none => rw [ht] at h; cases h
    | some r =>
      obtain ⟨x', en', k', ok2, out⟩ := r
      rw [ht] at h; dsimp only at h
      by_cases hc : sendC s.wi out
      · rw [if_pos hc, app_eq] at h; injection h with h; injection h with h h2; subst h2
        exact ⟨x, x', en', k', out, rfl, ht, hc, h.symm⟩
      · rw [if_neg hc] at h; cases h
theorem arrM_some {s s' : SY} (h : arrM s = some s') : ∃ p wi x x' out, s.wi = p :: wi ∧ s.nx[p.to]? = some x ∧ narrX x p = some (x', out) ∧ sendC wi out ∧ wi.length ≤ 1000000 ∧ s' = { s with nx := s.nx.set p.to x', wi := wi ++ out } := by
  rw [arrM] at h
  cases hw : s.wi with
  | nil => rw [hw] at h; cases h
  | cons p wi =>
    rw [hw] at h; dsimp only at h
    cases hx : s.nx[p.to]? with
    | none => rw [hx] at h; cases h
    | some x =>
      rw [hx] at h; dsimp only at h
      cases ht : narrX x p with
      | none => rw [ht] at h; cases h
      | some r =>
        obtain ⟨x', out⟩ := r
        rw [ht] at h; dsimp only at h
        by_cases hc : sendC wi out ∧ wi.length ≤ 1000000
        · rw [if_pos hc, app_eq] at h; injection h with h
          exact ⟨p, wi, x, x', out, rfl, hx, ht, hc.1, hc.2, h.symm⟩
        · rw [if_neg hc] at h; cases h
end Go.Proofs.YthiakdmhpfkjbaaGreatDoor

set_option linter.unusedVariables false
set_option linter.unusedSimpArgs false
set_option maxRecDepth 4000
namespace Go.Proofs.YthiakdmhpfkjbaaGreatDoor
open Go Go.SK
set_option maxHeartbeats 4000000 in
theorem do_arr15 {w0 w : World} {F : List Chunk} {b : Nat} {ts : List Nat} {s : SY} {L D : Chunk} {s' : SY} (hS : St w0 w (L :: D :: F)) (hY : SYS w0 b ts s L D) (hM : arrM s = some s') :
 Ret Tryz.prog 15 #[vP b 0, .agg #[yB, yI, yI]] w (fun v w' => ∃ L' D', SYS w0 b ts s' L' D' ∧ DX w0 D D' ∧ v = yN ∧ St w0 w' (L' :: D' :: F)) := by
 obtain ⟨bw, bo, bs, A, c, C, NL, WL, OL, hs, rfl⟩ := hY
 replace hS : St w0 w ([(b, rowO [.slice A bs.length c, vP bw 0] 77)] :: C :: NL :: WL :: OL :: D :: F) := hS.cast (by simp)
 obtain ⟨p, wi, x, x', out, hwi, hx, hc, hsc, hlw, rfl⟩ := arrM_some hM
 have hfw := hs.fw; rw [hwi] at hfw
 refine enter (vs := [vP b 0, .agg #[yB, yI, yI]]) 108 Tryz.func15 rfl rfl (by simp) ?_; intro a hA
 refine zs (zr ?_)
 refine st_box hA hS [yB, yI, yI] rfl rfl rfl rfl rfl (by decide) fun b1 w2 a hS hA => ?_
 refine zR 1 ((4, yN) :: _) hA rfl fun a hA => zn (zx (zs (zs (zr (zR 1 ((13, vP b1 0) :: _) hA rfl fun a hA => zL hA hS 0 rfl rfl rfl rfl rfl rfl rfl rfl rfl fun a hA => zn (zx (zb (zs (zr (zR 2 ((15, yT) :: (16, yT) :: _) hA rfl fun a hA => zn (zx (cd_cond_t hA rfl (zs ?_)))))))))))))
 replace hS := hS.m6.m5
 refine wp_drawN (fun w' => St w0 w' ([(b1, rowO [yB, yI, yI] 51)] :: [(b, rowO [.slice A bs.length c, vP bw 0] 77)] :: C :: NL :: OL :: F)) [] [(0, true), (1, true), (2, true), (3, true), (4, true), (5, true)] 6 (.L [(7, true), (8, true), (9, true), (10, false), (11, false), (12, true)]) 10 (.L [(6, false), (7, true), (8, true), (9, true), (11, false), (12, true)]) mixed (by kernel_rfl) (by rintro c a w ⟨_, _, h, _⟩; cases h) (by rfl) (by kernel_rfl) ?_
 replace hS := hS.drew
 refine zW 3 ((20, vP b 1) :: (19, vP b 0) :: (18, vP b 0) :: _) hA (hS.tail 2 rfl) rfl fun a hA => zY hA (hS.tail 2 rfl) 1 rfl rfl rfl rfl rfl rfl rfl rfl rfl rfl fun a hA => zW 1 ((22, vP b1 2) :: _) hA (hS.tail 2 rfl) rfl fun a hA => zY hA (hS.tail 2 rfl) 0 rfl rfl rfl rfl rfl rfl rfl rfl rfl rfl fun a hA => ?_
 refine dr_fork ?_ ?_
 · refine dr_b (o := _) rfl ?_
   replace hS := hS.m1.m1
   refine st_call0 hA rfl rfl rfl isfn37 rfl rfl (by decide) (warr37 hS hfw hlw) ?_
   clear hA hS; rintro _ w3 a ⟨WL2, kA, kc, hW2, hdx, rfl, hS⟩ hA
   refine zi (hS.tail 2 rfl) ?_
   refine dr_subL ?_
   refine zW 3 ((26, yT) :: (25, .agg #[vI p.fr, vI p.to, vU p.id, vI p.ix, vI p.cn, .slice kA p.da.length kc]) :: (17, .tuple #[.agg #[vI p.fr, vI p.to, vU p.id, vI p.ix, vI p.cn, .slice kA p.da.length kc], yT]) :: _) hA (hS.tail 2 rfl) rfl fun a hA => dr_b (o := _) rfl ?_
   refine st_alloc tbOk hA hS [yI, yI, yU, yI, yI, yS] rfl rfl rfl rfl rfl (by decide) fun b4 w5 a hS hA => ?_
   refine zi (hS.tail 3 rfl) (dr_b (o := _) rfl ?_)
   refine st_store tbOk hA hS [vI p.fr, vI p.to, vU p.id, vI p.ix, vI p.cn, .slice kA p.da.length kc] [vI p.fr, vI p.to, vU p.id, vI p.ix, vI p.cn, .slice kA p.da.length kc] rfl rfl rfl rfl rfl rfl (zn1 rfl) (zle rfl) rfl rfl rfl fun w6 hS => ?_
   refine zi (hS.tail 3 rfl) (zW 1 ((6, yT) :: _) hA (hS.tail 3 rfl) rfl fun a hA => ze (zx (zs (zs (zr (zR 2 ((28, yF) :: (27, yT) :: _) hA rfl fun a hA => zn (zx (cd_cond_f hA rfl (zk (zx (zs (zs (zr ?_)))))))))))))
   have hlen := hs.fn.len; obtain ⟨bi, hbi⟩ := get_ex (l := bs) (k := p.to) (by have h := (List.getElem?_eq_some_iff.1 hx).1; omega)
   obtain ⟨La, Li, Lb, hNLe, hNi, hback⟩ := hs.fn.at_ hbi hx; subst hNLe
   replace hS : St w0 w6 ([(b4, rowO [vI p.fr, vI p.to, vU p.id, vI p.ix, vI p.cn, .slice kA p.da.length kc] 94)] :: WL2 :: D :: [(b1, rowO [yB, yI, yI] 51)] :: [(b, rowO [.slice A bs.length c, vP bw 0] 77)] :: C :: La :: Li :: Lb :: OL :: F) := hS.cast (by simp)
   refine zR 2 ((31, vP b4 1) :: (30, vP b 0) :: _) hA rfl fun a hA => zL hA hS 0 rfl rfl rfl rfl rfl rfl rfl rfl rfl fun a hA => ?_
   replace hS := hS.m5.m5
   refine st_call0 hA rfl rfl rfl isfn31 rfl rfl (by decide) (sat31 (i := p.to) hS hs.fr hbi) ?_
   clear hA hS; rintro _ w7 a ⟨rfl, hS⟩ hA
   refine zR 1 ((7, vP bi 0) :: _) hA rfl fun a hA => zn (zx (zs (zr (zR 2 ((35, yT) :: (34, vP bi 0) :: _) hA rfl fun a hA => zn (zx (cd_cond_t hA rfl (zr (zR 2 ((37, vP bi 0) :: (36, vP b 0) :: _) hA rfl fun a hA => zLA hA hS 2 [vI p.fr, vI p.to, vU p.id, vI p.ix, vI p.cn, .slice kA p.da.length kc] rfl rfl rfl rfl rfl rfl rfl rfl rfl rfl fun a hA => ?_))))))))
   replace hS := hS.m4.m7
   refine st_call0 hA rfl rfl rfl isfn38 rfl rfl (by decide) (narrX38 hS hNi p (DD.rds (F := D :: _) hdx 0 rfl) hc) ?_
   clear hA hS; rintro _ w8 a ⟨Li2, psq, Aq, cq, Cq, D2, hN2, hOq, hKq, hX2, rfl, hS⟩ hA
   replace hS := hS.m2.m2.m6.m4
   refine st_call0 hA rfl rfl rfl isfn34 rfl rfl (by decide) (ssend34 hS (hW2.dx hX2) hOq hKq hsc.1 hsc.2) ?_
   clear hA hS; rintro _ w9 a ⟨WL12, Ds11, hW13, hXs10, rfl, hS⟩ hA
   refine zn (zx (zs (zr (zR 1 ((4, yN) :: _) hA rfl fun a hA => zn (zx ?_)))))
   refine wp_ret (xb_ret (xt_ret ?_))
   refine ret1 (fn := Tryz.f15) hA rfl rfl ?_
   replace hS := hS.d6.d5.m7.m2.m7.m5.m7.m7.m6
   replace hS : St w0 w9 (((b, rowO [.slice A bs.length c, vP bw 0] 77) :: (C ++ ((La ++ (Li2 ++ Lb)) ++ (WL12 ++ OL)))) :: Ds11 :: F) := hS.cast (by simp)
   exact ⟨_, _, ⟨bw, bo, bs, A, c, C, _, _, _, ⟨hback _ _ _ (hX2.trans hXs10) (NOD.dx hN2 hXs10), hW13, hs.fo, hs.fr⟩, rfl⟩, (hX2.trans hXs10), rfl, hS⟩
 · refine dr_b (o := _) rfl ?_
   refine st_alloc tbOk hA hS [yI, yI, yU, yI, yI, yS] rfl rfl rfl rfl rfl (by decide) fun b14 w15 a hS hA => ?_
   refine zi (hS.tail 3 rfl) ?_
   refine dr_subL ?_
   refine dr_b (o := _) rfl ?_
   replace hS := hS.m2.m2
   refine st_call0 hA rfl rfl rfl isfn37 rfl rfl (by decide) (warr37 hS hfw hlw) ?_
   clear hA hS; rintro _ w16 a ⟨WL2, kA, kc, hW2, hdx, rfl, hS⟩ hA
   refine zi (hS.tail 3 rfl) (zW 3 ((26, yT) :: (25, .agg #[vI p.fr, vI p.to, vU p.id, vI p.ix, vI p.cn, .slice kA p.da.length kc]) :: (17, .tuple #[.agg #[vI p.fr, vI p.to, vU p.id, vI p.ix, vI p.cn, .slice kA p.da.length kc], yT]) :: _) hA (hS.tail 3 rfl) rfl fun a hA => dr_b (o := _) rfl ?_)
   replace hS := hS.m2
   refine st_store tbOk hA hS [vI p.fr, vI p.to, vU p.id, vI p.ix, vI p.cn, .slice kA p.da.length kc] [vI p.fr, vI p.to, vU p.id, vI p.ix, vI p.cn, .slice kA p.da.length kc] rfl rfl rfl rfl rfl rfl (zn1 rfl) (zle rfl) rfl rfl rfl fun w17 hS => ?_
   refine zi (hS.tail 3 rfl) (zW 1 ((6, yT) :: _) hA (hS.tail 3 rfl) rfl fun a hA => ze (zx (zs (zs (zr (zR 2 ((28, yF) :: (27, yT) :: _) hA rfl fun a hA => zn (zx (cd_cond_f hA rfl (zk (zx (zs (zs (zr ?_)))))))))))))
   have hlen := hs.fn.len; obtain ⟨bi, hbi⟩ := get_ex (l := bs) (k := p.to) (by have h := (List.getElem?_eq_some_iff.1 hx).1; omega)
   obtain ⟨La, Li, Lb, hNLe, hNi, hback⟩ := hs.fn.at_ hbi hx; subst hNLe
   replace hS : St w0 w17 ([(b14, rowO [vI p.fr, vI p.to, vU p.id, vI p.ix, vI p.cn, .slice kA p.da.length kc] 94)] :: WL2 :: D :: [(b1, rowO [yB, yI, yI] 51)] :: [(b, rowO [.slice A bs.length c, vP bw 0] 77)] :: C :: La :: Li :: Lb :: OL :: F) := hS.cast (by simp)
   refine zR 2 ((31, vP b14 1) :: (30, vP b 0) :: _) hA rfl fun a hA => zL hA hS 0 rfl rfl rfl rfl rfl rfl rfl rfl rfl fun a hA => ?_
   replace hS := hS.m5.m5
   refine st_call0 hA rfl rfl rfl isfn31 rfl rfl (by decide) (sat31 (i := p.to) hS hs.fr hbi) ?_
   clear hA hS; rintro _ w18 a ⟨rfl, hS⟩ hA
   refine zR 1 ((7, vP bi 0) :: _) hA rfl fun a hA => zn (zx (zs (zr (zR 2 ((35, yT) :: (34, vP bi 0) :: _) hA rfl fun a hA => zn (zx (cd_cond_t hA rfl (zr (zR 2 ((37, vP bi 0) :: (36, vP b 0) :: _) hA rfl fun a hA => zLA hA hS 2 [vI p.fr, vI p.to, vU p.id, vI p.ix, vI p.cn, .slice kA p.da.length kc] rfl rfl rfl rfl rfl rfl rfl rfl rfl rfl fun a hA => ?_))))))))
   replace hS := hS.m4.m7
   refine st_call0 hA rfl rfl rfl isfn38 rfl rfl (by decide) (narrX38 hS hNi p (DD.rds (F := D :: _) hdx 0 rfl) hc) ?_
   clear hA hS; rintro _ w19 a ⟨Li2, psq, Aq, cq, Cq, D2, hN2, hOq, hKq, hX2, rfl, hS⟩ hA
   replace hS := hS.m2.m2.m6.m4
   refine st_call0 hA rfl rfl rfl isfn34 rfl rfl (by decide) (ssend34 hS (hW2.dx hX2) hOq hKq hsc.1 hsc.2) ?_
   clear hA hS; rintro _ w20 a ⟨WL23, Ds22, hW24, hXs21, rfl, hS⟩ hA
   refine zn (zx (zs (zr (zR 1 ((4, yN) :: _) hA rfl fun a hA => zn (zx ?_)))))
   refine wp_ret (xb_ret (xt_ret ?_))
   refine ret1 (fn := Tryz.f15) hA rfl rfl ?_
   replace hS := hS.d6.d5.m7.m2.m7.m5.m7.m7.m6
   replace hS : St w0 w20 (((b, rowO [.slice A bs.length c, vP bw 0] 77) :: (C ++ ((La ++ (Li2 ++ Lb)) ++ (WL23 ++ OL)))) :: Ds22 :: F) := hS.cast (by simp)
   exact ⟨_, _, ⟨bw, bo, bs, A, c, C, _, _, _, ⟨hback _ _ _ (hX2.trans hXs21) (NOD.dx hN2 hXs21), hW24, hs.fo, hs.fr⟩, rfl⟩, (hX2.trans hXs21), rfl, hS⟩
set_option maxHeartbeats 4000000 in
theorem do_arr015 {w0 w : World} {F : List Chunk} {b : Nat} {ts : List Nat} {s : SY} {L D : Chunk} (hS : St w0 w (L :: D :: F)) (hY : SYS w0 b ts s L D) (hwi : s.wi = []) :
 Ret Tryz.prog 15 #[vP b 0, .agg #[yB, yI, yI]] w (fun v w' => ∃ L', SYS w0 b ts s L' D ∧ v = .iface 55 (.int .i64 12) ∧ St w0 w' (L' :: D :: F)) := by
 obtain ⟨bw, bo, bs, A, c, C, NL, WL, OL, hs, rfl⟩ := hY
 replace hS : St w0 w ([(b, rowO [.slice A bs.length c, vP bw 0] 77)] :: C :: NL :: WL :: OL :: D :: F) := hS.cast (by simp)
 refine enter (vs := [vP b 0, .agg #[yB, yI, yI]]) 108 Tryz.func15 rfl rfl (by simp) ?_; intro a hA
 refine zs (zr ?_)
 refine st_box hA hS [yB, yI, yI] rfl rfl rfl rfl rfl (by decide) fun b1 w2 a hS hA => ?_
 refine zR 1 ((4, yN) :: _) hA rfl fun a hA => zn (zx (zs (zs (zr (zR 1 ((13, vP b1 0) :: _) hA rfl fun a hA => zL hA hS 0 rfl rfl rfl rfl rfl rfl rfl rfl rfl fun a hA => zn (zx (zb (zs (zr (zR 2 ((15, yT) :: (16, yT) :: _) hA rfl fun a hA => zn (zx (cd_cond_t hA rfl (zs ?_)))))))))))))
 replace hS := hS.m6.m5
 refine wp_drawN (fun w' => St w0 w' ([(b1, rowO [yB, yI, yI] 51)] :: [(b, rowO [.slice A bs.length c, vP bw 0] 77)] :: C :: NL :: OL :: F)) [] [(0, true), (1, true), (2, true), (3, true), (4, true), (5, true)] 6 (.L [(7, true), (8, true), (9, true), (10, false), (11, false), (12, true)]) 10 (.L [(6, false), (7, true), (8, true), (9, true), (11, false), (12, true)]) mixed (by kernel_rfl) (by rintro c a w ⟨_, _, h, _⟩; cases h) (by rfl) (by kernel_rfl) ?_
 replace hS := hS.drew
 refine zW 3 ((20, vP b 1) :: (19, vP b 0) :: (18, vP b 0) :: _) hA (hS.tail 2 rfl) rfl fun a hA => zY hA (hS.tail 2 rfl) 1 rfl rfl rfl rfl rfl rfl rfl rfl rfl rfl fun a hA => zW 1 ((22, vP b1 2) :: _) hA (hS.tail 2 rfl) rfl fun a hA => zY hA (hS.tail 2 rfl) 0 rfl rfl rfl rfl rfl rfl rfl rfl rfl rfl fun a hA => ?_
 refine dr_fork ?_ ?_
 · refine dr_b (o := _) rfl ?_
   replace hS := hS.m1.m1
   obtain ⟨wp, hwr, hWK⟩ := hs.fw; have hwl := hWK.len; rw [hwi] at hwl
   refine st_call0 hA rfl rfl rfl isfn37 rfl rfl (by decide) (arrive_none37 hS hwr 0 hwl) ?_
   clear hA hS; rintro _ w3 a ⟨WL2, hW2, rfl, hS⟩ hA
   refine zi (hS.tail 2 rfl) ?_
   refine dr_subL ?_
   refine zW 3 ((26, yF) :: (25, .agg #[yI, yI, yU, yI, yI, yS]) :: (17, .tuple #[.agg #[yI, yI, yU, yI, yI, yS], yF]) :: _) hA (hS.tail 2 rfl) rfl fun a hA => dr_b (o := _) rfl ?_
   refine st_alloc tbOk hA hS [yI, yI, yU, yI, yI, yS] rfl rfl rfl rfl rfl (by decide) fun b4 w5 a hS hA => ?_
   refine zi (hS.tail 3 rfl) (dr_b (o := _) rfl ?_)
   refine st_store tbOk hA hS [yI, yI, yU, yI, yI, yS] [yI, yI, yU, yI, yI, yS] rfl rfl rfl rfl rfl rfl (zn1 rfl) (zle rfl) rfl rfl rfl fun w6 hS => ?_
   refine zi (hS.tail 3 rfl) (zW 1 ((6, yF) :: _) hA (hS.tail 3 rfl) rfl fun a hA => ze (zx (zs (zs (zr (zR 2 ((28, yT) :: (27, yF) :: _) hA rfl fun a hA => zn (zx (cd_cond_t hA rfl (zs (zr (zR 2 ((4, .iface 55 (.int .i64 12)) :: (29, .iface 55 (.int .i64 12)) :: _) hA rfl fun a hA => zn (zx ?_))))))))))))
   refine wp_ret (xt_ret (xb_ret (xt_ret ?_)))
   refine ret1 (fn := Tryz.f15) hA rfl rfl ?_
   replace hS := hS.d3.d0.m5.m1.m5.m5.m5
   replace hS : St w0 w6 (((b, rowO [.slice A bs.length c, vP bw 0] 77) :: (C ++ (NL ++ (WL2 ++ OL)))) :: D :: F) := hS.cast (by simp)
   exact ⟨_, ⟨bw, bo, bs, A, c, C, _, _, _, ⟨NDS.dx DX.refl hs.fn, (show WRA w0 bw s.wi WL2 D from ⟨wp, hW2, hWK⟩), hs.fo, hs.fr⟩, rfl⟩, rfl, hS⟩
 · refine dr_b (o := _) rfl ?_
   refine st_alloc tbOk hA hS [yI, yI, yU, yI, yI, yS] rfl rfl rfl rfl rfl (by decide) fun b7 w8 a hS hA => ?_
   refine zi (hS.tail 3 rfl) ?_
   refine dr_subL ?_
   refine dr_b (o := _) rfl ?_
   replace hS := hS.m2.m2
   obtain ⟨wp, hwr, hWK⟩ := hs.fw; have hwl := hWK.len; rw [hwi] at hwl
   refine st_call0 hA rfl rfl rfl isfn37 rfl rfl (by decide) (arrive_none37 hS hwr 0 hwl) ?_
   clear hA hS; rintro _ w9 a ⟨WL2, hW2, rfl, hS⟩ hA
   refine zi (hS.tail 3 rfl) (zW 3 ((26, yF) :: (25, .agg #[yI, yI, yU, yI, yI, yS]) :: (17, .tuple #[.agg #[yI, yI, yU, yI, yI, yS], yF]) :: _) hA (hS.tail 3 rfl) rfl fun a hA => dr_b (o := _) rfl ?_)
   replace hS := hS.m2
   refine st_store tbOk hA hS [yI, yI, yU, yI, yI, yS] [yI, yI, yU, yI, yI, yS] rfl rfl rfl rfl rfl rfl (zn1 rfl) (zle rfl) rfl rfl rfl fun w10 hS => ?_
   refine zi (hS.tail 3 rfl) (zW 1 ((6, yF) :: _) hA (hS.tail 3 rfl) rfl fun a hA => ze (zx (zs (zs (zr (zR 2 ((28, yT) :: (27, yF) :: _) hA rfl fun a hA => zn (zx (cd_cond_t hA rfl (zs (zr (zR 2 ((4, .iface 55 (.int .i64 12)) :: (29, .iface 55 (.int .i64 12)) :: _) hA rfl fun a hA => zn (zx ?_))))))))))))
   refine wp_ret (xt_ret (xb_ret (xt_ret ?_)))
   refine ret1 (fn := Tryz.f15) hA rfl rfl ?_
   replace hS := hS.d3.d0.m5.m1.m5.m5.m5
   replace hS : St w0 w10 (((b, rowO [.slice A bs.length c, vP bw 0] 77) :: (C ++ (NL ++ (WL2 ++ OL)))) :: D :: F) := hS.cast (by simp)
   exact ⟨_, ⟨bw, bo, bs, A, c, C, _, _, _, ⟨NDS.dx DX.refl hs.fn, (show WRA w0 bw s.wi WL2 D from ⟨wp, hW2, hWK⟩), hs.fo, hs.fr⟩, rfl⟩, rfl, hS⟩
set_option maxHeartbeats 4000000 in
theorem do_work_t15 {w0 w : World} {F : List Chunk} {b : Nat} {ts : List Nat} {s : SY} {L D : Chunk} {s' : SY} {i : Nat} (hg : HG w0) (hS : St w0 w (L :: D :: F)) (hY : SYS w0 b ts s L D) (hM : workM ts s i = some (s', true)) :
 Ret Tryz.prog 15 #[vP b 0, .agg #[.int .u8 3, vI i, yI]] w (fun v w' => ∃ L' D', SYS w0 b ts s' L' D' ∧ DX w0 D D' ∧ v = yN ∧ St w0 w' (L' :: D' :: F)) := by
 obtain ⟨bw, bo, bs, A, c, C, NL, WL, OL, hs, rfl⟩ := hY
 replace hS : St w0 w ([(b, rowO [.slice A bs.length c, vP bw 0] 77)] :: C :: NL :: WL :: OL :: D :: F) := hS.cast (by simp)
 obtain ⟨x, x', en', k', out, hx, hc, hsc, rfl⟩ := workM_some hM
 have hlen := hs.fn.len; obtain ⟨bi, hbi⟩ := get_ex (l := bs) (k := i) (by have h := (List.getElem?_eq_some_iff.1 hx).1; omega)
 obtain ⟨La, Li, Lb, hNLe, hNi, hback⟩ := hs.fn.at_ hbi hx; subst hNLe
 replace hS : St w0 w ([(b, rowO [.slice A bs.length c, vP bw 0] 77)] :: C :: La :: Li :: Lb :: WL :: OL :: D :: F) := hS.cast (by simp)
 refine enter (vs := [vP b 0, .agg #[.int .u8 3, vI i, yI]]) 108 Tryz.func15 rfl rfl (by simp) ?_; intro a hA
 refine zs (zr ?_)
 refine st_box hA hS [.int .u8 3, vI i, yI] rfl rfl rfl rfl rfl (by decide) fun b1 w2 a hS hA => ?_
 refine zR 1 ((4, yN) :: _) hA rfl fun a hA => zn (zx (zs (zs (zr (zR 1 ((13, vP b1 0) :: _) hA rfl fun a hA => zL hA hS 0 rfl rfl rfl rfl rfl rfl rfl rfl rfl fun a hA => zn (zx (zb (zs (zr (zR 2 ((15, yF) :: (16, yF) :: _) hA rfl fun a hA => zn (zx (cd_cond_f hA rfl (zs (zr (zR 2 ((41, yF) :: (42, yF) :: _) hA rfl fun a hA => zn (zx (cd_cond_f hA rfl (zs (zr (zR 2 ((52, yF) :: (53, yF) :: _) hA rfl fun a hA => zn (zx (cd_cond_f hA rfl (zs (zr (zR 2 ((61, yF) :: (62, yF) :: _) hA rfl fun a hA => zn (zx (cd_cond_f hA rfl (zk (zm (zx (zs (zr (zR 2 ((78, vP b1 1) :: (77, vP b 0) :: _) hA rfl fun a hA => zL hA hS 0 rfl rfl rfl rfl rfl rfl rfl rfl rfl fun a hA => ?_)))))))))))))))))))))))))))))))))
 replace hS := hS.m2.m2
 refine st_call0 hA rfl rfl rfl isfn31 rfl rfl (by decide) (sat31 (i := i) hS hs.fr hbi) ?_
 clear hA hS; rintro _ w3 a ⟨rfl, hS⟩ hA
 refine zR 1 ((10, vP bi 0) :: _) hA rfl fun a hA => zn (zx (zs (zs (zr (zR 2 ((82, yF) :: (81, vP bi 0) :: _) hA rfl fun a hA => zn (zx (cd_cond_f hA rfl (zk (zx (zs (zs (zr (zR 1 ((84, vP b1 0) :: _) hA rfl fun a hA => zL hA hS 2 rfl rfl rfl rfl rfl rfl rfl rfl rfl fun a hA => zn (zx (zb (zs (zr (zR 2 ((86, yT) :: (87, yT) :: _) hA rfl fun a hA => zn (zx (cd_cond_t hA rfl (zs (zr (zR 1 ((89, vP bi 0) :: _) hA rfl fun a hA => ?_)))))))))))))))))))))))
 replace hS := hS.m8.m8.m6
 refine st_call0 hA rfl rfl rfl isfn42 rfl rfl (by decide) (nworkX42 hg hS hNi hs.fo hc) ?_
 clear hA hS; rintro _ w4 a ⟨Li2, psq, Aq, cq, Cq, O2, D2, hN2, hO2, hOq, hKq, hX2, rfl, hS⟩ hA
 refine zR 5 ((12, yT) :: (11, .slice Aq psq.length cq) :: (92, yT) :: (91, .slice Aq psq.length cq) :: (88, .tuple #[.slice Aq psq.length cq, yT]) :: _) hA rfl fun a hA => zn (zx (zs (zs (zr (zR 2 ((94, yF) :: (93, yT) :: _) hA rfl fun a hA => zn (zx (cd_cond_f hA rfl (zk (zx (zs (zr (zR 2 ((97, .slice Aq psq.length cq) :: (96, vP b 0) :: _) hA rfl fun a hA => ?_))))))))))))
 replace hS := hS.m3.m2.m9.m5
 refine st_call0 hA rfl rfl rfl isfn34 rfl rfl (by decide) (ssend34 hS (hs.fw.dx hX2) hOq hKq hsc.1 hsc.2) ?_
 clear hA hS; rintro _ w5 a ⟨WL8, Ds7, hW9, hXs6, rfl, hS⟩ hA
 refine zn (zx (zs (zr (zR 1 ((4, yN) :: _) hA rfl fun a hA => zn (zx ?_)))))
 refine wp_ret (xb_ret (xt_ret ?_))
 refine ret1 (fn := Tryz.f15) hA rfl rfl ?_
 replace hS := hS.d6.m4.m2.m7.m5.m7.m7.m6
 replace hS : St w0 w5 (((b, rowO [.slice A bs.length c, vP bw 0] 77) :: (C ++ ((La ++ (Li2 ++ Lb)) ++ (WL8 ++ O2)))) :: Ds7 :: F) := hS.cast (by simp)
 exact ⟨_, _, ⟨bw, bo, bs, A, c, C, _, _, _, ⟨hback _ _ _ (hX2.trans hXs6) (NOD.dx hN2 hXs6), hW9, hO2, hs.fr⟩, rfl⟩, (hX2.trans hXs6), rfl, hS⟩
set_option maxHeartbeats 4000000 in
theorem do_work_f15 {w0 w : World} {F : List Chunk} {b : Nat} {ts : List Nat} {s : SY} {L D : Chunk} {s' : SY} {i : Nat} (hg : HG w0) (hS : St w0 w (L :: D :: F)) (hY : SYS w0 b ts s L D) (hM : workM ts s i = some (s', false)) :
 Ret Tryz.prog 15 #[vP b 0, .agg #[.int .u8 3, vI i, yI]] w (fun v w' => ∃ L' D', SYS w0 b ts s' L' D' ∧ DX w0 D D' ∧ v = .iface 55 (.int .i64 12) ∧ St w0 w' (L' :: D' :: F)) := by
 obtain ⟨bw, bo, bs, A, c, C, NL, WL, OL, hs, rfl⟩ := hY
 replace hS : St w0 w ([(b, rowO [.slice A bs.length c, vP bw 0] 77)] :: C :: NL :: WL :: OL :: D :: F) := hS.cast (by simp)
 obtain ⟨x, x', en', k', out, hx, hc, hsc, rfl⟩ := workM_some hM
 have hlen := hs.fn.len; obtain ⟨bi, hbi⟩ := get_ex (l := bs) (k := i) (by have h := (List.getElem?_eq_some_iff.1 hx).1; omega)
 obtain ⟨La, Li, Lb, hNLe, hNi, hback⟩ := hs.fn.at_ hbi hx; subst hNLe
 replace hS : St w0 w ([(b, rowO [.slice A bs.length c, vP bw 0] 77)] :: C :: La :: Li :: Lb :: WL :: OL :: D :: F) := hS.cast (by simp)
 refine enter (vs := [vP b 0, .agg #[.int .u8 3, vI i, yI]]) 108 Tryz.func15 rfl rfl (by simp) ?_; intro a hA
 refine zs (zr ?_)
 refine st_box hA hS [.int .u8 3, vI i, yI] rfl rfl rfl rfl rfl (by decide) fun b1 w2 a hS hA => ?_
 refine zR 1 ((4, yN) :: _) hA rfl fun a hA => zn (zx (zs (zs (zr (zR 1 ((13, vP b1 0) :: _) hA rfl fun a hA => zL hA hS 0 rfl rfl rfl rfl rfl rfl rfl rfl rfl fun a hA => zn (zx (zb (zs (zr (zR 2 ((15, yF) :: (16, yF) :: _) hA rfl fun a hA => zn (zx (cd_cond_f hA rfl (zs (zr (zR 2 ((41, yF) :: (42, yF) :: _) hA rfl fun a hA => zn (zx (cd_cond_f hA rfl (zs (zr (zR 2 ((52, yF) :: (53, yF) :: _) hA rfl fun a hA => zn (zx (cd_cond_f hA rfl (zs (zr (zR 2 ((61, yF) :: (62, yF) :: _) hA rfl fun a hA => zn (zx (cd_cond_f hA rfl (zk (zm (zx (zs (zr (zR 2 ((78, vP b1 1) :: (77, vP b 0) :: _) hA rfl fun a hA => zL hA hS 0 rfl rfl rfl rfl rfl rfl rfl rfl rfl fun a hA => ?_)))))))))))))))))))))))))))))))))
 replace hS := hS.m2.m2
 refine st_call0 hA rfl rfl rfl isfn31 rfl rfl (by decide) (sat31 (i := i) hS hs.fr hbi) ?_
 clear hA hS; rintro _ w3 a ⟨rfl, hS⟩ hA
 refine zR 1 ((10, vP bi 0) :: _) hA rfl fun a hA => zn (zx (zs (zs (zr (zR 2 ((82, yF) :: (81, vP bi 0) :: _) hA rfl fun a hA => zn (zx (cd_cond_f hA rfl (zk (zx (zs (zs (zr (zR 1 ((84, vP b1 0) :: _) hA rfl fun a hA => zL hA hS 2 rfl rfl rfl rfl rfl rfl rfl rfl rfl fun a hA => zn (zx (zb (zs (zr (zR 2 ((86, yT) :: (87, yT) :: _) hA rfl fun a hA => zn (zx (cd_cond_t hA rfl (zs (zr (zR 1 ((89, vP bi 0) :: _) hA rfl fun a hA => ?_)))))))))))))))))))))))
 replace hS := hS.m8.m8.m6
 refine st_call0 hA rfl rfl rfl isfn42 rfl rfl (by decide) (nworkX42 hg hS hNi hs.fo hc) ?_
 clear hA hS; rintro _ w4 a ⟨Li2, psq, Aq, cq, Cq, O2, D2, hN2, hO2, hOq, hKq, hX2, rfl, hS⟩ hA
 refine zR 5 ((12, yF) :: (11, .slice Aq psq.length cq) :: (92, yF) :: (91, .slice Aq psq.length cq) :: (88, .tuple #[.slice Aq psq.length cq, yF]) :: _) hA rfl fun a hA => zn (zx (zs (zs (zr (zR 2 ((94, yT) :: (93, yF) :: _) hA rfl fun a hA => zn (zx (cd_cond_t hA rfl (zs (zr (zR 2 ((4, .iface 55 (.int .i64 12)) :: (95, .iface 55 (.int .i64 12)) :: _) hA rfl fun a hA => zn (zx ?_)))))))))))
 refine wp_ret (xt_ret (xb_ret (xt_ret ?_)))
 refine ret1 (fn := Tryz.f15) hA rfl rfl ?_
 replace hS := hS.d6.d1.m7.m7.m2.m7.m7.m7
 replace hS : St w0 w4 (((b, rowO [.slice A bs.length c, vP bw 0] 77) :: (C ++ ((La ++ (Li2 ++ Lb)) ++ (WL ++ O2)))) :: D2 :: F) := hS.cast (by simp)
 rw [show (if false = true then out else []) = [] from rfl, List.append_nil]
 exact ⟨_, _, ⟨bw, bo, bs, A, c, C, _, _, _, ⟨hback _ _ _ hX2 (NOD.dx hN2 DX.refl), hs.fw.dx hX2, hO2, hs.fr⟩, rfl⟩, hX2, rfl, hS⟩
end Go.Proofs.YthiakdmhpfkjbaaGreatDoor

set_option linter.unusedVariables false
set_option linter.unusedSimpArgs false
set_option maxRecDepth 4000
namespace Go.Proofs.YthiakdmhpfkjbaaGreatDoor
open Go Go.SK
set_option maxHeartbeats 4000000 in
theorem do_tick15 {w0 w : World} {F : List Chunk} {b : Nat} {ts : List Nat} {s : SY} {L D : Chunk} {s' : SY} (hS : St w0 w (L :: D :: F)) (hY : SYS w0 b ts s L D) (hM : ticksM s s.nx.length = some s') :
 Ret Tryz.prog 15 #[vP b 0, .agg #[.int .u8 4, yI, yI]] w (fun v w' => ∃ L' D', SYS w0 b ts s' L' D' ∧ DX w0 D D' ∧ v = yN ∧ St w0 w' (L' :: D' :: F)) := by
 obtain ⟨bw, bo, bs, A, c, C, NL, WL, OL, hs, rfl⟩ := hY
 replace hS : St w0 w ([(b, rowO [.slice A bs.length c, vP bw 0] 77)] :: C :: NL :: WL :: OL :: D :: F) := hS.cast (by simp)
 have hbsl := hs.fn.len; have hcapb := hs.fr.rcap
 refine enter (vs := [vP b 0, .agg #[.int .u8 4, yI, yI]]) 108 Tryz.func15 rfl rfl (by simp) ?_; intro a hA
 refine zs (zr ?_)
 refine st_box hA hS [.int .u8 4, yI, yI] rfl rfl rfl rfl rfl (by decide) fun b1 w2 a hS hA => ?_
 refine zR 1 ((4, yN) :: _) hA rfl fun a hA => zn (zx (zs (zs (zr (zR 1 ((13, vP b1 0) :: _) hA rfl fun a hA => zL hA hS 0 rfl rfl rfl rfl rfl rfl rfl rfl rfl fun a hA => zn (zx (zb (zs (zr (zR 2 ((15, yF) :: (16, yF) :: _) hA rfl fun a hA => zn (zx (cd_cond_f hA rfl (zs (zr (zR 2 ((41, yF) :: (42, yF) :: _) hA rfl fun a hA => zn (zx (cd_cond_f hA rfl (zs (zr (zR 2 ((52, yF) :: (53, yF) :: _) hA rfl fun a hA => zn (zx (cd_cond_f hA rfl (zs (zr (zR 2 ((61, yT) :: (62, yT) :: _) hA rfl fun a hA => zn (zx (cd_cond_t hA rfl (zs (zs (zr (zR 3 ((65, vP b 0) :: (64, vP b 0) :: (63, vP b 0) :: _) hA rfl fun a hA => zL hA hS 1 rfl rfl rfl rfl rfl rfl rfl rfl rfl fun a hA => zR 2 ((68, yI) :: (67, vI bs.length) :: _) hA rfl fun a hA => zn (zx (zb ?_)))))))))))))))))))))))))))))))))
 replace hS := hS.d0
 refine wp_loop_ghost (fun m a w => ∃ (j : Nat) (sj : SY) (NL' : Chunk) (WL' : Chunk) (OL' : Chunk) (D' : Chunk), m = bs.length - j ∧ Has a 108 [(0, vP b 0), (66, .slice A bs.length c), (67, vI bs.length), (68, vI j)] ∧ St w0 w ([(b, rowO [.slice A bs.length c, vP bw 0] 77)] :: C :: NL' :: WL' :: OL' :: D' :: F) ∧ (j ≤ bs.length) ∧ (ticksM s j = some sj) ∧ (SYS0 w0 ts sj D' bw bo bs A c C NL' WL' OL') ∧ (DX w0 D D')) (bs.length - 0)
  ⟨0, s, NL, WL, OL, D, rfl, (hA.sel [0, 66, 67, 68] rfl), hS, Nat.zero_le _, rfl, hs, DX.refl⟩ ?_
 clear hA hS; rintro m0 a w3 ⟨j, sj, NL', WL', OL', D', rfl, hA, hS, hj, hTj, hsj, hX⟩
 refine zs (zr (zR 1 ((69, .bool (decide (((j : Nat) : Int) < ((bs.length : Nat) : Int)))) :: _) hA rfl fun a hA => zn (zx (zs ?_))))
 by_cases hc4 : ((j : Nat) : Int) < ((bs.length : Nat) : Int)
 · first
   | (exfalso; omega)
   | (replace hA := hA.rw 69 (v' := yT) rfl (vb_true hc4)
      refine cd_cond_t hA rfl (zk (zx (zs (zb (zs (zr ?_))))))
      obtain ⟨sj2, hTj2⟩ := ticksM_le hM (j + 1) (by omega)
      have hTj3 := hTj2; rw [ticksM, hTj] at hTj3
      obtain ⟨x, x', out, hx, hc, hsc, rfl⟩ := tick1M_some hTj3
      have hlen := hsj.fn.len; obtain ⟨bi, hbi⟩ := get_ex (l := bs) (k := j) (by omega)
      obtain ⟨La, Li, Lb, hNLe, hNi, hback⟩ := hsj.fn.at_ hbi hx; subst hNLe
      replace hS : St w0 w3 ([(b, rowO [.slice A bs.length c, vP bw 0] 77)] :: C :: La :: Li :: Lb :: WL' :: OL' :: D' :: F) := hS.cast (by simp)
      obtain ⟨b5, o6, rfl⟩ := hs.fr.isSome (k := j) (by omega)
      refine st_val hA rfl rfl (by decide) (rn_indexAddr tbOk hA j (o6 + j) rfl rfl rfl rfl rfl rfl (by rfl) (by omega) (by first | rfl | simp [Nat.mul_one, Nat.zero_add] | omega)) fun a hA => st_val hA rfl rfl (by decide) (rn_load tbOk hA rfl rfl rfl rfl ((hs.fr.rd (hS.own_ 1 rfl)).elem0 (k := j) encPt_ok hbi rfl)) fun a hA => zR 1 ((9, vP bi 0) :: _) hA rfl fun a hA => zn (zx (zr (zR 2 ((73, vP bi 0) :: (72, vP b 0) :: _) hA rfl fun a hA => ?_)))
      replace hS := hS.m7.m4
      refine st_call0 hA rfl rfl rfl isfn41 rfl rfl (by decide) (ntickX41 hS hNi hc) ?_
      clear hA hS; rintro _ w7 a ⟨Li2, psq, Aq, cq, Cq, D2, hN2, hOq, hKq, hX2, rfl, hS⟩ hA
      replace hS := hS.m2.m2.m7.m4
      refine st_call0 hA rfl rfl rfl isfn34 rfl rfl (by decide) (ssend34 hS (hsj.fw.dx hX2) hOq hKq hsc.1 hsc.2) ?_
      clear hA hS; rintro _ w8 a ⟨WL11, Ds10, hW12, hXs9, rfl, hS⟩ hA
      refine zn (zm (zx (zr (zR 1 ((76, .int .i64 (IntKind.i64.wrap (((j : Nat) : Int) + 1))) :: _) hA rfl fun a hA => ?_))))
      replace hA := hA.rw 76 (v' := vI (j + 1)) rfl (wr64 (by omega) (by omega) (by omega))
      refine zR 1 ((68, vI (j + 1)) :: _) hA rfl fun a hA => zn ?_
      replace hS := hS.m7.m2.m7.m5.m7.m7.m6
      replace hS : St w0 w8 ([(b, rowO [.slice (some ⟨b5, o6, none⟩) bs.length c, vP bw 0] 77)] :: C :: (La ++ (Li2 ++ Lb)) :: WL11 :: OL' :: Ds10 :: F) := hS.cast (by simp)
      have hs9 : SYS0 w0 ts { sj with nx := sj.nx.set j x', wi := sj.wi ++ out } Ds10 bw bo bs _ c C _ WL11 OL' := ⟨hback _ _ _ (hX2.trans hXs9) (NOD.dx hN2 hXs9), hW12, hsj.fo, hsj.fr⟩
      exact lp_next _ (by omega) ⟨(j + 1), ({ sj with nx := sj.nx.set j x', wi := sj.wi ++ out }), (La ++ (Li2 ++ Lb)), WL11, OL', Ds10, rfl, (hA.sel [0, 66, 67, 68] rfl), hS, by omega, hTj2, hs9, (hX.trans (hX2.trans hXs9))⟩)
 · first
   | (exfalso; omega)
   | (replace hA := hA.rw 69 (v' := yF) rfl (vb_false hc4)
      refine cd_cond_f hA rfl ?_
      refine wp_exit ?_
      refine xt_exit (xt_exit (cd_exit_eq (zx (zs (zr (zR 1 ((4, yN) :: _) hA rfl fun a hA => zn (zx ?_)))))))
      refine wp_ret (xb_ret (xt_ret ?_))
      refine ret1 (fn := Tryz.f15) hA rfl rfl ?_
      have hj9 : j = s.nx.length := by omega
      subst hj9; rw [hM] at hTj; injection hTj with hTj; subst hTj
      replace hS : St w0 w3 (_ :: D' :: F) := (hS.cast (by simp) : St w0 w3 (((b, rowO [.slice A bs.length c, vP bw 0] 77) :: (C ++ (NL' ++ (WL' ++ OL')))) :: D' :: F))
      exact ⟨_, _, ⟨bw, bo, bs, _, c, C, _, _, _, hsj, rfl⟩, hX, rfl, hS⟩)
end Go.Proofs.YthiakdmhpfkjbaaGreatDoor
