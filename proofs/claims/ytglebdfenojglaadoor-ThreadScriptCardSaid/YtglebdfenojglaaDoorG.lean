import Derived.Test.YtglebdfenojglaaDoorProg
import Derived.Test.YtglebdfenojglaaDoorAs
import Derived.Test.YtglebdfenojglaaDoorSK11
set_option linter.unusedVariables false
set_option linter.unusedSimpArgs false
set_option maxRecDepth 4000
namespace Go.Proofs.YtglebdfenojglaaDoor
open Go Go.SK
theorem mixed : Tryd.prog.follows .mixedOrders = true := by kernel_rfl
theorem isfn5 : IsFn Tryd.prog 5 := fun args w => by kernel_rfl
theorem isfn6 : IsFn Tryd.prog 6 := fun args w => by kernel_rfl
theorem isfn7 : IsFn Tryd.prog 7 := fun args w => by kernel_rfl
theorem isfn8 : IsFn Tryd.prog 8 := fun args w => by kernel_rfl
theorem isfn9 : IsFn Tryd.prog 9 := fun args w => by kernel_rfl
theorem isfn10 : IsFn Tryd.prog 10 := fun args w => by kernel_rfl
theorem isfn11 : IsFn Tryd.prog 11 := fun args w => by kernel_rfl
theorem isfn12 : IsFn Tryd.prog 12 := fun args w => by kernel_rfl
theorem isfn13 : IsFn Tryd.prog 13 := fun args w => by kernel_rfl
theorem isfn14 : IsFn Tryd.prog 14 := fun args w => by kernel_rfl
theorem isfn15 : IsFn Tryd.prog 15 := fun args w => by kernel_rfl
theorem isfn16 : IsFn Tryd.prog 16 := fun args w => by kernel_rfl
theorem isfn17 : IsFn Tryd.prog 17 := fun args w => by kernel_rfl
theorem isfn18 : IsFn Tryd.prog 18 := fun args w => by kernel_rfl
theorem isfn19 : IsFn Tryd.prog 19 := fun args w => by kernel_rfl
theorem isfn20 : IsFn Tryd.prog 20 := fun args w => by kernel_rfl
theorem isfn21 : IsFn Tryd.prog 21 := fun args w => by kernel_rfl
theorem isfn22 : IsFn Tryd.prog 22 := fun args w => by kernel_rfl
theorem isfn23 : IsFn Tryd.prog 23 := fun args w => by kernel_rfl
theorem isfn24 : IsFn Tryd.prog 24 := fun args w => by kernel_rfl
theorem isfn25 : IsFn Tryd.prog 25 := fun args w => by kernel_rfl
theorem isfn26 : IsFn Tryd.prog 26 := fun args w => by kernel_rfl
theorem isfn31 : IsFn Tryd.prog 31 := fun args w => by kernel_rfl
theorem isfn32 : IsFn Tryd.prog 32 := fun args w => by kernel_rfl
theorem isfn33 : IsFn Tryd.prog 33 := fun args w => by kernel_rfl
theorem isfn34 : IsFn Tryd.prog 34 := fun args w => by kernel_rfl
theorem isfn38 : IsFn Tryd.prog 38 := fun args w => by kernel_rfl
noncomputable def tb : List TI := [
  ⟨3, Tryd.t3.desc, 1, 8, .int .i64 0⟩,
  ⟨5, Tryd.t5.desc, 1, 1, .int .u8 0⟩,
  ⟨22, Tryd.t22.desc, 1, 24, .slice none 0 0⟩,
  ⟨25, Tryd.t25.desc, 1, 24, .slice none 0 0⟩,
  ⟨26, Tryd.t26.desc, 1, 24, .slice none 0 0⟩,
  ⟨27, Tryd.t26.desc, 1, 24, .slice none 0 0⟩,
  ⟨29, Tryd.t28.desc, 2, 48, .agg #[.slice none 0 0, .slice none 0 0]⟩,
  ⟨32, Tryd.t31.desc, 2, 48, .agg #[.slice none 0 0, .slice none 0 0]⟩,
  ⟨33, Tryd.t33.desc, 1, 1, .int .i8 0⟩,
  ⟨35, Tryd.t34.desc, 3, 16, .agg #[.int .u8 0, .int .i8 0, .int .i64 0]⟩,
  ⟨39, Tryd.t3.desc, 1, 8, .int .i64 0⟩,
  ⟨41, Tryd.t40.desc, 3, 24, .agg #[.int .i64 0, .int .i64 0, .int .i64 0]⟩,
  ⟨45, Tryd.t44.desc, 1, 16, .nilIface⟩,
  ⟨53, Tryd.t3.desc, 1, 8, .int .i64 0⟩,
  ⟨61, Tryd.t61.desc, 1, 8, .pointer none⟩]
theorem tbOk : TabOk Tryd.prog tb := ⟨
  ⟨by kernel_rfl, Tryd.t3, by kernel_rfl, by kernel_rfl, by kernel_rfl, by kernel_rfl⟩,
  ⟨by kernel_rfl, Tryd.t5, by kernel_rfl, by kernel_rfl, by kernel_rfl, by kernel_rfl⟩,
  ⟨by kernel_rfl, Tryd.t22, by kernel_rfl, by kernel_rfl, by kernel_rfl, by kernel_rfl⟩,
  ⟨by kernel_rfl, Tryd.t25, by kernel_rfl, by kernel_rfl, by kernel_rfl, by kernel_rfl⟩,
  ⟨by kernel_rfl, Tryd.t26, by kernel_rfl, by kernel_rfl, by kernel_rfl, by kernel_rfl⟩,
  ⟨by kernel_rfl, Tryd.t27, by kernel_rfl, by kernel_rfl, by kernel_rfl, by kernel_rfl⟩,
  ⟨by kernel_rfl, Tryd.t29, by kernel_rfl, by kernel_rfl, by kernel_rfl, by kernel_rfl⟩,
  ⟨by kernel_rfl, Tryd.t32, by kernel_rfl, by kernel_rfl, by kernel_rfl, by kernel_rfl⟩,
  ⟨by kernel_rfl, Tryd.t33, by kernel_rfl, by kernel_rfl, by kernel_rfl, by kernel_rfl⟩,
  ⟨by kernel_rfl, Tryd.t35, by kernel_rfl, by kernel_rfl, by kernel_rfl, by kernel_rfl⟩,
  ⟨by kernel_rfl, Tryd.t39, by kernel_rfl, by kernel_rfl, by kernel_rfl, by kernel_rfl⟩,
  ⟨by kernel_rfl, Tryd.t41, by kernel_rfl, by kernel_rfl, by kernel_rfl, by kernel_rfl⟩,
  ⟨by kernel_rfl, Tryd.t45, by kernel_rfl, by kernel_rfl, by kernel_rfl, by kernel_rfl⟩,
  ⟨by kernel_rfl, Tryd.t53, by kernel_rfl, by kernel_rfl, by kernel_rfl, by kernel_rfl⟩,
  ⟨by kernel_rfl, Tryd.t61, by kernel_rfl, by kernel_rfl, by kernel_rfl, by kernel_rfl⟩,
  trivial⟩
theorem clone25 {w0 w : World} {F : List Chunk} (hS : St w0 w F) {v : Value} {l : List Int} (hr : RdS w0 F 1 v l.length (rows encI l)) (hb : l.length * 8 ≤ 140737488355328) :
    Ret Tryd.prog 25 #[v] w (fun v w' => ∃ C, Own 3 1 v l.length (rows encI l) C ∧ St w0 w' (C :: F)) := by
  rcases hr.cases hS with ⟨rfl, h0, h1⟩ | ⟨b, off, c, rfl, hmc, hcx⟩
  · obtain rfl := List.eq_nil_of_length_eq_zero h0
    refine enter (vs := [.slice none 0 0]) 8 Tryd.func25 rfl rfl (by simp) ?_; intro a hA
    refine wp_seq ?_
    refine wp_region_lit ?_
    refine st_run tbOk 1 hA (e' := (2, .slice none 0 0) :: _) rfl ?_; clear hA; intro a hA
    refine wpList_nil ?_
    replace hA := hA.sel [0] (e' := [(0, .slice none 0 0)]) rfl
    refine xt_norm ?_
    refine wp_seq ?_
    refine wp_seq ?_
    refine wp_region_lit ?_
    refine st_run tbOk 2 hA (e' := (4, .bool true) :: (3, .slice none 0 0) :: _) rfl ?_; clear hA; intro a hA
    refine wpList_nil ?_
    replace hA := hA.sel [0, 4] (e' := [(0, .slice none 0 0), (4, .bool true)]) rfl
    refine xt_norm ?_
    refine cd_cond_t hA rfl ?_
    refine wp_seq ?_
    refine wp_region_lit ?_
    refine st_run tbOk 1 hA (e' := (2, .slice none 0 0) :: _) rfl ?_; clear hA; intro a hA
    refine wpList_nil ?_
    replace hA := hA.sel [2] (e' := [(2, .slice none 0 0)]) rfl
    refine xt_norm ?_
    refine wp_ret (xt_ret ?_)
    refine ret1 (fn := Tryd.f25) hA rfl rfl ?_
    exact ⟨[], Own.nil _ _, hS.nil⟩
  · refine enter (vs := [.slice (some ⟨b, off, none⟩) l.length c]) 8 Tryd.func25 rfl rfl (by simp) ?_; intro a hA
    refine wp_seq ?_
    refine wp_region_lit ?_
    refine st_run tbOk 1 hA (e' := (2, .slice none 0 0) :: _) rfl ?_; clear hA; intro a hA
    refine wpList_nil ?_
    replace hA := hA.sel [0] (e' := [(0, .slice (some ⟨b, off, none⟩) l.length c)]) rfl
    refine xt_norm ?_
    refine wp_seq ?_
    refine wp_seq ?_
    refine wp_region_lit ?_
    refine st_run tbOk 2 hA (e' := (4, .bool false) :: (3, .slice (some ⟨b, off, none⟩) l.length c) :: _) rfl ?_; clear hA; intro a hA
    refine wpList_nil ?_
    replace hA := hA.sel [0, 4] (e' := [(0, .slice (some ⟨b, off, none⟩) l.length c), (4, .bool false)]) rfl
    refine xt_norm ?_
    refine cd_cond_f hA rfl ?_
    refine wp_skip ?_
    refine xt_norm ?_
    refine wp_seq ?_
    refine wp_region_lit ?_
    refine st_buildSlice tbOk hA hS [] rfl rfl rfl rfl rfl (by decide) (by kernel_rfl) rfl rfl (by decide) ?_; clear hA hS; intro b1 w2 a hS hA
    refine st_run tbOk 1 hA (e' := (6, .slice (some ⟨b, off, none⟩) l.length c) :: _) rfl ?_; clear hA; intro a hA
    refine st_append tbOk hA (m := 0) (q := l.length) (xs := rows encI ([] : List Int)) (news := rows encI l) rfl rfl rfl rfl rfl rfl rfl rfl (by decide) (Own.full (T := 3) (size := 1) (g := b1) (m := 0) rfl (by decide)) hS (hr _ (hS.tail 1 rfl)) (rows_one encI_ok _) (maxLen_le (by omega)) (by show (0 + l.length) * 8 ≤ 140737488355328; omega) rfl rfl (by decide) ?_
    clear hA hS; intro v3 w4 C5 a hO5 hS hA
    replace hO5 := Own.app (l := ([] : List Int)) (l2 := l) hO5
    replace hO5 : Own 3 1 v3 l.length (rows encI l) C5 := hO5
    obtain ⟨A6, c7, rfl, hmc7, hxc7⟩ := hO5.open'
    refine st_run tbOk 1 hA (e' := (2, .slice A6 l.length c7) :: _) rfl ?_; clear hA; intro a hA
    refine wpList_nil ?_
    replace hA := hA.sel [2] (e' := [(2, .slice A6 l.length c7)]) rfl
    refine xt_norm ?_
    refine wp_ret ?_
    refine ret1 (fn := Tryd.f25) hA rfl rfl ?_
    exact ⟨C5, hO5, hS⟩

theorem index32 {w0 w : World} {F : List Chunk} (hS : St w0 w F) {v : Value} {l : List Int} (hr : RdS w0 F 1 v l.length (rows encI l)) (x : Int) :
    Ret Tryd.prog 32 #[v, .int .i64 x] w (fun v w' => v = .int .i64 (idx (fun y => y == x) l) ∧ St w0 w' F) := by
  obtain ⟨A, c, rfl, hmc, hcx⟩ := (hr w hS).open'
  refine enter (vs := [.slice A l.length c, .int .i64 x]) 19 Tryd.func32 rfl rfl (by simp) ?_; intro a hA
  refine wp_seq ?_
  refine wp_region_lit ?_
  refine st_run tbOk 1 hA (e' := (4, .int .i64 0) :: _) rfl ?_; clear hA; intro a hA
  refine wpList_nil ?_
  replace hA := hA.sel [0, 1] (e' := [(0, .slice A l.length c), (1, .int .i64 x)]) rfl
  refine xt_norm ?_
  refine wp_seq ?_
  refine wp_seq ?_
  refine wp_region_lit ?_
  refine st_run tbOk 3 hA (e' := (8, .int .i64 0) :: (7, .int .i64 ((l.length : Nat) : Int)) :: (6, .slice A l.length c) :: _) rfl ?_; clear hA; intro a hA
  refine wpList_nil ?_
  replace hA := hA.sel [0, 1, 7, 8] (e' := [(0, .slice A l.length c), (1, .int .i64 x), (7, .int .i64 ((l.length : Nat) : Int)), (8, .int .i64 0)]) rfl
  refine xt_norm ?_
  refine wp_block ?_
  refine wp_loop_ghost (fun m a w => ∃ (k : Nat), m = l.length - k ∧ Has a 19 [(0, .slice A l.length c), (1, .int .i64 x), (7, .int .i64 ((l.length : Nat) : Int)), (8, .int .i64 ((k : Nat) : Int))] ∧ St w0 w (F) ∧ (k ≤ l.length) ∧ (∀ (i : Nat) (y : Int), i < k → l[i]? = some y → ¬ y = x)) (l.length - 0)
    ⟨0, rfl, (hA.sel [0, 1, 7, 8] rfl), hS, Nat.zero_le _, fun i y hi => absurd hi (by omega)⟩ ?_
  clear hA hS; rintro m0 a w1 ⟨k, rfl, hA, hS, hk, hb⟩
  refine wp_seq ?_
  refine wp_region_lit ?_
  refine st_run tbOk 1 hA (e' := (9, .bool (decide (((k : Nat) : Int) < ((l.length : Nat) : Int)))) :: _) rfl ?_; clear hA; intro a hA
  refine wpList_nil ?_
  refine xt_norm ?_
  refine wp_seq ?_
  by_cases hc2 : ((k : Nat) : Int) < ((l.length : Nat) : Int)
  · first
    | (exfalso; omega)
    | (replace hA := hA.rw 9 (v' := .bool true) rfl (vb_true hc2)
       refine cd_cond_t hA rfl ?_
       refine wp_skip ?_
       refine xt_norm ?_
       refine wp_seq ?_
       refine wp_block ?_
       refine wp_seq ?_
       refine wp_region_lit ?_
       refine st_run tbOk 2 hA (e' := (5, .int .i64 ((k : Nat) : Int)) :: (10, .int .i64 ((k : Nat) : Int)) :: _) rfl ?_; clear hA; intro a hA
       refine wpList_nil ?_
       replace hA := hA.sel [0, 1, 5, 7, 8] (e' := [(0, .slice A l.length c), (1, .int .i64 x), (5, .int .i64 ((k : Nat) : Int)), (7, .int .i64 ((l.length : Nat) : Int)), (8, .int .i64 ((k : Nat) : Int))]) rfl
       refine xt_norm ?_
       refine wp_seq ?_
       refine wp_region_lit ?_
       refine st_run tbOk 3 hA (e' := (13, .int .i64 ((k : Nat) : Int)) :: (12, .slice A l.length c) :: (11, .int .i64 x) :: _) rfl ?_; clear hA; intro a hA
       obtain ⟨b3, o4, rfl⟩ := (hr _ hS).isSome (k := k) (by omega)
       refine st_val hA rfl rfl (by decide) (rn_indexAddr tbOk hA k (o4 + k) rfl rfl rfl rfl rfl rfl (by rfl) (by omega) (by first | rfl | simp [Nat.mul_one, Nat.zero_add] | omega)) ?_; clear hA; intro a hA
       obtain ⟨x5, hx5⟩ := get_ex (l := l) (k := k) (by omega)
       refine st_val hA rfl rfl (by decide) (rn_load tbOk hA rfl rfl rfl rfl ((hr _ hS).elem0 (k := k) encI_ok hx5 rfl)) ?_; clear hA; intro a hA
       refine st_run tbOk 1 hA (e' := (16, .bool (x == x5)) :: _) rfl ?_; clear hA; intro a hA
       refine wpList_nil ?_
       replace hA := hA.sel [0, 1, 5, 7, 8, 16] (e' := [(0, .slice (some ⟨b3, o4, none⟩) l.length c), (1, .int .i64 x), (5, .int .i64 ((k : Nat) : Int)), (7, .int .i64 ((l.length : Nat) : Int)), (8, .int .i64 ((k : Nat) : Int)), (16, .bool (x == x5))]) rfl
       refine xt_norm ?_
       by_cases hc6 : x = x5
       · first
         | (exfalso; omega)
         | (replace hA := hA.rw 16 (v' := .bool true) rfl (vb_eq_t hc6)
            refine cd_cond_t hA rfl ?_
            refine wp_seq ?_
            refine wp_region_lit ?_
            refine st_run tbOk 2 hA (e' := (4, .int .i64 ((k : Nat) : Int)) :: (17, .int .i64 ((k : Nat) : Int)) :: _) rfl ?_; clear hA; intro a hA
            refine wpList_nil ?_
            replace hA := hA.sel [4] (e' := [(4, .int .i64 ((k : Nat) : Int))]) rfl
            refine xt_norm ?_
            refine wp_ret (xb_ret (xt_ret (xt_ret (xb_ret (xt_ret ?_)))))
            refine ret1 (fn := Tryd.f32) hA rfl rfl ?_
            exact ⟨vint (idx_some (p := fun y => y == x) hx5 (beq_iff_eq.2 (by omega)) (fun i y hi hy => beq_eq_false_iff_ne.2 (hb i y hi hy))).symm, hS⟩)
       · first
         | (exfalso; omega)
         | (replace hA := hA.rw 16 (v' := .bool false) rfl (vb_eq_f hc6)
            refine cd_cond_f hA rfl ?_
            refine wp_skip ?_
            refine xb_norm ?_
            refine xt_norm ?_
            refine wp_region_lit ?_
            refine st_run tbOk 1 hA (e' := (18, .int .i64 (IntKind.i64.wrap (((k : Nat) : Int) + 1))) :: _) rfl ?_; clear hA; intro a hA
            replace hA := hA.rw 18 (v' := .int .i64 ((k + 1 : Nat) : Int)) rfl (wr64 (by omega) (by omega) (by omega))
            refine st_run tbOk 1 hA (e' := (8, .int .i64 ((k + 1 : Nat) : Int)) :: _) rfl ?_; clear hA; intro a hA
            refine wpList_nil ?_
            replace hA := hA.sel [0, 1, 7, 8] (e' := [(0, .slice (some ⟨b3, o4, none⟩) l.length c), (1, .int .i64 x), (7, .int .i64 ((l.length : Nat) : Int)), (8, .int .i64 ((k + 1 : Nat) : Int))]) rfl
            exact lp_next _ (by omega) ⟨(k + 1), rfl, (hA.sel [0, 1, 7, 8] rfl), hS, by omega, fun i y hi hy => (Nat.lt_succ_iff_lt_or_eq.1 hi).elim (fun h => hb i y h hy) (fun h => by subst h; rw [hx5] at hy; injection hy with hy; subst hy; omega)⟩))
  · first
    | (exfalso; omega)
    | (replace hA := hA.rw 9 (v' := .bool false) rfl (vb_false hc2)
       refine cd_cond_f hA rfl ?_
       refine wp_exit ?_
       refine xt_exit ?_
       refine xt_exit ?_
       refine cd_exit_eq ?_
       refine xt_norm ?_
       refine wp_seq ?_
       refine wp_region_lit ?_
       refine st_run tbOk 1 hA (e' := (4, .int .i64 (-1)) :: _) rfl ?_; clear hA; intro a hA
       refine wpList_nil ?_
       replace hA := hA.sel [4] (e' := [(4, .int .i64 (-1))]) rfl
       refine xt_norm ?_
       refine wp_ret ?_
       refine ret1 (fn := Tryd.f32) hA rfl rfl ?_
       exact ⟨vint (idx_none (fun i y hy => beq_eq_false_iff_ne.2 (hb i y (by have := (List.getElem?_eq_some_iff.1 hy).1; omega) hy))).symm, hS⟩)

theorem contains24 {w0 w : World} {F : List Chunk} (hS : St w0 w F) {v : Value} {l : List Int} (hr : RdS w0 F 1 v l.length (rows encI l)) (x : Int) :
    Ret Tryd.prog 24 #[v, .int .i64 x] w (fun v w' => v = .bool (l.any (fun y => y == x)) ∧ St w0 w' F) := by
  obtain ⟨A, c, rfl, hmc, hcx⟩ := (hr w hS).open'
  refine enter (vs := [.slice A l.length c, .int .i64 x]) 9 Tryd.func24 rfl rfl (by simp) ?_; intro a hA
  refine wp_seq ?_
  refine wp_region_lit ?_
  refine st_run tbOk 1 hA (e' := (4, .bool false) :: _) rfl ?_; clear hA; intro a hA
  refine wpList_nil ?_
  replace hA := hA.sel [0, 1] (e' := [(0, .slice A l.length c), (1, .int .i64 x)]) rfl
  refine xt_norm ?_
  refine wp_seq ?_
  refine wp_region_lit ?_
  refine st_run tbOk 2 hA (e' := (6, .int .i64 x) :: (5, .slice A l.length c) :: _) rfl ?_; clear hA; intro a hA
  refine st_call0 hA rfl rfl rfl isfn32 rfl rfl (by decide) (index32 hS (l := l) (fun w' h => (hr _ h)) x) ?_
  clear hA hS; rintro v w1 a ⟨rfl, hS⟩ hA
  refine st_run tbOk 2 hA (e' := (4, .bool (decide (idx (fun y => y == x) l ≥ 0))) :: (8, .bool (decide (idx (fun y => y == x) l ≥ 0))) :: _) rfl ?_; clear hA; intro a hA
  refine wpList_nil ?_
  replace hA := hA.sel [4] (e' := [(4, .bool (decide (idx (fun y => y == x) l ≥ 0)))]) rfl
  refine xt_norm ?_
  refine wp_ret ?_
  refine ret1 (fn := Tryd.f24) hA rfl rfl ?_
  exact ⟨vbool (idx_any _ _), hS⟩

theorem indexFunc38 {w0 w : World} {F : List Chunk} (hS : St w0 w F) {v : Value} {l : List Int} (hr : RdS w0 F 1 v l.length (rows encI l)) {g : Nat} {first cap : Array Value} {p : Int → Bool} (hg : IsFn Tryd.prog g) (hp : Pred Tryd.prog w0 F g first cap (fun x => .int .i64 x) p) :
    Ret Tryd.prog 38 #[v, .func (.func g) first cap] w (fun v w' => v = .int .i64 (idx p l) ∧ St w0 w' F) := by
  obtain ⟨A, c, rfl, hmc, hcx⟩ := (hr w hS).open'
  refine enter (vs := [.slice A l.length c, .func (.func g) first cap]) 19 Tryd.func38 rfl rfl (by simp) ?_; intro a hA
  refine wp_seq ?_
  refine wp_region_lit ?_
  refine st_run tbOk 1 hA (e' := (4, .int .i64 0) :: _) rfl ?_; clear hA; intro a hA
  refine wpList_nil ?_
  replace hA := hA.sel [0, 1] (e' := [(0, .slice A l.length c), (1, .func (.func g) first cap)]) rfl
  refine xt_norm ?_
  refine wp_seq ?_
  refine wp_seq ?_
  refine wp_region_lit ?_
  refine st_run tbOk 3 hA (e' := (8, .int .i64 0) :: (7, .int .i64 ((l.length : Nat) : Int)) :: (6, .slice A l.length c) :: _) rfl ?_; clear hA; intro a hA
  refine wpList_nil ?_
  replace hA := hA.sel [0, 1, 7, 8] (e' := [(0, .slice A l.length c), (1, .func (.func g) first cap), (7, .int .i64 ((l.length : Nat) : Int)), (8, .int .i64 0)]) rfl
  refine xt_norm ?_
  refine wp_block ?_
  refine wp_loop_ghost (fun m a w => ∃ (k : Nat), m = l.length - k ∧ Has a 19 [(0, .slice A l.length c), (1, .func (.func g) first cap), (7, .int .i64 ((l.length : Nat) : Int)), (8, .int .i64 ((k : Nat) : Int))] ∧ St w0 w (F) ∧ (k ≤ l.length) ∧ (∀ (i : Nat) (y : Int), i < k → l[i]? = some y → p y = false)) (l.length - 0)
    ⟨0, rfl, (hA.sel [0, 1, 7, 8] rfl), hS, Nat.zero_le _, fun i y hi => absurd hi (by omega)⟩ ?_
  clear hA hS; rintro m0 a w1 ⟨k, rfl, hA, hS, hk, hb⟩
  refine wp_seq ?_
  refine wp_region_lit ?_
  refine st_run tbOk 1 hA (e' := (9, .bool (decide (((k : Nat) : Int) < ((l.length : Nat) : Int)))) :: _) rfl ?_; clear hA; intro a hA
  refine wpList_nil ?_
  refine xt_norm ?_
  refine wp_seq ?_
  by_cases hc2 : ((k : Nat) : Int) < ((l.length : Nat) : Int)
  · first
    | (exfalso; omega)
    | (replace hA := hA.rw 9 (v' := .bool true) rfl (vb_true hc2)
       refine cd_cond_t hA rfl ?_
       refine wp_skip ?_
       refine xt_norm ?_
       refine wp_seq ?_
       refine wp_block ?_
       refine wp_seq ?_
       refine wp_region_lit ?_
       refine st_run tbOk 2 hA (e' := (5, .int .i64 ((k : Nat) : Int)) :: (10, .int .i64 ((k : Nat) : Int)) :: _) rfl ?_; clear hA; intro a hA
       refine wpList_nil ?_
       replace hA := hA.sel [0, 1, 5, 7, 8] (e' := [(0, .slice A l.length c), (1, .func (.func g) first cap), (5, .int .i64 ((k : Nat) : Int)), (7, .int .i64 ((l.length : Nat) : Int)), (8, .int .i64 ((k : Nat) : Int))]) rfl
       refine xt_norm ?_
       refine wp_seq ?_
       refine wp_region_lit ?_
       refine st_run tbOk 3 hA (e' := (13, .int .i64 ((k : Nat) : Int)) :: (12, .slice A l.length c) :: (11, .func (.func g) first cap) :: _) rfl ?_; clear hA; intro a hA
       obtain ⟨b3, o4, rfl⟩ := (hr _ hS).isSome (k := k) (by omega)
       refine st_val hA rfl rfl (by decide) (rn_indexAddr tbOk hA k (o4 + k) rfl rfl rfl rfl rfl rfl (by rfl) (by omega) (by first | rfl | simp [Nat.mul_one, Nat.zero_add] | omega)) ?_; clear hA; intro a hA
       obtain ⟨x5, hx5⟩ := get_ex (l := l) (k := k) (by omega)
       refine st_val hA rfl rfl (by decide) (rn_load tbOk hA rfl rfl rfl rfl ((hr _ hS).elem0 (k := k) encI_ok hx5 rfl)) ?_; clear hA; intro a hA
       refine st_call hA rfl rfl rfl rfl hg rfl rfl (by decide) (hp _ x5 hS) ?_
       clear hA; rintro v w6 a ⟨rfl, hS'⟩ hA; replace hS : St w0 w6 (F) := hS.trans hS'
       refine wpList_nil ?_
       replace hA := hA.sel [0, 1, 5, 7, 8, 16] (e' := [(0, .slice (some ⟨b3, o4, none⟩) l.length c), (1, .func (.func g) first cap), (5, .int .i64 ((k : Nat) : Int)), (7, .int .i64 ((l.length : Nat) : Int)), (8, .int .i64 ((k : Nat) : Int)), (16, .bool (p x5))]) rfl
       refine xt_norm ?_
       by_cases hpx : (p x5) = true
       · first
         | (exfalso; omega)
         | (replace hA := hA.rw 16 (v' := .bool true) rfl (vb_t hpx)
            refine cd_cond_t hA rfl ?_
            refine wp_seq ?_
            refine wp_region_lit ?_
            refine st_run tbOk 2 hA (e' := (4, .int .i64 ((k : Nat) : Int)) :: (17, .int .i64 ((k : Nat) : Int)) :: _) rfl ?_; clear hA; intro a hA
            refine wpList_nil ?_
            replace hA := hA.sel [4] (e' := [(4, .int .i64 ((k : Nat) : Int))]) rfl
            refine xt_norm ?_
            refine wp_ret (xb_ret (xt_ret (xt_ret (xb_ret (xt_ret ?_)))))
            refine ret1 (fn := Tryd.f38) hA rfl rfl ?_
            exact ⟨vint (idx_some hx5 hpx (fun i y hi hy => hb i y hi hy)).symm, hS⟩)
       · first
         | (exfalso; omega)
         | (replace hA := hA.rw 16 (v' := .bool false) rfl (vb_f hpx)
            refine cd_cond_f hA rfl ?_
            refine wp_skip ?_
            refine xb_norm ?_
            refine xt_norm ?_
            refine wp_region_lit ?_
            refine st_run tbOk 1 hA (e' := (18, .int .i64 (IntKind.i64.wrap (((k : Nat) : Int) + 1))) :: _) rfl ?_; clear hA; intro a hA
            replace hA := hA.rw 18 (v' := .int .i64 ((k + 1 : Nat) : Int)) rfl (wr64 (by omega) (by omega) (by omega))
            refine st_run tbOk 1 hA (e' := (8, .int .i64 ((k + 1 : Nat) : Int)) :: _) rfl ?_; clear hA; intro a hA
            refine wpList_nil ?_
            replace hA := hA.sel [0, 1, 7, 8] (e' := [(0, .slice (some ⟨b3, o4, none⟩) l.length c), (1, .func (.func g) first cap), (7, .int .i64 ((l.length : Nat) : Int)), (8, .int .i64 ((k + 1 : Nat) : Int))]) rfl
            exact lp_next _ (by omega) ⟨(k + 1), rfl, (hA.sel [0, 1, 7, 8] rfl), hS, by omega, fun i y hi hy => (Nat.lt_succ_iff_lt_or_eq.1 hi).elim (fun h => hb i y h hy) (fun h => by subst h; rw [hx5] at hy; injection hy with hy; subst hy; simpa using hpx)⟩))
  · first
    | (exfalso; omega)
    | (replace hA := hA.rw 9 (v' := .bool false) rfl (vb_false hc2)
       refine cd_cond_f hA rfl ?_
       refine wp_exit ?_
       refine xt_exit ?_
       refine xt_exit ?_
       refine cd_exit_eq ?_
       refine xt_norm ?_
       refine wp_seq ?_
       refine wp_region_lit ?_
       refine st_run tbOk 1 hA (e' := (4, .int .i64 (-1)) :: _) rfl ?_; clear hA; intro a hA
       refine wpList_nil ?_
       replace hA := hA.sel [4] (e' := [(4, .int .i64 (-1))]) rfl
       refine xt_norm ?_
       refine wp_ret ?_
       refine ret1 (fn := Tryd.f38) hA rfl rfl ?_
       exact ⟨vint (idx_none (fun i y hy => hb i y (by have := (List.getElem?_eq_some_iff.1 hy).1; omega) hy)).symm, hS⟩)

theorem deleteFunc33 {w0 w : World} {F : List Chunk} {C : Chunk} (hS : St w0 w (C :: F)) {v : Value} {l : List Int} (hO : Own 3 1 v l.length (rows encI l) C) {g : Nat} {first cap : Array Value} {p : Int → Bool} (hg : IsFn Tryd.prog g) (hp : Pred Tryd.prog w0 F g first cap (fun x => .int .i64 x) p) :
    Ret Tryd.prog 33 #[v, .func (.func g) first cap] w (fun v w' => ∃ C', Own 3 1 v (l.filter (fun x => !p x)).length (rows encI (l.filter (fun x => !p x))) C' ∧ St w0 w' (C' :: F)) := by
  obtain ⟨A, c, rfl, hmc, hcx⟩ := hO.open'
  refine enter (vs := [.slice A l.length c, .func (.func g) first cap]) 42 Tryd.func33 rfl rfl (by simp) ?_; intro a hA
  refine wp_seq ?_
  refine wp_region_lit ?_
  refine st_run tbOk 1 hA (e' := (4, .slice none 0 0) :: _) rfl ?_; clear hA; intro a hA
  refine wpList_nil ?_
  replace hA := hA.sel [0, 1] (e' := [(0, .slice A l.length c), (1, .func (.func g) first cap)]) rfl
  refine xt_norm ?_
  refine wp_seq ?_
  refine wp_region_lit ?_
  refine st_run tbOk 2 hA (e' := (9, .func (.func g) first cap) :: (8, .slice A l.length c) :: _) rfl ?_; clear hA; intro a hA
  refine st_call0 hA rfl rfl rfl isfn38 rfl rfl (by decide) (indexFunc38 hS (l := l) (RdS.own hO 0 rfl) hg hp.cons) ?_
  clear hA hS; rintro v w1 a ⟨rfl, hS⟩ hA
  refine st_run tbOk 1 hA (e' := (5, .int .i64 (idx p l)) :: _) rfl ?_; clear hA; intro a hA
  refine wpList_nil ?_
  replace hA := hA.sel [0, 1, 5] (e' := [(0, .slice A l.length c), (1, .func (.func g) first cap), (5, .int .i64 (idx p l))]) rfl
  refine xt_norm ?_
  refine wp_seq ?_
  refine wp_seq ?_
  rcases idx_cases p l with ⟨hi, hf⟩ | ⟨k, x0, hi, hx0, hpx0, hb⟩
  · replace hA := hA.rw 5 (v' := .int .i64 (-1)) rfl (by rw [hi])
    refine wp_region_lit ?_
    refine st_run tbOk 2 hA (e' := (12, .bool true) :: (11, .int .i64 (-1)) :: _) rfl ?_; clear hA; intro a hA
    refine wpList_nil ?_
    replace hA := hA.sel [0, 1, 5, 12] (e' := [(0, .slice A l.length c), (1, .func (.func g) first cap), (5, .int .i64 (-1)), (12, .bool true)]) rfl
    refine xt_norm ?_
    refine cd_cond_t hA rfl ?_
    refine wp_seq ?_
    refine wp_region_lit ?_
    refine st_run tbOk 2 hA (e' := (4, .slice A l.length c) :: (13, .slice A l.length c) :: _) rfl ?_; clear hA; intro a hA
    refine wpList_nil ?_
    replace hA := hA.sel [4] (e' := [(4, .slice A l.length c)]) rfl
    refine xt_norm ?_
    refine wp_ret (xt_ret ?_)
    refine ret1 (fn := Tryd.f33) hA rfl rfl ?_
    have hfl : l.filter (fun x => !p x) = l := List.filter_eq_self.2 (fun y hy => by obtain ⟨i, hi⟩ := List.mem_iff_getElem?.1 hy; simp [hf i y hi])
    exact ⟨C, by rw [hfl]; exact hO, hS⟩
  · replace hA := hA.rw 5 (v' := .int .i64 ((k : Nat) : Int)) rfl (by rw [hi])
    have hkl := (List.getElem?_eq_some_iff.1 hx0).1
    refine wp_region_lit ?_
    refine st_run tbOk 2 hA (e' := (12, .bool (((k : Nat) : Int) == (-1))) :: (11, .int .i64 ((k : Nat) : Int)) :: _) rfl ?_; clear hA; intro a hA
    refine wpList_nil ?_
    replace hA := hA.sel [0, 1, 5, 12] (e' := [(0, .slice A l.length c), (1, .func (.func g) first cap), (5, .int .i64 ((k : Nat) : Int)), (12, .bool (((k : Nat) : Int) == (-1)))]) rfl
    refine xt_norm ?_
    by_cases hc2 : ((k : Nat) : Int) = (-1)
    · first
      | (exfalso; omega)
      | (replace hA := hA.rw 12 (v' := .bool true) rfl (vb_eq_t hc2)
         refine cd_cond_t hA rfl ?_
         refine wp_seq ?_
         refine wp_region_lit ?_
         refine st_run tbOk 2 hA (e' := (4, .slice A l.length c) :: (13, .slice A l.length c) :: _) rfl ?_; clear hA; intro a hA
         refine wpList_nil ?_
         replace hA := hA.sel [4] (e' := [(4, .slice A l.length c)]) rfl
         refine xt_norm ?_
         refine wp_ret (xt_ret ?_)
         refine ret1 (fn := Tryd.f33) hA rfl rfl ?_
         have hfl : l.filter (fun x => !p x) = l := List.filter_eq_self.2 (fun y hy => by obtain ⟨i, hi⟩ := List.mem_iff_getElem?.1 hy; simp [hf i y hi])
         exact ⟨C, by rw [hfl]; exact hO, hS⟩)
    · first
      | (exfalso; omega)
      | (replace hA := hA.rw 12 (v' := .bool false) rfl (vb_eq_f hc2)
         refine cd_cond_f hA rfl ?_
         refine wp_skip ?_
         refine xt_norm ?_
         refine wp_seq ?_
         refine wp_seq ?_
         refine wp_region_lit ?_
         refine st_run tbOk 2 hA (e' := (15, .int .i64 (IntKind.i64.wrap (((k : Nat) : Int) + 1))) :: (14, .int .i64 ((k : Nat) : Int)) :: _) rfl ?_; clear hA; intro a hA
         replace hA := hA.rw 15 (v' := .int .i64 ((k + 1 : Nat) : Int)) rfl (wr64 (by omega) (by omega) (by omega))
         refine st_run tbOk 1 hA (e' := (6, .int .i64 ((k + 1 : Nat) : Int)) :: _) rfl ?_; clear hA; intro a hA
         refine wpList_nil ?_
         replace hA := hA.sel [0, 1, 5, 6] (e' := [(0, .slice A l.length c), (1, .func (.func g) first cap), (5, .int .i64 ((k : Nat) : Int)), (6, .int .i64 ((k + 1 : Nat) : Int))]) rfl
         refine xt_norm ?_
         refine wp_block ?_
         have hk1 : (kept p l (k + 1)).length = k := by rw [kept_step hx0, if_pos hpx0, kept_first hb, List.length_take]; omega
         replace hA := hA.rw 5 (v' := .int .i64 (((kept p l (k + 1)).length : Nat) : Int)) rfl (by rw [hk1])
         refine wp_loop_ghost (fun m a w => ∃ (j : Nat) (C : Chunk), m = l.length - j ∧ Has a 42 [(0, .slice A l.length c), (1, .func (.func g) first cap), (5, .int .i64 (((kept p l j).length : Nat) : Int)), (6, .int .i64 ((j : Nat) : Int))] ∧ St w0 w (C :: F) ∧ (k < j) ∧ (j ≤ l.length) ∧ (Own 3 1 (.slice A l.length c) l.length (rows encI (mid p l j)) C)) (l.length - (k + 1))
           ⟨(k + 1), C, rfl, (hA.sel [0, 1, 5, 6] rfl), hS, by omega, by omega, by rw [mid_no hx0 hpx0, mid_first (by omega) hb]; exact hO⟩ ?_
         clear hA hS; rintro m0 a w3 ⟨j, C, rfl, hA, hS, hj1, hj, hO⟩
         have hkj := kept_le p l j
         refine wp_seq ?_
         refine wp_seq ?_
         refine wp_region_lit ?_
         refine st_run tbOk 4 hA (e' := (19, .bool (decide (((j : Nat) : Int) < ((l.length : Nat) : Int)))) :: (18, .int .i64 ((l.length : Nat) : Int)) :: (17, .slice A l.length c) :: (16, .int .i64 ((j : Nat) : Int)) :: _) rfl ?_; clear hA; intro a hA
         refine wpList_nil ?_
         replace hA := hA.sel [0, 1, 5, 6, 19] (e' := [(0, .slice A l.length c), (1, .func (.func g) first cap), (5, .int .i64 (((kept p l j).length : Nat) : Int)), (6, .int .i64 ((j : Nat) : Int)), (19, .bool (decide (((j : Nat) : Int) < ((l.length : Nat) : Int))))]) rfl
         refine xt_norm ?_
         by_cases hc4 : ((j : Nat) : Int) < ((l.length : Nat) : Int)
         · first
           | (exfalso; omega)
           | (replace hA := hA.rw 19 (v' := .bool true) rfl (vb_true hc4)
              refine cd_cond_t hA rfl ?_
              refine wp_skip ?_
              refine xt_norm ?_
              refine wp_seq ?_
              refine wp_block ?_
              refine wp_seq ?_
              refine wp_region_lit ?_
              refine st_run tbOk 2 hA (e' := (23, .int .i64 ((j : Nat) : Int)) :: (22, .slice A l.length c) :: _) rfl ?_; clear hA; intro a hA
              obtain ⟨b5, o6, rfl⟩ := hO.isSome (k := j) (by omega)
              refine st_val hA rfl rfl (by decide) (rn_indexAddr tbOk hA j (o6 + j) rfl rfl rfl rfl rfl rfl (by rfl) (by omega) (by first | rfl | simp [Nat.mul_one, Nat.zero_add] | omega)) ?_; clear hA; intro a hA
              obtain ⟨x7, hx7⟩ := get_ex (l := l) (k := j) (by omega)
              have gx7 := (mid_at (p := p) (l := l) (Nat.le_refl j)).trans hx7
              refine st_val hA rfl rfl (by decide) (rn_load tbOk hA rfl rfl rfl rfl ((hO.rd (hS.own_ 0 rfl)).elem0 (k := j) encI_ok gx7 rfl)) ?_; clear hA; intro a hA
              refine st_run tbOk 1 hA (e' := (7, .int .i64 x7) :: _) rfl ?_; clear hA; intro a hA
              refine wpList_nil ?_
              replace hA := hA.sel [0, 1, 5, 6, 7] (e' := [(0, .slice (some ⟨b5, o6, none⟩) l.length c), (1, .func (.func g) first cap), (5, .int .i64 (((kept p l j).length : Nat) : Int)), (6, .int .i64 ((j : Nat) : Int)), (7, .int .i64 x7)]) rfl
              refine xt_norm ?_
              refine wp_seq ?_
              refine wp_region_lit ?_
              refine st_run tbOk 2 hA (e' := (27, .int .i64 x7) :: (26, .func (.func g) first cap) :: _) rfl ?_; clear hA; intro a hA
              refine st_call hA rfl rfl rfl rfl hg rfl rfl (by decide) (hp _ x7 (hS.tail 1 rfl)) ?_
              clear hA; rintro v w8 a ⟨rfl, hS'⟩ hA; replace hS : St w0 w8 (C :: F) := hS.trans hS'
              by_cases hpx : (p x7) = true
              · first
                | (exfalso; omega)
                | (replace hA := hA.rw 28 (v' := .bool true) rfl (vb_t hpx)
                   refine st_run tbOk 1 hA (e' := (29, .bool false) :: _) rfl ?_; clear hA; intro a hA
                   refine wpList_nil ?_
                   replace hA := hA.sel [0, 1, 5, 6, 7, 29] (e' := [(0, .slice (some ⟨b5, o6, none⟩) l.length c), (1, .func (.func g) first cap), (5, .int .i64 (((kept p l j).length : Nat) : Int)), (6, .int .i64 ((j : Nat) : Int)), (7, .int .i64 x7), (29, .bool false)]) rfl
                   refine xt_norm ?_
                   refine cd_cond_f hA rfl ?_
                   refine wp_skip ?_
                   refine xb_norm ?_
                   refine xt_norm ?_
                   refine wp_region_lit ?_
                   refine st_run tbOk 2 hA (e' := (21, .int .i64 (IntKind.i64.wrap (((j : Nat) : Int) + 1))) :: (20, .int .i64 ((j : Nat) : Int)) :: _) rfl ?_; clear hA; intro a hA
                   replace hA := hA.rw 21 (v' := .int .i64 ((j + 1 : Nat) : Int)) rfl (wr64 (by omega) (by omega) (by omega))
                   refine st_run tbOk 1 hA (e' := (6, .int .i64 ((j + 1 : Nat) : Int)) :: _) rfl ?_; clear hA; intro a hA
                   refine wpList_nil ?_
                   replace hA := hA.sel [0, 1, 5, 6] (e' := [(0, .slice (some ⟨b5, o6, none⟩) l.length c), (1, .func (.func g) first cap), (5, .int .i64 (((kept p l j).length : Nat) : Int)), (6, .int .i64 ((j + 1 : Nat) : Int))]) rfl
                   have h2 : (kept p l (j + 1)).length = (kept p l j).length := by rw [kept_step hx7, if_pos (by simpa using hpx)]
                   have h3 : Own 3 1 (.slice (some ⟨b5, o6, none⟩) l.length c) l.length (rows encI (mid p l (j + 1))) C := by rw [mid_no hx7 (by simpa using hpx)]; exact hO
                   replace hA := hA.rw 5 (v' := .int .i64 (((kept p l (j + 1)).length : Nat) : Int)) rfl (by rw [h2])
                   exact lp_next _ (by omega) ⟨(j + 1), C, rfl, (hA.sel [0, 1, 5, 6] rfl), hS, by omega, by omega, h3⟩)
              · first
                | (exfalso; omega)
                | (replace hA := hA.rw 28 (v' := .bool false) rfl (vb_f hpx)
                   refine st_run tbOk 1 hA (e' := (29, .bool true) :: _) rfl ?_; clear hA; intro a hA
                   refine wpList_nil ?_
                   replace hA := hA.sel [0, 1, 5, 6, 7, 29] (e' := [(0, .slice (some ⟨b5, o6, none⟩) l.length c), (1, .func (.func g) first cap), (5, .int .i64 (((kept p l j).length : Nat) : Int)), (6, .int .i64 ((j : Nat) : Int)), (7, .int .i64 x7), (29, .bool true)]) rfl
                   refine xt_norm ?_
                   refine cd_cond_t hA rfl ?_
                   refine wp_seq ?_
                   refine wp_region_lit ?_
                   refine st_run tbOk 3 hA (e' := (32, .int .i64 x7) :: (31, .int .i64 (((kept p l j).length : Nat) : Int)) :: (30, .slice (some ⟨b5, o6, none⟩) l.length c) :: _) rfl ?_; clear hA; intro a hA
                   refine st_val hA rfl rfl (by decide) (rn_indexAddr tbOk hA ((kept p l j).length) (o6 + ((kept p l j).length)) rfl rfl rfl rfl rfl rfl (by rfl) (by omega) (by first | rfl | simp [Nat.mul_one, Nat.zero_add] | omega)) ?_; clear hA; intro a hA
                   refine st_store_own tbOk hA hO hS (((kept p l j).length)) (o6 + ((kept p l j).length)) [.int .i64 x7] (rows encI ((mid p l j).set (kept p l j).length x7)) rfl rfl rfl rfl (by rfl) rfl rfl (by intro u hu; rw [List.mem_singleton.1 hu]; rfl) (by rw [rows_length encI_ok, mid_length]; have := kept_le p l j; simp only [List.length_cons, List.length_nil]; omega) (by have := rows_set encI_ok (x := x7) (l := mid p l j) (k := (kept p l j).length) (by rw [mid_length]; have := kept_le p l j; omega); rw [Nat.mul_one] at this; exact this) rfl rfl ?_; clear hS; intro w9 C10 hO10 hS
                   refine wpList_nil ?_
                   replace hA := hA.sel [0, 1, 5, 6] (e' := [(0, .slice (some ⟨b5, o6, none⟩) l.length c), (1, .func (.func g) first cap), (5, .int .i64 (((kept p l j).length : Nat) : Int)), (6, .int .i64 ((j : Nat) : Int))]) rfl
                   refine xt_norm ?_
                   refine wp_region_lit ?_
                   refine st_run tbOk 2 hA (e' := (35, .int .i64 (IntKind.i64.wrap ((((kept p l j).length : Nat) : Int) + 1))) :: (34, .int .i64 (((kept p l j).length : Nat) : Int)) :: _) rfl ?_; clear hA; intro a hA
                   replace hA := hA.rw 35 (v' := .int .i64 ((((kept p l j).length) + 1 : Nat) : Int)) rfl (wr64 (by omega) (by omega) (by omega))
                   refine st_run tbOk 1 hA (e' := (5, .int .i64 ((((kept p l j).length) + 1 : Nat) : Int)) :: _) rfl ?_; clear hA; intro a hA
                   refine wpList_nil ?_
                   replace hA := hA.sel [0, 1, 5, 6] (e' := [(0, .slice (some ⟨b5, o6, none⟩) l.length c), (1, .func (.func g) first cap), (5, .int .i64 ((((kept p l j).length) + 1 : Nat) : Int)), (6, .int .i64 ((j : Nat) : Int))]) rfl
                   refine xb_norm ?_
                   refine xt_norm ?_
                   refine wp_region_lit ?_
                   refine st_run tbOk 2 hA (e' := (21, .int .i64 (IntKind.i64.wrap (((j : Nat) : Int) + 1))) :: (20, .int .i64 ((j : Nat) : Int)) :: _) rfl ?_; clear hA; intro a hA
                   replace hA := hA.rw 21 (v' := .int .i64 ((j + 1 : Nat) : Int)) rfl (wr64 (by omega) (by omega) (by omega))
                   refine st_run tbOk 1 hA (e' := (6, .int .i64 ((j + 1 : Nat) : Int)) :: _) rfl ?_; clear hA; intro a hA
                   refine wpList_nil ?_
                   replace hA := hA.sel [0, 1, 5, 6] (e' := [(0, .slice (some ⟨b5, o6, none⟩) l.length c), (1, .func (.func g) first cap), (5, .int .i64 ((((kept p l j).length) + 1 : Nat) : Int)), (6, .int .i64 ((j + 1 : Nat) : Int))]) rfl
                   have h2 : (kept p l (j + 1)).length = (kept p l j).length + 1 := by rw [kept_step hx7, if_neg (by simpa using hpx), List.length_append]; rfl
                   have h3 : Own 3 1 (.slice (some ⟨b5, o6, none⟩) l.length c) l.length (rows encI (mid p l (j + 1))) C10 := by rw [mid_yes hx7 (by simpa using hpx)]; exact hO10
                   replace hA := hA.rw 5 (v' := .int .i64 (((kept p l (j + 1)).length : Nat) : Int)) rfl (by rw [h2])
                   exact lp_next _ (by omega) ⟨(j + 1), C10, rfl, (hA.sel [0, 1, 5, 6] rfl), hS, by omega, by omega, h3⟩))
         · first
           | (exfalso; omega)
           | (replace hA := hA.rw 19 (v' := .bool false) rfl (vb_false hc4)
              refine cd_cond_f hA rfl ?_
              refine wp_exit ?_
              refine xt_exit ?_
              refine xt_exit ?_
              refine cd_exit_eq ?_
              refine xt_norm ?_
              refine wp_seq ?_
              refine wp_region_lit ?_
              refine st_run tbOk 2 hA (e' := (37, .int .i64 (((kept p l j).length : Nat) : Int)) :: (36, .slice A l.length c) :: _) rfl ?_; clear hA; intro a hA
              refine st_val hA rfl rfl (by decide) (rn_slice_l tbOk hA ((kept p l j).length) rfl rfl rfl rfl rfl rfl (by rfl) (by omega)) ?_; clear hA; intro a hA
              refine st_clear tbOk hA (h := (kept p l j).length) (old := l.length) (c := c) rfl rfl rfl rfl rfl rfl (fun u hu => List.all_eq_true.1 (by rfl) u hu) (hO.head (kept p l j).length (by omega)) hS (by omega) (by omega) rfl rfl ?_; clear hS; intro w11 C12 hO12 hS
              obtain rfl : j = l.length := by omega
              rw [rows_take encI_ok, mid_head, kept_all] at hO12
              have e1 : (kept p l l.length).length = (l.filter (fun x => !p x)).length := by rw [kept_all]
              refine wpList_nil ?_
              replace hA := hA.sel [0, 5] (e' := [(0, .slice A l.length c), (5, .int .i64 (((kept p l l.length).length : Nat) : Int))]) rfl
              refine xt_norm ?_
              refine wp_seq ?_
              refine wp_region_lit ?_
              refine st_run tbOk 2 hA (e' := (40, .int .i64 (((kept p l l.length).length : Nat) : Int)) :: (39, .slice A l.length c) :: _) rfl ?_; clear hA; intro a hA
              refine st_val hA rfl rfl (by decide) (rn_slice_h tbOk hA ((kept p l l.length).length) rfl rfl rfl rfl rfl rfl (by rfl) (by omega)) ?_; clear hA; intro a hA
              refine st_run tbOk 1 hA (e' := (4, .slice A ((kept p l l.length).length) c) :: _) rfl ?_; clear hA; intro a hA
              refine wpList_nil ?_
              replace hA := hA.sel [4] (e' := [(4, .slice A ((kept p l l.length).length) c)]) rfl
              refine xt_norm ?_
              refine wp_ret ?_
              refine ret1 (fn := Tryd.f33) hA rfl rfl ?_
              exact ⟨_, (e1 ▸ hO12), hS⟩))

theorem delete31 {w0 w : World} {F : List Chunk} {C : Chunk} (hS : St w0 w (C :: F)) {v : Value} {l : List Int} (hO : Own 3 1 v l.length (rows encI l) C) (i j : Nat) (hij : i ≤ j) (hj : j ≤ l.length) :
    Ret Tryd.prog 31 #[v, .int .i64 ((i : Nat) : Int), .int .i64 ((j : Nat) : Int)] w (fun v w' => ∃ C', Own 3 1 v (l.take i ++ l.drop j).length (rows encI (l.take i ++ l.drop j)) C' ∧ St w0 w' (C' :: F)) := by
  obtain ⟨A, c, rfl, hmc, hcx⟩ := hO.open'
  refine enter (vs := [.slice A l.length c, .int .i64 ((i : Nat) : Int), .int .i64 ((j : Nat) : Int)]) 33 Tryd.func31 rfl rfl (by simp) ?_; intro a hA
  refine wp_seq ?_
  refine wp_region_lit ?_
  refine st_run tbOk 1 hA (e' := (6, .slice none 0 0) :: _) rfl ?_; clear hA; intro a hA
  refine wpList_nil ?_
  replace hA := hA.sel [0, 1, 2] (e' := [(0, .slice A l.length c), (1, .int .i64 ((i : Nat) : Int)), (2, .int .i64 ((j : Nat) : Int))]) rfl
  refine xt_norm ?_
  refine wp_seq ?_
  refine wp_region_lit ?_
  refine st_run tbOk 5 hA (e' := (12, .int .i64 ((l.length : Nat) : Int)) :: (11, .slice A l.length c) :: (10, .int .i64 ((j : Nat) : Int)) :: (9, .int .i64 ((i : Nat) : Int)) :: (8, .slice A l.length c) :: _) rfl ?_; clear hA; intro a hA
  refine st_val hA rfl rfl (by decide) (rn_slice_lhm tbOk hA i j l.length rfl rfl rfl rfl rfl rfl rfl rfl (by rfl) (by rfl) (by rfl) (by omega) (by omega) (by omega)) ?_; clear hA; intro a hA
  refine wpList_nil ?_
  replace hA := hA.sel [0, 1, 2] (e' := [(0, .slice A l.length c), (1, .int .i64 ((i : Nat) : Int)), (2, .int .i64 ((j : Nat) : Int))]) rfl
  refine xt_norm ?_
  refine wp_seq ?_
  refine wp_seq ?_
  refine wp_region_lit ?_
  refine st_run tbOk 3 hA (e' := (16, .bool (((i : Nat) : Int) == ((j : Nat) : Int))) :: (15, .int .i64 ((j : Nat) : Int)) :: (14, .int .i64 ((i : Nat) : Int)) :: _) rfl ?_; clear hA; intro a hA
  refine wpList_nil ?_
  replace hA := hA.sel [0, 1, 2, 16] (e' := [(0, .slice A l.length c), (1, .int .i64 ((i : Nat) : Int)), (2, .int .i64 ((j : Nat) : Int)), (16, .bool (((i : Nat) : Int) == ((j : Nat) : Int)))]) rfl
  refine xt_norm ?_
  by_cases hc1 : ((i : Nat) : Int) = ((j : Nat) : Int)
  · first
    | (exfalso; omega)
    | (replace hA := hA.rw 16 (v' := .bool true) rfl (vb_eq_t hc1)
       refine cd_cond_t hA rfl ?_
       refine wp_seq ?_
       refine wp_region_lit ?_
       refine st_run tbOk 2 hA (e' := (6, .slice A l.length c) :: (17, .slice A l.length c) :: _) rfl ?_; clear hA; intro a hA
       refine wpList_nil ?_
       replace hA := hA.sel [6] (e' := [(6, .slice A l.length c)]) rfl
       refine xt_norm ?_
       refine wp_ret (xt_ret ?_)
       refine ret1 (fn := Tryd.f31) hA rfl rfl ?_
       have e0 : l.take i ++ l.drop j = l := by rw [show j = i by omega, List.take_append_drop]
       exact ⟨C, by rw [e0]; exact hO, hS⟩)
  · first
    | (exfalso; omega)
    | (replace hA := hA.rw 16 (v' := .bool false) rfl (vb_eq_f hc1)
       refine cd_cond_f hA rfl ?_
       refine wp_skip ?_
       refine xt_norm ?_
       refine wp_seq ?_
       refine wp_region_lit ?_
       refine st_run tbOk 3 hA (e' := (7, .int .i64 ((l.length : Nat) : Int)) :: (19, .int .i64 ((l.length : Nat) : Int)) :: (18, .slice A l.length c) :: _) rfl ?_; clear hA; intro a hA
       refine wpList_nil ?_
       replace hA := hA.sel [0, 1, 2, 7] (e' := [(0, .slice A l.length c), (1, .int .i64 ((i : Nat) : Int)), (2, .int .i64 ((j : Nat) : Int)), (7, .int .i64 ((l.length : Nat) : Int))]) rfl
       refine xt_norm ?_
       refine wp_seq ?_
       refine wp_draw (fun w' => St w0 w' (F)) [] [(0, true), (1, true), (2, true), (3, true), (4, true), (5, true), (6, false), (7, true)] mixed (by kernel_rfl) (by rintro c a w ⟨_, _, h, _⟩; cases h) (by rfl) (by kernel_rfl) ?_
       replace hS := hS.drew
       refine dr_run tbOk 2 hA (hS.tail 1 rfl) (e' := (21, .int .i64 ((i : Nat) : Int)) :: (20, .slice A l.length c) :: _) rfl ?_; clear hA; intro a hA
       refine dr_y hA rfl rfl rfl (by decide) (hS.tail 1 rfl) (fun w' hS' => rn_slice_h tbOk hA i rfl rfl rfl rfl rfl rfl (by rfl) (by omega)) ?_; clear hA; intro a hA
       refine dr_run tbOk 2 hA (hS.tail 1 rfl) (e' := (24, .int .i64 ((j : Nat) : Int)) :: (23, .slice A l.length c) :: _) rfl ?_; clear hA; intro a hA
       refine dr_y hA rfl rfl rfl (by decide) (hS.tail 1 rfl) (fun w' hS' => rn_slice_l tbOk hA j rfl rfl rfl rfl rfl rfl (by rfl) (by omega)) ?_; clear hA; intro a hA
       refine dr_b (o := _) rfl ?_
       refine st_append_rm tbOk hA (m := i) (q := ((l.take l.length).drop j).length) (c := c) (xs := (rows encI l).take (i * 1)) (news := rows encI ((l.take l.length).drop j)) rfl rfl rfl rfl rfl rfl rfl (hO.head i (by omega)) hS ((hO.rd (hS.own_ 0 rfl)).rslv encI_ok j l.length c (by omega) (by omega) (by omega) (by omega)) (rows_one encI_ok _) (by simp; omega) rfl rfl (by decide) ?_
       clear hA hS; intro w2 C3 a hO3 hS hA
       have e1 : i + ((l.take l.length).drop j).length = (l.take i ++ l.drop j).length := by simp; omega
       have e2 : (rows encI l).take (i * 1) ++ rows encI ((l.take l.length).drop j) = rows encI (l.take i ++ l.drop j) := by rw [rows_take encI_ok, rows_append, List.take_length]
       rw [e2, e1] at hO3
       rw [e1] at hA
       have e3 : (l.take i ++ l.drop j).length ≤ l.length := by simp; omega
       refine dr_nil (.inr (hS.tail 1 rfl)) ?_
       refine dr_run tbOk 1 hA (hS.tail 1 rfl) (e' := (0, .slice A ((l.take i ++ l.drop j).length) c) :: _) rfl ?_; clear hA; intro a hA
       refine dr_end ?_
       replace hA := hA.sel [0, 7] (e' := [(0, .slice A ((l.take i ++ l.drop j).length) c), (7, .int .i64 ((l.length : Nat) : Int))]) rfl
       refine xt_norm ?_
       refine wp_seq ?_
       refine wp_region_lit ?_
       refine st_run tbOk 4 hA (e' := (30, .int .i64 ((l.length : Nat) : Int)) :: (29, .int .i64 (((l.take i ++ l.drop j).length : Nat) : Int)) :: (28, .slice A ((l.take i ++ l.drop j).length) c) :: (27, .slice A ((l.take i ++ l.drop j).length) c) :: _) rfl ?_; clear hA; intro a hA
       refine st_val hA rfl rfl (by decide) (rn_slice_lh tbOk hA ((l.take i ++ l.drop j).length) l.length rfl rfl rfl rfl rfl rfl rfl (by rfl) (by rfl) (by omega) (by omega)) ?_; clear hA; intro a hA
       refine st_clear tbOk hA (h := (l.take i ++ l.drop j).length) (old := l.length) (c := c) rfl rfl rfl rfl rfl rfl (fun u hu => List.all_eq_true.1 (by rfl) u hu) hO3 hS (by omega) (by omega) rfl rfl ?_; clear hS; intro w4 C5 hO5 hS
       refine wpList_nil ?_
       replace hA := hA.sel [0] (e' := [(0, .slice A ((l.take i ++ l.drop j).length) c)]) rfl
       refine xt_norm ?_
       refine wp_seq ?_
       refine wp_region_lit ?_
       refine st_run tbOk 2 hA (e' := (6, .slice A ((l.take i ++ l.drop j).length) c) :: (32, .slice A ((l.take i ++ l.drop j).length) c) :: _) rfl ?_; clear hA; intro a hA
       refine wpList_nil ?_
       replace hA := hA.sel [6] (e' := [(6, .slice A ((l.take i ++ l.drop j).length) c)]) rfl
       refine xt_norm ?_
       refine wp_ret ?_
       refine ret1 (fn := Tryd.f31) hA rfl rfl ?_
       exact ⟨_, hO5, hS⟩)

theorem push_ok20 {w0 w : World} {F : List Chunk} (hS : St w0 w F) {v : Value} {l : List Int} (hr : RdS w0 F 1 v l.length (rows encI l)) (x : Int) (h1 : l.any (fun y => y == x) = false) (h2 : l.length < 64) :
    Ret Tryd.prog 20 #[v, .int .i64 x] w (fun v w' => ∃ v1 C, v = .tuple #[v1, .nilIface] ∧ Own 3 1 v1 (l ++ [x]).length (rows encI (l ++ [x])) C ∧ St w0 w' (C :: F)) := by
  obtain ⟨A, c, rfl, hmc, hcx⟩ := (hr w hS).open'
  refine enter (vs := [.slice A l.length c, .int .i64 x]) 21 Tryd.func20 rfl rfl (by simp) ?_; intro a hA
  refine wp_seq ?_
  refine wp_region_lit ?_
  refine st_run tbOk 2 hA (e' := (5, .nilIface) :: (4, .slice none 0 0) :: _) rfl ?_; clear hA; intro a hA
  refine wpList_nil ?_
  replace hA := hA.sel [0, 1] (e' := [(0, .slice A l.length c), (1, .int .i64 x)]) rfl
  refine xt_norm ?_
  refine wp_seq ?_
  refine wp_block ?_
  refine wp_seq ?_
  refine wp_region_lit ?_
  refine st_run tbOk 2 hA (e' := (8, .int .i64 x) :: (7, .slice A l.length c) :: _) rfl ?_; clear hA; intro a hA
  refine st_call0 hA rfl rfl rfl isfn24 rfl rfl (by decide) (contains24 hS (l := l) (fun w' h => (hr _ h)) x) ?_
  clear hA hS; rintro v w1 a ⟨rfl, hS⟩ hA
  refine st_run tbOk 1 hA (e' := (6, .bool (l.any (fun y => y == x))) :: _) rfl ?_; clear hA; intro a hA
  refine wpList_nil ?_
  replace hA := hA.sel [0, 1, 6] (e' := [(0, .slice A l.length c), (1, .int .i64 x), (6, .bool (l.any (fun y => y == x)))]) rfl
  refine xt_norm ?_
  have hc2 : ¬ ((l.any (fun y => y == x)) = true) := (by rw [h1]; decide)
  replace hA := hA.rw 6 (v' := .bool false) rfl (vb_f hc2)
  refine cd_cond_f hA rfl ?_
  refine wp_seq ?_
  refine wp_region_lit ?_
  refine st_run tbOk 4 hA (e' := (11, .bool (decide (((l.length : Nat) : Int) ≥ 64))) :: (14, .bool (decide (((l.length : Nat) : Int) ≥ 64))) :: (13, .int .i64 ((l.length : Nat) : Int)) :: (12, .slice A l.length c) :: _) rfl ?_; clear hA; intro a hA
  refine wpList_nil ?_
  replace hA := hA.sel [0, 1, 11] (e' := [(0, .slice A l.length c), (1, .int .i64 x), (11, .bool (decide (((l.length : Nat) : Int) ≥ 64)))]) rfl
  refine xt_norm ?_
  have hc3 : ¬ (((l.length : Nat) : Int) ≥ 64) := by omega
  replace hA := hA.rw 11 (v' := .bool false) rfl (vb_false hc3)
  refine cd_cond_f hA rfl ?_
  refine wp_skip ?_
  refine xb_norm ?_
  refine xt_norm ?_
  refine wp_seq ?_
  refine wp_region_lit ?_
  refine st_run tbOk 1 hA (e' := (16, .slice A l.length c) :: _) rfl ?_; clear hA; intro a hA
  refine st_call0 hA rfl rfl rfl isfn25 rfl rfl (by decide) (clone25 hS (l := l) (fun w' h => (hr _ h)) (by omega)) ?_
  clear hA hS; rintro v4 w5 a ⟨C6, hO6, hS⟩ hA
  obtain ⟨A7, c8, rfl, hmc8, hxc8⟩ := hO6.open'
  refine st_run tbOk 1 hA (e' := (18, .int .i64 x) :: _) rfl ?_; clear hA; intro a hA
  refine st_buildSlice tbOk hA hS [.int .i64 x] rfl rfl rfl rfl rfl (by decide) (by kernel_rfl) rfl rfl (by decide) ?_; clear hA hS; intro b9 w10 a hS hA
  replace hS := hS.front 1 (C := C6) (L' := [(b9, rowO [.int .i64 x] 3)] :: F) rfl rfl
  refine st_append tbOk hA (m := l.length) (q := 1) (xs := rows encI l) (news := rows encI ([x] : List Int)) rfl rfl rfl rfl rfl rfl rfl rfl (by decide) hO6 hS ((Own.full (T := 3) (size := 1) (g := b9) (m := 1) rfl (by decide)).rd (hS.own_ 1 rfl)) (rows_one encI_ok _) (maxLen_le (by omega)) (by show (l.length + 1) * 8 ≤ 140737488355328; omega) rfl rfl (by decide) ?_
  clear hA hS; intro v11 w12 C13 a hO13 hS hA
  replace hO13 := Own.app (l := l) (l2 := ([x] : List Int)) hO13
  obtain ⟨A14, c15, rfl, hmc15, hxc15⟩ := hO13.open'
  refine st_run tbOk 2 hA (e' := (5, .nilIface) :: (4, .slice A14 ((l ++ ([x] : List Int)).length) c15) :: _) rfl ?_; clear hA; intro a hA
  refine wpList_nil ?_
  replace hA := hA.sel [4, 5] (e' := [(4, .slice A14 ((l ++ ([x] : List Int)).length) c15), (5, .nilIface)]) rfl
  refine xt_norm ?_
  refine wp_ret ?_
  refine ret2 (fn := Tryd.f20) hA rfl rfl rfl ?_
  replace hS := hS.drop2
  exact ⟨_, C13, rfl, hO13, hS⟩

theorem push_dup20 {w0 w : World} {F : List Chunk} (hS : St w0 w F) {v : Value} {l : List Int} (hr : RdS w0 F 1 v l.length (rows encI l)) (x : Int) (h1 : l.any (fun y => y == x) = true) :
    Ret Tryd.prog 20 #[v, .int .i64 x] w (fun v w' => v = .tuple #[.slice none 0 0, .iface 53 (.int .i64 11)] ∧ St w0 w' F) := by
  obtain ⟨A, c, rfl, hmc, hcx⟩ := (hr w hS).open'
  refine enter (vs := [.slice A l.length c, .int .i64 x]) 21 Tryd.func20 rfl rfl (by simp) ?_; intro a hA
  refine wp_seq ?_
  refine wp_region_lit ?_
  refine st_run tbOk 2 hA (e' := (5, .nilIface) :: (4, .slice none 0 0) :: _) rfl ?_; clear hA; intro a hA
  refine wpList_nil ?_
  replace hA := hA.sel [0, 1] (e' := [(0, .slice A l.length c), (1, .int .i64 x)]) rfl
  refine xt_norm ?_
  refine wp_seq ?_
  refine wp_block ?_
  refine wp_seq ?_
  refine wp_region_lit ?_
  refine st_run tbOk 2 hA (e' := (8, .int .i64 x) :: (7, .slice A l.length c) :: _) rfl ?_; clear hA; intro a hA
  refine st_call0 hA rfl rfl rfl isfn24 rfl rfl (by decide) (contains24 hS (l := l) (fun w' h => (hr _ h)) x) ?_
  clear hA hS; rintro v w1 a ⟨rfl, hS⟩ hA
  refine st_run tbOk 1 hA (e' := (6, .bool (l.any (fun y => y == x))) :: _) rfl ?_; clear hA; intro a hA
  refine wpList_nil ?_
  replace hA := hA.sel [0, 1, 6] (e' := [(0, .slice A l.length c), (1, .int .i64 x), (6, .bool (l.any (fun y => y == x)))]) rfl
  refine xt_norm ?_
  have hc2 : (l.any (fun y => y == x)) = true := h1
  replace hA := hA.rw 6 (v' := .bool true) rfl (vb_t hc2)
  refine cd_cond_t hA rfl ?_
  refine wp_seq ?_
  refine wp_region_lit ?_
  refine st_run tbOk 3 hA (e' := (5, .iface 53 (.int .i64 11)) :: (4, .slice none 0 0) :: (10, .iface 53 (.int .i64 11)) :: _) rfl ?_; clear hA; intro a hA
  refine wpList_nil ?_
  replace hA := hA.sel [4, 5] (e' := [(4, .slice none 0 0), (5, .iface 53 (.int .i64 11))]) rfl
  refine xt_norm ?_
  refine wp_ret (xb_ret (xt_ret ?_))
  refine ret2 (fn := Tryd.f20) hA rfl rfl rfl ?_
  exact ⟨rfl, hS⟩

theorem push_full20 {w0 w : World} {F : List Chunk} (hS : St w0 w F) {v : Value} {l : List Int} (hr : RdS w0 F 1 v l.length (rows encI l)) (x : Int) (h1 : l.any (fun y => y == x) = false) (h2 : 64 ≤ l.length) (hb : l.length * 8 ≤ 140737488355328) :
    Ret Tryd.prog 20 #[v, .int .i64 x] w (fun v w' => v = .tuple #[.slice none 0 0, .iface 53 (.int .i64 5)] ∧ St w0 w' F) := by
  obtain ⟨A, c, rfl, hmc, hcx⟩ := (hr w hS).open'
  refine enter (vs := [.slice A l.length c, .int .i64 x]) 21 Tryd.func20 rfl rfl (by simp) ?_; intro a hA
  refine wp_seq ?_
  refine wp_region_lit ?_
  refine st_run tbOk 2 hA (e' := (5, .nilIface) :: (4, .slice none 0 0) :: _) rfl ?_; clear hA; intro a hA
  refine wpList_nil ?_
  replace hA := hA.sel [0, 1] (e' := [(0, .slice A l.length c), (1, .int .i64 x)]) rfl
  refine xt_norm ?_
  refine wp_seq ?_
  refine wp_block ?_
  refine wp_seq ?_
  refine wp_region_lit ?_
  refine st_run tbOk 2 hA (e' := (8, .int .i64 x) :: (7, .slice A l.length c) :: _) rfl ?_; clear hA; intro a hA
  refine st_call0 hA rfl rfl rfl isfn24 rfl rfl (by decide) (contains24 hS (l := l) (fun w' h => (hr _ h)) x) ?_
  clear hA hS; rintro v w1 a ⟨rfl, hS⟩ hA
  refine st_run tbOk 1 hA (e' := (6, .bool (l.any (fun y => y == x))) :: _) rfl ?_; clear hA; intro a hA
  refine wpList_nil ?_
  replace hA := hA.sel [0, 1, 6] (e' := [(0, .slice A l.length c), (1, .int .i64 x), (6, .bool (l.any (fun y => y == x)))]) rfl
  refine xt_norm ?_
  have hc2 : ¬ ((l.any (fun y => y == x)) = true) := (by rw [h1]; decide)
  replace hA := hA.rw 6 (v' := .bool false) rfl (vb_f hc2)
  refine cd_cond_f hA rfl ?_
  refine wp_seq ?_
  refine wp_region_lit ?_
  refine st_run tbOk 4 hA (e' := (11, .bool (decide (((l.length : Nat) : Int) ≥ 64))) :: (14, .bool (decide (((l.length : Nat) : Int) ≥ 64))) :: (13, .int .i64 ((l.length : Nat) : Int)) :: (12, .slice A l.length c) :: _) rfl ?_; clear hA; intro a hA
  refine wpList_nil ?_
  replace hA := hA.sel [0, 1, 11] (e' := [(0, .slice A l.length c), (1, .int .i64 x), (11, .bool (decide (((l.length : Nat) : Int) ≥ 64)))]) rfl
  refine xt_norm ?_
  have hc3 : ((l.length : Nat) : Int) ≥ 64 := by omega
  replace hA := hA.rw 11 (v' := .bool true) rfl (vb_true hc3)
  refine cd_cond_t hA rfl ?_
  refine wp_seq ?_
  refine wp_region_lit ?_
  refine st_run tbOk 3 hA (e' := (5, .iface 53 (.int .i64 5)) :: (4, .slice none 0 0) :: (15, .iface 53 (.int .i64 5)) :: _) rfl ?_; clear hA; intro a hA
  refine wpList_nil ?_
  replace hA := hA.sel [4, 5] (e' := [(4, .slice none 0 0), (5, .iface 53 (.int .i64 5))]) rfl
  refine xt_norm ?_
  refine wp_ret (xb_ret (xt_ret ?_))
  refine ret2 (fn := Tryd.f20) hA rfl rfl rfl ?_
  exact ⟨rfl, hS⟩

theorem turn_round (p : Int) (n : Nat) (h : 0 < n) : ∃ k : Nat, k < n ∧ (k : Int) = p % (n : Int) ∧ (p.tmod n < 0 → p.tmod n + n = (k : Int)) ∧ (¬ p.tmod n < 0 → p.tmod n = (k : Int)) := by
  have h0 : (0 : Int) < n := by omega
  have h1 := Int.emod_nonneg p (b := (n : Int)) (by omega)
  have h2 := Int.emod_lt_of_pos p h0
  refine ⟨(p % (n : Int)).toNat, by omega, by omega, fun hn => ?_, fun hn => ?_⟩
  · have h3 := Int.tmod_lt_of_pos p h0
    have h4 := Int.tmod_add_mul_tdiv p n
    have h5 : (p.tmod n + n) % (n : Int) = p % n := by
      rw [Int.add_emod_right]
      conv => rhs; rw [← h4, Int.add_mul_emod_self_left]
    have h6 : -(n : Int) < p.tmod n := by
      have := Int.lt_tmod_of_pos p h0
      omega
    rw [Int.emod_eq_of_lt (by omega) (by omega)] at h5
    omega
  · have h3 := Int.tmod_lt_of_pos p h0
    have h4 := Int.tmod_add_mul_tdiv p n
    have h5 : (p.tmod n) % (n : Int) = p % n := by
      conv => rhs; rw [← h4, Int.add_mul_emod_self_left]
    rw [Int.emod_eq_of_lt (by omega) (by omega)] at h5
    omega

theorem take_ok23 {w0 w : World} {F : List Chunk} (hS : St w0 w F) {v : Value} {l : List Int} (hr : RdS w0 F 1 v l.length (rows encI l)) (p : Int) (h0 : 0 < l.length) (hb : l.length * 8 ≤ 140737488355328) :
    Ret Tryd.prog 23 #[v, .int .i64 p] w (fun v w' => ∃ (k : Nat) (x : Int) (v1 : Value) (C : Chunk), k < l.length ∧ (k : Int) = p % (l.length : Int) ∧ l[k]? = some x ∧ v = .tuple #[.int .i64 x, v1, .nilIface] ∧ Own 3 1 v1 (l.take k ++ l.drop (k + 1)).length (rows encI (l.take k ++ l.drop (k + 1))) C ∧ St w0 w' (C :: F)) := by
  obtain ⟨A, c, rfl, hmc, hcx⟩ := (hr w hS).open'
  obtain ⟨k, hk, hkp, hk1, hk2⟩ := turn_round p l.length h0
  obtain ⟨x, hx⟩ := get_ex (l := l) (k := k) hk
  refine enter (vs := [.slice A l.length c, .int .i64 p]) 32 Tryd.func23 rfl rfl (by simp) ?_; intro a hA
  refine wp_seq ?_
  refine wp_region_lit ?_
  refine st_run tbOk 3 hA (e' := (6, .nilIface) :: (5, .slice none 0 0) :: (4, .int .i64 0) :: _) rfl ?_; clear hA; intro a hA
  refine wpList_nil ?_
  replace hA := hA.sel [0, 1] (e' := [(0, .slice A l.length c), (1, .int .i64 p)]) rfl
  refine xt_norm ?_
  refine wp_seq ?_
  refine wp_seq ?_
  refine wp_region_lit ?_
  refine st_run tbOk 3 hA (e' := (10, .bool (((l.length : Nat) : Int) == 0)) :: (9, .int .i64 ((l.length : Nat) : Int)) :: (8, .slice A l.length c) :: _) rfl ?_; clear hA; intro a hA
  refine wpList_nil ?_
  replace hA := hA.sel [0, 1, 10] (e' := [(0, .slice A l.length c), (1, .int .i64 p), (10, .bool (((l.length : Nat) : Int) == 0))]) rfl
  refine xt_norm ?_
  have hc1 : ¬ (((l.length : Nat) : Int) = 0) := by omega
  replace hA := hA.rw 10 (v' := .bool false) rfl (vb_eq_f hc1)
  refine cd_cond_f hA rfl ?_
  refine wp_skip ?_
  refine xt_norm ?_
  refine wp_seq ?_
  refine wp_region_lit ?_
  refine st_run tbOk 3 hA (e' := (14, .int .i64 ((l.length : Nat) : Int)) :: (13, .slice A l.length c) :: (12, .int .i64 p) :: _) rfl ?_; clear hA; intro a hA
  refine st_val hA rfl rfl (by decide) (rn_rem hA rfl rfl rfl (by omega)) ?_; clear hA; intro a hA
  refine st_run tbOk 1 hA (e' := (7, .int .i64 (p.tmod ((l.length : Nat) : Int))) :: _) rfl ?_; clear hA; intro a hA
  refine wpList_nil ?_
  replace hA := hA.sel [0, 7] (e' := [(0, .slice A l.length c), (7, .int .i64 (p.tmod ((l.length : Nat) : Int)))]) rfl
  refine xt_norm ?_
  refine wp_seq ?_
  refine wp_seq ?_
  refine wp_region_lit ?_
  refine st_run tbOk 2 hA (e' := (17, .bool (decide (p.tmod ((l.length : Nat) : Int) < 0))) :: (16, .int .i64 (p.tmod ((l.length : Nat) : Int))) :: _) rfl ?_; clear hA; intro a hA
  refine wpList_nil ?_
  replace hA := hA.sel [0, 7, 17] (e' := [(0, .slice A l.length c), (7, .int .i64 (p.tmod ((l.length : Nat) : Int))), (17, .bool (decide (p.tmod ((l.length : Nat) : Int) < 0)))]) rfl
  refine xt_norm ?_
  by_cases hc2 : p.tmod ((l.length : Nat) : Int) < 0
  · first
    | (exfalso; omega)
    | (replace hA := hA.rw 17 (v' := .bool true) rfl (vb_true hc2)
       refine cd_cond_t hA rfl ?_
       refine wp_region_lit ?_
       refine st_run tbOk 4 hA (e' := (21, .int .i64 (IntKind.i64.wrap ((p.tmod ((l.length : Nat) : Int)) + ((l.length : Nat) : Int)))) :: (20, .int .i64 ((l.length : Nat) : Int)) :: (19, .slice A l.length c) :: (18, .int .i64 (p.tmod ((l.length : Nat) : Int))) :: _) rfl ?_; clear hA; intro a hA
       replace hA := hA.rw 21 (v' := .int .i64 ((p.tmod ((l.length : Nat) : Int)) + ((l.length : Nat) : Int))) rfl (wr64 (by omega) (by omega) (by omega))
       refine st_run tbOk 1 hA (e' := (7, .int .i64 ((p.tmod ((l.length : Nat) : Int)) + ((l.length : Nat) : Int))) :: _) rfl ?_; clear hA; intro a hA
       refine wpList_nil ?_
       replace hA := hA.sel [0, 7] (e' := [(0, .slice A l.length c), (7, .int .i64 ((p.tmod ((l.length : Nat) : Int)) + ((l.length : Nat) : Int)))]) rfl
       refine xt_norm ?_
       refine wp_seq ?_
       replace hA := hA.rw 7 (v' := .int .i64 ((k : Nat) : Int)) rfl (vint (hk1 (by omega)))
       refine wp_draw (fun w' => St w0 w' (F)) [] [(0, true), (1, true), (2, true), (3, true), (4, true), (6, true), (7, true), (8, true), (5, false), (9, false), (10, true), (11, true), (12, true)] mixed (by kernel_rfl) (by rintro c a w ⟨_, _, h, _⟩; cases h) (by rfl) (by kernel_rfl) ?_
       replace hS := hS.drew
       refine dr_run tbOk 2 hA hS (e' := (23, .int .i64 ((k : Nat) : Int)) :: (22, .slice A l.length c) :: _) rfl ?_; clear hA; intro a hA
       obtain ⟨b3, o4, rfl⟩ := (hr _ hS).isSome (k := k) (by omega)
       refine dr_y hA rfl rfl rfl (by decide) hS (fun w' hS' => rn_indexAddr tbOk hA k (o4 + k) rfl rfl rfl rfl rfl rfl (by rfl) (by omega) (by first | rfl | simp [Nat.mul_one, Nat.zero_add] | omega)) ?_; clear hA; intro a hA
       refine dr_y hA rfl rfl rfl (by decide) hS (fun w' hS' => rn_load tbOk hA rfl rfl rfl rfl ((hr _ hS').elem0 (k := k) encI_ok hx rfl)) ?_; clear hA; intro a hA
       refine dr_run tbOk 4 hA hS (e' := (30, .int .i64 (IntKind.i64.wrap (((k : Nat) : Int) + 1))) :: (29, .int .i64 ((k : Nat) : Int)) :: (28, .int .i64 ((k : Nat) : Int)) :: (26, .slice (some ⟨b3, o4, none⟩) l.length c) :: _) rfl ?_; clear hA; intro a hA
       replace hA := hA.rw 30 (v' := .int .i64 ((k + 1 : Nat) : Int)) rfl (wr64 (by omega) (by omega) (by omega))
       refine dr_b (o := _) rfl ?_
       refine st_call0 hA rfl rfl rfl isfn25 rfl rfl (by decide) (clone25 hS (l := l) (fun w' h => (hr _ h)) (by omega)) ?_
       clear hA hS; rintro v5 w6 a ⟨C7, hO7, hS⟩ hA
       obtain ⟨A8, c9, rfl, hmc9, hxc9⟩ := hO7.open'
       refine dr_nil (.inr (hS.tail 1 rfl)) ?_
       refine dr_b (o := _) rfl ?_
       refine st_call0 hA rfl rfl rfl isfn31 rfl rfl (by decide) (delete31 hS hO7 k (k + 1) (by omega) (by omega)) ?_
       clear hA hS; rintro v10 w11 a ⟨C12, hO12, hS⟩ hA
       obtain ⟨A13, c14, rfl, hmc14, hxc14⟩ := hO12.open'
       refine dr_nil (.inr (hS.tail 1 rfl)) ?_
       refine dr_run tbOk 3 hA (hS.tail 1 rfl) (e' := (6, .nilIface) :: (5, .slice A13 ((l.take k ++ l.drop (k + 1)).length) c14) :: (4, .int .i64 x) :: _) rfl ?_; clear hA; intro a hA
       refine dr_end ?_
       replace hA := hA.sel [4, 5, 6] (e' := [(4, .int .i64 x), (5, .slice A13 ((l.take k ++ l.drop (k + 1)).length) c14), (6, .nilIface)]) rfl
       refine xt_norm ?_
       refine wp_ret ?_
       refine ret3 (fn := Tryd.f23) hA rfl rfl rfl rfl ?_
       exact ⟨k, x, _, C12, hk, hkp, hx, rfl, hO12, hS⟩)
  · first
    | (exfalso; omega)
    | (replace hA := hA.rw 17 (v' := .bool false) rfl (vb_false hc2)
       refine cd_cond_f hA rfl ?_
       refine wp_skip ?_
       refine xt_norm ?_
       refine wp_seq ?_
       replace hA := hA.rw 7 (v' := .int .i64 ((k : Nat) : Int)) rfl (vint (hk2 (by omega)))
       refine wp_draw (fun w' => St w0 w' (F)) [] [(0, true), (1, true), (2, true), (3, true), (4, true), (6, true), (7, true), (8, true), (5, false), (9, false), (10, true), (11, true), (12, true)] mixed (by kernel_rfl) (by rintro c a w ⟨_, _, h, _⟩; cases h) (by rfl) (by kernel_rfl) ?_
       replace hS := hS.drew
       refine dr_run tbOk 2 hA hS (e' := (23, .int .i64 ((k : Nat) : Int)) :: (22, .slice A l.length c) :: _) rfl ?_; clear hA; intro a hA
       obtain ⟨b15, o16, rfl⟩ := (hr _ hS).isSome (k := k) (by omega)
       refine dr_y hA rfl rfl rfl (by decide) hS (fun w' hS' => rn_indexAddr tbOk hA k (o16 + k) rfl rfl rfl rfl rfl rfl (by rfl) (by omega) (by first | rfl | simp [Nat.mul_one, Nat.zero_add] | omega)) ?_; clear hA; intro a hA
       refine dr_y hA rfl rfl rfl (by decide) hS (fun w' hS' => rn_load tbOk hA rfl rfl rfl rfl ((hr _ hS').elem0 (k := k) encI_ok hx rfl)) ?_; clear hA; intro a hA
       refine dr_run tbOk 4 hA hS (e' := (30, .int .i64 (IntKind.i64.wrap (((k : Nat) : Int) + 1))) :: (29, .int .i64 ((k : Nat) : Int)) :: (28, .int .i64 ((k : Nat) : Int)) :: (26, .slice (some ⟨b15, o16, none⟩) l.length c) :: _) rfl ?_; clear hA; intro a hA
       replace hA := hA.rw 30 (v' := .int .i64 ((k + 1 : Nat) : Int)) rfl (wr64 (by omega) (by omega) (by omega))
       refine dr_b (o := _) rfl ?_
       refine st_call0 hA rfl rfl rfl isfn25 rfl rfl (by decide) (clone25 hS (l := l) (fun w' h => (hr _ h)) (by omega)) ?_
       clear hA hS; rintro v17 w18 a ⟨C19, hO19, hS⟩ hA
       obtain ⟨A20, c21, rfl, hmc21, hxc21⟩ := hO19.open'
       refine dr_nil (.inr (hS.tail 1 rfl)) ?_
       refine dr_b (o := _) rfl ?_
       refine st_call0 hA rfl rfl rfl isfn31 rfl rfl (by decide) (delete31 hS hO19 k (k + 1) (by omega) (by omega)) ?_
       clear hA hS; rintro v22 w23 a ⟨C24, hO24, hS⟩ hA
       obtain ⟨A25, c26, rfl, hmc26, hxc26⟩ := hO24.open'
       refine dr_nil (.inr (hS.tail 1 rfl)) ?_
       refine dr_run tbOk 3 hA (hS.tail 1 rfl) (e' := (6, .nilIface) :: (5, .slice A25 ((l.take k ++ l.drop (k + 1)).length) c26) :: (4, .int .i64 x) :: _) rfl ?_; clear hA; intro a hA
       refine dr_end ?_
       replace hA := hA.sel [4, 5, 6] (e' := [(4, .int .i64 x), (5, .slice A25 ((l.take k ++ l.drop (k + 1)).length) c26), (6, .nilIface)]) rfl
       refine xt_norm ?_
       refine wp_ret ?_
       refine ret3 (fn := Tryd.f23) hA rfl rfl rfl rfl ?_
       exact ⟨k, x, _, C24, hk, hkp, hx, rfl, hO24, hS⟩)

theorem take_none23 {w0 w : World} {F : List Chunk} (hS : St w0 w F) {v : Value} {l : List Int} (hr : RdS w0 F 1 v l.length (rows encI l)) (p : Int) (h0 : l.length = 0) :
    Ret Tryd.prog 23 #[v, .int .i64 p] w (fun v w' => v = .tuple #[.int .i64 0, .slice none 0 0, .iface 53 (.int .i64 12)] ∧ St w0 w' F) := by
  obtain ⟨A, c, rfl, hmc, hcx⟩ := (hr w hS).open'
  refine enter (vs := [.slice A l.length c, .int .i64 p]) 32 Tryd.func23 rfl rfl (by simp) ?_; intro a hA
  refine wp_seq ?_
  refine wp_region_lit ?_
  refine st_run tbOk 3 hA (e' := (6, .nilIface) :: (5, .slice none 0 0) :: (4, .int .i64 0) :: _) rfl ?_; clear hA; intro a hA
  refine wpList_nil ?_
  replace hA := hA.sel [0, 1] (e' := [(0, .slice A l.length c), (1, .int .i64 p)]) rfl
  refine xt_norm ?_
  refine wp_seq ?_
  refine wp_seq ?_
  refine wp_region_lit ?_
  refine st_run tbOk 3 hA (e' := (10, .bool (((l.length : Nat) : Int) == 0)) :: (9, .int .i64 ((l.length : Nat) : Int)) :: (8, .slice A l.length c) :: _) rfl ?_; clear hA; intro a hA
  refine wpList_nil ?_
  replace hA := hA.sel [0, 1, 10] (e' := [(0, .slice A l.length c), (1, .int .i64 p), (10, .bool (((l.length : Nat) : Int) == 0))]) rfl
  refine xt_norm ?_
  have hc1 : ((l.length : Nat) : Int) = 0 := by omega
  replace hA := hA.rw 10 (v' := .bool true) rfl (vb_eq_t hc1)
  refine cd_cond_t hA rfl ?_
  refine wp_seq ?_
  refine wp_region_lit ?_
  refine st_run tbOk 4 hA (e' := (6, .iface 53 (.int .i64 12)) :: (5, .slice none 0 0) :: (4, .int .i64 0) :: (11, .iface 53 (.int .i64 12)) :: _) rfl ?_; clear hA; intro a hA
  refine wpList_nil ?_
  replace hA := hA.sel [4, 5, 6] (e' := [(4, .int .i64 0), (5, .slice none 0 0), (6, .iface 53 (.int .i64 12))]) rfl
  refine xt_norm ?_
  refine wp_ret (xt_ret ?_)
  refine ret3 (fn := Tryd.f23) hA rfl rfl rfl rfl ?_
  exact ⟨rfl, hS⟩

theorem same_len {xs ys : List Int} (h : xs.length ≠ ys.length) : ¬ xs = ys := fun e => h (by rw [e])
theorem same_ne {xs ys : List Int} {k : Nat} {x y : Int} (hx : xs[k]? = some x) (hy : ys[k]? = some y) (h : ¬ x = y) : ¬ xs = ys := fun e => by
  subst e; rw [hx] at hy; injection hy with hy; exact h hy
theorem same_all {xs ys : List Int} (h : xs.length = ys.length) (ha : ∀ (i : Nat), i < xs.length → xs[i]? = ys[i]?) : xs = ys := by
  apply List.ext_getElem? 
  intro i
  by_cases hi : i < xs.length
  · exact ha i hi
  · rw [List.getElem?_eq_none (by omega), List.getElem?_eq_none (by omega)]
theorem same7 {w0 w : World} {F : List Chunk} (hS : St w0 w F) {va vb : Value} {xs ys : List Int} (ha : RdS w0 F 1 va xs.length (rows encI xs)) (hb : RdS w0 F 1 vb ys.length (rows encI ys)) :
    Ret Tryd.prog 7 #[va, vb] w (fun v w' => v = .bool (decide (xs = ys)) ∧ St w0 w' F) := by
  obtain ⟨A1, c1, rfl, hm1, hx1⟩ := (ha w hS).open'
  obtain ⟨A2, c2, rfl, hm2, hx2⟩ := (hb w hS).open'
  refine enter (vs := [.slice A1 xs.length c1, .slice A2 ys.length c2]) 26 Tryd.func7 rfl rfl (by simp) ?_; intro a hA
  refine wp_seq ?_
  refine wp_region_lit ?_
  refine st_run tbOk 1 hA (e' := (4, .bool false) :: _) rfl ?_; clear hA; intro a hA
  refine wpList_nil ?_
  replace hA := hA.sel [0, 1] (e' := [(0, .slice A1 xs.length c1), (1, .slice A2 ys.length c2)]) rfl
  refine xt_norm ?_
  refine wp_seq ?_
  refine wp_seq ?_
  refine wp_region_lit ?_
  refine st_run tbOk 5 hA (e' := (10, .bool (((xs.length : Nat) : Int) != ((ys.length : Nat) : Int))) :: (9, .int .i64 ((ys.length : Nat) : Int)) :: (8, .slice A2 ys.length c2) :: (7, .int .i64 ((xs.length : Nat) : Int)) :: (6, .slice A1 xs.length c1) :: _) rfl ?_; clear hA; intro a hA
  refine wpList_nil ?_
  replace hA := hA.sel [0, 1, 10] (e' := [(0, .slice A1 xs.length c1), (1, .slice A2 ys.length c2), (10, .bool (((xs.length : Nat) : Int) != ((ys.length : Nat) : Int)))]) rfl
  refine xt_norm ?_
  by_cases hc1 : ((xs.length : Nat) : Int) = ((ys.length : Nat) : Int)
  · first
    | (exfalso; omega)
    | (replace hA := hA.rw 10 (v' := .bool false) rfl (vb_ne_f hc1)
       refine cd_cond_f hA rfl ?_
       refine wp_skip ?_
       refine xt_norm ?_
       refine wp_seq ?_
       refine wp_seq ?_
       refine wp_region_lit ?_
       refine st_run tbOk 3 hA (e' := (13, .int .i64 0) :: (12, .int .i64 ((xs.length : Nat) : Int)) :: (11, .slice A1 xs.length c1) :: _) rfl ?_; clear hA; intro a hA
       refine wpList_nil ?_
       replace hA := hA.sel [0, 1, 12, 13] (e' := [(0, .slice A1 xs.length c1), (1, .slice A2 ys.length c2), (12, .int .i64 ((xs.length : Nat) : Int)), (13, .int .i64 0)]) rfl
       refine xt_norm ?_
       refine wp_block ?_
       refine wp_loop_ghost (fun m a w => ∃ (k : Nat), m = xs.length - k ∧ Has a 26 [(0, .slice A1 xs.length c1), (1, .slice A2 ys.length c2), (12, .int .i64 ((xs.length : Nat) : Int)), (13, .int .i64 ((k : Nat) : Int))] ∧ St w0 w (F) ∧ (k ≤ xs.length) ∧ (∀ (i : Nat), i < k → xs[i]? = ys[i]?)) (xs.length - 0)
         ⟨0, rfl, (hA.sel [0, 1, 12, 13] rfl), hS, Nat.zero_le _, fun i hi => absurd hi (by omega)⟩ ?_
       clear hA hS; rintro m0 a w2 ⟨k, rfl, hA, hS, hk, hall⟩
       refine wp_seq ?_
       refine wp_region_lit ?_
       refine st_run tbOk 1 hA (e' := (14, .bool (decide (((k : Nat) : Int) < ((xs.length : Nat) : Int)))) :: _) rfl ?_; clear hA; intro a hA
       refine wpList_nil ?_
       refine xt_norm ?_
       refine wp_seq ?_
       by_cases hc3 : ((k : Nat) : Int) < ((xs.length : Nat) : Int)
       · first
         | (exfalso; omega)
         | (replace hA := hA.rw 14 (v' := .bool true) rfl (vb_true hc3)
            refine cd_cond_t hA rfl ?_
            refine wp_skip ?_
            refine xt_norm ?_
            refine wp_seq ?_
            refine wp_block ?_
            refine wp_seq ?_
            refine wp_region_lit ?_
            refine st_run tbOk 2 hA (e' := (5, .int .i64 ((k : Nat) : Int)) :: (15, .int .i64 ((k : Nat) : Int)) :: _) rfl ?_; clear hA; intro a hA
            refine wpList_nil ?_
            replace hA := hA.sel [0, 1, 5, 12, 13] (e' := [(0, .slice A1 xs.length c1), (1, .slice A2 ys.length c2), (5, .int .i64 ((k : Nat) : Int)), (12, .int .i64 ((xs.length : Nat) : Int)), (13, .int .i64 ((k : Nat) : Int))]) rfl
            refine xt_norm ?_
            refine wp_seq ?_
            refine wp_draw (fun w' => St w0 w' (F)) [] [(0, true), (1, true), (2, true), (3, true), (4, true), (5, true), (6, true), (7, true), (8, true)] mixed (by kernel_rfl) (by rintro c a w ⟨_, _, h, _⟩; cases h) (by rfl) (by kernel_rfl) ?_
            replace hS := hS.drew
            refine dr_run tbOk 2 hA hS (e' := (17, .int .i64 ((k : Nat) : Int)) :: (16, .slice A1 xs.length c1) :: _) rfl ?_; clear hA; intro a hA
            obtain ⟨b4, o5, rfl⟩ := (ha _ hS).isSome (k := k) (by omega)
            refine dr_y hA rfl rfl rfl (by decide) hS (fun w' hS' => rn_indexAddr tbOk hA k (o5 + k) rfl rfl rfl rfl rfl rfl (by rfl) (by omega) (by first | rfl | simp [Nat.mul_one, Nat.zero_add] | omega)) ?_; clear hA; intro a hA
            obtain ⟨x6, hx6⟩ := get_ex (l := xs) (k := k) (by omega)
            refine dr_y hA rfl rfl rfl (by decide) hS (fun w' hS' => rn_load tbOk hA rfl rfl rfl rfl ((ha _ hS').elem0 (k := k) encI_ok hx6 rfl)) ?_; clear hA; intro a hA
            refine dr_run tbOk 2 hA hS (e' := (21, .int .i64 ((k : Nat) : Int)) :: (20, .slice A2 ys.length c2) :: _) rfl ?_; clear hA; intro a hA
            obtain ⟨b7, o8, rfl⟩ := (hb _ hS).isSome (k := k) (by omega)
            refine dr_y hA rfl rfl rfl (by decide) hS (fun w' hS' => rn_indexAddr tbOk hA k (o8 + k) rfl rfl rfl rfl rfl rfl (by rfl) (by omega) (by first | rfl | simp [Nat.mul_one, Nat.zero_add] | omega)) ?_; clear hA; intro a hA
            obtain ⟨x9, hx9⟩ := get_ex (l := ys) (k := k) (by omega)
            refine dr_y hA rfl rfl rfl (by decide) hS (fun w' hS' => rn_load tbOk hA rfl rfl rfl rfl ((hb _ hS').elem0 (k := k) encI_ok hx9 rfl)) ?_; clear hA; intro a hA
            refine dr_run tbOk 1 hA hS (e' := (24, .bool (x6 != x9)) :: _) rfl ?_; clear hA; intro a hA
            refine dr_end ?_
            replace hA := hA.sel [0, 1, 12, 13, 24] (e' := [(0, .slice (some ⟨b4, o5, none⟩) xs.length c1), (1, .slice (some ⟨b7, o8, none⟩) ys.length c2), (12, .int .i64 ((xs.length : Nat) : Int)), (13, .int .i64 ((k : Nat) : Int)), (24, .bool (x6 != x9))]) rfl
            refine xt_norm ?_
            by_cases hc10 : x6 = x9
            · first
              | (exfalso; omega)
              | (replace hA := hA.rw 24 (v' := .bool false) rfl (vb_ne_f hc10)
                 refine cd_cond_f hA rfl ?_
                 refine wp_skip ?_
                 refine xb_norm ?_
                 refine xt_norm ?_
                 refine wp_region_lit ?_
                 refine st_run tbOk 1 hA (e' := (25, .int .i64 (IntKind.i64.wrap (((k : Nat) : Int) + 1))) :: _) rfl ?_; clear hA; intro a hA
                 replace hA := hA.rw 25 (v' := .int .i64 ((k + 1 : Nat) : Int)) rfl (wr64 (by omega) (by omega) (by omega))
                 refine st_run tbOk 1 hA (e' := (13, .int .i64 ((k + 1 : Nat) : Int)) :: _) rfl ?_; clear hA; intro a hA
                 refine wpList_nil ?_
                 replace hA := hA.sel [0, 1, 12, 13] (e' := [(0, .slice (some ⟨b4, o5, none⟩) xs.length c1), (1, .slice (some ⟨b7, o8, none⟩) ys.length c2), (12, .int .i64 ((xs.length : Nat) : Int)), (13, .int .i64 ((k + 1 : Nat) : Int))]) rfl
                 exact lp_next _ (by omega) ⟨(k + 1), rfl, (hA.sel [0, 1, 12, 13] rfl), hS, by omega, fun i hi => (Nat.lt_succ_iff_lt_or_eq.1 hi).elim (fun h => hall i h) (fun h => by subst h; rw [hx6, hx9]; exact congrArg some (by omega))⟩)
            · first
              | (exfalso; omega)
              | (replace hA := hA.rw 24 (v' := .bool true) rfl (vb_ne_t hc10)
                 refine cd_cond_t hA rfl ?_
                 refine wp_seq ?_
                 refine wp_region_lit ?_
                 refine st_run tbOk 1 hA (e' := (4, .bool false) :: _) rfl ?_; clear hA; intro a hA
                 refine wpList_nil ?_
                 replace hA := hA.sel [4] (e' := [(4, .bool false)]) rfl
                 refine xt_norm ?_
                 refine wp_ret (xb_ret (xt_ret (xt_ret (xb_ret (xt_ret ?_)))))
                 refine ret1 (fn := Tryd.f7) hA rfl rfl ?_
                 refine ⟨?_, hS⟩
                 rw [decide_eq_false]; exact same_ne hx6 hx9 (by omega)))
       · first
         | (exfalso; omega)
         | (replace hA := hA.rw 14 (v' := .bool false) rfl (vb_false hc3)
            refine cd_cond_f hA rfl ?_
            refine wp_exit ?_
            refine xt_exit ?_
            refine xt_exit ?_
            refine cd_exit_eq ?_
            refine xt_norm ?_
            refine wp_seq ?_
            refine wp_region_lit ?_
            refine st_run tbOk 1 hA (e' := (4, .bool true) :: _) rfl ?_; clear hA; intro a hA
            refine wpList_nil ?_
            replace hA := hA.sel [4] (e' := [(4, .bool true)]) rfl
            refine xt_norm ?_
            refine wp_ret ?_
            refine ret1 (fn := Tryd.f7) hA rfl rfl ?_
            refine ⟨?_, hS⟩
            rw [decide_eq_true]; exact same_all (by omega) (fun i hi => hall i (by omega))))
  · first
    | (exfalso; omega)
    | (replace hA := hA.rw 10 (v' := .bool true) rfl (vb_ne_t hc1)
       refine cd_cond_t hA rfl ?_
       refine wp_seq ?_
       refine wp_region_lit ?_
       refine st_run tbOk 1 hA (e' := (4, .bool false) :: _) rfl ?_; clear hA; intro a hA
       refine wpList_nil ?_
       replace hA := hA.sel [4] (e' := [(4, .bool false)]) rfl
       refine xt_norm ?_
       refine wp_ret (xt_ret ?_)
       refine ret1 (fn := Tryd.f7) hA rfl rfl ?_
       refine ⟨?_, hS⟩
       rw [decide_eq_false]; exact same_len (by omega))

theorem dropc34 {w0 w : World} {F : List Chunk} (hS : St w0 w F) {b : Nat} {id : Int} (hc : ∀ w', St w0 w' F → w'.cell? ⟨b, 0, none⟩ = some (.int .i64 id)) (x : Int) :
    Ret Tryd.prog 34 #[.int .i64 x, .pointer (some ⟨b, 0, none⟩)] w (fun v w' => v = .bool (x == id) ∧ St w0 w' F) := by
  refine enter (vs := [.int .i64 x, .pointer (some ⟨b, 0, none⟩)]) 7 Tryd.func34 rfl rfl (by simp) ?_; intro a hA
  refine wp_seq ?_
  refine wp_region_lit ?_
  refine st_run tbOk 1 hA (e' := (3, .bool false) :: _) rfl ?_; clear hA; intro a hA
  refine wpList_nil ?_
  replace hA := hA.sel [0, 1] (e' := [(0, .int .i64 x), (1, .pointer (some ⟨b, 0, none⟩))]) rfl
  refine xt_norm ?_
  refine wp_seq ?_
  refine wp_region_lit ?_
  refine st_run tbOk 1 hA (e' := (4, .int .i64 x) :: _) rfl ?_; clear hA; intro a hA
  refine st_val hA rfl rfl (by decide) (rn_load tbOk hA rfl rfl rfl rfl (hc _ hS)) ?_; clear hA; intro a hA
  refine st_run tbOk 2 hA (e' := (3, .bool (x == id)) :: (6, .bool (x == id)) :: _) rfl ?_; clear hA; intro a hA
  refine wpList_nil ?_
  replace hA := hA.sel [3] (e' := [(3, .bool (x == id))]) rfl
  refine xt_norm ?_
  refine wp_ret ?_
  refine ret1 (fn := Tryd.f34) hA rfl rfl ?_
  exact ⟨rfl, hS⟩
theorem droppred {w0 : World} {F : List Chunk} {b : Nat} {id : Int} (hc : ∀ w, St w0 w F → w.cell? ⟨b, 0, none⟩ = some (.int .i64 id)) : Pred Tryd.prog w0 F 34 #[] #[.pointer (some ⟨b, 0, none⟩)] (fun x => .int .i64 x) (fun x => x == id) := by
  intro w x hS
  exact dropc34 (St.refl w) (fun w' h => h.old (hc w hS)) x

theorem drop26 {w0 w : World} {F : List Chunk} (hS : St w0 w F) {v : Value} {l : List Int} (hr : RdS w0 F 1 v l.length (rows encI l)) (id : Int) (hb : l.length * 8 ≤ 140737488355328) :
    Ret Tryd.prog 26 #[v, .int .i64 id] w (fun v w' => ∃ C, Own 3 1 v (l.filter (fun x => !(x == id))).length (rows encI (l.filter (fun x => !(x == id)))) C ∧ St w0 w' (C :: F)) := by
  obtain ⟨A, c, rfl, hmc, hcx⟩ := (hr w hS).open'
  refine enter (vs := [.slice A l.length c, .int .i64 id]) 9 Tryd.func26 rfl rfl (by simp) ?_; intro a hA
  refine wp_seq ?_
  refine wp_region_lit ?_
  refine st_box hA hS [.int .i64 id] rfl rfl rfl rfl rfl (by decide) ?_; clear hA hS; intro b1 w2 a hS hA
  refine st_run tbOk 1 hA (e' := (4, .slice none 0 0) :: _) rfl ?_; clear hA; intro a hA
  refine wpList_nil ?_
  replace hA := hA.sel [0, 3] (e' := [(0, .slice A l.length c), (3, .pointer (some ⟨b1, 0, none⟩))]) rfl
  refine xt_norm ?_
  refine wp_seq ?_
  refine wp_region_lit ?_
  refine st_run tbOk 1 hA (e' := (5, .slice A l.length c) :: _) rfl ?_; clear hA; intro a hA
  refine st_call0 hA rfl rfl rfl isfn25 rfl rfl (by decide) (clone25 hS (l := l) (fun w' h => (hr _ (h.tail 1 rfl))) (by omega)) ?_
  clear hA hS; rintro v3 w4 a ⟨C5, hO5, hS⟩ hA
  obtain ⟨A6, c7, rfl, hmc7, hxc7⟩ := hO5.open'
  refine st_run tbOk 1 hA (e' := (7, .func (.func 34) #[] #[.pointer (some ⟨b1, 0, none⟩)]) :: _) rfl ?_; clear hA; intro a hA
  refine st_call0 hA rfl rfl rfl isfn33 rfl rfl (by decide) (deleteFunc33 hS hO5 isfn34 (droppred (b := b1) (fun w' h => cell_row (h.heapAt 0 rfl) rfl))) ?_
  clear hA hS; rintro v8 w9 a ⟨C10, hO10, hS⟩ hA
  obtain ⟨A11, c12, rfl, hmc12, hxc12⟩ := hO10.open'
  refine st_run tbOk 1 hA (e' := (4, .slice A11 ((l.filter (fun x => !(x == id))).length) c12) :: _) rfl ?_; clear hA; intro a hA
  refine wpList_nil ?_
  replace hA := hA.sel [4] (e' := [(4, .slice A11 ((l.filter (fun x => !(x == id))).length) c12)]) rfl
  refine xt_norm ?_
  refine wp_ret ?_
  refine ret1 (fn := Tryd.f26) hA rfl rfl ?_
  replace hS := hS.drop2
  exact ⟨C10, hO10, hS⟩

def encThread (x : Int × Int × Int) : List Value := [.int .i64 x.1, .int .i64 x.2.1, .int .i64 x.2.2]
theorem encThread_ok : Enc encThread 3 := ⟨fun _ => rfl, fun x u hu => by simp only [encThread, List.mem_cons, List.not_mem_nil, or_false] at hu; rcases hu with rfl | rfl | rfl <;> rfl⟩
def encThread_good (x : Int × Int × Int) : Prop := (-9223372036854775808 ≤ x.1 ∧ x.1 < 9223372036854775808) ∧ (-9223372036854775808 ≤ x.2.1 ∧ x.2.1 < 9223372036854775808) ∧ (-9223372036854775808 ≤ x.2.2 ∧ x.2.2 < 9223372036854775808)

def encAct (x : Int × Int × Int) : List Value := [.int .u8 x.1, .int .i8 x.2.1, .int .i64 x.2.2]
theorem encAct_ok : Enc encAct 3 := ⟨fun _ => rfl, fun x u hu => by simp only [encAct, List.mem_cons, List.not_mem_nil, or_false] at hu; rcases hu with rfl | rfl | rfl <;> rfl⟩
def encAct_good (x : Int × Int × Int) : Prop := (0 ≤ x.1 ∧ x.1 < 256) ∧ (-128 ≤ x.2.1 ∧ x.2.1 < 128) ∧ (-9223372036854775808 ≤ x.2.2 ∧ x.2.2 < 9223372036854775808)

/-- A table of threads at a block: the threads, and those that are ready. -/
def TR (T b : Nat) (ts : List (Int × Int × Int)) (q : List Int) (L : Chunk) : Prop := ∃ v C v2 C2, Own 41 3 v ts.length (rows encThread ts) C ∧ Own 3 1 v2 q.length (rows encI q) C2 ∧ L = (b, rowO [v, v2] T) :: (C ++ C2)
theorem TR.new (T b : Nat) : TR T b [] [] [(b, rowO [.slice none 0 0, .slice none 0 0] T)] := ⟨_, [], _, [], Own.nil _ _, Own.nil _ _, rfl⟩
def TI (ts : List (Int × Int × Int)) (q : List Int) : Prop := (∀ x ∈ q, 0 ≤ x ∧ x < ((ts.length : Nat) : Int)) ∧ q.Nodup ∧ ts.length ≤ 64
theorem TI.nil : TI [] [] := ⟨by simp, by simp, by simp⟩
theorem TI.len {ts : List (Int × Int × Int)} {q : List Int} (h : TI ts q) : q.length ≤ ts.length := pigeon _ _ h.2.1 h.1
theorem TI.fresh {ts : List (Int × Int × Int)} {q : List Int} (h : TI ts q) : q.any (fun y => y == ((ts.length : Nat) : Int)) = false := by
  rw [List.any_eq_false]; intro y hy; have := h.1 y hy; simp only [beq_iff_eq]; omega
theorem TI.start {ts : List (Int × Int × Int)} {q : List Int} (h : TI ts q) (x : Int × Int × Int) (hl : ts.length < 64) : TI (ts ++ [x]) (q ++ [((ts.length : Nat) : Int)]) := by
  refine ⟨fun y hy => ?_, ?_, by simp; omega⟩
  · simp only [List.length_append, List.length_cons, List.length_nil]
    rcases List.mem_append.1 hy with hy | hy
    · have := h.1 y hy; omega
    · have := List.mem_singleton.1 hy; omega
  · rw [List.nodup_append]
    refine ⟨h.2.1, by simp, fun a ha b hb => ?_⟩
    have := h.1 a ha
    have := List.mem_singleton.1 hb
    omega
theorem TI.filt {ts : List (Int × Int × Int)} {q : List Int} (h : TI ts q) (n : Nat) (x : Int × Int × Int) (p : Int → Bool) : TI (ts.set n x) (q.filter p) :=
  ⟨fun y hy => by rw [List.length_set]; exact h.1 y (List.mem_filter.1 hy).1, h.2.1.filter p, by rw [List.length_set]; exact h.2.2⟩
theorem TI.room {ts : List (Int × Int × Int)} {q : List Int} (h : TI ts q) {n : Nat} (hn : n < ts.length) : (q.filter (fun x => !(x == ((n : Nat) : Int)))).length < 64 := by
  have h1 : (((n : Nat) : Int) :: q.filter (fun x => !(x == ((n : Nat) : Int)))).length ≤ ts.length := by
    refine pigeon _ _ ?_ ?_
    · rw [List.nodup_cons]
      exact ⟨by simp, h.2.1.filter _⟩
    · intro x hx
      rcases List.mem_cons.1 hx with rfl | hx
      · omega
      · exact h.1 x (List.mem_filter.1 hx).1
  have := h.2.2
  simp only [List.length_cons] at h1
  omega
theorem TI.push {ts : List (Int × Int × Int)} {q : List Int} (h : TI ts q) {n : Nat} (hn : n < ts.length) : TI ts (q.filter (fun x => !(x == ((n : Nat) : Int))) ++ [((n : Nat) : Int)]) := by
  refine ⟨fun y hy => ?_, ?_, h.2.2⟩
  · rcases List.mem_append.1 hy with hy | hy
    · exact h.1 y (List.mem_filter.1 hy).1
    · have := List.mem_singleton.1 hy; omega
  · rw [List.nodup_append]
    refine ⟨h.2.1.filter _, by simp, fun a ha b hb => ?_⟩
    have h1 := (List.mem_filter.1 ha).2
    have := List.mem_singleton.1 hb
    intro e
    subst this; subst e
    simp at h1
theorem filt_any (l : List Int) (id : Int) : (l.filter (fun x => !(x == id))).any (fun y => y == id) = false := by
  rw [List.any_eq_false]; intro y hy; simp at hy; simpa using hy.2

theorem getO_in9 {w0 w : World} {F : List Chunk} {b : Nat} {v0 x2 : Value} {ts : List (Int × Int × Int)} (hS : St w0 w ([(b, rowO [v0, x2] 29)] :: F)) (hr : RdS w0 ([(b, rowO [v0, x2] 29)] :: F) 3 v0 ts.length (rows encThread ts)) (n : Nat) {x : Int × Int × Int} (hx : ts[n]? = some x) :
    Ret Tryd.prog 9 #[.pointer (some ⟨b, 0, none⟩), .int .i64 ((n : Nat) : Int)] w (fun v w' => v = .agg #[.int .i64 x.1, .int .i64 x.2.1, .int .i64 x.2.2] ∧ St w0 w' ([(b, rowO [v0, x2] 29)] :: F)) := by
  obtain ⟨A, c, rfl, hmc, hcx⟩ := (hr w hS).open'
  obtain ⟨x0, x1, x3⟩ := x
  have hn := (List.getElem?_eq_some_iff.1 hx).1
  refine enter (vs := [.pointer (some ⟨b, 0, none⟩), .int .i64 ((n : Nat) : Int)]) 24 Tryd.func9 rfl rfl (by simp) ?_; intro a hA
  refine wp_seq ?_
  refine wp_region_lit ?_
  refine st_alloc tbOk hA hS [.int .i64 0, .int .i64 0, .int .i64 0] rfl rfl rfl rfl rfl (by decide) ?_; clear hA hS; intro b1 w2 a hS hA
  refine wpList_nil ?_
  refine xt_norm ?_
  refine wp_seq ?_
  refine wp_seq ?_
  refine wp_region_lit ?_
  refine st_run tbOk 3 hA (e' := (7, .bool (decide (((n : Nat) : Int) < 0))) :: (6, .bool (decide (((n : Nat) : Int) < 0))) :: (5, .int .i64 ((n : Nat) : Int)) :: _) rfl ?_; clear hA; intro a hA
  have hc3 : ¬ (((n : Nat) : Int) < 0) := by omega
  replace hA := hA.rw 6 (v' := .bool false) rfl (vb_false hc3)
  replace hA := hA.rw 7 (v' := .bool false) rfl (vb_false hc3)
  refine st_run tbOk 4 hA (e' := (11, .pointer (some ⟨b, 0, none⟩)) :: (10, .pointer (some ⟨b, 0, none⟩)) :: (9, .pointer (some ⟨b, 0, none⟩)) :: (8, .int .i64 ((n : Nat) : Int)) :: _) rfl ?_; clear hA; intro a hA
  refine st_val hA rfl rfl (by decide) (rn_load tbOk hA rfl rfl rfl rfl (cell_row (hS.heapAt 1 rfl) rfl)) ?_; clear hA; intro a hA
  refine st_run tbOk 3 hA (e' := (15, .bool (decide (((n : Nat) : Int) ≥ ((ts.length : Nat) : Int)))) :: (14, .bool (decide (((n : Nat) : Int) ≥ ((ts.length : Nat) : Int)))) :: (13, .int .i64 ((ts.length : Nat) : Int)) :: _) rfl ?_; clear hA; intro a hA
  refine wpList_nil ?_
  replace hA := hA.sel [0, 1, 4, 15] (e' := [(0, .pointer (some ⟨b, 0, none⟩)), (1, .int .i64 ((n : Nat) : Int)), (4, .pointer (some ⟨b1, 0, none⟩)), (15, .bool (decide (((n : Nat) : Int) ≥ ((ts.length : Nat) : Int))))]) rfl
  refine xt_norm ?_
  have hc4 : ¬ (((n : Nat) : Int) ≥ ((ts.length : Nat) : Int)) := by omega
  replace hA := hA.rw 15 (v' := .bool false) rfl (vb_false hc4)
  refine cd_cond_f hA rfl ?_
  refine wp_skip ?_
  refine xt_norm ?_
  refine wp_seq ?_
  refine wp_region_lit ?_
  refine st_run tbOk 3 hA (e' := (19, .pointer (some ⟨b, 0, none⟩)) :: (18, .pointer (some ⟨b, 0, none⟩)) :: (17, .pointer (some ⟨b, 0, none⟩)) :: _) rfl ?_; clear hA; intro a hA
  refine st_val hA rfl rfl (by decide) (rn_load tbOk hA rfl rfl rfl rfl (cell_row (hS.heapAt 1 rfl) rfl)) ?_; clear hA; intro a hA
  refine st_run tbOk 1 hA (e' := (21, .int .i64 ((n : Nat) : Int)) :: _) rfl ?_; clear hA; intro a hA
  obtain ⟨b5, o6, rfl⟩ := (hr _ (hS.tail 1 rfl)).isSome (k := n) (by omega)
  refine st_val hA rfl rfl (by decide) (rn_indexAddr tbOk hA n (o6 + (n * 3)) rfl rfl rfl rfl rfl rfl (by rfl) (by omega) (by first | rfl | simp [Nat.mul_one, Nat.zero_add] | omega)) ?_; clear hA; intro a hA
  refine st_val hA rfl rfl (by decide) (rn_loadA tbOk hA ([.int .i64 ((x0, x1, x3).1), .int .i64 ((x0, x1, x3).2.1), .int .i64 ((x0, x1, x3).2.2)]) rfl rfl rfl rfl (by rfl) ((hr _ (hS.tail 1 rfl)).elem (k := n) encThread_ok hx)) ?_; clear hA; intro a hA
  refine st_store tbOk hA hS [.int .i64 ((x0, x1, x3).1), .int .i64 ((x0, x1, x3).2.1), .int .i64 ((x0, x1, x3).2.2)] [.int .i64 ((x0, x1, x3).1), .int .i64 ((x0, x1, x3).2.1), .int .i64 ((x0, x1, x3).2.2)] rfl rfl rfl rfl rfl rfl (by simp [Value.oneCell']) (Nat.le_of_ble_eq_true rfl) rfl rfl rfl ?_; clear hS; intro w7 hS
  refine wpList_nil ?_
  replace hA := hA.sel [4] (e' := [(4, .pointer (some ⟨b1, 0, none⟩))]) rfl
  refine xt_norm ?_
  refine wp_ret ?_
  refine retc1 tbOk (fn := Tryd.f9) (cs := [.int .i64 ((x0, x1, x3).1), .int .i64 ((x0, x1, x3).2.1), .int .i64 ((x0, x1, x3).2.2)]) hA rfl rfl rfl rfl rfl (cells_row (hS.heapAt 0 rfl) rfl) ?_
  replace hS := hS.drop1
  exact ⟨rfl, hS⟩

theorem getO_lo9 {w0 w : World} {F : List Chunk} {b : Nat} {v0 x2 : Value} {ts : List (Int × Int × Int)} (hS : St w0 w ([(b, rowO [v0, x2] 29)] :: F)) (hr : RdS w0 ([(b, rowO [v0, x2] 29)] :: F) 3 v0 ts.length (rows encThread ts)) (id : Int) (h1 : id < 0) :
    Ret Tryd.prog 9 #[.pointer (some ⟨b, 0, none⟩), .int .i64 id] w (fun v w' => v = .agg #[.int .i64 0, .int .i64 0, .int .i64 0] ∧ St w0 w' ([(b, rowO [v0, x2] 29)] :: F)) := by
  obtain ⟨A, c, rfl, hmc, hcx⟩ := (hr w hS).open'
  refine enter (vs := [.pointer (some ⟨b, 0, none⟩), .int .i64 id]) 24 Tryd.func9 rfl rfl (by simp) ?_; intro a hA
  refine wp_seq ?_
  refine wp_region_lit ?_
  refine st_alloc tbOk hA hS [.int .i64 0, .int .i64 0, .int .i64 0] rfl rfl rfl rfl rfl (by decide) ?_; clear hA hS; intro b1 w2 a hS hA
  refine wpList_nil ?_
  refine xt_norm ?_
  refine wp_seq ?_
  refine wp_seq ?_
  refine wp_region_lit ?_
  refine st_run tbOk 3 hA (e' := (7, .bool (decide (id < 0))) :: (6, .bool (decide (id < 0))) :: (5, .int .i64 id) :: _) rfl ?_; clear hA; intro a hA
  have hc3 : id < 0 := by omega
  replace hA := hA.rw 6 (v' := .bool true) rfl (vb_true hc3)
  replace hA := hA.rw 7 (v' := .bool true) rfl (vb_true hc3)
  refine st_run tbOk 8 hA (e' := (15, .bool true) :: (14, undef) :: (13, undef) :: (12, undef) :: (11, undef) :: (10, undef) :: (9, undef) :: (8, undef) :: _) rfl ?_; clear hA; intro a hA
  refine wpList_nil ?_
  replace hA := hA.sel [0, 1, 4, 15] (e' := [(0, .pointer (some ⟨b, 0, none⟩)), (1, .int .i64 id), (4, .pointer (some ⟨b1, 0, none⟩)), (15, .bool true)]) rfl
  refine xt_norm ?_
  refine cd_cond_t hA rfl ?_
  refine wp_seq ?_
  refine wp_region_lit ?_
  refine st_run tbOk 1 hA (e' := (16, .agg #[.int .i64 0, .int .i64 0, .int .i64 0]) :: _) rfl ?_; clear hA; intro a hA
  refine st_store tbOk hA hS [.int .i64 0, .int .i64 0, .int .i64 0] [.int .i64 0, .int .i64 0, .int .i64 0] rfl rfl rfl rfl rfl rfl (by simp [Value.oneCell']) (Nat.le_of_ble_eq_true rfl) rfl rfl rfl ?_; clear hS; intro w4 hS
  refine wpList_nil ?_
  replace hA := hA.sel [4] (e' := [(4, .pointer (some ⟨b1, 0, none⟩))]) rfl
  refine xt_norm ?_
  refine wp_ret (xt_ret ?_)
  refine retc1 tbOk (fn := Tryd.f9) (cs := [.int .i64 0, .int .i64 0, .int .i64 0]) hA rfl rfl rfl rfl rfl (cells_row (hS.heapAt 0 rfl) rfl) ?_
  replace hS := hS.drop1
  exact ⟨rfl, hS⟩

theorem getO_hi9 {w0 w : World} {F : List Chunk} {b : Nat} {v0 x2 : Value} {ts : List (Int × Int × Int)} (hS : St w0 w ([(b, rowO [v0, x2] 29)] :: F)) (hr : RdS w0 ([(b, rowO [v0, x2] 29)] :: F) 3 v0 ts.length (rows encThread ts)) (id : Int) (h1 : ((ts.length : Nat) : Int) ≤ id) :
    Ret Tryd.prog 9 #[.pointer (some ⟨b, 0, none⟩), .int .i64 id] w (fun v w' => v = .agg #[.int .i64 0, .int .i64 0, .int .i64 0] ∧ St w0 w' ([(b, rowO [v0, x2] 29)] :: F)) := by
  obtain ⟨A, c, rfl, hmc, hcx⟩ := (hr w hS).open'
  refine enter (vs := [.pointer (some ⟨b, 0, none⟩), .int .i64 id]) 24 Tryd.func9 rfl rfl (by simp) ?_; intro a hA
  refine wp_seq ?_
  refine wp_region_lit ?_
  refine st_alloc tbOk hA hS [.int .i64 0, .int .i64 0, .int .i64 0] rfl rfl rfl rfl rfl (by decide) ?_; clear hA hS; intro b1 w2 a hS hA
  refine wpList_nil ?_
  refine xt_norm ?_
  refine wp_seq ?_
  refine wp_seq ?_
  refine wp_region_lit ?_
  refine st_run tbOk 3 hA (e' := (7, .bool (decide (id < 0))) :: (6, .bool (decide (id < 0))) :: (5, .int .i64 id) :: _) rfl ?_; clear hA; intro a hA
  have hc3 : ¬ (id < 0) := by omega
  replace hA := hA.rw 6 (v' := .bool false) rfl (vb_false hc3)
  replace hA := hA.rw 7 (v' := .bool false) rfl (vb_false hc3)
  refine st_run tbOk 4 hA (e' := (11, .pointer (some ⟨b, 0, none⟩)) :: (10, .pointer (some ⟨b, 0, none⟩)) :: (9, .pointer (some ⟨b, 0, none⟩)) :: (8, .int .i64 id) :: _) rfl ?_; clear hA; intro a hA
  refine st_val hA rfl rfl (by decide) (rn_load tbOk hA rfl rfl rfl rfl (cell_row (hS.heapAt 1 rfl) rfl)) ?_; clear hA; intro a hA
  refine st_run tbOk 3 hA (e' := (15, .bool (decide (id ≥ ((ts.length : Nat) : Int)))) :: (14, .bool (decide (id ≥ ((ts.length : Nat) : Int)))) :: (13, .int .i64 ((ts.length : Nat) : Int)) :: _) rfl ?_; clear hA; intro a hA
  refine wpList_nil ?_
  replace hA := hA.sel [0, 1, 4, 15] (e' := [(0, .pointer (some ⟨b, 0, none⟩)), (1, .int .i64 id), (4, .pointer (some ⟨b1, 0, none⟩)), (15, .bool (decide (id ≥ ((ts.length : Nat) : Int))))]) rfl
  refine xt_norm ?_
  have hc4 : id ≥ ((ts.length : Nat) : Int) := by omega
  replace hA := hA.rw 15 (v' := .bool true) rfl (vb_true hc4)
  refine cd_cond_t hA rfl ?_
  refine wp_seq ?_
  refine wp_region_lit ?_
  refine st_run tbOk 1 hA (e' := (16, .agg #[.int .i64 0, .int .i64 0, .int .i64 0]) :: _) rfl ?_; clear hA; intro a hA
  refine st_store tbOk hA hS [.int .i64 0, .int .i64 0, .int .i64 0] [.int .i64 0, .int .i64 0, .int .i64 0] rfl rfl rfl rfl rfl rfl (by simp [Value.oneCell']) (Nat.le_of_ble_eq_true rfl) rfl rfl rfl ?_; clear hS; intro w5 hS
  refine wpList_nil ?_
  replace hA := hA.sel [4] (e' := [(4, .pointer (some ⟨b1, 0, none⟩))]) rfl
  refine xt_norm ?_
  refine wp_ret (xt_ret ?_)
  refine retc1 tbOk (fn := Tryd.f9) (cs := [.int .i64 0, .int .i64 0, .int .i64 0]) hA rfl rfl rfl rfl rfl (cells_row (hS.heapAt 0 rfl) rfl) ?_
  replace hS := hS.drop1
  exact ⟨rfl, hS⟩

theorem start_arg10 {w0 w : World} {F : List Chunk} {L : Chunk} {b : Nat} {ts : List (Int × Int × Int)} {q : List Int} (hS : St w0 w (L :: F)) (hM : TR 29 b ts q L) (p : Int) (h1 : p < 0) :
    Ret Tryd.prog 10 #[.pointer (some ⟨b, 0, none⟩), .int .i64 p] w (fun v w' => ∃ L', TR 29 b (ts) (q) L' ∧ v = .tuple #[.int .i64 0, .iface 53 (.int .i64 4)] ∧ St w0 w' (L' :: F)) := by
  obtain ⟨v, C, v2, C2, hO, hQ, rfl⟩ := hM
  obtain ⟨A, c, rfl, hmc, hcx⟩ := hO.open'
  obtain ⟨A2, c2, rfl, hmc2, hcx2⟩ := hQ.open'
  replace hS : St w0 w ([(b, rowO [.slice A ts.length c, .slice A2 q.length c2] 29)] :: C :: C2 :: F) := hS.split3
  refine enter (vs := [.pointer (some ⟨b, 0, none⟩), .int .i64 p]) 48 Tryd.func10 rfl rfl (by simp) ?_; intro a hA
  refine wp_seq ?_
  refine wp_region_lit ?_
  refine st_run tbOk 2 hA (e' := (5, .nilIface) :: (4, .int .i64 0) :: _) rfl ?_; clear hA; intro a hA
  refine wpList_nil ?_
  replace hA := hA.sel [0, 1] (e' := [(0, .pointer (some ⟨b, 0, none⟩)), (1, .int .i64 p)]) rfl
  refine xt_norm ?_
  refine wp_seq ?_
  refine wp_block ?_
  refine wp_seq ?_
  refine wp_region_lit ?_
  refine st_run tbOk 3 hA (e' := (7, .bool (decide (p < 0))) :: (9, .bool (decide (p < 0))) :: (8, .int .i64 p) :: _) rfl ?_; clear hA; intro a hA
  refine wpList_nil ?_
  replace hA := hA.sel [0, 1, 7] (e' := [(0, .pointer (some ⟨b, 0, none⟩)), (1, .int .i64 p), (7, .bool (decide (p < 0)))]) rfl
  refine xt_norm ?_
  have hc1 : p < 0 := h1
  replace hA := hA.rw 7 (v' := .bool true) rfl (vb_true hc1)
  refine cd_cond_t hA rfl ?_
  refine wp_seq ?_
  refine wp_region_lit ?_
  refine st_run tbOk 3 hA (e' := (5, .iface 53 (.int .i64 4)) :: (4, .int .i64 0) :: (10, .iface 53 (.int .i64 4)) :: _) rfl ?_; clear hA; intro a hA
  refine wpList_nil ?_
  replace hA := hA.sel [4, 5] (e' := [(4, .int .i64 0), (5, .iface 53 (.int .i64 4))]) rfl
  refine xt_norm ?_
  refine wp_ret (xb_ret (xt_ret ?_))
  refine ret2 (fn := Tryd.f10) hA rfl rfl rfl ?_
  replace hS := hS.front 2 (C := C2) (L' := [(b, rowO [.slice A ts.length c, .slice A2 q.length c2] 29)] :: C :: F) rfl rfl
  replace hS := hS.front 2 (C := C) (L' := C2 :: [(b, rowO [.slice A ts.length c, .slice A2 q.length c2] 29)] :: F) rfl rfl
  replace hS := hS.front 2 (C := [(b, rowO [.slice A ts.length c, .slice A2 q.length c2] 29)]) (L' := C :: C2 :: F) rfl rfl
  replace hS := hS.join3
  exact ⟨_, ⟨_, _, _, _, hO, hQ, rfl⟩, rfl, hS⟩

theorem start_full10 {w0 w : World} {F : List Chunk} {L : Chunk} {b : Nat} {ts : List (Int × Int × Int)} {q : List Int} (hS : St w0 w (L :: F)) (hM : TR 29 b ts q L) (p : Int) (h1 : 0 ≤ p) (h2 : 64 ≤ ts.length) :
    Ret Tryd.prog 10 #[.pointer (some ⟨b, 0, none⟩), .int .i64 p] w (fun v w' => ∃ L', TR 29 b (ts) (q) L' ∧ v = .tuple #[.int .i64 0, .iface 53 (.int .i64 5)] ∧ St w0 w' (L' :: F)) := by
  obtain ⟨v, C, v2, C2, hO, hQ, rfl⟩ := hM
  obtain ⟨A, c, rfl, hmc, hcx⟩ := hO.open'
  obtain ⟨A2, c2, rfl, hmc2, hcx2⟩ := hQ.open'
  replace hS : St w0 w ([(b, rowO [.slice A ts.length c, .slice A2 q.length c2] 29)] :: C :: C2 :: F) := hS.split3
  refine enter (vs := [.pointer (some ⟨b, 0, none⟩), .int .i64 p]) 48 Tryd.func10 rfl rfl (by simp) ?_; intro a hA
  refine wp_seq ?_
  refine wp_region_lit ?_
  refine st_run tbOk 2 hA (e' := (5, .nilIface) :: (4, .int .i64 0) :: _) rfl ?_; clear hA; intro a hA
  refine wpList_nil ?_
  replace hA := hA.sel [0, 1] (e' := [(0, .pointer (some ⟨b, 0, none⟩)), (1, .int .i64 p)]) rfl
  refine xt_norm ?_
  refine wp_seq ?_
  refine wp_block ?_
  refine wp_seq ?_
  refine wp_region_lit ?_
  refine st_run tbOk 3 hA (e' := (7, .bool (decide (p < 0))) :: (9, .bool (decide (p < 0))) :: (8, .int .i64 p) :: _) rfl ?_; clear hA; intro a hA
  refine wpList_nil ?_
  replace hA := hA.sel [0, 1, 7] (e' := [(0, .pointer (some ⟨b, 0, none⟩)), (1, .int .i64 p), (7, .bool (decide (p < 0)))]) rfl
  refine xt_norm ?_
  have hc1 : ¬ (p < 0) := by omega
  replace hA := hA.rw 7 (v' := .bool false) rfl (vb_false hc1)
  refine cd_cond_f hA rfl ?_
  refine wp_seq ?_
  refine wp_region_lit ?_
  refine st_run tbOk 3 hA (e' := (14, .pointer (some ⟨b, 0, none⟩)) :: (13, .pointer (some ⟨b, 0, none⟩)) :: (12, .pointer (some ⟨b, 0, none⟩)) :: _) rfl ?_; clear hA; intro a hA
  refine st_val hA rfl rfl (by decide) (rn_load tbOk hA rfl rfl rfl rfl (cell_row (hS.heapAt 0 rfl) rfl)) ?_; clear hA; intro a hA
  refine st_run tbOk 3 hA (e' := (11, .bool (decide (((ts.length : Nat) : Int) ≥ 64))) :: (17, .bool (decide (((ts.length : Nat) : Int) ≥ 64))) :: (16, .int .i64 ((ts.length : Nat) : Int)) :: _) rfl ?_; clear hA; intro a hA
  refine wpList_nil ?_
  replace hA := hA.sel [0, 1, 11] (e' := [(0, .pointer (some ⟨b, 0, none⟩)), (1, .int .i64 p), (11, .bool (decide (((ts.length : Nat) : Int) ≥ 64)))]) rfl
  refine xt_norm ?_
  have hc2 : ((ts.length : Nat) : Int) ≥ 64 := by omega
  replace hA := hA.rw 11 (v' := .bool true) rfl (vb_true hc2)
  refine cd_cond_t hA rfl ?_
  refine wp_seq ?_
  refine wp_region_lit ?_
  refine st_run tbOk 3 hA (e' := (5, .iface 53 (.int .i64 5)) :: (4, .int .i64 0) :: (18, .iface 53 (.int .i64 5)) :: _) rfl ?_; clear hA; intro a hA
  refine wpList_nil ?_
  replace hA := hA.sel [4, 5] (e' := [(4, .int .i64 0), (5, .iface 53 (.int .i64 5))]) rfl
  refine xt_norm ?_
  refine wp_ret (xb_ret (xt_ret ?_))
  refine ret2 (fn := Tryd.f10) hA rfl rfl rfl ?_
  replace hS := hS.front 2 (C := C2) (L' := [(b, rowO [.slice A ts.length c, .slice A2 q.length c2] 29)] :: C :: F) rfl rfl
  replace hS := hS.front 2 (C := C) (L' := C2 :: [(b, rowO [.slice A ts.length c, .slice A2 q.length c2] 29)] :: F) rfl rfl
  replace hS := hS.front 2 (C := [(b, rowO [.slice A ts.length c, .slice A2 q.length c2] 29)]) (L' := C :: C2 :: F) rfl rfl
  replace hS := hS.join3
  exact ⟨_, ⟨_, _, _, _, hO, hQ, rfl⟩, rfl, hS⟩

theorem start_ok10 {w0 w : World} {F : List Chunk} {L : Chunk} {b : Nat} {ts : List (Int × Int × Int)} {q : List Int} (hS : St w0 w (L :: F)) (hM : TR 29 b ts q L) (p : Int) (h1 : 0 ≤ p) (h2 : ts.length < 64) (h3 : q.any (fun y => y == ((ts.length : Nat) : Int)) = false) (h4 : q.length < 64) :
    Ret Tryd.prog 10 #[.pointer (some ⟨b, 0, none⟩), .int .i64 p] w (fun v w' => ∃ L', TR 29 b (ts ++ [(p, 1, 0)]) (q ++ [((ts.length : Nat) : Int)]) L' ∧ v = .tuple #[.int .i64 ((ts.length : Nat) : Int), .nilIface] ∧ St w0 w' (L' :: F)) := by
  obtain ⟨v, C, v2, C2, hO, hQ, rfl⟩ := hM
  obtain ⟨A, c, rfl, hmc, hcx⟩ := hO.open'
  obtain ⟨A2, c2, rfl, hmc2, hcx2⟩ := hQ.open'
  replace hS : St w0 w ([(b, rowO [.slice A ts.length c, .slice A2 q.length c2] 29)] :: C :: C2 :: F) := hS.split3
  refine enter (vs := [.pointer (some ⟨b, 0, none⟩), .int .i64 p]) 48 Tryd.func10 rfl rfl (by simp) ?_; intro a hA
  refine wp_seq ?_
  refine wp_region_lit ?_
  refine st_run tbOk 2 hA (e' := (5, .nilIface) :: (4, .int .i64 0) :: _) rfl ?_; clear hA; intro a hA
  refine wpList_nil ?_
  replace hA := hA.sel [0, 1] (e' := [(0, .pointer (some ⟨b, 0, none⟩)), (1, .int .i64 p)]) rfl
  refine xt_norm ?_
  refine wp_seq ?_
  refine wp_block ?_
  refine wp_seq ?_
  refine wp_region_lit ?_
  refine st_run tbOk 3 hA (e' := (7, .bool (decide (p < 0))) :: (9, .bool (decide (p < 0))) :: (8, .int .i64 p) :: _) rfl ?_; clear hA; intro a hA
  refine wpList_nil ?_
  replace hA := hA.sel [0, 1, 7] (e' := [(0, .pointer (some ⟨b, 0, none⟩)), (1, .int .i64 p), (7, .bool (decide (p < 0)))]) rfl
  refine xt_norm ?_
  have hc1 : ¬ (p < 0) := by omega
  replace hA := hA.rw 7 (v' := .bool false) rfl (vb_false hc1)
  refine cd_cond_f hA rfl ?_
  refine wp_seq ?_
  refine wp_region_lit ?_
  refine st_run tbOk 3 hA (e' := (14, .pointer (some ⟨b, 0, none⟩)) :: (13, .pointer (some ⟨b, 0, none⟩)) :: (12, .pointer (some ⟨b, 0, none⟩)) :: _) rfl ?_; clear hA; intro a hA
  refine st_val hA rfl rfl (by decide) (rn_load tbOk hA rfl rfl rfl rfl (cell_row (hS.heapAt 0 rfl) rfl)) ?_; clear hA; intro a hA
  refine st_run tbOk 3 hA (e' := (11, .bool (decide (((ts.length : Nat) : Int) ≥ 64))) :: (17, .bool (decide (((ts.length : Nat) : Int) ≥ 64))) :: (16, .int .i64 ((ts.length : Nat) : Int)) :: _) rfl ?_; clear hA; intro a hA
  refine wpList_nil ?_
  replace hA := hA.sel [0, 1, 11] (e' := [(0, .pointer (some ⟨b, 0, none⟩)), (1, .int .i64 p), (11, .bool (decide (((ts.length : Nat) : Int) ≥ 64)))]) rfl
  refine xt_norm ?_
  have hc2 : ¬ (((ts.length : Nat) : Int) ≥ 64) := by omega
  replace hA := hA.rw 11 (v' := .bool false) rfl (vb_false hc2)
  refine cd_cond_f hA rfl ?_
  refine wp_skip ?_
  refine xb_norm ?_
  refine xt_norm ?_
  refine wp_seq ?_
  refine wp_region_lit ?_
  refine st_run tbOk 3 hA (e' := (21, .pointer (some ⟨b, 0, none⟩)) :: (20, .pointer (some ⟨b, 0, none⟩)) :: (19, .pointer (some ⟨b, 0, none⟩)) :: _) rfl ?_; clear hA; intro a hA
  refine st_val hA rfl rfl (by decide) (rn_load tbOk hA rfl rfl rfl rfl (cell_row (hS.heapAt 0 rfl) rfl)) ?_; clear hA; intro a hA
  refine st_run tbOk 2 hA (e' := (6, .int .i64 ((ts.length : Nat) : Int)) :: (23, .int .i64 ((ts.length : Nat) : Int)) :: _) rfl ?_; clear hA; intro a hA
  refine wpList_nil ?_
  replace hA := hA.sel [0, 1, 6] (e' := [(0, .pointer (some ⟨b, 0, none⟩)), (1, .int .i64 p), (6, .int .i64 ((ts.length : Nat) : Int))]) rfl
  refine xt_norm ?_
  refine wp_seq ?_
  refine wp_region_lit ?_
  refine st_run tbOk 4 hA (e' := (27, .pointer (some ⟨b, 0, none⟩)) :: (26, .pointer (some ⟨b, 0, none⟩)) :: (25, .pointer (some ⟨b, 0, none⟩)) :: (24, .pointer (some ⟨b, 0, none⟩)) :: _) rfl ?_; clear hA; intro a hA
  refine st_val hA rfl rfl (by decide) (rn_load tbOk hA rfl rfl rfl rfl (cell_row (hS.heapAt 0 rfl) rfl)) ?_; clear hA; intro a hA
  refine st_run tbOk 2 hA (e' := (30, .agg #[.int .i64 p, .int .i64 1, .int .i64 0]) :: (29, .int .i64 p) :: _) rfl ?_; clear hA; intro a hA
  refine st_buildSlice tbOk hA hS [.int .i64 p, .int .i64 1, .int .i64 0] rfl rfl rfl rfl rfl (by decide) (by kernel_rfl) rfl rfl (by decide) ?_; clear hA hS; intro b3 w4 a hS hA
  replace hS := hS.front 2 (C := C) (L' := [(b3, rowO [.int .i64 p, .int .i64 1, .int .i64 0] 41)] :: [(b, rowO [.slice A ts.length c, .slice A2 q.length c2] 29)] :: C2 :: F) rfl rfl
  refine st_append tbOk hA (m := ts.length) (q := 1) (xs := rows encThread ts) (news := rows encThread ([(p, 1, 0)] : List (Int × Int × Int))) rfl rfl rfl rfl rfl rfl rfl rfl (by decide) hO hS ((Own.full (T := 41) (size := 3) (g := b3) (m := 1) rfl (by decide)).rd (hS.own_ 1 rfl)) (rows_one encThread_ok _) (maxLen_le (by first | omega | (simp; omega))) (by show (ts.length + 1) * 24 ≤ 140737488355328; first | omega | (simp; omega)) rfl rfl (by decide) ?_
  clear hA hS; intro v5 w6 C7 a hO7 hS hA
  replace hO7 := Own.app (l := ts) (l2 := ([(p, 1, 0)] : List (Int × Int × Int))) hO7
  obtain ⟨A8, c9, rfl, hmc9, hxc9⟩ := hO7.open'
  refine st_run tbOk 2 hA (e' := (34, .pointer (some ⟨b, 0, none⟩)) :: (33, .pointer (some ⟨b, 0, none⟩)) :: _) rfl ?_; clear hA; intro a hA
  replace hS := hS.front 2 (C := [(b, rowO [.slice A ts.length c, .slice A2 q.length c2] 29)]) (L' := C7 :: [(b3, rowO [.int .i64 p, .int .i64 1, .int .i64 0] 41)] :: C2 :: F) rfl rfl
  refine st_store tbOk hA hS [.slice A8 ((ts ++ ([(p, 1, 0)] : List (Int × Int × Int))).length) c9] [.slice A8 ((ts ++ ([(p, 1, 0)] : List (Int × Int × Int))).length) c9, .slice A2 q.length c2] rfl rfl rfl rfl rfl rfl (by intro u hu; rw [List.mem_singleton.1 hu]; rfl) (Nat.le_of_ble_eq_true rfl) rfl rfl rfl ?_; clear hS; intro w10 hS
  refine wpList_nil ?_
  replace hA := hA.sel [0, 6] (e' := [(0, .pointer (some ⟨b, 0, none⟩)), (6, .int .i64 ((ts.length : Nat) : Int))]) rfl
  refine xt_norm ?_
  refine wp_seq ?_
  refine wp_region_lit ?_
  refine st_run tbOk 4 hA (e' := (39, .pointer (some ⟨b, 1, none⟩)) :: (38, .pointer (some ⟨b, 0, none⟩)) :: (37, .pointer (some ⟨b, 0, none⟩)) :: (36, .pointer (some ⟨b, 0, none⟩)) :: _) rfl ?_; clear hA; intro a hA
  refine st_val hA rfl rfl (by decide) (rn_load tbOk hA rfl rfl rfl rfl (cell_row (hS.heapAt 0 rfl) rfl)) ?_; clear hA; intro a hA
  refine st_run tbOk 1 hA (e' := (41, .int .i64 ((ts.length : Nat) : Int)) :: _) rfl ?_; clear hA; intro a hA
  refine st_call0 hA rfl rfl rfl isfn20 rfl rfl (by decide) (push_ok20 hS (l := q) (RdS.own hQ 3 rfl) ((ts.length : Nat) : Int) h3 h4) ?_
  clear hA hS; rintro _ w12 a ⟨v11, C13, rfl, hO13, hS⟩ hA
  obtain ⟨A14, c15, rfl, hmc15, hxc15⟩ := hO13.open'
  refine st_run tbOk 5 hA (e' := (46, .pointer (some ⟨b, 1, none⟩)) :: (45, .pointer (some ⟨b, 0, none⟩)) :: (44, .nilIface) :: (43, .slice A14 ((q ++ [((ts.length : Nat) : Int)]).length) c15) :: (35, .tuple #[.slice A14 ((q ++ [((ts.length : Nat) : Int)]).length) c15, .nilIface]) :: _) rfl ?_; clear hA; intro a hA
  replace hS := hS.front 1 (C := [(b, rowO [.slice A8 ((ts ++ ([(p, 1, 0)] : List (Int × Int × Int))).length) c9, .slice A2 q.length c2] 29)]) (L' := C13 :: C7 :: [(b3, rowO [.int .i64 p, .int .i64 1, .int .i64 0] 41)] :: C2 :: F) rfl rfl
  refine st_store tbOk hA hS [.slice A14 ((q ++ [((ts.length : Nat) : Int)]).length) c15] [.slice A8 ((ts ++ ([(p, 1, 0)] : List (Int × Int × Int))).length) c9, .slice A14 ((q ++ [((ts.length : Nat) : Int)]).length) c15] rfl rfl rfl rfl rfl rfl (by intro u hu; rw [List.mem_singleton.1 hu]; rfl) (Nat.le_of_ble_eq_true rfl) rfl rfl rfl ?_; clear hS; intro w16 hS
  refine wpList_nil ?_
  replace hA := hA.sel [6] (e' := [(6, .int .i64 ((ts.length : Nat) : Int))]) rfl
  refine xt_norm ?_
  refine wp_seq ?_
  refine wp_region_lit ?_
  refine st_run tbOk 3 hA (e' := (5, .nilIface) :: (4, .int .i64 ((ts.length : Nat) : Int)) :: (47, .int .i64 ((ts.length : Nat) : Int)) :: _) rfl ?_; clear hA; intro a hA
  refine wpList_nil ?_
  replace hA := hA.sel [4, 5] (e' := [(4, .int .i64 ((ts.length : Nat) : Int)), (5, .nilIface)]) rfl
  refine xt_norm ?_
  refine wp_ret ?_
  refine ret2 (fn := Tryd.f10) hA rfl rfl rfl ?_
  replace hS := hS.front 1 (C := C13) (L' := [(b, rowO [.slice A8 ((ts ++ ([(p, 1, 0)] : List (Int × Int × Int))).length) c9, .slice A14 ((q ++ [((ts.length : Nat) : Int)]).length) c15] 29)] :: C7 :: [(b3, rowO [.int .i64 p, .int .i64 1, .int .i64 0] 41)] :: C2 :: F) rfl rfl
  replace hS := hS.front 2 (C := C7) (L' := C13 :: [(b, rowO [.slice A8 ((ts ++ ([(p, 1, 0)] : List (Int × Int × Int))).length) c9, .slice A14 ((q ++ [((ts.length : Nat) : Int)]).length) c15] 29)] :: [(b3, rowO [.int .i64 p, .int .i64 1, .int .i64 0] 41)] :: C2 :: F) rfl rfl
  replace hS := hS.front 2 (C := [(b, rowO [.slice A8 ((ts ++ ([(p, 1, 0)] : List (Int × Int × Int))).length) c9, .slice A14 ((q ++ [((ts.length : Nat) : Int)]).length) c15] 29)]) (L' := C7 :: C13 :: [(b3, rowO [.int .i64 p, .int .i64 1, .int .i64 0] 41)] :: C2 :: F) rfl rfl
  replace hS := (hS.front 3 rfl rfl).drop1
  replace hS := (hS.front 3 rfl rfl).drop1
  replace hS := hS.join3
  exact ⟨_, ⟨_, _, _, _, hO7, hO13, rfl⟩, rfl, hS⟩

theorem turn_lo21 {w0 w : World} {F : List Chunk} {L : Chunk} {b : Nat} {ts : List (Int × Int × Int)} {q : List Int} (hS : St w0 w (L :: F)) (hM : TR 29 b ts q L) (id fr to wt : Int) (h1 : id < 0) (h2 : ¬ 0 = fr) :
    Ret Tryd.prog 21 #[.pointer (some ⟨b, 0, none⟩), .int .i64 id, .int .i64 fr, .int .i64 to, .int .i64 wt] w (fun v w' => ∃ L', TR 29 b (ts) (q) L' ∧ v = .iface 53 (.int .i64 15) ∧ St w0 w' (L' :: F)) := by
  obtain ⟨v, C, v2, C2, hO, hQ, rfl⟩ := hM
  obtain ⟨A, c, rfl, hmc, hcx⟩ := hO.open'
  obtain ⟨A2, c2, rfl, hmc2, hcx2⟩ := hQ.open'
  replace hS : St w0 w ([(b, rowO [.slice A ts.length c, .slice A2 q.length c2] 29)] :: C :: C2 :: F) := hS.split3
  refine enter (vs := [.pointer (some ⟨b, 0, none⟩), .int .i64 id, .int .i64 fr, .int .i64 to, .int .i64 wt]) 57 Tryd.func21 rfl rfl (by simp) ?_; intro a hA
  refine wp_seq ?_
  refine wp_region_lit ?_
  refine st_run tbOk 1 hA (e' := (10, .nilIface) :: _) rfl ?_; clear hA; intro a hA
  refine wpList_nil ?_
  replace hA := hA.sel [0, 1, 2, 3, 4] (e' := [(0, .pointer (some ⟨b, 0, none⟩)), (1, .int .i64 id), (2, .int .i64 fr), (3, .int .i64 to), (4, .int .i64 wt)]) rfl
  refine xt_norm ?_
  refine wp_seq ?_
  refine wp_seq ?_
  refine wp_region_lit ?_
  refine st_run tbOk 2 hA (e' := (12, .int .i64 id) :: (11, .pointer (some ⟨b, 0, none⟩)) :: _) rfl ?_; clear hA; intro a hA
  refine st_call0 hA rfl rfl rfl isfn9 rfl rfl (by decide) (getO_lo9 hS (RdS.own hO 1 rfl) id h1) ?_
  clear hA hS; rintro v w1 a ⟨rfl, hS⟩ hA
  refine st_run tbOk 3 hA (e' := (16, .bool (0 != fr)) :: (15, .int .i64 fr) :: (14, .int .i64 0) :: _) rfl ?_; clear hA; intro a hA
  refine wpList_nil ?_
  replace hA := hA.sel [0, 1, 3, 4, 16] (e' := [(0, .pointer (some ⟨b, 0, none⟩)), (1, .int .i64 id), (3, .int .i64 to), (4, .int .i64 wt), (16, .bool (0 != fr))]) rfl
  refine xt_norm ?_
  have hc2 : ¬ (0 = fr) := h2
  replace hA := hA.rw 16 (v' := .bool true) rfl (vb_ne_t hc2)
  refine cd_cond_t hA rfl ?_
  refine wp_seq ?_
  refine wp_region_lit ?_
  refine st_run tbOk 2 hA (e' := (10, .iface 53 (.int .i64 15)) :: (17, .iface 53 (.int .i64 15)) :: _) rfl ?_; clear hA; intro a hA
  refine wpList_nil ?_
  replace hA := hA.sel [10] (e' := [(10, .iface 53 (.int .i64 15))]) rfl
  refine xt_norm ?_
  refine wp_ret (xt_ret ?_)
  refine ret1 (fn := Tryd.f21) hA rfl rfl ?_
  replace hS := hS.front 2 (C := C2) (L' := [(b, rowO [.slice A ts.length c, .slice A2 q.length c2] 29)] :: C :: F) rfl rfl
  replace hS := hS.front 2 (C := C) (L' := C2 :: [(b, rowO [.slice A ts.length c, .slice A2 q.length c2] 29)] :: F) rfl rfl
  replace hS := hS.front 2 (C := [(b, rowO [.slice A ts.length c, .slice A2 q.length c2] 29)]) (L' := C :: C2 :: F) rfl rfl
  replace hS := hS.join3
  exact ⟨_, ⟨_, _, _, _, hO, hQ, rfl⟩, rfl, hS⟩

theorem turn_hi21 {w0 w : World} {F : List Chunk} {L : Chunk} {b : Nat} {ts : List (Int × Int × Int)} {q : List Int} (hS : St w0 w (L :: F)) (hM : TR 29 b ts q L) (id fr to wt : Int) (h1 : ((ts.length : Nat) : Int) ≤ id) (h2 : ¬ 0 = fr) :
    Ret Tryd.prog 21 #[.pointer (some ⟨b, 0, none⟩), .int .i64 id, .int .i64 fr, .int .i64 to, .int .i64 wt] w (fun v w' => ∃ L', TR 29 b (ts) (q) L' ∧ v = .iface 53 (.int .i64 15) ∧ St w0 w' (L' :: F)) := by
  obtain ⟨v, C, v2, C2, hO, hQ, rfl⟩ := hM
  obtain ⟨A, c, rfl, hmc, hcx⟩ := hO.open'
  obtain ⟨A2, c2, rfl, hmc2, hcx2⟩ := hQ.open'
  replace hS : St w0 w ([(b, rowO [.slice A ts.length c, .slice A2 q.length c2] 29)] :: C :: C2 :: F) := hS.split3
  refine enter (vs := [.pointer (some ⟨b, 0, none⟩), .int .i64 id, .int .i64 fr, .int .i64 to, .int .i64 wt]) 57 Tryd.func21 rfl rfl (by simp) ?_; intro a hA
  refine wp_seq ?_
  refine wp_region_lit ?_
  refine st_run tbOk 1 hA (e' := (10, .nilIface) :: _) rfl ?_; clear hA; intro a hA
  refine wpList_nil ?_
  replace hA := hA.sel [0, 1, 2, 3, 4] (e' := [(0, .pointer (some ⟨b, 0, none⟩)), (1, .int .i64 id), (2, .int .i64 fr), (3, .int .i64 to), (4, .int .i64 wt)]) rfl
  refine xt_norm ?_
  refine wp_seq ?_
  refine wp_seq ?_
  refine wp_region_lit ?_
  refine st_run tbOk 2 hA (e' := (12, .int .i64 id) :: (11, .pointer (some ⟨b, 0, none⟩)) :: _) rfl ?_; clear hA; intro a hA
  refine st_call0 hA rfl rfl rfl isfn9 rfl rfl (by decide) (getO_hi9 hS (RdS.own hO 1 rfl) id h1) ?_
  clear hA hS; rintro v w1 a ⟨rfl, hS⟩ hA
  refine st_run tbOk 3 hA (e' := (16, .bool (0 != fr)) :: (15, .int .i64 fr) :: (14, .int .i64 0) :: _) rfl ?_; clear hA; intro a hA
  refine wpList_nil ?_
  replace hA := hA.sel [0, 1, 3, 4, 16] (e' := [(0, .pointer (some ⟨b, 0, none⟩)), (1, .int .i64 id), (3, .int .i64 to), (4, .int .i64 wt), (16, .bool (0 != fr))]) rfl
  refine xt_norm ?_
  have hc2 : ¬ (0 = fr) := h2
  replace hA := hA.rw 16 (v' := .bool true) rfl (vb_ne_t hc2)
  refine cd_cond_t hA rfl ?_
  refine wp_seq ?_
  refine wp_region_lit ?_
  refine st_run tbOk 2 hA (e' := (10, .iface 53 (.int .i64 15)) :: (17, .iface 53 (.int .i64 15)) :: _) rfl ?_; clear hA; intro a hA
  refine wpList_nil ?_
  replace hA := hA.sel [10] (e' := [(10, .iface 53 (.int .i64 15))]) rfl
  refine xt_norm ?_
  refine wp_ret (xt_ret ?_)
  refine ret1 (fn := Tryd.f21) hA rfl rfl ?_
  replace hS := hS.front 2 (C := C2) (L' := [(b, rowO [.slice A ts.length c, .slice A2 q.length c2] 29)] :: C :: F) rfl rfl
  replace hS := hS.front 2 (C := C) (L' := C2 :: [(b, rowO [.slice A ts.length c, .slice A2 q.length c2] 29)] :: F) rfl rfl
  replace hS := hS.front 2 (C := [(b, rowO [.slice A ts.length c, .slice A2 q.length c2] 29)]) (L' := C :: C2 :: F) rfl rfl
  replace hS := hS.join3
  exact ⟨_, ⟨_, _, _, _, hO, hQ, rfl⟩, rfl, hS⟩

theorem turn_no21 {w0 w : World} {F : List Chunk} {L : Chunk} {b : Nat} {ts : List (Int × Int × Int)} {q : List Int} (hS : St w0 w (L :: F)) (hM : TR 29 b ts q L) (n : Nat) (fr to wt : Int) {p s u1 : Int} (hx : ts[n]? = some (p, s, u1)) (h2 : ¬ s = fr) :
    Ret Tryd.prog 21 #[.pointer (some ⟨b, 0, none⟩), .int .i64 ((n : Nat) : Int), .int .i64 fr, .int .i64 to, .int .i64 wt] w (fun v w' => ∃ L', TR 29 b (ts) (q) L' ∧ v = .iface 53 (.int .i64 15) ∧ St w0 w' (L' :: F)) := by
  obtain ⟨v, C, v2, C2, hO, hQ, rfl⟩ := hM
  obtain ⟨A, c, rfl, hmc, hcx⟩ := hO.open'
  obtain ⟨A2, c2, rfl, hmc2, hcx2⟩ := hQ.open'
  replace hS : St w0 w ([(b, rowO [.slice A ts.length c, .slice A2 q.length c2] 29)] :: C :: C2 :: F) := hS.split3
  refine enter (vs := [.pointer (some ⟨b, 0, none⟩), .int .i64 ((n : Nat) : Int), .int .i64 fr, .int .i64 to, .int .i64 wt]) 57 Tryd.func21 rfl rfl (by simp) ?_; intro a hA
  refine wp_seq ?_
  refine wp_region_lit ?_
  refine st_run tbOk 1 hA (e' := (10, .nilIface) :: _) rfl ?_; clear hA; intro a hA
  refine wpList_nil ?_
  replace hA := hA.sel [0, 1, 2, 3, 4] (e' := [(0, .pointer (some ⟨b, 0, none⟩)), (1, .int .i64 ((n : Nat) : Int)), (2, .int .i64 fr), (3, .int .i64 to), (4, .int .i64 wt)]) rfl
  refine xt_norm ?_
  refine wp_seq ?_
  refine wp_seq ?_
  refine wp_region_lit ?_
  refine st_run tbOk 2 hA (e' := (12, .int .i64 ((n : Nat) : Int)) :: (11, .pointer (some ⟨b, 0, none⟩)) :: _) rfl ?_; clear hA; intro a hA
  refine st_call0 hA rfl rfl rfl isfn9 rfl rfl (by decide) (getO_in9 hS (RdS.own hO 1 rfl) n hx) ?_
  clear hA hS; rintro v w1 a ⟨rfl, hS⟩ hA
  refine st_run tbOk 3 hA (e' := (16, .bool (s != fr)) :: (15, .int .i64 fr) :: (14, .int .i64 s) :: _) rfl ?_; clear hA; intro a hA
  refine wpList_nil ?_
  replace hA := hA.sel [0, 1, 3, 4, 16] (e' := [(0, .pointer (some ⟨b, 0, none⟩)), (1, .int .i64 ((n : Nat) : Int)), (3, .int .i64 to), (4, .int .i64 wt), (16, .bool (s != fr))]) rfl
  refine xt_norm ?_
  have hc2 : ¬ (s = fr) := h2
  replace hA := hA.rw 16 (v' := .bool true) rfl (vb_ne_t hc2)
  refine cd_cond_t hA rfl ?_
  refine wp_seq ?_
  refine wp_region_lit ?_
  refine st_run tbOk 2 hA (e' := (10, .iface 53 (.int .i64 15)) :: (17, .iface 53 (.int .i64 15)) :: _) rfl ?_; clear hA; intro a hA
  refine wpList_nil ?_
  replace hA := hA.sel [10] (e' := [(10, .iface 53 (.int .i64 15))]) rfl
  refine xt_norm ?_
  refine wp_ret (xt_ret ?_)
  refine ret1 (fn := Tryd.f21) hA rfl rfl ?_
  replace hS := hS.front 2 (C := C2) (L' := [(b, rowO [.slice A ts.length c, .slice A2 q.length c2] 29)] :: C :: F) rfl rfl
  replace hS := hS.front 2 (C := C) (L' := C2 :: [(b, rowO [.slice A ts.length c, .slice A2 q.length c2] 29)] :: F) rfl rfl
  replace hS := hS.front 2 (C := [(b, rowO [.slice A ts.length c, .slice A2 q.length c2] 29)]) (L' := C :: C2 :: F) rfl rfl
  replace hS := hS.join3
  exact ⟨_, ⟨_, _, _, _, hO, hQ, rfl⟩, rfl, hS⟩

theorem turn_ok21 {w0 w : World} {F : List Chunk} {L : Chunk} {b : Nat} {ts : List (Int × Int × Int)} {q : List Int} (hS : St w0 w (L :: F)) (hM : TR 29 b ts q L) (n : Nat) (fr to wt : Int) {p s u1 : Int} (hx : ts[n]? = some (p, s, u1)) (h2 : s = fr) (hql : q.length ≤ 64) (h3 : ¬ to = 1) :
    Ret Tryd.prog 21 #[.pointer (some ⟨b, 0, none⟩), .int .i64 ((n : Nat) : Int), .int .i64 fr, .int .i64 to, .int .i64 wt] w (fun v w' => ∃ L', TR 29 b (ts.set n (p, to, wt)) (q.filter (fun x => !(x == ((n : Nat) : Int)))) L' ∧ v = .nilIface ∧ St w0 w' (L' :: F)) := by
  obtain ⟨v, C, v2, C2, hO, hQ, rfl⟩ := hM
  obtain ⟨A, c, rfl, hmc, hcx⟩ := hO.open'
  obtain ⟨A2, c2, rfl, hmc2, hcx2⟩ := hQ.open'
  replace hS : St w0 w ([(b, rowO [.slice A ts.length c, .slice A2 q.length c2] 29)] :: C :: C2 :: F) := hS.split3
  have hn := (List.getElem?_eq_some_iff.1 hx).1
  refine enter (vs := [.pointer (some ⟨b, 0, none⟩), .int .i64 ((n : Nat) : Int), .int .i64 fr, .int .i64 to, .int .i64 wt]) 57 Tryd.func21 rfl rfl (by simp) ?_; intro a hA
  refine wp_seq ?_
  refine wp_region_lit ?_
  refine st_run tbOk 1 hA (e' := (10, .nilIface) :: _) rfl ?_; clear hA; intro a hA
  refine wpList_nil ?_
  replace hA := hA.sel [0, 1, 2, 3, 4] (e' := [(0, .pointer (some ⟨b, 0, none⟩)), (1, .int .i64 ((n : Nat) : Int)), (2, .int .i64 fr), (3, .int .i64 to), (4, .int .i64 wt)]) rfl
  refine xt_norm ?_
  refine wp_seq ?_
  refine wp_seq ?_
  refine wp_region_lit ?_
  refine st_run tbOk 2 hA (e' := (12, .int .i64 ((n : Nat) : Int)) :: (11, .pointer (some ⟨b, 0, none⟩)) :: _) rfl ?_; clear hA; intro a hA
  refine st_call0 hA rfl rfl rfl isfn9 rfl rfl (by decide) (getO_in9 hS (RdS.own hO 1 rfl) n hx) ?_
  clear hA hS; rintro v w1 a ⟨rfl, hS⟩ hA
  refine st_run tbOk 3 hA (e' := (16, .bool (s != fr)) :: (15, .int .i64 fr) :: (14, .int .i64 s) :: _) rfl ?_; clear hA; intro a hA
  refine wpList_nil ?_
  replace hA := hA.sel [0, 1, 3, 4, 16] (e' := [(0, .pointer (some ⟨b, 0, none⟩)), (1, .int .i64 ((n : Nat) : Int)), (3, .int .i64 to), (4, .int .i64 wt), (16, .bool (s != fr))]) rfl
  refine xt_norm ?_
  have hc2 : s = fr := h2
  replace hA := hA.rw 16 (v' := .bool false) rfl (vb_ne_f hc2)
  refine cd_cond_f hA rfl ?_
  refine wp_skip ?_
  refine xt_norm ?_
  refine wp_seq ?_
  obtain ⟨b3, o4, rfl⟩ := hO.isSome (k := n) (by omega)
  replace hS := hS.front 1 (C := C) (L' := [(b, rowO [.slice (some ⟨b3, o4, none⟩) ts.length c, .slice A2 q.length c2] 29)] :: C2 :: F) rfl rfl
  refine wp_draw (fun w' => St w0 w' ([(b, rowO [.slice (some ⟨b3, o4, none⟩) ts.length c, .slice A2 q.length c2] 29)] :: C2 :: F)) [] [(0, true), (1, true), (2, true), (3, true), (4, true), (5, true), (6, true), (7, true), (8, true), (9, true), (10, true), (11, true), (12, true), (13, true), (14, false), (15, true), (16, true), (17, false)] mixed (by kernel_rfl) (by rintro c a w ⟨_, _, h, _⟩; cases h) (by rfl) (by kernel_rfl) ?_
  replace hS := hS.drew
  refine dr_run tbOk 3 hA (hS.tail 1 rfl) (e' := (20, .pointer (some ⟨b, 0, none⟩)) :: (19, .pointer (some ⟨b, 0, none⟩)) :: (18, .pointer (some ⟨b, 0, none⟩)) :: _) rfl ?_; clear hA; intro a hA
  refine dr_y hA rfl rfl rfl (by decide) (hS.tail 1 rfl) (fun w' hS' => rn_load tbOk hA rfl rfl rfl rfl (cell_row (hS'.heapAt 0 rfl) rfl)) ?_; clear hA; intro a hA
  refine dr_run tbOk 4 hA (hS.tail 1 rfl) (e' := (25, .pointer (some ⟨b, 0, none⟩)) :: (24, .pointer (some ⟨b, 0, none⟩)) :: (23, .pointer (some ⟨b, 0, none⟩)) :: (22, .int .i64 ((n : Nat) : Int)) :: _) rfl ?_; clear hA; intro a hA
  refine dr_y hA rfl rfl rfl (by decide) (hS.tail 1 rfl) (fun w' hS' => rn_load tbOk hA rfl rfl rfl rfl (cell_row (hS'.heapAt 0 rfl) rfl)) ?_; clear hA; intro a hA
  refine dr_run tbOk 3 hA (hS.tail 1 rfl) (e' := (29, .int .i64 wt) :: (28, .int .i64 to) :: (27, .int .i64 ((n : Nat) : Int)) :: _) rfl ?_; clear hA; intro a hA
  refine dr_y hA rfl rfl rfl (by decide) (hS.tail 1 rfl) (fun w' hS' => rn_indexAddr tbOk hA n (o4 + (n * 3)) rfl rfl rfl rfl rfl rfl (by rfl) (by omega) (by first | rfl | simp [Nat.mul_one, Nat.zero_add] | omega)) ?_; clear hA; intro a hA
  refine dr_run tbOk 1 hA (hS.tail 1 rfl) (e' := (31, .pointer (some ⟨b3, o4 + (n * 3) + 1, none⟩)) :: _) rfl ?_; clear hA; intro a hA
  refine dr_b (o := _) rfl ?_
  refine st_store_own tbOk hA hO hS ((n * 3) + 1) (o4 + (n * 3) + 1) [.int .i64 to] (rows encThread (ts.set n (p, to, u1))) rfl rfl rfl rfl (by rfl) rfl rfl (by first | (intro u hu; rw [List.mem_singleton.1 hu]; rfl) | simp [Value.oneCell']) (by simp only [rows_length encThread_ok]; simp; omega) (rows_setf encThread_ok (p, to, u1) hx 1 [.int .i64 to] (Nat.le_of_ble_eq_true rfl) rfl) rfl rfl ?_; clear hS; intro w5 C6 hO6 hS
  refine dr_nil (.inr (hS.tail 1 rfl)) ?_
  refine dr_y hA rfl rfl rfl (by decide) (hS.tail 1 rfl) (fun w' hS' => rn_indexAddr tbOk hA n (o4 + (n * 3)) rfl rfl rfl rfl rfl rfl (by rfl) (by omega) (by first | rfl | simp [Nat.mul_one, Nat.zero_add] | omega)) ?_; clear hA; intro a hA
  refine dr_run tbOk 1 hA (hS.tail 1 rfl) (e' := (33, .pointer (some ⟨b3, o4 + (n * 3) + 2, none⟩)) :: _) rfl ?_; clear hA; intro a hA
  refine dr_b (o := _) rfl ?_
  refine st_store_own tbOk hA hO6 hS ((n * 3) + 2) (o4 + (n * 3) + 2) [.int .i64 wt] (rows encThread ((ts.set n (p, to, u1)).set n (p, to, wt))) rfl rfl rfl rfl (by rfl) rfl rfl (by first | (intro u hu; rw [List.mem_singleton.1 hu]; rfl) | simp [Value.oneCell']) (by simp only [rows_length encThread_ok]; simp; omega) (rows_setf encThread_ok (p, to, wt) (List.getElem?_set_self hn) 2 [.int .i64 wt] (Nat.le_of_ble_eq_true rfl) rfl) rfl rfl ?_; clear hS; intro w7 C8 hO8 hS
  refine dr_nil (.inr (hS.tail 1 rfl)) ?_
  refine dr_end ?_
  replace hA := hA.sel [0, 1, 3] (e' := [(0, .pointer (some ⟨b, 0, none⟩)), (1, .int .i64 ((n : Nat) : Int)), (3, .int .i64 to)]) rfl
  refine xt_norm ?_
  refine wp_seq ?_
  refine wp_region_lit ?_
  have hss : (ts.set n (p, to, u1)).set n (p, to, wt) = ts.set n (p, to, wt) := by rw [List.set_set]
  rw [hss] at hO8; clear hss
  refine st_run tbOk 4 hA (e' := (37, .pointer (some ⟨b, 1, none⟩)) :: (36, .pointer (some ⟨b, 0, none⟩)) :: (35, .pointer (some ⟨b, 0, none⟩)) :: (34, .pointer (some ⟨b, 0, none⟩)) :: _) rfl ?_; clear hA; intro a hA
  refine st_val hA rfl rfl (by decide) (rn_load tbOk hA rfl rfl rfl rfl (cell_row (hS.heapAt 1 rfl) rfl)) ?_; clear hA; intro a hA
  refine st_run tbOk 1 hA (e' := (39, .int .i64 ((n : Nat) : Int)) :: _) rfl ?_; clear hA; intro a hA
  refine st_call0 hA rfl rfl rfl isfn26 rfl rfl (by decide) (drop26 hS (l := q) (RdS.own hQ 2 rfl) ((n : Nat) : Int) (by omega)) ?_
  clear hA hS; rintro v9 w10 a ⟨C11, hO11, hS⟩ hA
  obtain ⟨A12, c13, rfl, hmc13, hxc13⟩ := hO11.open'
  refine st_run tbOk 2 hA (e' := (42, .pointer (some ⟨b, 1, none⟩)) :: (41, .pointer (some ⟨b, 0, none⟩)) :: _) rfl ?_; clear hA; intro a hA
  replace hS := hS.front 2 (C := [(b, rowO [.slice (some ⟨b3, o4, none⟩) ts.length c, .slice A2 q.length c2] 29)]) (L' := C11 :: C8 :: C2 :: F) rfl rfl
  refine st_store tbOk hA hS [.slice A12 ((q.filter (fun x => !(x == ((n : Nat) : Int)))).length) c13] [.slice (some ⟨b3, o4, none⟩) ts.length c, .slice A12 ((q.filter (fun x => !(x == ((n : Nat) : Int)))).length) c13] rfl rfl rfl rfl rfl rfl (by intro u hu; rw [List.mem_singleton.1 hu]; rfl) (Nat.le_of_ble_eq_true rfl) rfl rfl rfl ?_; clear hS; intro w14 hS
  refine wpList_nil ?_
  replace hA := hA.sel [0, 1, 3] (e' := [(0, .pointer (some ⟨b, 0, none⟩)), (1, .int .i64 ((n : Nat) : Int)), (3, .int .i64 to)]) rfl
  refine xt_norm ?_
  refine wp_seq ?_
  refine wp_seq ?_
  refine wp_region_lit ?_
  refine st_run tbOk 2 hA (e' := (44, .bool (to == 1)) :: (43, .int .i64 to) :: _) rfl ?_; clear hA; intro a hA
  refine wpList_nil ?_
  replace hA := hA.sel [0, 1, 44] (e' := [(0, .pointer (some ⟨b, 0, none⟩)), (1, .int .i64 ((n : Nat) : Int)), (44, .bool (to == 1))]) rfl
  refine xt_norm ?_
  have hc15 : ¬ (to = 1) := h3
  replace hA := hA.rw 44 (v' := .bool false) rfl (vb_eq_f hc15)
  refine cd_cond_f hA rfl ?_
  refine wp_skip ?_
  refine xt_norm ?_
  refine wp_seq ?_
  refine wp_region_lit ?_
  refine st_run tbOk 1 hA (e' := (10, .nilIface) :: _) rfl ?_; clear hA; intro a hA
  refine wpList_nil ?_
  replace hA := hA.sel [10] (e' := [(10, .nilIface)]) rfl
  refine xt_norm ?_
  refine wp_ret ?_
  refine ret1 (fn := Tryd.f21) hA rfl rfl ?_
  replace hS := hS.front 1 (C := C11) (L' := [(b, rowO [.slice (some ⟨b3, o4, none⟩) ts.length c, .slice A12 ((q.filter (fun x => !(x == ((n : Nat) : Int)))).length) c13] 29)] :: C8 :: C2 :: F) rfl rfl
  replace hS := hS.front 2 (C := C8) (L' := C11 :: [(b, rowO [.slice (some ⟨b3, o4, none⟩) ts.length c, .slice A12 ((q.filter (fun x => !(x == ((n : Nat) : Int)))).length) c13] 29)] :: C2 :: F) rfl rfl
  replace hS := hS.front 2 (C := [(b, rowO [.slice (some ⟨b3, o4, none⟩) ts.length c, .slice A12 ((q.filter (fun x => !(x == ((n : Nat) : Int)))).length) c13] 29)]) (L' := C8 :: C11 :: C2 :: F) rfl rfl
  replace hS := (hS.front 3 rfl rfl).drop1
  replace hS := hS.join3
  exact ⟨_, ⟨_, _, _, _, (by rw [List.length_set]; exact hO8), hO11, rfl⟩, rfl, hS⟩

theorem turn_rdy21 {w0 w : World} {F : List Chunk} {L : Chunk} {b : Nat} {ts : List (Int × Int × Int)} {q : List Int} (hS : St w0 w (L :: F)) (hM : TR 29 b ts q L) (n : Nat) (fr to wt : Int) {p s u1 : Int} (hx : ts[n]? = some (p, s, u1)) (h2 : s = fr) (hql : q.length ≤ 64) (h3 : to = 1) (h4 : (q.filter (fun x => !(x == ((n : Nat) : Int)))).length < 64) :
    Ret Tryd.prog 21 #[.pointer (some ⟨b, 0, none⟩), .int .i64 ((n : Nat) : Int), .int .i64 fr, .int .i64 to, .int .i64 wt] w (fun v w' => ∃ L', TR 29 b (ts.set n (p, to, wt)) (q.filter (fun x => !(x == ((n : Nat) : Int))) ++ [((n : Nat) : Int)]) L' ∧ v = .nilIface ∧ St w0 w' (L' :: F)) := by
  obtain ⟨v, C, v2, C2, hO, hQ, rfl⟩ := hM
  obtain ⟨A, c, rfl, hmc, hcx⟩ := hO.open'
  obtain ⟨A2, c2, rfl, hmc2, hcx2⟩ := hQ.open'
  replace hS : St w0 w ([(b, rowO [.slice A ts.length c, .slice A2 q.length c2] 29)] :: C :: C2 :: F) := hS.split3
  have hn := (List.getElem?_eq_some_iff.1 hx).1
  refine enter (vs := [.pointer (some ⟨b, 0, none⟩), .int .i64 ((n : Nat) : Int), .int .i64 fr, .int .i64 to, .int .i64 wt]) 57 Tryd.func21 rfl rfl (by simp) ?_; intro a hA
  refine wp_seq ?_
  refine wp_region_lit ?_
  refine st_run tbOk 1 hA (e' := (10, .nilIface) :: _) rfl ?_; clear hA; intro a hA
  refine wpList_nil ?_
  replace hA := hA.sel [0, 1, 2, 3, 4] (e' := [(0, .pointer (some ⟨b, 0, none⟩)), (1, .int .i64 ((n : Nat) : Int)), (2, .int .i64 fr), (3, .int .i64 to), (4, .int .i64 wt)]) rfl
  refine xt_norm ?_
  refine wp_seq ?_
  refine wp_seq ?_
  refine wp_region_lit ?_
  refine st_run tbOk 2 hA (e' := (12, .int .i64 ((n : Nat) : Int)) :: (11, .pointer (some ⟨b, 0, none⟩)) :: _) rfl ?_; clear hA; intro a hA
  refine st_call0 hA rfl rfl rfl isfn9 rfl rfl (by decide) (getO_in9 hS (RdS.own hO 1 rfl) n hx) ?_
  clear hA hS; rintro v w1 a ⟨rfl, hS⟩ hA
  refine st_run tbOk 3 hA (e' := (16, .bool (s != fr)) :: (15, .int .i64 fr) :: (14, .int .i64 s) :: _) rfl ?_; clear hA; intro a hA
  refine wpList_nil ?_
  replace hA := hA.sel [0, 1, 3, 4, 16] (e' := [(0, .pointer (some ⟨b, 0, none⟩)), (1, .int .i64 ((n : Nat) : Int)), (3, .int .i64 to), (4, .int .i64 wt), (16, .bool (s != fr))]) rfl
  refine xt_norm ?_
  have hc2 : s = fr := h2
  replace hA := hA.rw 16 (v' := .bool false) rfl (vb_ne_f hc2)
  refine cd_cond_f hA rfl ?_
  refine wp_skip ?_
  refine xt_norm ?_
  refine wp_seq ?_
  obtain ⟨b3, o4, rfl⟩ := hO.isSome (k := n) (by omega)
  replace hS := hS.front 1 (C := C) (L' := [(b, rowO [.slice (some ⟨b3, o4, none⟩) ts.length c, .slice A2 q.length c2] 29)] :: C2 :: F) rfl rfl
  refine wp_draw (fun w' => St w0 w' ([(b, rowO [.slice (some ⟨b3, o4, none⟩) ts.length c, .slice A2 q.length c2] 29)] :: C2 :: F)) [] [(0, true), (1, true), (2, true), (3, true), (4, true), (5, true), (6, true), (7, true), (8, true), (9, true), (10, true), (11, true), (12, true), (13, true), (14, false), (15, true), (16, true), (17, false)] mixed (by kernel_rfl) (by rintro c a w ⟨_, _, h, _⟩; cases h) (by rfl) (by kernel_rfl) ?_
  replace hS := hS.drew
  refine dr_run tbOk 3 hA (hS.tail 1 rfl) (e' := (20, .pointer (some ⟨b, 0, none⟩)) :: (19, .pointer (some ⟨b, 0, none⟩)) :: (18, .pointer (some ⟨b, 0, none⟩)) :: _) rfl ?_; clear hA; intro a hA
  refine dr_y hA rfl rfl rfl (by decide) (hS.tail 1 rfl) (fun w' hS' => rn_load tbOk hA rfl rfl rfl rfl (cell_row (hS'.heapAt 0 rfl) rfl)) ?_; clear hA; intro a hA
  refine dr_run tbOk 4 hA (hS.tail 1 rfl) (e' := (25, .pointer (some ⟨b, 0, none⟩)) :: (24, .pointer (some ⟨b, 0, none⟩)) :: (23, .pointer (some ⟨b, 0, none⟩)) :: (22, .int .i64 ((n : Nat) : Int)) :: _) rfl ?_; clear hA; intro a hA
  refine dr_y hA rfl rfl rfl (by decide) (hS.tail 1 rfl) (fun w' hS' => rn_load tbOk hA rfl rfl rfl rfl (cell_row (hS'.heapAt 0 rfl) rfl)) ?_; clear hA; intro a hA
  refine dr_run tbOk 3 hA (hS.tail 1 rfl) (e' := (29, .int .i64 wt) :: (28, .int .i64 to) :: (27, .int .i64 ((n : Nat) : Int)) :: _) rfl ?_; clear hA; intro a hA
  refine dr_y hA rfl rfl rfl (by decide) (hS.tail 1 rfl) (fun w' hS' => rn_indexAddr tbOk hA n (o4 + (n * 3)) rfl rfl rfl rfl rfl rfl (by rfl) (by omega) (by first | rfl | simp [Nat.mul_one, Nat.zero_add] | omega)) ?_; clear hA; intro a hA
  refine dr_run tbOk 1 hA (hS.tail 1 rfl) (e' := (31, .pointer (some ⟨b3, o4 + (n * 3) + 1, none⟩)) :: _) rfl ?_; clear hA; intro a hA
  refine dr_b (o := _) rfl ?_
  refine st_store_own tbOk hA hO hS ((n * 3) + 1) (o4 + (n * 3) + 1) [.int .i64 to] (rows encThread (ts.set n (p, to, u1))) rfl rfl rfl rfl (by rfl) rfl rfl (by first | (intro u hu; rw [List.mem_singleton.1 hu]; rfl) | simp [Value.oneCell']) (by simp only [rows_length encThread_ok]; simp; omega) (rows_setf encThread_ok (p, to, u1) hx 1 [.int .i64 to] (Nat.le_of_ble_eq_true rfl) rfl) rfl rfl ?_; clear hS; intro w5 C6 hO6 hS
  refine dr_nil (.inr (hS.tail 1 rfl)) ?_
  refine dr_y hA rfl rfl rfl (by decide) (hS.tail 1 rfl) (fun w' hS' => rn_indexAddr tbOk hA n (o4 + (n * 3)) rfl rfl rfl rfl rfl rfl (by rfl) (by omega) (by first | rfl | simp [Nat.mul_one, Nat.zero_add] | omega)) ?_; clear hA; intro a hA
  refine dr_run tbOk 1 hA (hS.tail 1 rfl) (e' := (33, .pointer (some ⟨b3, o4 + (n * 3) + 2, none⟩)) :: _) rfl ?_; clear hA; intro a hA
  refine dr_b (o := _) rfl ?_
  refine st_store_own tbOk hA hO6 hS ((n * 3) + 2) (o4 + (n * 3) + 2) [.int .i64 wt] (rows encThread ((ts.set n (p, to, u1)).set n (p, to, wt))) rfl rfl rfl rfl (by rfl) rfl rfl (by first | (intro u hu; rw [List.mem_singleton.1 hu]; rfl) | simp [Value.oneCell']) (by simp only [rows_length encThread_ok]; simp; omega) (rows_setf encThread_ok (p, to, wt) (List.getElem?_set_self hn) 2 [.int .i64 wt] (Nat.le_of_ble_eq_true rfl) rfl) rfl rfl ?_; clear hS; intro w7 C8 hO8 hS
  refine dr_nil (.inr (hS.tail 1 rfl)) ?_
  refine dr_end ?_
  replace hA := hA.sel [0, 1, 3] (e' := [(0, .pointer (some ⟨b, 0, none⟩)), (1, .int .i64 ((n : Nat) : Int)), (3, .int .i64 to)]) rfl
  refine xt_norm ?_
  refine wp_seq ?_
  refine wp_region_lit ?_
  have hss : (ts.set n (p, to, u1)).set n (p, to, wt) = ts.set n (p, to, wt) := by rw [List.set_set]
  rw [hss] at hO8; clear hss
  refine st_run tbOk 4 hA (e' := (37, .pointer (some ⟨b, 1, none⟩)) :: (36, .pointer (some ⟨b, 0, none⟩)) :: (35, .pointer (some ⟨b, 0, none⟩)) :: (34, .pointer (some ⟨b, 0, none⟩)) :: _) rfl ?_; clear hA; intro a hA
  refine st_val hA rfl rfl (by decide) (rn_load tbOk hA rfl rfl rfl rfl (cell_row (hS.heapAt 1 rfl) rfl)) ?_; clear hA; intro a hA
  refine st_run tbOk 1 hA (e' := (39, .int .i64 ((n : Nat) : Int)) :: _) rfl ?_; clear hA; intro a hA
  refine st_call0 hA rfl rfl rfl isfn26 rfl rfl (by decide) (drop26 hS (l := q) (RdS.own hQ 2 rfl) ((n : Nat) : Int) (by omega)) ?_
  clear hA hS; rintro v9 w10 a ⟨C11, hO11, hS⟩ hA
  obtain ⟨A12, c13, rfl, hmc13, hxc13⟩ := hO11.open'
  refine st_run tbOk 2 hA (e' := (42, .pointer (some ⟨b, 1, none⟩)) :: (41, .pointer (some ⟨b, 0, none⟩)) :: _) rfl ?_; clear hA; intro a hA
  replace hS := hS.front 2 (C := [(b, rowO [.slice (some ⟨b3, o4, none⟩) ts.length c, .slice A2 q.length c2] 29)]) (L' := C11 :: C8 :: C2 :: F) rfl rfl
  refine st_store tbOk hA hS [.slice A12 ((q.filter (fun x => !(x == ((n : Nat) : Int)))).length) c13] [.slice (some ⟨b3, o4, none⟩) ts.length c, .slice A12 ((q.filter (fun x => !(x == ((n : Nat) : Int)))).length) c13] rfl rfl rfl rfl rfl rfl (by intro u hu; rw [List.mem_singleton.1 hu]; rfl) (Nat.le_of_ble_eq_true rfl) rfl rfl rfl ?_; clear hS; intro w14 hS
  refine wpList_nil ?_
  replace hA := hA.sel [0, 1, 3] (e' := [(0, .pointer (some ⟨b, 0, none⟩)), (1, .int .i64 ((n : Nat) : Int)), (3, .int .i64 to)]) rfl
  refine xt_norm ?_
  refine wp_seq ?_
  refine wp_seq ?_
  refine wp_region_lit ?_
  refine st_run tbOk 2 hA (e' := (44, .bool (to == 1)) :: (43, .int .i64 to) :: _) rfl ?_; clear hA; intro a hA
  refine wpList_nil ?_
  replace hA := hA.sel [0, 1, 44] (e' := [(0, .pointer (some ⟨b, 0, none⟩)), (1, .int .i64 ((n : Nat) : Int)), (44, .bool (to == 1))]) rfl
  refine xt_norm ?_
  have hc15 : to = 1 := h3
  replace hA := hA.rw 44 (v' := .bool true) rfl (vb_eq_t hc15)
  refine cd_cond_t hA rfl ?_
  refine wp_region_lit ?_
  refine st_run tbOk 4 hA (e' := (49, .pointer (some ⟨b, 1, none⟩)) :: (48, .pointer (some ⟨b, 0, none⟩)) :: (47, .pointer (some ⟨b, 0, none⟩)) :: (46, .pointer (some ⟨b, 0, none⟩)) :: _) rfl ?_; clear hA; intro a hA
  refine st_val hA rfl rfl (by decide) (rn_load tbOk hA rfl rfl rfl rfl (cell_row (hS.heapAt 0 rfl) rfl)) ?_; clear hA; intro a hA
  refine st_run tbOk 1 hA (e' := (51, .int .i64 ((n : Nat) : Int)) :: _) rfl ?_; clear hA; intro a hA
  refine st_call0 hA rfl rfl rfl isfn20 rfl rfl (by decide) (push_ok20 hS (l := q.filter (fun x => !(x == ((n : Nat) : Int)))) (RdS.own hO11 1 rfl) ((n : Nat) : Int) (filt_any q _) h4) ?_
  clear hA hS; rintro _ w17 a ⟨v16, C18, rfl, hO18, hS⟩ hA
  obtain ⟨A19, c20, rfl, hmc20, hxc20⟩ := hO18.open'
  refine st_run tbOk 5 hA (e' := (56, .pointer (some ⟨b, 1, none⟩)) :: (55, .pointer (some ⟨b, 0, none⟩)) :: (54, .nilIface) :: (53, .slice A19 (((q.filter (fun x => !(x == ((n : Nat) : Int)))) ++ [((n : Nat) : Int)]).length) c20) :: (45, .tuple #[.slice A19 (((q.filter (fun x => !(x == ((n : Nat) : Int)))) ++ [((n : Nat) : Int)]).length) c20, .nilIface]) :: _) rfl ?_; clear hA; intro a hA
  replace hS := hS.front 1 (C := [(b, rowO [.slice (some ⟨b3, o4, none⟩) ts.length c, .slice A12 ((q.filter (fun x => !(x == ((n : Nat) : Int)))).length) c13] 29)]) (L' := C18 :: C11 :: C8 :: C2 :: F) rfl rfl
  refine st_store tbOk hA hS [.slice A19 (((q.filter (fun x => !(x == ((n : Nat) : Int)))) ++ [((n : Nat) : Int)]).length) c20] [.slice (some ⟨b3, o4, none⟩) ts.length c, .slice A19 (((q.filter (fun x => !(x == ((n : Nat) : Int)))) ++ [((n : Nat) : Int)]).length) c20] rfl rfl rfl rfl rfl rfl (by intro u hu; rw [List.mem_singleton.1 hu]; rfl) (Nat.le_of_ble_eq_true rfl) rfl rfl rfl ?_; clear hS; intro w21 hS
  refine wpList_nil ?_
  replace hA := hA.sel [] (e' := []) rfl
  refine xt_norm ?_
  refine wp_seq ?_
  refine wp_region_lit ?_
  refine st_run tbOk 1 hA (e' := (10, .nilIface) :: _) rfl ?_; clear hA; intro a hA
  refine wpList_nil ?_
  refine xt_norm ?_
  refine wp_ret ?_
  refine ret1 (fn := Tryd.f21) hA rfl rfl ?_
  replace hS := hS.front 1 (C := C18) (L' := [(b, rowO [.slice (some ⟨b3, o4, none⟩) ts.length c, .slice A19 (((q.filter (fun x => !(x == ((n : Nat) : Int)))) ++ [((n : Nat) : Int)]).length) c20] 29)] :: C11 :: C8 :: C2 :: F) rfl rfl
  replace hS := hS.front 3 (C := C8) (L' := C18 :: [(b, rowO [.slice (some ⟨b3, o4, none⟩) ts.length c, .slice A19 (((q.filter (fun x => !(x == ((n : Nat) : Int)))) ++ [((n : Nat) : Int)]).length) c20] 29)] :: C11 :: C2 :: F) rfl rfl
  replace hS := hS.front 2 (C := [(b, rowO [.slice (some ⟨b3, o4, none⟩) ts.length c, .slice A19 (((q.filter (fun x => !(x == ((n : Nat) : Int)))) ++ [((n : Nat) : Int)]).length) c20] 29)]) (L' := C8 :: C18 :: C11 :: C2 :: F) rfl rfl
  replace hS := (hS.front 3 rfl rfl).drop1
  replace hS := (hS.front 3 rfl rfl).drop1
  replace hS := hS.join3
  exact ⟨_, ⟨_, _, _, _, (by rw [List.length_set]; exact hO8), hO18, rfl⟩, rfl, hS⟩

theorem get_in {w0 w : World} {F : List Chunk} {L : Chunk} {b : Nat} {ts : List (Int × Int × Int)} {q : List Int} (hS : St w0 w (L :: F)) (hM : TR 29 b ts q L) (n : Nat) {x : Int × Int × Int} (hx : ts[n]? = some x) : Ret Tryd.prog 9 #[.pointer (some ⟨b, 0, none⟩), .int .i64 ((n : Nat) : Int)] w (fun v w' => ∃ L', TR 29 b ts q L' ∧ v = .agg #[.int .i64 x.1, .int .i64 x.2.1, .int .i64 x.2.2] ∧ St w0 w' (L' :: F)) := by
  obtain ⟨v, C, v2, C2, hO, hQ, rfl⟩ := hM
  refine (getO_in9 hS.split3 (RdS.own hO 1 rfl) n hx).mono ?_
  rintro v w' ⟨rfl, hS'⟩
  exact ⟨_, ⟨_, _, _, _, hO, hQ, rfl⟩, rfl, hS'.join3⟩

theorem get_lo {w0 w : World} {F : List Chunk} {L : Chunk} {b : Nat} {ts : List (Int × Int × Int)} {q : List Int} (hS : St w0 w (L :: F)) (hM : TR 29 b ts q L) (id : Int) (h1 : id < 0) : Ret Tryd.prog 9 #[.pointer (some ⟨b, 0, none⟩), .int .i64 id] w (fun v w' => ∃ L', TR 29 b ts q L' ∧ v = .agg #[.int .i64 0, .int .i64 0, .int .i64 0] ∧ St w0 w' (L' :: F)) := by
  obtain ⟨v, C, v2, C2, hO, hQ, rfl⟩ := hM
  refine (getO_lo9 hS.split3 (RdS.own hO 1 rfl) id h1).mono ?_
  rintro v w' ⟨rfl, hS'⟩
  exact ⟨_, ⟨_, _, _, _, hO, hQ, rfl⟩, rfl, hS'.join3⟩

theorem get_hi {w0 w : World} {F : List Chunk} {L : Chunk} {b : Nat} {ts : List (Int × Int × Int)} {q : List Int} (hS : St w0 w (L :: F)) (hM : TR 29 b ts q L) (id : Int) (h1 : ((ts.length : Nat) : Int) ≤ id) : Ret Tryd.prog 9 #[.pointer (some ⟨b, 0, none⟩), .int .i64 id] w (fun v w' => ∃ L', TR 29 b ts q L' ∧ v = .agg #[.int .i64 0, .int .i64 0, .int .i64 0] ∧ St w0 w' (L' :: F)) := by
  obtain ⟨v, C, v2, C2, hO, hQ, rfl⟩ := hM
  refine (getO_hi9 hS.split3 (RdS.own hO 1 rfl) id h1).mono ?_
  rintro v w' ⟨rfl, hS'⟩
  exact ⟨_, ⟨_, _, _, _, hO, hQ, rfl⟩, rfl, hS'.join3⟩

theorem block_lo12 {w0 w : World} {F : List Chunk} {L : Chunk} {b : Nat} {ts : List (Int × Int × Int)} {q : List Int} (hS : St w0 w (L :: F)) (hM : TR 29 b ts q L) (id : Int) (wt : Int) (h1 : id < 0) :
    Ret Tryd.prog 12 #[.pointer (some ⟨b, 0, none⟩), .int .i64 id, .int .i64 wt] w (fun v w' => ∃ L', TR 29 b (ts) (q) L' ∧ v = .iface 53 (.int .i64 15) ∧ St w0 w' (L' :: F)) := by
  refine enter (vs := [.pointer (some ⟨b, 0, none⟩), .int .i64 id, .int .i64 wt]) 11 Tryd.func12 rfl rfl (by simp) ?_; intro a hA
  refine wp_seq ?_
  refine wp_region_lit ?_
  refine st_run tbOk 1 hA (e' := (6, .nilIface) :: _) rfl ?_; clear hA; intro a hA
  refine wpList_nil ?_
  replace hA := hA.sel [0, 1, 2] (e' := [(0, .pointer (some ⟨b, 0, none⟩)), (1, .int .i64 id), (2, .int .i64 wt)]) rfl
  refine xt_norm ?_
  refine wp_seq ?_
  refine wp_region_lit ?_
  refine st_run tbOk 3 hA (e' := (9, .int .i64 wt) :: (8, .int .i64 id) :: (7, .pointer (some ⟨b, 0, none⟩)) :: _) rfl ?_; clear hA; intro a hA
  refine st_call0 hA rfl rfl rfl isfn21 rfl rfl (by decide) (turn_lo21 hS hM id 1 2 wt h1 (by decide)) ?_
  clear hA hS; rintro v w2 a ⟨L1, hM3, rfl, hS⟩ hA
  refine st_run tbOk 1 hA (e' := (6, .iface 53 (.int .i64 15)) :: _) rfl ?_; clear hA; intro a hA
  refine wpList_nil ?_
  replace hA := hA.sel [6] (e' := [(6, .iface 53 (.int .i64 15))]) rfl
  refine xt_norm ?_
  refine wp_ret ?_
  refine ret1 (fn := Tryd.f12) hA rfl rfl ?_
  exact ⟨_, hM3, rfl, hS⟩

theorem block_hi12 {w0 w : World} {F : List Chunk} {L : Chunk} {b : Nat} {ts : List (Int × Int × Int)} {q : List Int} (hS : St w0 w (L :: F)) (hM : TR 29 b ts q L) (id : Int) (wt : Int) (h1 : ((ts.length : Nat) : Int) ≤ id) :
    Ret Tryd.prog 12 #[.pointer (some ⟨b, 0, none⟩), .int .i64 id, .int .i64 wt] w (fun v w' => ∃ L', TR 29 b (ts) (q) L' ∧ v = .iface 53 (.int .i64 15) ∧ St w0 w' (L' :: F)) := by
  refine enter (vs := [.pointer (some ⟨b, 0, none⟩), .int .i64 id, .int .i64 wt]) 11 Tryd.func12 rfl rfl (by simp) ?_; intro a hA
  refine wp_seq ?_
  refine wp_region_lit ?_
  refine st_run tbOk 1 hA (e' := (6, .nilIface) :: _) rfl ?_; clear hA; intro a hA
  refine wpList_nil ?_
  replace hA := hA.sel [0, 1, 2] (e' := [(0, .pointer (some ⟨b, 0, none⟩)), (1, .int .i64 id), (2, .int .i64 wt)]) rfl
  refine xt_norm ?_
  refine wp_seq ?_
  refine wp_region_lit ?_
  refine st_run tbOk 3 hA (e' := (9, .int .i64 wt) :: (8, .int .i64 id) :: (7, .pointer (some ⟨b, 0, none⟩)) :: _) rfl ?_; clear hA; intro a hA
  refine st_call0 hA rfl rfl rfl isfn21 rfl rfl (by decide) (turn_hi21 hS hM id 1 2 wt h1 (by decide)) ?_
  clear hA hS; rintro v w2 a ⟨L1, hM3, rfl, hS⟩ hA
  refine st_run tbOk 1 hA (e' := (6, .iface 53 (.int .i64 15)) :: _) rfl ?_; clear hA; intro a hA
  refine wpList_nil ?_
  replace hA := hA.sel [6] (e' := [(6, .iface 53 (.int .i64 15))]) rfl
  refine xt_norm ?_
  refine wp_ret ?_
  refine ret1 (fn := Tryd.f12) hA rfl rfl ?_
  exact ⟨_, hM3, rfl, hS⟩

theorem block_no12 {w0 w : World} {F : List Chunk} {L : Chunk} {b : Nat} {ts : List (Int × Int × Int)} {q : List Int} (hS : St w0 w (L :: F)) (hM : TR 29 b ts q L) (n : Nat) (wt : Int) {p s u1 : Int} (hx : ts[n]? = some (p, s, u1)) (h2 : ¬ s = 1) :
    Ret Tryd.prog 12 #[.pointer (some ⟨b, 0, none⟩), .int .i64 ((n : Nat) : Int), .int .i64 wt] w (fun v w' => ∃ L', TR 29 b (ts) (q) L' ∧ v = .iface 53 (.int .i64 15) ∧ St w0 w' (L' :: F)) := by
  refine enter (vs := [.pointer (some ⟨b, 0, none⟩), .int .i64 ((n : Nat) : Int), .int .i64 wt]) 11 Tryd.func12 rfl rfl (by simp) ?_; intro a hA
  refine wp_seq ?_
  refine wp_region_lit ?_
  refine st_run tbOk 1 hA (e' := (6, .nilIface) :: _) rfl ?_; clear hA; intro a hA
  refine wpList_nil ?_
  replace hA := hA.sel [0, 1, 2] (e' := [(0, .pointer (some ⟨b, 0, none⟩)), (1, .int .i64 ((n : Nat) : Int)), (2, .int .i64 wt)]) rfl
  refine xt_norm ?_
  refine wp_seq ?_
  refine wp_region_lit ?_
  refine st_run tbOk 3 hA (e' := (9, .int .i64 wt) :: (8, .int .i64 ((n : Nat) : Int)) :: (7, .pointer (some ⟨b, 0, none⟩)) :: _) rfl ?_; clear hA; intro a hA
  refine st_call0 hA rfl rfl rfl isfn21 rfl rfl (by decide) (turn_no21 hS hM n 1 2 wt hx h2) ?_
  clear hA hS; rintro v w2 a ⟨L1, hM3, rfl, hS⟩ hA
  refine st_run tbOk 1 hA (e' := (6, .iface 53 (.int .i64 15)) :: _) rfl ?_; clear hA; intro a hA
  refine wpList_nil ?_
  replace hA := hA.sel [6] (e' := [(6, .iface 53 (.int .i64 15))]) rfl
  refine xt_norm ?_
  refine wp_ret ?_
  refine ret1 (fn := Tryd.f12) hA rfl rfl ?_
  exact ⟨_, hM3, rfl, hS⟩

theorem block_ok12 {w0 w : World} {F : List Chunk} {L : Chunk} {b : Nat} {ts : List (Int × Int × Int)} {q : List Int} (hS : St w0 w (L :: F)) (hM : TR 29 b ts q L) (n : Nat) (wt : Int) {p s u1 : Int} (hx : ts[n]? = some (p, s, u1)) (h2 : s = 1) (hql : q.length ≤ 64) :
    Ret Tryd.prog 12 #[.pointer (some ⟨b, 0, none⟩), .int .i64 ((n : Nat) : Int), .int .i64 wt] w (fun v w' => ∃ L', TR 29 b (ts.set n (p, 2, wt)) (q.filter (fun x => !(x == ((n : Nat) : Int)))) L' ∧ v = .nilIface ∧ St w0 w' (L' :: F)) := by
  refine enter (vs := [.pointer (some ⟨b, 0, none⟩), .int .i64 ((n : Nat) : Int), .int .i64 wt]) 11 Tryd.func12 rfl rfl (by simp) ?_; intro a hA
  refine wp_seq ?_
  refine wp_region_lit ?_
  refine st_run tbOk 1 hA (e' := (6, .nilIface) :: _) rfl ?_; clear hA; intro a hA
  refine wpList_nil ?_
  replace hA := hA.sel [0, 1, 2] (e' := [(0, .pointer (some ⟨b, 0, none⟩)), (1, .int .i64 ((n : Nat) : Int)), (2, .int .i64 wt)]) rfl
  refine xt_norm ?_
  refine wp_seq ?_
  refine wp_region_lit ?_
  refine st_run tbOk 3 hA (e' := (9, .int .i64 wt) :: (8, .int .i64 ((n : Nat) : Int)) :: (7, .pointer (some ⟨b, 0, none⟩)) :: _) rfl ?_; clear hA; intro a hA
  refine st_call0 hA rfl rfl rfl isfn21 rfl rfl (by decide) (turn_ok21 hS hM n 1 2 wt hx h2 hql (by decide)) ?_
  clear hA hS; rintro v w2 a ⟨L1, hM3, rfl, hS⟩ hA
  refine st_run tbOk 1 hA (e' := (6, .nilIface) :: _) rfl ?_; clear hA; intro a hA
  refine wpList_nil ?_
  replace hA := hA.sel [6] (e' := [(6, .nilIface)]) rfl
  refine xt_norm ?_
  refine wp_ret ?_
  refine ret1 (fn := Tryd.f12) hA rfl rfl ?_
  exact ⟨_, hM3, rfl, hS⟩

theorem wake_lo18 {w0 w : World} {F : List Chunk} {L : Chunk} {b : Nat} {ts : List (Int × Int × Int)} {q : List Int} (hS : St w0 w (L :: F)) (hM : TR 29 b ts q L) (id : Int) (h1 : id < 0) :
    Ret Tryd.prog 18 #[.pointer (some ⟨b, 0, none⟩), .int .i64 id] w (fun v w' => ∃ L', TR 29 b (ts) (q) L' ∧ v = .iface 53 (.int .i64 15) ∧ St w0 w' (L' :: F)) := by
  refine enter (vs := [.pointer (some ⟨b, 0, none⟩), .int .i64 id]) 8 Tryd.func18 rfl rfl (by simp) ?_; intro a hA
  refine wp_seq ?_
  refine wp_region_lit ?_
  refine st_run tbOk 1 hA (e' := (4, .nilIface) :: _) rfl ?_; clear hA; intro a hA
  refine wpList_nil ?_
  replace hA := hA.sel [0, 1] (e' := [(0, .pointer (some ⟨b, 0, none⟩)), (1, .int .i64 id)]) rfl
  refine xt_norm ?_
  refine wp_seq ?_
  refine wp_region_lit ?_
  refine st_run tbOk 2 hA (e' := (6, .int .i64 id) :: (5, .pointer (some ⟨b, 0, none⟩)) :: _) rfl ?_; clear hA; intro a hA
  refine st_call0 hA rfl rfl rfl isfn21 rfl rfl (by decide) (turn_lo21 hS hM id 2 1 0 h1 (by decide)) ?_
  clear hA hS; rintro v w2 a ⟨L1, hM3, rfl, hS⟩ hA
  refine st_run tbOk 1 hA (e' := (4, .iface 53 (.int .i64 15)) :: _) rfl ?_; clear hA; intro a hA
  refine wpList_nil ?_
  replace hA := hA.sel [4] (e' := [(4, .iface 53 (.int .i64 15))]) rfl
  refine xt_norm ?_
  refine wp_ret ?_
  refine ret1 (fn := Tryd.f18) hA rfl rfl ?_
  exact ⟨_, hM3, rfl, hS⟩

theorem wake_hi18 {w0 w : World} {F : List Chunk} {L : Chunk} {b : Nat} {ts : List (Int × Int × Int)} {q : List Int} (hS : St w0 w (L :: F)) (hM : TR 29 b ts q L) (id : Int) (h1 : ((ts.length : Nat) : Int) ≤ id) :
    Ret Tryd.prog 18 #[.pointer (some ⟨b, 0, none⟩), .int .i64 id] w (fun v w' => ∃ L', TR 29 b (ts) (q) L' ∧ v = .iface 53 (.int .i64 15) ∧ St w0 w' (L' :: F)) := by
  refine enter (vs := [.pointer (some ⟨b, 0, none⟩), .int .i64 id]) 8 Tryd.func18 rfl rfl (by simp) ?_; intro a hA
  refine wp_seq ?_
  refine wp_region_lit ?_
  refine st_run tbOk 1 hA (e' := (4, .nilIface) :: _) rfl ?_; clear hA; intro a hA
  refine wpList_nil ?_
  replace hA := hA.sel [0, 1] (e' := [(0, .pointer (some ⟨b, 0, none⟩)), (1, .int .i64 id)]) rfl
  refine xt_norm ?_
  refine wp_seq ?_
  refine wp_region_lit ?_
  refine st_run tbOk 2 hA (e' := (6, .int .i64 id) :: (5, .pointer (some ⟨b, 0, none⟩)) :: _) rfl ?_; clear hA; intro a hA
  refine st_call0 hA rfl rfl rfl isfn21 rfl rfl (by decide) (turn_hi21 hS hM id 2 1 0 h1 (by decide)) ?_
  clear hA hS; rintro v w2 a ⟨L1, hM3, rfl, hS⟩ hA
  refine st_run tbOk 1 hA (e' := (4, .iface 53 (.int .i64 15)) :: _) rfl ?_; clear hA; intro a hA
  refine wpList_nil ?_
  replace hA := hA.sel [4] (e' := [(4, .iface 53 (.int .i64 15))]) rfl
  refine xt_norm ?_
  refine wp_ret ?_
  refine ret1 (fn := Tryd.f18) hA rfl rfl ?_
  exact ⟨_, hM3, rfl, hS⟩

theorem wake_no18 {w0 w : World} {F : List Chunk} {L : Chunk} {b : Nat} {ts : List (Int × Int × Int)} {q : List Int} (hS : St w0 w (L :: F)) (hM : TR 29 b ts q L) (n : Nat) {p s u1 : Int} (hx : ts[n]? = some (p, s, u1)) (h2 : ¬ s = 2) :
    Ret Tryd.prog 18 #[.pointer (some ⟨b, 0, none⟩), .int .i64 ((n : Nat) : Int)] w (fun v w' => ∃ L', TR 29 b (ts) (q) L' ∧ v = .iface 53 (.int .i64 15) ∧ St w0 w' (L' :: F)) := by
  refine enter (vs := [.pointer (some ⟨b, 0, none⟩), .int .i64 ((n : Nat) : Int)]) 8 Tryd.func18 rfl rfl (by simp) ?_; intro a hA
  refine wp_seq ?_
  refine wp_region_lit ?_
  refine st_run tbOk 1 hA (e' := (4, .nilIface) :: _) rfl ?_; clear hA; intro a hA
  refine wpList_nil ?_
  replace hA := hA.sel [0, 1] (e' := [(0, .pointer (some ⟨b, 0, none⟩)), (1, .int .i64 ((n : Nat) : Int))]) rfl
  refine xt_norm ?_
  refine wp_seq ?_
  refine wp_region_lit ?_
  refine st_run tbOk 2 hA (e' := (6, .int .i64 ((n : Nat) : Int)) :: (5, .pointer (some ⟨b, 0, none⟩)) :: _) rfl ?_; clear hA; intro a hA
  refine st_call0 hA rfl rfl rfl isfn21 rfl rfl (by decide) (turn_no21 hS hM n 2 1 0 hx h2) ?_
  clear hA hS; rintro v w2 a ⟨L1, hM3, rfl, hS⟩ hA
  refine st_run tbOk 1 hA (e' := (4, .iface 53 (.int .i64 15)) :: _) rfl ?_; clear hA; intro a hA
  refine wpList_nil ?_
  replace hA := hA.sel [4] (e' := [(4, .iface 53 (.int .i64 15))]) rfl
  refine xt_norm ?_
  refine wp_ret ?_
  refine ret1 (fn := Tryd.f18) hA rfl rfl ?_
  exact ⟨_, hM3, rfl, hS⟩

theorem wake_ok18 {w0 w : World} {F : List Chunk} {L : Chunk} {b : Nat} {ts : List (Int × Int × Int)} {q : List Int} (hS : St w0 w (L :: F)) (hM : TR 29 b ts q L) (n : Nat) {p s u1 : Int} (hx : ts[n]? = some (p, s, u1)) (h2 : s = 2) (hql : q.length ≤ 64) (h4 : (q.filter (fun x => !(x == ((n : Nat) : Int)))).length < 64) :
    Ret Tryd.prog 18 #[.pointer (some ⟨b, 0, none⟩), .int .i64 ((n : Nat) : Int)] w (fun v w' => ∃ L', TR 29 b (ts.set n (p, 1, 0)) (q.filter (fun x => !(x == ((n : Nat) : Int))) ++ [((n : Nat) : Int)]) L' ∧ v = .nilIface ∧ St w0 w' (L' :: F)) := by
  refine enter (vs := [.pointer (some ⟨b, 0, none⟩), .int .i64 ((n : Nat) : Int)]) 8 Tryd.func18 rfl rfl (by simp) ?_; intro a hA
  refine wp_seq ?_
  refine wp_region_lit ?_
  refine st_run tbOk 1 hA (e' := (4, .nilIface) :: _) rfl ?_; clear hA; intro a hA
  refine wpList_nil ?_
  replace hA := hA.sel [0, 1] (e' := [(0, .pointer (some ⟨b, 0, none⟩)), (1, .int .i64 ((n : Nat) : Int))]) rfl
  refine xt_norm ?_
  refine wp_seq ?_
  refine wp_region_lit ?_
  refine st_run tbOk 2 hA (e' := (6, .int .i64 ((n : Nat) : Int)) :: (5, .pointer (some ⟨b, 0, none⟩)) :: _) rfl ?_; clear hA; intro a hA
  refine st_call0 hA rfl rfl rfl isfn21 rfl rfl (by decide) (turn_rdy21 hS hM n 2 1 0 hx h2 hql rfl h4) ?_
  clear hA hS; rintro v w2 a ⟨L1, hM3, rfl, hS⟩ hA
  refine st_run tbOk 1 hA (e' := (4, .nilIface) :: _) rfl ?_; clear hA; intro a hA
  refine wpList_nil ?_
  replace hA := hA.sel [4] (e' := [(4, .nilIface)]) rfl
  refine xt_norm ?_
  refine wp_ret ?_
  refine ret1 (fn := Tryd.f18) hA rfl rfl ?_
  exact ⟨_, hM3, rfl, hS⟩

theorem exit_lo11 {w0 w : World} {F : List Chunk} {L : Chunk} {b : Nat} {ts : List (Int × Int × Int)} {q : List Int} (hS : St w0 w (L :: F)) (hM : TR 29 b ts q L) (id : Int) (h1 : id < 0) :
    Ret Tryd.prog 11 #[.pointer (some ⟨b, 0, none⟩), .int .i64 id] w (fun v w' => ∃ L', TR 29 b (ts) (q) L' ∧ v = .iface 53 (.int .i64 15) ∧ St w0 w' (L' :: F)) := by
  refine enter (vs := [.pointer (some ⟨b, 0, none⟩), .int .i64 id]) 20 Tryd.func11 rfl rfl (by simp) ?_; intro a hA
  refine wp_seq ?_
  refine wp_region_lit ?_
  refine st_run tbOk 1 hA (e' := (4, .nilIface) :: _) rfl ?_; clear hA; intro a hA
  refine wpList_nil ?_
  replace hA := hA.sel [0, 1] (e' := [(0, .pointer (some ⟨b, 0, none⟩)), (1, .int .i64 id)]) rfl
  refine xt_norm ?_
  refine wp_seq ?_
  refine wp_region_lit ?_
  refine st_run tbOk 2 hA (e' := (7, .int .i64 id) :: (6, .pointer (some ⟨b, 0, none⟩)) :: _) rfl ?_; clear hA; intro a hA
  refine st_call0 hA rfl rfl rfl isfn9 rfl rfl (by decide) (get_lo hS hM id h1) ?_
  clear hA hS; rintro v w2 a ⟨L1, hM3, rfl, hS⟩ hA
  refine st_run tbOk 2 hA (e' := (5, .int .i64 0) :: (9, .int .i64 0) :: _) rfl ?_; clear hA; intro a hA
  refine wpList_nil ?_
  replace hA := hA.sel [0, 1, 5] (e' := [(0, .pointer (some ⟨b, 0, none⟩)), (1, .int .i64 id), (5, .int .i64 0)]) rfl
  refine xt_norm ?_
  refine wp_seq ?_
  refine wp_seq ?_
  refine wp_region_lit ?_
  refine st_run tbOk 2 hA (e' := (11, .bool true) :: (10, .int .i64 0) :: _) rfl ?_; clear hA; intro a hA
  refine wpList_nil ?_
  replace hA := hA.sel [0, 1, 5, 11] (e' := [(0, .pointer (some ⟨b, 0, none⟩)), (1, .int .i64 id), (5, .int .i64 0), (11, .bool true)]) rfl
  refine xt_norm ?_
  refine cd_cond_t hA rfl ?_
  refine wp_seq ?_
  refine wp_region_lit ?_
  refine st_run tbOk 2 hA (e' := (4, .iface 53 (.int .i64 15)) :: (12, .iface 53 (.int .i64 15)) :: _) rfl ?_; clear hA; intro a hA
  refine wpList_nil ?_
  replace hA := hA.sel [4] (e' := [(4, .iface 53 (.int .i64 15))]) rfl
  refine xt_norm ?_
  refine wp_ret (xt_ret ?_)
  refine ret1 (fn := Tryd.f11) hA rfl rfl ?_
  exact ⟨_, hM3, rfl, hS⟩

theorem exit_hi11 {w0 w : World} {F : List Chunk} {L : Chunk} {b : Nat} {ts : List (Int × Int × Int)} {q : List Int} (hS : St w0 w (L :: F)) (hM : TR 29 b ts q L) (id : Int) (h1 : ((ts.length : Nat) : Int) ≤ id) :
    Ret Tryd.prog 11 #[.pointer (some ⟨b, 0, none⟩), .int .i64 id] w (fun v w' => ∃ L', TR 29 b (ts) (q) L' ∧ v = .iface 53 (.int .i64 15) ∧ St w0 w' (L' :: F)) := by
  refine enter (vs := [.pointer (some ⟨b, 0, none⟩), .int .i64 id]) 20 Tryd.func11 rfl rfl (by simp) ?_; intro a hA
  refine wp_seq ?_
  refine wp_region_lit ?_
  refine st_run tbOk 1 hA (e' := (4, .nilIface) :: _) rfl ?_; clear hA; intro a hA
  refine wpList_nil ?_
  replace hA := hA.sel [0, 1] (e' := [(0, .pointer (some ⟨b, 0, none⟩)), (1, .int .i64 id)]) rfl
  refine xt_norm ?_
  refine wp_seq ?_
  refine wp_region_lit ?_
  refine st_run tbOk 2 hA (e' := (7, .int .i64 id) :: (6, .pointer (some ⟨b, 0, none⟩)) :: _) rfl ?_; clear hA; intro a hA
  refine st_call0 hA rfl rfl rfl isfn9 rfl rfl (by decide) (get_hi hS hM id h1) ?_
  clear hA hS; rintro v w2 a ⟨L1, hM3, rfl, hS⟩ hA
  refine st_run tbOk 2 hA (e' := (5, .int .i64 0) :: (9, .int .i64 0) :: _) rfl ?_; clear hA; intro a hA
  refine wpList_nil ?_
  replace hA := hA.sel [0, 1, 5] (e' := [(0, .pointer (some ⟨b, 0, none⟩)), (1, .int .i64 id), (5, .int .i64 0)]) rfl
  refine xt_norm ?_
  refine wp_seq ?_
  refine wp_seq ?_
  refine wp_region_lit ?_
  refine st_run tbOk 2 hA (e' := (11, .bool true) :: (10, .int .i64 0) :: _) rfl ?_; clear hA; intro a hA
  refine wpList_nil ?_
  replace hA := hA.sel [0, 1, 5, 11] (e' := [(0, .pointer (some ⟨b, 0, none⟩)), (1, .int .i64 id), (5, .int .i64 0), (11, .bool true)]) rfl
  refine xt_norm ?_
  refine cd_cond_t hA rfl ?_
  refine wp_seq ?_
  refine wp_region_lit ?_
  refine st_run tbOk 2 hA (e' := (4, .iface 53 (.int .i64 15)) :: (12, .iface 53 (.int .i64 15)) :: _) rfl ?_; clear hA; intro a hA
  refine wpList_nil ?_
  replace hA := hA.sel [4] (e' := [(4, .iface 53 (.int .i64 15))]) rfl
  refine xt_norm ?_
  refine wp_ret (xt_ret ?_)
  refine ret1 (fn := Tryd.f11) hA rfl rfl ?_
  exact ⟨_, hM3, rfl, hS⟩

theorem exit_none11 {w0 w : World} {F : List Chunk} {L : Chunk} {b : Nat} {ts : List (Int × Int × Int)} {q : List Int} (hS : St w0 w (L :: F)) (hM : TR 29 b ts q L) (n : Nat) {p s u1 : Int} (hx : ts[n]? = some (p, s, u1)) (h2 : s = 0) :
    Ret Tryd.prog 11 #[.pointer (some ⟨b, 0, none⟩), .int .i64 ((n : Nat) : Int)] w (fun v w' => ∃ L', TR 29 b (ts) (q) L' ∧ v = .iface 53 (.int .i64 15) ∧ St w0 w' (L' :: F)) := by
  refine enter (vs := [.pointer (some ⟨b, 0, none⟩), .int .i64 ((n : Nat) : Int)]) 20 Tryd.func11 rfl rfl (by simp) ?_; intro a hA
  refine wp_seq ?_
  refine wp_region_lit ?_
  refine st_run tbOk 1 hA (e' := (4, .nilIface) :: _) rfl ?_; clear hA; intro a hA
  refine wpList_nil ?_
  replace hA := hA.sel [0, 1] (e' := [(0, .pointer (some ⟨b, 0, none⟩)), (1, .int .i64 ((n : Nat) : Int))]) rfl
  refine xt_norm ?_
  refine wp_seq ?_
  refine wp_region_lit ?_
  refine st_run tbOk 2 hA (e' := (7, .int .i64 ((n : Nat) : Int)) :: (6, .pointer (some ⟨b, 0, none⟩)) :: _) rfl ?_; clear hA; intro a hA
  refine st_call0 hA rfl rfl rfl isfn9 rfl rfl (by decide) (get_in hS hM n hx) ?_
  clear hA hS; rintro v w2 a ⟨L1, hM3, rfl, hS⟩ hA
  refine st_run tbOk 2 hA (e' := (5, .int .i64 s) :: (9, .int .i64 s) :: _) rfl ?_; clear hA; intro a hA
  refine wpList_nil ?_
  replace hA := hA.sel [0, 1, 5] (e' := [(0, .pointer (some ⟨b, 0, none⟩)), (1, .int .i64 ((n : Nat) : Int)), (5, .int .i64 s)]) rfl
  refine xt_norm ?_
  refine wp_seq ?_
  refine wp_seq ?_
  refine wp_region_lit ?_
  refine st_run tbOk 2 hA (e' := (11, .bool (s == 0)) :: (10, .int .i64 s) :: _) rfl ?_; clear hA; intro a hA
  refine wpList_nil ?_
  replace hA := hA.sel [0, 1, 5, 11] (e' := [(0, .pointer (some ⟨b, 0, none⟩)), (1, .int .i64 ((n : Nat) : Int)), (5, .int .i64 s), (11, .bool (s == 0))]) rfl
  refine xt_norm ?_
  have hc4 : s = 0 := h2
  replace hA := hA.rw 11 (v' := .bool true) rfl (vb_eq_t hc4)
  refine cd_cond_t hA rfl ?_
  refine wp_seq ?_
  refine wp_region_lit ?_
  refine st_run tbOk 2 hA (e' := (4, .iface 53 (.int .i64 15)) :: (12, .iface 53 (.int .i64 15)) :: _) rfl ?_; clear hA; intro a hA
  refine wpList_nil ?_
  replace hA := hA.sel [4] (e' := [(4, .iface 53 (.int .i64 15))]) rfl
  refine xt_norm ?_
  refine wp_ret (xt_ret ?_)
  refine ret1 (fn := Tryd.f11) hA rfl rfl ?_
  exact ⟨_, hM3, rfl, hS⟩

theorem exit_dead11 {w0 w : World} {F : List Chunk} {L : Chunk} {b : Nat} {ts : List (Int × Int × Int)} {q : List Int} (hS : St w0 w (L :: F)) (hM : TR 29 b ts q L) (n : Nat) {p s u1 : Int} (hx : ts[n]? = some (p, s, u1)) (h2 : s = 3) :
    Ret Tryd.prog 11 #[.pointer (some ⟨b, 0, none⟩), .int .i64 ((n : Nat) : Int)] w (fun v w' => ∃ L', TR 29 b (ts) (q) L' ∧ v = .iface 53 (.int .i64 15) ∧ St w0 w' (L' :: F)) := by
  refine enter (vs := [.pointer (some ⟨b, 0, none⟩), .int .i64 ((n : Nat) : Int)]) 20 Tryd.func11 rfl rfl (by simp) ?_; intro a hA
  refine wp_seq ?_
  refine wp_region_lit ?_
  refine st_run tbOk 1 hA (e' := (4, .nilIface) :: _) rfl ?_; clear hA; intro a hA
  refine wpList_nil ?_
  replace hA := hA.sel [0, 1] (e' := [(0, .pointer (some ⟨b, 0, none⟩)), (1, .int .i64 ((n : Nat) : Int))]) rfl
  refine xt_norm ?_
  refine wp_seq ?_
  refine wp_region_lit ?_
  refine st_run tbOk 2 hA (e' := (7, .int .i64 ((n : Nat) : Int)) :: (6, .pointer (some ⟨b, 0, none⟩)) :: _) rfl ?_; clear hA; intro a hA
  refine st_call0 hA rfl rfl rfl isfn9 rfl rfl (by decide) (get_in hS hM n hx) ?_
  clear hA hS; rintro v w2 a ⟨L1, hM3, rfl, hS⟩ hA
  refine st_run tbOk 2 hA (e' := (5, .int .i64 s) :: (9, .int .i64 s) :: _) rfl ?_; clear hA; intro a hA
  refine wpList_nil ?_
  replace hA := hA.sel [0, 1, 5] (e' := [(0, .pointer (some ⟨b, 0, none⟩)), (1, .int .i64 ((n : Nat) : Int)), (5, .int .i64 s)]) rfl
  refine xt_norm ?_
  refine wp_seq ?_
  refine wp_seq ?_
  refine wp_region_lit ?_
  refine st_run tbOk 2 hA (e' := (11, .bool (s == 0)) :: (10, .int .i64 s) :: _) rfl ?_; clear hA; intro a hA
  refine wpList_nil ?_
  replace hA := hA.sel [0, 1, 5, 11] (e' := [(0, .pointer (some ⟨b, 0, none⟩)), (1, .int .i64 ((n : Nat) : Int)), (5, .int .i64 s), (11, .bool (s == 0))]) rfl
  refine xt_norm ?_
  have hc4 : ¬ (s = 0) := by omega
  replace hA := hA.rw 11 (v' := .bool false) rfl (vb_eq_f hc4)
  refine cd_cond_f hA rfl ?_
  refine wp_skip ?_
  refine xt_norm ?_
  refine wp_seq ?_
  refine wp_seq ?_
  refine wp_region_lit ?_
  refine st_run tbOk 2 hA (e' := (14, .bool (s == 3)) :: (13, .int .i64 s) :: _) rfl ?_; clear hA; intro a hA
  refine wpList_nil ?_
  replace hA := hA.sel [0, 1, 5, 14] (e' := [(0, .pointer (some ⟨b, 0, none⟩)), (1, .int .i64 ((n : Nat) : Int)), (5, .int .i64 s), (14, .bool (s == 3))]) rfl
  refine xt_norm ?_
  have hc5 : s = 3 := h2
  replace hA := hA.rw 14 (v' := .bool true) rfl (vb_eq_t hc5)
  refine cd_cond_t hA rfl ?_
  refine wp_seq ?_
  refine wp_region_lit ?_
  refine st_run tbOk 2 hA (e' := (4, .iface 53 (.int .i64 15)) :: (15, .iface 53 (.int .i64 15)) :: _) rfl ?_; clear hA; intro a hA
  refine wpList_nil ?_
  replace hA := hA.sel [4] (e' := [(4, .iface 53 (.int .i64 15))]) rfl
  refine xt_norm ?_
  refine wp_ret (xt_ret ?_)
  refine ret1 (fn := Tryd.f11) hA rfl rfl ?_
  exact ⟨_, hM3, rfl, hS⟩

theorem exit_ok11 {w0 w : World} {F : List Chunk} {L : Chunk} {b : Nat} {ts : List (Int × Int × Int)} {q : List Int} (hS : St w0 w (L :: F)) (hM : TR 29 b ts q L) (n : Nat) {p s u1 : Int} (hx : ts[n]? = some (p, s, u1)) (h2 : ¬ s = 0) (h3 : ¬ s = 3) (hql : q.length ≤ 64) :
    Ret Tryd.prog 11 #[.pointer (some ⟨b, 0, none⟩), .int .i64 ((n : Nat) : Int)] w (fun v w' => ∃ L', TR 29 b (ts.set n (p, 3, 0)) (q.filter (fun x => !(x == ((n : Nat) : Int)))) L' ∧ v = .nilIface ∧ St w0 w' (L' :: F)) := by
  refine enter (vs := [.pointer (some ⟨b, 0, none⟩), .int .i64 ((n : Nat) : Int)]) 20 Tryd.func11 rfl rfl (by simp) ?_; intro a hA
  refine wp_seq ?_
  refine wp_region_lit ?_
  refine st_run tbOk 1 hA (e' := (4, .nilIface) :: _) rfl ?_; clear hA; intro a hA
  refine wpList_nil ?_
  replace hA := hA.sel [0, 1] (e' := [(0, .pointer (some ⟨b, 0, none⟩)), (1, .int .i64 ((n : Nat) : Int))]) rfl
  refine xt_norm ?_
  refine wp_seq ?_
  refine wp_region_lit ?_
  refine st_run tbOk 2 hA (e' := (7, .int .i64 ((n : Nat) : Int)) :: (6, .pointer (some ⟨b, 0, none⟩)) :: _) rfl ?_; clear hA; intro a hA
  refine st_call0 hA rfl rfl rfl isfn9 rfl rfl (by decide) (get_in hS hM n hx) ?_
  clear hA hS; rintro v w2 a ⟨L1, hM3, rfl, hS⟩ hA
  refine st_run tbOk 2 hA (e' := (5, .int .i64 s) :: (9, .int .i64 s) :: _) rfl ?_; clear hA; intro a hA
  refine wpList_nil ?_
  replace hA := hA.sel [0, 1, 5] (e' := [(0, .pointer (some ⟨b, 0, none⟩)), (1, .int .i64 ((n : Nat) : Int)), (5, .int .i64 s)]) rfl
  refine xt_norm ?_
  refine wp_seq ?_
  refine wp_seq ?_
  refine wp_region_lit ?_
  refine st_run tbOk 2 hA (e' := (11, .bool (s == 0)) :: (10, .int .i64 s) :: _) rfl ?_; clear hA; intro a hA
  refine wpList_nil ?_
  replace hA := hA.sel [0, 1, 5, 11] (e' := [(0, .pointer (some ⟨b, 0, none⟩)), (1, .int .i64 ((n : Nat) : Int)), (5, .int .i64 s), (11, .bool (s == 0))]) rfl
  refine xt_norm ?_
  have hc4 : ¬ (s = 0) := h2
  replace hA := hA.rw 11 (v' := .bool false) rfl (vb_eq_f hc4)
  refine cd_cond_f hA rfl ?_
  refine wp_skip ?_
  refine xt_norm ?_
  refine wp_seq ?_
  refine wp_seq ?_
  refine wp_region_lit ?_
  refine st_run tbOk 2 hA (e' := (14, .bool (s == 3)) :: (13, .int .i64 s) :: _) rfl ?_; clear hA; intro a hA
  refine wpList_nil ?_
  replace hA := hA.sel [0, 1, 5, 14] (e' := [(0, .pointer (some ⟨b, 0, none⟩)), (1, .int .i64 ((n : Nat) : Int)), (5, .int .i64 s), (14, .bool (s == 3))]) rfl
  refine xt_norm ?_
  have hc5 : ¬ (s = 3) := h3
  replace hA := hA.rw 14 (v' := .bool false) rfl (vb_eq_f hc5)
  refine cd_cond_f hA rfl ?_
  refine wp_skip ?_
  refine xt_norm ?_
  refine wp_seq ?_
  refine wp_region_lit ?_
  refine st_run tbOk 3 hA (e' := (18, .int .i64 s) :: (17, .int .i64 ((n : Nat) : Int)) :: (16, .pointer (some ⟨b, 0, none⟩)) :: _) rfl ?_; clear hA; intro a hA
  refine st_call0 hA rfl rfl rfl isfn21 rfl rfl (by decide) (turn_ok21 hS hM3 n s 3 0 hx rfl hql (by decide)) ?_
  clear hA hS; rintro v w7 a ⟨L6, hM8, rfl, hS⟩ hA
  refine st_run tbOk 1 hA (e' := (4, .nilIface) :: _) rfl ?_; clear hA; intro a hA
  refine wpList_nil ?_
  replace hA := hA.sel [4] (e' := [(4, .nilIface)]) rfl
  refine xt_norm ?_
  refine wp_ret ?_
  refine ret1 (fn := Tryd.f11) hA rfl rfl ?_
  exact ⟨_, hM8, rfl, hS⟩

theorem ready8 {w0 w : World} {F : List Chunk} {L : Chunk} {b : Nat} {ts : List (Int × Int × Int)} {q : List Int} (hS : St w0 w (L :: F)) (hM : TR 29 b ts q L) (hql : q.length ≤ 64) :
    Ret Tryd.prog 8 #[.pointer (some ⟨b, 0, none⟩)] w (fun v w' => ∃ L' C', Own 3 1 v q.length (rows encI q) C' ∧ TR 29 b ts q L' ∧ St w0 w' (C' :: L' :: F)) := by
  obtain ⟨v, C, v2, C2, hO, hQ, rfl⟩ := hM
  obtain ⟨A, c, rfl, hmc, hcx⟩ := hO.open'
  obtain ⟨A2, c2, rfl, hmc2, hcx2⟩ := hQ.open'
  replace hS : St w0 w ([(b, rowO [.slice A ts.length c, .slice A2 q.length c2] 29)] :: C :: C2 :: F) := hS.split3
  refine enter (vs := [.pointer (some ⟨b, 0, none⟩)]) 8 Tryd.func8 rfl rfl (by simp) ?_; intro a hA
  refine wp_seq ?_
  refine wp_region_lit ?_
  refine st_run tbOk 1 hA (e' := (2, .slice none 0 0) :: _) rfl ?_; clear hA; intro a hA
  refine wpList_nil ?_
  replace hA := hA.sel [0] (e' := [(0, .pointer (some ⟨b, 0, none⟩))]) rfl
  refine xt_norm ?_
  refine wp_seq ?_
  refine wp_region_lit ?_
  refine st_run tbOk 3 hA (e' := (5, .pointer (some ⟨b, 1, none⟩)) :: (4, .pointer (some ⟨b, 0, none⟩)) :: (3, .pointer (some ⟨b, 0, none⟩)) :: _) rfl ?_; clear hA; intro a hA
  refine st_val hA rfl rfl (by decide) (rn_load tbOk hA rfl rfl rfl rfl (cell_row (hS.heapAt 0 rfl) rfl)) ?_; clear hA; intro a hA
  replace hS := hS.nil
  refine st_append2 tbOk hA (m := 0) (q := q.length) (xs := rows encI ([] : List Int)) (news := rows encI q) rfl rfl rfl rfl rfl rfl rfl rfl rfl rfl (by decide) (Own.nil 3 1) hS (hQ.rd (hS.own_ 3 rfl)) (rows_one encI_ok _) (maxLen_le (by omega)) (by show (0 + q.length) * 8 ≤ 140737488355328; omega) rfl rfl (by decide) ?_
  clear hA hS; intro v1 w2 C3 a hO3 hS hA
  replace hO3 := Own.app (l := ([] : List Int)) (l2 := q) hO3
  replace hO3 : Own 3 1 v1 q.length (rows encI q) C3 := hO3
  obtain ⟨A4, c5, rfl, hmc5, hxc5⟩ := hO3.open'
  refine st_run tbOk 1 hA (e' := (2, .slice A4 q.length c5) :: _) rfl ?_; clear hA; intro a hA
  refine wpList_nil ?_
  replace hA := hA.sel [2] (e' := [(2, .slice A4 q.length c5)]) rfl
  refine xt_norm ?_
  refine wp_ret ?_
  refine ret1 (fn := Tryd.f8) hA rfl rfl ?_
  replace hS := hS.front 3 (C := C2) (L' := C3 :: [(b, rowO [.slice A ts.length c, .slice A2 q.length c2] 29)] :: C :: F) rfl rfl
  replace hS := hS.front 3 (C := C) (L' := C2 :: C3 :: [(b, rowO [.slice A ts.length c, .slice A2 q.length c2] 29)] :: F) rfl rfl
  replace hS := hS.front 3 (C := [(b, rowO [.slice A ts.length c, .slice A2 q.length c2] 29)]) (L' := C :: C2 :: C3 :: F) rfl rfl
  replace hS := hS.join3
  replace hS := hS.swap
  exact ⟨_, C3, hO3, ⟨_, _, _, _, hO, hQ, rfl⟩, hS⟩

theorem nodup_rest {q : List Int} {k : Nat} {x : Int} (hn : q.Nodup) (hx : q[k]? = some x) : (q.take k ++ q.drop (k + 1)).any (fun y => y == x) = false := by
  obtain ⟨hk, hx2⟩ := List.getElem?_eq_some_iff.1 hx
  rw [List.any_eq_false]; intro y hy
  simp only [beq_iff_eq]
  intro e
  subst e
  have e1 : q = q.take k ++ y :: q.drop (k + 1) := by
    conv => lhs; rw [← List.take_append_drop k q, List.drop_eq_getElem_cons hk, hx2]
  rw [e1] at hn
  have h3 := List.nodup_append.1 hn
  rcases List.mem_append.1 hy with hy | hy
  · exact h3.2.2 y hy y (by simp) rfl
  · exact (List.nodup_cons.1 h3.2.1).1 hy
theorem rest_len {q : List Int} {k : Nat} (hk : k < q.length) : (q.take k ++ q.drop (k + 1)).length + 1 = q.length := by simp; omega

theorem pick_ok19 {w0 w : World} {F : List Chunk} {L : Chunk} {b : Nat} {ts : List (Int × Int × Int)} {q : List Int} (hS : St w0 w (L :: F)) (hM : TR 29 b ts q L) (p : Int) (h0 : 0 < q.length) (hql : q.length ≤ 64) (hnd : q.Nodup) :
    Ret Tryd.prog 19 #[.pointer (some ⟨b, 0, none⟩), .int .i64 p] w (fun v w' => ∃ (k : Nat) (x : Int), k < q.length ∧ (k : Int) = p % (q.length : Int) ∧ q[k]? = some x ∧ ∃ L', TR 29 b ts (q.take k ++ q.drop (k + 1) ++ [x]) L' ∧ v = .tuple #[.int .i64 x, .nilIface] ∧ St w0 w' (L' :: F)) := by
  obtain ⟨v, C, v2, C2, hO, hQ, rfl⟩ := hM
  obtain ⟨A, c, rfl, hmc, hcx⟩ := hO.open'
  obtain ⟨A2, c2, rfl, hmc2, hcx2⟩ := hQ.open'
  replace hS : St w0 w ([(b, rowO [.slice A ts.length c, .slice A2 q.length c2] 29)] :: C :: C2 :: F) := hS.split3
  refine enter (vs := [.pointer (some ⟨b, 0, none⟩), .int .i64 p]) 32 Tryd.func19 rfl rfl (by simp) ?_; intro a hA
  refine wp_seq ?_
  refine wp_region_lit ?_
  refine st_run tbOk 2 hA (e' := (5, .nilIface) :: (4, .int .i64 0) :: _) rfl ?_; clear hA; intro a hA
  refine wpList_nil ?_
  replace hA := hA.sel [0, 1] (e' := [(0, .pointer (some ⟨b, 0, none⟩)), (1, .int .i64 p)]) rfl
  refine xt_norm ?_
  refine wp_seq ?_
  refine wp_region_lit ?_
  refine st_run tbOk 3 hA (e' := (12, .pointer (some ⟨b, 1, none⟩)) :: (11, .pointer (some ⟨b, 0, none⟩)) :: (10, .pointer (some ⟨b, 0, none⟩)) :: _) rfl ?_; clear hA; intro a hA
  refine st_val hA rfl rfl (by decide) (rn_load tbOk hA rfl rfl rfl rfl (cell_row (hS.heapAt 0 rfl) rfl)) ?_; clear hA; intro a hA
  refine st_run tbOk 1 hA (e' := (14, .int .i64 p) :: _) rfl ?_; clear hA; intro a hA
  refine st_call0 hA rfl rfl rfl isfn23 rfl rfl (by decide) (take_ok23 hS (l := q) (RdS.own hQ 2 rfl) p h0 (by omega)) ?_
  clear hA hS; rintro _ w2 a ⟨k, x, v1, C3, hk, hkp, hx, rfl, hO3, hS⟩ hA
  obtain ⟨A4, c5, rfl, hmc5, hxc5⟩ := hO3.open'
  have hrl := rest_len hk
  refine st_run tbOk 7 hA (e' := (8, .nilIface) :: (7, .slice A4 ((q.take k ++ q.drop (k + 1)).length) c5) :: (6, .int .i64 x) :: (18, .nilIface) :: (17, .slice A4 ((q.take k ++ q.drop (k + 1)).length) c5) :: (16, .int .i64 x) :: (9, .tuple #[.int .i64 x, .slice A4 ((q.take k ++ q.drop (k + 1)).length) c5, .nilIface]) :: _) rfl ?_; clear hA; intro a hA
  refine wpList_nil ?_
  replace hA := hA.sel [0, 6, 7, 8] (e' := [(0, .pointer (some ⟨b, 0, none⟩)), (6, .int .i64 x), (7, .slice A4 ((q.take k ++ q.drop (k + 1)).length) c5), (8, .nilIface)]) rfl
  refine xt_norm ?_
  refine wp_seq ?_
  refine wp_seq ?_
  refine wp_region_lit ?_
  refine st_run tbOk 2 hA (e' := (20, .bool false) :: (19, .nilIface) :: _) rfl ?_; clear hA; intro a hA
  refine wpList_nil ?_
  replace hA := hA.sel [0, 6, 7, 8, 20] (e' := [(0, .pointer (some ⟨b, 0, none⟩)), (6, .int .i64 x), (7, .slice A4 ((q.take k ++ q.drop (k + 1)).length) c5), (8, .nilIface), (20, .bool false)]) rfl
  refine xt_norm ?_
  refine cd_cond_f hA rfl ?_
  refine wp_skip ?_
  refine xt_norm ?_
  refine wp_seq ?_
  refine wp_region_lit ?_
  refine st_run tbOk 3 hA (e' := (25, .int .i64 x) :: (24, .slice A4 ((q.take k ++ q.drop (k + 1)).length) c5) :: (23, .pointer (some ⟨b, 0, none⟩)) :: _) rfl ?_; clear hA; intro a hA
  refine st_call0 hA rfl rfl rfl isfn20 rfl rfl (by decide) (push_ok20 hS (l := q.take k ++ q.drop (k + 1)) (RdS.own hO3 0 rfl) x (nodup_rest hnd hx) (by omega)) ?_
  clear hA hS; rintro _ w7 a ⟨v6, C8, rfl, hO8, hS⟩ hA
  obtain ⟨A9, c10, rfl, hmc10, hxc10⟩ := hO8.open'
  refine st_run tbOk 5 hA (e' := (30, .pointer (some ⟨b, 1, none⟩)) :: (29, .pointer (some ⟨b, 0, none⟩)) :: (28, .nilIface) :: (27, .slice A9 (((q.take k ++ q.drop (k + 1)) ++ [x]).length) c10) :: (22, .tuple #[.slice A9 (((q.take k ++ q.drop (k + 1)) ++ [x]).length) c10, .nilIface]) :: _) rfl ?_; clear hA; intro a hA
  replace hS := hS.front 2 (C := [(b, rowO [.slice A ts.length c, .slice A2 q.length c2] 29)]) (L' := C8 :: C3 :: C :: C2 :: F) rfl rfl
  refine st_store tbOk hA hS [.slice A9 (((q.take k ++ q.drop (k + 1)) ++ [x]).length) c10] [.slice A ts.length c, .slice A9 (((q.take k ++ q.drop (k + 1)) ++ [x]).length) c10] rfl rfl rfl rfl rfl rfl (by intro u hu; rw [List.mem_singleton.1 hu]; rfl) (Nat.le_of_ble_eq_true rfl) rfl rfl rfl ?_; clear hS; intro w11 hS
  refine wpList_nil ?_
  replace hA := hA.sel [6] (e' := [(6, .int .i64 x)]) rfl
  refine xt_norm ?_
  refine wp_seq ?_
  refine wp_region_lit ?_
  refine st_run tbOk 3 hA (e' := (5, .nilIface) :: (4, .int .i64 x) :: (31, .int .i64 x) :: _) rfl ?_; clear hA; intro a hA
  refine wpList_nil ?_
  replace hA := hA.sel [4, 5] (e' := [(4, .int .i64 x), (5, .nilIface)]) rfl
  refine xt_norm ?_
  refine wp_ret ?_
  refine ret2 (fn := Tryd.f19) hA rfl rfl rfl ?_
  replace hS := hS.front 1 (C := C8) (L' := [(b, rowO [.slice A ts.length c, .slice A9 (((q.take k ++ q.drop (k + 1)) ++ [x]).length) c10] 29)] :: C3 :: C :: C2 :: F) rfl rfl
  replace hS := hS.front 3 (C := C) (L' := C8 :: [(b, rowO [.slice A ts.length c, .slice A9 (((q.take k ++ q.drop (k + 1)) ++ [x]).length) c10] 29)] :: C3 :: C2 :: F) rfl rfl
  replace hS := hS.front 2 (C := [(b, rowO [.slice A ts.length c, .slice A9 (((q.take k ++ q.drop (k + 1)) ++ [x]).length) c10] 29)]) (L' := C :: C8 :: C3 :: C2 :: F) rfl rfl
  replace hS := (hS.front 3 rfl rfl).drop1
  replace hS := (hS.front 3 rfl rfl).drop1
  replace hS := hS.join3
  exact ⟨k, x, hk, hkp, hx, _, ⟨_, _, _, _, hO, hO8, rfl⟩, rfl, hS⟩

theorem pick_none19 {w0 w : World} {F : List Chunk} {L : Chunk} {b : Nat} {ts : List (Int × Int × Int)} {q : List Int} (hS : St w0 w (L :: F)) (hM : TR 29 b ts q L) (p : Int) (h0 : q.length = 0) :
    Ret Tryd.prog 19 #[.pointer (some ⟨b, 0, none⟩), .int .i64 p] w (fun v w' => ∃ L', TR 29 b (ts) (q) L' ∧ v = .tuple #[.int .i64 0, .iface 53 (.int .i64 12)] ∧ St w0 w' (L' :: F)) := by
  obtain ⟨v, C, v2, C2, hO, hQ, rfl⟩ := hM
  obtain ⟨A, c, rfl, hmc, hcx⟩ := hO.open'
  obtain ⟨A2, c2, rfl, hmc2, hcx2⟩ := hQ.open'
  replace hS : St w0 w ([(b, rowO [.slice A ts.length c, .slice A2 q.length c2] 29)] :: C :: C2 :: F) := hS.split3
  refine enter (vs := [.pointer (some ⟨b, 0, none⟩), .int .i64 p]) 32 Tryd.func19 rfl rfl (by simp) ?_; intro a hA
  refine wp_seq ?_
  refine wp_region_lit ?_
  refine st_run tbOk 2 hA (e' := (5, .nilIface) :: (4, .int .i64 0) :: _) rfl ?_; clear hA; intro a hA
  refine wpList_nil ?_
  replace hA := hA.sel [0, 1] (e' := [(0, .pointer (some ⟨b, 0, none⟩)), (1, .int .i64 p)]) rfl
  refine xt_norm ?_
  refine wp_seq ?_
  refine wp_region_lit ?_
  refine st_run tbOk 3 hA (e' := (12, .pointer (some ⟨b, 1, none⟩)) :: (11, .pointer (some ⟨b, 0, none⟩)) :: (10, .pointer (some ⟨b, 0, none⟩)) :: _) rfl ?_; clear hA; intro a hA
  refine st_val hA rfl rfl (by decide) (rn_load tbOk hA rfl rfl rfl rfl (cell_row (hS.heapAt 0 rfl) rfl)) ?_; clear hA; intro a hA
  refine st_run tbOk 1 hA (e' := (14, .int .i64 p) :: _) rfl ?_; clear hA; intro a hA
  refine st_call0 hA rfl rfl rfl isfn23 rfl rfl (by decide) (take_none23 hS (l := q) (RdS.own hQ 2 rfl) p h0) ?_
  clear hA hS; rintro _ w1 a ⟨rfl, hS⟩ hA
  refine st_run tbOk 7 hA (e' := (8, .iface 53 (.int .i64 12)) :: (7, .slice none 0 0) :: (6, .int .i64 0) :: (18, .iface 53 (.int .i64 12)) :: (17, .slice none 0 0) :: (16, .int .i64 0) :: (9, .tuple #[.int .i64 0, .slice none 0 0, .iface 53 (.int .i64 12)]) :: _) rfl ?_; clear hA; intro a hA
  refine wpList_nil ?_
  replace hA := hA.sel [0, 6, 7, 8] (e' := [(0, .pointer (some ⟨b, 0, none⟩)), (6, .int .i64 0), (7, .slice none 0 0), (8, .iface 53 (.int .i64 12))]) rfl
  refine xt_norm ?_
  refine wp_seq ?_
  refine wp_seq ?_
  refine wp_region_lit ?_
  refine st_run tbOk 2 hA (e' := (20, .bool true) :: (19, .iface 53 (.int .i64 12)) :: _) rfl ?_; clear hA; intro a hA
  refine wpList_nil ?_
  replace hA := hA.sel [0, 6, 7, 8, 20] (e' := [(0, .pointer (some ⟨b, 0, none⟩)), (6, .int .i64 0), (7, .slice none 0 0), (8, .iface 53 (.int .i64 12)), (20, .bool true)]) rfl
  refine xt_norm ?_
  refine cd_cond_t hA rfl ?_
  refine wp_seq ?_
  refine wp_region_lit ?_
  refine st_run tbOk 3 hA (e' := (5, .iface 53 (.int .i64 12)) :: (4, .int .i64 0) :: (21, .iface 53 (.int .i64 12)) :: _) rfl ?_; clear hA; intro a hA
  refine wpList_nil ?_
  replace hA := hA.sel [4, 5] (e' := [(4, .int .i64 0), (5, .iface 53 (.int .i64 12))]) rfl
  refine xt_norm ?_
  refine wp_ret (xt_ret ?_)
  refine ret2 (fn := Tryd.f19) hA rfl rfl rfl ?_
  replace hS := hS.front 2 (C := C2) (L' := [(b, rowO [.slice A ts.length c, .slice A2 q.length c2] 29)] :: C :: F) rfl rfl
  replace hS := hS.front 2 (C := C) (L' := C2 :: [(b, rowO [.slice A ts.length c, .slice A2 q.length c2] 29)] :: F) rfl rfl
  replace hS := hS.front 2 (C := [(b, rowO [.slice A ts.length c, .slice A2 q.length c2] 29)]) (L' := C :: C2 :: F) rfl rfl
  replace hS := hS.join3
  exact ⟨_, ⟨_, _, _, _, hO, hQ, rfl⟩, rfl, hS⟩

def hit (pr : Int) (x : Int × Int × Int) : Bool := x.1 == pr && !(x.2.1 == 0) && !(x.2.1 == 3)
/-- What Kill does with the first k threads. -/
def kst (ts : List (Int × Int × Int)) (q : List Int) (pr : Int) : Nat → List (Int × Int × Int) × List Int × List Int
  | 0 => (ts, q, [])
  | k + 1 => match (kst ts q pr k).1[k]? with
    | some x => if hit pr x then ((kst ts q pr k).1.set k (x.1, 3, 0), (kst ts q pr k).2.1.filter (fun y => !(y == ((k : Nat) : Int))), (kst ts q pr k).2.2 ++ [((k : Nat) : Int)]) else kst ts q pr k
    | none => kst ts q pr k
theorem kst_yes {ts : List (Int × Int × Int)} {q : List Int} {pr : Int} {k : Nat} {x : Int × Int × Int} (hx : (kst ts q pr k).1[k]? = some x) (h : hit pr x = true) :
    kst ts q pr (k + 1) = ((kst ts q pr k).1.set k (x.1, 3, 0), (kst ts q pr k).2.1.filter (fun y => !(y == ((k : Nat) : Int))), (kst ts q pr k).2.2 ++ [((k : Nat) : Int)]) := by
  rw [kst, hx]; simp only [h, if_true]
theorem kst_no {ts : List (Int × Int × Int)} {q : List Int} {pr : Int} {k : Nat} {x : Int × Int × Int} (hx : (kst ts q pr k).1[k]? = some x) (h : hit pr x = false) : kst ts q pr (k + 1) = kst ts q pr k := by
  rw [kst, hx]; simp [h]
theorem kst_len (ts : List (Int × Int × Int)) (q : List Int) (pr : Int) : ∀ k, (kst ts q pr k).1.length = ts.length
  | 0 => rfl
  | k + 1 => by
    rw [kst]; split
    · split
      · rw [List.length_set]; exact kst_len ts q pr k
      · exact kst_len ts q pr k
    · exact kst_len ts q pr k
theorem kst_qlen (ts : List (Int × Int × Int)) (q : List Int) (pr : Int) : ∀ k, (kst ts q pr k).2.1.length ≤ q.length
  | 0 => Nat.le_refl _
  | k + 1 => by
    rw [kst]; split
    · split
      · exact Nat.le_trans (List.length_filter_le _ _) (kst_qlen ts q pr k)
      · exact kst_qlen ts q pr k
    · exact kst_qlen ts q pr k
theorem kst_out (ts : List (Int × Int × Int)) (q : List Int) (pr : Int) : ∀ k, (kst ts q pr k).2.2.length ≤ k
  | 0 => Nat.le_refl _
  | k + 1 => by
    have := kst_out ts q pr k
    rw [kst]; split
    · split
      · simp; omega
      · omega
    · omega
theorem hit_yes {pr : Int} {x : Int × Int × Int} (h1 : x.1 = pr) (h2 : ¬ x.2.1 = 0) (h3 : ¬ x.2.1 = 3) : hit pr x = true := by simp [hit, h1, h2, h3]
theorem hit_p {pr : Int} {x : Int × Int × Int} (h1 : ¬ x.1 = pr) : hit pr x = false := by simp [hit, h1]
theorem hit_0 {pr : Int} {x : Int × Int × Int} (h1 : x.2.1 = 0) : hit pr x = false := by simp [hit, h1]
theorem hit_3 {pr : Int} {x : Int × Int × Int} (h1 : x.2.1 = 3) : hit pr x = false := by simp [hit, h1]
theorem TI.kst {ts : List (Int × Int × Int)} {q : List Int} (h : TI ts q) (pr : Int) : ∀ k, TI (kst ts q pr k).1 (kst ts q pr k).2.1
  | 0 => h
  | k + 1 => by
    have ih := TI.kst h pr k
    rw [Proofs.YtglebdfenojglaaDoor.kst]; split
    · split
      · exact ih.filt k _ _
      · exact ih
    · exact ih

theorem kill13 {w0 w : World} {F : List Chunk} {L : Chunk} {b : Nat} {ts : List (Int × Int × Int)} {q : List Int} (hS : St w0 w (L :: F)) (hM : TR 29 b ts q L) (pr : Int) (hts : ts.length ≤ 64) (hql : q.length ≤ 64) :
    Ret Tryd.prog 13 #[.pointer (some ⟨b, 0, none⟩), .int .i64 pr] w (fun v w' => ∃ L' C', Own 3 1 v (kst ts q pr ts.length).2.2.length (rows encI (kst ts q pr ts.length).2.2) C' ∧ TR 29 b (kst ts q pr ts.length).1 (kst ts q pr ts.length).2.1 L' ∧ St w0 w' (C' :: L' :: F)) := by
  refine enter (vs := [.pointer (some ⟨b, 0, none⟩), .int .i64 pr]) 37 Tryd.func13 rfl rfl (by simp) ?_; intro a hA
  refine wp_seq ?_
  refine wp_region_lit ?_
  refine st_run tbOk 1 hA (e' := (4, .slice none 0 0) :: _) rfl ?_; clear hA; intro a hA
  refine wpList_nil ?_
  replace hA := hA.sel [0, 1] (e' := [(0, .pointer (some ⟨b, 0, none⟩)), (1, .int .i64 pr)]) rfl
  refine xt_norm ?_
  refine wp_seq ?_
  refine wp_region_lit ?_
  refine st_run tbOk 1 hA (e' := (5, .slice none 0 0) :: _) rfl ?_; clear hA; intro a hA
  refine wpList_nil ?_
  refine xt_norm ?_
  refine wp_seq ?_
  refine wp_seq ?_
  refine wp_region_lit ?_
  obtain ⟨v1, C1, u1, D1, hO1, hQ1, rfl⟩ := hM
  obtain ⟨A1, c1, rfl, hmc1, hxc1⟩ := hO1.open'
  obtain ⟨B1, d1, rfl, hmd1, hxd1⟩ := hQ1.open'
  replace hS := hS.split3
  refine st_run tbOk 3 hA (e' := (9, .pointer (some ⟨b, 0, none⟩)) :: (8, .pointer (some ⟨b, 0, none⟩)) :: (7, .pointer (some ⟨b, 0, none⟩)) :: _) rfl ?_; clear hA; intro a hA
  refine st_val hA rfl rfl (by decide) (rn_load tbOk hA rfl rfl rfl rfl (cell_row (hS.heapAt 0 rfl) rfl)) ?_; clear hA; intro a hA
  refine st_run tbOk 1 hA (e' := (11, .int .i64 ((ts.length : Nat) : Int)) :: _) rfl ?_; clear hA; intro a hA
  replace hS := hS.front 2 (C := D1) (L' := [(b, rowO [.slice A1 ts.length c1, .slice B1 q.length d1] 29)] :: C1 :: F) rfl rfl
  replace hS := hS.front 2 (C := C1) (L' := D1 :: [(b, rowO [.slice A1 ts.length c1, .slice B1 q.length d1] 29)] :: F) rfl rfl
  replace hS := hS.front 2 (C := [(b, rowO [.slice A1 ts.length c1, .slice B1 q.length d1] 29)]) (L' := C1 :: D1 :: F) rfl rfl
  obtain ⟨L2, hM3, hS⟩ : ∃ Z, TR 29 b (ts) (q) Z ∧ St w0 w (Z :: F) := ⟨_, ⟨_, _, _, _, hO1, hQ1, rfl⟩, hS.join3⟩
  refine st_run tbOk 1 hA (e' := (12, .int .i64 0) :: _) rfl ?_; clear hA; intro a hA
  refine wpList_nil ?_
  replace hA := hA.sel [0, 1, 5, 11, 12] (e' := [(0, .pointer (some ⟨b, 0, none⟩)), (1, .int .i64 pr), (5, .slice none 0 0), (11, .int .i64 ((ts.length : Nat) : Int)), (12, .int .i64 0)]) rfl
  refine xt_norm ?_
  refine wp_block ?_
  replace hS := hS.nil
  replace hS := hS.front 1 (C := L2) (L' := [] :: F) rfl rfl
  refine wp_loop_ghost (fun m a w => ∃ (k : Nat) (L : Chunk) (Ao : Option Addr) (co : Nat) (R : Chunk), m = ts.length - k ∧ Has a 37 [(0, .pointer (some ⟨b, 0, none⟩)), (1, .int .i64 pr), (5, .slice Ao ((kst ts q pr k).2.2.length) co), (11, .int .i64 ((ts.length : Nat) : Int)), (12, .int .i64 ((k : Nat) : Int))] ∧ St w0 w (L :: R :: F) ∧ (k ≤ ts.length) ∧ (TR 29 b (kst ts q pr k).1 (kst ts q pr k).2.1 L) ∧ (Own 3 1 (.slice Ao (kst ts q pr k).2.2.length co) (kst ts q pr k).2.2.length (rows encI (kst ts q pr k).2.2) R)) (ts.length - 0)
    ⟨0, L2, none, 0, ([]), rfl, (hA.sel [0, 1, 5, 11, 12] rfl), hS, Nat.zero_le _, hM3, (Own.nil 3 1)⟩ ?_
  clear hA hS; rintro m0 a w4 ⟨k, L, Ao, co, R, rfl, hA, hS, hk, hM, hR⟩
  have hkl := kst_len ts q pr k
  have hkq := kst_qlen ts q pr k
  have hko := kst_out ts q pr k
  refine wp_seq ?_
  refine wp_region_lit ?_
  refine st_run tbOk 1 hA (e' := (13, .bool (decide (((k : Nat) : Int) < ((ts.length : Nat) : Int)))) :: _) rfl ?_; clear hA; intro a hA
  refine wpList_nil ?_
  refine xt_norm ?_
  refine wp_seq ?_
  by_cases hc5 : ((k : Nat) : Int) < ((ts.length : Nat) : Int)
  · first
    | (exfalso; omega)
    | (replace hA := hA.rw 13 (v' := .bool true) rfl (vb_true hc5)
       refine cd_cond_t hA rfl ?_
       refine wp_skip ?_
       refine xt_norm ?_
       refine wp_seq ?_
       refine wp_block ?_
       refine wp_seq ?_
       refine wp_region_lit ?_
       refine st_run tbOk 2 hA (e' := (6, .int .i64 ((k : Nat) : Int)) :: (14, .int .i64 ((k : Nat) : Int)) :: _) rfl ?_; clear hA; intro a hA
       refine wpList_nil ?_
       replace hA := hA.sel [0, 1, 5, 6, 11, 12] (e' := [(0, .pointer (some ⟨b, 0, none⟩)), (1, .int .i64 pr), (5, .slice Ao ((kst ts q pr k).2.2.length) co), (6, .int .i64 ((k : Nat) : Int)), (11, .int .i64 ((ts.length : Nat) : Int)), (12, .int .i64 ((k : Nat) : Int))]) rfl
       refine xt_norm ?_
       refine wp_seq ?_
       refine wp_region_lit ?_
       obtain ⟨v6, C6, u6, D6, hO6, hQ6, rfl⟩ := hM
       obtain ⟨A6, c6, rfl, hmc6, hxc6⟩ := hO6.open'
       obtain ⟨B6, d6, rfl, hmd6, hxd6⟩ := hQ6.open'
       replace hS := hS.split3
       refine st_run tbOk 3 hA (e' := (17, .pointer (some ⟨b, 0, none⟩)) :: (16, .pointer (some ⟨b, 0, none⟩)) :: (15, .pointer (some ⟨b, 0, none⟩)) :: _) rfl ?_; clear hA; intro a hA
       refine st_val hA rfl rfl (by decide) (rn_load tbOk hA rfl rfl rfl rfl (cell_row (hS.heapAt 0 rfl) rfl)) ?_; clear hA; intro a hA
       refine st_run tbOk 1 hA (e' := (19, .int .i64 ((k : Nat) : Int)) :: _) rfl ?_; clear hA; intro a hA
       obtain ⟨⟨p0, s0, u0⟩, hxk⟩ := get_ex (l := (kst ts q pr k).1) (k := k) (by omega)
       obtain ⟨b7, o8, rfl⟩ := hO6.isSome (k := k) (by omega)
       refine st_val hA rfl rfl (by decide) (rn_indexAddr tbOk hA k (o8 + (k * 3)) rfl rfl rfl rfl rfl rfl (by rfl) (by omega) (by first | rfl | simp [Nat.mul_one, Nat.zero_add] | omega)) ?_; clear hA; intro a hA
       refine st_run tbOk 1 hA (e' := (21, .pointer (some ⟨b7, o8 + (k * 3), none⟩)) :: _) rfl ?_; clear hA; intro a hA
       refine st_val hA rfl rfl (by decide) (rn_load tbOk hA rfl rfl rfl rfl ((hO6.rd (hS.own_ 1 rfl)).elemf (k := k) encThread_ok hxk (j := 0) rfl)) ?_; clear hA; intro a hA
       refine st_run tbOk 3 hA (e' := (25, .bool (((p0, s0, u0).1) == pr)) :: (24, .bool (((p0, s0, u0).1) == pr)) :: (23, .int .i64 pr) :: _) rfl ?_; clear hA; intro a hA
       by_cases hc9 : (p0, s0, u0).1 = pr
       · first
         | (exfalso; omega)
         | (replace hA := hA.rw 24 (v' := .bool true) rfl (vb_eq_t hc9)
            replace hA := hA.rw 25 (v' := .bool true) rfl (vb_eq_t hc9)
            refine st_run tbOk 2 hA (e' := (27, .int .i64 ((k : Nat) : Int)) :: (26, .pointer (some ⟨b, 0, none⟩)) :: _) rfl ?_; clear hA; intro a hA
            replace hS := hS.front 2 (C := D6) (L' := [(b, rowO [.slice (some ⟨b7, o8, none⟩) (((kst ts q pr k).1).length) c6, .slice B6 (((kst ts q pr k).2.1).length) d6] 29)] :: C6 :: R :: F) rfl rfl
            replace hS := hS.front 2 (C := C6) (L' := D6 :: [(b, rowO [.slice (some ⟨b7, o8, none⟩) (((kst ts q pr k).1).length) c6, .slice B6 (((kst ts q pr k).2.1).length) d6] 29)] :: R :: F) rfl rfl
            replace hS := hS.front 2 (C := [(b, rowO [.slice (some ⟨b7, o8, none⟩) (((kst ts q pr k).1).length) c6, .slice B6 (((kst ts q pr k).2.1).length) d6] 29)]) (L' := C6 :: D6 :: R :: F) rfl rfl
            obtain ⟨L10, hM11, hS⟩ : ∃ Z, TR 29 b ((kst ts q pr k).1) ((kst ts q pr k).2.1) Z ∧ St w0 w4 (Z :: R :: F) := ⟨_, ⟨_, _, _, _, hO6, hQ6, rfl⟩, hS.join3⟩
            have hcs : s0 = 0 ∨ s0 = 3 ∨ (¬ s0 = 0 ∧ ¬ s0 = 3) := by omega
            rcases hcs with h0 | h3 | ⟨h0, h3⟩
            · refine st_call0 hA rfl rfl rfl isfn11 rfl rfl (by decide) (exit_none11 hS hM11 k hxk h0) ?_
              clear hA hS; rintro v w13 a ⟨L12, hM14, rfl, hS⟩ hA
              refine st_run tbOk 2 hA (e' := (30, .bool false) :: (29, .bool false) :: _) rfl ?_; clear hA; intro a hA
              refine wpList_nil ?_
              replace hA := hA.sel [0, 1, 5, 6, 11, 12, 30] (e' := [(0, .pointer (some ⟨b, 0, none⟩)), (1, .int .i64 pr), (5, .slice Ao ((kst ts q pr k).2.2.length) co), (6, .int .i64 ((k : Nat) : Int)), (11, .int .i64 ((ts.length : Nat) : Int)), (12, .int .i64 ((k : Nat) : Int)), (30, .bool false)]) rfl
              refine xt_norm ?_
              refine cd_cond_f hA rfl ?_
              refine wp_skip ?_
              refine xb_norm ?_
              refine xt_norm ?_
              refine wp_region_lit ?_
              refine st_run tbOk 1 hA (e' := (35, .int .i64 (IntKind.i64.wrap (((k : Nat) : Int) + 1))) :: _) rfl ?_; clear hA; intro a hA
              replace hA := hA.rw 35 (v' := .int .i64 ((k + 1 : Nat) : Int)) rfl (wr64 (by omega) (by omega) (by omega))
              refine st_run tbOk 1 hA (e' := (12, .int .i64 ((k + 1 : Nat) : Int)) :: _) rfl ?_; clear hA; intro a hA
              refine wpList_nil ?_
              replace hA := hA.sel [0, 1, 5, 11, 12] (e' := [(0, .pointer (some ⟨b, 0, none⟩)), (1, .int .i64 pr), (5, .slice Ao ((kst ts q pr k).2.2.length) co), (11, .int .i64 ((ts.length : Nat) : Int)), (12, .int .i64 ((k + 1 : Nat) : Int))]) rfl
              have hk1 : kst ts q pr (k + 1) = kst ts q pr k := kst_no hxk (hit_0 h0)
              have hl : (kst ts q pr k).2.2 = (kst ts q pr (k + 1)).2.2 := by rw [hk1]
              rw [hl] at hR; rw [hl] at hA
              exact lp_next _ (by omega) ⟨(k + 1), L12, Ao, co, R, rfl, (hA.sel [0, 1, 5, 11, 12] rfl), hS, by omega, (by rw [hk1]; exact hM14), hR⟩
            · refine st_call0 hA rfl rfl rfl isfn11 rfl rfl (by decide) (exit_dead11 hS hM11 k hxk h3) ?_
              clear hA hS; rintro v w16 a ⟨L15, hM17, rfl, hS⟩ hA
              refine st_run tbOk 2 hA (e' := (30, .bool false) :: (29, .bool false) :: _) rfl ?_; clear hA; intro a hA
              refine wpList_nil ?_
              replace hA := hA.sel [0, 1, 5, 6, 11, 12, 30] (e' := [(0, .pointer (some ⟨b, 0, none⟩)), (1, .int .i64 pr), (5, .slice Ao ((kst ts q pr k).2.2.length) co), (6, .int .i64 ((k : Nat) : Int)), (11, .int .i64 ((ts.length : Nat) : Int)), (12, .int .i64 ((k : Nat) : Int)), (30, .bool false)]) rfl
              refine xt_norm ?_
              refine cd_cond_f hA rfl ?_
              refine wp_skip ?_
              refine xb_norm ?_
              refine xt_norm ?_
              refine wp_region_lit ?_
              refine st_run tbOk 1 hA (e' := (35, .int .i64 (IntKind.i64.wrap (((k : Nat) : Int) + 1))) :: _) rfl ?_; clear hA; intro a hA
              replace hA := hA.rw 35 (v' := .int .i64 ((k + 1 : Nat) : Int)) rfl (wr64 (by omega) (by omega) (by omega))
              refine st_run tbOk 1 hA (e' := (12, .int .i64 ((k + 1 : Nat) : Int)) :: _) rfl ?_; clear hA; intro a hA
              refine wpList_nil ?_
              replace hA := hA.sel [0, 1, 5, 11, 12] (e' := [(0, .pointer (some ⟨b, 0, none⟩)), (1, .int .i64 pr), (5, .slice Ao ((kst ts q pr k).2.2.length) co), (11, .int .i64 ((ts.length : Nat) : Int)), (12, .int .i64 ((k + 1 : Nat) : Int))]) rfl
              have hk1 : kst ts q pr (k + 1) = kst ts q pr k := kst_no hxk (hit_3 h3)
              have hl : (kst ts q pr k).2.2 = (kst ts q pr (k + 1)).2.2 := by rw [hk1]
              rw [hl] at hR; rw [hl] at hA
              exact lp_next _ (by omega) ⟨(k + 1), L15, Ao, co, R, rfl, (hA.sel [0, 1, 5, 11, 12] rfl), hS, by omega, (by rw [hk1]; exact hM17), hR⟩
            · refine st_call0 hA rfl rfl rfl isfn11 rfl rfl (by decide) (exit_ok11 hS hM11 k hxk h0 h3 (by omega)) ?_
              clear hA hS; rintro v w19 a ⟨L18, hM20, rfl, hS⟩ hA
              refine st_run tbOk 2 hA (e' := (30, .bool true) :: (29, .bool true) :: _) rfl ?_; clear hA; intro a hA
              refine wpList_nil ?_
              replace hA := hA.sel [0, 1, 5, 6, 11, 12, 30] (e' := [(0, .pointer (some ⟨b, 0, none⟩)), (1, .int .i64 pr), (5, .slice Ao ((kst ts q pr k).2.2.length) co), (6, .int .i64 ((k : Nat) : Int)), (11, .int .i64 ((ts.length : Nat) : Int)), (12, .int .i64 ((k : Nat) : Int)), (30, .bool true)]) rfl
              refine xt_norm ?_
              refine cd_cond_t hA rfl ?_
              refine wp_region_lit ?_
              refine st_run tbOk 2 hA (e' := (32, .int .i64 ((k : Nat) : Int)) :: (31, .slice Ao ((kst ts q pr k).2.2.length) co) :: _) rfl ?_; clear hA; intro a hA
              refine st_buildSlice tbOk hA hS [.int .i64 ((k : Nat) : Int)] rfl rfl rfl rfl rfl (by decide) (by kernel_rfl) rfl rfl (by decide) ?_; clear hA hS; intro b21 w22 a hS hA
              replace hS := hS.front 2 (C := R) (L' := [(b21, rowO [.int .i64 ((k : Nat) : Int)] 3)] :: L18 :: F) rfl rfl
              refine st_append tbOk hA (m := ((kst ts q pr k).2.2).length) (q := 1) (xs := rows encI ((kst ts q pr k).2.2)) (news := rows encI ([((k : Nat) : Int)] : List Int)) rfl rfl rfl rfl rfl rfl rfl rfl (by decide) hR hS ((Own.full (T := 3) (size := 1) (g := b21) (m := 1) rfl (by decide)).rd (hS.own_ 1 rfl)) (rows_one encI_ok _) (maxLen_le (by omega)) (by show (((kst ts q pr k).2.2).length + 1) * 8 ≤ 140737488355328; omega) rfl rfl (by decide) ?_
              clear hA hS; intro v23 w24 C25 a hO25 hS hA
              replace hO25 := Own.app (l := (kst ts q pr k).2.2) (l2 := ([((k : Nat) : Int)] : List Int)) hO25
              obtain ⟨A26, c27, rfl, hmc27, hxc27⟩ := hO25.open'
              refine st_run tbOk 1 hA (e' := (5, .slice A26 ((((kst ts q pr k).2.2) ++ ([((k : Nat) : Int)] : List Int)).length) c27) :: _) rfl ?_; clear hA; intro a hA
              refine wpList_nil ?_
              replace hA := hA.sel [0, 1, 5, 11, 12] (e' := [(0, .pointer (some ⟨b, 0, none⟩)), (1, .int .i64 pr), (5, .slice A26 ((((kst ts q pr k).2.2) ++ ([((k : Nat) : Int)] : List Int)).length) c27), (11, .int .i64 ((ts.length : Nat) : Int)), (12, .int .i64 ((k : Nat) : Int))]) rfl
              refine xb_norm ?_
              refine xt_norm ?_
              refine wp_region_lit ?_
              refine st_run tbOk 1 hA (e' := (35, .int .i64 (IntKind.i64.wrap (((k : Nat) : Int) + 1))) :: _) rfl ?_; clear hA; intro a hA
              replace hA := hA.rw 35 (v' := .int .i64 ((k + 1 : Nat) : Int)) rfl (wr64 (by omega) (by omega) (by omega))
              refine st_run tbOk 1 hA (e' := (12, .int .i64 ((k + 1 : Nat) : Int)) :: _) rfl ?_; clear hA; intro a hA
              refine wpList_nil ?_
              replace hA := hA.sel [0, 1, 5, 11, 12] (e' := [(0, .pointer (some ⟨b, 0, none⟩)), (1, .int .i64 pr), (5, .slice A26 ((((kst ts q pr k).2.2) ++ ([((k : Nat) : Int)] : List Int)).length) c27), (11, .int .i64 ((ts.length : Nat) : Int)), (12, .int .i64 ((k + 1 : Nat) : Int))]) rfl
              have hk1 := kst_yes hxk (hit_yes (by assumption) h0 h3)
              have hl : ((kst ts q pr k).2.2) ++ ([((k : Nat) : Int)] : List Int) = (kst ts q pr (k + 1)).2.2 := by rw [hk1]
              rw [hl] at hO25; rw [hl] at hA
              replace hS := hS.front 1 (C := [(b21, rowO [.int .i64 ((k : Nat) : Int)] 3)]) (L' := C25 :: L18 :: F) rfl rfl
              replace hS := hS.drop1
              replace hS := hS.front 1 (C := L18) (L' := C25 :: F) rfl rfl
              exact lp_next _ (by omega) ⟨(k + 1), L18, A26, c27, C25, rfl, (hA.sel [0, 1, 5, 11, 12] rfl), hS, by omega, (by rw [hk1]; exact hM20), hO25⟩)
       · first
         | (exfalso; omega)
         | (replace hA := hA.rw 24 (v' := .bool false) rfl (vb_eq_f hc9)
            replace hA := hA.rw 25 (v' := .bool false) rfl (vb_eq_f hc9)
            refine st_run tbOk 2 hA (e' := (27, undef) :: (26, undef) :: _) rfl ?_; clear hA; intro a hA
            refine st_run tbOk 3 hA (e' := (30, .bool false) :: (29, undef) :: (28, undef) :: _) rfl ?_; clear hA; intro a hA
            refine wpList_nil ?_
            replace hA := hA.sel [0, 1, 5, 6, 11, 12, 30] (e' := [(0, .pointer (some ⟨b, 0, none⟩)), (1, .int .i64 pr), (5, .slice Ao ((kst ts q pr k).2.2.length) co), (6, .int .i64 ((k : Nat) : Int)), (11, .int .i64 ((ts.length : Nat) : Int)), (12, .int .i64 ((k : Nat) : Int)), (30, .bool false)]) rfl
            refine xt_norm ?_
            refine cd_cond_f hA rfl ?_
            refine wp_skip ?_
            refine xb_norm ?_
            refine xt_norm ?_
            refine wp_region_lit ?_
            refine st_run tbOk 1 hA (e' := (35, .int .i64 (IntKind.i64.wrap (((k : Nat) : Int) + 1))) :: _) rfl ?_; clear hA; intro a hA
            replace hA := hA.rw 35 (v' := .int .i64 ((k + 1 : Nat) : Int)) rfl (wr64 (by omega) (by omega) (by omega))
            refine st_run tbOk 1 hA (e' := (12, .int .i64 ((k + 1 : Nat) : Int)) :: _) rfl ?_; clear hA; intro a hA
            refine wpList_nil ?_
            replace hA := hA.sel [0, 1, 5, 11, 12] (e' := [(0, .pointer (some ⟨b, 0, none⟩)), (1, .int .i64 pr), (5, .slice Ao ((kst ts q pr k).2.2.length) co), (11, .int .i64 ((ts.length : Nat) : Int)), (12, .int .i64 ((k + 1 : Nat) : Int))]) rfl
            replace hS := hS.front 2 (C := D6) (L' := [(b, rowO [.slice (some ⟨b7, o8, none⟩) (((kst ts q pr k).1).length) c6, .slice B6 (((kst ts q pr k).2.1).length) d6] 29)] :: C6 :: R :: F) rfl rfl
            replace hS := hS.front 2 (C := C6) (L' := D6 :: [(b, rowO [.slice (some ⟨b7, o8, none⟩) (((kst ts q pr k).1).length) c6, .slice B6 (((kst ts q pr k).2.1).length) d6] 29)] :: R :: F) rfl rfl
            replace hS := hS.front 2 (C := [(b, rowO [.slice (some ⟨b7, o8, none⟩) (((kst ts q pr k).1).length) c6, .slice B6 (((kst ts q pr k).2.1).length) d6] 29)]) (L' := C6 :: D6 :: R :: F) rfl rfl
            obtain ⟨L28, hM29, hS⟩ : ∃ Z, TR 29 b ((kst ts q pr k).1) ((kst ts q pr k).2.1) Z ∧ St w0 w4 (Z :: R :: F) := ⟨_, ⟨_, _, _, _, hO6, hQ6, rfl⟩, hS.join3⟩
            have hk1 : kst ts q pr (k + 1) = kst ts q pr k := kst_no hxk (hit_p (by assumption))
            have hl : (kst ts q pr k).2.2 = (kst ts q pr (k + 1)).2.2 := by rw [hk1]
            rw [hl] at hR; rw [hl] at hA
            exact lp_next _ (by omega) ⟨(k + 1), L28, Ao, co, R, rfl, (hA.sel [0, 1, 5, 11, 12] rfl), hS, by omega, (by rw [hk1]; exact hM29), hR⟩))
  · first
    | (exfalso; omega)
    | (replace hA := hA.rw 13 (v' := .bool false) rfl (vb_false hc5)
       refine cd_cond_f hA rfl ?_
       refine wp_exit ?_
       refine xt_exit ?_
       refine xt_exit ?_
       refine cd_exit_eq ?_
       refine xt_norm ?_
       refine wp_seq ?_
       refine wp_region_lit ?_
       refine st_run tbOk 2 hA (e' := (4, .slice Ao ((kst ts q pr k).2.2.length) co) :: (36, .slice Ao ((kst ts q pr k).2.2.length) co) :: _) rfl ?_; clear hA; intro a hA
       refine wpList_nil ?_
       replace hA := hA.sel [4] (e' := [(4, .slice Ao ((kst ts q pr k).2.2.length) co)]) rfl
       refine xt_norm ?_
       refine wp_ret ?_
       refine ret1 (fn := Tryd.f13) hA rfl rfl ?_
       have hkk : k = ts.length := by omega
       subst hkk
       replace hS := hS.front 1 (C := R) (L' := L :: F) rfl rfl
       exact ⟨_, _, hR, hM, hS⟩)

theorem awake5 {w0 w : World} {F : List Chunk} (hS : St w0 w F) :
    Ret Tryd.prog 5 #[] w (fun v w' => v = .bool true ∧ St w0 w' F) := by
  refine enter (vs := []) 53 Tryd.func5 rfl rfl (by simp) ?_; intro a hA
  refine wp_seq ?_
  refine wp_region_lit ?_
  refine st_run tbOk 1 hA (e' := (0, .bool false) :: _) rfl ?_; clear hA; intro a hA
  refine wpList_nil ?_
  replace hA := hA.sel [] (e' := []) rfl
  refine xt_norm ?_
  refine wp_seq ?_
  refine wp_region_lit ?_
  refine st_run tbOk 1 hA (e' := (8, .agg #[.slice none 0 0, .slice none 0 0]) :: _) rfl ?_; clear hA; intro a hA
  refine st_box hA hS [.slice none 0 0, .slice none 0 0] rfl rfl rfl rfl rfl (by decide) ?_; clear hA hS; intro b1 w2 a hS hA
  obtain ⟨L3, hM4, hS⟩ : ∃ Z, TR 29 b1 [] [] Z ∧ St w0 w2 (Z :: F) := ⟨_, TR.new _ _, hS⟩
  refine st_run tbOk 1 hA (e' := (1, .pointer (some ⟨b1, 0, none⟩)) :: _) rfl ?_; clear hA; intro a hA
  refine wpList_nil ?_
  replace hA := hA.sel [1] (e' := [(1, .pointer (some ⟨b1, 0, none⟩))]) rfl
  refine xt_norm ?_
  refine wp_seq ?_
  refine wp_region_lit ?_
  refine st_run tbOk 1 hA (e' := (11, .pointer (some ⟨b1, 0, none⟩)) :: _) rfl ?_; clear hA; intro a hA
  refine st_call0 hA rfl rfl rfl isfn10 rfl rfl (by decide) (start_ok10 hS hM4 5 (by decide) (by decide) (by rfl) (by decide)) ?_
  clear hA hS; rintro v w6 a ⟨L5, hM7, rfl, hS⟩ hA
  refine st_run tbOk 5 hA (e' := (3, .nilIface) :: (2, .int .i64 0) :: (14, .nilIface) :: (13, .int .i64 0) :: (10, .tuple #[.int .i64 0, .nilIface]) :: _) rfl ?_; clear hA; intro a hA
  refine wpList_nil ?_
  replace hA := hA.sel [1, 2, 3] (e' := [(1, .pointer (some ⟨b1, 0, none⟩)), (2, .int .i64 0), (3, .nilIface)]) rfl
  refine xt_norm ?_
  refine wp_seq ?_
  refine wp_region_lit ?_
  refine st_run tbOk 1 hA (e' := (16, .pointer (some ⟨b1, 0, none⟩)) :: _) rfl ?_; clear hA; intro a hA
  refine st_call0 hA rfl rfl rfl isfn10 rfl rfl (by decide) (start_ok10 hS hM7 5 (by decide) (by decide) (by rfl) (by decide)) ?_
  clear hA hS; rintro v w9 a ⟨L8, hM10, rfl, hS⟩ hA
  refine st_run tbOk 5 hA (e' := (5, .nilIface) :: (4, .int .i64 1) :: (19, .nilIface) :: (18, .int .i64 1) :: (15, .tuple #[.int .i64 1, .nilIface]) :: _) rfl ?_; clear hA; intro a hA
  refine wpList_nil ?_
  replace hA := hA.sel [1, 2, 3, 4, 5] (e' := [(1, .pointer (some ⟨b1, 0, none⟩)), (2, .int .i64 0), (3, .nilIface), (4, .int .i64 1), (5, .nilIface)]) rfl
  refine xt_norm ?_
  refine wp_seq ?_
  refine wp_region_lit ?_
  refine st_run tbOk 1 hA (e' := (20, .pointer (some ⟨b1, 0, none⟩)) :: _) rfl ?_; clear hA; intro a hA
  refine st_call0 hA rfl rfl rfl isfn12 rfl rfl (by decide) (block_ok12 hS hM10 0 9 (p := 5) (s := 1) (u1 := 0) rfl rfl (by decide)) ?_
  clear hA hS; rintro v w12 a ⟨L11, hM13, rfl, hS⟩ hA
  refine st_run tbOk 1 hA (e' := (6, .nilIface) :: _) rfl ?_; clear hA; intro a hA
  refine wpList_nil ?_
  replace hA := hA.sel [1, 2, 3, 4, 5, 6] (e' := [(1, .pointer (some ⟨b1, 0, none⟩)), (2, .int .i64 0), (3, .nilIface), (4, .int .i64 1), (5, .nilIface), (6, .nilIface)]) rfl
  refine xt_norm ?_
  refine wp_seq ?_
  refine wp_region_lit ?_
  refine st_run tbOk 1 hA (e' := (22, .pointer (some ⟨b1, 0, none⟩)) :: _) rfl ?_; clear hA; intro a hA
  refine st_call0 hA rfl rfl rfl isfn8 rfl rfl (by decide) (ready8 hS hM13 (by decide)) ?_
  clear hA hS; rintro v17 w15 a ⟨L14, C18, hO18, hM16, hS⟩ hA
  obtain ⟨A19, c20, rfl, hmc20, hxc20⟩ := hO18.open'
  refine st_run tbOk 1 hA (e' := (7, .slice A19 ((((([] : List Int) ++ [((([] : List (Int × Int × Int)).length : Nat) : Int)]) ++ [(((([] : List (Int × Int × Int)) ++ [(5, 1, 0)]).length : Nat) : Int)]).filter (fun x => !(x == ((0 : Nat) : Int)))).length) c20) :: _) rfl ?_; clear hA; intro a hA
  refine wpList_nil ?_
  replace hA := hA.sel [1, 2, 3, 4, 5, 6, 7] (e' := [(1, .pointer (some ⟨b1, 0, none⟩)), (2, .int .i64 0), (3, .nilIface), (4, .int .i64 1), (5, .nilIface), (6, .nilIface), (7, .slice A19 ((((([] : List Int) ++ [((([] : List (Int × Int × Int)).length : Nat) : Int)]) ++ [(((([] : List (Int × Int × Int)) ++ [(5, 1, 0)]).length : Nat) : Int)]).filter (fun x => !(x == ((0 : Nat) : Int)))).length) c20)]) rfl
  refine xt_norm ?_
  refine wp_seq ?_
  refine wp_region_lit ?_
  refine st_run tbOk 20 hA (e' := (43, .slice A19 ((((([] : List Int) ++ [((([] : List (Int × Int × Int)).length : Nat) : Int)]) ++ [(((([] : List (Int × Int × Int)) ++ [(5, 1, 0)]).length : Nat) : Int)]).filter (fun x => !(x == ((0 : Nat) : Int)))).length) c20) :: (42, .bool true) :: (41, .bool true) :: (40, .bool true) :: (39, .nilIface) :: (38, .bool true) :: (37, .bool true) :: (36, .bool true) :: (35, .nilIface) :: (34, .bool true) :: (33, .bool true) :: (32, .bool true) :: (31, .nilIface) :: (30, .bool true) :: (29, .bool true) :: (28, .bool true) :: (27, .int .i64 1) :: (26, .bool true) :: (25, .bool true) :: (24, .int .i64 0) :: _) rfl ?_; clear hA; intro a hA
  refine st_buildSlice tbOk hA hS [.int .i64 1] rfl rfl rfl rfl rfl (by decide) (by kernel_rfl) rfl rfl (by decide) ?_; clear hA hS; intro b21 w22 a hS hA
  refine st_call0 hA rfl rfl rfl isfn7 rfl rfl (by decide) (same7 hS (xs := ((([] : List Int) ++ [((([] : List (Int × Int × Int)).length : Nat) : Int)]) ++ [(((([] : List (Int × Int × Int)) ++ [(5, 1, 0)]).length : Nat) : Int)]).filter (fun x => !(x == ((0 : Nat) : Int)))) (ys := ([1] : List Int)) (RdS.own hO18 1 rfl) (RdS.own (Own.full (T := 3) (size := 1) (g := b21) (m := 1) rfl (by decide)) 0 rfl)) ?_
  clear hA hS; rintro v w23 a ⟨rfl, hS⟩ hA
  replace hA := hA.rw 45 (v' := .bool true) rfl (by first | rfl | decide)
  refine st_run tbOk 3 hA (e' := (48, .pointer (some ⟨b1, 0, none⟩)) :: (47, .bool true) :: (46, .bool true) :: _) rfl ?_; clear hA; intro a hA
  replace hS := hS.front 2 (C := L14) (L' := [(b21, rowO [.int .i64 1] 3)] :: C18 :: F) rfl rfl
  refine st_call0 hA rfl rfl rfl isfn13 rfl rfl (by decide) (kill13 hS hM16 5 (by decide) (by decide)) ?_
  clear hA hS; rintro v27 w25 a ⟨L24, C28, hO28, hM26, hS⟩ hA
  obtain ⟨A29, c30, rfl, hmc30, hxc30⟩ := hO28.open'
  refine st_buildSlice tbOk hA hS [.int .i64 0, .int .i64 1] rfl rfl rfl rfl rfl (by decide) (by kernel_rfl) rfl rfl (by decide) ?_; clear hA hS; intro b31 w32 a hS hA
  refine st_call0 hA rfl rfl rfl isfn7 rfl rfl (by decide) (same7 hS (xs := (kst (((([] : List (Int × Int × Int)) ++ [(5, 1, 0)]) ++ [(5, 1, 0)]).set 0 (5, 2, 9)) (((([] : List Int) ++ [((([] : List (Int × Int × Int)).length : Nat) : Int)]) ++ [(((([] : List (Int × Int × Int)) ++ [(5, 1, 0)]).length : Nat) : Int)]).filter (fun x => !(x == ((0 : Nat) : Int)))) 5 (((([] : List (Int × Int × Int)) ++ [(5, 1, 0)]) ++ [(5, 1, 0)]).set 0 (5, 2, 9)).length).2.2) (ys := ([0, 1] : List Int)) (RdS.own hO28 1 rfl) (RdS.own (Own.full (T := 3) (size := 1) (g := b31) (m := 2) rfl (by decide)) 0 rfl)) ?_
  clear hA hS; rintro v w33 a ⟨rfl, hS⟩ hA
  replace hA := hA.rw 51 (v' := .bool true) rfl (by first | rfl | decide)
  refine st_run tbOk 2 hA (e' := (0, .bool true) :: (52, .bool true) :: _) rfl ?_; clear hA; intro a hA
  refine wpList_nil ?_
  replace hA := hA.sel [0] (e' := [(0, .bool true)]) rfl
  refine xt_norm ?_
  refine wp_ret ?_
  refine ret1 (fn := Tryd.f5) hA rfl rfl ?_
  replace hS := hS.drop1
  replace hS := hS.drop1
  replace hS := hS.drop1
  replace hS := hS.drop1
  replace hS := hS.drop1
  exact ⟨rfl, hS⟩

theorem upd_setCell {w : World} {b : Nat} {x v : Value} {T : TypeId} (hb : w.heap[b]? = some (rowO [x] T)) : Upd w (w.setCell ⟨b, 0, none⟩ v) b (rowO [v] T) := by
  refine ⟨rfl, rfl, rfl, by simp [World.setCell], ?_, fun k _ hk => RowKit.Below.heap_setCell w _ _ k hk⟩
  simp only [World.setCell, Array.getElem?_modify, if_true, hb]
  rfl
/-- What the listed variable holds, in the world that the law begins in. -/
def HG (w : World) : Prop := w.cell? ⟨0, 0, none⟩ = some (.iface 84 (.agg #[.pointer (some ⟨1, 45, none⟩)]))
theorem asHit {w0 w : World} {F : List Chunk} {b : Nat} {x : Value} (hS : St w0 w ([(b, rowO [x] 53)] :: F)) (hg : HG w0) (n : Int) :
    Ret Tryd.prog 22 #[.iface 53 (.int .i64 n), .iface 61 (.pointer (some ⟨b, 0, none⟩))] w (fun v w' => v = .bool true ∧ St w0 w' ([(b, rowO [.int .i64 n] 53)] :: F)) := by
  have hb := hS.heapAt 0 rfl
  refine Calls.mono (as_hit n ⟨b, 0, none⟩ x w (hS.old hg) (cell_row hb rfl) (by simp [World.frozen?, hb, rowO])) fun e w' ⟨he, hw⟩ => ⟨_, he, rfl, ?_⟩
  subst hw
  have h4 := (((hS.alloc (.cells #[.pointer (some ⟨b, 0, none⟩)] 61)).alloc (.cells #[.pointer (some ⟨1, 61, none⟩), .pointer (some ⟨w.heap.size, 0, none⟩), .int .u64 150] 70)).alloc (.cells #[.pointer (some ⟨1, 61, none⟩), .pointer (some ⟨w.heap.size, 0, none⟩), .int .u64 150] 70)).alloc (.cells #[.int .i64 n] 53)
  have h5 := h4.drop1.drop1.drop1.drop1
  exact h5.upd (upd_setCell (h5.heapAt 0 rfl))
theorem asNil {w0 w : World} {F : List Chunk} (hS : St w0 w F) (t : Value) :
    Ret Tryd.prog 22 #[.nilIface, t] w (fun v w' => v = .bool false ∧ St w0 w' F) :=
  Calls.mono (as_nil t w) fun e w' ⟨he, hw⟩ => ⟨_, he, rfl, hw ▸ hS⟩

theorem number_hit15 {w0 w : World} {F : List Chunk} (hS : St w0 w F) (hg : HG w0) (n : Int) :
    Ret Tryd.prog 15 #[.iface 53 (.int .i64 n)] w (fun v w' => v = .int .i64 n ∧ St w0 w' F) := by
  refine enter (vs := [.iface 53 (.int .i64 n)]) 8 Tryd.func15 rfl rfl (by simp) ?_; intro a hA
  refine wp_seq ?_
  refine wp_region_lit ?_
  refine st_run tbOk 1 hA (e' := (2, .int .i64 0) :: _) rfl ?_; clear hA; intro a hA
  refine wpList_nil ?_
  replace hA := hA.sel [0] (e' := [(0, .iface 53 (.int .i64 n))]) rfl
  refine xt_norm ?_
  refine wp_seq ?_
  refine wp_region_lit ?_
  refine st_alloc tbOk hA hS [.int .i64 0] rfl rfl rfl rfl rfl (by decide) ?_; clear hA hS; intro b1 w2 a hS hA
  refine wpList_nil ?_
  refine xt_norm ?_
  refine wp_seq ?_
  refine wp_seq ?_
  refine wp_region_lit ?_
  refine st_run tbOk 2 hA (e' := (5, .iface 61 (.pointer (some ⟨b1, 0, none⟩))) :: (4, .iface 53 (.int .i64 n)) :: _) rfl ?_; clear hA; intro a hA
  refine st_call0 hA rfl rfl rfl isfn22 rfl rfl (by decide) (asHit hS hg n) ?_
  clear hA hS; rintro v w3 a ⟨rfl, hS⟩ hA
  refine wpList_nil ?_
  replace hA := hA.sel [3, 6] (e' := [(3, .pointer (some ⟨b1, 0, none⟩)), (6, .bool true)]) rfl
  refine xt_norm ?_
  refine cd_cond_t hA rfl ?_
  refine wp_seq ?_
  refine wp_region_lit ?_
  refine st_val hA rfl rfl (by decide) (rn_load tbOk hA rfl rfl rfl rfl (cell_row (hS.heapAt 0 rfl) rfl)) ?_; clear hA; intro a hA
  refine st_run tbOk 1 hA (e' := (2, .int .i64 n) :: _) rfl ?_; clear hA; intro a hA
  refine wpList_nil ?_
  replace hA := hA.sel [2] (e' := [(2, .int .i64 n)]) rfl
  refine xt_norm ?_
  refine wp_ret (xt_ret ?_)
  refine ret1 (fn := Tryd.f15) hA rfl rfl ?_
  replace hS := hS.drop1
  exact ⟨rfl, hS⟩

theorem number_nil15 {w0 w : World} {F : List Chunk} (hS : St w0 w F) (hg : HG w0) :
    Ret Tryd.prog 15 #[.nilIface] w (fun v w' => v = .int .i64 0 ∧ St w0 w' F) := by
  refine enter (vs := [.nilIface]) 8 Tryd.func15 rfl rfl (by simp) ?_; intro a hA
  refine wp_seq ?_
  refine wp_region_lit ?_
  refine st_run tbOk 1 hA (e' := (2, .int .i64 0) :: _) rfl ?_; clear hA; intro a hA
  refine wpList_nil ?_
  replace hA := hA.sel [0] (e' := [(0, .nilIface)]) rfl
  refine xt_norm ?_
  refine wp_seq ?_
  refine wp_region_lit ?_
  refine st_alloc tbOk hA hS [.int .i64 0] rfl rfl rfl rfl rfl (by decide) ?_; clear hA hS; intro b1 w2 a hS hA
  refine wpList_nil ?_
  refine xt_norm ?_
  refine wp_seq ?_
  refine wp_seq ?_
  refine wp_region_lit ?_
  refine st_run tbOk 2 hA (e' := (5, .iface 61 (.pointer (some ⟨b1, 0, none⟩))) :: (4, .nilIface) :: _) rfl ?_; clear hA; intro a hA
  refine st_call0 hA rfl rfl rfl isfn22 rfl rfl (by decide) (asNil hS _) ?_
  clear hA hS; rintro v w3 a ⟨rfl, hS⟩ hA
  refine wpList_nil ?_
  replace hA := hA.sel [3, 6] (e' := [(3, .pointer (some ⟨b1, 0, none⟩)), (6, .bool false)]) rfl
  refine xt_norm ?_
  refine cd_cond_f hA rfl ?_
  refine wp_skip ?_
  refine xt_norm ?_
  refine wp_seq ?_
  refine wp_region_lit ?_
  refine st_run tbOk 1 hA (e' := (2, .int .i64 0) :: _) rfl ?_; clear hA; intro a hA
  refine wpList_nil ?_
  replace hA := hA.sel [2] (e' := [(2, .int .i64 0)]) rfl
  refine xt_norm ?_
  refine wp_ret ?_
  refine ret1 (fn := Tryd.f15) hA rfl rfl ?_
  replace hS := hS.drop1
  exact ⟨rfl, hS⟩

def SI (ts : List (Int × Int × Int)) : Prop := ∀ x ∈ ts, 1 ≤ x.2.1 ∧ x.2.1 ≤ 3
def QI (ts : List (Int × Int × Int)) (q : List Int) : Prop := ∀ y ∈ q, ∃ (n : Nat) (p : Int), y = ((n : Nat) : Int) ∧ ts[n]? = some (p, 1, 0)
structure Inv (ts : List (Int × Int × Int)) (q : List Int) : Prop where
  ti : TI ts q
  si : SI ts
  qi : QI ts q
theorem Inv.nil : Inv [] [] := ⟨TI.nil, fun x hx => by simp at hx, fun y hy => by simp at hy⟩
theorem Inv.start {ts : List (Int × Int × Int)} {q : List Int} (h : Inv ts q) (p : Int) (hl : ts.length < 64) : Inv (ts ++ [(p, 1, 0)]) (q ++ [((ts.length : Nat) : Int)]) := by
  refine ⟨h.ti.start _ hl, fun x hx => ?_, fun y hy => ?_⟩
  · rcases List.mem_append.1 hx with hx | hx
    · exact h.si x hx
    · rw [List.mem_singleton.1 hx]; exact ⟨by simp, by simp⟩
  · rcases List.mem_append.1 hy with hy | hy
    · obtain ⟨n, p', rfl, hn⟩ := h.qi y hy
      exact ⟨n, p', rfl, by rw [List.getElem?_append_left (List.getElem?_eq_some_iff.1 hn).1]; exact hn⟩
    · exact ⟨ts.length, p, List.mem_singleton.1 hy, by simp⟩
theorem SI.set {ts : List (Int × Int × Int)} (h : SI ts) (n : Nat) (x : Int × Int × Int) (hx : 1 ≤ x.2.1 ∧ x.2.1 ≤ 3) : SI (ts.set n x) := fun y hy => by
  rcases List.mem_or_eq_of_mem_set hy with hy | rfl
  · exact h y hy
  · exact hx
theorem Inv.filt {ts : List (Int × Int × Int)} {q : List Int} (h : Inv ts q) (n : Nat) (x : Int × Int × Int) (hx : 1 ≤ x.2.1 ∧ x.2.1 ≤ 3) : Inv (ts.set n x) (q.filter (fun y => !(y == ((n : Nat) : Int)))) := by
  refine ⟨h.ti.filt n x _, h.si.set n x hx, fun y hy => ?_⟩
  obtain ⟨hy1, hy2⟩ := List.mem_filter.1 hy
  obtain ⟨k, p, rfl, hk⟩ := h.qi y hy1
  have hne : ¬ ((k : Nat) : Int) = ((n : Nat) : Int) := by simpa using hy2
  exact ⟨k, p, rfl, by rw [List.getElem?_set_ne (by omega)]; exact hk⟩
theorem TI.set {ts : List (Int × Int × Int)} {q : List Int} (h : TI ts q) (n : Nat) (x : Int × Int × Int) : TI (ts.set n x) q :=
  ⟨fun y hy => by rw [List.length_set]; exact h.1 y hy, h.2.1, by rw [List.length_set]; exact h.2.2⟩
theorem Inv.push {ts : List (Int × Int × Int)} {q : List Int} (h : Inv ts q) {n : Nat} (hn : n < ts.length) (p : Int) : Inv (ts.set n (p, 1, 0)) (q.filter (fun y => !(y == ((n : Nat) : Int))) ++ [((n : Nat) : Int)]) := by
  refine ⟨(h.ti.push hn).set n _, h.si.set n _ ⟨by simp, by simp⟩, fun y hy => ?_⟩
  rcases List.mem_append.1 hy with hy | hy
  · exact (h.filt n (p, 1, 0) ⟨by simp, by simp⟩).qi y hy
  · exact ⟨n, p, List.mem_singleton.1 hy, List.getElem?_set_self hn⟩
theorem Inv.kst {ts : List (Int × Int × Int)} {q : List Int} (h : Inv ts q) (pr : Int) : ∀ k, Inv (kst ts q pr k).1 (kst ts q pr k).2.1
  | 0 => h
  | k + 1 => by
    have ih := Inv.kst h pr k
    rw [Proofs.YtglebdfenojglaaDoor.kst]; split
    · split
      · exact ih.filt k _ ⟨by simp, by simp⟩
      · exact ih
    · exact ih
theorem set_same {ts : List (Int × Int × Int)} {n : Nat} {x : Int × Int × Int} (h : ts[n]? = some x) : ts.set n x = ts := by
  obtain ⟨hn, hx⟩ := List.getElem?_eq_some_iff.1 h
  rw [← hx]; exact List.set_getElem_self hn
theorem filt_rest {q : List Int} {k : Nat} {x : Int} (hn : q.Nodup) (hx : q[k]? = some x) : q.filter (fun y => !(y == x)) = q.take k ++ q.drop (k + 1) := by
  obtain ⟨hk, hx2⟩ := List.getElem?_eq_some_iff.1 hx
  have e1 : q = q.take k ++ x :: q.drop (k + 1) := by
    conv => lhs; rw [← List.take_append_drop k q, List.drop_eq_getElem_cons hk, hx2]
  have h1 := nodup_rest hn hx
  have h2 : (q.take k ++ q.drop (k + 1)).filter (fun y => !(y == x)) = q.take k ++ q.drop (k + 1) := by
    rw [List.filter_eq_self]; intro y hy
    rw [List.any_eq_false] at h1
    have := h1 y hy
    simpa using this
  conv => lhs; rw [e1]
  rw [List.filter_append, List.filter_cons]
  simp only [beq_self_eq_true, Bool.not_true, Bool.false_eq_true, if_false]
  rw [← List.filter_append, h2]
theorem kst_none {ts : List (Int × Int × Int)} (q : List Int) (pr : Int) (h : ∀ x ∈ ts, hit pr x = false) : ∀ k, kst ts q pr k = (ts, q, [])
  | 0 => rfl
  | k + 1 => by
    have ih := kst_none q pr h k
    cases hx : ts[k]? with
    | none => rw [kst, ih]; simp only []; rw [hx]
    | some x => rw [kst_no (x := x) (by rw [ih]; exact hx) (h x (List.mem_of_getElem? hx)), ih]
/-- What a step may have changed, where all are dead. -/
def Dead (ts : List (Int × Int × Int)) (q : List Int) (o : Nat) (ts' : List (Int × Int × Int)) (q' : List Int) : Prop := (∀ x ∈ ts, x.2.1 = 3) → q = [] → ¬ o % 6 = 0 → ts' = ts ∧ q' = q
theorem Dead.same (ts : List (Int × Int × Int)) (q : List Int) (o : Nat) : Dead ts q o ts q := fun _ _ _ => ⟨rfl, rfl⟩
theorem Dead.zero {ts : List (Int × Int × Int)} {q : List Int} {o : Nat} (h : o % 6 = 0) (ts' : List (Int × Int × Int)) (q' : List Int) : Dead ts q o ts' q' := fun _ _ h2 => absurd h h2
theorem Dead.not {ts : List (Int × Int × Int)} {q : List Int} {o n : Nat} {p s u : Int} (hx : ts[n]? = some (p, s, u)) (h : ¬ s = 3) (ts' : List (Int × Int × Int)) (q' : List Int) : Dead ts q o ts' q' := fun h1 _ _ => absurd (h1 _ (List.mem_of_getElem? hx)) h
theorem Dead.nq {ts : List (Int × Int × Int)} {q : List Int} {o : Nat} (h : 0 < q.length) (ts' : List (Int × Int × Int)) (q' : List Int) : Dead ts q o ts' q' := fun _ h1 _ => by subst h1; simp at h
theorem Dead.kst {ts : List (Int × Int × Int)} {q : List Int} {o : Nat} (pr : Int) (k : Nat) : Dead ts q o (kst ts q pr k).1 (kst ts q pr k).2.1 := fun h1 _ _ => by
  rw [kst_none q pr (fun x hx => hit_3 (h1 x hx))]; exact ⟨rfl, rfl⟩

def wo (l : List Int) (id : Int) (k : Nat) : List Int := (l.take k).filter (fun x => !(x == id))
theorem wo_yes {l : List Int} {id x : Int} {k : Nat} (hx : l[k]? = some x) (h : ¬ x = id) : wo l id k ++ [x] = wo l id (k + 1) := by
  rw [wo, wo, List.take_add_one, hx, List.filter_append]
  congr 1
  simp [h]
theorem wo_no {l : List Int} {id x : Int} {k : Nat} (hx : l[k]? = some x) (h : x = id) : wo l id k = wo l id (k + 1) := by
  rw [wo, wo, List.take_add_one, hx, List.filter_append]
  simp [h]
theorem wo_le (l : List Int) (id : Int) (k : Nat) : (wo l id k).length ≤ k := by
  rw [wo]; exact Nat.le_trans (List.length_filter_le _ _) (by rw [List.length_take]; omega)
theorem wo_all (l : List Int) (id : Int) : wo l id l.length = l.filter (fun x => !(x == id)) := by rw [wo, List.take_length]

theorem mstate_lo14 {w0 w : World} {F : List Chunk} {L : Chunk} {b : Nat} {ts : List (Int × Int × Int)} {q : List Int} (hS : St w0 w (L :: F)) (hM : TR 32 b ts q L) (id : Int) (h1 : id < 0) :
    Ret Tryd.prog 14 #[.pointer (some ⟨b, 0, none⟩), .int .i64 id] w (fun v w' => ∃ L', TR 32 b (ts) (q) L' ∧ v = .int .i64 0 ∧ St w0 w' (L' :: F)) := by
  obtain ⟨v, C, v2, C2, hO, hQ, rfl⟩ := hM
  obtain ⟨A, c, rfl, hmc, hcx⟩ := hO.open'
  obtain ⟨A2, c2, rfl, hmc2, hcx2⟩ := hQ.open'
  replace hS : St w0 w ([(b, rowO [.slice A ts.length c, .slice A2 q.length c2] 32)] :: C :: C2 :: F) := hS.split3
  refine enter (vs := [.pointer (some ⟨b, 0, none⟩), .int .i64 id]) 24 Tryd.func14 rfl rfl (by simp) ?_; intro a hA
  refine wp_seq ?_
  refine wp_region_lit ?_
  refine st_run tbOk 1 hA (e' := (4, .int .i64 0) :: _) rfl ?_; clear hA; intro a hA
  refine wpList_nil ?_
  replace hA := hA.sel [0, 1] (e' := [(0, .pointer (some ⟨b, 0, none⟩)), (1, .int .i64 id)]) rfl
  refine xt_norm ?_
  refine wp_seq ?_
  refine wp_seq ?_
  refine wp_region_lit ?_
  refine st_run tbOk 3 hA (e' := (7, .bool (decide (id < 0))) :: (6, .bool (decide (id < 0))) :: (5, .int .i64 id) :: _) rfl ?_; clear hA; intro a hA
  have hc1 : id < 0 := by omega
  replace hA := hA.rw 6 (v' := .bool true) rfl (vb_true hc1)
  replace hA := hA.rw 7 (v' := .bool true) rfl (vb_true hc1)
  refine st_run tbOk 8 hA (e' := (15, .bool true) :: (14, undef) :: (13, undef) :: (12, undef) :: (11, undef) :: (10, undef) :: (9, undef) :: (8, undef) :: _) rfl ?_; clear hA; intro a hA
  refine wpList_nil ?_
  replace hA := hA.sel [0, 1, 15] (e' := [(0, .pointer (some ⟨b, 0, none⟩)), (1, .int .i64 id), (15, .bool true)]) rfl
  refine xt_norm ?_
  refine cd_cond_t hA rfl ?_
  refine wp_seq ?_
  refine wp_region_lit ?_
  refine st_run tbOk 1 hA (e' := (4, .int .i64 0) :: _) rfl ?_; clear hA; intro a hA
  refine wpList_nil ?_
  replace hA := hA.sel [4] (e' := [(4, .int .i64 0)]) rfl
  refine xt_norm ?_
  refine wp_ret (xt_ret ?_)
  refine ret1 (fn := Tryd.f14) hA rfl rfl ?_
  replace hS := hS.front 2 (C := C2) (L' := [(b, rowO [.slice A ts.length c, .slice A2 q.length c2] 32)] :: C :: F) rfl rfl
  replace hS := hS.front 2 (C := C) (L' := C2 :: [(b, rowO [.slice A ts.length c, .slice A2 q.length c2] 32)] :: F) rfl rfl
  replace hS := hS.front 2 (C := [(b, rowO [.slice A ts.length c, .slice A2 q.length c2] 32)]) (L' := C :: C2 :: F) rfl rfl
  replace hS := hS.join3
  exact ⟨_, ⟨_, _, _, _, hO, hQ, rfl⟩, rfl, hS⟩

theorem mstate_hi14 {w0 w : World} {F : List Chunk} {L : Chunk} {b : Nat} {ts : List (Int × Int × Int)} {q : List Int} (hS : St w0 w (L :: F)) (hM : TR 32 b ts q L) (id : Int) (h1 : ((ts.length : Nat) : Int) ≤ id) :
    Ret Tryd.prog 14 #[.pointer (some ⟨b, 0, none⟩), .int .i64 id] w (fun v w' => ∃ L', TR 32 b (ts) (q) L' ∧ v = .int .i64 0 ∧ St w0 w' (L' :: F)) := by
  obtain ⟨v, C, v2, C2, hO, hQ, rfl⟩ := hM
  obtain ⟨A, c, rfl, hmc, hcx⟩ := hO.open'
  obtain ⟨A2, c2, rfl, hmc2, hcx2⟩ := hQ.open'
  replace hS : St w0 w ([(b, rowO [.slice A ts.length c, .slice A2 q.length c2] 32)] :: C :: C2 :: F) := hS.split3
  refine enter (vs := [.pointer (some ⟨b, 0, none⟩), .int .i64 id]) 24 Tryd.func14 rfl rfl (by simp) ?_; intro a hA
  refine wp_seq ?_
  refine wp_region_lit ?_
  refine st_run tbOk 1 hA (e' := (4, .int .i64 0) :: _) rfl ?_; clear hA; intro a hA
  refine wpList_nil ?_
  replace hA := hA.sel [0, 1] (e' := [(0, .pointer (some ⟨b, 0, none⟩)), (1, .int .i64 id)]) rfl
  refine xt_norm ?_
  refine wp_seq ?_
  refine wp_seq ?_
  refine wp_region_lit ?_
  refine st_run tbOk 3 hA (e' := (7, .bool (decide (id < 0))) :: (6, .bool (decide (id < 0))) :: (5, .int .i64 id) :: _) rfl ?_; clear hA; intro a hA
  have hc1 : ¬ (id < 0) := by omega
  replace hA := hA.rw 6 (v' := .bool false) rfl (vb_false hc1)
  replace hA := hA.rw 7 (v' := .bool false) rfl (vb_false hc1)
  refine st_run tbOk 4 hA (e' := (11, .pointer (some ⟨b, 0, none⟩)) :: (10, .pointer (some ⟨b, 0, none⟩)) :: (9, .pointer (some ⟨b, 0, none⟩)) :: (8, .int .i64 id) :: _) rfl ?_; clear hA; intro a hA
  refine st_val hA rfl rfl (by decide) (rn_load tbOk hA rfl rfl rfl rfl (cell_row (hS.heapAt 0 rfl) rfl)) ?_; clear hA; intro a hA
  refine st_run tbOk 3 hA (e' := (15, .bool (decide (id ≥ ((ts.length : Nat) : Int)))) :: (14, .bool (decide (id ≥ ((ts.length : Nat) : Int)))) :: (13, .int .i64 ((ts.length : Nat) : Int)) :: _) rfl ?_; clear hA; intro a hA
  refine wpList_nil ?_
  replace hA := hA.sel [0, 1, 15] (e' := [(0, .pointer (some ⟨b, 0, none⟩)), (1, .int .i64 id), (15, .bool (decide (id ≥ ((ts.length : Nat) : Int))))]) rfl
  refine xt_norm ?_
  have hc2 : id ≥ ((ts.length : Nat) : Int) := by omega
  replace hA := hA.rw 15 (v' := .bool true) rfl (vb_true hc2)
  refine cd_cond_t hA rfl ?_
  refine wp_seq ?_
  refine wp_region_lit ?_
  refine st_run tbOk 1 hA (e' := (4, .int .i64 0) :: _) rfl ?_; clear hA; intro a hA
  refine wpList_nil ?_
  replace hA := hA.sel [4] (e' := [(4, .int .i64 0)]) rfl
  refine xt_norm ?_
  refine wp_ret (xt_ret ?_)
  refine ret1 (fn := Tryd.f14) hA rfl rfl ?_
  replace hS := hS.front 2 (C := C2) (L' := [(b, rowO [.slice A ts.length c, .slice A2 q.length c2] 32)] :: C :: F) rfl rfl
  replace hS := hS.front 2 (C := C) (L' := C2 :: [(b, rowO [.slice A ts.length c, .slice A2 q.length c2] 32)] :: F) rfl rfl
  replace hS := hS.front 2 (C := [(b, rowO [.slice A ts.length c, .slice A2 q.length c2] 32)]) (L' := C :: C2 :: F) rfl rfl
  replace hS := hS.join3
  exact ⟨_, ⟨_, _, _, _, hO, hQ, rfl⟩, rfl, hS⟩

theorem mstate_in14 {w0 w : World} {F : List Chunk} {L : Chunk} {b : Nat} {ts : List (Int × Int × Int)} {q : List Int} (hS : St w0 w (L :: F)) (hM : TR 32 b ts q L) (n : Nat) {p s u : Int} (hx : ts[n]? = some (p, s, u)) :
    Ret Tryd.prog 14 #[.pointer (some ⟨b, 0, none⟩), .int .i64 ((n : Nat) : Int)] w (fun v w' => ∃ L', TR 32 b (ts) (q) L' ∧ v = .int .i64 s ∧ St w0 w' (L' :: F)) := by
  obtain ⟨v, C, v2, C2, hO, hQ, rfl⟩ := hM
  obtain ⟨A, c, rfl, hmc, hcx⟩ := hO.open'
  obtain ⟨A2, c2, rfl, hmc2, hcx2⟩ := hQ.open'
  replace hS : St w0 w ([(b, rowO [.slice A ts.length c, .slice A2 q.length c2] 32)] :: C :: C2 :: F) := hS.split3
  have hn := (List.getElem?_eq_some_iff.1 hx).1
  refine enter (vs := [.pointer (some ⟨b, 0, none⟩), .int .i64 ((n : Nat) : Int)]) 24 Tryd.func14 rfl rfl (by simp) ?_; intro a hA
  refine wp_seq ?_
  refine wp_region_lit ?_
  refine st_run tbOk 1 hA (e' := (4, .int .i64 0) :: _) rfl ?_; clear hA; intro a hA
  refine wpList_nil ?_
  replace hA := hA.sel [0, 1] (e' := [(0, .pointer (some ⟨b, 0, none⟩)), (1, .int .i64 ((n : Nat) : Int))]) rfl
  refine xt_norm ?_
  refine wp_seq ?_
  refine wp_seq ?_
  refine wp_region_lit ?_
  refine st_run tbOk 3 hA (e' := (7, .bool (decide (((n : Nat) : Int) < 0))) :: (6, .bool (decide (((n : Nat) : Int) < 0))) :: (5, .int .i64 ((n : Nat) : Int)) :: _) rfl ?_; clear hA; intro a hA
  have hc1 : ¬ (((n : Nat) : Int) < 0) := by omega
  replace hA := hA.rw 6 (v' := .bool false) rfl (vb_false hc1)
  replace hA := hA.rw 7 (v' := .bool false) rfl (vb_false hc1)
  refine st_run tbOk 4 hA (e' := (11, .pointer (some ⟨b, 0, none⟩)) :: (10, .pointer (some ⟨b, 0, none⟩)) :: (9, .pointer (some ⟨b, 0, none⟩)) :: (8, .int .i64 ((n : Nat) : Int)) :: _) rfl ?_; clear hA; intro a hA
  refine st_val hA rfl rfl (by decide) (rn_load tbOk hA rfl rfl rfl rfl (cell_row (hS.heapAt 0 rfl) rfl)) ?_; clear hA; intro a hA
  refine st_run tbOk 3 hA (e' := (15, .bool (decide (((n : Nat) : Int) ≥ ((ts.length : Nat) : Int)))) :: (14, .bool (decide (((n : Nat) : Int) ≥ ((ts.length : Nat) : Int)))) :: (13, .int .i64 ((ts.length : Nat) : Int)) :: _) rfl ?_; clear hA; intro a hA
  refine wpList_nil ?_
  replace hA := hA.sel [0, 1, 15] (e' := [(0, .pointer (some ⟨b, 0, none⟩)), (1, .int .i64 ((n : Nat) : Int)), (15, .bool (decide (((n : Nat) : Int) ≥ ((ts.length : Nat) : Int))))]) rfl
  refine xt_norm ?_
  have hc2 : ¬ (((n : Nat) : Int) ≥ ((ts.length : Nat) : Int)) := by omega
  replace hA := hA.rw 15 (v' := .bool false) rfl (vb_false hc2)
  refine cd_cond_f hA rfl ?_
  refine wp_skip ?_
  refine xt_norm ?_
  refine wp_seq ?_
  refine wp_region_lit ?_
  refine st_run tbOk 3 hA (e' := (18, .pointer (some ⟨b, 0, none⟩)) :: (17, .pointer (some ⟨b, 0, none⟩)) :: (16, .pointer (some ⟨b, 0, none⟩)) :: _) rfl ?_; clear hA; intro a hA
  refine st_val hA rfl rfl (by decide) (rn_load tbOk hA rfl rfl rfl rfl (cell_row (hS.heapAt 0 rfl) rfl)) ?_; clear hA; intro a hA
  refine st_run tbOk 1 hA (e' := (20, .int .i64 ((n : Nat) : Int)) :: _) rfl ?_; clear hA; intro a hA
  obtain ⟨b3, o4, rfl⟩ := hO.isSome (k := n) (by omega)
  refine st_val hA rfl rfl (by decide) (rn_indexAddr tbOk hA n (o4 + (n * 3)) rfl rfl rfl rfl rfl rfl (by rfl) (by omega) (by first | rfl | simp [Nat.mul_one, Nat.zero_add] | omega)) ?_; clear hA; intro a hA
  refine st_run tbOk 1 hA (e' := (22, .pointer (some ⟨b3, o4 + (n * 3) + 1, none⟩)) :: _) rfl ?_; clear hA; intro a hA
  refine st_val hA rfl rfl (by decide) (rn_load tbOk hA rfl rfl rfl rfl ((hO.rd (hS.own_ 1 rfl)).elemf (k := n) encThread_ok hx (j := 1) rfl)) ?_; clear hA; intro a hA
  refine st_run tbOk 1 hA (e' := (4, .int .i64 ((p, s, u).2.1)) :: _) rfl ?_; clear hA; intro a hA
  refine wpList_nil ?_
  replace hA := hA.sel [4] (e' := [(4, .int .i64 ((p, s, u).2.1))]) rfl
  refine xt_norm ?_
  refine wp_ret ?_
  refine ret1 (fn := Tryd.f14) hA rfl rfl ?_
  replace hS := hS.front 2 (C := C2) (L' := [(b, rowO [.slice (some ⟨b3, o4, none⟩) ts.length c, .slice A2 q.length c2] 32)] :: C :: F) rfl rfl
  replace hS := hS.front 2 (C := C) (L' := C2 :: [(b, rowO [.slice (some ⟨b3, o4, none⟩) ts.length c, .slice A2 q.length c2] 32)] :: F) rfl rfl
  replace hS := hS.front 2 (C := [(b, rowO [.slice (some ⟨b3, o4, none⟩) ts.length c, .slice A2 q.length c2] 32)]) (L' := C :: C2 :: F) rfl rfl
  replace hS := hS.join3
  exact ⟨_, ⟨_, _, _, _, hO, hQ, rfl⟩, rfl, hS⟩

end Go.Proofs.YtglebdfenojglaaDoor
