import Derived.Test.YtpaeidaekhijlaaProg
import Derived.Test.YtpaeidaekhijlaaSK9
set_option linter.unusedVariables false
set_option linter.unusedSimpArgs false
set_option maxRecDepth 4000
namespace Go.Proofs.Ytpaeidaekhijlaa
open Go Go.SK
theorem mixed : Try.prog.follows .mixedOrders = true := by kernel_rfl
theorem isfn5 : IsFn Try.prog 5 := fun args w => by kernel_rfl
theorem isfn6 : IsFn Try.prog 6 := fun args w => by kernel_rfl
theorem isfn7 : IsFn Try.prog 7 := fun args w => by kernel_rfl
theorem isfn8 : IsFn Try.prog 8 := fun args w => by kernel_rfl
theorem isfn9 : IsFn Try.prog 9 := fun args w => by kernel_rfl
theorem isfn10 : IsFn Try.prog 10 := fun args w => by kernel_rfl
theorem isfn11 : IsFn Try.prog 11 := fun args w => by kernel_rfl
theorem isfn12 : IsFn Try.prog 12 := fun args w => by kernel_rfl
theorem isfn13 : IsFn Try.prog 13 := fun args w => by kernel_rfl
theorem isfn14 : IsFn Try.prog 14 := fun args w => by kernel_rfl
theorem isfn15 : IsFn Try.prog 15 := fun args w => by kernel_rfl
theorem isfn16 : IsFn Try.prog 16 := fun args w => by kernel_rfl
noncomputable def tb : List TI := [
  ⟨3, Try.t3.desc, 1, 8, .int .i64 0⟩,
  ⟨5, Try.t5.desc, 1, 1, .int .u8 0⟩,
  ⟨23, Try.t23.desc, 1, 24, .slice none 0 0⟩,
  ⟨24, Try.t23.desc, 1, 24, .slice none 0 0⟩,
  ⟨26, Try.t25.desc, 1, 16, .nilIface⟩,
  ⟨36, Try.t3.desc, 1, 8, .int .i64 0⟩]
theorem tbOk : TabOk Try.prog tb := ⟨
  ⟨by kernel_rfl, Try.t3, by kernel_rfl, by kernel_rfl, by kernel_rfl, by kernel_rfl⟩,
  ⟨by kernel_rfl, Try.t5, by kernel_rfl, by kernel_rfl, by kernel_rfl, by kernel_rfl⟩,
  ⟨by kernel_rfl, Try.t23, by kernel_rfl, by kernel_rfl, by kernel_rfl, by kernel_rfl⟩,
  ⟨by kernel_rfl, Try.t24, by kernel_rfl, by kernel_rfl, by kernel_rfl, by kernel_rfl⟩,
  ⟨by kernel_rfl, Try.t26, by kernel_rfl, by kernel_rfl, by kernel_rfl, by kernel_rfl⟩,
  ⟨by kernel_rfl, Try.t36, by kernel_rfl, by kernel_rfl, by kernel_rfl, by kernel_rfl⟩,
  trivial⟩
theorem clone11 {w0 w : World} {F : List Chunk} (hS : St w0 w F) {v : Value} {l : List Int} (hr : RdS w0 F 1 v l.length (rows encI l)) (hb : l.length * 8 ≤ 140737488355328) :
    Ret Try.prog 11 #[v] w (fun v w' => ∃ C, Own 3 1 v l.length (rows encI l) C ∧ St w0 w' (C :: F)) := by
  rcases hr.cases hS with ⟨rfl, h0, h1⟩ | ⟨b, off, c, rfl, hmc, hcx⟩
  · obtain rfl := List.eq_nil_of_length_eq_zero h0
    refine enter (vs := [.slice none 0 0]) 8 Try.func11 rfl rfl (by simp) ?_; intro a hA
    refine wp_seq ?_
    refine wp_region_lit ?_
    refine st_run tbOk 1 hA (e' := (2, .slice none 0 0) :: _) rfl ?_; clear hA; intro a hA
    refine wpList_nil ?_
    replace hA := hA.sel [0] (e' := [(0, .slice none 0 0)]) rfl
    refine xt_norm ?_
    refine wp_seq ?_
    refine wp_seq ?_
    refine wp_region_lit ?_
    refine st_run tbOk 2 hA (e' := (4, .bool true) :: (3, .slice none 0 0) :: _) rfl ?_; clear hA; intro a hA
    refine wpList_nil ?_
    replace hA := hA.sel [0, 4] (e' := [(0, .slice none 0 0), (4, .bool true)]) rfl
    refine xt_norm ?_
    refine cd_cond_t hA rfl ?_
    refine wp_seq ?_
    refine wp_region_lit ?_
    refine st_run tbOk 1 hA (e' := (2, .slice none 0 0) :: _) rfl ?_; clear hA; intro a hA
    refine wpList_nil ?_
    replace hA := hA.sel [2] (e' := [(2, .slice none 0 0)]) rfl
    refine xt_norm ?_
    refine wp_ret (xt_ret ?_)
    refine ret1 (fn := Try.f11) hA rfl rfl ?_
    exact ⟨[], Own.nil _ _, hS.nil⟩
  · refine enter (vs := [.slice (some ⟨b, off, none⟩) l.length c]) 8 Try.func11 rfl rfl (by simp) ?_; intro a hA
    refine wp_seq ?_
    refine wp_region_lit ?_
    refine st_run tbOk 1 hA (e' := (2, .slice none 0 0) :: _) rfl ?_; clear hA; intro a hA
    refine wpList_nil ?_
    replace hA := hA.sel [0] (e' := [(0, .slice (some ⟨b, off, none⟩) l.length c)]) rfl
    refine xt_norm ?_
    refine wp_seq ?_
    refine wp_seq ?_
    refine wp_region_lit ?_
    refine st_run tbOk 2 hA (e' := (4, .bool false) :: (3, .slice (some ⟨b, off, none⟩) l.length c) :: _) rfl ?_; clear hA; intro a hA
    refine wpList_nil ?_
    replace hA := hA.sel [0, 4] (e' := [(0, .slice (some ⟨b, off, none⟩) l.length c), (4, .bool false)]) rfl
    refine xt_norm ?_
    refine cd_cond_f hA rfl ?_
    refine wp_skip ?_
    refine xt_norm ?_
    refine wp_seq ?_
    refine wp_region_lit ?_
    refine st_buildSlice tbOk hA hS [] rfl rfl rfl rfl rfl (by decide) (by kernel_rfl) rfl rfl (by decide) ?_; clear hA hS; intro b1 w2 a hS hA
    refine st_run tbOk 1 hA (e' := (6, .slice (some ⟨b, off, none⟩) l.length c) :: _) rfl ?_; clear hA; intro a hA
    refine st_append tbOk hA (m := 0) (q := l.length) (xs := rows encI ([] : List Int)) (news := rows encI l) rfl rfl rfl rfl rfl rfl rfl rfl (by decide) (Own.full (T := 3) (size := 1) (g := b1) (m := 0) rfl (by decide)) hS (hr _ (hS.tail 1 rfl)) (rows_one encI_ok _) (maxLen_le (by omega)) (by show (0 + l.length) * 8 ≤ 140737488355328; omega) rfl rfl (by decide) ?_
    clear hA hS; intro v3 w4 C5 a hO5 hS hA
    replace hO5 := Own.app (l := ([] : List Int)) (l2 := l) hO5
    obtain ⟨A6, c7, rfl, hmc7, hxc7⟩ := hO5.open'
    replace hO5 : Own 3 1 (.slice A6 l.length c7) l.length (rows encI l) C5 := hO5
    replace hA := hA.rw 7 (v' := .slice A6 l.length c7) rfl rfl
    refine st_run tbOk 1 hA (e' := (2, .slice A6 l.length c7) :: _) rfl ?_; clear hA; intro a hA
    refine wpList_nil ?_
    replace hA := hA.sel [2] (e' := [(2, .slice A6 l.length c7)]) rfl
    refine xt_norm ?_
    refine wp_ret ?_
    refine ret1 (fn := Try.f11) hA rfl rfl ?_
    exact ⟨C5, hO5, hS⟩

theorem index15 {w0 w : World} {F : List Chunk} (hS : St w0 w F) {v : Value} {l : List Int} (hr : RdS w0 F 1 v l.length (rows encI l)) (x : Int) :
    Ret Try.prog 15 #[v, .int .i64 x] w (fun v w' => v = .int .i64 (idx (fun y => y == x) l) ∧ St w0 w' F) := by
  obtain ⟨A, c, rfl, hmc, hcx⟩ := (hr w hS).open'
  refine enter (vs := [.slice A l.length c, .int .i64 x]) 19 Try.func15 rfl rfl (by simp) ?_; intro a hA
  refine wp_seq ?_
  refine wp_region_lit ?_
  refine st_run tbOk 1 hA (e' := (4, .int .i64 0) :: _) rfl ?_; clear hA; intro a hA
  refine wpList_nil ?_
  replace hA := hA.sel [0, 1] (e' := [(0, .slice A l.length c), (1, .int .i64 x)]) rfl
  refine xt_norm ?_
  refine wp_seq ?_
  refine wp_seq ?_
  refine wp_region_lit ?_
  refine st_run tbOk 3 hA (e' := (8, .int .i64 0) :: (7, .int .i64 ((l.length : Nat) : Int)) :: (6, .slice A l.length c) :: _) rfl ?_; clear hA; intro a hA
  refine wpList_nil ?_
  replace hA := hA.sel [0, 1, 7, 8] (e' := [(0, .slice A l.length c), (1, .int .i64 x), (7, .int .i64 ((l.length : Nat) : Int)), (8, .int .i64 0)]) rfl
  refine xt_norm ?_
  refine wp_block ?_
  refine wp_loop_ghost (fun m a w => ∃ (k : Nat), m = l.length - k ∧ Has a 19 [(0, .slice A l.length c), (1, .int .i64 x), (7, .int .i64 ((l.length : Nat) : Int)), (8, .int .i64 ((k : Nat) : Int))] ∧ St w0 w (F) ∧ k ≤ l.length ∧ ∀ (i : Nat) (y : Int), i < k → l[i]? = some y → ¬ y = x) (l.length - 0)
    ⟨0, rfl, (hA.sel [0, 1, 7, 8] rfl), hS, Nat.zero_le _, fun i y hi => absurd hi (by omega)⟩ ?_
  clear hA hS; rintro m0 a w1 ⟨k, rfl, hA, hS, hk, hb⟩
  refine wp_seq ?_
  refine wp_region_lit ?_
  refine st_run tbOk 1 hA (e' := (9, .bool (decide (((k : Nat) : Int) < ((l.length : Nat) : Int)))) :: _) rfl ?_; clear hA; intro a hA
  refine wpList_nil ?_
  refine xt_norm ?_
  refine wp_seq ?_
  by_cases hc2 : ((k : Nat) : Int) < ((l.length : Nat) : Int)
  · first
    | (exfalso; omega)
    | (replace hA := hA.rw 9 (v' := .bool true) rfl (vb_true hc2)
       refine cd_cond_t hA rfl ?_
       refine wp_skip ?_
       refine xt_norm ?_
       refine wp_seq ?_
       refine wp_block ?_
       refine wp_seq ?_
       refine wp_region_lit ?_
       refine st_run tbOk 2 hA (e' := (5, .int .i64 ((k : Nat) : Int)) :: (10, .int .i64 ((k : Nat) : Int)) :: _) rfl ?_; clear hA; intro a hA
       refine wpList_nil ?_
       replace hA := hA.sel [0, 1, 5, 7, 8] (e' := [(0, .slice A l.length c), (1, .int .i64 x), (5, .int .i64 ((k : Nat) : Int)), (7, .int .i64 ((l.length : Nat) : Int)), (8, .int .i64 ((k : Nat) : Int))]) rfl
       refine xt_norm ?_
       refine wp_seq ?_
       refine wp_region_lit ?_
       refine st_run tbOk 3 hA (e' := (13, .int .i64 ((k : Nat) : Int)) :: (12, .slice A l.length c) :: (11, .int .i64 x) :: _) rfl ?_; clear hA; intro a hA
       obtain ⟨b3, o4, rfl⟩ := (hr _ hS).isSome (k := k) (by omega)
       refine st_val hA rfl rfl (by decide) (rn_indexAddr tbOk hA k (o4 + k) rfl rfl rfl rfl rfl rfl (by rfl) (by omega) (by first | rfl | simp [Nat.mul_one, Nat.zero_add] | omega)) ?_; clear hA; intro a hA
       obtain ⟨x5, hx5⟩ := get_ex (l := l) (k := k) (by omega)
       refine st_val hA rfl rfl (by decide) (rn_load tbOk hA rfl rfl rfl rfl ((hr _ hS).elem0 encI_ok hx5 rfl)) ?_; clear hA; intro a hA
       refine st_run tbOk 1 hA (e' := (16, .bool (x == x5)) :: _) rfl ?_; clear hA; intro a hA
       refine wpList_nil ?_
       replace hA := hA.sel [0, 1, 5, 7, 8, 16] (e' := [(0, .slice (some ⟨b3, o4, none⟩) l.length c), (1, .int .i64 x), (5, .int .i64 ((k : Nat) : Int)), (7, .int .i64 ((l.length : Nat) : Int)), (8, .int .i64 ((k : Nat) : Int)), (16, .bool (x == x5))]) rfl
       refine xt_norm ?_
       by_cases hc6 : x = x5
       · first
         | (exfalso; omega)
         | (replace hA := hA.rw 16 (v' := .bool true) rfl (vb_eq_t hc6)
            refine cd_cond_t hA rfl ?_
            refine wp_seq ?_
            refine wp_region_lit ?_
            refine st_run tbOk 2 hA (e' := (4, .int .i64 ((k : Nat) : Int)) :: (17, .int .i64 ((k : Nat) : Int)) :: _) rfl ?_; clear hA; intro a hA
            refine wpList_nil ?_
            replace hA := hA.sel [4] (e' := [(4, .int .i64 ((k : Nat) : Int))]) rfl
            refine xt_norm ?_
            refine wp_ret (xb_ret (xt_ret (xt_ret (xb_ret (xt_ret ?_)))))
            refine ret1 (fn := Try.f15) hA rfl rfl ?_
            exact ⟨vint (idx_some (p := fun y => y == x) hx5 (beq_iff_eq.2 (by omega)) (fun i y hi hy => beq_eq_false_iff_ne.2 (hb i y hi hy))).symm, hS⟩)
       · first
         | (exfalso; omega)
         | (replace hA := hA.rw 16 (v' := .bool false) rfl (vb_eq_f hc6)
            refine cd_cond_f hA rfl ?_
            refine wp_skip ?_
            refine xb_norm ?_
            refine xt_norm ?_
            refine wp_region_lit ?_
            refine st_run tbOk 1 hA (e' := (18, .int .i64 (IntKind.i64.wrap (((k : Nat) : Int) + 1))) :: _) rfl ?_; clear hA; intro a hA
            replace hA := hA.rw 18 (v' := .int .i64 ((k + 1 : Nat) : Int)) rfl (wr64 (by omega) (by omega) (by omega))
            refine st_run tbOk 1 hA (e' := (8, .int .i64 ((k + 1 : Nat) : Int)) :: _) rfl ?_; clear hA; intro a hA
            refine wpList_nil ?_
            replace hA := hA.sel [0, 1, 7, 8] (e' := [(0, .slice (some ⟨b3, o4, none⟩) l.length c), (1, .int .i64 x), (7, .int .i64 ((l.length : Nat) : Int)), (8, .int .i64 ((k + 1 : Nat) : Int))]) rfl
            exact lp_next _ (by omega) ⟨(k + 1), rfl, (hA.sel [0, 1, 7, 8] rfl), hS, by omega, fun i y hi hy => (Nat.lt_succ_iff_lt_or_eq.1 hi).elim (fun h => hb i y h hy) (fun h => by subst h; rw [hx5] at hy; injection hy with hy; subst hy; omega)⟩))
  · first
    | (exfalso; omega)
    | (replace hA := hA.rw 9 (v' := .bool false) rfl (vb_false hc2)
       refine cd_cond_f hA rfl ?_
       refine wp_exit ?_
       refine xt_exit ?_
       refine xt_exit ?_
       refine cd_exit_eq ?_
       refine xt_norm ?_
       refine wp_seq ?_
       refine wp_region_lit ?_
       refine st_run tbOk 1 hA (e' := (4, .int .i64 (-1)) :: _) rfl ?_; clear hA; intro a hA
       refine wpList_nil ?_
       replace hA := hA.sel [4] (e' := [(4, .int .i64 (-1))]) rfl
       refine xt_norm ?_
       refine wp_ret ?_
       refine ret1 (fn := Try.f15) hA rfl rfl ?_
       exact ⟨vint (idx_none (fun i y hy => beq_eq_false_iff_ne.2 (hb i y (by have := (List.getElem?_eq_some_iff.1 hy).1; omega) hy))).symm, hS⟩)

theorem contains10 {w0 w : World} {F : List Chunk} (hS : St w0 w F) {v : Value} {l : List Int} (hr : RdS w0 F 1 v l.length (rows encI l)) (x : Int) :
    Ret Try.prog 10 #[v, .int .i64 x] w (fun v w' => v = .bool (l.any (fun y => y == x)) ∧ St w0 w' F) := by
  obtain ⟨A, c, rfl, hmc, hcx⟩ := (hr w hS).open'
  refine enter (vs := [.slice A l.length c, .int .i64 x]) 9 Try.func10 rfl rfl (by simp) ?_; intro a hA
  refine wp_seq ?_
  refine wp_region_lit ?_
  refine st_run tbOk 1 hA (e' := (4, .bool false) :: _) rfl ?_; clear hA; intro a hA
  refine wpList_nil ?_
  replace hA := hA.sel [0, 1] (e' := [(0, .slice A l.length c), (1, .int .i64 x)]) rfl
  refine xt_norm ?_
  refine wp_seq ?_
  refine wp_region_lit ?_
  refine st_run tbOk 2 hA (e' := (6, .int .i64 x) :: (5, .slice A l.length c) :: _) rfl ?_; clear hA; intro a hA
  refine st_call0 hA rfl rfl rfl isfn15 rfl rfl (by decide) (index15 hS (l := l) (fun w' h => (hr _ h)) x) ?_
  clear hA hS; rintro v w1 a ⟨rfl, hS⟩ hA
  refine st_run tbOk 2 hA (e' := (4, .bool (decide (idx (fun y => y == x) l ≥ 0))) :: (8, .bool (decide (idx (fun y => y == x) l ≥ 0))) :: _) rfl ?_; clear hA; intro a hA
  refine wpList_nil ?_
  replace hA := hA.sel [4] (e' := [(4, .bool (decide (idx (fun y => y == x) l ≥ 0)))]) rfl
  refine xt_norm ?_
  refine wp_ret ?_
  refine ret1 (fn := Try.f10) hA rfl rfl ?_
  exact ⟨vbool (idx_any _ _), hS⟩

theorem indexFunc16 {w0 w : World} {F : List Chunk} (hS : St w0 w F) {v : Value} {l : List Int} (hr : RdS w0 F 1 v l.length (rows encI l)) {g : Nat} {first cap : Array Value} {p : Int → Bool} (hg : IsFn Try.prog g) (hp : Pred Try.prog w0 F g first cap (fun x => .int .i64 x) p) :
    Ret Try.prog 16 #[v, .func (.func g) first cap] w (fun v w' => v = .int .i64 (idx p l) ∧ St w0 w' F) := by
  obtain ⟨A, c, rfl, hmc, hcx⟩ := (hr w hS).open'
  refine enter (vs := [.slice A l.length c, .func (.func g) first cap]) 19 Try.func16 rfl rfl (by simp) ?_; intro a hA
  refine wp_seq ?_
  refine wp_region_lit ?_
  refine st_run tbOk 1 hA (e' := (4, .int .i64 0) :: _) rfl ?_; clear hA; intro a hA
  refine wpList_nil ?_
  replace hA := hA.sel [0, 1] (e' := [(0, .slice A l.length c), (1, .func (.func g) first cap)]) rfl
  refine xt_norm ?_
  refine wp_seq ?_
  refine wp_seq ?_
  refine wp_region_lit ?_
  refine st_run tbOk 3 hA (e' := (8, .int .i64 0) :: (7, .int .i64 ((l.length : Nat) : Int)) :: (6, .slice A l.length c) :: _) rfl ?_; clear hA; intro a hA
  refine wpList_nil ?_
  replace hA := hA.sel [0, 1, 7, 8] (e' := [(0, .slice A l.length c), (1, .func (.func g) first cap), (7, .int .i64 ((l.length : Nat) : Int)), (8, .int .i64 0)]) rfl
  refine xt_norm ?_
  refine wp_block ?_
  refine wp_loop_ghost (fun m a w => ∃ (k : Nat), m = l.length - k ∧ Has a 19 [(0, .slice A l.length c), (1, .func (.func g) first cap), (7, .int .i64 ((l.length : Nat) : Int)), (8, .int .i64 ((k : Nat) : Int))] ∧ St w0 w (F) ∧ k ≤ l.length ∧ ∀ (i : Nat) (y : Int), i < k → l[i]? = some y → p y = false) (l.length - 0)
    ⟨0, rfl, (hA.sel [0, 1, 7, 8] rfl), hS, Nat.zero_le _, fun i y hi => absurd hi (by omega)⟩ ?_
  clear hA hS; rintro m0 a w1 ⟨k, rfl, hA, hS, hk, hb⟩
  refine wp_seq ?_
  refine wp_region_lit ?_
  refine st_run tbOk 1 hA (e' := (9, .bool (decide (((k : Nat) : Int) < ((l.length : Nat) : Int)))) :: _) rfl ?_; clear hA; intro a hA
  refine wpList_nil ?_
  refine xt_norm ?_
  refine wp_seq ?_
  by_cases hc2 : ((k : Nat) : Int) < ((l.length : Nat) : Int)
  · first
    | (exfalso; omega)
    | (replace hA := hA.rw 9 (v' := .bool true) rfl (vb_true hc2)
       refine cd_cond_t hA rfl ?_
       refine wp_skip ?_
       refine xt_norm ?_
       refine wp_seq ?_
       refine wp_block ?_
       refine wp_seq ?_
       refine wp_region_lit ?_
       refine st_run tbOk 2 hA (e' := (5, .int .i64 ((k : Nat) : Int)) :: (10, .int .i64 ((k : Nat) : Int)) :: _) rfl ?_; clear hA; intro a hA
       refine wpList_nil ?_
       replace hA := hA.sel [0, 1, 5, 7, 8] (e' := [(0, .slice A l.length c), (1, .func (.func g) first cap), (5, .int .i64 ((k : Nat) : Int)), (7, .int .i64 ((l.length : Nat) : Int)), (8, .int .i64 ((k : Nat) : Int))]) rfl
       refine xt_norm ?_
       refine wp_seq ?_
       refine wp_region_lit ?_
       refine st_run tbOk 3 hA (e' := (13, .int .i64 ((k : Nat) : Int)) :: (12, .slice A l.length c) :: (11, .func (.func g) first cap) :: _) rfl ?_; clear hA; intro a hA
       obtain ⟨b3, o4, rfl⟩ := (hr _ hS).isSome (k := k) (by omega)
       refine st_val hA rfl rfl (by decide) (rn_indexAddr tbOk hA k (o4 + k) rfl rfl rfl rfl rfl rfl (by rfl) (by omega) (by first | rfl | simp [Nat.mul_one, Nat.zero_add] | omega)) ?_; clear hA; intro a hA
       obtain ⟨x5, hx5⟩ := get_ex (l := l) (k := k) (by omega)
       refine st_val hA rfl rfl (by decide) (rn_load tbOk hA rfl rfl rfl rfl ((hr _ hS).elem0 encI_ok hx5 rfl)) ?_; clear hA; intro a hA
       refine st_call hA rfl rfl rfl rfl hg rfl rfl (by decide) (hp _ x5 hS) ?_
       clear hA; rintro v w6 a ⟨rfl, hS'⟩ hA; replace hS : St w0 w6 (F) := hS.trans hS'
       refine wpList_nil ?_
       replace hA := hA.sel [0, 1, 5, 7, 8, 16] (e' := [(0, .slice (some ⟨b3, o4, none⟩) l.length c), (1, .func (.func g) first cap), (5, .int .i64 ((k : Nat) : Int)), (7, .int .i64 ((l.length : Nat) : Int)), (8, .int .i64 ((k : Nat) : Int)), (16, .bool (p x5))]) rfl
       refine xt_norm ?_
       by_cases hpx : (p x5) = true
       · first
         | (exfalso; omega)
         | (replace hA := hA.rw 16 (v' := .bool true) rfl (vb_t hpx)
            refine cd_cond_t hA rfl ?_
            refine wp_seq ?_
            refine wp_region_lit ?_
            refine st_run tbOk 2 hA (e' := (4, .int .i64 ((k : Nat) : Int)) :: (17, .int .i64 ((k : Nat) : Int)) :: _) rfl ?_; clear hA; intro a hA
            refine wpList_nil ?_
            replace hA := hA.sel [4] (e' := [(4, .int .i64 ((k : Nat) : Int))]) rfl
            refine xt_norm ?_
            refine wp_ret (xb_ret (xt_ret (xt_ret (xb_ret (xt_ret ?_)))))
            refine ret1 (fn := Try.f16) hA rfl rfl ?_
            exact ⟨vint (idx_some hx5 hpx (fun i y hi hy => hb i y hi hy)).symm, hS⟩)
       · first
         | (exfalso; omega)
         | (replace hA := hA.rw 16 (v' := .bool false) rfl (vb_f hpx)
            refine cd_cond_f hA rfl ?_
            refine wp_skip ?_
            refine xb_norm ?_
            refine xt_norm ?_
            refine wp_region_lit ?_
            refine st_run tbOk 1 hA (e' := (18, .int .i64 (IntKind.i64.wrap (((k : Nat) : Int) + 1))) :: _) rfl ?_; clear hA; intro a hA
            replace hA := hA.rw 18 (v' := .int .i64 ((k + 1 : Nat) : Int)) rfl (wr64 (by omega) (by omega) (by omega))
            refine st_run tbOk 1 hA (e' := (8, .int .i64 ((k + 1 : Nat) : Int)) :: _) rfl ?_; clear hA; intro a hA
            refine wpList_nil ?_
            replace hA := hA.sel [0, 1, 7, 8] (e' := [(0, .slice (some ⟨b3, o4, none⟩) l.length c), (1, .func (.func g) first cap), (7, .int .i64 ((l.length : Nat) : Int)), (8, .int .i64 ((k + 1 : Nat) : Int))]) rfl
            exact lp_next _ (by omega) ⟨(k + 1), rfl, (hA.sel [0, 1, 7, 8] rfl), hS, by omega, fun i y hi hy => (Nat.lt_succ_iff_lt_or_eq.1 hi).elim (fun h => hb i y h hy) (fun h => by subst h; rw [hx5] at hy; injection hy with hy; subst hy; simpa using hpx)⟩))
  · first
    | (exfalso; omega)
    | (replace hA := hA.rw 9 (v' := .bool false) rfl (vb_false hc2)
       refine cd_cond_f hA rfl ?_
       refine wp_exit ?_
       refine xt_exit ?_
       refine xt_exit ?_
       refine cd_exit_eq ?_
       refine xt_norm ?_
       refine wp_seq ?_
       refine wp_region_lit ?_
       refine st_run tbOk 1 hA (e' := (4, .int .i64 (-1)) :: _) rfl ?_; clear hA; intro a hA
       refine wpList_nil ?_
       replace hA := hA.sel [4] (e' := [(4, .int .i64 (-1))]) rfl
       refine xt_norm ?_
       refine wp_ret ?_
       refine ret1 (fn := Try.f16) hA rfl rfl ?_
       exact ⟨vint (idx_none (fun i y hy => hb i y (by have := (List.getElem?_eq_some_iff.1 hy).1; omega) hy)).symm, hS⟩)

theorem deleteFunc13 {w0 w : World} {F : List Chunk} {C : Chunk} (hS : St w0 w (C :: F)) {v : Value} {l : List Int} (hO : Own 3 1 v l.length (rows encI l) C) {g : Nat} {first cap : Array Value} {p : Int → Bool} (hg : IsFn Try.prog g) (hp : Pred Try.prog w0 F g first cap (fun x => .int .i64 x) p) :
    Ret Try.prog 13 #[v, .func (.func g) first cap] w (fun v w' => ∃ C', Own 3 1 v (l.filter (fun x => !p x)).length (rows encI (l.filter (fun x => !p x))) C' ∧ St w0 w' (C' :: F)) := by
  obtain ⟨A, c, rfl, hmc, hcx⟩ := hO.open'
  refine enter (vs := [.slice A l.length c, .func (.func g) first cap]) 42 Try.func13 rfl rfl (by simp) ?_; intro a hA
  refine wp_seq ?_
  refine wp_region_lit ?_
  refine st_run tbOk 1 hA (e' := (4, .slice none 0 0) :: _) rfl ?_; clear hA; intro a hA
  refine wpList_nil ?_
  replace hA := hA.sel [0, 1] (e' := [(0, .slice A l.length c), (1, .func (.func g) first cap)]) rfl
  refine xt_norm ?_
  refine wp_seq ?_
  refine wp_region_lit ?_
  refine st_run tbOk 2 hA (e' := (9, .func (.func g) first cap) :: (8, .slice A l.length c) :: _) rfl ?_; clear hA; intro a hA
  refine st_call0 hA rfl rfl rfl isfn16 rfl rfl (by decide) (indexFunc16 hS (l := l) (RdS.own hO 0 rfl) hg hp.cons) ?_
  clear hA hS; rintro v w1 a ⟨rfl, hS⟩ hA
  refine st_run tbOk 1 hA (e' := (5, .int .i64 (idx p l)) :: _) rfl ?_; clear hA; intro a hA
  refine wpList_nil ?_
  replace hA := hA.sel [0, 1, 5] (e' := [(0, .slice A l.length c), (1, .func (.func g) first cap), (5, .int .i64 (idx p l))]) rfl
  refine xt_norm ?_
  refine wp_seq ?_
  refine wp_seq ?_
  rcases idx_cases p l with ⟨hi, hf⟩ | ⟨k, x0, hi, hx0, hpx0, hb⟩
  · replace hA := hA.rw 5 (v' := .int .i64 (-1)) rfl (by rw [hi])
    refine wp_region_lit ?_
    refine st_run tbOk 2 hA (e' := (12, .bool true) :: (11, .int .i64 (-1)) :: _) rfl ?_; clear hA; intro a hA
    refine wpList_nil ?_
    replace hA := hA.sel [0, 1, 5, 12] (e' := [(0, .slice A l.length c), (1, .func (.func g) first cap), (5, .int .i64 (-1)), (12, .bool true)]) rfl
    refine xt_norm ?_
    refine cd_cond_t hA rfl ?_
    refine wp_seq ?_
    refine wp_region_lit ?_
    refine st_run tbOk 2 hA (e' := (4, .slice A l.length c) :: (13, .slice A l.length c) :: _) rfl ?_; clear hA; intro a hA
    refine wpList_nil ?_
    replace hA := hA.sel [4] (e' := [(4, .slice A l.length c)]) rfl
    refine xt_norm ?_
    refine wp_ret (xt_ret ?_)
    refine ret1 (fn := Try.f13) hA rfl rfl ?_
    have hfl : l.filter (fun x => !p x) = l := List.filter_eq_self.2 (fun y hy => by obtain ⟨i, hi⟩ := List.mem_iff_getElem?.1 hy; simp [hf i y hi])
    exact ⟨C, by rw [hfl]; exact hO, hS⟩
  · replace hA := hA.rw 5 (v' := .int .i64 ((k : Nat) : Int)) rfl (by rw [hi])
    have hkl := (List.getElem?_eq_some_iff.1 hx0).1
    refine wp_region_lit ?_
    refine st_run tbOk 2 hA (e' := (12, .bool (((k : Nat) : Int) == (-1))) :: (11, .int .i64 ((k : Nat) : Int)) :: _) rfl ?_; clear hA; intro a hA
    refine wpList_nil ?_
    replace hA := hA.sel [0, 1, 5, 12] (e' := [(0, .slice A l.length c), (1, .func (.func g) first cap), (5, .int .i64 ((k : Nat) : Int)), (12, .bool (((k : Nat) : Int) == (-1)))]) rfl
    refine xt_norm ?_
    by_cases hc2 : ((k : Nat) : Int) = (-1)
    · first
      | (exfalso; omega)
      | (replace hA := hA.rw 12 (v' := .bool true) rfl (vb_eq_t hc2)
         refine cd_cond_t hA rfl ?_
         refine wp_seq ?_
         refine wp_region_lit ?_
         refine st_run tbOk 2 hA (e' := (4, .slice A l.length c) :: (13, .slice A l.length c) :: _) rfl ?_; clear hA; intro a hA
         refine wpList_nil ?_
         replace hA := hA.sel [4] (e' := [(4, .slice A l.length c)]) rfl
         refine xt_norm ?_
         refine wp_ret (xt_ret ?_)
         refine ret1 (fn := Try.f13) hA rfl rfl ?_
         have hfl : l.filter (fun x => !p x) = l := List.filter_eq_self.2 (fun y hy => by obtain ⟨i, hi⟩ := List.mem_iff_getElem?.1 hy; simp [hf i y hi])
         exact ⟨C, by rw [hfl]; exact hO, hS⟩)
    · first
      | (exfalso; omega)
      | (replace hA := hA.rw 12 (v' := .bool false) rfl (vb_eq_f hc2)
         refine cd_cond_f hA rfl ?_
         refine wp_skip ?_
         refine xt_norm ?_
         refine wp_seq ?_
         refine wp_seq ?_
         refine wp_region_lit ?_
         refine st_run tbOk 2 hA (e' := (15, .int .i64 (IntKind.i64.wrap (((k : Nat) : Int) + 1))) :: (14, .int .i64 ((k : Nat) : Int)) :: _) rfl ?_; clear hA; intro a hA
         replace hA := hA.rw 15 (v' := .int .i64 ((k + 1 : Nat) : Int)) rfl (wr64 (by omega) (by omega) (by omega))
         refine st_run tbOk 1 hA (e' := (6, .int .i64 ((k + 1 : Nat) : Int)) :: _) rfl ?_; clear hA; intro a hA
         refine wpList_nil ?_
         replace hA := hA.sel [0, 1, 5, 6] (e' := [(0, .slice A l.length c), (1, .func (.func g) first cap), (5, .int .i64 ((k : Nat) : Int)), (6, .int .i64 ((k + 1 : Nat) : Int))]) rfl
         refine xt_norm ?_
         refine wp_block ?_
         have hk1 : (kept p l (k + 1)).length = k := by rw [kept_step hx0, if_pos hpx0, kept_first hb, List.length_take]; omega
         replace hA := hA.rw 5 (v' := .int .i64 (((kept p l (k + 1)).length : Nat) : Int)) rfl (by rw [hk1])
         refine wp_loop_ghost (fun m a w => ∃ (j : Nat) (C : Chunk), m = l.length - j ∧ Has a 42 [(0, .slice A l.length c), (1, .func (.func g) first cap), (5, .int .i64 (((kept p l j).length : Nat) : Int)), (6, .int .i64 ((j : Nat) : Int))] ∧ St w0 w (C :: F) ∧ k < j ∧ j ≤ l.length ∧ Own 3 1 (.slice A l.length c) l.length (rows encI (mid p l j)) C) (l.length - (k + 1))
           ⟨(k + 1), C, rfl, (hA.sel [0, 1, 5, 6] rfl), hS, by omega, by omega, by rw [mid_no hx0 hpx0, mid_first (by omega) hb]; exact hO⟩ ?_
         clear hA hS; rintro m0 a w3 ⟨j, C, rfl, hA, hS, hj1, hj, hO⟩
         have hkj := kept_le p l j
         refine wp_seq ?_
         refine wp_seq ?_
         refine wp_region_lit ?_
         refine st_run tbOk 4 hA (e' := (19, .bool (decide (((j : Nat) : Int) < ((l.length : Nat) : Int)))) :: (18, .int .i64 ((l.length : Nat) : Int)) :: (17, .slice A l.length c) :: (16, .int .i64 ((j : Nat) : Int)) :: _) rfl ?_; clear hA; intro a hA
         refine wpList_nil ?_
         replace hA := hA.sel [0, 1, 5, 6, 19] (e' := [(0, .slice A l.length c), (1, .func (.func g) first cap), (5, .int .i64 (((kept p l j).length : Nat) : Int)), (6, .int .i64 ((j : Nat) : Int)), (19, .bool (decide (((j : Nat) : Int) < ((l.length : Nat) : Int))))]) rfl
         refine xt_norm ?_
         by_cases hc4 : ((j : Nat) : Int) < ((l.length : Nat) : Int)
         · first
           | (exfalso; omega)
           | (replace hA := hA.rw 19 (v' := .bool true) rfl (vb_true hc4)
              refine cd_cond_t hA rfl ?_
              refine wp_skip ?_
              refine xt_norm ?_
              refine wp_seq ?_
              refine wp_block ?_
              refine wp_seq ?_
              refine wp_region_lit ?_
              refine st_run tbOk 2 hA (e' := (23, .int .i64 ((j : Nat) : Int)) :: (22, .slice A l.length c) :: _) rfl ?_; clear hA; intro a hA
              obtain ⟨b5, o6, rfl⟩ := hO.isSome (k := j) (by omega)
              refine st_val hA rfl rfl (by decide) (rn_indexAddr tbOk hA j (o6 + j) rfl rfl rfl rfl rfl rfl (by rfl) (by omega) (by first | rfl | simp [Nat.mul_one, Nat.zero_add] | omega)) ?_; clear hA; intro a hA
              obtain ⟨x7, hx7⟩ := get_ex (l := l) (k := j) (by omega)
              have gx7 := (mid_at (p := p) (l := l) (Nat.le_refl j)).trans hx7
              refine st_val hA rfl rfl (by decide) (rn_load tbOk hA rfl rfl rfl rfl ((hO.rd (hS.own_ 0 rfl)).elem0 encI_ok gx7 rfl)) ?_; clear hA; intro a hA
              refine st_run tbOk 1 hA (e' := (7, .int .i64 x7) :: _) rfl ?_; clear hA; intro a hA
              refine wpList_nil ?_
              replace hA := hA.sel [0, 1, 5, 6, 7] (e' := [(0, .slice (some ⟨b5, o6, none⟩) l.length c), (1, .func (.func g) first cap), (5, .int .i64 (((kept p l j).length : Nat) : Int)), (6, .int .i64 ((j : Nat) : Int)), (7, .int .i64 x7)]) rfl
              refine xt_norm ?_
              refine wp_seq ?_
              refine wp_region_lit ?_
              refine st_run tbOk 2 hA (e' := (27, .int .i64 x7) :: (26, .func (.func g) first cap) :: _) rfl ?_; clear hA; intro a hA
              refine st_call hA rfl rfl rfl rfl hg rfl rfl (by decide) (hp _ x7 (hS.tail 1 rfl)) ?_
              clear hA; rintro v w8 a ⟨rfl, hS'⟩ hA; replace hS : St w0 w8 (C :: F) := hS.trans hS'
              by_cases hpx : (p x7) = true
              · first
                | (exfalso; omega)
                | (replace hA := hA.rw 28 (v' := .bool true) rfl (vb_t hpx)
                   refine st_run tbOk 1 hA (e' := (29, .bool false) :: _) rfl ?_; clear hA; intro a hA
                   refine wpList_nil ?_
                   replace hA := hA.sel [0, 1, 5, 6, 7, 29] (e' := [(0, .slice (some ⟨b5, o6, none⟩) l.length c), (1, .func (.func g) first cap), (5, .int .i64 (((kept p l j).length : Nat) : Int)), (6, .int .i64 ((j : Nat) : Int)), (7, .int .i64 x7), (29, .bool false)]) rfl
                   refine xt_norm ?_
                   refine cd_cond_f hA rfl ?_
                   refine wp_skip ?_
                   refine xb_norm ?_
                   refine xt_norm ?_
                   refine wp_region_lit ?_
                   refine st_run tbOk 2 hA (e' := (21, .int .i64 (IntKind.i64.wrap (((j : Nat) : Int) + 1))) :: (20, .int .i64 ((j : Nat) : Int)) :: _) rfl ?_; clear hA; intro a hA
                   replace hA := hA.rw 21 (v' := .int .i64 ((j + 1 : Nat) : Int)) rfl (wr64 (by omega) (by omega) (by omega))
                   refine st_run tbOk 1 hA (e' := (6, .int .i64 ((j + 1 : Nat) : Int)) :: _) rfl ?_; clear hA; intro a hA
                   refine wpList_nil ?_
                   replace hA := hA.sel [0, 1, 5, 6] (e' := [(0, .slice (some ⟨b5, o6, none⟩) l.length c), (1, .func (.func g) first cap), (5, .int .i64 (((kept p l j).length : Nat) : Int)), (6, .int .i64 ((j + 1 : Nat) : Int))]) rfl
                   have h2 : (kept p l (j + 1)).length = (kept p l j).length := by rw [kept_step hx7, if_pos (by simpa using hpx)]
                   have h3 : Own 3 1 (.slice (some ⟨b5, o6, none⟩) l.length c) l.length (rows encI (mid p l (j + 1))) C := by rw [mid_no hx7 (by simpa using hpx)]; exact hO
                   replace hA := hA.rw 5 (v' := .int .i64 (((kept p l (j + 1)).length : Nat) : Int)) rfl (by rw [h2])
                   exact lp_next _ (by omega) ⟨(j + 1), C, rfl, (hA.sel [0, 1, 5, 6] rfl), hS, by omega, by omega, h3⟩)
              · first
                | (exfalso; omega)
                | (replace hA := hA.rw 28 (v' := .bool false) rfl (vb_f hpx)
                   refine st_run tbOk 1 hA (e' := (29, .bool true) :: _) rfl ?_; clear hA; intro a hA
                   refine wpList_nil ?_
                   replace hA := hA.sel [0, 1, 5, 6, 7, 29] (e' := [(0, .slice (some ⟨b5, o6, none⟩) l.length c), (1, .func (.func g) first cap), (5, .int .i64 (((kept p l j).length : Nat) : Int)), (6, .int .i64 ((j : Nat) : Int)), (7, .int .i64 x7), (29, .bool true)]) rfl
                   refine xt_norm ?_
                   refine cd_cond_t hA rfl ?_
                   refine wp_seq ?_
                   refine wp_region_lit ?_
                   refine st_run tbOk 3 hA (e' := (32, .int .i64 x7) :: (31, .int .i64 (((kept p l j).length : Nat) : Int)) :: (30, .slice (some ⟨b5, o6, none⟩) l.length c) :: _) rfl ?_; clear hA; intro a hA
                   refine st_val hA rfl rfl (by decide) (rn_indexAddr tbOk hA ((kept p l j).length) (o6 + ((kept p l j).length)) rfl rfl rfl rfl rfl rfl (by rfl) (by omega) (by first | rfl | simp [Nat.mul_one, Nat.zero_add] | omega)) ?_; clear hA; intro a hA
                   refine st_store_own tbOk hA hO hS (((kept p l j).length)) (o6 + ((kept p l j).length)) [.int .i64 x7] (rows encI ((mid p l j).set (kept p l j).length x7)) rfl rfl rfl rfl (by rfl) rfl rfl (by intro u hu; rw [List.mem_singleton.1 hu]; rfl) (by rw [rows_length encI_ok, mid_length]; have := kept_le p l j; simp only [List.length_cons, List.length_nil]; omega) (by have := rows_set encI_ok (x := x7) (l := mid p l j) (k := (kept p l j).length) (by rw [mid_length]; have := kept_le p l j; omega); rw [Nat.mul_one] at this; exact this) rfl rfl ?_; clear hS; intro w9 C10 hO10 hS
                   refine wpList_nil ?_
                   replace hA := hA.sel [0, 1, 5, 6] (e' := [(0, .slice (some ⟨b5, o6, none⟩) l.length c), (1, .func (.func g) first cap), (5, .int .i64 (((kept p l j).length : Nat) : Int)), (6, .int .i64 ((j : Nat) : Int))]) rfl
                   refine xt_norm ?_
                   refine wp_region_lit ?_
                   refine st_run tbOk 2 hA (e' := (35, .int .i64 (IntKind.i64.wrap ((((kept p l j).length : Nat) : Int) + 1))) :: (34, .int .i64 (((kept p l j).length : Nat) : Int)) :: _) rfl ?_; clear hA; intro a hA
                   replace hA := hA.rw 35 (v' := .int .i64 ((((kept p l j).length) + 1 : Nat) : Int)) rfl (wr64 (by omega) (by omega) (by omega))
                   refine st_run tbOk 1 hA (e' := (5, .int .i64 ((((kept p l j).length) + 1 : Nat) : Int)) :: _) rfl ?_; clear hA; intro a hA
                   refine wpList_nil ?_
                   replace hA := hA.sel [0, 1, 5, 6] (e' := [(0, .slice (some ⟨b5, o6, none⟩) l.length c), (1, .func (.func g) first cap), (5, .int .i64 ((((kept p l j).length) + 1 : Nat) : Int)), (6, .int .i64 ((j : Nat) : Int))]) rfl
                   refine xb_norm ?_
                   refine xt_norm ?_
                   refine wp_region_lit ?_
                   refine st_run tbOk 2 hA (e' := (21, .int .i64 (IntKind.i64.wrap (((j : Nat) : Int) + 1))) :: (20, .int .i64 ((j : Nat) : Int)) :: _) rfl ?_; clear hA; intro a hA
                   replace hA := hA.rw 21 (v' := .int .i64 ((j + 1 : Nat) : Int)) rfl (wr64 (by omega) (by omega) (by omega))
                   refine st_run tbOk 1 hA (e' := (6, .int .i64 ((j + 1 : Nat) : Int)) :: _) rfl ?_; clear hA; intro a hA
                   refine wpList_nil ?_
                   replace hA := hA.sel [0, 1, 5, 6] (e' := [(0, .slice (some ⟨b5, o6, none⟩) l.length c), (1, .func (.func g) first cap), (5, .int .i64 ((((kept p l j).length) + 1 : Nat) : Int)), (6, .int .i64 ((j + 1 : Nat) : Int))]) rfl
                   have h2 : (kept p l (j + 1)).length = (kept p l j).length + 1 := by rw [kept_step hx7, if_neg (by simpa using hpx), List.length_append]; rfl
                   have h3 : Own 3 1 (.slice (some ⟨b5, o6, none⟩) l.length c) l.length (rows encI (mid p l (j + 1))) C10 := by rw [mid_yes hx7 (by simpa using hpx)]; exact hO10
                   replace hA := hA.rw 5 (v' := .int .i64 (((kept p l (j + 1)).length : Nat) : Int)) rfl (by rw [h2])
                   exact lp_next _ (by omega) ⟨(j + 1), C10, rfl, (hA.sel [0, 1, 5, 6] rfl), hS, by omega, by omega, h3⟩))
         · first
           | (exfalso; omega)
           | (replace hA := hA.rw 19 (v' := .bool false) rfl (vb_false hc4)
              refine cd_cond_f hA rfl ?_
              refine wp_exit ?_
              refine xt_exit ?_
              refine xt_exit ?_
              refine cd_exit_eq ?_
              refine xt_norm ?_
              refine wp_seq ?_
              refine wp_region_lit ?_
              refine st_run tbOk 2 hA (e' := (37, .int .i64 (((kept p l j).length : Nat) : Int)) :: (36, .slice A l.length c) :: _) rfl ?_; clear hA; intro a hA
              refine st_val hA rfl rfl (by decide) (rn_slice_l tbOk hA ((kept p l j).length) rfl rfl rfl rfl rfl rfl (by rfl) (by omega)) ?_; clear hA; intro a hA
              refine st_clear tbOk hA (h := (kept p l j).length) (old := l.length) (c := c) rfl rfl rfl rfl rfl rfl (fun u hu => List.all_eq_true.1 (by rfl) u hu) (hO.head (kept p l j).length (by omega)) hS (by omega) (by omega) rfl rfl ?_; clear hS; intro w11 C12 hO12 hS
              obtain rfl : j = l.length := by omega
              rw [rows_take encI_ok, mid_head, kept_all] at hO12
              have e1 : (kept p l l.length).length = (l.filter (fun x => !p x)).length := by rw [kept_all]
              refine wpList_nil ?_
              replace hA := hA.sel [0, 5] (e' := [(0, .slice A l.length c), (5, .int .i64 (((kept p l l.length).length : Nat) : Int))]) rfl
              refine xt_norm ?_
              refine wp_seq ?_
              refine wp_region_lit ?_
              refine st_run tbOk 2 hA (e' := (40, .int .i64 (((kept p l l.length).length : Nat) : Int)) :: (39, .slice A l.length c) :: _) rfl ?_; clear hA; intro a hA
              refine st_val hA rfl rfl (by decide) (rn_slice_h tbOk hA ((kept p l l.length).length) rfl rfl rfl rfl rfl rfl (by rfl) (by omega)) ?_; clear hA; intro a hA
              refine st_run tbOk 1 hA (e' := (4, .slice A ((kept p l l.length).length) c) :: _) rfl ?_; clear hA; intro a hA
              refine wpList_nil ?_
              replace hA := hA.sel [4] (e' := [(4, .slice A ((kept p l l.length).length) c)]) rfl
              refine xt_norm ?_
              refine wp_ret ?_
              refine ret1 (fn := Try.f13) hA rfl rfl ?_
              exact ⟨_, (e1 ▸ hO12), hS⟩))

theorem delete12 {w0 w : World} {F : List Chunk} {C : Chunk} (hS : St w0 w (C :: F)) {v : Value} {l : List Int} (hO : Own 3 1 v l.length (rows encI l) C) (i j : Nat) (hij : i ≤ j) (hj : j ≤ l.length) :
    Ret Try.prog 12 #[v, .int .i64 ((i : Nat) : Int), .int .i64 ((j : Nat) : Int)] w (fun v w' => ∃ C', Own 3 1 v (l.take i ++ l.drop j).length (rows encI (l.take i ++ l.drop j)) C' ∧ St w0 w' (C' :: F)) := by
  obtain ⟨A, c, rfl, hmc, hcx⟩ := hO.open'
  refine enter (vs := [.slice A l.length c, .int .i64 ((i : Nat) : Int), .int .i64 ((j : Nat) : Int)]) 33 Try.func12 rfl rfl (by simp) ?_; intro a hA
  refine wp_seq ?_
  refine wp_region_lit ?_
  refine st_run tbOk 1 hA (e' := (6, .slice none 0 0) :: _) rfl ?_; clear hA; intro a hA
  refine wpList_nil ?_
  replace hA := hA.sel [0, 1, 2] (e' := [(0, .slice A l.length c), (1, .int .i64 ((i : Nat) : Int)), (2, .int .i64 ((j : Nat) : Int))]) rfl
  refine xt_norm ?_
  refine wp_seq ?_
  refine wp_region_lit ?_
  refine st_run tbOk 5 hA (e' := (12, .int .i64 ((l.length : Nat) : Int)) :: (11, .slice A l.length c) :: (10, .int .i64 ((j : Nat) : Int)) :: (9, .int .i64 ((i : Nat) : Int)) :: (8, .slice A l.length c) :: _) rfl ?_; clear hA; intro a hA
  refine st_val hA rfl rfl (by decide) (rn_slice_lhm tbOk hA i j l.length rfl rfl rfl rfl rfl rfl rfl rfl (by rfl) (by rfl) (by rfl) (by omega) (by omega) (by omega)) ?_; clear hA; intro a hA
  refine wpList_nil ?_
  replace hA := hA.sel [0, 1, 2] (e' := [(0, .slice A l.length c), (1, .int .i64 ((i : Nat) : Int)), (2, .int .i64 ((j : Nat) : Int))]) rfl
  refine xt_norm ?_
  refine wp_seq ?_
  refine wp_seq ?_
  refine wp_region_lit ?_
  refine st_run tbOk 3 hA (e' := (16, .bool (((i : Nat) : Int) == ((j : Nat) : Int))) :: (15, .int .i64 ((j : Nat) : Int)) :: (14, .int .i64 ((i : Nat) : Int)) :: _) rfl ?_; clear hA; intro a hA
  refine wpList_nil ?_
  replace hA := hA.sel [0, 1, 2, 16] (e' := [(0, .slice A l.length c), (1, .int .i64 ((i : Nat) : Int)), (2, .int .i64 ((j : Nat) : Int)), (16, .bool (((i : Nat) : Int) == ((j : Nat) : Int)))]) rfl
  refine xt_norm ?_
  by_cases hc1 : ((i : Nat) : Int) = ((j : Nat) : Int)
  · first
    | (exfalso; omega)
    | (replace hA := hA.rw 16 (v' := .bool true) rfl (vb_eq_t hc1)
       refine cd_cond_t hA rfl ?_
       refine wp_seq ?_
       refine wp_region_lit ?_
       refine st_run tbOk 2 hA (e' := (6, .slice A l.length c) :: (17, .slice A l.length c) :: _) rfl ?_; clear hA; intro a hA
       refine wpList_nil ?_
       replace hA := hA.sel [6] (e' := [(6, .slice A l.length c)]) rfl
       refine xt_norm ?_
       refine wp_ret (xt_ret ?_)
       refine ret1 (fn := Try.f12) hA rfl rfl ?_
       have e0 : l.take i ++ l.drop j = l := by rw [show j = i by omega, List.take_append_drop]
       exact ⟨C, by rw [e0]; exact hO, hS⟩)
  · first
    | (exfalso; omega)
    | (replace hA := hA.rw 16 (v' := .bool false) rfl (vb_eq_f hc1)
       refine cd_cond_f hA rfl ?_
       refine wp_skip ?_
       refine xt_norm ?_
       refine wp_seq ?_
       refine wp_region_lit ?_
       refine st_run tbOk 3 hA (e' := (7, .int .i64 ((l.length : Nat) : Int)) :: (19, .int .i64 ((l.length : Nat) : Int)) :: (18, .slice A l.length c) :: _) rfl ?_; clear hA; intro a hA
       refine wpList_nil ?_
       replace hA := hA.sel [0, 1, 2, 7] (e' := [(0, .slice A l.length c), (1, .int .i64 ((i : Nat) : Int)), (2, .int .i64 ((j : Nat) : Int)), (7, .int .i64 ((l.length : Nat) : Int))]) rfl
       refine xt_norm ?_
       refine wp_seq ?_
       refine wp_draw (fun w' => St w0 w' (F)) [] [(0, true), (1, true), (2, true), (3, true), (4, true), (5, true), (6, false), (7, true)] mixed (by kernel_rfl) (by rintro c a w ⟨_, _, h, _⟩; cases h) (by rfl) (by kernel_rfl) ?_
       replace hS := hS.drew
       refine dr_run tbOk 2 hA (hS.tail 1 rfl) (e' := (21, .int .i64 ((i : Nat) : Int)) :: (20, .slice A l.length c) :: _) rfl ?_; clear hA; intro a hA
       refine dr_y hA rfl rfl rfl (by decide) (hS.tail 1 rfl) (fun w' hS' => rn_slice_h tbOk hA i rfl rfl rfl rfl rfl rfl (by rfl) (by omega)) ?_; clear hA; intro a hA
       refine dr_run tbOk 2 hA (hS.tail 1 rfl) (e' := (24, .int .i64 ((j : Nat) : Int)) :: (23, .slice A l.length c) :: _) rfl ?_; clear hA; intro a hA
       refine dr_y hA rfl rfl rfl (by decide) (hS.tail 1 rfl) (fun w' hS' => rn_slice_l tbOk hA j rfl rfl rfl rfl rfl rfl (by rfl) (by omega)) ?_; clear hA; intro a hA
       refine dr_b (o := _) rfl ?_
       refine st_append_rm tbOk hA (m := i) (q := ((l.take l.length).drop j).length) (c := c) (xs := (rows encI l).take (i * 1)) (news := rows encI ((l.take l.length).drop j)) rfl rfl rfl rfl rfl rfl rfl (hO.head i (by omega)) hS ((hO.rd (hS.own_ 0 rfl)).rslv encI_ok j l.length c (by omega) (by omega) (by omega) (by omega)) (rows_one encI_ok _) (by simp; omega) rfl rfl (by decide) ?_
       clear hA hS; intro w2 C3 a hO3 hS hA
       have e1 : i + ((l.take l.length).drop j).length = (l.take i ++ l.drop j).length := by simp; omega
       have e2 : (rows encI l).take (i * 1) ++ rows encI ((l.take l.length).drop j) = rows encI (l.take i ++ l.drop j) := by rw [rows_take encI_ok, rows_append, List.take_length]
       rw [e2, e1] at hO3
       rw [e1] at hA
       have e3 : (l.take i ++ l.drop j).length ≤ l.length := by simp; omega
       refine dr_nil (.inr (hS.tail 1 rfl)) ?_
       refine dr_run tbOk 1 hA (hS.tail 1 rfl) (e' := (0, .slice A ((l.take i ++ l.drop j).length) c) :: _) rfl ?_; clear hA; intro a hA
       refine dr_end ?_
       replace hA := hA.sel [0, 7] (e' := [(0, .slice A ((l.take i ++ l.drop j).length) c), (7, .int .i64 ((l.length : Nat) : Int))]) rfl
       refine xt_norm ?_
       refine wp_seq ?_
       refine wp_region_lit ?_
       refine st_run tbOk 4 hA (e' := (30, .int .i64 ((l.length : Nat) : Int)) :: (29, .int .i64 (((l.take i ++ l.drop j).length : Nat) : Int)) :: (28, .slice A ((l.take i ++ l.drop j).length) c) :: (27, .slice A ((l.take i ++ l.drop j).length) c) :: _) rfl ?_; clear hA; intro a hA
       refine st_val hA rfl rfl (by decide) (rn_slice_lh tbOk hA ((l.take i ++ l.drop j).length) l.length rfl rfl rfl rfl rfl rfl rfl (by rfl) (by rfl) (by omega) (by omega)) ?_; clear hA; intro a hA
       refine st_clear tbOk hA (h := (l.take i ++ l.drop j).length) (old := l.length) (c := c) rfl rfl rfl rfl rfl rfl (fun u hu => List.all_eq_true.1 (by rfl) u hu) hO3 hS (by omega) (by omega) rfl rfl ?_; clear hS; intro w4 C5 hO5 hS
       refine wpList_nil ?_
       replace hA := hA.sel [0] (e' := [(0, .slice A ((l.take i ++ l.drop j).length) c)]) rfl
       refine xt_norm ?_
       refine wp_seq ?_
       refine wp_region_lit ?_
       refine st_run tbOk 2 hA (e' := (6, .slice A ((l.take i ++ l.drop j).length) c) :: (32, .slice A ((l.take i ++ l.drop j).length) c) :: _) rfl ?_; clear hA; intro a hA
       refine wpList_nil ?_
       replace hA := hA.sel [6] (e' := [(6, .slice A ((l.take i ++ l.drop j).length) c)]) rfl
       refine xt_norm ?_
       refine wp_ret ?_
       refine ret1 (fn := Try.f12) hA rfl rfl ?_
       exact ⟨_, hO5, hS⟩)

theorem push_ok6 {w0 w : World} {F : List Chunk} (hS : St w0 w F) {v : Value} {l : List Int} (hr : RdS w0 F 1 v l.length (rows encI l)) (x : Int) (h1 : l.any (fun y => y == x) = false) (h2 : l.length < 64) :
    Ret Try.prog 6 #[v, .int .i64 x] w (fun v w' => ∃ v1 C, v = .tuple #[v1, .nilIface] ∧ Own 3 1 v1 (l ++ [x]).length (rows encI (l ++ [x])) C ∧ St w0 w' (C :: F)) := by
  obtain ⟨A, c, rfl, hmc, hcx⟩ := (hr w hS).open'
  refine enter (vs := [.slice A l.length c, .int .i64 x]) 21 Try.func6 rfl rfl (by simp) ?_; intro a hA
  refine wp_seq ?_
  refine wp_region_lit ?_
  refine st_run tbOk 2 hA (e' := (5, .nilIface) :: (4, .slice none 0 0) :: _) rfl ?_; clear hA; intro a hA
  refine wpList_nil ?_
  replace hA := hA.sel [0, 1] (e' := [(0, .slice A l.length c), (1, .int .i64 x)]) rfl
  refine xt_norm ?_
  refine wp_seq ?_
  refine wp_block ?_
  refine wp_seq ?_
  refine wp_region_lit ?_
  refine st_run tbOk 2 hA (e' := (8, .int .i64 x) :: (7, .slice A l.length c) :: _) rfl ?_; clear hA; intro a hA
  refine st_call0 hA rfl rfl rfl isfn10 rfl rfl (by decide) (contains10 hS (l := l) (fun w' h => (hr _ h)) x) ?_
  clear hA hS; rintro v w1 a ⟨rfl, hS⟩ hA
  refine st_run tbOk 1 hA (e' := (6, .bool (l.any (fun y => y == x))) :: _) rfl ?_; clear hA; intro a hA
  refine wpList_nil ?_
  replace hA := hA.sel [0, 1, 6] (e' := [(0, .slice A l.length c), (1, .int .i64 x), (6, .bool (l.any (fun y => y == x)))]) rfl
  refine xt_norm ?_
  have hc2 : ¬ ((l.any (fun y => y == x)) = true) := (by rw [h1]; decide)
  replace hA := hA.rw 6 (v' := .bool false) rfl (vb_f hc2)
  refine cd_cond_f hA rfl ?_
  refine wp_seq ?_
  refine wp_region_lit ?_
  refine st_run tbOk 4 hA (e' := (11, .bool (decide (((l.length : Nat) : Int) ≥ 64))) :: (14, .bool (decide (((l.length : Nat) : Int) ≥ 64))) :: (13, .int .i64 ((l.length : Nat) : Int)) :: (12, .slice A l.length c) :: _) rfl ?_; clear hA; intro a hA
  refine wpList_nil ?_
  replace hA := hA.sel [0, 1, 11] (e' := [(0, .slice A l.length c), (1, .int .i64 x), (11, .bool (decide (((l.length : Nat) : Int) ≥ 64)))]) rfl
  refine xt_norm ?_
  have hc3 : ¬ (((l.length : Nat) : Int) ≥ 64) := by omega
  replace hA := hA.rw 11 (v' := .bool false) rfl (vb_false hc3)
  refine cd_cond_f hA rfl ?_
  refine wp_skip ?_
  refine xb_norm ?_
  refine xt_norm ?_
  refine wp_seq ?_
  refine wp_region_lit ?_
  refine st_run tbOk 1 hA (e' := (16, .slice A l.length c) :: _) rfl ?_; clear hA; intro a hA
  refine st_call0 hA rfl rfl rfl isfn11 rfl rfl (by decide) (clone11 hS (l := l) (fun w' h => (hr _ h)) (by omega)) ?_
  clear hA hS; rintro v4 w5 a ⟨C6, hO6, hS⟩ hA
  obtain ⟨A7, c8, rfl, hmc8, hxc8⟩ := hO6.open'
  refine st_run tbOk 1 hA (e' := (18, .int .i64 x) :: _) rfl ?_; clear hA; intro a hA
  refine st_buildSlice tbOk hA hS [.int .i64 x] rfl rfl rfl rfl rfl (by decide) (by kernel_rfl) rfl rfl (by decide) ?_; clear hA hS; intro b9 w10 a hS hA
  replace hS := hS.front 1 (C := C6) (L' := [(b9, rowO [.int .i64 x] 3)] :: F) rfl rfl
  refine st_append tbOk hA (m := l.length) (q := 1) (xs := rows encI l) (news := rows encI ([x] : List Int)) rfl rfl rfl rfl rfl rfl rfl rfl (by decide) hO6 hS ((Own.full (T := 3) (size := 1) (g := b9) (m := 1) rfl (by decide)).rd (hS.own_ 1 rfl)) (rows_one encI_ok _) (maxLen_le (by omega)) (by show (l.length + 1) * 8 ≤ 140737488355328; omega) rfl rfl (by decide) ?_
  clear hA hS; intro v11 w12 C13 a hO13 hS hA
  replace hO13 := Own.app (l := l) (l2 := ([x] : List Int)) hO13
  obtain ⟨A14, c15, rfl, hmc15, hxc15⟩ := hO13.open'
  refine st_run tbOk 2 hA (e' := (5, .nilIface) :: (4, .slice A14 ((l ++ ([x] : List Int)).length) c15) :: _) rfl ?_; clear hA; intro a hA
  refine wpList_nil ?_
  replace hA := hA.sel [4, 5] (e' := [(4, .slice A14 ((l ++ ([x] : List Int)).length) c15), (5, .nilIface)]) rfl
  refine xt_norm ?_
  refine wp_ret ?_
  refine ret2 (fn := Try.f6) hA rfl rfl rfl ?_
  replace hS := hS.drop2
  exact ⟨_, C13, rfl, hO13, hS⟩

theorem push_dup6 {w0 w : World} {F : List Chunk} (hS : St w0 w F) {v : Value} {l : List Int} (hr : RdS w0 F 1 v l.length (rows encI l)) (x : Int) (h1 : l.any (fun y => y == x) = true) :
    Ret Try.prog 6 #[v, .int .i64 x] w (fun v w' => v = .tuple #[.slice none 0 0, .iface 36 (.int .i64 11)] ∧ St w0 w' F) := by
  obtain ⟨A, c, rfl, hmc, hcx⟩ := (hr w hS).open'
  refine enter (vs := [.slice A l.length c, .int .i64 x]) 21 Try.func6 rfl rfl (by simp) ?_; intro a hA
  refine wp_seq ?_
  refine wp_region_lit ?_
  refine st_run tbOk 2 hA (e' := (5, .nilIface) :: (4, .slice none 0 0) :: _) rfl ?_; clear hA; intro a hA
  refine wpList_nil ?_
  replace hA := hA.sel [0, 1] (e' := [(0, .slice A l.length c), (1, .int .i64 x)]) rfl
  refine xt_norm ?_
  refine wp_seq ?_
  refine wp_block ?_
  refine wp_seq ?_
  refine wp_region_lit ?_
  refine st_run tbOk 2 hA (e' := (8, .int .i64 x) :: (7, .slice A l.length c) :: _) rfl ?_; clear hA; intro a hA
  refine st_call0 hA rfl rfl rfl isfn10 rfl rfl (by decide) (contains10 hS (l := l) (fun w' h => (hr _ h)) x) ?_
  clear hA hS; rintro v w1 a ⟨rfl, hS⟩ hA
  refine st_run tbOk 1 hA (e' := (6, .bool (l.any (fun y => y == x))) :: _) rfl ?_; clear hA; intro a hA
  refine wpList_nil ?_
  replace hA := hA.sel [0, 1, 6] (e' := [(0, .slice A l.length c), (1, .int .i64 x), (6, .bool (l.any (fun y => y == x)))]) rfl
  refine xt_norm ?_
  have hc2 : (l.any (fun y => y == x)) = true := h1
  replace hA := hA.rw 6 (v' := .bool true) rfl (vb_t hc2)
  refine cd_cond_t hA rfl ?_
  refine wp_seq ?_
  refine wp_region_lit ?_
  refine st_run tbOk 3 hA (e' := (5, .iface 36 (.int .i64 11)) :: (4, .slice none 0 0) :: (10, .iface 36 (.int .i64 11)) :: _) rfl ?_; clear hA; intro a hA
  refine wpList_nil ?_
  replace hA := hA.sel [4, 5] (e' := [(4, .slice none 0 0), (5, .iface 36 (.int .i64 11))]) rfl
  refine xt_norm ?_
  refine wp_ret (xb_ret (xt_ret ?_))
  refine ret2 (fn := Try.f6) hA rfl rfl rfl ?_
  exact ⟨rfl, hS⟩

theorem push_full6 {w0 w : World} {F : List Chunk} (hS : St w0 w F) {v : Value} {l : List Int} (hr : RdS w0 F 1 v l.length (rows encI l)) (x : Int) (h1 : l.any (fun y => y == x) = false) (h2 : 64 ≤ l.length) (hb : l.length * 8 ≤ 140737488355328) :
    Ret Try.prog 6 #[v, .int .i64 x] w (fun v w' => v = .tuple #[.slice none 0 0, .iface 36 (.int .i64 5)] ∧ St w0 w' F) := by
  obtain ⟨A, c, rfl, hmc, hcx⟩ := (hr w hS).open'
  refine enter (vs := [.slice A l.length c, .int .i64 x]) 21 Try.func6 rfl rfl (by simp) ?_; intro a hA
  refine wp_seq ?_
  refine wp_region_lit ?_
  refine st_run tbOk 2 hA (e' := (5, .nilIface) :: (4, .slice none 0 0) :: _) rfl ?_; clear hA; intro a hA
  refine wpList_nil ?_
  replace hA := hA.sel [0, 1] (e' := [(0, .slice A l.length c), (1, .int .i64 x)]) rfl
  refine xt_norm ?_
  refine wp_seq ?_
  refine wp_block ?_
  refine wp_seq ?_
  refine wp_region_lit ?_
  refine st_run tbOk 2 hA (e' := (8, .int .i64 x) :: (7, .slice A l.length c) :: _) rfl ?_; clear hA; intro a hA
  refine st_call0 hA rfl rfl rfl isfn10 rfl rfl (by decide) (contains10 hS (l := l) (fun w' h => (hr _ h)) x) ?_
  clear hA hS; rintro v w1 a ⟨rfl, hS⟩ hA
  refine st_run tbOk 1 hA (e' := (6, .bool (l.any (fun y => y == x))) :: _) rfl ?_; clear hA; intro a hA
  refine wpList_nil ?_
  replace hA := hA.sel [0, 1, 6] (e' := [(0, .slice A l.length c), (1, .int .i64 x), (6, .bool (l.any (fun y => y == x)))]) rfl
  refine xt_norm ?_
  have hc2 : ¬ ((l.any (fun y => y == x)) = true) := (by rw [h1]; decide)
  replace hA := hA.rw 6 (v' := .bool false) rfl (vb_f hc2)
  refine cd_cond_f hA rfl ?_
  refine wp_seq ?_
  refine wp_region_lit ?_
  refine st_run tbOk 4 hA (e' := (11, .bool (decide (((l.length : Nat) : Int) ≥ 64))) :: (14, .bool (decide (((l.length : Nat) : Int) ≥ 64))) :: (13, .int .i64 ((l.length : Nat) : Int)) :: (12, .slice A l.length c) :: _) rfl ?_; clear hA; intro a hA
  refine wpList_nil ?_
  replace hA := hA.sel [0, 1, 11] (e' := [(0, .slice A l.length c), (1, .int .i64 x), (11, .bool (decide (((l.length : Nat) : Int) ≥ 64)))]) rfl
  refine xt_norm ?_
  have hc3 : ((l.length : Nat) : Int) ≥ 64 := by omega
  replace hA := hA.rw 11 (v' := .bool true) rfl (vb_true hc3)
  refine cd_cond_t hA rfl ?_
  refine wp_seq ?_
  refine wp_region_lit ?_
  refine st_run tbOk 3 hA (e' := (5, .iface 36 (.int .i64 5)) :: (4, .slice none 0 0) :: (15, .iface 36 (.int .i64 5)) :: _) rfl ?_; clear hA; intro a hA
  refine wpList_nil ?_
  replace hA := hA.sel [4, 5] (e' := [(4, .slice none 0 0), (5, .iface 36 (.int .i64 5))]) rfl
  refine xt_norm ?_
  refine wp_ret (xb_ret (xt_ret ?_))
  refine ret2 (fn := Try.f6) hA rfl rfl rfl ?_
  exact ⟨rfl, hS⟩

theorem turn_round (p : Int) (n : Nat) (h : 0 < n) : ∃ k : Nat, k < n ∧ (k : Int) = p % (n : Int) ∧ (p.tmod n < 0 → p.tmod n + n = (k : Int)) ∧ (¬ p.tmod n < 0 → p.tmod n = (k : Int)) := by
  have h0 : (0 : Int) < n := by omega
  have h1 := Int.emod_nonneg p (b := (n : Int)) (by omega)
  have h2 := Int.emod_lt_of_pos p h0
  refine ⟨(p % (n : Int)).toNat, by omega, by omega, fun hn => ?_, fun hn => ?_⟩
  · have h3 := Int.tmod_lt_of_pos p h0
    have h4 := Int.tmod_add_mul_tdiv p n
    have h5 : (p.tmod n + n) % (n : Int) = p % n := by
      rw [Int.add_emod_right]
      conv => rhs; rw [← h4, Int.add_mul_emod_self_left]
    have h6 : -(n : Int) < p.tmod n := by
      have := Int.lt_tmod_of_pos p h0
      omega
    rw [Int.emod_eq_of_lt (by omega) (by omega)] at h5
    omega
  · have h3 := Int.tmod_lt_of_pos p h0
    have h4 := Int.tmod_add_mul_tdiv p n
    have h5 : (p.tmod n) % (n : Int) = p % n := by
      conv => rhs; rw [← h4, Int.add_mul_emod_self_left]
    rw [Int.emod_eq_of_lt (by omega) (by omega)] at h5
    omega

theorem take_ok7 {w0 w : World} {F : List Chunk} (hS : St w0 w F) {v : Value} {l : List Int} (hr : RdS w0 F 1 v l.length (rows encI l)) (p : Int) (h0 : 0 < l.length) (hb : l.length * 8 ≤ 140737488355328) :
    Ret Try.prog 7 #[v, .int .i64 p] w (fun v w' => ∃ (k : Nat) (x : Int) (v1 : Value) (C : Chunk), k < l.length ∧ (k : Int) = p % (l.length : Int) ∧ l[k]? = some x ∧ v = .tuple #[.int .i64 x, v1, .nilIface] ∧ Own 3 1 v1 (l.take k ++ l.drop (k + 1)).length (rows encI (l.take k ++ l.drop (k + 1))) C ∧ St w0 w' (C :: F)) := by
  obtain ⟨A, c, rfl, hmc, hcx⟩ := (hr w hS).open'
  obtain ⟨k, hk, hkp, hk1, hk2⟩ := turn_round p l.length h0
  obtain ⟨x, hx⟩ := get_ex (l := l) (k := k) hk
  refine enter (vs := [.slice A l.length c, .int .i64 p]) 32 Try.func7 rfl rfl (by simp) ?_; intro a hA
  refine wp_seq ?_
  refine wp_region_lit ?_
  refine st_run tbOk 3 hA (e' := (6, .nilIface) :: (5, .slice none 0 0) :: (4, .int .i64 0) :: _) rfl ?_; clear hA; intro a hA
  refine wpList_nil ?_
  replace hA := hA.sel [0, 1] (e' := [(0, .slice A l.length c), (1, .int .i64 p)]) rfl
  refine xt_norm ?_
  refine wp_seq ?_
  refine wp_seq ?_
  refine wp_region_lit ?_
  refine st_run tbOk 3 hA (e' := (10, .bool (((l.length : Nat) : Int) == 0)) :: (9, .int .i64 ((l.length : Nat) : Int)) :: (8, .slice A l.length c) :: _) rfl ?_; clear hA; intro a hA
  refine wpList_nil ?_
  replace hA := hA.sel [0, 1, 10] (e' := [(0, .slice A l.length c), (1, .int .i64 p), (10, .bool (((l.length : Nat) : Int) == 0))]) rfl
  refine xt_norm ?_
  have hc1 : ¬ (((l.length : Nat) : Int) = 0) := by omega
  replace hA := hA.rw 10 (v' := .bool false) rfl (vb_eq_f hc1)
  refine cd_cond_f hA rfl ?_
  refine wp_skip ?_
  refine xt_norm ?_
  refine wp_seq ?_
  refine wp_region_lit ?_
  refine st_run tbOk 3 hA (e' := (14, .int .i64 ((l.length : Nat) : Int)) :: (13, .slice A l.length c) :: (12, .int .i64 p) :: _) rfl ?_; clear hA; intro a hA
  refine st_val hA rfl rfl (by decide) (rn_rem hA rfl rfl rfl (by omega)) ?_; clear hA; intro a hA
  refine st_run tbOk 1 hA (e' := (7, .int .i64 (p.tmod ((l.length : Nat) : Int))) :: _) rfl ?_; clear hA; intro a hA
  refine wpList_nil ?_
  replace hA := hA.sel [0, 7] (e' := [(0, .slice A l.length c), (7, .int .i64 (p.tmod ((l.length : Nat) : Int)))]) rfl
  refine xt_norm ?_
  refine wp_seq ?_
  refine wp_seq ?_
  refine wp_region_lit ?_
  refine st_run tbOk 2 hA (e' := (17, .bool (decide (p.tmod ((l.length : Nat) : Int) < 0))) :: (16, .int .i64 (p.tmod ((l.length : Nat) : Int))) :: _) rfl ?_; clear hA; intro a hA
  refine wpList_nil ?_
  replace hA := hA.sel [0, 7, 17] (e' := [(0, .slice A l.length c), (7, .int .i64 (p.tmod ((l.length : Nat) : Int))), (17, .bool (decide (p.tmod ((l.length : Nat) : Int) < 0)))]) rfl
  refine xt_norm ?_
  by_cases hc2 : p.tmod ((l.length : Nat) : Int) < 0
  · first
    | (exfalso; omega)
    | (replace hA := hA.rw 17 (v' := .bool true) rfl (vb_true hc2)
       refine cd_cond_t hA rfl ?_
       refine wp_region_lit ?_
       refine st_run tbOk 4 hA (e' := (21, .int .i64 (IntKind.i64.wrap ((p.tmod ((l.length : Nat) : Int)) + ((l.length : Nat) : Int)))) :: (20, .int .i64 ((l.length : Nat) : Int)) :: (19, .slice A l.length c) :: (18, .int .i64 (p.tmod ((l.length : Nat) : Int))) :: _) rfl ?_; clear hA; intro a hA
       replace hA := hA.rw 21 (v' := .int .i64 ((p.tmod ((l.length : Nat) : Int)) + ((l.length : Nat) : Int))) rfl (wr64 (by omega) (by omega) (by omega))
       refine st_run tbOk 1 hA (e' := (7, .int .i64 ((p.tmod ((l.length : Nat) : Int)) + ((l.length : Nat) : Int))) :: _) rfl ?_; clear hA; intro a hA
       refine wpList_nil ?_
       replace hA := hA.sel [0, 7] (e' := [(0, .slice A l.length c), (7, .int .i64 ((p.tmod ((l.length : Nat) : Int)) + ((l.length : Nat) : Int)))]) rfl
       refine xt_norm ?_
       refine wp_seq ?_
       replace hA := hA.rw 7 (v' := .int .i64 ((k : Nat) : Int)) rfl (vint (hk1 (by omega)))
       refine wp_draw (fun w' => St w0 w' (F)) [] [(0, true), (1, true), (2, true), (3, true), (4, true), (6, true), (7, true), (8, true), (5, false), (9, false), (10, true), (11, true), (12, true)] mixed (by kernel_rfl) (by rintro c a w ⟨_, _, h, _⟩; cases h) (by rfl) (by kernel_rfl) ?_
       replace hS := hS.drew
       refine dr_run tbOk 2 hA hS (e' := (23, .int .i64 ((k : Nat) : Int)) :: (22, .slice A l.length c) :: _) rfl ?_; clear hA; intro a hA
       obtain ⟨b3, o4, rfl⟩ := (hr _ hS).isSome (k := k) (by omega)
       refine dr_y hA rfl rfl rfl (by decide) hS (fun w' hS' => rn_indexAddr tbOk hA k (o4 + k) rfl rfl rfl rfl rfl rfl (by rfl) (by omega) (by first | rfl | simp [Nat.mul_one, Nat.zero_add] | omega)) ?_; clear hA; intro a hA
       refine dr_y hA rfl rfl rfl (by decide) hS (fun w' hS' => rn_load tbOk hA rfl rfl rfl rfl ((hr _ hS').elem0 encI_ok hx rfl)) ?_; clear hA; intro a hA
       refine dr_run tbOk 4 hA hS (e' := (30, .int .i64 (IntKind.i64.wrap (((k : Nat) : Int) + 1))) :: (29, .int .i64 ((k : Nat) : Int)) :: (28, .int .i64 ((k : Nat) : Int)) :: (26, .slice (some ⟨b3, o4, none⟩) l.length c) :: _) rfl ?_; clear hA; intro a hA
       replace hA := hA.rw 30 (v' := .int .i64 ((k + 1 : Nat) : Int)) rfl (wr64 (by omega) (by omega) (by omega))
       refine dr_b (o := _) rfl ?_
       refine st_call0 hA rfl rfl rfl isfn11 rfl rfl (by decide) (clone11 hS (l := l) (fun w' h => (hr _ h)) (by omega)) ?_
       clear hA hS; rintro v5 w6 a ⟨C7, hO7, hS⟩ hA
       obtain ⟨A8, c9, rfl, hmc9, hxc9⟩ := hO7.open'
       refine dr_nil (.inr (hS.tail 1 rfl)) ?_
       refine dr_b (o := _) rfl ?_
       refine st_call0 hA rfl rfl rfl isfn12 rfl rfl (by decide) (delete12 hS hO7 k (k + 1) (by omega) (by omega)) ?_
       clear hA hS; rintro v10 w11 a ⟨C12, hO12, hS⟩ hA
       obtain ⟨A13, c14, rfl, hmc14, hxc14⟩ := hO12.open'
       refine dr_nil (.inr (hS.tail 1 rfl)) ?_
       refine dr_run tbOk 3 hA (hS.tail 1 rfl) (e' := (6, .nilIface) :: (5, .slice A13 ((l.take k ++ l.drop (k + 1)).length) c14) :: (4, .int .i64 x) :: _) rfl ?_; clear hA; intro a hA
       refine dr_end ?_
       replace hA := hA.sel [4, 5, 6] (e' := [(4, .int .i64 x), (5, .slice A13 ((l.take k ++ l.drop (k + 1)).length) c14), (6, .nilIface)]) rfl
       refine xt_norm ?_
       refine wp_ret ?_
       refine ret3 (fn := Try.f7) hA rfl rfl rfl rfl ?_
       exact ⟨k, x, _, C12, hk, hkp, hx, rfl, hO12, hS⟩)
  · first
    | (exfalso; omega)
    | (replace hA := hA.rw 17 (v' := .bool false) rfl (vb_false hc2)
       refine cd_cond_f hA rfl ?_
       refine wp_skip ?_
       refine xt_norm ?_
       refine wp_seq ?_
       replace hA := hA.rw 7 (v' := .int .i64 ((k : Nat) : Int)) rfl (vint (hk2 (by omega)))
       refine wp_draw (fun w' => St w0 w' (F)) [] [(0, true), (1, true), (2, true), (3, true), (4, true), (6, true), (7, true), (8, true), (5, false), (9, false), (10, true), (11, true), (12, true)] mixed (by kernel_rfl) (by rintro c a w ⟨_, _, h, _⟩; cases h) (by rfl) (by kernel_rfl) ?_
       replace hS := hS.drew
       refine dr_run tbOk 2 hA hS (e' := (23, .int .i64 ((k : Nat) : Int)) :: (22, .slice A l.length c) :: _) rfl ?_; clear hA; intro a hA
       obtain ⟨b15, o16, rfl⟩ := (hr _ hS).isSome (k := k) (by omega)
       refine dr_y hA rfl rfl rfl (by decide) hS (fun w' hS' => rn_indexAddr tbOk hA k (o16 + k) rfl rfl rfl rfl rfl rfl (by rfl) (by omega) (by first | rfl | simp [Nat.mul_one, Nat.zero_add] | omega)) ?_; clear hA; intro a hA
       refine dr_y hA rfl rfl rfl (by decide) hS (fun w' hS' => rn_load tbOk hA rfl rfl rfl rfl ((hr _ hS').elem0 encI_ok hx rfl)) ?_; clear hA; intro a hA
       refine dr_run tbOk 4 hA hS (e' := (30, .int .i64 (IntKind.i64.wrap (((k : Nat) : Int) + 1))) :: (29, .int .i64 ((k : Nat) : Int)) :: (28, .int .i64 ((k : Nat) : Int)) :: (26, .slice (some ⟨b15, o16, none⟩) l.length c) :: _) rfl ?_; clear hA; intro a hA
       replace hA := hA.rw 30 (v' := .int .i64 ((k + 1 : Nat) : Int)) rfl (wr64 (by omega) (by omega) (by omega))
       refine dr_b (o := _) rfl ?_
       refine st_call0 hA rfl rfl rfl isfn11 rfl rfl (by decide) (clone11 hS (l := l) (fun w' h => (hr _ h)) (by omega)) ?_
       clear hA hS; rintro v17 w18 a ⟨C19, hO19, hS⟩ hA
       obtain ⟨A20, c21, rfl, hmc21, hxc21⟩ := hO19.open'
       refine dr_nil (.inr (hS.tail 1 rfl)) ?_
       refine dr_b (o := _) rfl ?_
       refine st_call0 hA rfl rfl rfl isfn12 rfl rfl (by decide) (delete12 hS hO19 k (k + 1) (by omega) (by omega)) ?_
       clear hA hS; rintro v22 w23 a ⟨C24, hO24, hS⟩ hA
       obtain ⟨A25, c26, rfl, hmc26, hxc26⟩ := hO24.open'
       refine dr_nil (.inr (hS.tail 1 rfl)) ?_
       refine dr_run tbOk 3 hA (hS.tail 1 rfl) (e' := (6, .nilIface) :: (5, .slice A25 ((l.take k ++ l.drop (k + 1)).length) c26) :: (4, .int .i64 x) :: _) rfl ?_; clear hA; intro a hA
       refine dr_end ?_
       replace hA := hA.sel [4, 5, 6] (e' := [(4, .int .i64 x), (5, .slice A25 ((l.take k ++ l.drop (k + 1)).length) c26), (6, .nilIface)]) rfl
       refine xt_norm ?_
       refine wp_ret ?_
       refine ret3 (fn := Try.f7) hA rfl rfl rfl rfl ?_
       exact ⟨k, x, _, C24, hk, hkp, hx, rfl, hO24, hS⟩)

theorem take_none7 {w0 w : World} {F : List Chunk} (hS : St w0 w F) {v : Value} {l : List Int} (hr : RdS w0 F 1 v l.length (rows encI l)) (p : Int) (h0 : l.length = 0) :
    Ret Try.prog 7 #[v, .int .i64 p] w (fun v w' => v = .tuple #[.int .i64 0, .slice none 0 0, .iface 36 (.int .i64 12)] ∧ St w0 w' F) := by
  obtain ⟨A, c, rfl, hmc, hcx⟩ := (hr w hS).open'
  refine enter (vs := [.slice A l.length c, .int .i64 p]) 32 Try.func7 rfl rfl (by simp) ?_; intro a hA
  refine wp_seq ?_
  refine wp_region_lit ?_
  refine st_run tbOk 3 hA (e' := (6, .nilIface) :: (5, .slice none 0 0) :: (4, .int .i64 0) :: _) rfl ?_; clear hA; intro a hA
  refine wpList_nil ?_
  replace hA := hA.sel [0, 1] (e' := [(0, .slice A l.length c), (1, .int .i64 p)]) rfl
  refine xt_norm ?_
  refine wp_seq ?_
  refine wp_seq ?_
  refine wp_region_lit ?_
  refine st_run tbOk 3 hA (e' := (10, .bool (((l.length : Nat) : Int) == 0)) :: (9, .int .i64 ((l.length : Nat) : Int)) :: (8, .slice A l.length c) :: _) rfl ?_; clear hA; intro a hA
  refine wpList_nil ?_
  replace hA := hA.sel [0, 1, 10] (e' := [(0, .slice A l.length c), (1, .int .i64 p), (10, .bool (((l.length : Nat) : Int) == 0))]) rfl
  refine xt_norm ?_
  have hc1 : ((l.length : Nat) : Int) = 0 := by omega
  replace hA := hA.rw 10 (v' := .bool true) rfl (vb_eq_t hc1)
  refine cd_cond_t hA rfl ?_
  refine wp_seq ?_
  refine wp_region_lit ?_
  refine st_run tbOk 4 hA (e' := (6, .iface 36 (.int .i64 12)) :: (5, .slice none 0 0) :: (4, .int .i64 0) :: (11, .iface 36 (.int .i64 12)) :: _) rfl ?_; clear hA; intro a hA
  refine wpList_nil ?_
  replace hA := hA.sel [4, 5, 6] (e' := [(4, .int .i64 0), (5, .slice none 0 0), (6, .iface 36 (.int .i64 12))]) rfl
  refine xt_norm ?_
  refine wp_ret (xt_ret ?_)
  refine ret3 (fn := Try.f7) hA rfl rfl rfl rfl ?_
  exact ⟨rfl, hS⟩

theorem same_len {xs ys : List Int} (h : xs.length ≠ ys.length) : ¬ xs = ys := fun e => h (by rw [e])
theorem same_ne {xs ys : List Int} {k : Nat} {x y : Int} (hx : xs[k]? = some x) (hy : ys[k]? = some y) (h : ¬ x = y) : ¬ xs = ys := fun e => by
  subst e; rw [hx] at hy; injection hy with hy; exact h hy
theorem same_all {xs ys : List Int} (h : xs.length = ys.length) (ha : ∀ (i : Nat), i < xs.length → xs[i]? = ys[i]?) : xs = ys := by
  apply List.ext_getElem? 
  intro i
  by_cases hi : i < xs.length
  · exact ha i hi
  · rw [List.getElem?_eq_none (by omega), List.getElem?_eq_none (by omega)]
theorem same8 {w0 w : World} {F : List Chunk} (hS : St w0 w F) {va vb : Value} {xs ys : List Int} (ha : RdS w0 F 1 va xs.length (rows encI xs)) (hb : RdS w0 F 1 vb ys.length (rows encI ys)) :
    Ret Try.prog 8 #[va, vb] w (fun v w' => v = .bool (decide (xs = ys)) ∧ St w0 w' F) := by
  obtain ⟨A1, c1, rfl, hm1, hx1⟩ := (ha w hS).open'
  obtain ⟨A2, c2, rfl, hm2, hx2⟩ := (hb w hS).open'
  refine enter (vs := [.slice A1 xs.length c1, .slice A2 ys.length c2]) 26 Try.func8 rfl rfl (by simp) ?_; intro a hA
  refine wp_seq ?_
  refine wp_region_lit ?_
  refine st_run tbOk 1 hA (e' := (4, .bool false) :: _) rfl ?_; clear hA; intro a hA
  refine wpList_nil ?_
  replace hA := hA.sel [0, 1] (e' := [(0, .slice A1 xs.length c1), (1, .slice A2 ys.length c2)]) rfl
  refine xt_norm ?_
  refine wp_seq ?_
  refine wp_seq ?_
  refine wp_region_lit ?_
  refine st_run tbOk 5 hA (e' := (10, .bool (((xs.length : Nat) : Int) != ((ys.length : Nat) : Int))) :: (9, .int .i64 ((ys.length : Nat) : Int)) :: (8, .slice A2 ys.length c2) :: (7, .int .i64 ((xs.length : Nat) : Int)) :: (6, .slice A1 xs.length c1) :: _) rfl ?_; clear hA; intro a hA
  refine wpList_nil ?_
  replace hA := hA.sel [0, 1, 10] (e' := [(0, .slice A1 xs.length c1), (1, .slice A2 ys.length c2), (10, .bool (((xs.length : Nat) : Int) != ((ys.length : Nat) : Int)))]) rfl
  refine xt_norm ?_
  by_cases hc1 : ((xs.length : Nat) : Int) = ((ys.length : Nat) : Int)
  · first
    | (exfalso; omega)
    | (replace hA := hA.rw 10 (v' := .bool false) rfl (vb_ne_f hc1)
       refine cd_cond_f hA rfl ?_
       refine wp_skip ?_
       refine xt_norm ?_
       refine wp_seq ?_
       refine wp_seq ?_
       refine wp_region_lit ?_
       refine st_run tbOk 3 hA (e' := (13, .int .i64 0) :: (12, .int .i64 ((xs.length : Nat) : Int)) :: (11, .slice A1 xs.length c1) :: _) rfl ?_; clear hA; intro a hA
       refine wpList_nil ?_
       replace hA := hA.sel [0, 1, 12, 13] (e' := [(0, .slice A1 xs.length c1), (1, .slice A2 ys.length c2), (12, .int .i64 ((xs.length : Nat) : Int)), (13, .int .i64 0)]) rfl
       refine xt_norm ?_
       refine wp_block ?_
       refine wp_loop_ghost (fun m a w => ∃ (k : Nat), m = xs.length - k ∧ Has a 26 [(0, .slice A1 xs.length c1), (1, .slice A2 ys.length c2), (12, .int .i64 ((xs.length : Nat) : Int)), (13, .int .i64 ((k : Nat) : Int))] ∧ St w0 w (F) ∧ k ≤ xs.length ∧ ∀ (i : Nat), i < k → xs[i]? = ys[i]?) (xs.length - 0)
         ⟨0, rfl, (hA.sel [0, 1, 12, 13] rfl), hS, Nat.zero_le _, fun i hi => absurd hi (by omega)⟩ ?_
       clear hA hS; rintro m0 a w2 ⟨k, rfl, hA, hS, hk, hall⟩
       refine wp_seq ?_
       refine wp_region_lit ?_
       refine st_run tbOk 1 hA (e' := (14, .bool (decide (((k : Nat) : Int) < ((xs.length : Nat) : Int)))) :: _) rfl ?_; clear hA; intro a hA
       refine wpList_nil ?_
       refine xt_norm ?_
       refine wp_seq ?_
       by_cases hc3 : ((k : Nat) : Int) < ((xs.length : Nat) : Int)
       · first
         | (exfalso; omega)
         | (replace hA := hA.rw 14 (v' := .bool true) rfl (vb_true hc3)
            refine cd_cond_t hA rfl ?_
            refine wp_skip ?_
            refine xt_norm ?_
            refine wp_seq ?_
            refine wp_block ?_
            refine wp_seq ?_
            refine wp_region_lit ?_
            refine st_run tbOk 2 hA (e' := (5, .int .i64 ((k : Nat) : Int)) :: (15, .int .i64 ((k : Nat) : Int)) :: _) rfl ?_; clear hA; intro a hA
            refine wpList_nil ?_
            replace hA := hA.sel [0, 1, 5, 12, 13] (e' := [(0, .slice A1 xs.length c1), (1, .slice A2 ys.length c2), (5, .int .i64 ((k : Nat) : Int)), (12, .int .i64 ((xs.length : Nat) : Int)), (13, .int .i64 ((k : Nat) : Int))]) rfl
            refine xt_norm ?_
            refine wp_seq ?_
            refine wp_draw (fun w' => St w0 w' (F)) [] [(0, true), (1, true), (2, true), (3, true), (4, true), (5, true), (6, true), (7, true), (8, true)] mixed (by kernel_rfl) (by rintro c a w ⟨_, _, h, _⟩; cases h) (by rfl) (by kernel_rfl) ?_
            replace hS := hS.drew
            refine dr_run tbOk 2 hA hS (e' := (17, .int .i64 ((k : Nat) : Int)) :: (16, .slice A1 xs.length c1) :: _) rfl ?_; clear hA; intro a hA
            obtain ⟨b4, o5, rfl⟩ := (ha _ hS).isSome (k := k) (by omega)
            refine dr_y hA rfl rfl rfl (by decide) hS (fun w' hS' => rn_indexAddr tbOk hA k (o5 + k) rfl rfl rfl rfl rfl rfl (by rfl) (by omega) (by first | rfl | simp [Nat.mul_one, Nat.zero_add] | omega)) ?_; clear hA; intro a hA
            obtain ⟨x6, hx6⟩ := get_ex (l := xs) (k := k) (by omega)
            refine dr_y hA rfl rfl rfl (by decide) hS (fun w' hS' => rn_load tbOk hA rfl rfl rfl rfl ((ha _ hS').elem0 encI_ok hx6 rfl)) ?_; clear hA; intro a hA
            refine dr_run tbOk 2 hA hS (e' := (21, .int .i64 ((k : Nat) : Int)) :: (20, .slice A2 ys.length c2) :: _) rfl ?_; clear hA; intro a hA
            obtain ⟨b7, o8, rfl⟩ := (hb _ hS).isSome (k := k) (by omega)
            refine dr_y hA rfl rfl rfl (by decide) hS (fun w' hS' => rn_indexAddr tbOk hA k (o8 + k) rfl rfl rfl rfl rfl rfl (by rfl) (by omega) (by first | rfl | simp [Nat.mul_one, Nat.zero_add] | omega)) ?_; clear hA; intro a hA
            obtain ⟨x9, hx9⟩ := get_ex (l := ys) (k := k) (by omega)
            refine dr_y hA rfl rfl rfl (by decide) hS (fun w' hS' => rn_load tbOk hA rfl rfl rfl rfl ((hb _ hS').elem0 encI_ok hx9 rfl)) ?_; clear hA; intro a hA
            refine dr_run tbOk 1 hA hS (e' := (24, .bool (x6 != x9)) :: _) rfl ?_; clear hA; intro a hA
            refine dr_end ?_
            replace hA := hA.sel [0, 1, 12, 13, 24] (e' := [(0, .slice (some ⟨b4, o5, none⟩) xs.length c1), (1, .slice (some ⟨b7, o8, none⟩) ys.length c2), (12, .int .i64 ((xs.length : Nat) : Int)), (13, .int .i64 ((k : Nat) : Int)), (24, .bool (x6 != x9))]) rfl
            refine xt_norm ?_
            by_cases hc10 : x6 = x9
            · first
              | (exfalso; omega)
              | (replace hA := hA.rw 24 (v' := .bool false) rfl (vb_ne_f hc10)
                 refine cd_cond_f hA rfl ?_
                 refine wp_skip ?_
                 refine xb_norm ?_
                 refine xt_norm ?_
                 refine wp_region_lit ?_
                 refine st_run tbOk 1 hA (e' := (25, .int .i64 (IntKind.i64.wrap (((k : Nat) : Int) + 1))) :: _) rfl ?_; clear hA; intro a hA
                 replace hA := hA.rw 25 (v' := .int .i64 ((k + 1 : Nat) : Int)) rfl (wr64 (by omega) (by omega) (by omega))
                 refine st_run tbOk 1 hA (e' := (13, .int .i64 ((k + 1 : Nat) : Int)) :: _) rfl ?_; clear hA; intro a hA
                 refine wpList_nil ?_
                 replace hA := hA.sel [0, 1, 12, 13] (e' := [(0, .slice (some ⟨b4, o5, none⟩) xs.length c1), (1, .slice (some ⟨b7, o8, none⟩) ys.length c2), (12, .int .i64 ((xs.length : Nat) : Int)), (13, .int .i64 ((k + 1 : Nat) : Int))]) rfl
                 exact lp_next _ (by omega) ⟨(k + 1), rfl, (hA.sel [0, 1, 12, 13] rfl), hS, by omega, fun i hi => (Nat.lt_succ_iff_lt_or_eq.1 hi).elim (fun h => hall i h) (fun h => by subst h; rw [hx6, hx9]; exact congrArg some (by omega))⟩)
            · first
              | (exfalso; omega)
              | (replace hA := hA.rw 24 (v' := .bool true) rfl (vb_ne_t hc10)
                 refine cd_cond_t hA rfl ?_
                 refine wp_seq ?_
                 refine wp_region_lit ?_
                 refine st_run tbOk 1 hA (e' := (4, .bool false) :: _) rfl ?_; clear hA; intro a hA
                 refine wpList_nil ?_
                 replace hA := hA.sel [4] (e' := [(4, .bool false)]) rfl
                 refine xt_norm ?_
                 refine wp_ret (xb_ret (xt_ret (xt_ret (xb_ret (xt_ret ?_)))))
                 refine ret1 (fn := Try.f8) hA rfl rfl ?_
                 refine ⟨?_, hS⟩
                 rw [decide_eq_false]; exact same_ne hx6 hx9 (by omega)))
       · first
         | (exfalso; omega)
         | (replace hA := hA.rw 14 (v' := .bool false) rfl (vb_false hc3)
            refine cd_cond_f hA rfl ?_
            refine wp_exit ?_
            refine xt_exit ?_
            refine xt_exit ?_
            refine cd_exit_eq ?_
            refine xt_norm ?_
            refine wp_seq ?_
            refine wp_region_lit ?_
            refine st_run tbOk 1 hA (e' := (4, .bool true) :: _) rfl ?_; clear hA; intro a hA
            refine wpList_nil ?_
            replace hA := hA.sel [4] (e' := [(4, .bool true)]) rfl
            refine xt_norm ?_
            refine wp_ret ?_
            refine ret1 (fn := Try.f8) hA rfl rfl ?_
            refine ⟨?_, hS⟩
            rw [decide_eq_true]; exact same_all (by omega) (fun i hi => hall i (by omega))))
  · first
    | (exfalso; omega)
    | (replace hA := hA.rw 10 (v' := .bool true) rfl (vb_ne_t hc1)
       refine cd_cond_t hA rfl ?_
       refine wp_seq ?_
       refine wp_region_lit ?_
       refine st_run tbOk 1 hA (e' := (4, .bool false) :: _) rfl ?_; clear hA; intro a hA
       refine wpList_nil ?_
       replace hA := hA.sel [4] (e' := [(4, .bool false)]) rfl
       refine xt_norm ?_
       refine wp_ret (xt_ret ?_)
       refine ret1 (fn := Try.f8) hA rfl rfl ?_
       refine ⟨?_, hS⟩
       rw [decide_eq_false]; exact same_len (by omega))

theorem dropc14 {w0 w : World} {F : List Chunk} (hS : St w0 w F) {b : Nat} {id : Int} (hc : ∀ w', St w0 w' F → w'.cell? ⟨b, 0, none⟩ = some (.int .i64 id)) (x : Int) :
    Ret Try.prog 14 #[.int .i64 x, .pointer (some ⟨b, 0, none⟩)] w (fun v w' => v = .bool (x == id) ∧ St w0 w' F) := by
  refine enter (vs := [.int .i64 x, .pointer (some ⟨b, 0, none⟩)]) 7 Try.func14 rfl rfl (by simp) ?_; intro a hA
  refine wp_seq ?_
  refine wp_region_lit ?_
  refine st_run tbOk 1 hA (e' := (3, .bool false) :: _) rfl ?_; clear hA; intro a hA
  refine wpList_nil ?_
  replace hA := hA.sel [0, 1] (e' := [(0, .int .i64 x), (1, .pointer (some ⟨b, 0, none⟩))]) rfl
  refine xt_norm ?_
  refine wp_seq ?_
  refine wp_region_lit ?_
  refine st_run tbOk 1 hA (e' := (4, .int .i64 x) :: _) rfl ?_; clear hA; intro a hA
  refine st_val hA rfl rfl (by decide) (rn_load tbOk hA rfl rfl rfl rfl (hc _ hS)) ?_; clear hA; intro a hA
  refine st_run tbOk 2 hA (e' := (3, .bool (x == id)) :: (6, .bool (x == id)) :: _) rfl ?_; clear hA; intro a hA
  refine wpList_nil ?_
  replace hA := hA.sel [3] (e' := [(3, .bool (x == id))]) rfl
  refine xt_norm ?_
  refine wp_ret ?_
  refine ret1 (fn := Try.f14) hA rfl rfl ?_
  exact ⟨rfl, hS⟩
theorem droppred {w0 : World} {F : List Chunk} {b : Nat} {id : Int} (hc : ∀ w, St w0 w F → w.cell? ⟨b, 0, none⟩ = some (.int .i64 id)) : Pred Try.prog w0 F 14 #[] #[.pointer (some ⟨b, 0, none⟩)] (fun x => .int .i64 x) (fun x => x == id) := by
  intro w x hS
  exact dropc14 (St.refl w) (fun w' h => h.old (hc w hS)) x

theorem drop9 {w0 w : World} {F : List Chunk} (hS : St w0 w F) {v : Value} {l : List Int} (hr : RdS w0 F 1 v l.length (rows encI l)) (id : Int) (hb : l.length * 8 ≤ 140737488355328) :
    Ret Try.prog 9 #[v, .int .i64 id] w (fun v w' => ∃ C, Own 3 1 v (l.filter (fun x => !(x == id))).length (rows encI (l.filter (fun x => !(x == id)))) C ∧ St w0 w' (C :: F)) := by
  obtain ⟨A, c, rfl, hmc, hcx⟩ := (hr w hS).open'
  refine enter (vs := [.slice A l.length c, .int .i64 id]) 9 Try.func9 rfl rfl (by simp) ?_; intro a hA
  refine wp_seq ?_
  refine wp_region_lit ?_
  refine st_box hA hS [.int .i64 id] rfl rfl rfl rfl rfl (by decide) ?_; clear hA hS; intro b1 w2 a hS hA
  refine st_run tbOk 1 hA (e' := (4, .slice none 0 0) :: _) rfl ?_; clear hA; intro a hA
  refine wpList_nil ?_
  replace hA := hA.sel [0, 3] (e' := [(0, .slice A l.length c), (3, .pointer (some ⟨b1, 0, none⟩))]) rfl
  refine xt_norm ?_
  refine wp_seq ?_
  refine wp_region_lit ?_
  refine st_run tbOk 1 hA (e' := (5, .slice A l.length c) :: _) rfl ?_; clear hA; intro a hA
  refine st_call0 hA rfl rfl rfl isfn11 rfl rfl (by decide) (clone11 hS (l := l) (fun w' h => (hr _ (h.tail 1 rfl))) (by omega)) ?_
  clear hA hS; rintro v3 w4 a ⟨C5, hO5, hS⟩ hA
  obtain ⟨A6, c7, rfl, hmc7, hxc7⟩ := hO5.open'
  refine st_run tbOk 1 hA (e' := (7, .func (.func 14) #[] #[.pointer (some ⟨b1, 0, none⟩)]) :: _) rfl ?_; clear hA; intro a hA
  refine st_call0 hA rfl rfl rfl isfn13 rfl rfl (by decide) (deleteFunc13 hS hO5 isfn14 (droppred (b := b1) (fun w' h => cell_row (h.heapAt 0 rfl) rfl))) ?_
  clear hA hS; rintro v8 w9 a ⟨C10, hO10, hS⟩ hA
  obtain ⟨A11, c12, rfl, hmc12, hxc12⟩ := hO10.open'
  refine st_run tbOk 1 hA (e' := (4, .slice A11 ((l.filter (fun x => !(x == id))).length) c12) :: _) rfl ?_; clear hA; intro a hA
  refine wpList_nil ?_
  replace hA := hA.sel [4] (e' := [(4, .slice A11 ((l.filter (fun x => !(x == id))).length) c12)]) rfl
  refine xt_norm ?_
  refine wp_ret ?_
  refine ret1 (fn := Try.f9) hA rfl rfl ?_
  replace hS := hS.drop2
  exact ⟨C10, hO10, hS⟩

theorem awake5 {w0 w : World} {F : List Chunk} (hS : St w0 w F) :
    Ret Try.prog 5 #[] w (fun v w' => v = .bool true ∧ St w0 w' F) := by
  refine enter (vs := []) 38 Try.func5 rfl rfl (by simp) ?_; intro a hA
  refine wp_seq ?_
  refine wp_region_lit ?_
  refine st_run tbOk 1 hA (e' := (0, .bool false) :: _) rfl ?_; clear hA; intro a hA
  refine wpList_nil ?_
  replace hA := hA.sel [] (e' := []) rfl
  refine xt_norm ?_
  refine wp_seq ?_
  refine wp_region_lit ?_
  refine st_buildSlice tbOk hA hS [.int .i64 4, .int .i64 5, .int .i64 6] rfl rfl rfl rfl rfl (by decide) (by kernel_rfl) rfl rfl (by decide) ?_; clear hA hS; intro b1 w2 a hS hA
  refine st_call0 hA rfl rfl rfl isfn7 rfl rfl (by decide) (take_ok7 hS (l := ([4, 5, 6] : List Int)) (RdS.own (Own.full (T := 3) (size := 1) (g := b1) (m := 3) rfl (by decide)) 0 rfl) 4 (by decide) (by decide)) ?_
  clear hA hS; rintro _ w4 a ⟨k, x, v3, C5, hk, hkp, hx, rfl, hO5, hS⟩ hA
  obtain rfl : k = 1 := by simp at hkp; omega
  obtain rfl : 5 = x := by simpa using hx
  replace hO5 : Own 3 1 v3 ([4, 6] : List Int).length (rows encI ([4, 6] : List Int)) C5 := hO5
  obtain ⟨A6, c7, rfl, hmc7, hxc7⟩ := hO5.open'
  refine st_run tbOk 7 hA (e' := (3, .nilIface) :: (2, .slice A6 (([4, 6] : List Int).length) c7) :: (1, .int .i64 5) :: (12, .nilIface) :: (11, .slice A6 (([4, 6] : List Int).length) c7) :: (10, .int .i64 5) :: (7, .tuple #[.int .i64 5, .slice A6 (([4, 6] : List Int).length) c7, .nilIface]) :: _) rfl ?_; clear hA; intro a hA
  refine wpList_nil ?_
  replace hA := hA.sel [1, 2, 3] (e' := [(1, .int .i64 5), (2, .slice A6 (([4, 6] : List Int).length) c7), (3, .nilIface)]) rfl
  refine xt_norm ?_
  refine wp_seq ?_
  refine wp_region_lit ?_
  refine st_buildSlice tbOk hA hS [.int .i64 4, .int .i64 5, .int .i64 6] rfl rfl rfl rfl rfl (by decide) (by kernel_rfl) rfl rfl (by decide) ?_; clear hA hS; intro b8 w9 a hS hA
  refine st_call0 hA rfl rfl rfl isfn7 rfl rfl (by decide) (take_ok7 hS (l := ([4, 5, 6] : List Int)) (RdS.own (Own.full (T := 3) (size := 1) (g := b8) (m := 3) rfl (by decide)) 0 rfl) (-1) (by decide) (by decide)) ?_
  clear hA hS; rintro _ w11 a ⟨k, x, v10, C12, hk, hkp, hx, rfl, hO12, hS⟩ hA
  obtain rfl : k = 2 := by simp at hkp; omega
  obtain rfl : 6 = x := by simpa using hx
  replace hO12 : Own 3 1 v10 ([4, 5] : List Int).length (rows encI ([4, 5] : List Int)) C12 := hO12
  obtain ⟨A13, c14, rfl, hmc14, hxc14⟩ := hO12.open'
  refine st_run tbOk 7 hA (e' := (6, .nilIface) :: (5, .slice A13 (([4, 5] : List Int).length) c14) :: (4, .int .i64 6) :: (18, .nilIface) :: (17, .slice A13 (([4, 5] : List Int).length) c14) :: (16, .int .i64 6) :: (13, .tuple #[.int .i64 6, .slice A13 (([4, 5] : List Int).length) c14, .nilIface]) :: _) rfl ?_; clear hA; intro a hA
  refine wpList_nil ?_
  replace hA := hA.sel [1, 2, 3, 4, 6] (e' := [(1, .int .i64 5), (2, .slice A6 (([4, 6] : List Int).length) c7), (3, .nilIface), (4, .int .i64 6), (6, .nilIface)]) rfl
  refine xt_norm ?_
  refine wp_seq ?_
  refine wp_region_lit ?_
  refine st_run tbOk 16 hA (e' := (34, .slice A6 (([4, 6] : List Int).length) c7) :: (33, .bool true) :: (32, .bool true) :: (31, .bool true) :: (30, .nilIface) :: (29, .bool true) :: (28, .bool true) :: (27, .bool true) :: (26, .nilIface) :: (25, .bool true) :: (24, .bool true) :: (23, .bool true) :: (22, .int .i64 6) :: (21, .bool true) :: (20, .bool true) :: (19, .int .i64 5) :: _) rfl ?_; clear hA; intro a hA
  refine st_buildSlice tbOk hA hS [.int .i64 4, .int .i64 6] rfl rfl rfl rfl rfl (by decide) (by kernel_rfl) rfl rfl (by decide) ?_; clear hA hS; intro b15 w16 a hS hA
  refine st_call0 hA rfl rfl rfl isfn8 rfl rfl (by decide) (same8 hS (xs := ([4, 6] : List Int)) (ys := ([4, 6] : List Int)) (RdS.own hO5 3 rfl) (RdS.own (Own.full (T := 3) (size := 1) (g := b15) (m := 2) rfl (by decide)) 0 rfl)) ?_
  clear hA hS; rintro v w17 a ⟨rfl, hS⟩ hA
  replace hA := hA.rw 36 (v' := .bool true) rfl (by rfl)
  refine st_run tbOk 2 hA (e' := (0, .bool true) :: (37, .bool true) :: _) rfl ?_; clear hA; intro a hA
  refine wpList_nil ?_
  replace hA := hA.sel [0] (e' := [(0, .bool true)]) rfl
  refine xt_norm ?_
  refine wp_ret ?_
  refine ret1 (fn := Try.f5) hA rfl rfl ?_
  replace hS := hS.drop1
  replace hS := hS.drop1
  replace hS := hS.drop1
  replace hS := hS.drop1
  replace hS := hS.drop1
  exact ⟨rfl, hS⟩

def sev (n : Nat) : List Int := (List.range n).map (fun i => ((7 * i : Nat) : Int))
theorem sev_len (n : Nat) : (sev n).length = n := by simp [sev]
theorem sev_succ (n : Nat) : sev (n + 1) = sev n ++ [((7 * n : Nat) : Int)] := by simp [sev, List.range_succ]
theorem sev_not (n : Nat) : (sev n).any (fun y => y == ((7 * n : Nat) : Int)) = false := by
  rw [List.any_eq_false]; intro y hy
  simp only [sev, List.mem_map, List.mem_range] at hy
  obtain ⟨i, hi, rfl⟩ := hy
  simp only [beq_iff_eq]; omega
theorem sev_get {n k : Nat} (h : k < n) : (sev n)[k]? = some (((7 * k : Nat) : Int)) := by simp [sev, h]
def turned (m k : Nat) : List Int := (sev m).drop k ++ (sev m).take k
theorem turned_len {m k : Nat} (h : k ≤ m) : (turned m k).length = m := by simp [turned, sev_len]; omega
theorem turned_head {m k : Nat} (h : k < m) : (turned m k)[0]? = some (((7 * k : Nat) : Int)) := by
  rw [turned, List.getElem?_append_left (by simp [sev_len]; omega), List.getElem?_drop]; simpa using sev_get h
theorem turned_rest {m k : Nat} (h : k < m) : (turned m k).drop 1 = (sev m).drop (k + 1) ++ (sev m).take k := by
  rw [turned, List.drop_append_of_le_length (by simp [sev_len]; omega), List.drop_drop]
theorem turned_succ {m k : Nat} (h : k < m) : (sev m).drop (k + 1) ++ (sev m).take k ++ [(((7 * k : Nat) : Int))] = turned m (k + 1) := by
  rw [turned, List.append_assoc]; congr 1
  rw [List.take_add_one, sev_get h]; rfl
theorem rest_not {m k : Nat} (h : k < m) : ((sev m).drop (k + 1) ++ (sev m).take k).any (fun y => y == ((7 * k : Nat) : Int)) = false := by
  rw [List.any_eq_false]; intro y hy
  simp only [beq_iff_eq]
  rw [List.mem_append] at hy
  rcases hy with hy | hy
  · obtain ⟨i, hi⟩ := List.mem_iff_getElem?.1 hy
    rw [List.getElem?_drop] at hi
    have := (List.getElem?_eq_some_iff.1 hi).1; rw [sev_len] at this
    rw [sev_get this] at hi; injection hi with hi; omega
  · obtain ⟨i, hi⟩ := List.mem_iff_getElem?.1 hy
    rw [List.getElem?_take] at hi
    split at hi
    · rw [sev_get (by omega)] at hi; injection hi with hi; omega
    · cases hi
theorem turned_all (m : Nat) : turned m m = sev m := by
  rw [turned, List.drop_eq_nil_of_le (by rw [sev_len]; exact Nat.le_refl _), List.take_of_length_le (by rw [sev_len]; exact Nat.le_refl _), List.nil_append]
theorem turned_zero (m : Nat) : turned m 0 = sev m := by simp [turned]
theorem turns3 {w0 w : World} {F : List Chunk} (hS : St w0 w F) (n : Int) (hn : 0 ≤ n) (hn2 : n < 256) :
    Ret Try.prog 3 #[.int .u8 n] w (fun v w' => v = .bool true ∧ St w0 w' F) := by
  refine enter (vs := [.int .u8 n]) 62 Try.func3 rfl rfl (by simp) ?_; intro a hA
  have hn1 := Int.emod_nonneg n (b := 64) (by decide)
  have hn2 := Int.emod_lt_of_pos n (b := 64) (by decide)
  have hn3 : n.tmod 64 = n % 64 := Int.tmod_eq_emod_of_nonneg hn
  obtain ⟨t, ht⟩ : ∃ t : Nat, t = (n % 64).toNat + 1 := ⟨_, rfl⟩
  refine wp_seq ?_
  refine wp_region_lit ?_
  refine st_run tbOk 1 hA (e' := (2, .bool false) :: _) rfl ?_; clear hA; intro a hA
  refine wpList_nil ?_
  replace hA := hA.sel [0] (e' := [(0, .int .u8 n)]) rfl
  refine xt_norm ?_
  refine wp_seq ?_
  refine wp_seq ?_
  refine wp_region_lit ?_
  refine st_call0 hA rfl rfl rfl isfn5 rfl rfl (by decide) (awake5 hS) ?_
  clear hA hS; rintro v w1 a ⟨rfl, hS⟩ hA
  refine st_run tbOk 1 hA (e' := (11, .bool false) :: _) rfl ?_; clear hA; intro a hA
  refine wpList_nil ?_
  replace hA := hA.sel [0, 11] (e' := [(0, .int .u8 n), (11, .bool false)]) rfl
  refine xt_norm ?_
  refine cd_cond_f hA rfl ?_
  refine wp_skip ?_
  refine xt_norm ?_
  refine wp_seq ?_
  refine wp_region_lit ?_
  refine st_run tbOk 1 hA (e' := (3, .slice none 0 0) :: _) rfl ?_; clear hA; intro a hA
  refine wpList_nil ?_
  replace hA := hA.sel [0, 3] (e' := [(0, .int .u8 n), (3, .slice none 0 0)]) rfl
  refine xt_norm ?_
  refine wp_seq ?_
  refine wp_seq ?_
  refine wp_region_lit ?_
  refine st_run tbOk 1 hA (e' := (4, .int .i64 0) :: _) rfl ?_; clear hA; intro a hA
  refine wpList_nil ?_
  refine xt_norm ?_
  refine wp_block ?_
  replace hS := hS.nil
  refine wp_loop_ghost (fun m a w => ∃ (k : Nat) (A : Option Addr) (c : Nat) (C : Chunk), m = t - k ∧ Has a 62 [(0, .int .u8 n), (3, .slice A ((sev k).length) c), (4, .int .i64 ((k : Nat) : Int))] ∧ St w0 w (C :: F) ∧ k ≤ t ∧ Own 3 1 (.slice A (sev k).length c) (sev k).length (rows encI (sev k)) C) (t - 0)
    ⟨0, none, 0, ([]), rfl, (hA.sel [0, 3, 4] rfl), hS, Nat.zero_le _, (Own.nil 3 1)⟩ ?_
  clear hA hS; rintro m0 a w2 ⟨k, A, c, C, rfl, hA, hS, hk, hO⟩
  have hsl := sev_len k
  refine wp_seq ?_
  refine wp_seq ?_
  refine wp_region_lit ?_
  refine st_run tbOk 3 hA (e' := (14, .int .u8 (n.tmod 64)) :: (13, .int .u8 n) :: (12, .int .i64 ((k : Nat) : Int)) :: _) rfl ?_; clear hA; intro a hA
  refine st_run tbOk 1 hA (e' := (15, .int .i64 (IntKind.i64.wrap (n.tmod 64))) :: _) rfl ?_; clear hA; intro a hA
  replace hA := hA.rw 15 (v' := .int .i64 (n.tmod 64)) rfl (wr64 (by rfl) (by omega) (by omega))
  refine st_run tbOk 1 hA (e' := (16, .int .i64 (IntKind.i64.wrap ((n.tmod 64) + 1))) :: _) rfl ?_; clear hA; intro a hA
  replace hA := hA.rw 16 (v' := .int .i64 ((n.tmod 64) + 1)) rfl (wr64 (by omega) (by omega) (by omega))
  refine st_run tbOk 1 hA (e' := (17, .bool (decide (((k : Nat) : Int) < (n.tmod 64) + 1))) :: _) rfl ?_; clear hA; intro a hA
  refine wpList_nil ?_
  replace hA := hA.sel [0, 3, 4, 17] (e' := [(0, .int .u8 n), (3, .slice A ((sev k).length) c), (4, .int .i64 ((k : Nat) : Int)), (17, .bool (decide (((k : Nat) : Int) < (n.tmod 64) + 1)))]) rfl
  refine xt_norm ?_
  by_cases hc3 : ((k : Nat) : Int) < (n.tmod 64) + 1
  · first
    | (exfalso; omega)
    | (replace hA := hA.rw 17 (v' := .bool true) rfl (vb_true hc3)
       refine cd_cond_t hA rfl ?_
       refine wp_skip ?_
       refine xt_norm ?_
       refine wp_seq ?_
       refine wp_block ?_
       refine wp_region_lit ?_
       refine st_run tbOk 3 hA (e' := (23, .int .i64 (IntKind.i64.wrap (7 * ((k : Nat) : Int)))) :: (22, .int .i64 ((k : Nat) : Int)) :: (21, .slice A ((sev k).length) c) :: _) rfl ?_; clear hA; intro a hA
       replace hA := hA.rw 23 (v' := .int .i64 ((7 * k : Nat) : Int)) rfl (wr64 (by omega) (by omega) (by omega))
       refine st_call0 hA rfl rfl rfl isfn6 rfl rfl (by decide) (push_ok6 hS (l := sev k) (RdS.own hO 0 rfl) ((7 * k : Nat) : Int) (sev_not k) (by rw [sev_len]; omega)) ?_
       clear hA hS; rintro _ w5 a ⟨v4, C6, rfl, hO6, hS⟩ hA
       obtain ⟨A7, c8, rfl, hmc8, hxc8⟩ := hO6.open'
       have hl : (sev k) ++ [((7 * k : Nat) : Int)] = sev (k + 1) := (sev_succ k).symm
       rw [hl] at hO6; rw [hl] at hA
       refine st_run tbOk 4 hA (e' := (3, .slice A7 ((sev (k + 1)).length) c8) :: (26, .nilIface) :: (25, .slice A7 ((sev (k + 1)).length) c8) :: (20, .tuple #[.slice A7 ((sev (k + 1)).length) c8, .nilIface]) :: _) rfl ?_; clear hA; intro a hA
       refine wpList_nil ?_
       replace hA := hA.sel [0, 3, 4] (e' := [(0, .int .u8 n), (3, .slice A7 ((sev (k + 1)).length) c8), (4, .int .i64 ((k : Nat) : Int))]) rfl
       refine xb_norm ?_
       refine xt_norm ?_
       refine wp_region_lit ?_
       refine st_run tbOk 2 hA (e' := (19, .int .i64 (IntKind.i64.wrap (((k : Nat) : Int) + 1))) :: (18, .int .i64 ((k : Nat) : Int)) :: _) rfl ?_; clear hA; intro a hA
       replace hA := hA.rw 19 (v' := .int .i64 ((k + 1 : Nat) : Int)) rfl (wr64 (by omega) (by omega) (by omega))
       refine st_run tbOk 1 hA (e' := (4, .int .i64 ((k + 1 : Nat) : Int)) :: _) rfl ?_; clear hA; intro a hA
       refine wpList_nil ?_
       replace hA := hA.sel [0, 3, 4] (e' := [(0, .int .u8 n), (3, .slice A7 ((sev (k + 1)).length) c8), (4, .int .i64 ((k + 1 : Nat) : Int))]) rfl
       replace hS := hS.drop2
       exact lp_next _ (by omega) ⟨(k + 1), A7, c8, C6, rfl, (hA.sel [0, 3, 4] rfl), hS, by omega, hO6⟩)
  · first
    | (exfalso; omega)
    | (replace hA := hA.rw 17 (v' := .bool false) rfl (vb_false hc3)
       refine cd_cond_f hA rfl ?_
       refine wp_exit ?_
       refine xt_exit ?_
       refine xt_exit ?_
       refine cd_exit_eq ?_
       refine xt_norm ?_
       refine wp_seq ?_
       refine wp_region_lit ?_
       refine st_run tbOk 1 hA (e' := (27, .slice A ((sev k).length) c) :: _) rfl ?_; clear hA; intro a hA
       replace hS := hS.nil
       refine st_append2 tbOk hA (m := 0) (q := (sev k).length) (xs := rows encI ([] : List Int)) (news := rows encI (sev k)) rfl rfl rfl rfl rfl rfl rfl rfl rfl rfl (by decide) (Own.nil 3 1) hS (hO.rd (hS.own_ 1 rfl)) (rows_one encI_ok _) (maxLen_le (by first | omega | (simp only [sev_len]; omega))) (by show (0 + (sev k).length) * 8 ≤ 140737488355328; first | omega | (simp only [sev_len]; omega)) rfl rfl (by decide) ?_
       clear hA hS; intro v9 w10 C11 a hO11 hS hA
       replace hO11 := Own.app (l := ([] : List Int)) (l2 := sev k) hO11
       obtain ⟨A12, c13, rfl, hmc13, hxc13⟩ := hO11.open'
       replace hO11 : Own 3 1 (.slice A12 (sev k).length c13) (sev k).length (rows encI (sev k)) C11 := hO11
       replace hA := hA.rw 28 (v' := .slice A12 ((sev k).length) c13) rfl rfl
       refine st_run tbOk 1 hA (e' := (5, .slice A12 ((sev k).length) c13) :: _) rfl ?_; clear hA; intro a hA
       refine wpList_nil ?_
       replace hA := hA.sel [3, 5] (e' := [(3, .slice A ((sev k).length) c), (5, .slice A12 ((sev k).length) c13)]) rfl
       refine xt_norm ?_
       refine wp_seq ?_
       refine wp_seq ?_
       refine wp_region_lit ?_
       refine st_run tbOk 3 hA (e' := (31, .int .i64 0) :: (30, .int .i64 (((sev k).length : Nat) : Int)) :: (29, .slice A12 ((sev k).length) c13) :: _) rfl ?_; clear hA; intro a hA
       refine wpList_nil ?_
       replace hA := hA.sel [3, 5, 30, 31] (e' := [(3, .slice A ((sev k).length) c), (5, .slice A12 ((sev k).length) c13), (30, .int .i64 (((sev k).length : Nat) : Int)), (31, .int .i64 0)]) rfl
       refine xt_norm ?_
       refine wp_block ?_
       obtain rfl : k = t := by omega
       replace hS := hS.front 1 (C := C) (L' := C11 :: F) rfl rfl
       replace hA := hA.rw 3 (v' := .slice A ((turned k 0).length) c) rfl (by rw [turned_zero])
       rw [← turned_zero k] at hO
       refine wp_loop_ghost (fun m a w => ∃ (j : Nat) (A2 : Option Addr) (c2 : Nat) (C2 : Chunk), m = k - j ∧ Has a 62 [(3, .slice A2 ((turned k j).length) c2), (5, .slice A12 ((sev k).length) c13), (30, .int .i64 (((sev k).length : Nat) : Int)), (31, .int .i64 ((j : Nat) : Int))] ∧ St w0 w (C2 :: C11 :: F) ∧ j ≤ k ∧ Own 3 1 (.slice A2 (turned k j).length c2) (turned k j).length (rows encI (turned k j)) C2) (k - 0)
         ⟨0, A, c, C, rfl, (hA.sel [3, 5, 30, 31] rfl), hS, Nat.zero_le _, hO⟩ ?_
       clear hA hS; rintro m0 a w14 ⟨j, A2, c2, C2, rfl, hA, hS, hj, hP⟩
       have hsl := sev_len k
       have htl := turned_len hj
       refine wp_seq ?_
       refine wp_region_lit ?_
       refine st_run tbOk 1 hA (e' := (32, .bool (decide (((j : Nat) : Int) < (((sev k).length : Nat) : Int)))) :: _) rfl ?_; clear hA; intro a hA
       refine wpList_nil ?_
       refine xt_norm ?_
       refine wp_seq ?_
       by_cases hc15 : ((j : Nat) : Int) < (((sev k).length : Nat) : Int)
       · first
         | (exfalso; omega)
         | (replace hA := hA.rw 32 (v' := .bool true) rfl (vb_true hc15)
            refine cd_cond_t hA rfl ?_
            refine wp_skip ?_
            refine xt_norm ?_
            refine wp_seq ?_
            refine wp_block ?_
            refine wp_seq ?_
            refine wp_region_lit ?_
            refine st_run tbOk 2 hA (e' := (6, .int .i64 ((j : Nat) : Int)) :: (33, .int .i64 ((j : Nat) : Int)) :: _) rfl ?_; clear hA; intro a hA
            refine wpList_nil ?_
            replace hA := hA.sel [3, 5, 6, 30, 31] (e' := [(3, .slice A2 ((turned k j).length) c2), (5, .slice A12 ((sev k).length) c13), (6, .int .i64 ((j : Nat) : Int)), (30, .int .i64 (((sev k).length : Nat) : Int)), (31, .int .i64 ((j : Nat) : Int))]) rfl
            refine xt_norm ?_
            refine wp_seq ?_
            refine wp_region_lit ?_
            refine st_run tbOk 1 hA (e' := (35, .slice A2 ((turned k j).length) c2) :: _) rfl ?_; clear hA; intro a hA
            refine st_call0 hA rfl rfl rfl isfn7 rfl rfl (by decide) (take_ok7 hS (l := turned k j) (RdS.own hP 0 rfl) 0 (by omega) (by omega)) ?_
            clear hA hS; rintro _ w17 a ⟨i0, x, v16, C18, hi, hip, hx, rfl, hO18, hS⟩ hA
            obtain rfl : i0 = 0 := by simp at hip; omega
            rw [turned_head (by omega)] at hx; injection hx with hx; subst hx
            have hl : (turned k j).take 0 ++ (turned k j).drop (0 + 1) = (sev k).drop (j + 1) ++ (sev k).take j := by rw [List.take_zero, List.nil_append, turned_rest (by omega)]
            rw [hl] at hO18
            obtain ⟨A19, c20, rfl, hmc20, hxc20⟩ := hO18.open'
            have htl2 : ((sev k).drop (j + 1) ++ (sev k).take j).length + 1 = k := by simp [sev_len]; omega
            refine st_run tbOk 7 hA (e' := (9, .nilIface) :: (8, .slice A19 (((sev k).drop (j + 1) ++ (sev k).take j).length) c20) :: (7, .int .i64 ((7 * j : Nat) : Int)) :: (39, .nilIface) :: (38, .slice A19 (((sev k).drop (j + 1) ++ (sev k).take j).length) c20) :: (37, .int .i64 ((7 * j : Nat) : Int)) :: (34, .tuple #[.int .i64 ((7 * j : Nat) : Int), .slice A19 (((sev k).drop (j + 1) ++ (sev k).take j).length) c20, .nilIface]) :: _) rfl ?_; clear hA; intro a hA
            refine wpList_nil ?_
            replace hA := hA.sel [5, 6, 7, 8, 9, 30, 31] (e' := [(5, .slice A12 ((sev k).length) c13), (6, .int .i64 ((j : Nat) : Int)), (7, .int .i64 ((7 * j : Nat) : Int)), (8, .slice A19 (((sev k).drop (j + 1) ++ (sev k).take j).length) c20), (9, .nilIface), (30, .int .i64 (((sev k).length : Nat) : Int)), (31, .int .i64 ((j : Nat) : Int))]) rfl
            refine xt_norm ?_
            refine wp_seq ?_
            refine wp_seq ?_
            refine wp_region_lit ?_
            refine st_run tbOk 6 hA (e' := (45, .int .i64 ((j : Nat) : Int)) :: (44, .slice A12 ((sev k).length) c13) :: (43, .int .i64 ((7 * j : Nat) : Int)) :: (42, .bool false) :: (41, .bool false) :: (40, .nilIface) :: _) rfl ?_; clear hA; intro a hA
            obtain ⟨b21, o22, rfl⟩ := hO11.isSome (k := j) (by omega)
            refine st_val hA rfl rfl (by decide) (rn_indexAddr tbOk hA j (o22 + j) rfl rfl rfl rfl rfl rfl (by rfl) (by omega) (by first | rfl | simp [Nat.mul_one, Nat.zero_add] | omega)) ?_; clear hA; intro a hA
            refine st_val hA rfl rfl (by decide) (rn_load tbOk hA rfl rfl rfl rfl ((hO11.rd (hS.own_ 2 rfl)).elem0 encI_ok (sev_get (n := k) (k := j) (by omega)) rfl)) ?_; clear hA; intro a hA
            refine st_run tbOk 2 hA (e' := (49, .bool (((7 * j : Nat) : Int) != ((7 * j : Nat) : Int))) :: (48, .bool (((7 * j : Nat) : Int) != ((7 * j : Nat) : Int))) :: _) rfl ?_; clear hA; intro a hA
            refine wpList_nil ?_
            replace hA := hA.sel [5, 7, 8, 30, 31, 49] (e' := [(5, .slice (some ⟨b21, o22, none⟩) ((sev k).length) c13), (7, .int .i64 ((7 * j : Nat) : Int)), (8, .slice A19 (((sev k).drop (j + 1) ++ (sev k).take j).length) c20), (30, .int .i64 (((sev k).length : Nat) : Int)), (31, .int .i64 ((j : Nat) : Int)), (49, .bool (((7 * j : Nat) : Int) != ((7 * j : Nat) : Int)))]) rfl
            refine xt_norm ?_
            by_cases hc23 : ((7 * j : Nat) : Int) = ((7 * j : Nat) : Int)
            · first
              | (exfalso; omega)
              | (replace hA := hA.rw 49 (v' := .bool false) rfl (vb_ne_f hc23)
                 refine cd_cond_f hA rfl ?_
                 refine wp_skip ?_
                 refine xt_norm ?_
                 refine wp_seq ?_
                 refine wp_region_lit ?_
                 refine st_run tbOk 2 hA (e' := (52, .int .i64 ((7 * j : Nat) : Int)) :: (51, .slice A19 (((sev k).drop (j + 1) ++ (sev k).take j).length) c20) :: _) rfl ?_; clear hA; intro a hA
                 refine st_call0 hA rfl rfl rfl isfn6 rfl rfl (by decide) (push_ok6 hS (l := (sev k).drop (j + 1) ++ (sev k).take j) (RdS.own hO18 0 rfl) ((7 * j : Nat) : Int) (rest_not (by omega)) (by omega)) ?_
                 clear hA hS; rintro _ w25 a ⟨v24, C26, rfl, hO26, hS⟩ hA
                 obtain ⟨A27, c28, rfl, hmc28, hxc28⟩ := hO26.open'
                 have hl : ((sev k).drop (j + 1) ++ (sev k).take j) ++ [((7 * j : Nat) : Int)] = turned k (j + 1) := turned_succ (by omega)
                 rw [hl] at hO26; rw [hl] at hA
                 refine st_run tbOk 5 hA (e' := (9, .nilIface) :: (3, .slice A27 ((turned k (j + 1)).length) c28) :: (55, .nilIface) :: (54, .slice A27 ((turned k (j + 1)).length) c28) :: (50, .tuple #[.slice A27 ((turned k (j + 1)).length) c28, .nilIface]) :: _) rfl ?_; clear hA; intro a hA
                 refine wpList_nil ?_
                 replace hA := hA.sel [3, 5, 9, 30, 31] (e' := [(3, .slice A27 ((turned k (j + 1)).length) c28), (5, .slice (some ⟨b21, o22, none⟩) ((sev k).length) c13), (9, .nilIface), (30, .int .i64 (((sev k).length : Nat) : Int)), (31, .int .i64 ((j : Nat) : Int))]) rfl
                 refine xt_norm ?_
                 refine wp_seq ?_
                 refine wp_region_lit ?_
                 refine st_run tbOk 2 hA (e' := (57, .bool false) :: (56, .nilIface) :: _) rfl ?_; clear hA; intro a hA
                 refine wpList_nil ?_
                 replace hA := hA.sel [3, 5, 30, 31, 57] (e' := [(3, .slice A27 ((turned k (j + 1)).length) c28), (5, .slice (some ⟨b21, o22, none⟩) ((sev k).length) c13), (30, .int .i64 (((sev k).length : Nat) : Int)), (31, .int .i64 ((j : Nat) : Int)), (57, .bool false)]) rfl
                 refine xt_norm ?_
                 refine cd_cond_f hA rfl ?_
                 refine wp_skip ?_
                 refine xb_norm ?_
                 refine xt_norm ?_
                 refine wp_region_lit ?_
                 refine st_run tbOk 1 hA (e' := (58, .int .i64 (IntKind.i64.wrap (((j : Nat) : Int) + 1))) :: _) rfl ?_; clear hA; intro a hA
                 replace hA := hA.rw 58 (v' := .int .i64 ((j + 1 : Nat) : Int)) rfl (wr64 (by omega) (by omega) (by omega))
                 refine st_run tbOk 1 hA (e' := (31, .int .i64 ((j + 1 : Nat) : Int)) :: _) rfl ?_; clear hA; intro a hA
                 refine wpList_nil ?_
                 replace hA := hA.sel [3, 5, 30, 31] (e' := [(3, .slice A27 ((turned k (j + 1)).length) c28), (5, .slice (some ⟨b21, o22, none⟩) ((sev k).length) c13), (30, .int .i64 (((sev k).length : Nat) : Int)), (31, .int .i64 ((j + 1 : Nat) : Int))]) rfl
                 replace hS := hS.drop2
                 replace hS := hS.drop2
                 exact lp_next _ (by omega) ⟨(j + 1), A27, c28, C26, rfl, (hA.sel [3, 5, 30, 31] rfl), hS, by omega, hO26⟩)
            · first
              | (exfalso; omega)
              | (replace hA := hA.rw 49 (v' := .bool true) rfl (vb_ne_t hc23)
                 refine cd_cond_t hA rfl ?_
                 refine wp_seq ?_
                 refine wp_region_lit ?_
                 refine st_run tbOk 1 hA (e' := (2, .bool false) :: _) rfl ?_; clear hA; intro a hA
                 refine wpList_nil ?_
                 replace hA := hA.sel [2] (e' := [(2, .bool false)]) rfl
                 refine xt_norm ?_
                 refine wp_ret (xt_ret (xb_ret (xt_ret (xt_ret (xb_ret (xt_ret ?_))))))
                 refine ret1 (fn := Try.f3) hA rfl rfl ?_
                 exfalso; omega))
       · first
         | (exfalso; omega)
         | (replace hA := hA.rw 32 (v' := .bool false) rfl (vb_false hc15)
            refine cd_cond_f hA rfl ?_
            refine wp_exit ?_
            refine xt_exit ?_
            refine xt_exit ?_
            refine cd_exit_eq ?_
            refine xt_norm ?_
            refine wp_seq ?_
            refine wp_region_lit ?_
            refine st_run tbOk 2 hA (e' := (60, .slice A12 ((sev k).length) c13) :: (59, .slice A2 ((turned k j).length) c2) :: _) rfl ?_; clear hA; intro a hA
            refine st_call0 hA rfl rfl rfl isfn8 rfl rfl (by decide) (same8 hS (xs := turned k j) (ys := sev k) (RdS.own hP 0 rfl) (RdS.own hO11 1 rfl)) ?_
            clear hA hS; rintro v w29 a ⟨rfl, hS⟩ hA
            have hj2 : j = k := by omega
            replace hA := hA.rw 61 (v' := .bool true) rfl (by subst hj2; rw [turned_all]; simp)
            refine st_run tbOk 1 hA (e' := (2, .bool true) :: _) rfl ?_; clear hA; intro a hA
            refine wpList_nil ?_
            replace hA := hA.sel [2] (e' := [(2, .bool true)]) rfl
            refine xt_norm ?_
            refine wp_ret ?_
            refine ret1 (fn := Try.f3) hA rfl rfl ?_
            replace hS := hS.drop1
            replace hS := hS.drop1
            exact ⟨rfl, hS⟩))

def wo (l : List Int) (id : Int) (k : Nat) : List Int := (l.take k).filter (fun x => !(x == id))
theorem wo_yes {l : List Int} {id x : Int} {k : Nat} (hx : l[k]? = some x) (h : ¬ x = id) : wo l id k ++ [x] = wo l id (k + 1) := by
  rw [wo, wo, List.take_add_one, hx, List.filter_append]
  congr 1
  simp [h]
theorem wo_no {l : List Int} {id x : Int} {k : Nat} (hx : l[k]? = some x) (h : x = id) : wo l id k = wo l id (k + 1) := by
  rw [wo, wo, List.take_add_one, hx, List.filter_append]
  simp [h]
theorem wo_le (l : List Int) (id : Int) (k : Nat) : (wo l id k).length ≤ k := by
  rw [wo]; exact Nat.le_trans (List.length_filter_le _ _) (by rw [List.length_take]; omega)
theorem wo_all (l : List Int) (id : Int) : wo l id l.length = l.filter (fun x => !(x == id)) := by rw [wo, List.take_length]
theorem dropLaw4 {w0 w : World} {F : List Chunk} (hS : St w0 w F) {v : Value} {l : List Int} (hr : RdS w0 F 1 v l.length (rows encI l)) (id : Int) (hb : l.length * 8 ≤ 140737488351232) :
    Ret Try.prog 4 #[v, .int .i64 id] w (fun v w' => v = .bool true ∧ St w0 w' F) := by
  obtain ⟨A, c, rfl, hmc, hcx⟩ := (hr w hS).open'
  refine enter (vs := [.slice A l.length c, .int .i64 id]) 37 Try.func4 rfl rfl (by simp) ?_; intro a hA
  refine wp_seq ?_
  refine wp_region_lit ?_
  refine st_run tbOk 1 hA (e' := (4, .bool false) :: _) rfl ?_; clear hA; intro a hA
  refine wpList_nil ?_
  replace hA := hA.sel [0, 1] (e' := [(0, .slice A l.length c), (1, .int .i64 id)]) rfl
  refine xt_norm ?_
  refine wp_seq ?_
  refine wp_seq ?_
  refine wp_region_lit ?_
  refine st_call0 hA rfl rfl rfl isfn5 rfl rfl (by decide) (awake5 hS) ?_
  clear hA hS; rintro v w1 a ⟨rfl, hS⟩ hA
  refine st_run tbOk 1 hA (e' := (10, .bool false) :: _) rfl ?_; clear hA; intro a hA
  refine wpList_nil ?_
  replace hA := hA.sel [0, 1, 10] (e' := [(0, .slice A l.length c), (1, .int .i64 id), (10, .bool false)]) rfl
  refine xt_norm ?_
  refine cd_cond_f hA rfl ?_
  refine wp_skip ?_
  refine xt_norm ?_
  refine wp_seq ?_
  refine wp_region_lit ?_
  refine st_run tbOk 1 hA (e' := (5, .slice none 0 0) :: _) rfl ?_; clear hA; intro a hA
  refine wpList_nil ?_
  replace hA := hA.sel [0, 1, 5] (e' := [(0, .slice A l.length c), (1, .int .i64 id), (5, .slice none 0 0)]) rfl
  refine xt_norm ?_
  refine wp_seq ?_
  refine wp_seq ?_
  refine wp_region_lit ?_
  refine st_run tbOk 3 hA (e' := (13, .int .i64 0) :: (12, .int .i64 ((l.length : Nat) : Int)) :: (11, .slice A l.length c) :: _) rfl ?_; clear hA; intro a hA
  refine wpList_nil ?_
  refine xt_norm ?_
  refine wp_block ?_
  replace hS := hS.nil
  refine wp_loop_ghost (fun m a w => ∃ (k : Nat) (A1 : Option Addr) (c1 : Nat) (C1 : Chunk), m = l.length - k ∧ Has a 37 [(0, .slice A l.length c), (1, .int .i64 id), (5, .slice A1 ((wo l id k).length) c1), (11, .slice A l.length c), (12, .int .i64 ((l.length : Nat) : Int)), (13, .int .i64 ((k : Nat) : Int))] ∧ St w0 w (C1 :: F) ∧ k ≤ l.length ∧ Own 3 1 (.slice A1 (wo l id k).length c1) (wo l id k).length (rows encI (wo l id k)) C1) (l.length - 0)
    ⟨0, none, 0, ([]), rfl, (hA.sel [0, 1, 5, 11, 12, 13] rfl), hS, Nat.zero_le _, (Own.nil 3 1)⟩ ?_
  clear hA hS; rintro m0 a w2 ⟨k, A1, c1, C1, rfl, hA, hS, hk, hO⟩
  have hwl := wo_le l id k
  refine wp_seq ?_
  refine wp_region_lit ?_
  refine st_run tbOk 1 hA (e' := (14, .bool (decide (((k : Nat) : Int) < ((l.length : Nat) : Int)))) :: _) rfl ?_; clear hA; intro a hA
  refine wpList_nil ?_
  refine xt_norm ?_
  refine wp_seq ?_
  by_cases hc3 : ((k : Nat) : Int) < ((l.length : Nat) : Int)
  · first
    | (exfalso; omega)
    | (replace hA := hA.rw 14 (v' := .bool true) rfl (vb_true hc3)
       refine cd_cond_t hA rfl ?_
       refine wp_skip ?_
       refine xt_norm ?_
       refine wp_seq ?_
       refine wp_block ?_
       refine wp_seq ?_
       refine wp_region_lit ?_
       obtain ⟨b4, o5, rfl⟩ := (hr _ (hS.tail 1 rfl)).isSome (k := k) (by omega)
       refine st_val hA rfl rfl (by decide) (rn_indexAddr tbOk hA k (o5 + k) rfl rfl rfl rfl rfl rfl (by rfl) (by omega) (by first | rfl | simp [Nat.mul_one, Nat.zero_add] | omega)) ?_; clear hA; intro a hA
       obtain ⟨x6, hx6⟩ := get_ex (l := l) (k := k) (by omega)
       refine st_val hA rfl rfl (by decide) (rn_load tbOk hA rfl rfl rfl rfl ((hr _ (hS.tail 1 rfl)).elem0 encI_ok hx6 rfl)) ?_; clear hA; intro a hA
       refine st_run tbOk 1 hA (e' := (7, .int .i64 x6) :: _) rfl ?_; clear hA; intro a hA
       refine wpList_nil ?_
       replace hA := hA.sel [0, 1, 5, 7, 11, 12, 13] (e' := [(0, .slice (some ⟨b4, o5, none⟩) l.length c), (1, .int .i64 id), (5, .slice A1 ((wo l id k).length) c1), (7, .int .i64 x6), (11, .slice (some ⟨b4, o5, none⟩) l.length c), (12, .int .i64 ((l.length : Nat) : Int)), (13, .int .i64 ((k : Nat) : Int))]) rfl
       refine xt_norm ?_
       refine wp_seq ?_
       refine wp_region_lit ?_
       refine st_run tbOk 3 hA (e' := (19, .bool (x6 != id)) :: (18, .int .i64 id) :: (17, .int .i64 x6) :: _) rfl ?_; clear hA; intro a hA
       refine wpList_nil ?_
       replace hA := hA.sel [0, 1, 5, 7, 11, 12, 13, 19] (e' := [(0, .slice (some ⟨b4, o5, none⟩) l.length c), (1, .int .i64 id), (5, .slice A1 ((wo l id k).length) c1), (7, .int .i64 x6), (11, .slice (some ⟨b4, o5, none⟩) l.length c), (12, .int .i64 ((l.length : Nat) : Int)), (13, .int .i64 ((k : Nat) : Int)), (19, .bool (x6 != id))]) rfl
       refine xt_norm ?_
       by_cases hc7 : x6 = id
       · first
         | (exfalso; omega)
         | (replace hA := hA.rw 19 (v' := .bool false) rfl (vb_ne_f hc7)
            refine cd_cond_f hA rfl ?_
            refine wp_skip ?_
            refine xb_norm ?_
            refine xt_norm ?_
            refine wp_region_lit ?_
            refine st_run tbOk 1 hA (e' := (24, .int .i64 (IntKind.i64.wrap (((k : Nat) : Int) + 1))) :: _) rfl ?_; clear hA; intro a hA
            replace hA := hA.rw 24 (v' := .int .i64 ((k + 1 : Nat) : Int)) rfl (wr64 (by omega) (by omega) (by omega))
            refine st_run tbOk 1 hA (e' := (13, .int .i64 ((k + 1 : Nat) : Int)) :: _) rfl ?_; clear hA; intro a hA
            refine wpList_nil ?_
            replace hA := hA.sel [0, 1, 5, 11, 12, 13] (e' := [(0, .slice (some ⟨b4, o5, none⟩) l.length c), (1, .int .i64 id), (5, .slice A1 ((wo l id k).length) c1), (11, .slice (some ⟨b4, o5, none⟩) l.length c), (12, .int .i64 ((l.length : Nat) : Int)), (13, .int .i64 ((k + 1 : Nat) : Int))]) rfl
            have hw1 : wo l id k = wo l id (k + 1) := wo_no hx6 (by omega)
            rw [hw1] at hO hA
            exact lp_next _ (by omega) ⟨(k + 1), A1, c1, C1, rfl, (hA.sel [0, 1, 5, 11, 12, 13] rfl), hS, by omega, hO⟩)
       · first
         | (exfalso; omega)
         | (replace hA := hA.rw 19 (v' := .bool true) rfl (vb_ne_t hc7)
            refine cd_cond_t hA rfl ?_
            refine wp_region_lit ?_
            refine st_run tbOk 2 hA (e' := (21, .int .i64 x6) :: (20, .slice A1 ((wo l id k).length) c1) :: _) rfl ?_; clear hA; intro a hA
            refine st_buildSlice tbOk hA hS [.int .i64 x6] rfl rfl rfl rfl rfl (by decide) (by kernel_rfl) rfl rfl (by decide) ?_; clear hA hS; intro b8 w9 a hS hA
            replace hS := hS.front 1 (C := C1) (L' := [(b8, rowO [.int .i64 x6] 3)] :: F) rfl rfl
            refine st_append tbOk hA (m := (wo l id k).length) (q := 1) (xs := rows encI (wo l id k)) (news := rows encI ([x6] : List Int)) rfl rfl rfl rfl rfl rfl rfl rfl (by decide) hO hS ((Own.full (T := 3) (size := 1) (g := b8) (m := 1) rfl (by decide)).rd (hS.own_ 1 rfl)) (rows_one encI_ok _) (maxLen_le (by omega)) (by show ((wo l id k).length + 1) * 8 ≤ 140737488355328; omega) rfl rfl (by decide) ?_
            clear hA hS; intro v10 w11 C12 a hO12 hS hA
            replace hO12 := Own.app (l := wo l id k) (l2 := ([x6] : List Int)) hO12
            obtain ⟨A13, c14, rfl, hmc14, hxc14⟩ := hO12.open'
            refine st_run tbOk 1 hA (e' := (5, .slice A13 (((wo l id k) ++ ([x6] : List Int)).length) c14) :: _) rfl ?_; clear hA; intro a hA
            refine wpList_nil ?_
            replace hA := hA.sel [0, 1, 5, 11, 12, 13] (e' := [(0, .slice (some ⟨b4, o5, none⟩) l.length c), (1, .int .i64 id), (5, .slice A13 (((wo l id k) ++ ([x6] : List Int)).length) c14), (11, .slice (some ⟨b4, o5, none⟩) l.length c), (12, .int .i64 ((l.length : Nat) : Int)), (13, .int .i64 ((k : Nat) : Int))]) rfl
            refine xb_norm ?_
            refine xt_norm ?_
            refine wp_region_lit ?_
            refine st_run tbOk 1 hA (e' := (24, .int .i64 (IntKind.i64.wrap (((k : Nat) : Int) + 1))) :: _) rfl ?_; clear hA; intro a hA
            replace hA := hA.rw 24 (v' := .int .i64 ((k + 1 : Nat) : Int)) rfl (wr64 (by omega) (by omega) (by omega))
            refine st_run tbOk 1 hA (e' := (13, .int .i64 ((k + 1 : Nat) : Int)) :: _) rfl ?_; clear hA; intro a hA
            refine wpList_nil ?_
            replace hA := hA.sel [0, 1, 5, 11, 12, 13] (e' := [(0, .slice (some ⟨b4, o5, none⟩) l.length c), (1, .int .i64 id), (5, .slice A13 (((wo l id k) ++ ([x6] : List Int)).length) c14), (11, .slice (some ⟨b4, o5, none⟩) l.length c), (12, .int .i64 ((l.length : Nat) : Int)), (13, .int .i64 ((k + 1 : Nat) : Int))]) rfl
            have hl : (wo l id k) ++ ([x6] : List Int) = wo l id (k + 1) := wo_yes hx6 (by omega)
            rw [hl] at hO12; rw [hl] at hA
            replace hS := hS.drop2
            exact lp_next _ (by omega) ⟨(k + 1), A13, c14, C12, rfl, (hA.sel [0, 1, 5, 11, 12, 13] rfl), hS, by omega, hO12⟩))
  · first
    | (exfalso; omega)
    | (replace hA := hA.rw 14 (v' := .bool false) rfl (vb_false hc3)
       refine cd_cond_f hA rfl ?_
       refine wp_exit ?_
       refine xt_exit ?_
       refine xt_exit ?_
       refine cd_exit_eq ?_
       refine xt_norm ?_
       refine wp_seq ?_
       refine wp_region_lit ?_
       refine st_run tbOk 1 hA (e' := (25, .slice A l.length c) :: _) rfl ?_; clear hA; intro a hA
       replace hS := hS.nil
       refine st_append tbOk hA (m := 0) (q := l.length) (xs := rows encI ([] : List Int)) (news := rows encI l) rfl rfl rfl rfl rfl rfl rfl rfl (by decide) (Own.nil 3 1) hS (hr _ (hS.tail 2 rfl)) (rows_one encI_ok _) (maxLen_le (by omega)) (by show (0 + l.length) * 8 ≤ 140737488355328; omega) rfl rfl (by decide) ?_
       clear hA hS; intro v15 w16 C17 a hO17 hS hA
       replace hO17 := Own.app (l := ([] : List Int)) (l2 := l) hO17
       obtain ⟨A18, c19, rfl, hmc19, hxc19⟩ := hO17.open'
       replace hO17 : Own 3 1 (.slice A18 l.length c19) l.length (rows encI l) C17 := hO17
       replace hA := hA.rw 26 (v' := .slice A18 l.length c19) rfl rfl
       refine st_run tbOk 1 hA (e' := (8, .slice A18 l.length c19) :: _) rfl ?_; clear hA; intro a hA
       refine wpList_nil ?_
       replace hA := hA.sel [0, 1, 5, 8] (e' := [(0, .slice A l.length c), (1, .int .i64 id), (5, .slice A1 ((wo l id k).length) c1), (8, .slice A18 l.length c19)]) rfl
       refine xt_norm ?_
       refine wp_seq ?_
       refine wp_region_lit ?_
       refine st_run tbOk 2 hA (e' := (28, .int .i64 id) :: (27, .slice A l.length c) :: _) rfl ?_; clear hA; intro a hA
       refine st_call0 hA rfl rfl rfl isfn9 rfl rfl (by decide) (drop9 hS (l := l) (fun w' h => (hr _ (h.tail 2 rfl))) id (by omega)) ?_
       clear hA hS; rintro v20 w21 a ⟨C22, hO22, hS⟩ hA
       obtain ⟨A23, c24, rfl, hmc24, hxc24⟩ := hO22.open'
       refine st_run tbOk 1 hA (e' := (30, .slice A1 ((wo l id k).length) c1) :: _) rfl ?_; clear hA; intro a hA
       refine st_call0 hA rfl rfl rfl isfn8 rfl rfl (by decide) (same8 hS (xs := l.filter (fun x => !(x == id))) (ys := wo l id k) (RdS.own hO22 0 rfl) (RdS.own hO 2 rfl)) ?_
       clear hA hS; rintro v w25 a ⟨rfl, hS⟩ hA
       have hkl : k = l.length := by omega
       replace hA := hA.rw 31 (v' := .bool true) rfl (by subst hkl; rw [wo_all]; simp)
       refine st_run tbOk 3 hA (e' := (34, .slice A18 l.length c19) :: (33, .slice A l.length c) :: (32, .bool true) :: _) rfl ?_; clear hA; intro a hA
       refine st_call0 hA rfl rfl rfl isfn8 rfl rfl (by decide) (same8 hS (xs := l) (ys := l) (fun w' h => (hr _ (h.tail 3 rfl))) (RdS.own hO17 1 rfl)) ?_
       clear hA hS; rintro v w26 a ⟨rfl, hS⟩ hA
       replace hA := hA.rw 35 (v' := .bool true) rfl (by simp)
       refine st_run tbOk 2 hA (e' := (4, .bool true) :: (36, .bool true) :: _) rfl ?_; clear hA; intro a hA
       refine wpList_nil ?_
       replace hA := hA.sel [4] (e' := [(4, .bool true)]) rfl
       refine xt_norm ?_
       refine wp_ret ?_
       refine ret1 (fn := Try.f4) hA rfl rfl ?_
       replace hS := hS.drop1
       replace hS := hS.drop1
       replace hS := hS.drop1
       exact ⟨rfl, hS⟩)
end Go.Proofs.Ytpaeidaekhijlaa
