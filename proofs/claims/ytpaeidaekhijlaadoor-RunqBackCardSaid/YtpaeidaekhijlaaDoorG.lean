import Derived.Test.YtpaeidaekhijlaaDoorProg
import Derived.Test.YtpaeidaekhijlaaDoorAs
import Derived.Test.YtpaeidaekhijlaaDoorSK9
set_option linter.unusedVariables false
set_option linter.unusedSimpArgs false
set_option maxRecDepth 4000
namespace Go.Proofs.YtpaeidaekhijlaaDoor
open Go Go.SK
theorem mixed : Tryd.prog.follows .mixedOrders = true := by kernel_rfl
theorem isfn6 : IsFn Tryd.prog 6 := fun args w => by kernel_rfl
theorem isfn7 : IsFn Tryd.prog 7 := fun args w => by kernel_rfl
theorem isfn8 : IsFn Tryd.prog 8 := fun args w => by kernel_rfl
theorem isfn9 : IsFn Tryd.prog 9 := fun args w => by kernel_rfl
theorem isfn10 : IsFn Tryd.prog 10 := fun args w => by kernel_rfl
theorem isfn11 : IsFn Tryd.prog 11 := fun args w => by kernel_rfl
theorem isfn12 : IsFn Tryd.prog 12 := fun args w => by kernel_rfl
theorem isfn13 : IsFn Tryd.prog 13 := fun args w => by kernel_rfl
theorem isfn14 : IsFn Tryd.prog 14 := fun args w => by kernel_rfl
theorem isfn15 : IsFn Tryd.prog 15 := fun args w => by kernel_rfl
theorem isfn16 : IsFn Tryd.prog 16 := fun args w => by kernel_rfl
theorem isfn17 : IsFn Tryd.prog 17 := fun args w => by kernel_rfl
theorem isfn22 : IsFn Tryd.prog 22 := fun args w => by kernel_rfl
theorem isfn23 : IsFn Tryd.prog 23 := fun args w => by kernel_rfl
noncomputable def tb : List TI := [
  ⟨3, Tryd.t3.desc, 1, 8, .int .i64 0⟩,
  ⟨22, Tryd.t22.desc, 1, 24, .slice none 0 0⟩,
  ⟨24, Tryd.t22.desc, 1, 24, .slice none 0 0⟩,
  ⟨26, Tryd.t25.desc, 1, 16, .nilIface⟩,
  ⟨29, Tryd.t3.desc, 1, 8, .int .i64 0⟩,
  ⟨39, Tryd.t39.desc, 1, 8, .pointer none⟩]
theorem tbOk : TabOk Tryd.prog tb := ⟨
  ⟨by kernel_rfl, Tryd.t3, by kernel_rfl, by kernel_rfl, by kernel_rfl, by kernel_rfl⟩,
  ⟨by kernel_rfl, Tryd.t22, by kernel_rfl, by kernel_rfl, by kernel_rfl, by kernel_rfl⟩,
  ⟨by kernel_rfl, Tryd.t24, by kernel_rfl, by kernel_rfl, by kernel_rfl, by kernel_rfl⟩,
  ⟨by kernel_rfl, Tryd.t26, by kernel_rfl, by kernel_rfl, by kernel_rfl, by kernel_rfl⟩,
  ⟨by kernel_rfl, Tryd.t29, by kernel_rfl, by kernel_rfl, by kernel_rfl, by kernel_rfl⟩,
  ⟨by kernel_rfl, Tryd.t39, by kernel_rfl, by kernel_rfl, by kernel_rfl, by kernel_rfl⟩,
  trivial⟩
theorem clone13 {w0 w : World} {F : List Chunk} (hS : St w0 w F) {v : Value} {l : List Int} (hr : RdS w0 F 1 v l.length (rows encI l)) (hb : l.length * 8 ≤ 140737488355328) :
    Ret Tryd.prog 13 #[v] w (fun v w' => ∃ C, Own 3 1 v l.length (rows encI l) C ∧ St w0 w' (C :: F)) := by
  rcases hr.cases hS with ⟨rfl, h0, h1⟩ | ⟨b, off, c, rfl, hmc, hcx⟩
  · obtain rfl := List.eq_nil_of_length_eq_zero h0
    refine enter (vs := [.slice none 0 0]) 8 Tryd.func13 rfl rfl (by simp) ?_; intro a hA
    refine wp_seq ?_
    refine wp_region_lit ?_
    refine st_run tbOk 1 hA (e' := (2, .slice none 0 0) :: _) rfl ?_; clear hA; intro a hA
    refine wpList_nil ?_
    replace hA := hA.sel [0] (e' := [(0, .slice none 0 0)]) rfl
    refine xt_norm ?_
    refine wp_seq ?_
    refine wp_seq ?_
    refine wp_region_lit ?_
    refine st_run tbOk 2 hA (e' := (4, .bool true) :: (3, .slice none 0 0) :: _) rfl ?_; clear hA; intro a hA
    refine wpList_nil ?_
    replace hA := hA.sel [0, 4] (e' := [(0, .slice none 0 0), (4, .bool true)]) rfl
    refine xt_norm ?_
    refine cd_cond_t hA rfl ?_
    refine wp_seq ?_
    refine wp_region_lit ?_
    refine st_run tbOk 1 hA (e' := (2, .slice none 0 0) :: _) rfl ?_; clear hA; intro a hA
    refine wpList_nil ?_
    replace hA := hA.sel [2] (e' := [(2, .slice none 0 0)]) rfl
    refine xt_norm ?_
    refine wp_ret (xt_ret ?_)
    refine ret1 (fn := Tryd.f13) hA rfl rfl ?_
    exact ⟨[], Own.nil _ _, hS.nil⟩
  · refine enter (vs := [.slice (some ⟨b, off, none⟩) l.length c]) 8 Tryd.func13 rfl rfl (by simp) ?_; intro a hA
    refine wp_seq ?_
    refine wp_region_lit ?_
    refine st_run tbOk 1 hA (e' := (2, .slice none 0 0) :: _) rfl ?_; clear hA; intro a hA
    refine wpList_nil ?_
    replace hA := hA.sel [0] (e' := [(0, .slice (some ⟨b, off, none⟩) l.length c)]) rfl
    refine xt_norm ?_
    refine wp_seq ?_
    refine wp_seq ?_
    refine wp_region_lit ?_
    refine st_run tbOk 2 hA (e' := (4, .bool false) :: (3, .slice (some ⟨b, off, none⟩) l.length c) :: _) rfl ?_; clear hA; intro a hA
    refine wpList_nil ?_
    replace hA := hA.sel [0, 4] (e' := [(0, .slice (some ⟨b, off, none⟩) l.length c), (4, .bool false)]) rfl
    refine xt_norm ?_
    refine cd_cond_f hA rfl ?_
    refine wp_skip ?_
    refine xt_norm ?_
    refine wp_seq ?_
    refine wp_region_lit ?_
    refine st_buildSlice tbOk hA hS [] rfl rfl rfl rfl rfl (by decide) (by kernel_rfl) rfl rfl (by decide) ?_; clear hA hS; intro b1 w2 a hS hA
    refine st_run tbOk 1 hA (e' := (6, .slice (some ⟨b, off, none⟩) l.length c) :: _) rfl ?_; clear hA; intro a hA
    refine st_append tbOk hA (m := 0) (q := l.length) (xs := rows encI ([] : List Int)) (news := rows encI l) rfl rfl rfl rfl rfl rfl rfl rfl (by decide) (Own.full (T := 3) (size := 1) (g := b1) (m := 0) rfl (by decide)) hS (hr _ (hS.tail 1 rfl)) (rows_one encI_ok _) (maxLen_le (by omega)) (by show (0 + l.length) * 8 ≤ 140737488355328; omega) rfl rfl (by decide) ?_
    clear hA hS; intro v3 w4 C5 a hO5 hS hA
    replace hO5 := Own.app (l := ([] : List Int)) (l2 := l) hO5
    replace hO5 : Own 3 1 v3 l.length (rows encI l) C5 := hO5
    obtain ⟨A6, c7, rfl, hmc7, hxc7⟩ := hO5.open'
    refine st_run tbOk 1 hA (e' := (2, .slice A6 l.length c7) :: _) rfl ?_; clear hA; intro a hA
    refine wpList_nil ?_
    replace hA := hA.sel [2] (e' := [(2, .slice A6 l.length c7)]) rfl
    refine xt_norm ?_
    refine wp_ret ?_
    refine ret1 (fn := Tryd.f13) hA rfl rfl ?_
    exact ⟨C5, hO5, hS⟩

theorem index22 {w0 w : World} {F : List Chunk} (hS : St w0 w F) {v : Value} {l : List Int} (hr : RdS w0 F 1 v l.length (rows encI l)) (x : Int) :
    Ret Tryd.prog 22 #[v, .int .i64 x] w (fun v w' => v = .int .i64 (idx (fun y => y == x) l) ∧ St w0 w' F) := by
  obtain ⟨A, c, rfl, hmc, hcx⟩ := (hr w hS).open'
  refine enter (vs := [.slice A l.length c, .int .i64 x]) 19 Tryd.func22 rfl rfl (by simp) ?_; intro a hA
  refine wp_seq ?_
  refine wp_region_lit ?_
  refine st_run tbOk 1 hA (e' := (4, .int .i64 0) :: _) rfl ?_; clear hA; intro a hA
  refine wpList_nil ?_
  replace hA := hA.sel [0, 1] (e' := [(0, .slice A l.length c), (1, .int .i64 x)]) rfl
  refine xt_norm ?_
  refine wp_seq ?_
  refine wp_seq ?_
  refine wp_region_lit ?_
  refine st_run tbOk 3 hA (e' := (8, .int .i64 0) :: (7, .int .i64 ((l.length : Nat) : Int)) :: (6, .slice A l.length c) :: _) rfl ?_; clear hA; intro a hA
  refine wpList_nil ?_
  replace hA := hA.sel [0, 1, 7, 8] (e' := [(0, .slice A l.length c), (1, .int .i64 x), (7, .int .i64 ((l.length : Nat) : Int)), (8, .int .i64 0)]) rfl
  refine xt_norm ?_
  refine wp_block ?_
  refine wp_loop_ghost (fun m a w => ∃ (k : Nat), m = l.length - k ∧ Has a 19 [(0, .slice A l.length c), (1, .int .i64 x), (7, .int .i64 ((l.length : Nat) : Int)), (8, .int .i64 ((k : Nat) : Int))] ∧ St w0 w (F) ∧ k ≤ l.length ∧ ∀ (i : Nat) (y : Int), i < k → l[i]? = some y → ¬ y = x) (l.length - 0)
    ⟨0, rfl, (hA.sel [0, 1, 7, 8] rfl), hS, Nat.zero_le _, fun i y hi => absurd hi (by omega)⟩ ?_
  clear hA hS; rintro m0 a w1 ⟨k, rfl, hA, hS, hk, hb⟩
  refine wp_seq ?_
  refine wp_region_lit ?_
  refine st_run tbOk 1 hA (e' := (9, .bool (decide (((k : Nat) : Int) < ((l.length : Nat) : Int)))) :: _) rfl ?_; clear hA; intro a hA
  refine wpList_nil ?_
  refine xt_norm ?_
  refine wp_seq ?_
  by_cases hc2 : ((k : Nat) : Int) < ((l.length : Nat) : Int)
  · first
    | (exfalso; omega)
    | (replace hA := hA.rw 9 (v' := .bool true) rfl (vb_true hc2)
       refine cd_cond_t hA rfl ?_
       refine wp_skip ?_
       refine xt_norm ?_
       refine wp_seq ?_
       refine wp_block ?_
       refine wp_seq ?_
       refine wp_region_lit ?_
       refine st_run tbOk 2 hA (e' := (5, .int .i64 ((k : Nat) : Int)) :: (10, .int .i64 ((k : Nat) : Int)) :: _) rfl ?_; clear hA; intro a hA
       refine wpList_nil ?_
       replace hA := hA.sel [0, 1, 5, 7, 8] (e' := [(0, .slice A l.length c), (1, .int .i64 x), (5, .int .i64 ((k : Nat) : Int)), (7, .int .i64 ((l.length : Nat) : Int)), (8, .int .i64 ((k : Nat) : Int))]) rfl
       refine xt_norm ?_
       refine wp_seq ?_
       refine wp_region_lit ?_
       refine st_run tbOk 3 hA (e' := (13, .int .i64 ((k : Nat) : Int)) :: (12, .slice A l.length c) :: (11, .int .i64 x) :: _) rfl ?_; clear hA; intro a hA
       obtain ⟨b3, o4, rfl⟩ := (hr _ hS).isSome (k := k) (by omega)
       refine st_val hA rfl rfl (by decide) (rn_indexAddr tbOk hA k (o4 + k) rfl rfl rfl rfl rfl rfl (by rfl) (by omega) (by first | rfl | simp [Nat.mul_one, Nat.zero_add] | omega)) ?_; clear hA; intro a hA
       obtain ⟨x5, hx5⟩ := get_ex (l := l) (k := k) (by omega)
       refine st_val hA rfl rfl (by decide) (rn_load tbOk hA rfl rfl rfl rfl ((hr _ hS).elem0 encI_ok hx5 rfl)) ?_; clear hA; intro a hA
       refine st_run tbOk 1 hA (e' := (16, .bool (x == x5)) :: _) rfl ?_; clear hA; intro a hA
       refine wpList_nil ?_
       replace hA := hA.sel [0, 1, 5, 7, 8, 16] (e' := [(0, .slice (some ⟨b3, o4, none⟩) l.length c), (1, .int .i64 x), (5, .int .i64 ((k : Nat) : Int)), (7, .int .i64 ((l.length : Nat) : Int)), (8, .int .i64 ((k : Nat) : Int)), (16, .bool (x == x5))]) rfl
       refine xt_norm ?_
       by_cases hc6 : x = x5
       · first
         | (exfalso; omega)
         | (replace hA := hA.rw 16 (v' := .bool true) rfl (vb_eq_t hc6)
            refine cd_cond_t hA rfl ?_
            refine wp_seq ?_
            refine wp_region_lit ?_
            refine st_run tbOk 2 hA (e' := (4, .int .i64 ((k : Nat) : Int)) :: (17, .int .i64 ((k : Nat) : Int)) :: _) rfl ?_; clear hA; intro a hA
            refine wpList_nil ?_
            replace hA := hA.sel [4] (e' := [(4, .int .i64 ((k : Nat) : Int))]) rfl
            refine xt_norm ?_
            refine wp_ret (xb_ret (xt_ret (xt_ret (xb_ret (xt_ret ?_)))))
            refine ret1 (fn := Tryd.f22) hA rfl rfl ?_
            exact ⟨vint (idx_some (p := fun y => y == x) hx5 (beq_iff_eq.2 (by omega)) (fun i y hi hy => beq_eq_false_iff_ne.2 (hb i y hi hy))).symm, hS⟩)
       · first
         | (exfalso; omega)
         | (replace hA := hA.rw 16 (v' := .bool false) rfl (vb_eq_f hc6)
            refine cd_cond_f hA rfl ?_
            refine wp_skip ?_
            refine xb_norm ?_
            refine xt_norm ?_
            refine wp_region_lit ?_
            refine st_run tbOk 1 hA (e' := (18, .int .i64 (IntKind.i64.wrap (((k : Nat) : Int) + 1))) :: _) rfl ?_; clear hA; intro a hA
            replace hA := hA.rw 18 (v' := .int .i64 ((k + 1 : Nat) : Int)) rfl (wr64 (by omega) (by omega) (by omega))
            refine st_run tbOk 1 hA (e' := (8, .int .i64 ((k + 1 : Nat) : Int)) :: _) rfl ?_; clear hA; intro a hA
            refine wpList_nil ?_
            replace hA := hA.sel [0, 1, 7, 8] (e' := [(0, .slice (some ⟨b3, o4, none⟩) l.length c), (1, .int .i64 x), (7, .int .i64 ((l.length : Nat) : Int)), (8, .int .i64 ((k + 1 : Nat) : Int))]) rfl
            exact lp_next _ (by omega) ⟨(k + 1), rfl, (hA.sel [0, 1, 7, 8] rfl), hS, by omega, fun i y hi hy => (Nat.lt_succ_iff_lt_or_eq.1 hi).elim (fun h => hb i y h hy) (fun h => by subst h; rw [hx5] at hy; injection hy with hy; subst hy; omega)⟩))
  · first
    | (exfalso; omega)
    | (replace hA := hA.rw 9 (v' := .bool false) rfl (vb_false hc2)
       refine cd_cond_f hA rfl ?_
       refine wp_exit ?_
       refine xt_exit ?_
       refine xt_exit ?_
       refine cd_exit_eq ?_
       refine xt_norm ?_
       refine wp_seq ?_
       refine wp_region_lit ?_
       refine st_run tbOk 1 hA (e' := (4, .int .i64 (-1)) :: _) rfl ?_; clear hA; intro a hA
       refine wpList_nil ?_
       replace hA := hA.sel [4] (e' := [(4, .int .i64 (-1))]) rfl
       refine xt_norm ?_
       refine wp_ret ?_
       refine ret1 (fn := Tryd.f22) hA rfl rfl ?_
       exact ⟨vint (idx_none (fun i y hy => beq_eq_false_iff_ne.2 (hb i y (by have := (List.getElem?_eq_some_iff.1 hy).1; omega) hy))).symm, hS⟩)

theorem contains15 {w0 w : World} {F : List Chunk} (hS : St w0 w F) {v : Value} {l : List Int} (hr : RdS w0 F 1 v l.length (rows encI l)) (x : Int) :
    Ret Tryd.prog 15 #[v, .int .i64 x] w (fun v w' => v = .bool (l.any (fun y => y == x)) ∧ St w0 w' F) := by
  obtain ⟨A, c, rfl, hmc, hcx⟩ := (hr w hS).open'
  refine enter (vs := [.slice A l.length c, .int .i64 x]) 9 Tryd.func15 rfl rfl (by simp) ?_; intro a hA
  refine wp_seq ?_
  refine wp_region_lit ?_
  refine st_run tbOk 1 hA (e' := (4, .bool false) :: _) rfl ?_; clear hA; intro a hA
  refine wpList_nil ?_
  replace hA := hA.sel [0, 1] (e' := [(0, .slice A l.length c), (1, .int .i64 x)]) rfl
  refine xt_norm ?_
  refine wp_seq ?_
  refine wp_region_lit ?_
  refine st_run tbOk 2 hA (e' := (6, .int .i64 x) :: (5, .slice A l.length c) :: _) rfl ?_; clear hA; intro a hA
  refine st_call0 hA rfl rfl rfl isfn22 rfl rfl (by decide) (index22 hS (l := l) (fun w' h => (hr _ h)) x) ?_
  clear hA hS; rintro v w1 a ⟨rfl, hS⟩ hA
  refine st_run tbOk 2 hA (e' := (4, .bool (decide (idx (fun y => y == x) l ≥ 0))) :: (8, .bool (decide (idx (fun y => y == x) l ≥ 0))) :: _) rfl ?_; clear hA; intro a hA
  refine wpList_nil ?_
  replace hA := hA.sel [4] (e' := [(4, .bool (decide (idx (fun y => y == x) l ≥ 0)))]) rfl
  refine xt_norm ?_
  refine wp_ret ?_
  refine ret1 (fn := Tryd.f15) hA rfl rfl ?_
  exact ⟨vbool (idx_any _ _), hS⟩

theorem indexFunc23 {w0 w : World} {F : List Chunk} (hS : St w0 w F) {v : Value} {l : List Int} (hr : RdS w0 F 1 v l.length (rows encI l)) {g : Nat} {first cap : Array Value} {p : Int → Bool} (hg : IsFn Tryd.prog g) (hp : Pred Tryd.prog w0 F g first cap (fun x => .int .i64 x) p) :
    Ret Tryd.prog 23 #[v, .func (.func g) first cap] w (fun v w' => v = .int .i64 (idx p l) ∧ St w0 w' F) := by
  obtain ⟨A, c, rfl, hmc, hcx⟩ := (hr w hS).open'
  refine enter (vs := [.slice A l.length c, .func (.func g) first cap]) 19 Tryd.func23 rfl rfl (by simp) ?_; intro a hA
  refine wp_seq ?_
  refine wp_region_lit ?_
  refine st_run tbOk 1 hA (e' := (4, .int .i64 0) :: _) rfl ?_; clear hA; intro a hA
  refine wpList_nil ?_
  replace hA := hA.sel [0, 1] (e' := [(0, .slice A l.length c), (1, .func (.func g) first cap)]) rfl
  refine xt_norm ?_
  refine wp_seq ?_
  refine wp_seq ?_
  refine wp_region_lit ?_
  refine st_run tbOk 3 hA (e' := (8, .int .i64 0) :: (7, .int .i64 ((l.length : Nat) : Int)) :: (6, .slice A l.length c) :: _) rfl ?_; clear hA; intro a hA
  refine wpList_nil ?_
  replace hA := hA.sel [0, 1, 7, 8] (e' := [(0, .slice A l.length c), (1, .func (.func g) first cap), (7, .int .i64 ((l.length : Nat) : Int)), (8, .int .i64 0)]) rfl
  refine xt_norm ?_
  refine wp_block ?_
  refine wp_loop_ghost (fun m a w => ∃ (k : Nat), m = l.length - k ∧ Has a 19 [(0, .slice A l.length c), (1, .func (.func g) first cap), (7, .int .i64 ((l.length : Nat) : Int)), (8, .int .i64 ((k : Nat) : Int))] ∧ St w0 w (F) ∧ k ≤ l.length ∧ ∀ (i : Nat) (y : Int), i < k → l[i]? = some y → p y = false) (l.length - 0)
    ⟨0, rfl, (hA.sel [0, 1, 7, 8] rfl), hS, Nat.zero_le _, fun i y hi => absurd hi (by omega)⟩ ?_
  clear hA hS; rintro m0 a w1 ⟨k, rfl, hA, hS, hk, hb⟩
  refine wp_seq ?_
  refine wp_region_lit ?_
  refine st_run tbOk 1 hA (e' := (9, .bool (decide (((k : Nat) : Int) < ((l.length : Nat) : Int)))) :: _) rfl ?_; clear hA; intro a hA
  refine wpList_nil ?_
  refine xt_norm ?_
  refine wp_seq ?_
  by_cases hc2 : ((k : Nat) : Int) < ((l.length : Nat) : Int)
  · first
    | (exfalso; omega)
    | (replace hA := hA.rw 9 (v' := .bool true) rfl (vb_true hc2)
       refine cd_cond_t hA rfl ?_
       refine wp_skip ?_
       refine xt_norm ?_
       refine wp_seq ?_
       refine wp_block ?_
       refine wp_seq ?_
       refine wp_region_lit ?_
       refine st_run tbOk 2 hA (e' := (5, .int .i64 ((k : Nat) : Int)) :: (10, .int .i64 ((k : Nat) : Int)) :: _) rfl ?_; clear hA; intro a hA
       refine wpList_nil ?_
       replace hA := hA.sel [0, 1, 5, 7, 8] (e' := [(0, .slice A l.length c), (1, .func (.func g) first cap), (5, .int .i64 ((k : Nat) : Int)), (7, .int .i64 ((l.length : Nat) : Int)), (8, .int .i64 ((k : Nat) : Int))]) rfl
       refine xt_norm ?_
       refine wp_seq ?_
       refine wp_region_lit ?_
       refine st_run tbOk 3 hA (e' := (13, .int .i64 ((k : Nat) : Int)) :: (12, .slice A l.length c) :: (11, .func (.func g) first cap) :: _) rfl ?_; clear hA; intro a hA
       obtain ⟨b3, o4, rfl⟩ := (hr _ hS).isSome (k := k) (by omega)
       refine st_val hA rfl rfl (by decide) (rn_indexAddr tbOk hA k (o4 + k) rfl rfl rfl rfl rfl rfl (by rfl) (by omega) (by first | rfl | simp [Nat.mul_one, Nat.zero_add] | omega)) ?_; clear hA; intro a hA
       obtain ⟨x5, hx5⟩ := get_ex (l := l) (k := k) (by omega)
       refine st_val hA rfl rfl (by decide) (rn_load tbOk hA rfl rfl rfl rfl ((hr _ hS).elem0 encI_ok hx5 rfl)) ?_; clear hA; intro a hA
       refine st_call hA rfl rfl rfl rfl hg rfl rfl (by decide) (hp _ x5 hS) ?_
       clear hA; rintro v w6 a ⟨rfl, hS'⟩ hA; replace hS : St w0 w6 (F) := hS.trans hS'
       refine wpList_nil ?_
       replace hA := hA.sel [0, 1, 5, 7, 8, 16] (e' := [(0, .slice (some ⟨b3, o4, none⟩) l.length c), (1, .func (.func g) first cap), (5, .int .i64 ((k : Nat) : Int)), (7, .int .i64 ((l.length : Nat) : Int)), (8, .int .i64 ((k : Nat) : Int)), (16, .bool (p x5))]) rfl
       refine xt_norm ?_
       by_cases hpx : (p x5) = true
       · first
         | (exfalso; omega)
         | (replace hA := hA.rw 16 (v' := .bool true) rfl (vb_t hpx)
            refine cd_cond_t hA rfl ?_
            refine wp_seq ?_
            refine wp_region_lit ?_
            refine st_run tbOk 2 hA (e' := (4, .int .i64 ((k : Nat) : Int)) :: (17, .int .i64 ((k : Nat) : Int)) :: _) rfl ?_; clear hA; intro a hA
            refine wpList_nil ?_
            replace hA := hA.sel [4] (e' := [(4, .int .i64 ((k : Nat) : Int))]) rfl
            refine xt_norm ?_
            refine wp_ret (xb_ret (xt_ret (xt_ret (xb_ret (xt_ret ?_)))))
            refine ret1 (fn := Tryd.f23) hA rfl rfl ?_
            exact ⟨vint (idx_some hx5 hpx (fun i y hi hy => hb i y hi hy)).symm, hS⟩)
       · first
         | (exfalso; omega)
         | (replace hA := hA.rw 16 (v' := .bool false) rfl (vb_f hpx)
            refine cd_cond_f hA rfl ?_
            refine wp_skip ?_
            refine xb_norm ?_
            refine xt_norm ?_
            refine wp_region_lit ?_
            refine st_run tbOk 1 hA (e' := (18, .int .i64 (IntKind.i64.wrap (((k : Nat) : Int) + 1))) :: _) rfl ?_; clear hA; intro a hA
            replace hA := hA.rw 18 (v' := .int .i64 ((k + 1 : Nat) : Int)) rfl (wr64 (by omega) (by omega) (by omega))
            refine st_run tbOk 1 hA (e' := (8, .int .i64 ((k + 1 : Nat) : Int)) :: _) rfl ?_; clear hA; intro a hA
            refine wpList_nil ?_
            replace hA := hA.sel [0, 1, 7, 8] (e' := [(0, .slice (some ⟨b3, o4, none⟩) l.length c), (1, .func (.func g) first cap), (7, .int .i64 ((l.length : Nat) : Int)), (8, .int .i64 ((k + 1 : Nat) : Int))]) rfl
            exact lp_next _ (by omega) ⟨(k + 1), rfl, (hA.sel [0, 1, 7, 8] rfl), hS, by omega, fun i y hi hy => (Nat.lt_succ_iff_lt_or_eq.1 hi).elim (fun h => hb i y h hy) (fun h => by subst h; rw [hx5] at hy; injection hy with hy; subst hy; simpa using hpx)⟩))
  · first
    | (exfalso; omega)
    | (replace hA := hA.rw 9 (v' := .bool false) rfl (vb_false hc2)
       refine cd_cond_f hA rfl ?_
       refine wp_exit ?_
       refine xt_exit ?_
       refine xt_exit ?_
       refine cd_exit_eq ?_
       refine xt_norm ?_
       refine wp_seq ?_
       refine wp_region_lit ?_
       refine st_run tbOk 1 hA (e' := (4, .int .i64 (-1)) :: _) rfl ?_; clear hA; intro a hA
       refine wpList_nil ?_
       replace hA := hA.sel [4] (e' := [(4, .int .i64 (-1))]) rfl
       refine xt_norm ?_
       refine wp_ret ?_
       refine ret1 (fn := Tryd.f23) hA rfl rfl ?_
       exact ⟨vint (idx_none (fun i y hy => hb i y (by have := (List.getElem?_eq_some_iff.1 hy).1; omega) hy)).symm, hS⟩)

theorem deleteFunc16 {w0 w : World} {F : List Chunk} {C : Chunk} (hS : St w0 w (C :: F)) {v : Value} {l : List Int} (hO : Own 3 1 v l.length (rows encI l) C) {g : Nat} {first cap : Array Value} {p : Int → Bool} (hg : IsFn Tryd.prog g) (hp : Pred Tryd.prog w0 F g first cap (fun x => .int .i64 x) p) :
    Ret Tryd.prog 16 #[v, .func (.func g) first cap] w (fun v w' => ∃ C', Own 3 1 v (l.filter (fun x => !p x)).length (rows encI (l.filter (fun x => !p x))) C' ∧ St w0 w' (C' :: F)) := by
  obtain ⟨A, c, rfl, hmc, hcx⟩ := hO.open'
  refine enter (vs := [.slice A l.length c, .func (.func g) first cap]) 42 Tryd.func16 rfl rfl (by simp) ?_; intro a hA
  refine wp_seq ?_
  refine wp_region_lit ?_
  refine st_run tbOk 1 hA (e' := (4, .slice none 0 0) :: _) rfl ?_; clear hA; intro a hA
  refine wpList_nil ?_
  replace hA := hA.sel [0, 1] (e' := [(0, .slice A l.length c), (1, .func (.func g) first cap)]) rfl
  refine xt_norm ?_
  refine wp_seq ?_
  refine wp_region_lit ?_
  refine st_run tbOk 2 hA (e' := (9, .func (.func g) first cap) :: (8, .slice A l.length c) :: _) rfl ?_; clear hA; intro a hA
  refine st_call0 hA rfl rfl rfl isfn23 rfl rfl (by decide) (indexFunc23 hS (l := l) (RdS.own hO 0 rfl) hg hp.cons) ?_
  clear hA hS; rintro v w1 a ⟨rfl, hS⟩ hA
  refine st_run tbOk 1 hA (e' := (5, .int .i64 (idx p l)) :: _) rfl ?_; clear hA; intro a hA
  refine wpList_nil ?_
  replace hA := hA.sel [0, 1, 5] (e' := [(0, .slice A l.length c), (1, .func (.func g) first cap), (5, .int .i64 (idx p l))]) rfl
  refine xt_norm ?_
  refine wp_seq ?_
  refine wp_seq ?_
  rcases idx_cases p l with ⟨hi, hf⟩ | ⟨k, x0, hi, hx0, hpx0, hb⟩
  · replace hA := hA.rw 5 (v' := .int .i64 (-1)) rfl (by rw [hi])
    refine wp_region_lit ?_
    refine st_run tbOk 2 hA (e' := (12, .bool true) :: (11, .int .i64 (-1)) :: _) rfl ?_; clear hA; intro a hA
    refine wpList_nil ?_
    replace hA := hA.sel [0, 1, 5, 12] (e' := [(0, .slice A l.length c), (1, .func (.func g) first cap), (5, .int .i64 (-1)), (12, .bool true)]) rfl
    refine xt_norm ?_
    refine cd_cond_t hA rfl ?_
    refine wp_seq ?_
    refine wp_region_lit ?_
    refine st_run tbOk 2 hA (e' := (4, .slice A l.length c) :: (13, .slice A l.length c) :: _) rfl ?_; clear hA; intro a hA
    refine wpList_nil ?_
    replace hA := hA.sel [4] (e' := [(4, .slice A l.length c)]) rfl
    refine xt_norm ?_
    refine wp_ret (xt_ret ?_)
    refine ret1 (fn := Tryd.f16) hA rfl rfl ?_
    have hfl : l.filter (fun x => !p x) = l := List.filter_eq_self.2 (fun y hy => by obtain ⟨i, hi⟩ := List.mem_iff_getElem?.1 hy; simp [hf i y hi])
    exact ⟨C, by rw [hfl]; exact hO, hS⟩
  · replace hA := hA.rw 5 (v' := .int .i64 ((k : Nat) : Int)) rfl (by rw [hi])
    have hkl := (List.getElem?_eq_some_iff.1 hx0).1
    refine wp_region_lit ?_
    refine st_run tbOk 2 hA (e' := (12, .bool (((k : Nat) : Int) == (-1))) :: (11, .int .i64 ((k : Nat) : Int)) :: _) rfl ?_; clear hA; intro a hA
    refine wpList_nil ?_
    replace hA := hA.sel [0, 1, 5, 12] (e' := [(0, .slice A l.length c), (1, .func (.func g) first cap), (5, .int .i64 ((k : Nat) : Int)), (12, .bool (((k : Nat) : Int) == (-1)))]) rfl
    refine xt_norm ?_
    by_cases hc2 : ((k : Nat) : Int) = (-1)
    · first
      | (exfalso; omega)
      | (replace hA := hA.rw 12 (v' := .bool true) rfl (vb_eq_t hc2)
         refine cd_cond_t hA rfl ?_
         refine wp_seq ?_
         refine wp_region_lit ?_
         refine st_run tbOk 2 hA (e' := (4, .slice A l.length c) :: (13, .slice A l.length c) :: _) rfl ?_; clear hA; intro a hA
         refine wpList_nil ?_
         replace hA := hA.sel [4] (e' := [(4, .slice A l.length c)]) rfl
         refine xt_norm ?_
         refine wp_ret (xt_ret ?_)
         refine ret1 (fn := Tryd.f16) hA rfl rfl ?_
         have hfl : l.filter (fun x => !p x) = l := List.filter_eq_self.2 (fun y hy => by obtain ⟨i, hi⟩ := List.mem_iff_getElem?.1 hy; simp [hf i y hi])
         exact ⟨C, by rw [hfl]; exact hO, hS⟩)
    · first
      | (exfalso; omega)
      | (replace hA := hA.rw 12 (v' := .bool false) rfl (vb_eq_f hc2)
         refine cd_cond_f hA rfl ?_
         refine wp_skip ?_
         refine xt_norm ?_
         refine wp_seq ?_
         refine wp_seq ?_
         refine wp_region_lit ?_
         refine st_run tbOk 2 hA (e' := (15, .int .i64 (IntKind.i64.wrap (((k : Nat) : Int) + 1))) :: (14, .int .i64 ((k : Nat) : Int)) :: _) rfl ?_; clear hA; intro a hA
         replace hA := hA.rw 15 (v' := .int .i64 ((k + 1 : Nat) : Int)) rfl (wr64 (by omega) (by omega) (by omega))
         refine st_run tbOk 1 hA (e' := (6, .int .i64 ((k + 1 : Nat) : Int)) :: _) rfl ?_; clear hA; intro a hA
         refine wpList_nil ?_
         replace hA := hA.sel [0, 1, 5, 6] (e' := [(0, .slice A l.length c), (1, .func (.func g) first cap), (5, .int .i64 ((k : Nat) : Int)), (6, .int .i64 ((k + 1 : Nat) : Int))]) rfl
         refine xt_norm ?_
         refine wp_block ?_
         have hk1 : (kept p l (k + 1)).length = k := by rw [kept_step hx0, if_pos hpx0, kept_first hb, List.length_take]; omega
         replace hA := hA.rw 5 (v' := .int .i64 (((kept p l (k + 1)).length : Nat) : Int)) rfl (by rw [hk1])
         refine wp_loop_ghost (fun m a w => ∃ (j : Nat) (C : Chunk), m = l.length - j ∧ Has a 42 [(0, .slice A l.length c), (1, .func (.func g) first cap), (5, .int .i64 (((kept p l j).length : Nat) : Int)), (6, .int .i64 ((j : Nat) : Int))] ∧ St w0 w (C :: F) ∧ k < j ∧ j ≤ l.length ∧ Own 3 1 (.slice A l.length c) l.length (rows encI (mid p l j)) C) (l.length - (k + 1))
           ⟨(k + 1), C, rfl, (hA.sel [0, 1, 5, 6] rfl), hS, by omega, by omega, by rw [mid_no hx0 hpx0, mid_first (by omega) hb]; exact hO⟩ ?_
         clear hA hS; rintro m0 a w3 ⟨j, C, rfl, hA, hS, hj1, hj, hO⟩
         have hkj := kept_le p l j
         refine wp_seq ?_
         refine wp_seq ?_
         refine wp_region_lit ?_
         refine st_run tbOk 4 hA (e' := (19, .bool (decide (((j : Nat) : Int) < ((l.length : Nat) : Int)))) :: (18, .int .i64 ((l.length : Nat) : Int)) :: (17, .slice A l.length c) :: (16, .int .i64 ((j : Nat) : Int)) :: _) rfl ?_; clear hA; intro a hA
         refine wpList_nil ?_
         replace hA := hA.sel [0, 1, 5, 6, 19] (e' := [(0, .slice A l.length c), (1, .func (.func g) first cap), (5, .int .i64 (((kept p l j).length : Nat) : Int)), (6, .int .i64 ((j : Nat) : Int)), (19, .bool (decide (((j : Nat) : Int) < ((l.length : Nat) : Int))))]) rfl
         refine xt_norm ?_
         by_cases hc4 : ((j : Nat) : Int) < ((l.length : Nat) : Int)
         · first
           | (exfalso; omega)
           | (replace hA := hA.rw 19 (v' := .bool true) rfl (vb_true hc4)
              refine cd_cond_t hA rfl ?_
              refine wp_skip ?_
              refine xt_norm ?_
              refine wp_seq ?_
              refine wp_block ?_
              refine wp_seq ?_
              refine wp_region_lit ?_
              refine st_run tbOk 2 hA (e' := (23, .int .i64 ((j : Nat) : Int)) :: (22, .slice A l.length c) :: _) rfl ?_; clear hA; intro a hA
              obtain ⟨b5, o6, rfl⟩ := hO.isSome (k := j) (by omega)
              refine st_val hA rfl rfl (by decide) (rn_indexAddr tbOk hA j (o6 + j) rfl rfl rfl rfl rfl rfl (by rfl) (by omega) (by first | rfl | simp [Nat.mul_one, Nat.zero_add] | omega)) ?_; clear hA; intro a hA
              obtain ⟨x7, hx7⟩ := get_ex (l := l) (k := j) (by omega)
              have gx7 := (mid_at (p := p) (l := l) (Nat.le_refl j)).trans hx7
              refine st_val hA rfl rfl (by decide) (rn_load tbOk hA rfl rfl rfl rfl ((hO.rd (hS.own_ 0 rfl)).elem0 encI_ok gx7 rfl)) ?_; clear hA; intro a hA
              refine st_run tbOk 1 hA (e' := (7, .int .i64 x7) :: _) rfl ?_; clear hA; intro a hA
              refine wpList_nil ?_
              replace hA := hA.sel [0, 1, 5, 6, 7] (e' := [(0, .slice (some ⟨b5, o6, none⟩) l.length c), (1, .func (.func g) first cap), (5, .int .i64 (((kept p l j).length : Nat) : Int)), (6, .int .i64 ((j : Nat) : Int)), (7, .int .i64 x7)]) rfl
              refine xt_norm ?_
              refine wp_seq ?_
              refine wp_region_lit ?_
              refine st_run tbOk 2 hA (e' := (27, .int .i64 x7) :: (26, .func (.func g) first cap) :: _) rfl ?_; clear hA; intro a hA
              refine st_call hA rfl rfl rfl rfl hg rfl rfl (by decide) (hp _ x7 (hS.tail 1 rfl)) ?_
              clear hA; rintro v w8 a ⟨rfl, hS'⟩ hA; replace hS : St w0 w8 (C :: F) := hS.trans hS'
              by_cases hpx : (p x7) = true
              · first
                | (exfalso; omega)
                | (replace hA := hA.rw 28 (v' := .bool true) rfl (vb_t hpx)
                   refine st_run tbOk 1 hA (e' := (29, .bool false) :: _) rfl ?_; clear hA; intro a hA
                   refine wpList_nil ?_
                   replace hA := hA.sel [0, 1, 5, 6, 7, 29] (e' := [(0, .slice (some ⟨b5, o6, none⟩) l.length c), (1, .func (.func g) first cap), (5, .int .i64 (((kept p l j).length : Nat) : Int)), (6, .int .i64 ((j : Nat) : Int)), (7, .int .i64 x7), (29, .bool false)]) rfl
                   refine xt_norm ?_
                   refine cd_cond_f hA rfl ?_
                   refine wp_skip ?_
                   refine xb_norm ?_
                   refine xt_norm ?_
                   refine wp_region_lit ?_
                   refine st_run tbOk 2 hA (e' := (21, .int .i64 (IntKind.i64.wrap (((j : Nat) : Int) + 1))) :: (20, .int .i64 ((j : Nat) : Int)) :: _) rfl ?_; clear hA; intro a hA
                   replace hA := hA.rw 21 (v' := .int .i64 ((j + 1 : Nat) : Int)) rfl (wr64 (by omega) (by omega) (by omega))
                   refine st_run tbOk 1 hA (e' := (6, .int .i64 ((j + 1 : Nat) : Int)) :: _) rfl ?_; clear hA; intro a hA
                   refine wpList_nil ?_
                   replace hA := hA.sel [0, 1, 5, 6] (e' := [(0, .slice (some ⟨b5, o6, none⟩) l.length c), (1, .func (.func g) first cap), (5, .int .i64 (((kept p l j).length : Nat) : Int)), (6, .int .i64 ((j + 1 : Nat) : Int))]) rfl
                   have h2 : (kept p l (j + 1)).length = (kept p l j).length := by rw [kept_step hx7, if_pos (by simpa using hpx)]
                   have h3 : Own 3 1 (.slice (some ⟨b5, o6, none⟩) l.length c) l.length (rows encI (mid p l (j + 1))) C := by rw [mid_no hx7 (by simpa using hpx)]; exact hO
                   replace hA := hA.rw 5 (v' := .int .i64 (((kept p l (j + 1)).length : Nat) : Int)) rfl (by rw [h2])
                   exact lp_next _ (by omega) ⟨(j + 1), C, rfl, (hA.sel [0, 1, 5, 6] rfl), hS, by omega, by omega, h3⟩)
              · first
                | (exfalso; omega)
                | (replace hA := hA.rw 28 (v' := .bool false) rfl (vb_f hpx)
                   refine st_run tbOk 1 hA (e' := (29, .bool true) :: _) rfl ?_; clear hA; intro a hA
                   refine wpList_nil ?_
                   replace hA := hA.sel [0, 1, 5, 6, 7, 29] (e' := [(0, .slice (some ⟨b5, o6, none⟩) l.length c), (1, .func (.func g) first cap), (5, .int .i64 (((kept p l j).length : Nat) : Int)), (6, .int .i64 ((j : Nat) : Int)), (7, .int .i64 x7), (29, .bool true)]) rfl
                   refine xt_norm ?_
                   refine cd_cond_t hA rfl ?_
                   refine wp_seq ?_
                   refine wp_region_lit ?_
                   refine st_run tbOk 3 hA (e' := (32, .int .i64 x7) :: (31, .int .i64 (((kept p l j).length : Nat) : Int)) :: (30, .slice (some ⟨b5, o6, none⟩) l.length c) :: _) rfl ?_; clear hA; intro a hA
                   refine st_val hA rfl rfl (by decide) (rn_indexAddr tbOk hA ((kept p l j).length) (o6 + ((kept p l j).length)) rfl rfl rfl rfl rfl rfl (by rfl) (by omega) (by first | rfl | simp [Nat.mul_one, Nat.zero_add] | omega)) ?_; clear hA; intro a hA
                   refine st_store_own tbOk hA hO hS (((kept p l j).length)) (o6 + ((kept p l j).length)) [.int .i64 x7] (rows encI ((mid p l j).set (kept p l j).length x7)) rfl rfl rfl rfl (by rfl) rfl rfl (by intro u hu; rw [List.mem_singleton.1 hu]; rfl) (by rw [rows_length encI_ok, mid_length]; have := kept_le p l j; simp only [List.length_cons, List.length_nil]; omega) (by have := rows_set encI_ok (x := x7) (l := mid p l j) (k := (kept p l j).length) (by rw [mid_length]; have := kept_le p l j; omega); rw [Nat.mul_one] at this; exact this) rfl rfl ?_; clear hS; intro w9 C10 hO10 hS
                   refine wpList_nil ?_
                   replace hA := hA.sel [0, 1, 5, 6] (e' := [(0, .slice (some ⟨b5, o6, none⟩) l.length c), (1, .func (.func g) first cap), (5, .int .i64 (((kept p l j).length : Nat) : Int)), (6, .int .i64 ((j : Nat) : Int))]) rfl
                   refine xt_norm ?_
                   refine wp_region_lit ?_
                   refine st_run tbOk 2 hA (e' := (35, .int .i64 (IntKind.i64.wrap ((((kept p l j).length : Nat) : Int) + 1))) :: (34, .int .i64 (((kept p l j).length : Nat) : Int)) :: _) rfl ?_; clear hA; intro a hA
                   replace hA := hA.rw 35 (v' := .int .i64 ((((kept p l j).length) + 1 : Nat) : Int)) rfl (wr64 (by omega) (by omega) (by omega))
                   refine st_run tbOk 1 hA (e' := (5, .int .i64 ((((kept p l j).length) + 1 : Nat) : Int)) :: _) rfl ?_; clear hA; intro a hA
                   refine wpList_nil ?_
                   replace hA := hA.sel [0, 1, 5, 6] (e' := [(0, .slice (some ⟨b5, o6, none⟩) l.length c), (1, .func (.func g) first cap), (5, .int .i64 ((((kept p l j).length) + 1 : Nat) : Int)), (6, .int .i64 ((j : Nat) : Int))]) rfl
                   refine xb_norm ?_
                   refine xt_norm ?_
                   refine wp_region_lit ?_
                   refine st_run tbOk 2 hA (e' := (21, .int .i64 (IntKind.i64.wrap (((j : Nat) : Int) + 1))) :: (20, .int .i64 ((j : Nat) : Int)) :: _) rfl ?_; clear hA; intro a hA
                   replace hA := hA.rw 21 (v' := .int .i64 ((j + 1 : Nat) : Int)) rfl (wr64 (by omega) (by omega) (by omega))
                   refine st_run tbOk 1 hA (e' := (6, .int .i64 ((j + 1 : Nat) : Int)) :: _) rfl ?_; clear hA; intro a hA
                   refine wpList_nil ?_
                   replace hA := hA.sel [0, 1, 5, 6] (e' := [(0, .slice (some ⟨b5, o6, none⟩) l.length c), (1, .func (.func g) first cap), (5, .int .i64 ((((kept p l j).length) + 1 : Nat) : Int)), (6, .int .i64 ((j + 1 : Nat) : Int))]) rfl
                   have h2 : (kept p l (j + 1)).length = (kept p l j).length + 1 := by rw [kept_step hx7, if_neg (by simpa using hpx), List.length_append]; rfl
                   have h3 : Own 3 1 (.slice (some ⟨b5, o6, none⟩) l.length c) l.length (rows encI (mid p l (j + 1))) C10 := by rw [mid_yes hx7 (by simpa using hpx)]; exact hO10
                   replace hA := hA.rw 5 (v' := .int .i64 (((kept p l (j + 1)).length : Nat) : Int)) rfl (by rw [h2])
                   exact lp_next _ (by omega) ⟨(j + 1), C10, rfl, (hA.sel [0, 1, 5, 6] rfl), hS, by omega, by omega, h3⟩))
         · first
           | (exfalso; omega)
           | (replace hA := hA.rw 19 (v' := .bool false) rfl (vb_false hc4)
              refine cd_cond_f hA rfl ?_
              refine wp_exit ?_
              refine xt_exit ?_
              refine xt_exit ?_
              refine cd_exit_eq ?_
              refine xt_norm ?_
              refine wp_seq ?_
              refine wp_region_lit ?_
              refine st_run tbOk 2 hA (e' := (37, .int .i64 (((kept p l j).length : Nat) : Int)) :: (36, .slice A l.length c) :: _) rfl ?_; clear hA; intro a hA
              refine st_val hA rfl rfl (by decide) (rn_slice_l tbOk hA ((kept p l j).length) rfl rfl rfl rfl rfl rfl (by rfl) (by omega)) ?_; clear hA; intro a hA
              refine st_clear tbOk hA (h := (kept p l j).length) (old := l.length) (c := c) rfl rfl rfl rfl rfl rfl (fun u hu => List.all_eq_true.1 (by rfl) u hu) (hO.head (kept p l j).length (by omega)) hS (by omega) (by omega) rfl rfl ?_; clear hS; intro w11 C12 hO12 hS
              obtain rfl : j = l.length := by omega
              rw [rows_take encI_ok, mid_head, kept_all] at hO12
              have e1 : (kept p l l.length).length = (l.filter (fun x => !p x)).length := by rw [kept_all]
              refine wpList_nil ?_
              replace hA := hA.sel [0, 5] (e' := [(0, .slice A l.length c), (5, .int .i64 (((kept p l l.length).length : Nat) : Int))]) rfl
              refine xt_norm ?_
              refine wp_seq ?_
              refine wp_region_lit ?_
              refine st_run tbOk 2 hA (e' := (40, .int .i64 (((kept p l l.length).length : Nat) : Int)) :: (39, .slice A l.length c) :: _) rfl ?_; clear hA; intro a hA
              refine st_val hA rfl rfl (by decide) (rn_slice_h tbOk hA ((kept p l l.length).length) rfl rfl rfl rfl rfl rfl (by rfl) (by omega)) ?_; clear hA; intro a hA
              refine st_run tbOk 1 hA (e' := (4, .slice A ((kept p l l.length).length) c) :: _) rfl ?_; clear hA; intro a hA
              refine wpList_nil ?_
              replace hA := hA.sel [4] (e' := [(4, .slice A ((kept p l l.length).length) c)]) rfl
              refine xt_norm ?_
              refine wp_ret ?_
              refine ret1 (fn := Tryd.f16) hA rfl rfl ?_
              exact ⟨_, (e1 ▸ hO12), hS⟩))

theorem delete12 {w0 w : World} {F : List Chunk} {C : Chunk} (hS : St w0 w (C :: F)) {v : Value} {l : List Int} (hO : Own 3 1 v l.length (rows encI l) C) (i j : Nat) (hij : i ≤ j) (hj : j ≤ l.length) :
    Ret Tryd.prog 12 #[v, .int .i64 ((i : Nat) : Int), .int .i64 ((j : Nat) : Int)] w (fun v w' => ∃ C', Own 3 1 v (l.take i ++ l.drop j).length (rows encI (l.take i ++ l.drop j)) C' ∧ St w0 w' (C' :: F)) := by
  obtain ⟨A, c, rfl, hmc, hcx⟩ := hO.open'
  refine enter (vs := [.slice A l.length c, .int .i64 ((i : Nat) : Int), .int .i64 ((j : Nat) : Int)]) 33 Tryd.func12 rfl rfl (by simp) ?_; intro a hA
  refine wp_seq ?_
  refine wp_region_lit ?_
  refine st_run tbOk 1 hA (e' := (6, .slice none 0 0) :: _) rfl ?_; clear hA; intro a hA
  refine wpList_nil ?_
  replace hA := hA.sel [0, 1, 2] (e' := [(0, .slice A l.length c), (1, .int .i64 ((i : Nat) : Int)), (2, .int .i64 ((j : Nat) : Int))]) rfl
  refine xt_norm ?_
  refine wp_seq ?_
  refine wp_region_lit ?_
  refine st_run tbOk 5 hA (e' := (12, .int .i64 ((l.length : Nat) : Int)) :: (11, .slice A l.length c) :: (10, .int .i64 ((j : Nat) : Int)) :: (9, .int .i64 ((i : Nat) : Int)) :: (8, .slice A l.length c) :: _) rfl ?_; clear hA; intro a hA
  refine st_val hA rfl rfl (by decide) (rn_slice_lhm tbOk hA i j l.length rfl rfl rfl rfl rfl rfl rfl rfl (by rfl) (by rfl) (by rfl) (by omega) (by omega) (by omega)) ?_; clear hA; intro a hA
  refine wpList_nil ?_
  replace hA := hA.sel [0, 1, 2] (e' := [(0, .slice A l.length c), (1, .int .i64 ((i : Nat) : Int)), (2, .int .i64 ((j : Nat) : Int))]) rfl
  refine xt_norm ?_
  refine wp_seq ?_
  refine wp_seq ?_
  refine wp_region_lit ?_
  refine st_run tbOk 3 hA (e' := (16, .bool (((i : Nat) : Int) == ((j : Nat) : Int))) :: (15, .int .i64 ((j : Nat) : Int)) :: (14, .int .i64 ((i : Nat) : Int)) :: _) rfl ?_; clear hA; intro a hA
  refine wpList_nil ?_
  replace hA := hA.sel [0, 1, 2, 16] (e' := [(0, .slice A l.length c), (1, .int .i64 ((i : Nat) : Int)), (2, .int .i64 ((j : Nat) : Int)), (16, .bool (((i : Nat) : Int) == ((j : Nat) : Int)))]) rfl
  refine xt_norm ?_
  by_cases hc1 : ((i : Nat) : Int) = ((j : Nat) : Int)
  · first
    | (exfalso; omega)
    | (replace hA := hA.rw 16 (v' := .bool true) rfl (vb_eq_t hc1)
       refine cd_cond_t hA rfl ?_
       refine wp_seq ?_
       refine wp_region_lit ?_
       refine st_run tbOk 2 hA (e' := (6, .slice A l.length c) :: (17, .slice A l.length c) :: _) rfl ?_; clear hA; intro a hA
       refine wpList_nil ?_
       replace hA := hA.sel [6] (e' := [(6, .slice A l.length c)]) rfl
       refine xt_norm ?_
       refine wp_ret (xt_ret ?_)
       refine ret1 (fn := Tryd.f12) hA rfl rfl ?_
       have e0 : l.take i ++ l.drop j = l := by rw [show j = i by omega, List.take_append_drop]
       exact ⟨C, by rw [e0]; exact hO, hS⟩)
  · first
    | (exfalso; omega)
    | (replace hA := hA.rw 16 (v' := .bool false) rfl (vb_eq_f hc1)
       refine cd_cond_f hA rfl ?_
       refine wp_skip ?_
       refine xt_norm ?_
       refine wp_seq ?_
       refine wp_region_lit ?_
       refine st_run tbOk 3 hA (e' := (7, .int .i64 ((l.length : Nat) : Int)) :: (19, .int .i64 ((l.length : Nat) : Int)) :: (18, .slice A l.length c) :: _) rfl ?_; clear hA; intro a hA
       refine wpList_nil ?_
       replace hA := hA.sel [0, 1, 2, 7] (e' := [(0, .slice A l.length c), (1, .int .i64 ((i : Nat) : Int)), (2, .int .i64 ((j : Nat) : Int)), (7, .int .i64 ((l.length : Nat) : Int))]) rfl
       refine xt_norm ?_
       refine wp_seq ?_
       refine wp_draw (fun w' => St w0 w' (F)) [] [(0, true), (1, true), (2, true), (3, true), (4, true), (5, true), (6, false), (7, true)] mixed (by kernel_rfl) (by rintro c a w ⟨_, _, h, _⟩; cases h) (by rfl) (by kernel_rfl) ?_
       replace hS := hS.drew
       refine dr_run tbOk 2 hA (hS.tail 1 rfl) (e' := (21, .int .i64 ((i : Nat) : Int)) :: (20, .slice A l.length c) :: _) rfl ?_; clear hA; intro a hA
       refine dr_y hA rfl rfl rfl (by decide) (hS.tail 1 rfl) (fun w' hS' => rn_slice_h tbOk hA i rfl rfl rfl rfl rfl rfl (by rfl) (by omega)) ?_; clear hA; intro a hA
       refine dr_run tbOk 2 hA (hS.tail 1 rfl) (e' := (24, .int .i64 ((j : Nat) : Int)) :: (23, .slice A l.length c) :: _) rfl ?_; clear hA; intro a hA
       refine dr_y hA rfl rfl rfl (by decide) (hS.tail 1 rfl) (fun w' hS' => rn_slice_l tbOk hA j rfl rfl rfl rfl rfl rfl (by rfl) (by omega)) ?_; clear hA; intro a hA
       refine dr_b (o := _) rfl ?_
       refine st_append_rm tbOk hA (m := i) (q := ((l.take l.length).drop j).length) (c := c) (xs := (rows encI l).take (i * 1)) (news := rows encI ((l.take l.length).drop j)) rfl rfl rfl rfl rfl rfl rfl (hO.head i (by omega)) hS ((hO.rd (hS.own_ 0 rfl)).rslv encI_ok j l.length c (by omega) (by omega) (by omega) (by omega)) (rows_one encI_ok _) (by simp; omega) rfl rfl (by decide) ?_
       clear hA hS; intro w2 C3 a hO3 hS hA
       have e1 : i + ((l.take l.length).drop j).length = (l.take i ++ l.drop j).length := by simp; omega
       have e2 : (rows encI l).take (i * 1) ++ rows encI ((l.take l.length).drop j) = rows encI (l.take i ++ l.drop j) := by rw [rows_take encI_ok, rows_append, List.take_length]
       rw [e2, e1] at hO3
       rw [e1] at hA
       have e3 : (l.take i ++ l.drop j).length ≤ l.length := by simp; omega
       refine dr_nil (.inr (hS.tail 1 rfl)) ?_
       refine dr_run tbOk 1 hA (hS.tail 1 rfl) (e' := (0, .slice A ((l.take i ++ l.drop j).length) c) :: _) rfl ?_; clear hA; intro a hA
       refine dr_end ?_
       replace hA := hA.sel [0, 7] (e' := [(0, .slice A ((l.take i ++ l.drop j).length) c), (7, .int .i64 ((l.length : Nat) : Int))]) rfl
       refine xt_norm ?_
       refine wp_seq ?_
       refine wp_region_lit ?_
       refine st_run tbOk 4 hA (e' := (30, .int .i64 ((l.length : Nat) : Int)) :: (29, .int .i64 (((l.take i ++ l.drop j).length : Nat) : Int)) :: (28, .slice A ((l.take i ++ l.drop j).length) c) :: (27, .slice A ((l.take i ++ l.drop j).length) c) :: _) rfl ?_; clear hA; intro a hA
       refine st_val hA rfl rfl (by decide) (rn_slice_lh tbOk hA ((l.take i ++ l.drop j).length) l.length rfl rfl rfl rfl rfl rfl rfl (by rfl) (by rfl) (by omega) (by omega)) ?_; clear hA; intro a hA
       refine st_clear tbOk hA (h := (l.take i ++ l.drop j).length) (old := l.length) (c := c) rfl rfl rfl rfl rfl rfl (fun u hu => List.all_eq_true.1 (by rfl) u hu) hO3 hS (by omega) (by omega) rfl rfl ?_; clear hS; intro w4 C5 hO5 hS
       refine wpList_nil ?_
       replace hA := hA.sel [0] (e' := [(0, .slice A ((l.take i ++ l.drop j).length) c)]) rfl
       refine xt_norm ?_
       refine wp_seq ?_
       refine wp_region_lit ?_
       refine st_run tbOk 2 hA (e' := (6, .slice A ((l.take i ++ l.drop j).length) c) :: (32, .slice A ((l.take i ++ l.drop j).length) c) :: _) rfl ?_; clear hA; intro a hA
       refine wpList_nil ?_
       replace hA := hA.sel [6] (e' := [(6, .slice A ((l.take i ++ l.drop j).length) c)]) rfl
       refine xt_norm ?_
       refine wp_ret ?_
       refine ret1 (fn := Tryd.f12) hA rfl rfl ?_
       exact ⟨_, hO5, hS⟩)

theorem push_ok10 {w0 w : World} {F : List Chunk} (hS : St w0 w F) {v : Value} {l : List Int} (hr : RdS w0 F 1 v l.length (rows encI l)) (x : Int) (h1 : l.any (fun y => y == x) = false) (h2 : l.length < 64) :
    Ret Tryd.prog 10 #[v, .int .i64 x] w (fun v w' => ∃ v1 C, v = .tuple #[v1, .nilIface] ∧ Own 3 1 v1 (l ++ [x]).length (rows encI (l ++ [x])) C ∧ St w0 w' (C :: F)) := by
  obtain ⟨A, c, rfl, hmc, hcx⟩ := (hr w hS).open'
  refine enter (vs := [.slice A l.length c, .int .i64 x]) 21 Tryd.func10 rfl rfl (by simp) ?_; intro a hA
  refine wp_seq ?_
  refine wp_region_lit ?_
  refine st_run tbOk 2 hA (e' := (5, .nilIface) :: (4, .slice none 0 0) :: _) rfl ?_; clear hA; intro a hA
  refine wpList_nil ?_
  replace hA := hA.sel [0, 1] (e' := [(0, .slice A l.length c), (1, .int .i64 x)]) rfl
  refine xt_norm ?_
  refine wp_seq ?_
  refine wp_block ?_
  refine wp_seq ?_
  refine wp_region_lit ?_
  refine st_run tbOk 2 hA (e' := (8, .int .i64 x) :: (7, .slice A l.length c) :: _) rfl ?_; clear hA; intro a hA
  refine st_call0 hA rfl rfl rfl isfn15 rfl rfl (by decide) (contains15 hS (l := l) (fun w' h => (hr _ h)) x) ?_
  clear hA hS; rintro v w1 a ⟨rfl, hS⟩ hA
  refine st_run tbOk 1 hA (e' := (6, .bool (l.any (fun y => y == x))) :: _) rfl ?_; clear hA; intro a hA
  refine wpList_nil ?_
  replace hA := hA.sel [0, 1, 6] (e' := [(0, .slice A l.length c), (1, .int .i64 x), (6, .bool (l.any (fun y => y == x)))]) rfl
  refine xt_norm ?_
  have hc2 : ¬ ((l.any (fun y => y == x)) = true) := (by rw [h1]; decide)
  replace hA := hA.rw 6 (v' := .bool false) rfl (vb_f hc2)
  refine cd_cond_f hA rfl ?_
  refine wp_seq ?_
  refine wp_region_lit ?_
  refine st_run tbOk 4 hA (e' := (11, .bool (decide (((l.length : Nat) : Int) ≥ 64))) :: (14, .bool (decide (((l.length : Nat) : Int) ≥ 64))) :: (13, .int .i64 ((l.length : Nat) : Int)) :: (12, .slice A l.length c) :: _) rfl ?_; clear hA; intro a hA
  refine wpList_nil ?_
  replace hA := hA.sel [0, 1, 11] (e' := [(0, .slice A l.length c), (1, .int .i64 x), (11, .bool (decide (((l.length : Nat) : Int) ≥ 64)))]) rfl
  refine xt_norm ?_
  have hc3 : ¬ (((l.length : Nat) : Int) ≥ 64) := by omega
  replace hA := hA.rw 11 (v' := .bool false) rfl (vb_false hc3)
  refine cd_cond_f hA rfl ?_
  refine wp_skip ?_
  refine xb_norm ?_
  refine xt_norm ?_
  refine wp_seq ?_
  refine wp_region_lit ?_
  refine st_run tbOk 1 hA (e' := (16, .slice A l.length c) :: _) rfl ?_; clear hA; intro a hA
  refine st_call0 hA rfl rfl rfl isfn13 rfl rfl (by decide) (clone13 hS (l := l) (fun w' h => (hr _ h)) (by omega)) ?_
  clear hA hS; rintro v4 w5 a ⟨C6, hO6, hS⟩ hA
  obtain ⟨A7, c8, rfl, hmc8, hxc8⟩ := hO6.open'
  refine st_run tbOk 1 hA (e' := (18, .int .i64 x) :: _) rfl ?_; clear hA; intro a hA
  refine st_buildSlice tbOk hA hS [.int .i64 x] rfl rfl rfl rfl rfl (by decide) (by kernel_rfl) rfl rfl (by decide) ?_; clear hA hS; intro b9 w10 a hS hA
  replace hS := hS.front 1 (C := C6) (L' := [(b9, rowO [.int .i64 x] 3)] :: F) rfl rfl
  refine st_append tbOk hA (m := l.length) (q := 1) (xs := rows encI l) (news := rows encI ([x] : List Int)) rfl rfl rfl rfl rfl rfl rfl rfl (by decide) hO6 hS ((Own.full (T := 3) (size := 1) (g := b9) (m := 1) rfl (by decide)).rd (hS.own_ 1 rfl)) (rows_one encI_ok _) (maxLen_le (by omega)) (by show (l.length + 1) * 8 ≤ 140737488355328; omega) rfl rfl (by decide) ?_
  clear hA hS; intro v11 w12 C13 a hO13 hS hA
  replace hO13 := Own.app (l := l) (l2 := ([x] : List Int)) hO13
  obtain ⟨A14, c15, rfl, hmc15, hxc15⟩ := hO13.open'
  refine st_run tbOk 2 hA (e' := (5, .nilIface) :: (4, .slice A14 ((l ++ ([x] : List Int)).length) c15) :: _) rfl ?_; clear hA; intro a hA
  refine wpList_nil ?_
  replace hA := hA.sel [4, 5] (e' := [(4, .slice A14 ((l ++ ([x] : List Int)).length) c15), (5, .nilIface)]) rfl
  refine xt_norm ?_
  refine wp_ret ?_
  refine ret2 (fn := Tryd.f10) hA rfl rfl rfl ?_
  replace hS := hS.drop2
  exact ⟨_, C13, rfl, hO13, hS⟩

theorem push_dup10 {w0 w : World} {F : List Chunk} (hS : St w0 w F) {v : Value} {l : List Int} (hr : RdS w0 F 1 v l.length (rows encI l)) (x : Int) (h1 : l.any (fun y => y == x) = true) :
    Ret Tryd.prog 10 #[v, .int .i64 x] w (fun v w' => v = .tuple #[.slice none 0 0, .iface 29 (.int .i64 11)] ∧ St w0 w' F) := by
  obtain ⟨A, c, rfl, hmc, hcx⟩ := (hr w hS).open'
  refine enter (vs := [.slice A l.length c, .int .i64 x]) 21 Tryd.func10 rfl rfl (by simp) ?_; intro a hA
  refine wp_seq ?_
  refine wp_region_lit ?_
  refine st_run tbOk 2 hA (e' := (5, .nilIface) :: (4, .slice none 0 0) :: _) rfl ?_; clear hA; intro a hA
  refine wpList_nil ?_
  replace hA := hA.sel [0, 1] (e' := [(0, .slice A l.length c), (1, .int .i64 x)]) rfl
  refine xt_norm ?_
  refine wp_seq ?_
  refine wp_block ?_
  refine wp_seq ?_
  refine wp_region_lit ?_
  refine st_run tbOk 2 hA (e' := (8, .int .i64 x) :: (7, .slice A l.length c) :: _) rfl ?_; clear hA; intro a hA
  refine st_call0 hA rfl rfl rfl isfn15 rfl rfl (by decide) (contains15 hS (l := l) (fun w' h => (hr _ h)) x) ?_
  clear hA hS; rintro v w1 a ⟨rfl, hS⟩ hA
  refine st_run tbOk 1 hA (e' := (6, .bool (l.any (fun y => y == x))) :: _) rfl ?_; clear hA; intro a hA
  refine wpList_nil ?_
  replace hA := hA.sel [0, 1, 6] (e' := [(0, .slice A l.length c), (1, .int .i64 x), (6, .bool (l.any (fun y => y == x)))]) rfl
  refine xt_norm ?_
  have hc2 : (l.any (fun y => y == x)) = true := h1
  replace hA := hA.rw 6 (v' := .bool true) rfl (vb_t hc2)
  refine cd_cond_t hA rfl ?_
  refine wp_seq ?_
  refine wp_region_lit ?_
  refine st_run tbOk 3 hA (e' := (5, .iface 29 (.int .i64 11)) :: (4, .slice none 0 0) :: (10, .iface 29 (.int .i64 11)) :: _) rfl ?_; clear hA; intro a hA
  refine wpList_nil ?_
  replace hA := hA.sel [4, 5] (e' := [(4, .slice none 0 0), (5, .iface 29 (.int .i64 11))]) rfl
  refine xt_norm ?_
  refine wp_ret (xb_ret (xt_ret ?_))
  refine ret2 (fn := Tryd.f10) hA rfl rfl rfl ?_
  exact ⟨rfl, hS⟩

theorem push_full10 {w0 w : World} {F : List Chunk} (hS : St w0 w F) {v : Value} {l : List Int} (hr : RdS w0 F 1 v l.length (rows encI l)) (x : Int) (h1 : l.any (fun y => y == x) = false) (h2 : 64 ≤ l.length) (hb : l.length * 8 ≤ 140737488355328) :
    Ret Tryd.prog 10 #[v, .int .i64 x] w (fun v w' => v = .tuple #[.slice none 0 0, .iface 29 (.int .i64 5)] ∧ St w0 w' F) := by
  obtain ⟨A, c, rfl, hmc, hcx⟩ := (hr w hS).open'
  refine enter (vs := [.slice A l.length c, .int .i64 x]) 21 Tryd.func10 rfl rfl (by simp) ?_; intro a hA
  refine wp_seq ?_
  refine wp_region_lit ?_
  refine st_run tbOk 2 hA (e' := (5, .nilIface) :: (4, .slice none 0 0) :: _) rfl ?_; clear hA; intro a hA
  refine wpList_nil ?_
  replace hA := hA.sel [0, 1] (e' := [(0, .slice A l.length c), (1, .int .i64 x)]) rfl
  refine xt_norm ?_
  refine wp_seq ?_
  refine wp_block ?_
  refine wp_seq ?_
  refine wp_region_lit ?_
  refine st_run tbOk 2 hA (e' := (8, .int .i64 x) :: (7, .slice A l.length c) :: _) rfl ?_; clear hA; intro a hA
  refine st_call0 hA rfl rfl rfl isfn15 rfl rfl (by decide) (contains15 hS (l := l) (fun w' h => (hr _ h)) x) ?_
  clear hA hS; rintro v w1 a ⟨rfl, hS⟩ hA
  refine st_run tbOk 1 hA (e' := (6, .bool (l.any (fun y => y == x))) :: _) rfl ?_; clear hA; intro a hA
  refine wpList_nil ?_
  replace hA := hA.sel [0, 1, 6] (e' := [(0, .slice A l.length c), (1, .int .i64 x), (6, .bool (l.any (fun y => y == x)))]) rfl
  refine xt_norm ?_
  have hc2 : ¬ ((l.any (fun y => y == x)) = true) := (by rw [h1]; decide)
  replace hA := hA.rw 6 (v' := .bool false) rfl (vb_f hc2)
  refine cd_cond_f hA rfl ?_
  refine wp_seq ?_
  refine wp_region_lit ?_
  refine st_run tbOk 4 hA (e' := (11, .bool (decide (((l.length : Nat) : Int) ≥ 64))) :: (14, .bool (decide (((l.length : Nat) : Int) ≥ 64))) :: (13, .int .i64 ((l.length : Nat) : Int)) :: (12, .slice A l.length c) :: _) rfl ?_; clear hA; intro a hA
  refine wpList_nil ?_
  replace hA := hA.sel [0, 1, 11] (e' := [(0, .slice A l.length c), (1, .int .i64 x), (11, .bool (decide (((l.length : Nat) : Int) ≥ 64)))]) rfl
  refine xt_norm ?_
  have hc3 : ((l.length : Nat) : Int) ≥ 64 := by omega
  replace hA := hA.rw 11 (v' := .bool true) rfl (vb_true hc3)
  refine cd_cond_t hA rfl ?_
  refine wp_seq ?_
  refine wp_region_lit ?_
  refine st_run tbOk 3 hA (e' := (5, .iface 29 (.int .i64 5)) :: (4, .slice none 0 0) :: (15, .iface 29 (.int .i64 5)) :: _) rfl ?_; clear hA; intro a hA
  refine wpList_nil ?_
  replace hA := hA.sel [4, 5] (e' := [(4, .slice none 0 0), (5, .iface 29 (.int .i64 5))]) rfl
  refine xt_norm ?_
  refine wp_ret (xb_ret (xt_ret ?_))
  refine ret2 (fn := Tryd.f10) hA rfl rfl rfl ?_
  exact ⟨rfl, hS⟩

theorem turn_round (p : Int) (n : Nat) (h : 0 < n) : ∃ k : Nat, k < n ∧ (k : Int) = p % (n : Int) ∧ (p.tmod n < 0 → p.tmod n + n = (k : Int)) ∧ (¬ p.tmod n < 0 → p.tmod n = (k : Int)) := by
  have h0 : (0 : Int) < n := by omega
  have h1 := Int.emod_nonneg p (b := (n : Int)) (by omega)
  have h2 := Int.emod_lt_of_pos p h0
  refine ⟨(p % (n : Int)).toNat, by omega, by omega, fun hn => ?_, fun hn => ?_⟩
  · have h3 := Int.tmod_lt_of_pos p h0
    have h4 := Int.tmod_add_mul_tdiv p n
    have h5 : (p.tmod n + n) % (n : Int) = p % n := by
      rw [Int.add_emod_right]
      conv => rhs; rw [← h4, Int.add_mul_emod_self_left]
    have h6 : -(n : Int) < p.tmod n := by
      have := Int.lt_tmod_of_pos p h0
      omega
    rw [Int.emod_eq_of_lt (by omega) (by omega)] at h5
    omega
  · have h3 := Int.tmod_lt_of_pos p h0
    have h4 := Int.tmod_add_mul_tdiv p n
    have h5 : (p.tmod n) % (n : Int) = p % n := by
      conv => rhs; rw [← h4, Int.add_mul_emod_self_left]
    rw [Int.emod_eq_of_lt (by omega) (by omega)] at h5
    omega

theorem take_ok7 {w0 w : World} {F : List Chunk} (hS : St w0 w F) {v : Value} {l : List Int} (hr : RdS w0 F 1 v l.length (rows encI l)) (p : Int) (h0 : 0 < l.length) (hb : l.length * 8 ≤ 140737488355328) :
    Ret Tryd.prog 7 #[v, .int .i64 p] w (fun v w' => ∃ (k : Nat) (x : Int) (v1 : Value) (C : Chunk), k < l.length ∧ (k : Int) = p % (l.length : Int) ∧ l[k]? = some x ∧ v = .tuple #[.int .i64 x, v1, .nilIface] ∧ Own 3 1 v1 (l.take k ++ l.drop (k + 1)).length (rows encI (l.take k ++ l.drop (k + 1))) C ∧ St w0 w' (C :: F)) := by
  obtain ⟨A, c, rfl, hmc, hcx⟩ := (hr w hS).open'
  obtain ⟨k, hk, hkp, hk1, hk2⟩ := turn_round p l.length h0
  obtain ⟨x, hx⟩ := get_ex (l := l) (k := k) hk
  refine enter (vs := [.slice A l.length c, .int .i64 p]) 32 Tryd.func7 rfl rfl (by simp) ?_; intro a hA
  refine wp_seq ?_
  refine wp_region_lit ?_
  refine st_run tbOk 3 hA (e' := (6, .nilIface) :: (5, .slice none 0 0) :: (4, .int .i64 0) :: _) rfl ?_; clear hA; intro a hA
  refine wpList_nil ?_
  replace hA := hA.sel [0, 1] (e' := [(0, .slice A l.length c), (1, .int .i64 p)]) rfl
  refine xt_norm ?_
  refine wp_seq ?_
  refine wp_seq ?_
  refine wp_region_lit ?_
  refine st_run tbOk 3 hA (e' := (10, .bool (((l.length : Nat) : Int) == 0)) :: (9, .int .i64 ((l.length : Nat) : Int)) :: (8, .slice A l.length c) :: _) rfl ?_; clear hA; intro a hA
  refine wpList_nil ?_
  replace hA := hA.sel [0, 1, 10] (e' := [(0, .slice A l.length c), (1, .int .i64 p), (10, .bool (((l.length : Nat) : Int) == 0))]) rfl
  refine xt_norm ?_
  have hc1 : ¬ (((l.length : Nat) : Int) = 0) := by omega
  replace hA := hA.rw 10 (v' := .bool false) rfl (vb_eq_f hc1)
  refine cd_cond_f hA rfl ?_
  refine wp_skip ?_
  refine xt_norm ?_
  refine wp_seq ?_
  refine wp_region_lit ?_
  refine st_run tbOk 3 hA (e' := (14, .int .i64 ((l.length : Nat) : Int)) :: (13, .slice A l.length c) :: (12, .int .i64 p) :: _) rfl ?_; clear hA; intro a hA
  refine st_val hA rfl rfl (by decide) (rn_rem hA rfl rfl rfl (by omega)) ?_; clear hA; intro a hA
  refine st_run tbOk 1 hA (e' := (7, .int .i64 (p.tmod ((l.length : Nat) : Int))) :: _) rfl ?_; clear hA; intro a hA
  refine wpList_nil ?_
  replace hA := hA.sel [0, 7] (e' := [(0, .slice A l.length c), (7, .int .i64 (p.tmod ((l.length : Nat) : Int)))]) rfl
  refine xt_norm ?_
  refine wp_seq ?_
  refine wp_seq ?_
  refine wp_region_lit ?_
  refine st_run tbOk 2 hA (e' := (17, .bool (decide (p.tmod ((l.length : Nat) : Int) < 0))) :: (16, .int .i64 (p.tmod ((l.length : Nat) : Int))) :: _) rfl ?_; clear hA; intro a hA
  refine wpList_nil ?_
  replace hA := hA.sel [0, 7, 17] (e' := [(0, .slice A l.length c), (7, .int .i64 (p.tmod ((l.length : Nat) : Int))), (17, .bool (decide (p.tmod ((l.length : Nat) : Int) < 0)))]) rfl
  refine xt_norm ?_
  by_cases hc2 : p.tmod ((l.length : Nat) : Int) < 0
  · first
    | (exfalso; omega)
    | (replace hA := hA.rw 17 (v' := .bool true) rfl (vb_true hc2)
       refine cd_cond_t hA rfl ?_
       refine wp_region_lit ?_
       refine st_run tbOk 4 hA (e' := (21, .int .i64 (IntKind.i64.wrap ((p.tmod ((l.length : Nat) : Int)) + ((l.length : Nat) : Int)))) :: (20, .int .i64 ((l.length : Nat) : Int)) :: (19, .slice A l.length c) :: (18, .int .i64 (p.tmod ((l.length : Nat) : Int))) :: _) rfl ?_; clear hA; intro a hA
       replace hA := hA.rw 21 (v' := .int .i64 ((p.tmod ((l.length : Nat) : Int)) + ((l.length : Nat) : Int))) rfl (wr64 (by omega) (by omega) (by omega))
       refine st_run tbOk 1 hA (e' := (7, .int .i64 ((p.tmod ((l.length : Nat) : Int)) + ((l.length : Nat) : Int))) :: _) rfl ?_; clear hA; intro a hA
       refine wpList_nil ?_
       replace hA := hA.sel [0, 7] (e' := [(0, .slice A l.length c), (7, .int .i64 ((p.tmod ((l.length : Nat) : Int)) + ((l.length : Nat) : Int)))]) rfl
       refine xt_norm ?_
       refine wp_seq ?_
       replace hA := hA.rw 7 (v' := .int .i64 ((k : Nat) : Int)) rfl (vint (hk1 (by omega)))
       refine wp_draw (fun w' => St w0 w' (F)) [] [(0, true), (1, true), (2, true), (3, true), (4, true), (6, true), (7, true), (8, true), (5, false), (9, false), (10, true), (11, true), (12, true)] mixed (by kernel_rfl) (by rintro c a w ⟨_, _, h, _⟩; cases h) (by rfl) (by kernel_rfl) ?_
       replace hS := hS.drew
       refine dr_run tbOk 2 hA hS (e' := (23, .int .i64 ((k : Nat) : Int)) :: (22, .slice A l.length c) :: _) rfl ?_; clear hA; intro a hA
       obtain ⟨b3, o4, rfl⟩ := (hr _ hS).isSome (k := k) (by omega)
       refine dr_y hA rfl rfl rfl (by decide) hS (fun w' hS' => rn_indexAddr tbOk hA k (o4 + k) rfl rfl rfl rfl rfl rfl (by rfl) (by omega) (by first | rfl | simp [Nat.mul_one, Nat.zero_add] | omega)) ?_; clear hA; intro a hA
       refine dr_y hA rfl rfl rfl (by decide) hS (fun w' hS' => rn_load tbOk hA rfl rfl rfl rfl ((hr _ hS').elem0 encI_ok hx rfl)) ?_; clear hA; intro a hA
       refine dr_run tbOk 4 hA hS (e' := (30, .int .i64 (IntKind.i64.wrap (((k : Nat) : Int) + 1))) :: (29, .int .i64 ((k : Nat) : Int)) :: (28, .int .i64 ((k : Nat) : Int)) :: (26, .slice (some ⟨b3, o4, none⟩) l.length c) :: _) rfl ?_; clear hA; intro a hA
       replace hA := hA.rw 30 (v' := .int .i64 ((k + 1 : Nat) : Int)) rfl (wr64 (by omega) (by omega) (by omega))
       refine dr_b (o := _) rfl ?_
       refine st_call0 hA rfl rfl rfl isfn13 rfl rfl (by decide) (clone13 hS (l := l) (fun w' h => (hr _ h)) (by omega)) ?_
       clear hA hS; rintro v5 w6 a ⟨C7, hO7, hS⟩ hA
       obtain ⟨A8, c9, rfl, hmc9, hxc9⟩ := hO7.open'
       refine dr_nil (.inr (hS.tail 1 rfl)) ?_
       refine dr_b (o := _) rfl ?_
       refine st_call0 hA rfl rfl rfl isfn12 rfl rfl (by decide) (delete12 hS hO7 k (k + 1) (by omega) (by omega)) ?_
       clear hA hS; rintro v10 w11 a ⟨C12, hO12, hS⟩ hA
       obtain ⟨A13, c14, rfl, hmc14, hxc14⟩ := hO12.open'
       refine dr_nil (.inr (hS.tail 1 rfl)) ?_
       refine dr_run tbOk 3 hA (hS.tail 1 rfl) (e' := (6, .nilIface) :: (5, .slice A13 ((l.take k ++ l.drop (k + 1)).length) c14) :: (4, .int .i64 x) :: _) rfl ?_; clear hA; intro a hA
       refine dr_end ?_
       replace hA := hA.sel [4, 5, 6] (e' := [(4, .int .i64 x), (5, .slice A13 ((l.take k ++ l.drop (k + 1)).length) c14), (6, .nilIface)]) rfl
       refine xt_norm ?_
       refine wp_ret ?_
       refine ret3 (fn := Tryd.f7) hA rfl rfl rfl rfl ?_
       exact ⟨k, x, _, C12, hk, hkp, hx, rfl, hO12, hS⟩)
  · first
    | (exfalso; omega)
    | (replace hA := hA.rw 17 (v' := .bool false) rfl (vb_false hc2)
       refine cd_cond_f hA rfl ?_
       refine wp_skip ?_
       refine xt_norm ?_
       refine wp_seq ?_
       replace hA := hA.rw 7 (v' := .int .i64 ((k : Nat) : Int)) rfl (vint (hk2 (by omega)))
       refine wp_draw (fun w' => St w0 w' (F)) [] [(0, true), (1, true), (2, true), (3, true), (4, true), (6, true), (7, true), (8, true), (5, false), (9, false), (10, true), (11, true), (12, true)] mixed (by kernel_rfl) (by rintro c a w ⟨_, _, h, _⟩; cases h) (by rfl) (by kernel_rfl) ?_
       replace hS := hS.drew
       refine dr_run tbOk 2 hA hS (e' := (23, .int .i64 ((k : Nat) : Int)) :: (22, .slice A l.length c) :: _) rfl ?_; clear hA; intro a hA
       obtain ⟨b15, o16, rfl⟩ := (hr _ hS).isSome (k := k) (by omega)
       refine dr_y hA rfl rfl rfl (by decide) hS (fun w' hS' => rn_indexAddr tbOk hA k (o16 + k) rfl rfl rfl rfl rfl rfl (by rfl) (by omega) (by first | rfl | simp [Nat.mul_one, Nat.zero_add] | omega)) ?_; clear hA; intro a hA
       refine dr_y hA rfl rfl rfl (by decide) hS (fun w' hS' => rn_load tbOk hA rfl rfl rfl rfl ((hr _ hS').elem0 encI_ok hx rfl)) ?_; clear hA; intro a hA
       refine dr_run tbOk 4 hA hS (e' := (30, .int .i64 (IntKind.i64.wrap (((k : Nat) : Int) + 1))) :: (29, .int .i64 ((k : Nat) : Int)) :: (28, .int .i64 ((k : Nat) : Int)) :: (26, .slice (some ⟨b15, o16, none⟩) l.length c) :: _) rfl ?_; clear hA; intro a hA
       replace hA := hA.rw 30 (v' := .int .i64 ((k + 1 : Nat) : Int)) rfl (wr64 (by omega) (by omega) (by omega))
       refine dr_b (o := _) rfl ?_
       refine st_call0 hA rfl rfl rfl isfn13 rfl rfl (by decide) (clone13 hS (l := l) (fun w' h => (hr _ h)) (by omega)) ?_
       clear hA hS; rintro v17 w18 a ⟨C19, hO19, hS⟩ hA
       obtain ⟨A20, c21, rfl, hmc21, hxc21⟩ := hO19.open'
       refine dr_nil (.inr (hS.tail 1 rfl)) ?_
       refine dr_b (o := _) rfl ?_
       refine st_call0 hA rfl rfl rfl isfn12 rfl rfl (by decide) (delete12 hS hO19 k (k + 1) (by omega) (by omega)) ?_
       clear hA hS; rintro v22 w23 a ⟨C24, hO24, hS⟩ hA
       obtain ⟨A25, c26, rfl, hmc26, hxc26⟩ := hO24.open'
       refine dr_nil (.inr (hS.tail 1 rfl)) ?_
       refine dr_run tbOk 3 hA (hS.tail 1 rfl) (e' := (6, .nilIface) :: (5, .slice A25 ((l.take k ++ l.drop (k + 1)).length) c26) :: (4, .int .i64 x) :: _) rfl ?_; clear hA; intro a hA
       refine dr_end ?_
       replace hA := hA.sel [4, 5, 6] (e' := [(4, .int .i64 x), (5, .slice A25 ((l.take k ++ l.drop (k + 1)).length) c26), (6, .nilIface)]) rfl
       refine xt_norm ?_
       refine wp_ret ?_
       refine ret3 (fn := Tryd.f7) hA rfl rfl rfl rfl ?_
       exact ⟨k, x, _, C24, hk, hkp, hx, rfl, hO24, hS⟩)

theorem take_none7 {w0 w : World} {F : List Chunk} (hS : St w0 w F) {v : Value} {l : List Int} (hr : RdS w0 F 1 v l.length (rows encI l)) (p : Int) (h0 : l.length = 0) :
    Ret Tryd.prog 7 #[v, .int .i64 p] w (fun v w' => v = .tuple #[.int .i64 0, .slice none 0 0, .iface 29 (.int .i64 12)] ∧ St w0 w' F) := by
  obtain ⟨A, c, rfl, hmc, hcx⟩ := (hr w hS).open'
  refine enter (vs := [.slice A l.length c, .int .i64 p]) 32 Tryd.func7 rfl rfl (by simp) ?_; intro a hA
  refine wp_seq ?_
  refine wp_region_lit ?_
  refine st_run tbOk 3 hA (e' := (6, .nilIface) :: (5, .slice none 0 0) :: (4, .int .i64 0) :: _) rfl ?_; clear hA; intro a hA
  refine wpList_nil ?_
  replace hA := hA.sel [0, 1] (e' := [(0, .slice A l.length c), (1, .int .i64 p)]) rfl
  refine xt_norm ?_
  refine wp_seq ?_
  refine wp_seq ?_
  refine wp_region_lit ?_
  refine st_run tbOk 3 hA (e' := (10, .bool (((l.length : Nat) : Int) == 0)) :: (9, .int .i64 ((l.length : Nat) : Int)) :: (8, .slice A l.length c) :: _) rfl ?_; clear hA; intro a hA
  refine wpList_nil ?_
  replace hA := hA.sel [0, 1, 10] (e' := [(0, .slice A l.length c), (1, .int .i64 p), (10, .bool (((l.length : Nat) : Int) == 0))]) rfl
  refine xt_norm ?_
  have hc1 : ((l.length : Nat) : Int) = 0 := by omega
  replace hA := hA.rw 10 (v' := .bool true) rfl (vb_eq_t hc1)
  refine cd_cond_t hA rfl ?_
  refine wp_seq ?_
  refine wp_region_lit ?_
  refine st_run tbOk 4 hA (e' := (6, .iface 29 (.int .i64 12)) :: (5, .slice none 0 0) :: (4, .int .i64 0) :: (11, .iface 29 (.int .i64 12)) :: _) rfl ?_; clear hA; intro a hA
  refine wpList_nil ?_
  replace hA := hA.sel [4, 5, 6] (e' := [(4, .int .i64 0), (5, .slice none 0 0), (6, .iface 29 (.int .i64 12))]) rfl
  refine xt_norm ?_
  refine wp_ret (xt_ret ?_)
  refine ret3 (fn := Tryd.f7) hA rfl rfl rfl rfl ?_
  exact ⟨rfl, hS⟩

theorem same_len {xs ys : List Int} (h : xs.length ≠ ys.length) : ¬ xs = ys := fun e => h (by rw [e])
theorem same_ne {xs ys : List Int} {k : Nat} {x y : Int} (hx : xs[k]? = some x) (hy : ys[k]? = some y) (h : ¬ x = y) : ¬ xs = ys := fun e => by
  subst e; rw [hx] at hy; injection hy with hy; exact h hy
theorem same_all {xs ys : List Int} (h : xs.length = ys.length) (ha : ∀ (i : Nat), i < xs.length → xs[i]? = ys[i]?) : xs = ys := by
  apply List.ext_getElem? 
  intro i
  by_cases hi : i < xs.length
  · exact ha i hi
  · rw [List.getElem?_eq_none (by omega), List.getElem?_eq_none (by omega)]
theorem same9 {w0 w : World} {F : List Chunk} (hS : St w0 w F) {va vb : Value} {xs ys : List Int} (ha : RdS w0 F 1 va xs.length (rows encI xs)) (hb : RdS w0 F 1 vb ys.length (rows encI ys)) :
    Ret Tryd.prog 9 #[va, vb] w (fun v w' => v = .bool (decide (xs = ys)) ∧ St w0 w' F) := by
  obtain ⟨A1, c1, rfl, hm1, hx1⟩ := (ha w hS).open'
  obtain ⟨A2, c2, rfl, hm2, hx2⟩ := (hb w hS).open'
  refine enter (vs := [.slice A1 xs.length c1, .slice A2 ys.length c2]) 26 Tryd.func9 rfl rfl (by simp) ?_; intro a hA
  refine wp_seq ?_
  refine wp_region_lit ?_
  refine st_run tbOk 1 hA (e' := (4, .bool false) :: _) rfl ?_; clear hA; intro a hA
  refine wpList_nil ?_
  replace hA := hA.sel [0, 1] (e' := [(0, .slice A1 xs.length c1), (1, .slice A2 ys.length c2)]) rfl
  refine xt_norm ?_
  refine wp_seq ?_
  refine wp_seq ?_
  refine wp_region_lit ?_
  refine st_run tbOk 5 hA (e' := (10, .bool (((xs.length : Nat) : Int) != ((ys.length : Nat) : Int))) :: (9, .int .i64 ((ys.length : Nat) : Int)) :: (8, .slice A2 ys.length c2) :: (7, .int .i64 ((xs.length : Nat) : Int)) :: (6, .slice A1 xs.length c1) :: _) rfl ?_; clear hA; intro a hA
  refine wpList_nil ?_
  replace hA := hA.sel [0, 1, 10] (e' := [(0, .slice A1 xs.length c1), (1, .slice A2 ys.length c2), (10, .bool (((xs.length : Nat) : Int) != ((ys.length : Nat) : Int)))]) rfl
  refine xt_norm ?_
  by_cases hc1 : ((xs.length : Nat) : Int) = ((ys.length : Nat) : Int)
  · first
    | (exfalso; omega)
    | (replace hA := hA.rw 10 (v' := .bool false) rfl (vb_ne_f hc1)
       refine cd_cond_f hA rfl ?_
       refine wp_skip ?_
       refine xt_norm ?_
       refine wp_seq ?_
       refine wp_seq ?_
       refine wp_region_lit ?_
       refine st_run tbOk 3 hA (e' := (13, .int .i64 0) :: (12, .int .i64 ((xs.length : Nat) : Int)) :: (11, .slice A1 xs.length c1) :: _) rfl ?_; clear hA; intro a hA
       refine wpList_nil ?_
       replace hA := hA.sel [0, 1, 12, 13] (e' := [(0, .slice A1 xs.length c1), (1, .slice A2 ys.length c2), (12, .int .i64 ((xs.length : Nat) : Int)), (13, .int .i64 0)]) rfl
       refine xt_norm ?_
       refine wp_block ?_
       refine wp_loop_ghost (fun m a w => ∃ (k : Nat), m = xs.length - k ∧ Has a 26 [(0, .slice A1 xs.length c1), (1, .slice A2 ys.length c2), (12, .int .i64 ((xs.length : Nat) : Int)), (13, .int .i64 ((k : Nat) : Int))] ∧ St w0 w (F) ∧ k ≤ xs.length ∧ ∀ (i : Nat), i < k → xs[i]? = ys[i]?) (xs.length - 0)
         ⟨0, rfl, (hA.sel [0, 1, 12, 13] rfl), hS, Nat.zero_le _, fun i hi => absurd hi (by omega)⟩ ?_
       clear hA hS; rintro m0 a w2 ⟨k, rfl, hA, hS, hk, hall⟩
       refine wp_seq ?_
       refine wp_region_lit ?_
       refine st_run tbOk 1 hA (e' := (14, .bool (decide (((k : Nat) : Int) < ((xs.length : Nat) : Int)))) :: _) rfl ?_; clear hA; intro a hA
       refine wpList_nil ?_
       refine xt_norm ?_
       refine wp_seq ?_
       by_cases hc3 : ((k : Nat) : Int) < ((xs.length : Nat) : Int)
       · first
         | (exfalso; omega)
         | (replace hA := hA.rw 14 (v' := .bool true) rfl (vb_true hc3)
            refine cd_cond_t hA rfl ?_
            refine wp_skip ?_
            refine xt_norm ?_
            refine wp_seq ?_
            refine wp_block ?_
            refine wp_seq ?_
            refine wp_region_lit ?_
            refine st_run tbOk 2 hA (e' := (5, .int .i64 ((k : Nat) : Int)) :: (15, .int .i64 ((k : Nat) : Int)) :: _) rfl ?_; clear hA; intro a hA
            refine wpList_nil ?_
            replace hA := hA.sel [0, 1, 5, 12, 13] (e' := [(0, .slice A1 xs.length c1), (1, .slice A2 ys.length c2), (5, .int .i64 ((k : Nat) : Int)), (12, .int .i64 ((xs.length : Nat) : Int)), (13, .int .i64 ((k : Nat) : Int))]) rfl
            refine xt_norm ?_
            refine wp_seq ?_
            refine wp_draw (fun w' => St w0 w' (F)) [] [(0, true), (1, true), (2, true), (3, true), (4, true), (5, true), (6, true), (7, true), (8, true)] mixed (by kernel_rfl) (by rintro c a w ⟨_, _, h, _⟩; cases h) (by rfl) (by kernel_rfl) ?_
            replace hS := hS.drew
            refine dr_run tbOk 2 hA hS (e' := (17, .int .i64 ((k : Nat) : Int)) :: (16, .slice A1 xs.length c1) :: _) rfl ?_; clear hA; intro a hA
            obtain ⟨b4, o5, rfl⟩ := (ha _ hS).isSome (k := k) (by omega)
            refine dr_y hA rfl rfl rfl (by decide) hS (fun w' hS' => rn_indexAddr tbOk hA k (o5 + k) rfl rfl rfl rfl rfl rfl (by rfl) (by omega) (by first | rfl | simp [Nat.mul_one, Nat.zero_add] | omega)) ?_; clear hA; intro a hA
            obtain ⟨x6, hx6⟩ := get_ex (l := xs) (k := k) (by omega)
            refine dr_y hA rfl rfl rfl (by decide) hS (fun w' hS' => rn_load tbOk hA rfl rfl rfl rfl ((ha _ hS').elem0 encI_ok hx6 rfl)) ?_; clear hA; intro a hA
            refine dr_run tbOk 2 hA hS (e' := (21, .int .i64 ((k : Nat) : Int)) :: (20, .slice A2 ys.length c2) :: _) rfl ?_; clear hA; intro a hA
            obtain ⟨b7, o8, rfl⟩ := (hb _ hS).isSome (k := k) (by omega)
            refine dr_y hA rfl rfl rfl (by decide) hS (fun w' hS' => rn_indexAddr tbOk hA k (o8 + k) rfl rfl rfl rfl rfl rfl (by rfl) (by omega) (by first | rfl | simp [Nat.mul_one, Nat.zero_add] | omega)) ?_; clear hA; intro a hA
            obtain ⟨x9, hx9⟩ := get_ex (l := ys) (k := k) (by omega)
            refine dr_y hA rfl rfl rfl (by decide) hS (fun w' hS' => rn_load tbOk hA rfl rfl rfl rfl ((hb _ hS').elem0 encI_ok hx9 rfl)) ?_; clear hA; intro a hA
            refine dr_run tbOk 1 hA hS (e' := (24, .bool (x6 != x9)) :: _) rfl ?_; clear hA; intro a hA
            refine dr_end ?_
            replace hA := hA.sel [0, 1, 12, 13, 24] (e' := [(0, .slice (some ⟨b4, o5, none⟩) xs.length c1), (1, .slice (some ⟨b7, o8, none⟩) ys.length c2), (12, .int .i64 ((xs.length : Nat) : Int)), (13, .int .i64 ((k : Nat) : Int)), (24, .bool (x6 != x9))]) rfl
            refine xt_norm ?_
            by_cases hc10 : x6 = x9
            · first
              | (exfalso; omega)
              | (replace hA := hA.rw 24 (v' := .bool false) rfl (vb_ne_f hc10)
                 refine cd_cond_f hA rfl ?_
                 refine wp_skip ?_
                 refine xb_norm ?_
                 refine xt_norm ?_
                 refine wp_region_lit ?_
                 refine st_run tbOk 1 hA (e' := (25, .int .i64 (IntKind.i64.wrap (((k : Nat) : Int) + 1))) :: _) rfl ?_; clear hA; intro a hA
                 replace hA := hA.rw 25 (v' := .int .i64 ((k + 1 : Nat) : Int)) rfl (wr64 (by omega) (by omega) (by omega))
                 refine st_run tbOk 1 hA (e' := (13, .int .i64 ((k + 1 : Nat) : Int)) :: _) rfl ?_; clear hA; intro a hA
                 refine wpList_nil ?_
                 replace hA := hA.sel [0, 1, 12, 13] (e' := [(0, .slice (some ⟨b4, o5, none⟩) xs.length c1), (1, .slice (some ⟨b7, o8, none⟩) ys.length c2), (12, .int .i64 ((xs.length : Nat) : Int)), (13, .int .i64 ((k + 1 : Nat) : Int))]) rfl
                 exact lp_next _ (by omega) ⟨(k + 1), rfl, (hA.sel [0, 1, 12, 13] rfl), hS, by omega, fun i hi => (Nat.lt_succ_iff_lt_or_eq.1 hi).elim (fun h => hall i h) (fun h => by subst h; rw [hx6, hx9]; exact congrArg some (by omega))⟩)
            · first
              | (exfalso; omega)
              | (replace hA := hA.rw 24 (v' := .bool true) rfl (vb_ne_t hc10)
                 refine cd_cond_t hA rfl ?_
                 refine wp_seq ?_
                 refine wp_region_lit ?_
                 refine st_run tbOk 1 hA (e' := (4, .bool false) :: _) rfl ?_; clear hA; intro a hA
                 refine wpList_nil ?_
                 replace hA := hA.sel [4] (e' := [(4, .bool false)]) rfl
                 refine xt_norm ?_
                 refine wp_ret (xb_ret (xt_ret (xt_ret (xb_ret (xt_ret ?_)))))
                 refine ret1 (fn := Tryd.f9) hA rfl rfl ?_
                 refine ⟨?_, hS⟩
                 rw [decide_eq_false]; exact same_ne hx6 hx9 (by omega)))
       · first
         | (exfalso; omega)
         | (replace hA := hA.rw 14 (v' := .bool false) rfl (vb_false hc3)
            refine cd_cond_f hA rfl ?_
            refine wp_exit ?_
            refine xt_exit ?_
            refine xt_exit ?_
            refine cd_exit_eq ?_
            refine xt_norm ?_
            refine wp_seq ?_
            refine wp_region_lit ?_
            refine st_run tbOk 1 hA (e' := (4, .bool true) :: _) rfl ?_; clear hA; intro a hA
            refine wpList_nil ?_
            replace hA := hA.sel [4] (e' := [(4, .bool true)]) rfl
            refine xt_norm ?_
            refine wp_ret ?_
            refine ret1 (fn := Tryd.f9) hA rfl rfl ?_
            refine ⟨?_, hS⟩
            rw [decide_eq_true]; exact same_all (by omega) (fun i hi => hall i (by omega))))
  · first
    | (exfalso; omega)
    | (replace hA := hA.rw 10 (v' := .bool true) rfl (vb_ne_t hc1)
       refine cd_cond_t hA rfl ?_
       refine wp_seq ?_
       refine wp_region_lit ?_
       refine st_run tbOk 1 hA (e' := (4, .bool false) :: _) rfl ?_; clear hA; intro a hA
       refine wpList_nil ?_
       replace hA := hA.sel [4] (e' := [(4, .bool false)]) rfl
       refine xt_norm ?_
       refine wp_ret (xt_ret ?_)
       refine ret1 (fn := Tryd.f9) hA rfl rfl ?_
       refine ⟨?_, hS⟩
       rw [decide_eq_false]; exact same_len (by omega))

theorem dropc17 {w0 w : World} {F : List Chunk} (hS : St w0 w F) {b : Nat} {id : Int} (hc : ∀ w', St w0 w' F → w'.cell? ⟨b, 0, none⟩ = some (.int .i64 id)) (x : Int) :
    Ret Tryd.prog 17 #[.int .i64 x, .pointer (some ⟨b, 0, none⟩)] w (fun v w' => v = .bool (x == id) ∧ St w0 w' F) := by
  refine enter (vs := [.int .i64 x, .pointer (some ⟨b, 0, none⟩)]) 7 Tryd.func17 rfl rfl (by simp) ?_; intro a hA
  refine wp_seq ?_
  refine wp_region_lit ?_
  refine st_run tbOk 1 hA (e' := (3, .bool false) :: _) rfl ?_; clear hA; intro a hA
  refine wpList_nil ?_
  replace hA := hA.sel [0, 1] (e' := [(0, .int .i64 x), (1, .pointer (some ⟨b, 0, none⟩))]) rfl
  refine xt_norm ?_
  refine wp_seq ?_
  refine wp_region_lit ?_
  refine st_run tbOk 1 hA (e' := (4, .int .i64 x) :: _) rfl ?_; clear hA; intro a hA
  refine st_val hA rfl rfl (by decide) (rn_load tbOk hA rfl rfl rfl rfl (hc _ hS)) ?_; clear hA; intro a hA
  refine st_run tbOk 2 hA (e' := (3, .bool (x == id)) :: (6, .bool (x == id)) :: _) rfl ?_; clear hA; intro a hA
  refine wpList_nil ?_
  replace hA := hA.sel [3] (e' := [(3, .bool (x == id))]) rfl
  refine xt_norm ?_
  refine wp_ret ?_
  refine ret1 (fn := Tryd.f17) hA rfl rfl ?_
  exact ⟨rfl, hS⟩
theorem droppred {w0 : World} {F : List Chunk} {b : Nat} {id : Int} (hc : ∀ w, St w0 w F → w.cell? ⟨b, 0, none⟩ = some (.int .i64 id)) : Pred Tryd.prog w0 F 17 #[] #[.pointer (some ⟨b, 0, none⟩)] (fun x => .int .i64 x) (fun x => x == id) := by
  intro w x hS
  exact dropc17 (St.refl w) (fun w' h => h.old (hc w hS)) x

theorem drop11 {w0 w : World} {F : List Chunk} (hS : St w0 w F) {v : Value} {l : List Int} (hr : RdS w0 F 1 v l.length (rows encI l)) (id : Int) (hb : l.length * 8 ≤ 140737488355328) :
    Ret Tryd.prog 11 #[v, .int .i64 id] w (fun v w' => ∃ C, Own 3 1 v (l.filter (fun x => !(x == id))).length (rows encI (l.filter (fun x => !(x == id)))) C ∧ St w0 w' (C :: F)) := by
  obtain ⟨A, c, rfl, hmc, hcx⟩ := (hr w hS).open'
  refine enter (vs := [.slice A l.length c, .int .i64 id]) 9 Tryd.func11 rfl rfl (by simp) ?_; intro a hA
  refine wp_seq ?_
  refine wp_region_lit ?_
  refine st_box hA hS [.int .i64 id] rfl rfl rfl rfl rfl (by decide) ?_; clear hA hS; intro b1 w2 a hS hA
  refine st_run tbOk 1 hA (e' := (4, .slice none 0 0) :: _) rfl ?_; clear hA; intro a hA
  refine wpList_nil ?_
  replace hA := hA.sel [0, 3] (e' := [(0, .slice A l.length c), (3, .pointer (some ⟨b1, 0, none⟩))]) rfl
  refine xt_norm ?_
  refine wp_seq ?_
  refine wp_region_lit ?_
  refine st_run tbOk 1 hA (e' := (5, .slice A l.length c) :: _) rfl ?_; clear hA; intro a hA
  refine st_call0 hA rfl rfl rfl isfn13 rfl rfl (by decide) (clone13 hS (l := l) (fun w' h => (hr _ (h.tail 1 rfl))) (by omega)) ?_
  clear hA hS; rintro v3 w4 a ⟨C5, hO5, hS⟩ hA
  obtain ⟨A6, c7, rfl, hmc7, hxc7⟩ := hO5.open'
  refine st_run tbOk 1 hA (e' := (7, .func (.func 17) #[] #[.pointer (some ⟨b1, 0, none⟩)]) :: _) rfl ?_; clear hA; intro a hA
  refine st_call0 hA rfl rfl rfl isfn16 rfl rfl (by decide) (deleteFunc16 hS hO5 isfn17 (droppred (b := b1) (fun w' h => cell_row (h.heapAt 0 rfl) rfl))) ?_
  clear hA hS; rintro v8 w9 a ⟨C10, hO10, hS⟩ hA
  obtain ⟨A11, c12, rfl, hmc12, hxc12⟩ := hO10.open'
  refine st_run tbOk 1 hA (e' := (4, .slice A11 ((l.filter (fun x => !(x == id))).length) c12) :: _) rfl ?_; clear hA; intro a hA
  refine wpList_nil ?_
  replace hA := hA.sel [4] (e' := [(4, .slice A11 ((l.filter (fun x => !(x == id))).length) c12)]) rfl
  refine xt_norm ?_
  refine wp_ret ?_
  refine ret1 (fn := Tryd.f11) hA rfl rfl ?_
  replace hS := hS.drop2
  exact ⟨C10, hO10, hS⟩

theorem awake6 {w0 w : World} {F : List Chunk} (hS : St w0 w F) :
    Ret Tryd.prog 6 #[] w (fun v w' => v = .bool true ∧ St w0 w' F) := by
  refine enter (vs := []) 38 Tryd.func6 rfl rfl (by simp) ?_; intro a hA
  refine wp_seq ?_
  refine wp_region_lit ?_
  refine st_run tbOk 1 hA (e' := (0, .bool false) :: _) rfl ?_; clear hA; intro a hA
  refine wpList_nil ?_
  replace hA := hA.sel [] (e' := []) rfl
  refine xt_norm ?_
  refine wp_seq ?_
  refine wp_region_lit ?_
  refine st_buildSlice tbOk hA hS [.int .i64 4, .int .i64 5, .int .i64 6] rfl rfl rfl rfl rfl (by decide) (by kernel_rfl) rfl rfl (by decide) ?_; clear hA hS; intro b1 w2 a hS hA
  refine st_call0 hA rfl rfl rfl isfn7 rfl rfl (by decide) (take_ok7 hS (l := ([4, 5, 6] : List Int)) (RdS.own (Own.full (T := 3) (size := 1) (g := b1) (m := 3) rfl (by decide)) 0 rfl) 4 (by decide) (by decide)) ?_
  clear hA hS; rintro _ w4 a ⟨k, x, v3, C5, hk, hkp, hx, rfl, hO5, hS⟩ hA
  obtain rfl : k = 1 := by simp at hkp; omega
  obtain rfl : 5 = x := by simpa using hx
  replace hO5 : Own 3 1 v3 ([4, 6] : List Int).length (rows encI ([4, 6] : List Int)) C5 := hO5
  obtain ⟨A6, c7, rfl, hmc7, hxc7⟩ := hO5.open'
  refine st_run tbOk 7 hA (e' := (3, .nilIface) :: (2, .slice A6 (([4, 6] : List Int).length) c7) :: (1, .int .i64 5) :: (12, .nilIface) :: (11, .slice A6 (([4, 6] : List Int).length) c7) :: (10, .int .i64 5) :: (7, .tuple #[.int .i64 5, .slice A6 (([4, 6] : List Int).length) c7, .nilIface]) :: _) rfl ?_; clear hA; intro a hA
  refine wpList_nil ?_
  replace hA := hA.sel [1, 2, 3] (e' := [(1, .int .i64 5), (2, .slice A6 (([4, 6] : List Int).length) c7), (3, .nilIface)]) rfl
  refine xt_norm ?_
  refine wp_seq ?_
  refine wp_region_lit ?_
  refine st_buildSlice tbOk hA hS [.int .i64 4, .int .i64 5, .int .i64 6] rfl rfl rfl rfl rfl (by decide) (by kernel_rfl) rfl rfl (by decide) ?_; clear hA hS; intro b8 w9 a hS hA
  refine st_call0 hA rfl rfl rfl isfn7 rfl rfl (by decide) (take_ok7 hS (l := ([4, 5, 6] : List Int)) (RdS.own (Own.full (T := 3) (size := 1) (g := b8) (m := 3) rfl (by decide)) 0 rfl) (-1) (by decide) (by decide)) ?_
  clear hA hS; rintro _ w11 a ⟨k, x, v10, C12, hk, hkp, hx, rfl, hO12, hS⟩ hA
  obtain rfl : k = 2 := by simp at hkp; omega
  obtain rfl : 6 = x := by simpa using hx
  replace hO12 : Own 3 1 v10 ([4, 5] : List Int).length (rows encI ([4, 5] : List Int)) C12 := hO12
  obtain ⟨A13, c14, rfl, hmc14, hxc14⟩ := hO12.open'
  refine st_run tbOk 7 hA (e' := (6, .nilIface) :: (5, .slice A13 (([4, 5] : List Int).length) c14) :: (4, .int .i64 6) :: (18, .nilIface) :: (17, .slice A13 (([4, 5] : List Int).length) c14) :: (16, .int .i64 6) :: (13, .tuple #[.int .i64 6, .slice A13 (([4, 5] : List Int).length) c14, .nilIface]) :: _) rfl ?_; clear hA; intro a hA
  refine wpList_nil ?_
  replace hA := hA.sel [1, 2, 3, 4, 6] (e' := [(1, .int .i64 5), (2, .slice A6 (([4, 6] : List Int).length) c7), (3, .nilIface), (4, .int .i64 6), (6, .nilIface)]) rfl
  refine xt_norm ?_
  refine wp_seq ?_
  refine wp_region_lit ?_
  refine st_run tbOk 16 hA (e' := (34, .slice A6 (([4, 6] : List Int).length) c7) :: (33, .bool true) :: (32, .bool true) :: (31, .bool true) :: (30, .nilIface) :: (29, .bool true) :: (28, .bool true) :: (27, .bool true) :: (26, .nilIface) :: (25, .bool true) :: (24, .bool true) :: (23, .bool true) :: (22, .int .i64 6) :: (21, .bool true) :: (20, .bool true) :: (19, .int .i64 5) :: _) rfl ?_; clear hA; intro a hA
  refine st_buildSlice tbOk hA hS [.int .i64 4, .int .i64 6] rfl rfl rfl rfl rfl (by decide) (by kernel_rfl) rfl rfl (by decide) ?_; clear hA hS; intro b15 w16 a hS hA
  refine st_call0 hA rfl rfl rfl isfn9 rfl rfl (by decide) (same9 hS (xs := ([4, 6] : List Int)) (ys := ([4, 6] : List Int)) (RdS.own hO5 3 rfl) (RdS.own (Own.full (T := 3) (size := 1) (g := b15) (m := 2) rfl (by decide)) 0 rfl)) ?_
  clear hA hS; rintro v w17 a ⟨rfl, hS⟩ hA
  replace hA := hA.rw 36 (v' := .bool true) rfl (by rfl)
  refine st_run tbOk 2 hA (e' := (0, .bool true) :: (37, .bool true) :: _) rfl ?_; clear hA; intro a hA
  refine wpList_nil ?_
  replace hA := hA.sel [0] (e' := [(0, .bool true)]) rfl
  refine xt_norm ?_
  refine wp_ret ?_
  refine ret1 (fn := Tryd.f6) hA rfl rfl ?_
  replace hS := hS.drop1
  replace hS := hS.drop1
  replace hS := hS.drop1
  replace hS := hS.drop1
  replace hS := hS.drop1
  exact ⟨rfl, hS⟩

theorem upd_setCell {w : World} {b : Nat} {x v : Value} {T : TypeId} (hb : w.heap[b]? = some (rowO [x] T)) : Upd w (w.setCell ⟨b, 0, none⟩ v) b (rowO [v] T) := by
  refine ⟨rfl, rfl, rfl, by simp [World.setCell], ?_, fun k _ hk => RowKit.Below.heap_setCell w _ _ k hk⟩
  simp only [World.setCell, Array.getElem?_modify, if_true, hb]
  rfl
/-- What the listed variable holds, in the world that the law begins in. -/
def HG (w : World) : Prop := w.cell? ⟨0, 0, none⟩ = some (.iface 58 (.agg #[.pointer (some ⟨1, 26, none⟩)]))
theorem asHit {w0 w : World} {F : List Chunk} {b : Nat} {x : Value} (hS : St w0 w ([(b, rowO [x] 29)] :: F)) (hg : HG w0) (n : Int) :
    Ret Tryd.prog 14 #[.iface 29 (.int .i64 n), .iface 39 (.pointer (some ⟨b, 0, none⟩))] w (fun v w' => v = .bool true ∧ St w0 w' ([(b, rowO [.int .i64 n] 29)] :: F)) := by
  have hb := hS.heapAt 0 rfl
  refine Calls.mono (as_hit n ⟨b, 0, none⟩ x w (hS.old hg) (cell_row hb rfl) (by simp [World.frozen?, hb, rowO])) fun e w' ⟨he, hw⟩ => ⟨_, he, rfl, ?_⟩
  subst hw
  have h4 := (((hS.alloc (.cells #[.pointer (some ⟨b, 0, none⟩)] 39)).alloc (.cells #[.pointer (some ⟨1, 39, none⟩), .pointer (some ⟨w.heap.size, 0, none⟩), .int .u64 150] 46)).alloc (.cells #[.pointer (some ⟨1, 39, none⟩), .pointer (some ⟨w.heap.size, 0, none⟩), .int .u64 150] 46)).alloc (.cells #[.int .i64 n] 29)
  have h5 := h4.drop1.drop1.drop1.drop1
  exact h5.upd (upd_setCell (h5.heapAt 0 rfl))
theorem asNil {w0 w : World} {F : List Chunk} (hS : St w0 w F) (t : Value) :
    Ret Tryd.prog 14 #[.nilIface, t] w (fun v w' => v = .bool false ∧ St w0 w' F) :=
  Calls.mono (as_nil t w) fun e w' ⟨he, hw⟩ => ⟨_, he, rfl, hw ▸ hS⟩

theorem number_hit8 {w0 w : World} {F : List Chunk} (hS : St w0 w F) (hg : HG w0) (n : Int) :
    Ret Tryd.prog 8 #[.iface 29 (.int .i64 n)] w (fun v w' => v = .int .i64 n ∧ St w0 w' F) := by
  refine enter (vs := [.iface 29 (.int .i64 n)]) 8 Tryd.func8 rfl rfl (by simp) ?_; intro a hA
  refine wp_seq ?_
  refine wp_region_lit ?_
  refine st_run tbOk 1 hA (e' := (2, .int .i64 0) :: _) rfl ?_; clear hA; intro a hA
  refine wpList_nil ?_
  replace hA := hA.sel [0] (e' := [(0, .iface 29 (.int .i64 n))]) rfl
  refine xt_norm ?_
  refine wp_seq ?_
  refine wp_region_lit ?_
  refine st_alloc tbOk hA hS [.int .i64 0] rfl rfl rfl rfl rfl (by decide) ?_; clear hA hS; intro b1 w2 a hS hA
  refine wpList_nil ?_
  refine xt_norm ?_
  refine wp_seq ?_
  refine wp_seq ?_
  refine wp_region_lit ?_
  refine st_run tbOk 2 hA (e' := (5, .iface 39 (.pointer (some ⟨b1, 0, none⟩))) :: (4, .iface 29 (.int .i64 n)) :: _) rfl ?_; clear hA; intro a hA
  refine st_call0 hA rfl rfl rfl isfn14 rfl rfl (by decide) (asHit hS hg n) ?_
  clear hA hS; rintro v w3 a ⟨rfl, hS⟩ hA
  refine wpList_nil ?_
  replace hA := hA.sel [3, 6] (e' := [(3, .pointer (some ⟨b1, 0, none⟩)), (6, .bool true)]) rfl
  refine xt_norm ?_
  refine cd_cond_t hA rfl ?_
  refine wp_seq ?_
  refine wp_region_lit ?_
  refine st_val hA rfl rfl (by decide) (rn_load tbOk hA rfl rfl rfl rfl (cell_row (hS.heapAt 0 rfl) rfl)) ?_; clear hA; intro a hA
  refine st_run tbOk 1 hA (e' := (2, .int .i64 n) :: _) rfl ?_; clear hA; intro a hA
  refine wpList_nil ?_
  replace hA := hA.sel [2] (e' := [(2, .int .i64 n)]) rfl
  refine xt_norm ?_
  refine wp_ret (xt_ret ?_)
  refine ret1 (fn := Tryd.f8) hA rfl rfl ?_
  replace hS := hS.drop1
  exact ⟨rfl, hS⟩

theorem number_nil8 {w0 w : World} {F : List Chunk} (hS : St w0 w F) (hg : HG w0) :
    Ret Tryd.prog 8 #[.nilIface] w (fun v w' => v = .int .i64 0 ∧ St w0 w' F) := by
  refine enter (vs := [.nilIface]) 8 Tryd.func8 rfl rfl (by simp) ?_; intro a hA
  refine wp_seq ?_
  refine wp_region_lit ?_
  refine st_run tbOk 1 hA (e' := (2, .int .i64 0) :: _) rfl ?_; clear hA; intro a hA
  refine wpList_nil ?_
  replace hA := hA.sel [0] (e' := [(0, .nilIface)]) rfl
  refine xt_norm ?_
  refine wp_seq ?_
  refine wp_region_lit ?_
  refine st_alloc tbOk hA hS [.int .i64 0] rfl rfl rfl rfl rfl (by decide) ?_; clear hA hS; intro b1 w2 a hS hA
  refine wpList_nil ?_
  refine xt_norm ?_
  refine wp_seq ?_
  refine wp_seq ?_
  refine wp_region_lit ?_
  refine st_run tbOk 2 hA (e' := (5, .iface 39 (.pointer (some ⟨b1, 0, none⟩))) :: (4, .nilIface) :: _) rfl ?_; clear hA; intro a hA
  refine st_call0 hA rfl rfl rfl isfn14 rfl rfl (by decide) (asNil hS _) ?_
  clear hA hS; rintro v w3 a ⟨rfl, hS⟩ hA
  refine wpList_nil ?_
  replace hA := hA.sel [3, 6] (e' := [(3, .pointer (some ⟨b1, 0, none⟩)), (6, .bool false)]) rfl
  refine xt_norm ?_
  refine cd_cond_f hA rfl ?_
  refine wp_skip ?_
  refine xt_norm ?_
  refine wp_seq ?_
  refine wp_region_lit ?_
  refine st_run tbOk 1 hA (e' := (2, .int .i64 0) :: _) rfl ?_; clear hA; intro a hA
  refine wpList_nil ?_
  replace hA := hA.sel [2] (e' := [(2, .int .i64 0)]) rfl
  refine xt_norm ?_
  refine wp_ret ?_
  refine ret1 (fn := Tryd.f8) hA rfl rfl ?_
  replace hS := hS.drop1
  exact ⟨rfl, hS⟩

theorem any_yes {l : List Int} {id x : Int} {k : Nat} (h : (l.take k).any (fun y => y == id) = true) (hx : l[k]? = some x) : (l.take (k + 1)).any (fun y => y == id) = true := by
  rw [List.take_add_one, List.any_append, h]; rfl
theorem any_step {l : List Int} {id x : Int} {k : Nat} (h : ¬ (l.take k).any (fun y => y == id) = true) (hx : l[k]? = some x) : (l.take (k + 1)).any (fun y => y == id) = (x == id) := by
  rw [List.take_add_one, List.any_append, Bool.eq_false_iff.2 h, hx]; simp
theorem three (l : List Int) (x : Int) : l.any (fun y => y == x) = true ∨ (l.any (fun y => y == x) = false ∧ l.length < 64) ∨ (l.any (fun y => y == x) = false ∧ 64 ≤ l.length) := by
  cases h : l.any (fun y => y == x) with
  | true => exact .inl rfl
  | false => exact .inr ((Nat.lt_or_ge l.length 64).imp (fun h => ⟨rfl, h⟩) (fun h => ⟨rfl, h⟩))
theorem last_at (l : List Int) (x : Int) : (l ++ [x])[l.length]? = some x := by simp
theorem filt_not (l : List Int) (id : Int) : (l.filter (fun x => !(x == id))).any (fun y => y == id) = false := by
  rw [List.any_eq_false]; intro y hy; simp at hy; simpa using hy.2

theorem pushLaw_ok4 {w0 w : World} {F : List Chunk} (hS : St w0 w F) (hg : HG w0) {v : Value} {l : List Int} (hr : RdS w0 F 1 v l.length (rows encI l)) (id : Int) (hb : l.length * 8 ≤ 140737488351232) (h1 : l.any (fun y => y == id) = false) (h2 : l.length < 64) :
    Ret Tryd.prog 4 #[v, .int .i64 id] w (fun v w' => v = .bool true ∧ St w0 w' F) := by
  obtain ⟨A, c, rfl, hmc, hcx⟩ := (hr w hS).open'
  refine enter (vs := [.slice A l.length c, .int .i64 id]) 68 Tryd.func4 rfl rfl (by simp) ?_; intro a hA
  refine wp_seq ?_
  refine wp_region_lit ?_
  refine st_run tbOk 1 hA (e' := (4, .bool false) :: _) rfl ?_; clear hA; intro a hA
  refine wpList_nil ?_
  replace hA := hA.sel [0, 1] (e' := [(0, .slice A l.length c), (1, .int .i64 id)]) rfl
  refine xt_norm ?_
  refine wp_seq ?_
  refine wp_seq ?_
  refine wp_region_lit ?_
  refine st_call0 hA rfl rfl rfl isfn6 rfl rfl (by decide) (awake6 hS) ?_
  clear hA hS; rintro v w1 a ⟨rfl, hS⟩ hA
  refine st_run tbOk 1 hA (e' := (12, .bool false) :: _) rfl ?_; clear hA; intro a hA
  refine wpList_nil ?_
  replace hA := hA.sel [0, 1, 12] (e' := [(0, .slice A l.length c), (1, .int .i64 id), (12, .bool false)]) rfl
  refine xt_norm ?_
  refine cd_cond_f hA rfl ?_
  refine wp_skip ?_
  refine xt_norm ?_
  refine wp_seq ?_
  refine wp_region_lit ?_
  refine st_run tbOk 1 hA (e' := (13, .slice A l.length c) :: _) rfl ?_; clear hA; intro a hA
  replace hS := hS.nil
  refine st_append tbOk hA (m := 0) (q := l.length) (xs := rows encI ([] : List Int)) (news := rows encI l) rfl rfl rfl rfl rfl rfl rfl rfl (by decide) (Own.nil 3 1) hS (hr _ (hS.tail 1 rfl)) (rows_one encI_ok _) (maxLen_le (by omega)) (by show (0 + l.length) * 8 ≤ 140737488355328; omega) rfl rfl (by decide) ?_
  clear hA hS; intro v2 w3 C4 a hO4 hS hA
  replace hO4 := Own.app (l := ([] : List Int)) (l2 := l) hO4
  replace hO4 : Own 3 1 v2 l.length (rows encI l) C4 := hO4
  obtain ⟨A5, c6, rfl, hmc6, hxc6⟩ := hO4.open'
  refine st_run tbOk 1 hA (e' := (5, .slice A5 l.length c6) :: _) rfl ?_; clear hA; intro a hA
  refine wpList_nil ?_
  replace hA := hA.sel [0, 1, 5] (e' := [(0, .slice A l.length c), (1, .int .i64 id), (5, .slice A5 l.length c6)]) rfl
  refine xt_norm ?_
  refine wp_seq ?_
  refine wp_region_lit ?_
  refine st_run tbOk 1 hA (e' := (6, .bool false) :: _) rfl ?_; clear hA; intro a hA
  refine wpList_nil ?_
  refine xt_norm ?_
  refine wp_seq ?_
  refine wp_seq ?_
  refine wp_region_lit ?_
  refine st_run tbOk 3 hA (e' := (17, .int .i64 0) :: (16, .int .i64 ((l.length : Nat) : Int)) :: (15, .slice A l.length c) :: _) rfl ?_; clear hA; intro a hA
  refine wpList_nil ?_
  refine xt_norm ?_
  refine wp_block ?_
  replace hA := hA.rw 6 (v' := .bool ((l.take 0).any (fun y => y == id))) rfl (by rw [List.take_zero]; rfl)
  refine wp_loop_ghost (fun m a w => ∃ (k : Nat), m = l.length - k ∧ Has a 68 [(0, .slice A l.length c), (1, .int .i64 id), (5, .slice A5 l.length c6), (6, .bool ((l.take k).any (fun y => y == id))), (15, .slice A l.length c), (16, .int .i64 ((l.length : Nat) : Int)), (17, .int .i64 ((k : Nat) : Int))] ∧ St w0 w (C4 :: F) ∧ k ≤ l.length) (l.length - 0)
    ⟨0, rfl, (hA.sel [0, 1, 5, 6, 15, 16, 17] rfl), hS, Nat.zero_le _⟩ ?_
  clear hA hS; rintro m0 a w7 ⟨k, rfl, hA, hS, hk⟩
  refine wp_seq ?_
  refine wp_region_lit ?_
  refine st_run tbOk 1 hA (e' := (18, .bool (decide (((k : Nat) : Int) < ((l.length : Nat) : Int)))) :: _) rfl ?_; clear hA; intro a hA
  refine wpList_nil ?_
  refine xt_norm ?_
  refine wp_seq ?_
  by_cases hc8 : ((k : Nat) : Int) < ((l.length : Nat) : Int)
  · first
    | (exfalso; omega)
    | (replace hA := hA.rw 18 (v' := .bool true) rfl (vb_true hc8)
       refine cd_cond_t hA rfl ?_
       refine wp_skip ?_
       refine xt_norm ?_
       refine wp_seq ?_
       refine wp_block ?_
       refine wp_seq ?_
       refine wp_region_lit ?_
       obtain ⟨b9, o10, rfl⟩ := (hr _ (hS.tail 1 rfl)).isSome (k := k) (by omega)
       refine st_val hA rfl rfl (by decide) (rn_indexAddr tbOk hA k (o10 + k) rfl rfl rfl rfl rfl rfl (by rfl) (by omega) (by first | rfl | simp [Nat.mul_one, Nat.zero_add] | omega)) ?_; clear hA; intro a hA
       obtain ⟨x11, hx11⟩ := get_ex (l := l) (k := k) (by omega)
       refine st_val hA rfl rfl (by decide) (rn_load tbOk hA rfl rfl rfl rfl ((hr _ (hS.tail 1 rfl)).elem0 encI_ok hx11 rfl)) ?_; clear hA; intro a hA
       refine st_run tbOk 1 hA (e' := (8, .int .i64 x11) :: _) rfl ?_; clear hA; intro a hA
       refine wpList_nil ?_
       replace hA := hA.sel [0, 1, 5, 6, 8, 15, 16, 17] (e' := [(0, .slice (some ⟨b9, o10, none⟩) l.length c), (1, .int .i64 id), (5, .slice A5 l.length c6), (6, .bool ((l.take k).any (fun y => y == id))), (8, .int .i64 x11), (15, .slice (some ⟨b9, o10, none⟩) l.length c), (16, .int .i64 ((l.length : Nat) : Int)), (17, .int .i64 ((k : Nat) : Int))]) rfl
       refine xt_norm ?_
       refine wp_region_lit ?_
       refine st_run tbOk 2 hA (e' := (22, .bool ((l.take k).any (fun y => y == id))) :: (21, .bool ((l.take k).any (fun y => y == id))) :: _) rfl ?_; clear hA; intro a hA
       by_cases hc12 : ((l.take k).any (fun y => y == id)) = true
       · first
         | (exfalso; omega)
         | (replace hA := hA.rw 6 (v' := .bool true) rfl (vb_t hc12)
            replace hA := hA.rw 21 (v' := .bool true) rfl (vb_t hc12)
            replace hA := hA.rw 22 (v' := .bool true) rfl (vb_t hc12)
            refine st_run tbOk 5 hA (e' := (6, .bool true) :: (26, .bool true) :: (25, undef) :: (24, undef) :: (23, undef) :: _) rfl ?_; clear hA; intro a hA
            refine wpList_nil ?_
            replace hA := hA.sel [0, 1, 5, 6, 15, 16, 17] (e' := [(0, .slice (some ⟨b9, o10, none⟩) l.length c), (1, .int .i64 id), (5, .slice A5 l.length c6), (6, .bool true), (15, .slice (some ⟨b9, o10, none⟩) l.length c), (16, .int .i64 ((l.length : Nat) : Int)), (17, .int .i64 ((k : Nat) : Int))]) rfl
            refine xb_norm ?_
            refine xt_norm ?_
            refine wp_region_lit ?_
            refine st_run tbOk 1 hA (e' := (27, .int .i64 (IntKind.i64.wrap (((k : Nat) : Int) + 1))) :: _) rfl ?_; clear hA; intro a hA
            replace hA := hA.rw 27 (v' := .int .i64 ((k + 1 : Nat) : Int)) rfl (wr64 (by omega) (by omega) (by omega))
            refine st_run tbOk 1 hA (e' := (17, .int .i64 ((k + 1 : Nat) : Int)) :: _) rfl ?_; clear hA; intro a hA
            refine wpList_nil ?_
            replace hA := hA.sel [0, 1, 5, 6, 15, 16, 17] (e' := [(0, .slice (some ⟨b9, o10, none⟩) l.length c), (1, .int .i64 id), (5, .slice A5 l.length c6), (6, .bool true), (15, .slice (some ⟨b9, o10, none⟩) l.length c), (16, .int .i64 ((l.length : Nat) : Int)), (17, .int .i64 ((k + 1 : Nat) : Int))]) rfl
            replace hA := hA.rw 6 (v' := .bool ((l.take (k + 1)).any (fun y => y == id))) rfl (by rw [any_yes hc12 hx11])
            exact lp_next _ (by omega) ⟨(k + 1), rfl, (hA.sel [0, 1, 5, 6, 15, 16, 17] rfl), hS, by omega⟩)
       · first
         | (exfalso; omega)
         | (replace hA := hA.rw 6 (v' := .bool false) rfl (vb_f hc12)
            replace hA := hA.rw 21 (v' := .bool false) rfl (vb_f hc12)
            replace hA := hA.rw 22 (v' := .bool false) rfl (vb_f hc12)
            refine st_run tbOk 5 hA (e' := (6, .bool (x11 == id)) :: (26, .bool (x11 == id)) :: (25, .bool (x11 == id)) :: (24, .int .i64 id) :: (23, .int .i64 x11) :: _) rfl ?_; clear hA; intro a hA
            refine wpList_nil ?_
            replace hA := hA.sel [0, 1, 5, 6, 15, 16, 17] (e' := [(0, .slice (some ⟨b9, o10, none⟩) l.length c), (1, .int .i64 id), (5, .slice A5 l.length c6), (6, .bool (x11 == id)), (15, .slice (some ⟨b9, o10, none⟩) l.length c), (16, .int .i64 ((l.length : Nat) : Int)), (17, .int .i64 ((k : Nat) : Int))]) rfl
            refine xb_norm ?_
            refine xt_norm ?_
            refine wp_region_lit ?_
            refine st_run tbOk 1 hA (e' := (27, .int .i64 (IntKind.i64.wrap (((k : Nat) : Int) + 1))) :: _) rfl ?_; clear hA; intro a hA
            replace hA := hA.rw 27 (v' := .int .i64 ((k + 1 : Nat) : Int)) rfl (wr64 (by omega) (by omega) (by omega))
            refine st_run tbOk 1 hA (e' := (17, .int .i64 ((k + 1 : Nat) : Int)) :: _) rfl ?_; clear hA; intro a hA
            refine wpList_nil ?_
            replace hA := hA.sel [0, 1, 5, 6, 15, 16, 17] (e' := [(0, .slice (some ⟨b9, o10, none⟩) l.length c), (1, .int .i64 id), (5, .slice A5 l.length c6), (6, .bool (x11 == id)), (15, .slice (some ⟨b9, o10, none⟩) l.length c), (16, .int .i64 ((l.length : Nat) : Int)), (17, .int .i64 ((k + 1 : Nat) : Int))]) rfl
            replace hA := hA.rw 6 (v' := .bool ((l.take (k + 1)).any (fun y => y == id))) rfl (by rw [any_step hc12 hx11])
            exact lp_next _ (by omega) ⟨(k + 1), rfl, (hA.sel [0, 1, 5, 6, 15, 16, 17] rfl), hS, by omega⟩))
  · first
    | (exfalso; omega)
    | (replace hA := hA.rw 18 (v' := .bool false) rfl (vb_false hc8)
       refine cd_cond_f hA rfl ?_
       refine wp_exit ?_
       refine xt_exit ?_
       refine xt_exit ?_
       refine cd_exit_eq ?_
       refine xt_norm ?_
       refine wp_seq ?_
       refine wp_region_lit ?_
       refine st_run tbOk 2 hA (e' := (30, .int .i64 id) :: (29, .slice A l.length c) :: _) rfl ?_; clear hA; intro a hA
       refine st_call0 hA rfl rfl rfl isfn10 rfl rfl (by decide) (push_ok10 hS (l := l) (fun w' h => (hr _ (h.tail 1 rfl))) id h1 h2) ?_
       clear hA hS; rintro _ w14 a ⟨v13, C15, rfl, hO15, hS⟩ hA
       obtain ⟨A16, c17, rfl, hmc17, hxc17⟩ := hO15.open'
       refine st_run tbOk 5 hA (e' := (10, .nilIface) :: (9, .slice A16 ((l ++ [id]).length) c17) :: (33, .nilIface) :: (32, .slice A16 ((l ++ [id]).length) c17) :: (28, .tuple #[.slice A16 ((l ++ [id]).length) c17, .nilIface]) :: _) rfl ?_; clear hA; intro a hA
       refine wpList_nil ?_
       replace hA := hA.sel [0, 1, 5, 6, 9, 10] (e' := [(0, .slice A l.length c), (1, .int .i64 id), (5, .slice A5 l.length c6), (6, .bool ((l.take k).any (fun y => y == id))), (9, .slice A16 ((l ++ [id]).length) c17), (10, .nilIface)]) rfl
       refine xt_norm ?_
       refine wp_seq ?_
       refine wp_seq ?_
       refine wp_region_lit ?_
       refine st_run tbOk 2 hA (e' := (35, .slice A5 l.length c6) :: (34, .slice A l.length c) :: _) rfl ?_; clear hA; intro a hA
       refine st_call0 hA rfl rfl rfl isfn9 rfl rfl (by decide) (same9 hS (xs := l) (ys := l) (fun w' h => (hr _ (h.tail 2 rfl))) (RdS.own hO4 1 rfl)) ?_
       clear hA hS; rintro v w18 a ⟨rfl, hS⟩ hA
       replace hA := hA.rw 36 (v' := .bool true) rfl (by simp)
       refine st_run tbOk 1 hA (e' := (37, .bool false) :: _) rfl ?_; clear hA; intro a hA
       refine wpList_nil ?_
       replace hA := hA.sel [0, 1, 5, 6, 9, 10, 37] (e' := [(0, .slice A l.length c), (1, .int .i64 id), (5, .slice A5 l.length c6), (6, .bool ((l.take k).any (fun y => y == id))), (9, .slice A16 ((l ++ [id]).length) c17), (10, .nilIface), (37, .bool false)]) rfl
       refine xt_norm ?_
       refine cd_cond_f hA rfl ?_
       refine wp_skip ?_
       refine xt_norm ?_
       refine wp_seq ?_
       refine wp_seq ?_
       replace hA := hA.rw 6 (v' := .bool false) rfl (by rw [show k = l.length by omega, List.take_length, h1])
       refine wp_region_lit ?_
       refine st_run tbOk 1 hA (e' := (38, .bool false) :: _) rfl ?_; clear hA; intro a hA
       refine wpList_nil ?_
       replace hA := hA.sel [0, 1, 5, 9, 10, 38] (e' := [(0, .slice A l.length c), (1, .int .i64 id), (5, .slice A5 l.length c6), (9, .slice A16 ((l ++ [id]).length) c17), (10, .nilIface), (38, .bool false)]) rfl
       refine xt_norm ?_
       refine cd_cond_f hA rfl ?_
       refine wp_skip ?_
       refine xt_norm ?_
       refine wp_seq ?_
       refine wp_seq ?_
       refine wp_region_lit ?_
       refine st_run tbOk 3 hA (e' := (49, .bool (decide (((l.length : Nat) : Int) ≥ 64))) :: (48, .int .i64 ((l.length : Nat) : Int)) :: (47, .slice A l.length c) :: _) rfl ?_; clear hA; intro a hA
       refine wpList_nil ?_
       replace hA := hA.sel [1, 5, 9, 10, 49] (e' := [(1, .int .i64 id), (5, .slice A5 l.length c6), (9, .slice A16 ((l ++ [id]).length) c17), (10, .nilIface), (49, .bool (decide (((l.length : Nat) : Int) ≥ 64)))]) rfl
       refine xt_norm ?_
       by_cases hc19 : ((l.length : Nat) : Int) ≥ 64
       · first
         | (exfalso; omega)
         | (replace hA := hA.rw 49 (v' := .bool true) rfl (vb_true hc19)
            refine cd_cond_t hA rfl ?_
            refine wp_seq ?_
            refine wp_region_lit ?_
            refine st_run tbOk 4 hA (e' := (53, .bool ((((l ++ [id]).length : Nat) : Int) == 0)) :: (52, .bool ((((l ++ [id]).length : Nat) : Int) == 0)) :: (51, .int .i64 (((l ++ [id]).length : Nat) : Int)) :: (50, .slice A16 ((l ++ [id]).length) c17) :: _) rfl ?_; clear hA; intro a hA
            by_cases hc20 : (((l ++ [id]).length : Nat) : Int) = 0
            · first
              | (exfalso; omega)
              | (replace hA := hA.rw 52 (v' := .bool true) rfl (vb_eq_t hc20)
                 replace hA := hA.rw 53 (v' := .bool true) rfl (vb_eq_t hc20)
                 refine st_run tbOk 1 hA (e' := (54, .nilIface) :: _) rfl ?_; clear hA; intro a hA
                 refine st_call0 hA rfl rfl rfl isfn8 rfl rfl (by decide) (number_nil8 hS hg) ?_
                 clear hA hS; rintro v w21 a ⟨rfl, hS⟩ hA
                 refine st_run tbOk 3 hA (e' := (4, .bool false) :: (57, .bool false) :: (56, .bool false) :: _) rfl ?_; clear hA; intro a hA
                 refine wpList_nil ?_
                 replace hA := hA.sel [4] (e' := [(4, .bool false)]) rfl
                 refine xt_norm ?_
                 refine wp_ret (xt_ret ?_)
                 refine ret1 (fn := Tryd.f4) hA rfl rfl ?_
                 exfalso; omega)
            · first
              | (exfalso; omega)
              | (replace hA := hA.rw 52 (v' := .bool false) rfl (vb_eq_f hc20)
                 replace hA := hA.rw 53 (v' := .bool false) rfl (vb_eq_f hc20)
                 refine st_run tbOk 5 hA (e' := (4, .bool false) :: (57, .bool false) :: (56, undef) :: (55, undef) :: (54, undef) :: _) rfl ?_; clear hA; intro a hA
                 refine wpList_nil ?_
                 replace hA := hA.sel [4] (e' := [(4, .bool false)]) rfl
                 refine xt_norm ?_
                 refine wp_ret (xt_ret ?_)
                 refine ret1 (fn := Tryd.f4) hA rfl rfl ?_
                 exfalso; omega))
       · first
         | (exfalso; omega)
         | (replace hA := hA.rw 49 (v' := .bool false) rfl (vb_false hc19)
            refine cd_cond_f hA rfl ?_
            refine wp_skip ?_
            refine xt_norm ?_
            refine wp_seq ?_
            refine wp_region_lit ?_
            refine st_run tbOk 6 hA (e' := (63, .int .i64 id) :: (62, .slice A5 l.length c6) :: (61, .slice A16 ((l ++ [id]).length) c17) :: (60, .bool true) :: (59, .bool true) :: (58, .nilIface) :: _) rfl ?_; clear hA; intro a hA
            refine st_buildSlice tbOk hA hS [.int .i64 id] rfl rfl rfl rfl rfl (by decide) (by kernel_rfl) rfl rfl (by decide) ?_; clear hA hS; intro b22 w23 a hS hA
            replace hS := hS.front 2 (C := C4) (L' := [(b22, rowO [.int .i64 id] 3)] :: C15 :: F) rfl rfl
            refine st_append tbOk hA (m := l.length) (q := 1) (xs := rows encI l) (news := rows encI ([id] : List Int)) rfl rfl rfl rfl rfl rfl rfl rfl (by decide) hO4 hS ((Own.full (T := 3) (size := 1) (g := b22) (m := 1) rfl (by decide)).rd (hS.own_ 1 rfl)) (rows_one encI_ok _) (maxLen_le (by omega)) (by show (l.length + 1) * 8 ≤ 140737488355328; omega) rfl rfl (by decide) ?_
            clear hA hS; intro v24 w25 C26 a hO26 hS hA
            replace hO26 := Own.app (l := l) (l2 := ([id] : List Int)) hO26
            obtain ⟨A27, c28, rfl, hmc28, hxc28⟩ := hO26.open'
            refine st_call0 hA rfl rfl rfl isfn9 rfl rfl (by decide) (same9 hS (xs := l ++ [id]) (ys := l ++ ([id] : List Int)) (RdS.own hO15 2 rfl) (RdS.own hO26 0 rfl)) ?_
            clear hA hS; rintro v w29 a ⟨rfl, hS⟩ hA
            replace hA := hA.rw 66 (v' := .bool true) rfl (by simp)
            refine st_run tbOk 2 hA (e' := (4, .bool true) :: (67, .bool true) :: _) rfl ?_; clear hA; intro a hA
            refine wpList_nil ?_
            replace hA := hA.sel [4] (e' := [(4, .bool true)]) rfl
            refine xt_norm ?_
            refine wp_ret ?_
            refine ret1 (fn := Tryd.f4) hA rfl rfl ?_
            replace hS := hS.drop1
            replace hS := hS.drop1
            replace hS := hS.drop1
            exact ⟨rfl, hS⟩))

theorem pushLaw_dup4 {w0 w : World} {F : List Chunk} (hS : St w0 w F) (hg : HG w0) {v : Value} {l : List Int} (hr : RdS w0 F 1 v l.length (rows encI l)) (id : Int) (hb : l.length * 8 ≤ 140737488351232) (h1 : l.any (fun y => y == id) = true) :
    Ret Tryd.prog 4 #[v, .int .i64 id] w (fun v w' => v = .bool true ∧ St w0 w' F) := by
  obtain ⟨A, c, rfl, hmc, hcx⟩ := (hr w hS).open'
  refine enter (vs := [.slice A l.length c, .int .i64 id]) 68 Tryd.func4 rfl rfl (by simp) ?_; intro a hA
  refine wp_seq ?_
  refine wp_region_lit ?_
  refine st_run tbOk 1 hA (e' := (4, .bool false) :: _) rfl ?_; clear hA; intro a hA
  refine wpList_nil ?_
  replace hA := hA.sel [0, 1] (e' := [(0, .slice A l.length c), (1, .int .i64 id)]) rfl
  refine xt_norm ?_
  refine wp_seq ?_
  refine wp_seq ?_
  refine wp_region_lit ?_
  refine st_call0 hA rfl rfl rfl isfn6 rfl rfl (by decide) (awake6 hS) ?_
  clear hA hS; rintro v w1 a ⟨rfl, hS⟩ hA
  refine st_run tbOk 1 hA (e' := (12, .bool false) :: _) rfl ?_; clear hA; intro a hA
  refine wpList_nil ?_
  replace hA := hA.sel [0, 1, 12] (e' := [(0, .slice A l.length c), (1, .int .i64 id), (12, .bool false)]) rfl
  refine xt_norm ?_
  refine cd_cond_f hA rfl ?_
  refine wp_skip ?_
  refine xt_norm ?_
  refine wp_seq ?_
  refine wp_region_lit ?_
  refine st_run tbOk 1 hA (e' := (13, .slice A l.length c) :: _) rfl ?_; clear hA; intro a hA
  replace hS := hS.nil
  refine st_append tbOk hA (m := 0) (q := l.length) (xs := rows encI ([] : List Int)) (news := rows encI l) rfl rfl rfl rfl rfl rfl rfl rfl (by decide) (Own.nil 3 1) hS (hr _ (hS.tail 1 rfl)) (rows_one encI_ok _) (maxLen_le (by omega)) (by show (0 + l.length) * 8 ≤ 140737488355328; omega) rfl rfl (by decide) ?_
  clear hA hS; intro v2 w3 C4 a hO4 hS hA
  replace hO4 := Own.app (l := ([] : List Int)) (l2 := l) hO4
  replace hO4 : Own 3 1 v2 l.length (rows encI l) C4 := hO4
  obtain ⟨A5, c6, rfl, hmc6, hxc6⟩ := hO4.open'
  refine st_run tbOk 1 hA (e' := (5, .slice A5 l.length c6) :: _) rfl ?_; clear hA; intro a hA
  refine wpList_nil ?_
  replace hA := hA.sel [0, 1, 5] (e' := [(0, .slice A l.length c), (1, .int .i64 id), (5, .slice A5 l.length c6)]) rfl
  refine xt_norm ?_
  refine wp_seq ?_
  refine wp_region_lit ?_
  refine st_run tbOk 1 hA (e' := (6, .bool false) :: _) rfl ?_; clear hA; intro a hA
  refine wpList_nil ?_
  refine xt_norm ?_
  refine wp_seq ?_
  refine wp_seq ?_
  refine wp_region_lit ?_
  refine st_run tbOk 3 hA (e' := (17, .int .i64 0) :: (16, .int .i64 ((l.length : Nat) : Int)) :: (15, .slice A l.length c) :: _) rfl ?_; clear hA; intro a hA
  refine wpList_nil ?_
  refine xt_norm ?_
  refine wp_block ?_
  replace hA := hA.rw 6 (v' := .bool ((l.take 0).any (fun y => y == id))) rfl (by rw [List.take_zero]; rfl)
  refine wp_loop_ghost (fun m a w => ∃ (k : Nat), m = l.length - k ∧ Has a 68 [(0, .slice A l.length c), (1, .int .i64 id), (5, .slice A5 l.length c6), (6, .bool ((l.take k).any (fun y => y == id))), (15, .slice A l.length c), (16, .int .i64 ((l.length : Nat) : Int)), (17, .int .i64 ((k : Nat) : Int))] ∧ St w0 w (C4 :: F) ∧ k ≤ l.length) (l.length - 0)
    ⟨0, rfl, (hA.sel [0, 1, 5, 6, 15, 16, 17] rfl), hS, Nat.zero_le _⟩ ?_
  clear hA hS; rintro m0 a w7 ⟨k, rfl, hA, hS, hk⟩
  refine wp_seq ?_
  refine wp_region_lit ?_
  refine st_run tbOk 1 hA (e' := (18, .bool (decide (((k : Nat) : Int) < ((l.length : Nat) : Int)))) :: _) rfl ?_; clear hA; intro a hA
  refine wpList_nil ?_
  refine xt_norm ?_
  refine wp_seq ?_
  by_cases hc8 : ((k : Nat) : Int) < ((l.length : Nat) : Int)
  · first
    | (exfalso; omega)
    | (replace hA := hA.rw 18 (v' := .bool true) rfl (vb_true hc8)
       refine cd_cond_t hA rfl ?_
       refine wp_skip ?_
       refine xt_norm ?_
       refine wp_seq ?_
       refine wp_block ?_
       refine wp_seq ?_
       refine wp_region_lit ?_
       obtain ⟨b9, o10, rfl⟩ := (hr _ (hS.tail 1 rfl)).isSome (k := k) (by omega)
       refine st_val hA rfl rfl (by decide) (rn_indexAddr tbOk hA k (o10 + k) rfl rfl rfl rfl rfl rfl (by rfl) (by omega) (by first | rfl | simp [Nat.mul_one, Nat.zero_add] | omega)) ?_; clear hA; intro a hA
       obtain ⟨x11, hx11⟩ := get_ex (l := l) (k := k) (by omega)
       refine st_val hA rfl rfl (by decide) (rn_load tbOk hA rfl rfl rfl rfl ((hr _ (hS.tail 1 rfl)).elem0 encI_ok hx11 rfl)) ?_; clear hA; intro a hA
       refine st_run tbOk 1 hA (e' := (8, .int .i64 x11) :: _) rfl ?_; clear hA; intro a hA
       refine wpList_nil ?_
       replace hA := hA.sel [0, 1, 5, 6, 8, 15, 16, 17] (e' := [(0, .slice (some ⟨b9, o10, none⟩) l.length c), (1, .int .i64 id), (5, .slice A5 l.length c6), (6, .bool ((l.take k).any (fun y => y == id))), (8, .int .i64 x11), (15, .slice (some ⟨b9, o10, none⟩) l.length c), (16, .int .i64 ((l.length : Nat) : Int)), (17, .int .i64 ((k : Nat) : Int))]) rfl
       refine xt_norm ?_
       refine wp_region_lit ?_
       refine st_run tbOk 2 hA (e' := (22, .bool ((l.take k).any (fun y => y == id))) :: (21, .bool ((l.take k).any (fun y => y == id))) :: _) rfl ?_; clear hA; intro a hA
       by_cases hc12 : ((l.take k).any (fun y => y == id)) = true
       · first
         | (exfalso; omega)
         | (replace hA := hA.rw 6 (v' := .bool true) rfl (vb_t hc12)
            replace hA := hA.rw 21 (v' := .bool true) rfl (vb_t hc12)
            replace hA := hA.rw 22 (v' := .bool true) rfl (vb_t hc12)
            refine st_run tbOk 5 hA (e' := (6, .bool true) :: (26, .bool true) :: (25, undef) :: (24, undef) :: (23, undef) :: _) rfl ?_; clear hA; intro a hA
            refine wpList_nil ?_
            replace hA := hA.sel [0, 1, 5, 6, 15, 16, 17] (e' := [(0, .slice (some ⟨b9, o10, none⟩) l.length c), (1, .int .i64 id), (5, .slice A5 l.length c6), (6, .bool true), (15, .slice (some ⟨b9, o10, none⟩) l.length c), (16, .int .i64 ((l.length : Nat) : Int)), (17, .int .i64 ((k : Nat) : Int))]) rfl
            refine xb_norm ?_
            refine xt_norm ?_
            refine wp_region_lit ?_
            refine st_run tbOk 1 hA (e' := (27, .int .i64 (IntKind.i64.wrap (((k : Nat) : Int) + 1))) :: _) rfl ?_; clear hA; intro a hA
            replace hA := hA.rw 27 (v' := .int .i64 ((k + 1 : Nat) : Int)) rfl (wr64 (by omega) (by omega) (by omega))
            refine st_run tbOk 1 hA (e' := (17, .int .i64 ((k + 1 : Nat) : Int)) :: _) rfl ?_; clear hA; intro a hA
            refine wpList_nil ?_
            replace hA := hA.sel [0, 1, 5, 6, 15, 16, 17] (e' := [(0, .slice (some ⟨b9, o10, none⟩) l.length c), (1, .int .i64 id), (5, .slice A5 l.length c6), (6, .bool true), (15, .slice (some ⟨b9, o10, none⟩) l.length c), (16, .int .i64 ((l.length : Nat) : Int)), (17, .int .i64 ((k + 1 : Nat) : Int))]) rfl
            replace hA := hA.rw 6 (v' := .bool ((l.take (k + 1)).any (fun y => y == id))) rfl (by rw [any_yes hc12 hx11])
            exact lp_next _ (by omega) ⟨(k + 1), rfl, (hA.sel [0, 1, 5, 6, 15, 16, 17] rfl), hS, by omega⟩)
       · first
         | (exfalso; omega)
         | (replace hA := hA.rw 6 (v' := .bool false) rfl (vb_f hc12)
            replace hA := hA.rw 21 (v' := .bool false) rfl (vb_f hc12)
            replace hA := hA.rw 22 (v' := .bool false) rfl (vb_f hc12)
            refine st_run tbOk 5 hA (e' := (6, .bool (x11 == id)) :: (26, .bool (x11 == id)) :: (25, .bool (x11 == id)) :: (24, .int .i64 id) :: (23, .int .i64 x11) :: _) rfl ?_; clear hA; intro a hA
            refine wpList_nil ?_
            replace hA := hA.sel [0, 1, 5, 6, 15, 16, 17] (e' := [(0, .slice (some ⟨b9, o10, none⟩) l.length c), (1, .int .i64 id), (5, .slice A5 l.length c6), (6, .bool (x11 == id)), (15, .slice (some ⟨b9, o10, none⟩) l.length c), (16, .int .i64 ((l.length : Nat) : Int)), (17, .int .i64 ((k : Nat) : Int))]) rfl
            refine xb_norm ?_
            refine xt_norm ?_
            refine wp_region_lit ?_
            refine st_run tbOk 1 hA (e' := (27, .int .i64 (IntKind.i64.wrap (((k : Nat) : Int) + 1))) :: _) rfl ?_; clear hA; intro a hA
            replace hA := hA.rw 27 (v' := .int .i64 ((k + 1 : Nat) : Int)) rfl (wr64 (by omega) (by omega) (by omega))
            refine st_run tbOk 1 hA (e' := (17, .int .i64 ((k + 1 : Nat) : Int)) :: _) rfl ?_; clear hA; intro a hA
            refine wpList_nil ?_
            replace hA := hA.sel [0, 1, 5, 6, 15, 16, 17] (e' := [(0, .slice (some ⟨b9, o10, none⟩) l.length c), (1, .int .i64 id), (5, .slice A5 l.length c6), (6, .bool (x11 == id)), (15, .slice (some ⟨b9, o10, none⟩) l.length c), (16, .int .i64 ((l.length : Nat) : Int)), (17, .int .i64 ((k + 1 : Nat) : Int))]) rfl
            replace hA := hA.rw 6 (v' := .bool ((l.take (k + 1)).any (fun y => y == id))) rfl (by rw [any_step hc12 hx11])
            exact lp_next _ (by omega) ⟨(k + 1), rfl, (hA.sel [0, 1, 5, 6, 15, 16, 17] rfl), hS, by omega⟩))
  · first
    | (exfalso; omega)
    | (replace hA := hA.rw 18 (v' := .bool false) rfl (vb_false hc8)
       refine cd_cond_f hA rfl ?_
       refine wp_exit ?_
       refine xt_exit ?_
       refine xt_exit ?_
       refine cd_exit_eq ?_
       refine xt_norm ?_
       refine wp_seq ?_
       refine wp_region_lit ?_
       refine st_run tbOk 2 hA (e' := (30, .int .i64 id) :: (29, .slice A l.length c) :: _) rfl ?_; clear hA; intro a hA
       refine st_call0 hA rfl rfl rfl isfn10 rfl rfl (by decide) (push_dup10 hS (l := l) (fun w' h => (hr _ (h.tail 1 rfl))) id h1) ?_
       clear hA hS; rintro _ w13 a ⟨rfl, hS⟩ hA
       refine st_run tbOk 5 hA (e' := (10, .iface 29 (.int .i64 11)) :: (9, .slice none 0 0) :: (33, .iface 29 (.int .i64 11)) :: (32, .slice none 0 0) :: (28, .tuple #[.slice none 0 0, .iface 29 (.int .i64 11)]) :: _) rfl ?_; clear hA; intro a hA
       refine wpList_nil ?_
       replace hA := hA.sel [0, 1, 5, 6, 9, 10] (e' := [(0, .slice A l.length c), (1, .int .i64 id), (5, .slice A5 l.length c6), (6, .bool ((l.take k).any (fun y => y == id))), (9, .slice none 0 0), (10, .iface 29 (.int .i64 11))]) rfl
       refine xt_norm ?_
       refine wp_seq ?_
       refine wp_seq ?_
       refine wp_region_lit ?_
       refine st_run tbOk 2 hA (e' := (35, .slice A5 l.length c6) :: (34, .slice A l.length c) :: _) rfl ?_; clear hA; intro a hA
       refine st_call0 hA rfl rfl rfl isfn9 rfl rfl (by decide) (same9 hS (xs := l) (ys := l) (fun w' h => (hr _ (h.tail 1 rfl))) (RdS.own hO4 0 rfl)) ?_
       clear hA hS; rintro v w14 a ⟨rfl, hS⟩ hA
       replace hA := hA.rw 36 (v' := .bool true) rfl (by simp)
       refine st_run tbOk 1 hA (e' := (37, .bool false) :: _) rfl ?_; clear hA; intro a hA
       refine wpList_nil ?_
       replace hA := hA.sel [0, 1, 5, 6, 9, 10, 37] (e' := [(0, .slice A l.length c), (1, .int .i64 id), (5, .slice A5 l.length c6), (6, .bool ((l.take k).any (fun y => y == id))), (9, .slice none 0 0), (10, .iface 29 (.int .i64 11)), (37, .bool false)]) rfl
       refine xt_norm ?_
       refine cd_cond_f hA rfl ?_
       refine wp_skip ?_
       refine xt_norm ?_
       refine wp_seq ?_
       refine wp_seq ?_
       replace hA := hA.rw 6 (v' := .bool true) rfl (by rw [show k = l.length by omega, List.take_length, h1])
       refine wp_region_lit ?_
       refine st_run tbOk 1 hA (e' := (38, .bool true) :: _) rfl ?_; clear hA; intro a hA
       refine wpList_nil ?_
       replace hA := hA.sel [0, 1, 5, 9, 10, 38] (e' := [(0, .slice A l.length c), (1, .int .i64 id), (5, .slice A5 l.length c6), (9, .slice none 0 0), (10, .iface 29 (.int .i64 11)), (38, .bool true)]) rfl
       refine xt_norm ?_
       refine cd_cond_t hA rfl ?_
       refine wp_seq ?_
       refine wp_region_lit ?_
       refine st_run tbOk 5 hA (e' := (43, .iface 29 (.int .i64 11)) :: (42, .bool true) :: (41, .bool true) :: (40, .int .i64 0) :: (39, .slice none 0 0) :: _) rfl ?_; clear hA; intro a hA
       refine st_call0 hA rfl rfl rfl isfn8 rfl rfl (by decide) (number_hit8 hS hg 11) ?_
       clear hA hS; rintro v w15 a ⟨rfl, hS⟩ hA
       refine st_run tbOk 3 hA (e' := (4, .bool true) :: (46, .bool true) :: (45, .bool true) :: _) rfl ?_; clear hA; intro a hA
       refine wpList_nil ?_
       replace hA := hA.sel [4] (e' := [(4, .bool true)]) rfl
       refine xt_norm ?_
       refine wp_ret (xt_ret ?_)
       refine ret1 (fn := Tryd.f4) hA rfl rfl ?_
       replace hS := hS.drop1
       exact ⟨rfl, hS⟩)

theorem pushLaw_full4 {w0 w : World} {F : List Chunk} (hS : St w0 w F) (hg : HG w0) {v : Value} {l : List Int} (hr : RdS w0 F 1 v l.length (rows encI l)) (id : Int) (hb : l.length * 8 ≤ 140737488351232) (h1 : l.any (fun y => y == id) = false) (h2 : 64 ≤ l.length) :
    Ret Tryd.prog 4 #[v, .int .i64 id] w (fun v w' => v = .bool true ∧ St w0 w' F) := by
  obtain ⟨A, c, rfl, hmc, hcx⟩ := (hr w hS).open'
  refine enter (vs := [.slice A l.length c, .int .i64 id]) 68 Tryd.func4 rfl rfl (by simp) ?_; intro a hA
  refine wp_seq ?_
  refine wp_region_lit ?_
  refine st_run tbOk 1 hA (e' := (4, .bool false) :: _) rfl ?_; clear hA; intro a hA
  refine wpList_nil ?_
  replace hA := hA.sel [0, 1] (e' := [(0, .slice A l.length c), (1, .int .i64 id)]) rfl
  refine xt_norm ?_
  refine wp_seq ?_
  refine wp_seq ?_
  refine wp_region_lit ?_
  refine st_call0 hA rfl rfl rfl isfn6 rfl rfl (by decide) (awake6 hS) ?_
  clear hA hS; rintro v w1 a ⟨rfl, hS⟩ hA
  refine st_run tbOk 1 hA (e' := (12, .bool false) :: _) rfl ?_; clear hA; intro a hA
  refine wpList_nil ?_
  replace hA := hA.sel [0, 1, 12] (e' := [(0, .slice A l.length c), (1, .int .i64 id), (12, .bool false)]) rfl
  refine xt_norm ?_
  refine cd_cond_f hA rfl ?_
  refine wp_skip ?_
  refine xt_norm ?_
  refine wp_seq ?_
  refine wp_region_lit ?_
  refine st_run tbOk 1 hA (e' := (13, .slice A l.length c) :: _) rfl ?_; clear hA; intro a hA
  replace hS := hS.nil
  refine st_append tbOk hA (m := 0) (q := l.length) (xs := rows encI ([] : List Int)) (news := rows encI l) rfl rfl rfl rfl rfl rfl rfl rfl (by decide) (Own.nil 3 1) hS (hr _ (hS.tail 1 rfl)) (rows_one encI_ok _) (maxLen_le (by omega)) (by show (0 + l.length) * 8 ≤ 140737488355328; omega) rfl rfl (by decide) ?_
  clear hA hS; intro v2 w3 C4 a hO4 hS hA
  replace hO4 := Own.app (l := ([] : List Int)) (l2 := l) hO4
  replace hO4 : Own 3 1 v2 l.length (rows encI l) C4 := hO4
  obtain ⟨A5, c6, rfl, hmc6, hxc6⟩ := hO4.open'
  refine st_run tbOk 1 hA (e' := (5, .slice A5 l.length c6) :: _) rfl ?_; clear hA; intro a hA
  refine wpList_nil ?_
  replace hA := hA.sel [0, 1, 5] (e' := [(0, .slice A l.length c), (1, .int .i64 id), (5, .slice A5 l.length c6)]) rfl
  refine xt_norm ?_
  refine wp_seq ?_
  refine wp_region_lit ?_
  refine st_run tbOk 1 hA (e' := (6, .bool false) :: _) rfl ?_; clear hA; intro a hA
  refine wpList_nil ?_
  refine xt_norm ?_
  refine wp_seq ?_
  refine wp_seq ?_
  refine wp_region_lit ?_
  refine st_run tbOk 3 hA (e' := (17, .int .i64 0) :: (16, .int .i64 ((l.length : Nat) : Int)) :: (15, .slice A l.length c) :: _) rfl ?_; clear hA; intro a hA
  refine wpList_nil ?_
  refine xt_norm ?_
  refine wp_block ?_
  replace hA := hA.rw 6 (v' := .bool ((l.take 0).any (fun y => y == id))) rfl (by rw [List.take_zero]; rfl)
  refine wp_loop_ghost (fun m a w => ∃ (k : Nat), m = l.length - k ∧ Has a 68 [(0, .slice A l.length c), (1, .int .i64 id), (5, .slice A5 l.length c6), (6, .bool ((l.take k).any (fun y => y == id))), (15, .slice A l.length c), (16, .int .i64 ((l.length : Nat) : Int)), (17, .int .i64 ((k : Nat) : Int))] ∧ St w0 w (C4 :: F) ∧ k ≤ l.length) (l.length - 0)
    ⟨0, rfl, (hA.sel [0, 1, 5, 6, 15, 16, 17] rfl), hS, Nat.zero_le _⟩ ?_
  clear hA hS; rintro m0 a w7 ⟨k, rfl, hA, hS, hk⟩
  refine wp_seq ?_
  refine wp_region_lit ?_
  refine st_run tbOk 1 hA (e' := (18, .bool (decide (((k : Nat) : Int) < ((l.length : Nat) : Int)))) :: _) rfl ?_; clear hA; intro a hA
  refine wpList_nil ?_
  refine xt_norm ?_
  refine wp_seq ?_
  by_cases hc8 : ((k : Nat) : Int) < ((l.length : Nat) : Int)
  · first
    | (exfalso; omega)
    | (replace hA := hA.rw 18 (v' := .bool true) rfl (vb_true hc8)
       refine cd_cond_t hA rfl ?_
       refine wp_skip ?_
       refine xt_norm ?_
       refine wp_seq ?_
       refine wp_block ?_
       refine wp_seq ?_
       refine wp_region_lit ?_
       obtain ⟨b9, o10, rfl⟩ := (hr _ (hS.tail 1 rfl)).isSome (k := k) (by omega)
       refine st_val hA rfl rfl (by decide) (rn_indexAddr tbOk hA k (o10 + k) rfl rfl rfl rfl rfl rfl (by rfl) (by omega) (by first | rfl | simp [Nat.mul_one, Nat.zero_add] | omega)) ?_; clear hA; intro a hA
       obtain ⟨x11, hx11⟩ := get_ex (l := l) (k := k) (by omega)
       refine st_val hA rfl rfl (by decide) (rn_load tbOk hA rfl rfl rfl rfl ((hr _ (hS.tail 1 rfl)).elem0 encI_ok hx11 rfl)) ?_; clear hA; intro a hA
       refine st_run tbOk 1 hA (e' := (8, .int .i64 x11) :: _) rfl ?_; clear hA; intro a hA
       refine wpList_nil ?_
       replace hA := hA.sel [0, 1, 5, 6, 8, 15, 16, 17] (e' := [(0, .slice (some ⟨b9, o10, none⟩) l.length c), (1, .int .i64 id), (5, .slice A5 l.length c6), (6, .bool ((l.take k).any (fun y => y == id))), (8, .int .i64 x11), (15, .slice (some ⟨b9, o10, none⟩) l.length c), (16, .int .i64 ((l.length : Nat) : Int)), (17, .int .i64 ((k : Nat) : Int))]) rfl
       refine xt_norm ?_
       refine wp_region_lit ?_
       refine st_run tbOk 2 hA (e' := (22, .bool ((l.take k).any (fun y => y == id))) :: (21, .bool ((l.take k).any (fun y => y == id))) :: _) rfl ?_; clear hA; intro a hA
       by_cases hc12 : ((l.take k).any (fun y => y == id)) = true
       · first
         | (exfalso; omega)
         | (replace hA := hA.rw 6 (v' := .bool true) rfl (vb_t hc12)
            replace hA := hA.rw 21 (v' := .bool true) rfl (vb_t hc12)
            replace hA := hA.rw 22 (v' := .bool true) rfl (vb_t hc12)
            refine st_run tbOk 5 hA (e' := (6, .bool true) :: (26, .bool true) :: (25, undef) :: (24, undef) :: (23, undef) :: _) rfl ?_; clear hA; intro a hA
            refine wpList_nil ?_
            replace hA := hA.sel [0, 1, 5, 6, 15, 16, 17] (e' := [(0, .slice (some ⟨b9, o10, none⟩) l.length c), (1, .int .i64 id), (5, .slice A5 l.length c6), (6, .bool true), (15, .slice (some ⟨b9, o10, none⟩) l.length c), (16, .int .i64 ((l.length : Nat) : Int)), (17, .int .i64 ((k : Nat) : Int))]) rfl
            refine xb_norm ?_
            refine xt_norm ?_
            refine wp_region_lit ?_
            refine st_run tbOk 1 hA (e' := (27, .int .i64 (IntKind.i64.wrap (((k : Nat) : Int) + 1))) :: _) rfl ?_; clear hA; intro a hA
            replace hA := hA.rw 27 (v' := .int .i64 ((k + 1 : Nat) : Int)) rfl (wr64 (by omega) (by omega) (by omega))
            refine st_run tbOk 1 hA (e' := (17, .int .i64 ((k + 1 : Nat) : Int)) :: _) rfl ?_; clear hA; intro a hA
            refine wpList_nil ?_
            replace hA := hA.sel [0, 1, 5, 6, 15, 16, 17] (e' := [(0, .slice (some ⟨b9, o10, none⟩) l.length c), (1, .int .i64 id), (5, .slice A5 l.length c6), (6, .bool true), (15, .slice (some ⟨b9, o10, none⟩) l.length c), (16, .int .i64 ((l.length : Nat) : Int)), (17, .int .i64 ((k + 1 : Nat) : Int))]) rfl
            replace hA := hA.rw 6 (v' := .bool ((l.take (k + 1)).any (fun y => y == id))) rfl (by rw [any_yes hc12 hx11])
            exact lp_next _ (by omega) ⟨(k + 1), rfl, (hA.sel [0, 1, 5, 6, 15, 16, 17] rfl), hS, by omega⟩)
       · first
         | (exfalso; omega)
         | (replace hA := hA.rw 6 (v' := .bool false) rfl (vb_f hc12)
            replace hA := hA.rw 21 (v' := .bool false) rfl (vb_f hc12)
            replace hA := hA.rw 22 (v' := .bool false) rfl (vb_f hc12)
            refine st_run tbOk 5 hA (e' := (6, .bool (x11 == id)) :: (26, .bool (x11 == id)) :: (25, .bool (x11 == id)) :: (24, .int .i64 id) :: (23, .int .i64 x11) :: _) rfl ?_; clear hA; intro a hA
            refine wpList_nil ?_
            replace hA := hA.sel [0, 1, 5, 6, 15, 16, 17] (e' := [(0, .slice (some ⟨b9, o10, none⟩) l.length c), (1, .int .i64 id), (5, .slice A5 l.length c6), (6, .bool (x11 == id)), (15, .slice (some ⟨b9, o10, none⟩) l.length c), (16, .int .i64 ((l.length : Nat) : Int)), (17, .int .i64 ((k : Nat) : Int))]) rfl
            refine xb_norm ?_
            refine xt_norm ?_
            refine wp_region_lit ?_
            refine st_run tbOk 1 hA (e' := (27, .int .i64 (IntKind.i64.wrap (((k : Nat) : Int) + 1))) :: _) rfl ?_; clear hA; intro a hA
            replace hA := hA.rw 27 (v' := .int .i64 ((k + 1 : Nat) : Int)) rfl (wr64 (by omega) (by omega) (by omega))
            refine st_run tbOk 1 hA (e' := (17, .int .i64 ((k + 1 : Nat) : Int)) :: _) rfl ?_; clear hA; intro a hA
            refine wpList_nil ?_
            replace hA := hA.sel [0, 1, 5, 6, 15, 16, 17] (e' := [(0, .slice (some ⟨b9, o10, none⟩) l.length c), (1, .int .i64 id), (5, .slice A5 l.length c6), (6, .bool (x11 == id)), (15, .slice (some ⟨b9, o10, none⟩) l.length c), (16, .int .i64 ((l.length : Nat) : Int)), (17, .int .i64 ((k + 1 : Nat) : Int))]) rfl
            replace hA := hA.rw 6 (v' := .bool ((l.take (k + 1)).any (fun y => y == id))) rfl (by rw [any_step hc12 hx11])
            exact lp_next _ (by omega) ⟨(k + 1), rfl, (hA.sel [0, 1, 5, 6, 15, 16, 17] rfl), hS, by omega⟩))
  · first
    | (exfalso; omega)
    | (replace hA := hA.rw 18 (v' := .bool false) rfl (vb_false hc8)
       refine cd_cond_f hA rfl ?_
       refine wp_exit ?_
       refine xt_exit ?_
       refine xt_exit ?_
       refine cd_exit_eq ?_
       refine xt_norm ?_
       refine wp_seq ?_
       refine wp_region_lit ?_
       refine st_run tbOk 2 hA (e' := (30, .int .i64 id) :: (29, .slice A l.length c) :: _) rfl ?_; clear hA; intro a hA
       refine st_call0 hA rfl rfl rfl isfn10 rfl rfl (by decide) (push_full10 hS (l := l) (fun w' h => (hr _ (h.tail 1 rfl))) id h1 h2 (by omega)) ?_
       clear hA hS; rintro _ w13 a ⟨rfl, hS⟩ hA
       refine st_run tbOk 5 hA (e' := (10, .iface 29 (.int .i64 5)) :: (9, .slice none 0 0) :: (33, .iface 29 (.int .i64 5)) :: (32, .slice none 0 0) :: (28, .tuple #[.slice none 0 0, .iface 29 (.int .i64 5)]) :: _) rfl ?_; clear hA; intro a hA
       refine wpList_nil ?_
       replace hA := hA.sel [0, 1, 5, 6, 9, 10] (e' := [(0, .slice A l.length c), (1, .int .i64 id), (5, .slice A5 l.length c6), (6, .bool ((l.take k).any (fun y => y == id))), (9, .slice none 0 0), (10, .iface 29 (.int .i64 5))]) rfl
       refine xt_norm ?_
       refine wp_seq ?_
       refine wp_seq ?_
       refine wp_region_lit ?_
       refine st_run tbOk 2 hA (e' := (35, .slice A5 l.length c6) :: (34, .slice A l.length c) :: _) rfl ?_; clear hA; intro a hA
       refine st_call0 hA rfl rfl rfl isfn9 rfl rfl (by decide) (same9 hS (xs := l) (ys := l) (fun w' h => (hr _ (h.tail 1 rfl))) (RdS.own hO4 0 rfl)) ?_
       clear hA hS; rintro v w14 a ⟨rfl, hS⟩ hA
       replace hA := hA.rw 36 (v' := .bool true) rfl (by simp)
       refine st_run tbOk 1 hA (e' := (37, .bool false) :: _) rfl ?_; clear hA; intro a hA
       refine wpList_nil ?_
       replace hA := hA.sel [0, 1, 5, 6, 9, 10, 37] (e' := [(0, .slice A l.length c), (1, .int .i64 id), (5, .slice A5 l.length c6), (6, .bool ((l.take k).any (fun y => y == id))), (9, .slice none 0 0), (10, .iface 29 (.int .i64 5)), (37, .bool false)]) rfl
       refine xt_norm ?_
       refine cd_cond_f hA rfl ?_
       refine wp_skip ?_
       refine xt_norm ?_
       refine wp_seq ?_
       refine wp_seq ?_
       replace hA := hA.rw 6 (v' := .bool false) rfl (by rw [show k = l.length by omega, List.take_length, h1])
       refine wp_region_lit ?_
       refine st_run tbOk 1 hA (e' := (38, .bool false) :: _) rfl ?_; clear hA; intro a hA
       refine wpList_nil ?_
       replace hA := hA.sel [0, 1, 5, 9, 10, 38] (e' := [(0, .slice A l.length c), (1, .int .i64 id), (5, .slice A5 l.length c6), (9, .slice none 0 0), (10, .iface 29 (.int .i64 5)), (38, .bool false)]) rfl
       refine xt_norm ?_
       refine cd_cond_f hA rfl ?_
       refine wp_skip ?_
       refine xt_norm ?_
       refine wp_seq ?_
       refine wp_seq ?_
       refine wp_region_lit ?_
       refine st_run tbOk 3 hA (e' := (49, .bool (decide (((l.length : Nat) : Int) ≥ 64))) :: (48, .int .i64 ((l.length : Nat) : Int)) :: (47, .slice A l.length c) :: _) rfl ?_; clear hA; intro a hA
       refine wpList_nil ?_
       replace hA := hA.sel [1, 5, 9, 10, 49] (e' := [(1, .int .i64 id), (5, .slice A5 l.length c6), (9, .slice none 0 0), (10, .iface 29 (.int .i64 5)), (49, .bool (decide (((l.length : Nat) : Int) ≥ 64)))]) rfl
       refine xt_norm ?_
       by_cases hc15 : ((l.length : Nat) : Int) ≥ 64
       · first
         | (exfalso; omega)
         | (replace hA := hA.rw 49 (v' := .bool true) rfl (vb_true hc15)
            refine cd_cond_t hA rfl ?_
            refine wp_seq ?_
            refine wp_region_lit ?_
            refine st_run tbOk 5 hA (e' := (54, .iface 29 (.int .i64 5)) :: (53, .bool true) :: (52, .bool true) :: (51, .int .i64 0) :: (50, .slice none 0 0) :: _) rfl ?_; clear hA; intro a hA
            refine st_call0 hA rfl rfl rfl isfn8 rfl rfl (by decide) (number_hit8 hS hg 5) ?_
            clear hA hS; rintro v w16 a ⟨rfl, hS⟩ hA
            refine st_run tbOk 3 hA (e' := (4, .bool true) :: (57, .bool true) :: (56, .bool true) :: _) rfl ?_; clear hA; intro a hA
            refine wpList_nil ?_
            replace hA := hA.sel [4] (e' := [(4, .bool true)]) rfl
            refine xt_norm ?_
            refine wp_ret (xt_ret ?_)
            refine ret1 (fn := Tryd.f4) hA rfl rfl ?_
            replace hS := hS.drop1
            exact ⟨rfl, hS⟩)
       · first
         | (exfalso; omega)
         | (replace hA := hA.rw 49 (v' := .bool false) rfl (vb_false hc15)
            refine cd_cond_f hA rfl ?_
            refine wp_skip ?_
            refine xt_norm ?_
            refine wp_seq ?_
            refine wp_region_lit ?_
            refine st_run tbOk 11 hA (e' := (4, .bool false) :: (67, .bool false) :: (66, undef) :: (65, undef) :: (64, undef) :: (63, undef) :: (62, undef) :: (61, undef) :: (60, .bool false) :: (59, .bool false) :: (58, .iface 29 (.int .i64 5)) :: _) rfl ?_; clear hA; intro a hA
            refine wpList_nil ?_
            replace hA := hA.sel [4] (e' := [(4, .bool false)]) rfl
            refine xt_norm ?_
            refine wp_ret ?_
            refine ret1 (fn := Tryd.f4) hA rfl rfl ?_
            exfalso; omega))

theorem pushLaw4 {w0 w : World} {F : List Chunk} (hS : St w0 w F) (hg : HG w0) {v : Value} {l : List Int} (hr : RdS w0 F 1 v l.length (rows encI l)) (id : Int) (hb : l.length * 8 ≤ 140737488351232) :
    Ret Tryd.prog 4 #[v, .int .i64 id] w (fun v w' => v = .bool true ∧ St w0 w' F) := by
  rcases three l id with h1 | ⟨h1, h2⟩ | ⟨h1, h2⟩
  · exact pushLaw_dup4 hS hg hr id hb h1
  · exact pushLaw_ok4 hS hg hr id hb h1 h2
  · exact pushLaw_full4 hS hg hr id hb h1 h2

theorem takeLaw_ok3 {w0 w : World} {F : List Chunk} (hS : St w0 w F) (hg : HG w0) {v : Value} {l : List Int} (hr : RdS w0 F 1 v l.length (rows encI l)) (p : Int) (hb : l.length * 8 ≤ 140737488351232) (h0 : 0 < l.length) :
    Ret Tryd.prog 3 #[v, .int .i64 p] w (fun v w' => v = .bool true ∧ St w0 w' F) := by
  obtain ⟨A, c, rfl, hmc, hcx⟩ := (hr w hS).open'
  refine enter (vs := [.slice A l.length c, .int .i64 p]) 76 Tryd.func3 rfl rfl (by simp) ?_; intro a hA
  refine wp_seq ?_
  refine wp_region_lit ?_
  refine st_run tbOk 1 hA (e' := (4, .bool false) :: _) rfl ?_; clear hA; intro a hA
  refine wpList_nil ?_
  replace hA := hA.sel [0, 1] (e' := [(0, .slice A l.length c), (1, .int .i64 p)]) rfl
  refine xt_norm ?_
  refine wp_seq ?_
  refine wp_seq ?_
  refine wp_region_lit ?_
  refine st_call0 hA rfl rfl rfl isfn6 rfl rfl (by decide) (awake6 hS) ?_
  clear hA hS; rintro v w1 a ⟨rfl, hS⟩ hA
  refine st_run tbOk 1 hA (e' := (12, .bool false) :: _) rfl ?_; clear hA; intro a hA
  refine wpList_nil ?_
  replace hA := hA.sel [0, 1, 12] (e' := [(0, .slice A l.length c), (1, .int .i64 p), (12, .bool false)]) rfl
  refine xt_norm ?_
  refine cd_cond_f hA rfl ?_
  refine wp_skip ?_
  refine xt_norm ?_
  refine wp_seq ?_
  refine wp_region_lit ?_
  refine st_run tbOk 1 hA (e' := (13, .slice A l.length c) :: _) rfl ?_; clear hA; intro a hA
  replace hS := hS.nil
  refine st_append tbOk hA (m := 0) (q := l.length) (xs := rows encI ([] : List Int)) (news := rows encI l) rfl rfl rfl rfl rfl rfl rfl rfl (by decide) (Own.nil 3 1) hS (hr _ (hS.tail 1 rfl)) (rows_one encI_ok _) (maxLen_le (by first | omega | (simp; omega) | (simp only [List.length_take, List.length_drop]; omega))) (by show (0 + l.length) * 8 ≤ 140737488355328; first | omega | (simp; omega) | (simp only [List.length_take, List.length_drop]; omega)) rfl rfl (by decide) ?_
  clear hA hS; intro v2 w3 C4 a hO4 hS hA
  replace hO4 := Own.app (l := ([] : List Int)) (l2 := l) hO4
  replace hO4 : Own 3 1 v2 l.length (rows encI l) C4 := hO4
  obtain ⟨A5, c6, rfl, hmc6, hxc6⟩ := hO4.open'
  refine st_run tbOk 1 hA (e' := (5, .slice A5 l.length c6) :: _) rfl ?_; clear hA; intro a hA
  refine wpList_nil ?_
  replace hA := hA.sel [0, 1, 5] (e' := [(0, .slice A l.length c), (1, .int .i64 p), (5, .slice A5 l.length c6)]) rfl
  refine xt_norm ?_
  refine wp_seq ?_
  refine wp_region_lit ?_
  refine st_run tbOk 2 hA (e' := (17, .int .i64 p) :: (16, .slice A l.length c) :: _) rfl ?_; clear hA; intro a hA
  refine st_call0 hA rfl rfl rfl isfn7 rfl rfl (by decide) (take_ok7 hS (l := l) (fun w' h => (hr _ (h.tail 1 rfl))) p h0 (by omega)) ?_
  clear hA hS; rintro _ w8 a ⟨k, x, v7, C9, hk, hkp, hx, rfl, hO9, hS⟩ hA
  obtain ⟨A10, c11, rfl, hmc11, hxc11⟩ := hO9.open'
  obtain ⟨k2, hk2, hkp2, hn1, hn2⟩ := turn_round p l.length h0
  obtain rfl : k2 = k := by omega
  have hlen : (l.take k2 ++ l.drop (k2 + 1)).length + 1 = l.length := by simp; omega
  refine st_run tbOk 7 hA (e' := (8, .nilIface) :: (7, .slice A10 ((l.take k2 ++ l.drop (k2 + 1)).length) c11) :: (6, .int .i64 x) :: (21, .nilIface) :: (20, .slice A10 ((l.take k2 ++ l.drop (k2 + 1)).length) c11) :: (19, .int .i64 x) :: (15, .tuple #[.int .i64 x, .slice A10 ((l.take k2 ++ l.drop (k2 + 1)).length) c11, .nilIface]) :: _) rfl ?_; clear hA; intro a hA
  refine wpList_nil ?_
  replace hA := hA.sel [0, 1, 5, 6, 7, 8] (e' := [(0, .slice A l.length c), (1, .int .i64 p), (5, .slice A5 l.length c6), (6, .int .i64 x), (7, .slice A10 ((l.take k2 ++ l.drop (k2 + 1)).length) c11), (8, .nilIface)]) rfl
  refine xt_norm ?_
  refine wp_seq ?_
  refine wp_seq ?_
  refine wp_region_lit ?_
  refine st_run tbOk 3 hA (e' := (24, .bool (((l.length : Nat) : Int) == 0)) :: (23, .int .i64 ((l.length : Nat) : Int)) :: (22, .slice A l.length c) :: _) rfl ?_; clear hA; intro a hA
  refine wpList_nil ?_
  replace hA := hA.sel [0, 1, 5, 6, 7, 8, 24] (e' := [(0, .slice A l.length c), (1, .int .i64 p), (5, .slice A5 l.length c6), (6, .int .i64 x), (7, .slice A10 ((l.take k2 ++ l.drop (k2 + 1)).length) c11), (8, .nilIface), (24, .bool (((l.length : Nat) : Int) == 0))]) rfl
  refine xt_norm ?_
  have hc12 : ¬ (((l.length : Nat) : Int) = 0) := (by omega)
  replace hA := hA.rw 24 (v' := .bool false) rfl (vb_eq_f hc12)
  refine cd_cond_f hA rfl ?_
  refine wp_skip ?_
  refine xt_norm ?_
  refine wp_seq ?_
  refine wp_region_lit ?_
  refine st_run tbOk 3 hA (e' := (39, .int .i64 ((l.length : Nat) : Int)) :: (38, .slice A l.length c) :: (37, .int .i64 p) :: _) rfl ?_; clear hA; intro a hA
  refine st_val hA rfl rfl (by decide) (rn_rem hA rfl rfl rfl (by omega)) ?_; clear hA; intro a hA
  refine st_run tbOk 1 hA (e' := (9, .int .i64 (p.tmod ((l.length : Nat) : Int))) :: _) rfl ?_; clear hA; intro a hA
  refine wpList_nil ?_
  replace hA := hA.sel [0, 5, 6, 7, 8, 9] (e' := [(0, .slice A l.length c), (5, .slice A5 l.length c6), (6, .int .i64 x), (7, .slice A10 ((l.take k2 ++ l.drop (k2 + 1)).length) c11), (8, .nilIface), (9, .int .i64 (p.tmod ((l.length : Nat) : Int)))]) rfl
  refine xt_norm ?_
  refine wp_seq ?_
  refine wp_seq ?_
  refine wp_region_lit ?_
  refine st_run tbOk 2 hA (e' := (42, .bool (decide (p.tmod ((l.length : Nat) : Int) < 0))) :: (41, .int .i64 (p.tmod ((l.length : Nat) : Int))) :: _) rfl ?_; clear hA; intro a hA
  refine wpList_nil ?_
  replace hA := hA.sel [0, 5, 6, 7, 8, 9, 42] (e' := [(0, .slice A l.length c), (5, .slice A5 l.length c6), (6, .int .i64 x), (7, .slice A10 ((l.take k2 ++ l.drop (k2 + 1)).length) c11), (8, .nilIface), (9, .int .i64 (p.tmod ((l.length : Nat) : Int))), (42, .bool (decide (p.tmod ((l.length : Nat) : Int) < 0)))]) rfl
  refine xt_norm ?_
  by_cases hc13 : p.tmod ((l.length : Nat) : Int) < 0
  · first
    | (exfalso; omega)
    | (replace hA := hA.rw 42 (v' := .bool true) rfl (vb_true hc13)
       refine cd_cond_t hA rfl ?_
       refine wp_region_lit ?_
       refine st_run tbOk 4 hA (e' := (46, .int .i64 (IntKind.i64.wrap ((p.tmod ((l.length : Nat) : Int)) + ((l.length : Nat) : Int)))) :: (45, .int .i64 ((l.length : Nat) : Int)) :: (44, .slice A l.length c) :: (43, .int .i64 (p.tmod ((l.length : Nat) : Int))) :: _) rfl ?_; clear hA; intro a hA
       replace hA := hA.rw 46 (v' := .int .i64 ((p.tmod ((l.length : Nat) : Int)) + ((l.length : Nat) : Int))) rfl (wr64 (by omega) (by omega) (by omega))
       refine st_run tbOk 1 hA (e' := (9, .int .i64 ((p.tmod ((l.length : Nat) : Int)) + ((l.length : Nat) : Int))) :: _) rfl ?_; clear hA; intro a hA
       refine wpList_nil ?_
       replace hA := hA.sel [0, 5, 6, 7, 8, 9] (e' := [(0, .slice A l.length c), (5, .slice A5 l.length c6), (6, .int .i64 x), (7, .slice A10 ((l.take k2 ++ l.drop (k2 + 1)).length) c11), (8, .nilIface), (9, .int .i64 ((p.tmod ((l.length : Nat) : Int)) + ((l.length : Nat) : Int)))]) rfl
       refine xt_norm ?_
       refine wp_seq ?_
       replace hA := hA.rw 9 (v' := .int .i64 ((k2 : Nat) : Int)) rfl (vint (hn1 (by omega)))
       refine wp_draw (fun w' => St w0 w' (C9 :: C4 :: F)) [] [(0, true), (1, true), (2, true), (4, true), (5, true), (6, true), (7, true), (3, false), (8, false), (9, true)] mixed (by kernel_rfl) (by rintro c a w ⟨_, _, h, _⟩; cases h) (by rfl) (by kernel_rfl) ?_
       replace hS := hS.drew
       refine dr_run tbOk 2 hA hS (e' := (48, .int .i64 ((k2 : Nat) : Int)) :: (47, .slice A5 l.length c6) :: _) rfl ?_; clear hA; intro a hA
       refine dr_y hA rfl rfl rfl (by decide) hS (fun w' hS' => rn_slice_h tbOk hA k2 rfl rfl rfl rfl rfl rfl (by rfl) (by omega)) ?_; clear hA; intro a hA
       replace hA := hA.rw 49 (v' := .slice A5 ((l.take k2).length) c6) rfl (congrArg (fun m => Value.slice _ m _) (by rw [List.length_take]; omega))
       refine dr_run tbOk 3 hA hS (e' := (53, .int .i64 (IntKind.i64.wrap (((k2 : Nat) : Int) + 1))) :: (52, .int .i64 ((k2 : Nat) : Int)) :: (51, .slice A5 l.length c6) :: _) rfl ?_; clear hA; intro a hA
       replace hA := hA.rw 53 (v' := .int .i64 ((k2 + 1 : Nat) : Int)) rfl (wr64 (by omega) (by omega) (by omega))
       refine dr_y hA rfl rfl rfl (by decide) hS (fun w' hS' => rn_slice_l tbOk hA (k2 + 1) rfl rfl rfl rfl rfl rfl (by rfl) (by omega)) ?_; clear hA; intro a hA
       refine dr_b (o := _) rfl ?_
       replace hS := hS.nil
       refine st_append tbOk hA (m := 0) (q := (l.take k2).length) (xs := rows encI ([] : List Int)) (news := rows encI (l.take k2)) rfl rfl rfl rfl rfl rfl rfl rfl (by decide) (Own.nil 3 1) hS ((hO4.rd (hS.own_ 2 rfl)).rhead encI_ok k2 (by omega)) (rows_one encI_ok _) (maxLen_le (by first | omega | (simp; omega) | (simp only [List.length_take, List.length_drop]; omega))) (by show (0 + (l.take k2).length) * 8 ≤ 140737488355328; first | omega | (simp; omega) | (simp only [List.length_take, List.length_drop]; omega)) rfl rfl (by decide) ?_
       clear hA hS; intro v14 w15 C16 a hO16 hS hA
       replace hO16 := Own.app (l := ([] : List Int)) (l2 := l.take k2) hO16
       replace hO16 : Own 3 1 v14 (l.take k2).length (rows encI (l.take k2)) C16 := hO16
       obtain ⟨A17, c18, rfl, hmc18, hxc18⟩ := hO16.open'
       refine dr_nil (.inr (hS.tail 1 rfl)) ?_
       refine dr_b (o := _) rfl ?_
       refine st_append tbOk hA (m := (l.take k2).length) (q := ((l.take l.length).drop (k2 + 1)).length) (xs := rows encI (l.take k2)) (news := rows encI ((l.take l.length).drop (k2 + 1))) rfl rfl rfl rfl rfl rfl rfl rfl (by decide) hO16 hS ((hO4.rd (hS.own_ 2 rfl)).rslv encI_ok (k2 + 1) l.length c6 (by omega) (by omega) (by omega) (by omega)) (rows_one encI_ok _) (maxLen_le (by first | omega | (simp; omega) | (simp only [List.length_take, List.length_drop]; omega))) (by show ((l.take k2).length + ((l.take l.length).drop (k2 + 1)).length) * 8 ≤ 140737488355328; first | omega | (simp; omega) | (simp only [List.length_take, List.length_drop]; omega)) rfl rfl (by decide) ?_
       clear hA hS; intro v19 w20 C21 a hO21 hS hA
       replace hO21 := Own.app (l := l.take k2) (l2 := (l.take l.length).drop (k2 + 1)) hO21
       obtain ⟨A22, c23, rfl, hmc23, hxc23⟩ := hO21.open'
       refine dr_nil (.inr (hS.tail 1 rfl)) ?_
       refine dr_run tbOk 1 hA (hS.tail 1 rfl) (e' := (10, .slice A22 (((l.take k2) ++ ((l.take l.length).drop (k2 + 1))).length) c23) :: _) rfl ?_; clear hA; intro a hA
       refine dr_end ?_
       replace hA := hA.sel [0, 5, 6, 7, 8, 9, 10] (e' := [(0, .slice A l.length c), (5, .slice A5 l.length c6), (6, .int .i64 x), (7, .slice A10 ((l.take k2 ++ l.drop (k2 + 1)).length) c11), (8, .nilIface), (9, .int .i64 ((k2 : Nat) : Int)), (10, .slice A22 (((l.take k2) ++ ((l.take l.length).drop (k2 + 1))).length) c23)]) rfl
       refine xt_norm ?_
       refine wp_seq ?_
       refine wp_region_lit ?_
       refine st_run tbOk 6 hA (e' := (61, .int .i64 ((k2 : Nat) : Int)) :: (60, .slice A5 l.length c6) :: (59, .int .i64 x) :: (58, .bool true) :: (57, .bool true) :: (56, .nilIface) :: _) rfl ?_; clear hA; intro a hA
       obtain ⟨b24, o25, rfl⟩ := hO4.isSome (k := k2) (by omega)
       refine st_val hA rfl rfl (by decide) (rn_indexAddr tbOk hA k2 (o25 + k2) rfl rfl rfl rfl rfl rfl (by rfl) (by omega) (by first | rfl | simp [Nat.mul_one, Nat.zero_add] | omega)) ?_; clear hA; intro a hA
       refine st_val hA rfl rfl (by decide) (rn_load tbOk hA rfl rfl rfl rfl ((hO4.rd (hS.own_ 2 rfl)).elem0 encI_ok hx rfl)) ?_; clear hA; intro a hA
       refine st_run tbOk 3 hA (e' := (66, .bool (x == x)) :: (65, .bool (x == x)) :: (64, .bool (x == x)) :: _) rfl ?_; clear hA; intro a hA
       by_cases hc26 : x = x
       · first
         | (exfalso; omega)
         | (replace hA := hA.rw 64 (v' := .bool true) rfl (vb_eq_t hc26)
            replace hA := hA.rw 65 (v' := .bool true) rfl (vb_eq_t hc26)
            replace hA := hA.rw 66 (v' := .bool true) rfl (vb_eq_t hc26)
            refine st_run tbOk 2 hA (e' := (68, .slice A22 (((l.take k2) ++ ((l.take l.length).drop (k2 + 1))).length) c23) :: (67, .slice A10 ((l.take k2 ++ l.drop (k2 + 1)).length) c11) :: _) rfl ?_; clear hA; intro a hA
            refine st_call0 hA rfl rfl rfl isfn9 rfl rfl (by decide) (same9 hS (xs := l.take k2 ++ l.drop (k2 + 1)) (ys := (l.take k2) ++ ((l.take l.length).drop (k2 + 1))) (RdS.own hO9 1 rfl) (RdS.own hO21 0 rfl)) ?_
            clear hA hS; rintro v w27 a ⟨rfl, hS⟩ hA
            replace hA := hA.rw 69 (v' := .bool true) rfl (by simp)
            refine st_run tbOk 4 hA (e' := (73, .slice (some ⟨b24, o25, none⟩) l.length c6) :: (72, .slice A l.length c) :: (71, .bool true) :: (70, .bool true) :: _) rfl ?_; clear hA; intro a hA
            refine st_call0 hA rfl rfl rfl isfn9 rfl rfl (by decide) (same9 hS (xs := l) (ys := l) (fun w' h => (hr _ (h.tail 3 rfl))) (RdS.own hO4 2 rfl)) ?_
            clear hA hS; rintro v w28 a ⟨rfl, hS⟩ hA
            replace hA := hA.rw 74 (v' := .bool true) rfl (by simp)
            refine st_run tbOk 2 hA (e' := (4, .bool true) :: (75, .bool true) :: _) rfl ?_; clear hA; intro a hA
            refine wpList_nil ?_
            replace hA := hA.sel [4] (e' := [(4, .bool true)]) rfl
            refine xt_norm ?_
            refine wp_ret ?_
            refine ret1 (fn := Tryd.f3) hA rfl rfl ?_
            replace hS := hS.drop1
            replace hS := hS.drop1
            replace hS := hS.drop1
            exact ⟨rfl, hS⟩)
       · first
         | (exfalso; omega)
         | (replace hA := hA.rw 64 (v' := .bool false) rfl (vb_eq_f hc26)
            replace hA := hA.rw 65 (v' := .bool false) rfl (vb_eq_f hc26)
            replace hA := hA.rw 66 (v' := .bool false) rfl (vb_eq_f hc26)
            refine st_run tbOk 10 hA (e' := (4, .bool false) :: (75, .bool false) :: (74, undef) :: (73, undef) :: (72, undef) :: (71, .bool false) :: (70, .bool false) :: (69, undef) :: (68, undef) :: (67, undef) :: _) rfl ?_; clear hA; intro a hA
            refine wpList_nil ?_
            replace hA := hA.sel [4] (e' := [(4, .bool false)]) rfl
            refine xt_norm ?_
            refine wp_ret ?_
            refine ret1 (fn := Tryd.f3) hA rfl rfl ?_
            exfalso; omega))
  · first
    | (exfalso; omega)
    | (replace hA := hA.rw 42 (v' := .bool false) rfl (vb_false hc13)
       refine cd_cond_f hA rfl ?_
       refine wp_skip ?_
       refine xt_norm ?_
       refine wp_seq ?_
       replace hA := hA.rw 9 (v' := .int .i64 ((k2 : Nat) : Int)) rfl (vint (hn2 (by omega)))
       refine wp_draw (fun w' => St w0 w' (C9 :: C4 :: F)) [] [(0, true), (1, true), (2, true), (4, true), (5, true), (6, true), (7, true), (3, false), (8, false), (9, true)] mixed (by kernel_rfl) (by rintro c a w ⟨_, _, h, _⟩; cases h) (by rfl) (by kernel_rfl) ?_
       replace hS := hS.drew
       refine dr_run tbOk 2 hA hS (e' := (48, .int .i64 ((k2 : Nat) : Int)) :: (47, .slice A5 l.length c6) :: _) rfl ?_; clear hA; intro a hA
       refine dr_y hA rfl rfl rfl (by decide) hS (fun w' hS' => rn_slice_h tbOk hA k2 rfl rfl rfl rfl rfl rfl (by rfl) (by omega)) ?_; clear hA; intro a hA
       replace hA := hA.rw 49 (v' := .slice A5 ((l.take k2).length) c6) rfl (congrArg (fun m => Value.slice _ m _) (by rw [List.length_take]; omega))
       refine dr_run tbOk 3 hA hS (e' := (53, .int .i64 (IntKind.i64.wrap (((k2 : Nat) : Int) + 1))) :: (52, .int .i64 ((k2 : Nat) : Int)) :: (51, .slice A5 l.length c6) :: _) rfl ?_; clear hA; intro a hA
       replace hA := hA.rw 53 (v' := .int .i64 ((k2 + 1 : Nat) : Int)) rfl (wr64 (by omega) (by omega) (by omega))
       refine dr_y hA rfl rfl rfl (by decide) hS (fun w' hS' => rn_slice_l tbOk hA (k2 + 1) rfl rfl rfl rfl rfl rfl (by rfl) (by omega)) ?_; clear hA; intro a hA
       refine dr_b (o := _) rfl ?_
       replace hS := hS.nil
       refine st_append tbOk hA (m := 0) (q := (l.take k2).length) (xs := rows encI ([] : List Int)) (news := rows encI (l.take k2)) rfl rfl rfl rfl rfl rfl rfl rfl (by decide) (Own.nil 3 1) hS ((hO4.rd (hS.own_ 2 rfl)).rhead encI_ok k2 (by omega)) (rows_one encI_ok _) (maxLen_le (by first | omega | (simp; omega) | (simp only [List.length_take, List.length_drop]; omega))) (by show (0 + (l.take k2).length) * 8 ≤ 140737488355328; first | omega | (simp; omega) | (simp only [List.length_take, List.length_drop]; omega)) rfl rfl (by decide) ?_
       clear hA hS; intro v29 w30 C31 a hO31 hS hA
       replace hO31 := Own.app (l := ([] : List Int)) (l2 := l.take k2) hO31
       replace hO31 : Own 3 1 v29 (l.take k2).length (rows encI (l.take k2)) C31 := hO31
       obtain ⟨A32, c33, rfl, hmc33, hxc33⟩ := hO31.open'
       refine dr_nil (.inr (hS.tail 1 rfl)) ?_
       refine dr_b (o := _) rfl ?_
       refine st_append tbOk hA (m := (l.take k2).length) (q := ((l.take l.length).drop (k2 + 1)).length) (xs := rows encI (l.take k2)) (news := rows encI ((l.take l.length).drop (k2 + 1))) rfl rfl rfl rfl rfl rfl rfl rfl (by decide) hO31 hS ((hO4.rd (hS.own_ 2 rfl)).rslv encI_ok (k2 + 1) l.length c6 (by omega) (by omega) (by omega) (by omega)) (rows_one encI_ok _) (maxLen_le (by first | omega | (simp; omega) | (simp only [List.length_take, List.length_drop]; omega))) (by show ((l.take k2).length + ((l.take l.length).drop (k2 + 1)).length) * 8 ≤ 140737488355328; first | omega | (simp; omega) | (simp only [List.length_take, List.length_drop]; omega)) rfl rfl (by decide) ?_
       clear hA hS; intro v34 w35 C36 a hO36 hS hA
       replace hO36 := Own.app (l := l.take k2) (l2 := (l.take l.length).drop (k2 + 1)) hO36
       obtain ⟨A37, c38, rfl, hmc38, hxc38⟩ := hO36.open'
       refine dr_nil (.inr (hS.tail 1 rfl)) ?_
       refine dr_run tbOk 1 hA (hS.tail 1 rfl) (e' := (10, .slice A37 (((l.take k2) ++ ((l.take l.length).drop (k2 + 1))).length) c38) :: _) rfl ?_; clear hA; intro a hA
       refine dr_end ?_
       replace hA := hA.sel [0, 5, 6, 7, 8, 9, 10] (e' := [(0, .slice A l.length c), (5, .slice A5 l.length c6), (6, .int .i64 x), (7, .slice A10 ((l.take k2 ++ l.drop (k2 + 1)).length) c11), (8, .nilIface), (9, .int .i64 ((k2 : Nat) : Int)), (10, .slice A37 (((l.take k2) ++ ((l.take l.length).drop (k2 + 1))).length) c38)]) rfl
       refine xt_norm ?_
       refine wp_seq ?_
       refine wp_region_lit ?_
       refine st_run tbOk 6 hA (e' := (61, .int .i64 ((k2 : Nat) : Int)) :: (60, .slice A5 l.length c6) :: (59, .int .i64 x) :: (58, .bool true) :: (57, .bool true) :: (56, .nilIface) :: _) rfl ?_; clear hA; intro a hA
       obtain ⟨b39, o40, rfl⟩ := hO4.isSome (k := k2) (by omega)
       refine st_val hA rfl rfl (by decide) (rn_indexAddr tbOk hA k2 (o40 + k2) rfl rfl rfl rfl rfl rfl (by rfl) (by omega) (by first | rfl | simp [Nat.mul_one, Nat.zero_add] | omega)) ?_; clear hA; intro a hA
       refine st_val hA rfl rfl (by decide) (rn_load tbOk hA rfl rfl rfl rfl ((hO4.rd (hS.own_ 2 rfl)).elem0 encI_ok hx rfl)) ?_; clear hA; intro a hA
       refine st_run tbOk 3 hA (e' := (66, .bool (x == x)) :: (65, .bool (x == x)) :: (64, .bool (x == x)) :: _) rfl ?_; clear hA; intro a hA
       by_cases hc41 : x = x
       · first
         | (exfalso; omega)
         | (replace hA := hA.rw 64 (v' := .bool true) rfl (vb_eq_t hc41)
            replace hA := hA.rw 65 (v' := .bool true) rfl (vb_eq_t hc41)
            replace hA := hA.rw 66 (v' := .bool true) rfl (vb_eq_t hc41)
            refine st_run tbOk 2 hA (e' := (68, .slice A37 (((l.take k2) ++ ((l.take l.length).drop (k2 + 1))).length) c38) :: (67, .slice A10 ((l.take k2 ++ l.drop (k2 + 1)).length) c11) :: _) rfl ?_; clear hA; intro a hA
            refine st_call0 hA rfl rfl rfl isfn9 rfl rfl (by decide) (same9 hS (xs := l.take k2 ++ l.drop (k2 + 1)) (ys := (l.take k2) ++ ((l.take l.length).drop (k2 + 1))) (RdS.own hO9 1 rfl) (RdS.own hO36 0 rfl)) ?_
            clear hA hS; rintro v w42 a ⟨rfl, hS⟩ hA
            replace hA := hA.rw 69 (v' := .bool true) rfl (by simp)
            refine st_run tbOk 4 hA (e' := (73, .slice (some ⟨b39, o40, none⟩) l.length c6) :: (72, .slice A l.length c) :: (71, .bool true) :: (70, .bool true) :: _) rfl ?_; clear hA; intro a hA
            refine st_call0 hA rfl rfl rfl isfn9 rfl rfl (by decide) (same9 hS (xs := l) (ys := l) (fun w' h => (hr _ (h.tail 3 rfl))) (RdS.own hO4 2 rfl)) ?_
            clear hA hS; rintro v w43 a ⟨rfl, hS⟩ hA
            replace hA := hA.rw 74 (v' := .bool true) rfl (by simp)
            refine st_run tbOk 2 hA (e' := (4, .bool true) :: (75, .bool true) :: _) rfl ?_; clear hA; intro a hA
            refine wpList_nil ?_
            replace hA := hA.sel [4] (e' := [(4, .bool true)]) rfl
            refine xt_norm ?_
            refine wp_ret ?_
            refine ret1 (fn := Tryd.f3) hA rfl rfl ?_
            replace hS := hS.drop1
            replace hS := hS.drop1
            replace hS := hS.drop1
            exact ⟨rfl, hS⟩)
       · first
         | (exfalso; omega)
         | (replace hA := hA.rw 64 (v' := .bool false) rfl (vb_eq_f hc41)
            replace hA := hA.rw 65 (v' := .bool false) rfl (vb_eq_f hc41)
            replace hA := hA.rw 66 (v' := .bool false) rfl (vb_eq_f hc41)
            refine st_run tbOk 10 hA (e' := (4, .bool false) :: (75, .bool false) :: (74, undef) :: (73, undef) :: (72, undef) :: (71, .bool false) :: (70, .bool false) :: (69, undef) :: (68, undef) :: (67, undef) :: _) rfl ?_; clear hA; intro a hA
            refine wpList_nil ?_
            replace hA := hA.sel [4] (e' := [(4, .bool false)]) rfl
            refine xt_norm ?_
            refine wp_ret ?_
            refine ret1 (fn := Tryd.f3) hA rfl rfl ?_
            exfalso; omega))

theorem takeLaw_none3 {w0 w : World} {F : List Chunk} (hS : St w0 w F) (hg : HG w0) {v : Value} {l : List Int} (hr : RdS w0 F 1 v l.length (rows encI l)) (p : Int) (hb : l.length * 8 ≤ 140737488351232) (h0 : l.length = 0) :
    Ret Tryd.prog 3 #[v, .int .i64 p] w (fun v w' => v = .bool true ∧ St w0 w' F) := by
  obtain ⟨A, c, rfl, hmc, hcx⟩ := (hr w hS).open'
  refine enter (vs := [.slice A l.length c, .int .i64 p]) 76 Tryd.func3 rfl rfl (by simp) ?_; intro a hA
  refine wp_seq ?_
  refine wp_region_lit ?_
  refine st_run tbOk 1 hA (e' := (4, .bool false) :: _) rfl ?_; clear hA; intro a hA
  refine wpList_nil ?_
  replace hA := hA.sel [0, 1] (e' := [(0, .slice A l.length c), (1, .int .i64 p)]) rfl
  refine xt_norm ?_
  refine wp_seq ?_
  refine wp_seq ?_
  refine wp_region_lit ?_
  refine st_call0 hA rfl rfl rfl isfn6 rfl rfl (by decide) (awake6 hS) ?_
  clear hA hS; rintro v w1 a ⟨rfl, hS⟩ hA
  refine st_run tbOk 1 hA (e' := (12, .bool false) :: _) rfl ?_; clear hA; intro a hA
  refine wpList_nil ?_
  replace hA := hA.sel [0, 1, 12] (e' := [(0, .slice A l.length c), (1, .int .i64 p), (12, .bool false)]) rfl
  refine xt_norm ?_
  refine cd_cond_f hA rfl ?_
  refine wp_skip ?_
  refine xt_norm ?_
  refine wp_seq ?_
  refine wp_region_lit ?_
  refine st_run tbOk 1 hA (e' := (13, .slice A l.length c) :: _) rfl ?_; clear hA; intro a hA
  replace hS := hS.nil
  refine st_append tbOk hA (m := 0) (q := l.length) (xs := rows encI ([] : List Int)) (news := rows encI l) rfl rfl rfl rfl rfl rfl rfl rfl (by decide) (Own.nil 3 1) hS (hr _ (hS.tail 1 rfl)) (rows_one encI_ok _) (maxLen_le (by first | omega | (simp; omega) | (simp only [List.length_take, List.length_drop]; omega))) (by show (0 + l.length) * 8 ≤ 140737488355328; first | omega | (simp; omega) | (simp only [List.length_take, List.length_drop]; omega)) rfl rfl (by decide) ?_
  clear hA hS; intro v2 w3 C4 a hO4 hS hA
  replace hO4 := Own.app (l := ([] : List Int)) (l2 := l) hO4
  replace hO4 : Own 3 1 v2 l.length (rows encI l) C4 := hO4
  obtain ⟨A5, c6, rfl, hmc6, hxc6⟩ := hO4.open'
  refine st_run tbOk 1 hA (e' := (5, .slice A5 l.length c6) :: _) rfl ?_; clear hA; intro a hA
  refine wpList_nil ?_
  replace hA := hA.sel [0, 1, 5] (e' := [(0, .slice A l.length c), (1, .int .i64 p), (5, .slice A5 l.length c6)]) rfl
  refine xt_norm ?_
  refine wp_seq ?_
  refine wp_region_lit ?_
  refine st_run tbOk 2 hA (e' := (17, .int .i64 p) :: (16, .slice A l.length c) :: _) rfl ?_; clear hA; intro a hA
  refine st_call0 hA rfl rfl rfl isfn7 rfl rfl (by decide) (take_none7 hS (l := l) (fun w' h => (hr _ (h.tail 1 rfl))) p h0) ?_
  clear hA hS; rintro _ w7 a ⟨rfl, hS⟩ hA
  refine st_run tbOk 7 hA (e' := (8, .iface 29 (.int .i64 12)) :: (7, .slice none 0 0) :: (6, .int .i64 0) :: (21, .iface 29 (.int .i64 12)) :: (20, .slice none 0 0) :: (19, .int .i64 0) :: (15, .tuple #[.int .i64 0, .slice none 0 0, .iface 29 (.int .i64 12)]) :: _) rfl ?_; clear hA; intro a hA
  refine wpList_nil ?_
  replace hA := hA.sel [0, 1, 5, 6, 7, 8] (e' := [(0, .slice A l.length c), (1, .int .i64 p), (5, .slice A5 l.length c6), (6, .int .i64 0), (7, .slice none 0 0), (8, .iface 29 (.int .i64 12))]) rfl
  refine xt_norm ?_
  refine wp_seq ?_
  refine wp_seq ?_
  refine wp_region_lit ?_
  refine st_run tbOk 3 hA (e' := (24, .bool (((l.length : Nat) : Int) == 0)) :: (23, .int .i64 ((l.length : Nat) : Int)) :: (22, .slice A l.length c) :: _) rfl ?_; clear hA; intro a hA
  refine wpList_nil ?_
  replace hA := hA.sel [0, 1, 5, 6, 7, 8, 24] (e' := [(0, .slice A l.length c), (1, .int .i64 p), (5, .slice A5 l.length c6), (6, .int .i64 0), (7, .slice none 0 0), (8, .iface 29 (.int .i64 12)), (24, .bool (((l.length : Nat) : Int) == 0))]) rfl
  refine xt_norm ?_
  have hc8 : ((l.length : Nat) : Int) = 0 := (by omega)
  replace hA := hA.rw 24 (v' := .bool true) rfl (vb_eq_t hc8)
  refine cd_cond_t hA rfl ?_
  refine wp_seq ?_
  refine wp_region_lit ?_
  refine st_run tbOk 9 hA (e' := (33, .iface 29 (.int .i64 12)) :: (32, .bool true) :: (31, .bool true) :: (30, .bool true) :: (29, .int .i64 0) :: (28, .slice none 0 0) :: (27, .bool true) :: (26, .bool true) :: (25, .int .i64 0) :: _) rfl ?_; clear hA; intro a hA
  refine st_call0 hA rfl rfl rfl isfn8 rfl rfl (by decide) (number_hit8 hS hg 12) ?_
  clear hA hS; rintro v w9 a ⟨rfl, hS⟩ hA
  refine st_run tbOk 3 hA (e' := (4, .bool true) :: (36, .bool true) :: (35, .bool true) :: _) rfl ?_; clear hA; intro a hA
  refine wpList_nil ?_
  replace hA := hA.sel [4] (e' := [(4, .bool true)]) rfl
  refine xt_norm ?_
  refine wp_ret (xt_ret ?_)
  refine ret1 (fn := Tryd.f3) hA rfl rfl ?_
  replace hS := hS.drop1
  exact ⟨rfl, hS⟩

theorem takeLaw3 {w0 w : World} {F : List Chunk} (hS : St w0 w F) (hg : HG w0) {v : Value} {l : List Int} (hr : RdS w0 F 1 v l.length (rows encI l)) (p : Int) (hb : l.length * 8 ≤ 140737488351232) :
    Ret Tryd.prog 3 #[v, .int .i64 p] w (fun v w' => v = .bool true ∧ St w0 w' F) := by
  rcases Nat.eq_zero_or_pos l.length with h0 | h0
  · exact takeLaw_none3 hS hg hr p hb h0
  · exact takeLaw_ok3 hS hg hr p hb h0

theorem backLaw5 {w0 w : World} {F : List Chunk} (hS : St w0 w F) (hg : HG w0) {v : Value} {l : List Int} (hr : RdS w0 F 1 v l.length (rows encI l)) (id : Int) (hb : l.length * 8 ≤ 140737488351232) :
    Ret Tryd.prog 5 #[v, .int .i64 id] w (fun v w' => v = .bool true ∧ St w0 w' F) := by
  obtain ⟨A, c, rfl, hmc, hcx⟩ := (hr w hS).open'
  refine enter (vs := [.slice A l.length c, .int .i64 id]) 69 Tryd.func5 rfl rfl (by simp) ?_; intro a hA
  refine wp_seq ?_
  refine wp_region_lit ?_
  refine st_run tbOk 1 hA (e' := (4, .bool false) :: _) rfl ?_; clear hA; intro a hA
  refine wpList_nil ?_
  replace hA := hA.sel [0, 1] (e' := [(0, .slice A l.length c), (1, .int .i64 id)]) rfl
  refine xt_norm ?_
  refine wp_seq ?_
  refine wp_seq ?_
  refine wp_region_lit ?_
  refine st_call0 hA rfl rfl rfl isfn6 rfl rfl (by decide) (awake6 hS) ?_
  clear hA hS; rintro v w1 a ⟨rfl, hS⟩ hA
  refine st_run tbOk 1 hA (e' := (13, .bool false) :: _) rfl ?_; clear hA; intro a hA
  refine wpList_nil ?_
  replace hA := hA.sel [0, 1, 13] (e' := [(0, .slice A l.length c), (1, .int .i64 id), (13, .bool false)]) rfl
  refine xt_norm ?_
  refine cd_cond_f hA rfl ?_
  refine wp_skip ?_
  refine xt_norm ?_
  refine wp_seq ?_
  refine wp_region_lit ?_
  refine st_run tbOk 1 hA (e' := (5, .slice none 0 0) :: _) rfl ?_; clear hA; intro a hA
  refine wpList_nil ?_
  replace hA := hA.sel [0, 1, 5] (e' := [(0, .slice A l.length c), (1, .int .i64 id), (5, .slice none 0 0)]) rfl
  refine xt_norm ?_
  refine wp_seq ?_
  refine wp_seq ?_
  refine wp_region_lit ?_
  refine st_run tbOk 3 hA (e' := (16, .int .i64 0) :: (15, .int .i64 ((l.length : Nat) : Int)) :: (14, .slice A l.length c) :: _) rfl ?_; clear hA; intro a hA
  refine wpList_nil ?_
  replace hA := hA.sel [1, 5, 14, 15, 16] (e' := [(1, .int .i64 id), (5, .slice none 0 0), (14, .slice A l.length c), (15, .int .i64 ((l.length : Nat) : Int)), (16, .int .i64 0)]) rfl
  refine xt_norm ?_
  refine wp_block ?_
  replace hS := hS.nil
  refine wp_loop_ghost (fun m a w => ∃ (k : Nat) (L : List Int) (A1 : Option Addr) (c1 : Nat) (C1 : Chunk), m = l.length - k ∧ Has a 69 [(1, .int .i64 id), (5, .slice A1 L.length c1), (14, .slice A l.length c), (15, .int .i64 ((l.length : Nat) : Int)), (16, .int .i64 ((k : Nat) : Int))] ∧ St w0 w (C1 :: F) ∧ k ≤ l.length ∧ L.length ≤ 64 ∧ Own 3 1 (.slice A1 L.length c1) L.length (rows encI L) C1) (l.length - 0)
    ⟨0, ([]), none, 0, ([]), rfl, (hA.sel [1, 5, 14, 15, 16] rfl), hS, Nat.zero_le _, by decide, (Own.nil 3 1)⟩ ?_
  clear hA hS; rintro m0 a w2 ⟨k, L, A1, c1, C1, rfl, hA, hS, hk, hL, hO⟩
  refine wp_seq ?_
  refine wp_region_lit ?_
  refine st_run tbOk 1 hA (e' := (17, .bool (decide (((k : Nat) : Int) < ((l.length : Nat) : Int)))) :: _) rfl ?_; clear hA; intro a hA
  refine wpList_nil ?_
  refine xt_norm ?_
  refine wp_seq ?_
  by_cases hc3 : ((k : Nat) : Int) < ((l.length : Nat) : Int)
  · first
    | (exfalso; omega)
    | (replace hA := hA.rw 17 (v' := .bool true) rfl (vb_true hc3)
       refine cd_cond_t hA rfl ?_
       refine wp_skip ?_
       refine xt_norm ?_
       refine wp_seq ?_
       refine wp_block ?_
       refine wp_seq ?_
       refine wp_region_lit ?_
       obtain ⟨b4, o5, rfl⟩ := (hr _ (hS.tail 1 rfl)).isSome (k := k) (by omega)
       refine st_val hA rfl rfl (by decide) (rn_indexAddr tbOk hA k (o5 + k) rfl rfl rfl rfl rfl rfl (by rfl) (by omega) (by first | rfl | simp [Nat.mul_one, Nat.zero_add] | omega)) ?_; clear hA; intro a hA
       obtain ⟨x6, hx6⟩ := get_ex (l := l) (k := k) (by omega)
       refine st_val hA rfl rfl (by decide) (rn_load tbOk hA rfl rfl rfl rfl ((hr _ (hS.tail 1 rfl)).elem0 encI_ok hx6 rfl)) ?_; clear hA; intro a hA
       refine st_run tbOk 1 hA (e' := (7, .int .i64 x6) :: _) rfl ?_; clear hA; intro a hA
       refine wpList_nil ?_
       replace hA := hA.sel [1, 5, 7, 14, 15, 16] (e' := [(1, .int .i64 id), (5, .slice A1 L.length c1), (7, .int .i64 x6), (14, .slice (some ⟨b4, o5, none⟩) l.length c), (15, .int .i64 ((l.length : Nat) : Int)), (16, .int .i64 ((k : Nat) : Int))]) rfl
       refine xt_norm ?_
       refine wp_seq ?_
       refine wp_region_lit ?_
       refine st_run tbOk 2 hA (e' := (22, .int .i64 x6) :: (21, .slice A1 L.length c1) :: _) rfl ?_; clear hA; intro a hA
       rcases three L x6 with h1 | ⟨h1, h2⟩ | ⟨h1, h2⟩
       · refine st_call0 hA rfl rfl rfl isfn10 rfl rfl (by decide) (push_dup10 hS (l := L) (RdS.own hO 0 rfl) x6 h1) ?_
         clear hA hS; rintro _ w7 a ⟨rfl, hS⟩ hA
         refine st_run tbOk 5 hA (e' := (9, .iface 29 (.int .i64 11)) :: (8, .slice none 0 0) :: (25, .iface 29 (.int .i64 11)) :: (24, .slice none 0 0) :: (20, .tuple #[.slice none 0 0, .iface 29 (.int .i64 11)]) :: _) rfl ?_; clear hA; intro a hA
         refine wpList_nil ?_
         replace hA := hA.sel [1, 5, 8, 9, 14, 15, 16] (e' := [(1, .int .i64 id), (5, .slice A1 L.length c1), (8, .slice none 0 0), (9, .iface 29 (.int .i64 11)), (14, .slice (some ⟨b4, o5, none⟩) l.length c), (15, .int .i64 ((l.length : Nat) : Int)), (16, .int .i64 ((k : Nat) : Int))]) rfl
         refine xt_norm ?_
         refine wp_seq ?_
         refine wp_region_lit ?_
         refine st_run tbOk 2 hA (e' := (27, .bool false) :: (26, .iface 29 (.int .i64 11)) :: _) rfl ?_; clear hA; intro a hA
         refine wpList_nil ?_
         replace hA := hA.sel [1, 5, 8, 14, 15, 16, 27] (e' := [(1, .int .i64 id), (5, .slice A1 L.length c1), (8, .slice none 0 0), (14, .slice (some ⟨b4, o5, none⟩) l.length c), (15, .int .i64 ((l.length : Nat) : Int)), (16, .int .i64 ((k : Nat) : Int)), (27, .bool false)]) rfl
         refine xt_norm ?_
         refine cd_cond_f hA rfl ?_
         refine wp_skip ?_
         refine xb_norm ?_
         refine xt_norm ?_
         refine wp_region_lit ?_
         refine st_run tbOk 1 hA (e' := (29, .int .i64 (IntKind.i64.wrap (((k : Nat) : Int) + 1))) :: _) rfl ?_; clear hA; intro a hA
         replace hA := hA.rw 29 (v' := .int .i64 ((k + 1 : Nat) : Int)) rfl (wr64 (by omega) (by omega) (by omega))
         refine st_run tbOk 1 hA (e' := (16, .int .i64 ((k + 1 : Nat) : Int)) :: _) rfl ?_; clear hA; intro a hA
         refine wpList_nil ?_
         replace hA := hA.sel [1, 5, 14, 15, 16] (e' := [(1, .int .i64 id), (5, .slice A1 L.length c1), (14, .slice (some ⟨b4, o5, none⟩) l.length c), (15, .int .i64 ((l.length : Nat) : Int)), (16, .int .i64 ((k + 1 : Nat) : Int))]) rfl
         exact lp_next _ (by omega) ⟨(k + 1), L, A1, c1, C1, rfl, (hA.sel [1, 5, 14, 15, 16] rfl), hS, by omega, hL, hO⟩
       · refine st_call0 hA rfl rfl rfl isfn10 rfl rfl (by decide) (push_ok10 hS (l := L) (RdS.own hO 0 rfl) x6 h1 h2) ?_
         clear hA hS; rintro _ w9 a ⟨v8, C10, rfl, hO10, hS⟩ hA
         obtain ⟨A11, c12, rfl, hmc12, hxc12⟩ := hO10.open'
         refine st_run tbOk 5 hA (e' := (9, .nilIface) :: (8, .slice A11 ((L ++ [x6]).length) c12) :: (25, .nilIface) :: (24, .slice A11 ((L ++ [x6]).length) c12) :: (20, .tuple #[.slice A11 ((L ++ [x6]).length) c12, .nilIface]) :: _) rfl ?_; clear hA; intro a hA
         refine wpList_nil ?_
         replace hA := hA.sel [1, 5, 8, 9, 14, 15, 16] (e' := [(1, .int .i64 id), (5, .slice A1 L.length c1), (8, .slice A11 ((L ++ [x6]).length) c12), (9, .nilIface), (14, .slice (some ⟨b4, o5, none⟩) l.length c), (15, .int .i64 ((l.length : Nat) : Int)), (16, .int .i64 ((k : Nat) : Int))]) rfl
         refine xt_norm ?_
         refine wp_seq ?_
         refine wp_region_lit ?_
         refine st_run tbOk 2 hA (e' := (27, .bool true) :: (26, .nilIface) :: _) rfl ?_; clear hA; intro a hA
         refine wpList_nil ?_
         replace hA := hA.sel [1, 5, 8, 14, 15, 16, 27] (e' := [(1, .int .i64 id), (5, .slice A1 L.length c1), (8, .slice A11 ((L ++ [x6]).length) c12), (14, .slice (some ⟨b4, o5, none⟩) l.length c), (15, .int .i64 ((l.length : Nat) : Int)), (16, .int .i64 ((k : Nat) : Int)), (27, .bool true)]) rfl
         refine xt_norm ?_
         refine cd_cond_t hA rfl ?_
         refine wp_region_lit ?_
         refine st_run tbOk 2 hA (e' := (5, .slice A11 ((L ++ [x6]).length) c12) :: (28, .slice A11 ((L ++ [x6]).length) c12) :: _) rfl ?_; clear hA; intro a hA
         refine wpList_nil ?_
         replace hA := hA.sel [1, 5, 14, 15, 16] (e' := [(1, .int .i64 id), (5, .slice A11 ((L ++ [x6]).length) c12), (14, .slice (some ⟨b4, o5, none⟩) l.length c), (15, .int .i64 ((l.length : Nat) : Int)), (16, .int .i64 ((k : Nat) : Int))]) rfl
         refine xb_norm ?_
         refine xt_norm ?_
         refine wp_region_lit ?_
         refine st_run tbOk 1 hA (e' := (29, .int .i64 (IntKind.i64.wrap (((k : Nat) : Int) + 1))) :: _) rfl ?_; clear hA; intro a hA
         replace hA := hA.rw 29 (v' := .int .i64 ((k + 1 : Nat) : Int)) rfl (wr64 (by omega) (by omega) (by omega))
         refine st_run tbOk 1 hA (e' := (16, .int .i64 ((k + 1 : Nat) : Int)) :: _) rfl ?_; clear hA; intro a hA
         refine wpList_nil ?_
         replace hA := hA.sel [1, 5, 14, 15, 16] (e' := [(1, .int .i64 id), (5, .slice A11 ((L ++ [x6]).length) c12), (14, .slice (some ⟨b4, o5, none⟩) l.length c), (15, .int .i64 ((l.length : Nat) : Int)), (16, .int .i64 ((k + 1 : Nat) : Int))]) rfl
         replace hS := hS.drop2
         exact lp_next _ (by omega) ⟨(k + 1), (L ++ [x6]), A11, c12, C10, rfl, (hA.sel [1, 5, 14, 15, 16] rfl), hS, by omega, by simp; omega, hO10⟩
       · refine st_call0 hA rfl rfl rfl isfn10 rfl rfl (by decide) (push_full10 hS (l := L) (RdS.own hO 0 rfl) x6 h1 h2 (by omega)) ?_
         clear hA hS; rintro _ w13 a ⟨rfl, hS⟩ hA
         refine st_run tbOk 5 hA (e' := (9, .iface 29 (.int .i64 5)) :: (8, .slice none 0 0) :: (25, .iface 29 (.int .i64 5)) :: (24, .slice none 0 0) :: (20, .tuple #[.slice none 0 0, .iface 29 (.int .i64 5)]) :: _) rfl ?_; clear hA; intro a hA
         refine wpList_nil ?_
         replace hA := hA.sel [1, 5, 8, 9, 14, 15, 16] (e' := [(1, .int .i64 id), (5, .slice A1 L.length c1), (8, .slice none 0 0), (9, .iface 29 (.int .i64 5)), (14, .slice (some ⟨b4, o5, none⟩) l.length c), (15, .int .i64 ((l.length : Nat) : Int)), (16, .int .i64 ((k : Nat) : Int))]) rfl
         refine xt_norm ?_
         refine wp_seq ?_
         refine wp_region_lit ?_
         refine st_run tbOk 2 hA (e' := (27, .bool false) :: (26, .iface 29 (.int .i64 5)) :: _) rfl ?_; clear hA; intro a hA
         refine wpList_nil ?_
         replace hA := hA.sel [1, 5, 8, 14, 15, 16, 27] (e' := [(1, .int .i64 id), (5, .slice A1 L.length c1), (8, .slice none 0 0), (14, .slice (some ⟨b4, o5, none⟩) l.length c), (15, .int .i64 ((l.length : Nat) : Int)), (16, .int .i64 ((k : Nat) : Int)), (27, .bool false)]) rfl
         refine xt_norm ?_
         refine cd_cond_f hA rfl ?_
         refine wp_skip ?_
         refine xb_norm ?_
         refine xt_norm ?_
         refine wp_region_lit ?_
         refine st_run tbOk 1 hA (e' := (29, .int .i64 (IntKind.i64.wrap (((k : Nat) : Int) + 1))) :: _) rfl ?_; clear hA; intro a hA
         replace hA := hA.rw 29 (v' := .int .i64 ((k + 1 : Nat) : Int)) rfl (wr64 (by omega) (by omega) (by omega))
         refine st_run tbOk 1 hA (e' := (16, .int .i64 ((k + 1 : Nat) : Int)) :: _) rfl ?_; clear hA; intro a hA
         refine wpList_nil ?_
         replace hA := hA.sel [1, 5, 14, 15, 16] (e' := [(1, .int .i64 id), (5, .slice A1 L.length c1), (14, .slice (some ⟨b4, o5, none⟩) l.length c), (15, .int .i64 ((l.length : Nat) : Int)), (16, .int .i64 ((k + 1 : Nat) : Int))]) rfl
         exact lp_next _ (by omega) ⟨(k + 1), L, A1, c1, C1, rfl, (hA.sel [1, 5, 14, 15, 16] rfl), hS, by omega, hL, hO⟩)
  · first
    | (exfalso; omega)
    | (replace hA := hA.rw 17 (v' := .bool false) rfl (vb_false hc3)
       refine cd_cond_f hA rfl ?_
       refine wp_exit ?_
       refine xt_exit ?_
       refine xt_exit ?_
       refine cd_exit_eq ?_
       refine xt_norm ?_
       refine wp_seq ?_
       refine wp_region_lit ?_
       refine st_run tbOk 2 hA (e' := (32, .int .i64 id) :: (31, .slice A1 L.length c1) :: _) rfl ?_; clear hA; intro a hA
       refine st_call0 hA rfl rfl rfl isfn11 rfl rfl (by decide) (drop11 hS (l := L) (RdS.own hO 0 rfl) id (by omega)) ?_
       clear hA hS; rintro v14 w15 a ⟨C16, hO16, hS⟩ hA
       obtain ⟨A17, c18, rfl, hmc18, hxc18⟩ := hO16.open'
       refine st_run tbOk 1 hA (e' := (34, .int .i64 id) :: _) rfl ?_; clear hA; intro a hA
       have hfl : (L.filter (fun x => !(x == id))).length ≤ L.length := List.length_filter_le _ _
       rcases Nat.lt_or_ge (L.filter (fun x => !(x == id))).length 64 with h2 | h2
       · refine st_call0 hA rfl rfl rfl isfn10 rfl rfl (by decide) (push_ok10 hS (l := L.filter (fun x => !(x == id))) (RdS.own hO16 0 rfl) id (filt_not L id) h2) ?_
         clear hA hS; rintro _ w20 a ⟨v19, C21, rfl, hO21, hS⟩ hA
         obtain ⟨A22, c23, rfl, hmc23, hxc23⟩ := hO21.open'
         refine st_run tbOk 5 hA (e' := (11, .nilIface) :: (10, .slice A22 (((L.filter (fun x => !(x == id))) ++ [id]).length) c23) :: (37, .nilIface) :: (36, .slice A22 (((L.filter (fun x => !(x == id))) ++ [id]).length) c23) :: (30, .tuple #[.slice A22 (((L.filter (fun x => !(x == id))) ++ [id]).length) c23, .nilIface]) :: _) rfl ?_; clear hA; intro a hA
         refine wpList_nil ?_
         replace hA := hA.sel [1, 5, 10, 11] (e' := [(1, .int .i64 id), (5, .slice A1 L.length c1), (10, .slice A22 (((L.filter (fun x => !(x == id))) ++ [id]).length) c23), (11, .nilIface)]) rfl
         refine xt_norm ?_
         refine wp_seq ?_
         refine wp_seq ?_
         refine wp_region_lit ?_
         refine st_run tbOk 2 hA (e' := (39, .int .i64 id) :: (38, .slice A1 L.length c1) :: _) rfl ?_; clear hA; intro a hA
         refine st_call0 hA rfl rfl rfl isfn11 rfl rfl (by decide) (drop11 hS (l := L) (RdS.own hO 2 rfl) id (by omega)) ?_
         clear hA hS; rintro v24 w25 a ⟨C26, hO26, hS⟩ hA
         obtain ⟨A27, c28, rfl, hmc28, hxc28⟩ := hO26.open'
         refine st_run tbOk 2 hA (e' := (42, .bool (decide ((((L.filter (fun x => !(x == id))).length : Nat) : Int) ≥ 64))) :: (41, .int .i64 (((L.filter (fun x => !(x == id))).length : Nat) : Int)) :: _) rfl ?_; clear hA; intro a hA
         refine wpList_nil ?_
         replace hA := hA.sel [1, 5, 10, 11, 42] (e' := [(1, .int .i64 id), (5, .slice A1 L.length c1), (10, .slice A22 (((L.filter (fun x => !(x == id))) ++ [id]).length) c23), (11, .nilIface), (42, .bool (decide ((((L.filter (fun x => !(x == id))).length : Nat) : Int) ≥ 64)))]) rfl
         refine xt_norm ?_
         by_cases hc29 : (((L.filter (fun x => !(x == id))).length : Nat) : Int) ≥ 64
         · first
           | (exfalso; omega)
           | (replace hA := hA.rw 42 (v' := .bool true) rfl (vb_true hc29)
              refine cd_cond_t hA rfl ?_
              refine wp_seq ?_
              refine wp_region_lit ?_
              refine st_run tbOk 1 hA (e' := (43, .nilIface) :: _) rfl ?_; clear hA; intro a hA
              refine st_call0 hA rfl rfl rfl isfn8 rfl rfl (by decide) (number_nil8 hS hg) ?_
              clear hA hS; rintro v w30 a ⟨rfl, hS⟩ hA
              refine st_run tbOk 2 hA (e' := (4, .bool false) :: (45, .bool false) :: _) rfl ?_; clear hA; intro a hA
              refine wpList_nil ?_
              replace hA := hA.sel [4] (e' := [(4, .bool false)]) rfl
              refine xt_norm ?_
              refine wp_ret (xt_ret ?_)
              refine ret1 (fn := Tryd.f5) hA rfl rfl ?_
              exfalso; omega)
         · first
           | (exfalso; omega)
           | (replace hA := hA.rw 42 (v' := .bool false) rfl (vb_false hc29)
              refine cd_cond_f hA rfl ?_
              refine wp_skip ?_
              refine xt_norm ?_
              refine wp_seq ?_
              refine wp_draw (fun w' => St w0 w' (C26 :: C21 :: C16 :: C1 :: F)) [] [(0, true), (1, true), (2, true), (3, true), (4, true), (5, true), (6, true), (7, true), (8, true), (9, true), (10, true), (11, true), (12, true), (13, true), (14, true), (15, true), (16, true), (17, true), (18, true), (19, true), (20, false), (21, false), (22, true), (23, true)] mixed (by kernel_rfl) (by rintro c a w ⟨_, _, h, _⟩; cases h) (by rfl) (by kernel_rfl) ?_
              replace hS := hS.drew
              refine dr_run tbOk 7 hA hS (e' := (52, .int .i64 (IntKind.i64.wrap (((((L.filter (fun x => !(x == id))) ++ [id]).length : Nat) : Int) - 1))) :: (51, .int .i64 ((((L.filter (fun x => !(x == id))) ++ [id]).length : Nat) : Int)) :: (50, .slice A22 (((L.filter (fun x => !(x == id))) ++ [id]).length) c23) :: (49, .slice A22 (((L.filter (fun x => !(x == id))) ++ [id]).length) c23) :: (48, .bool true) :: (47, .bool true) :: (46, .nilIface) :: _) rfl ?_; clear hA; intro a hA
              replace hA := hA.rw 52 (v' := .int .i64 (((((L.filter (fun x => !(x == id))) ++ [id]).length : Nat) : Int) - 1)) rfl (wr64 (by omega) (by omega) (by omega))
              replace hA := hA.rw 52 (v' := .int .i64 (((L.filter (fun x => !(x == id))).length : Nat) : Int)) rfl (vint (by simp))
              have hla : ((L.filter (fun x => !(x == id))) ++ [id]).length = (L.filter (fun x => !(x == id))).length + 1 := by simp
              obtain ⟨b31, o32, rfl⟩ := hO21.isSome (k := ((L.filter (fun x => !(x == id))).length)) (by omega)
              refine dr_y hA rfl rfl rfl (by decide) hS (fun w' hS' => rn_indexAddr tbOk hA ((L.filter (fun x => !(x == id))).length) (o32 + ((L.filter (fun x => !(x == id))).length)) rfl rfl rfl rfl rfl rfl (by rfl) (by omega) (by first | rfl | simp [Nat.mul_one, Nat.zero_add] | omega)) ?_; clear hA; intro a hA
              refine dr_y hA rfl rfl rfl (by decide) hS (fun w' hS' => rn_load tbOk hA rfl rfl rfl rfl ((hO21.rd (hS'.own_ 1 rfl)).elem0 encI_ok (last_at (L.filter (fun x => !(x == id))) id) rfl)) ?_; clear hA; intro a hA
              refine dr_run tbOk 4 hA hS (e' := (58, .bool (id == id)) :: (57, .bool (id == id)) :: (56, .bool (id == id)) :: (55, .int .i64 id) :: _) rfl ?_; clear hA; intro a hA
              by_cases hc33 : id = id
              · first
                | (exfalso; omega)
                | (replace hA := hA.rw 56 (v' := .bool true) rfl (vb_eq_t hc33)
                   replace hA := hA.rw 57 (v' := .bool true) rfl (vb_eq_t hc33)
                   replace hA := hA.rw 58 (v' := .bool true) rfl (vb_eq_t hc33)
                   refine dr_run tbOk 4 hA hS (e' := (62, .int .i64 (IntKind.i64.wrap (((((L.filter (fun x => !(x == id))) ++ [id]).length : Nat) : Int) - 1))) :: (61, .int .i64 ((((L.filter (fun x => !(x == id))) ++ [id]).length : Nat) : Int)) :: (60, .slice (some ⟨b31, o32, none⟩) (((L.filter (fun x => !(x == id))) ++ [id]).length) c23) :: (59, .slice (some ⟨b31, o32, none⟩) (((L.filter (fun x => !(x == id))) ++ [id]).length) c23) :: _) rfl ?_; clear hA; intro a hA
                   replace hA := hA.rw 62 (v' := .int .i64 (((((L.filter (fun x => !(x == id))) ++ [id]).length : Nat) : Int) - 1)) rfl (wr64 (by omega) (by omega) (by omega))
                   replace hA := hA.rw 62 (v' := .int .i64 (((L.filter (fun x => !(x == id))).length : Nat) : Int)) rfl (vint (by simp))
                   have hla : ((L.filter (fun x => !(x == id))) ++ [id]).length = (L.filter (fun x => !(x == id))).length + 1 := by simp
                   refine dr_y hA rfl rfl rfl (by decide) hS (fun w' hS' => rn_slice_h tbOk hA ((L.filter (fun x => !(x == id))).length) rfl rfl rfl rfl rfl rfl (by rfl) (by omega)) ?_; clear hA; intro a hA
                   replace hA := hA.rw 63 (v' := .slice (some ⟨b31, o32, none⟩) ((((L.filter (fun x => !(x == id))) ++ [id]).take ((L.filter (fun x => !(x == id))).length)).length) c23) rfl (congrArg (fun m => Value.slice _ m _) (by rw [List.length_take]; omega))
                   refine dr_run tbOk 2 hA hS (e' := (65, .int .i64 id) :: (64, .slice A1 L.length c1) :: _) rfl ?_; clear hA; intro a hA
                   refine dr_b (o := _) rfl ?_
                   refine st_call0 hA rfl rfl rfl isfn11 rfl rfl (by decide) (drop11 hS (l := L) (RdS.own hO 3 rfl) id (by omega)) ?_
                   clear hA hS; rintro v34 w35 a ⟨C36, hO36, hS⟩ hA
                   obtain ⟨A37, c38, rfl, hmc38, hxc38⟩ := hO36.open'
                   refine dr_nil (.inr (hS.tail 1 rfl)) ?_
                   refine dr_b (o := _) rfl ?_
                   refine st_call0 hA rfl rfl rfl isfn9 rfl rfl (by decide) (same9 hS (xs := ((L.filter (fun x => !(x == id))) ++ [id]).take ((L.filter (fun x => !(x == id))).length)) (ys := L.filter (fun x => !(x == id))) (fun w' h => ((hO21.rd (h.own_ 2 rfl)).rhead encI_ok ((L.filter (fun x => !(x == id))).length) (by omega))) (RdS.own hO36 0 rfl)) ?_
                   clear hA hS; rintro v w39 a ⟨rfl, hS⟩ hA
                   replace hA := hA.rw 67 (v' := .bool true) rfl (by simp)
                   refine dr_nil (.inr (hS.tail 1 rfl)) ?_
                   refine dr_run tbOk 2 hA (hS.tail 1 rfl) (e' := (4, .bool true) :: (68, .bool true) :: _) rfl ?_; clear hA; intro a hA
                   refine dr_end ?_
                   replace hA := hA.sel [4] (e' := [(4, .bool true)]) rfl
                   refine xt_norm ?_
                   refine wp_ret ?_
                   refine ret1 (fn := Tryd.f5) hA rfl rfl ?_
                   replace hS := hS.drop1
                   replace hS := hS.drop1
                   replace hS := hS.drop1
                   replace hS := hS.drop1
                   replace hS := hS.drop1
                   exact ⟨rfl, hS⟩)
              · first
                | (exfalso; omega)
                | (replace hA := hA.rw 56 (v' := .bool false) rfl (vb_eq_f hc33)
                   replace hA := hA.rw 57 (v' := .bool false) rfl (vb_eq_f hc33)
                   replace hA := hA.rw 58 (v' := .bool false) rfl (vb_eq_f hc33)
                   refine dr_run tbOk 4 hA hS (e' := (62, undef) :: (61, undef) :: (60, undef) :: (59, undef) :: _) rfl ?_; clear hA; intro a hA
                   refine dr_run tbOk 3 hA hS (e' := (65, undef) :: (64, undef) :: (63, undef) :: _) rfl ?_; clear hA; intro a hA
                   refine dr_b (o := _) rfl ?_
                   refine st_no hA rfl rfl (by decide) ?_; clear hA; intro a hA
                   refine dr_nil (.inr hS) ?_
                   refine dr_b (o := _) rfl ?_
                   refine st_no hA rfl rfl (by decide) ?_; clear hA; intro a hA
                   refine dr_nil (.inr hS) ?_
                   refine dr_run tbOk 2 hA hS (e' := (4, .bool false) :: (68, .bool false) :: _) rfl ?_; clear hA; intro a hA
                   refine dr_end ?_
                   replace hA := hA.sel [4] (e' := [(4, .bool false)]) rfl
                   refine xt_norm ?_
                   refine wp_ret ?_
                   refine ret1 (fn := Tryd.f5) hA rfl rfl ?_
                   exfalso; omega))
       · refine st_call0 hA rfl rfl rfl isfn10 rfl rfl (by decide) (push_full10 hS (l := L.filter (fun x => !(x == id))) (RdS.own hO16 0 rfl) id (filt_not L id) h2 (by omega)) ?_
         clear hA hS; rintro _ w40 a ⟨rfl, hS⟩ hA
         refine st_run tbOk 5 hA (e' := (11, .iface 29 (.int .i64 5)) :: (10, .slice none 0 0) :: (37, .iface 29 (.int .i64 5)) :: (36, .slice none 0 0) :: (30, .tuple #[.slice none 0 0, .iface 29 (.int .i64 5)]) :: _) rfl ?_; clear hA; intro a hA
         refine wpList_nil ?_
         replace hA := hA.sel [1, 5, 10, 11] (e' := [(1, .int .i64 id), (5, .slice A1 L.length c1), (10, .slice none 0 0), (11, .iface 29 (.int .i64 5))]) rfl
         refine xt_norm ?_
         refine wp_seq ?_
         refine wp_seq ?_
         refine wp_region_lit ?_
         refine st_run tbOk 2 hA (e' := (39, .int .i64 id) :: (38, .slice A1 L.length c1) :: _) rfl ?_; clear hA; intro a hA
         refine st_call0 hA rfl rfl rfl isfn11 rfl rfl (by decide) (drop11 hS (l := L) (RdS.own hO 1 rfl) id (by omega)) ?_
         clear hA hS; rintro v41 w42 a ⟨C43, hO43, hS⟩ hA
         obtain ⟨A44, c45, rfl, hmc45, hxc45⟩ := hO43.open'
         refine st_run tbOk 2 hA (e' := (42, .bool (decide ((((L.filter (fun x => !(x == id))).length : Nat) : Int) ≥ 64))) :: (41, .int .i64 (((L.filter (fun x => !(x == id))).length : Nat) : Int)) :: _) rfl ?_; clear hA; intro a hA
         refine wpList_nil ?_
         replace hA := hA.sel [1, 5, 10, 11, 42] (e' := [(1, .int .i64 id), (5, .slice A1 L.length c1), (10, .slice none 0 0), (11, .iface 29 (.int .i64 5)), (42, .bool (decide ((((L.filter (fun x => !(x == id))).length : Nat) : Int) ≥ 64)))]) rfl
         refine xt_norm ?_
         by_cases hc46 : (((L.filter (fun x => !(x == id))).length : Nat) : Int) ≥ 64
         · first
           | (exfalso; omega)
           | (replace hA := hA.rw 42 (v' := .bool true) rfl (vb_true hc46)
              refine cd_cond_t hA rfl ?_
              refine wp_seq ?_
              refine wp_region_lit ?_
              refine st_run tbOk 1 hA (e' := (43, .iface 29 (.int .i64 5)) :: _) rfl ?_; clear hA; intro a hA
              refine st_call0 hA rfl rfl rfl isfn8 rfl rfl (by decide) (number_hit8 hS hg 5) ?_
              clear hA hS; rintro v w47 a ⟨rfl, hS⟩ hA
              refine st_run tbOk 2 hA (e' := (4, .bool true) :: (45, .bool true) :: _) rfl ?_; clear hA; intro a hA
              refine wpList_nil ?_
              replace hA := hA.sel [4] (e' := [(4, .bool true)]) rfl
              refine xt_norm ?_
              refine wp_ret (xt_ret ?_)
              refine ret1 (fn := Tryd.f5) hA rfl rfl ?_
              replace hS := hS.drop1
              replace hS := hS.drop1
              replace hS := hS.drop1
              exact ⟨rfl, hS⟩)
         · first
           | (exfalso; omega)
           | (replace hA := hA.rw 42 (v' := .bool false) rfl (vb_false hc46)
              refine cd_cond_f hA rfl ?_
              refine wp_skip ?_
              refine xt_norm ?_
              refine wp_seq ?_
              refine wp_draw (fun w' => St w0 w' (C43 :: C16 :: C1 :: F)) [] [(0, true), (1, true), (2, true), (3, true), (4, true), (5, true), (6, true), (7, true), (8, true), (9, true), (10, true), (11, true), (12, true), (13, true), (14, true), (15, true), (16, true), (17, true), (18, true), (19, true), (20, false), (21, false), (22, true), (23, true)] mixed (by kernel_rfl) (by rintro c a w ⟨_, _, h, _⟩; cases h) (by rfl) (by kernel_rfl) ?_
              replace hS := hS.drew
              refine dr_run tbOk 7 hA hS (e' := (52, undef) :: (51, undef) :: (50, undef) :: (49, undef) :: (48, .bool false) :: (47, .bool false) :: (46, .iface 29 (.int .i64 5)) :: _) rfl ?_; clear hA; intro a hA
              refine dr_run tbOk 10 hA hS (e' := (62, undef) :: (61, undef) :: (60, undef) :: (59, undef) :: (58, .bool false) :: (57, .bool false) :: (56, undef) :: (55, undef) :: (54, undef) :: (53, undef) :: _) rfl ?_; clear hA; intro a hA
              refine dr_run tbOk 3 hA hS (e' := (65, undef) :: (64, undef) :: (63, undef) :: _) rfl ?_; clear hA; intro a hA
              refine dr_b (o := _) rfl ?_
              refine st_no hA rfl rfl (by decide) ?_; clear hA; intro a hA
              refine dr_nil (.inr hS) ?_
              refine dr_b (o := _) rfl ?_
              refine st_no hA rfl rfl (by decide) ?_; clear hA; intro a hA
              refine dr_nil (.inr hS) ?_
              refine dr_run tbOk 2 hA hS (e' := (4, .bool false) :: (68, .bool false) :: _) rfl ?_; clear hA; intro a hA
              refine dr_end ?_
              replace hA := hA.sel [4] (e' := [(4, .bool false)]) rfl
              refine xt_norm ?_
              refine wp_ret ?_
              refine ret1 (fn := Tryd.f5) hA rfl rfl ?_
              exfalso; omega))
end Go.Proofs.YtpaeidaekhijlaaDoor
