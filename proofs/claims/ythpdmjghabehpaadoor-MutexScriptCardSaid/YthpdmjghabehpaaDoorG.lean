import Derived.Test.YthpdmjghabehpaaDoorProg
import Derived.Test.YthpdmjghabehpaaDoorAs
import Derived.Test.YthpdmjghabehpaaDoorSK10
set_option linter.unusedVariables false
set_option linter.unusedSimpArgs false
set_option maxRecDepth 4000
namespace Go.Proofs.YthpdmjghabehpaaDoor
open Go Go.SK
theorem mixed : Tryd.prog.follows .mixedOrders = true := by kernel_rfl
theorem isfn5 : IsFn Tryd.prog 5 := fun args w => by kernel_rfl
theorem isfn6 : IsFn Tryd.prog 6 := fun args w => by kernel_rfl
theorem isfn7 : IsFn Tryd.prog 7 := fun args w => by kernel_rfl
theorem isfn8 : IsFn Tryd.prog 8 := fun args w => by kernel_rfl
theorem isfn9 : IsFn Tryd.prog 9 := fun args w => by kernel_rfl
theorem isfn10 : IsFn Tryd.prog 10 := fun args w => by kernel_rfl
theorem isfn11 : IsFn Tryd.prog 11 := fun args w => by kernel_rfl
theorem isfn12 : IsFn Tryd.prog 12 := fun args w => by kernel_rfl
theorem isfn13 : IsFn Tryd.prog 13 := fun args w => by kernel_rfl
theorem isfn14 : IsFn Tryd.prog 14 := fun args w => by kernel_rfl
theorem isfn15 : IsFn Tryd.prog 15 := fun args w => by kernel_rfl
theorem isfn16 : IsFn Tryd.prog 16 := fun args w => by kernel_rfl
theorem isfn17 : IsFn Tryd.prog 17 := fun args w => by kernel_rfl
theorem isfn18 : IsFn Tryd.prog 18 := fun args w => by kernel_rfl
theorem isfn19 : IsFn Tryd.prog 19 := fun args w => by kernel_rfl
theorem isfn20 : IsFn Tryd.prog 20 := fun args w => by kernel_rfl
theorem isfn21 : IsFn Tryd.prog 21 := fun args w => by kernel_rfl
theorem isfn26 : IsFn Tryd.prog 26 := fun args w => by kernel_rfl
noncomputable def tb : List TI := [
  ⟨3, Tryd.t3.desc, 1, 8, .int .i64 0⟩,
  ⟨4, Tryd.t4.desc, 1, 1, .bool false⟩,
  ⟨5, Tryd.t5.desc, 1, 1, .int .u8 0⟩,
  ⟨22, Tryd.t22.desc, 1, 24, .slice none 0 0⟩,
  ⟨25, Tryd.t25.desc, 1, 24, .slice none 0 0⟩,
  ⟨27, Tryd.t26.desc, 3, 40, .agg #[.int .i64 0, .bool false, .slice none 0 0]⟩,
  ⟨28, Tryd.t28.desc, 1, 1, .int .i8 0⟩,
  ⟨30, Tryd.t29.desc, 2, 2, .agg #[.int .u8 0, .int .i8 0]⟩,
  ⟨33, Tryd.t32.desc, 1, 16, .nilIface⟩,
  ⟨36, Tryd.t3.desc, 1, 8, .int .i64 0⟩,
  ⟨49, Tryd.t49.desc, 1, 8, .pointer none⟩]
theorem tbOk : TabOk Tryd.prog tb := ⟨
  ⟨by kernel_rfl, Tryd.t3, by kernel_rfl, by kernel_rfl, by kernel_rfl, by kernel_rfl⟩,
  ⟨by kernel_rfl, Tryd.t4, by kernel_rfl, by kernel_rfl, by kernel_rfl, by kernel_rfl⟩,
  ⟨by kernel_rfl, Tryd.t5, by kernel_rfl, by kernel_rfl, by kernel_rfl, by kernel_rfl⟩,
  ⟨by kernel_rfl, Tryd.t22, by kernel_rfl, by kernel_rfl, by kernel_rfl, by kernel_rfl⟩,
  ⟨by kernel_rfl, Tryd.t25, by kernel_rfl, by kernel_rfl, by kernel_rfl, by kernel_rfl⟩,
  ⟨by kernel_rfl, Tryd.t27, by kernel_rfl, by kernel_rfl, by kernel_rfl, by kernel_rfl⟩,
  ⟨by kernel_rfl, Tryd.t28, by kernel_rfl, by kernel_rfl, by kernel_rfl, by kernel_rfl⟩,
  ⟨by kernel_rfl, Tryd.t30, by kernel_rfl, by kernel_rfl, by kernel_rfl, by kernel_rfl⟩,
  ⟨by kernel_rfl, Tryd.t33, by kernel_rfl, by kernel_rfl, by kernel_rfl, by kernel_rfl⟩,
  ⟨by kernel_rfl, Tryd.t36, by kernel_rfl, by kernel_rfl, by kernel_rfl, by kernel_rfl⟩,
  ⟨by kernel_rfl, Tryd.t49, by kernel_rfl, by kernel_rfl, by kernel_rfl, by kernel_rfl⟩,
  trivial⟩
theorem clone20 {w0 w : World} {F : List Chunk} (hS : St w0 w F) {v : Value} {l : List Int} (hr : RdS w0 F 1 v l.length (rows encI l)) (hb : l.length * 8 ≤ 140737488355328) :
    Ret Tryd.prog 20 #[v] w (fun v w' => ∃ C, Own 3 1 v l.length (rows encI l) C ∧ St w0 w' (C :: F)) := by
  rcases hr.cases hS with ⟨rfl, h0, h1⟩ | ⟨b, off, c, rfl, hmc, hcx⟩
  · obtain rfl := List.eq_nil_of_length_eq_zero h0
    refine enter (vs := [.slice none 0 0]) 8 Tryd.func20 rfl rfl (by simp) ?_; intro a hA
    refine wp_seq ?_
    refine wp_region_lit ?_
    refine st_run tbOk 1 hA (e' := (2, .slice none 0 0) :: _) rfl ?_; clear hA; intro a hA
    refine wpList_nil ?_
    replace hA := hA.sel [0] (e' := [(0, .slice none 0 0)]) rfl
    refine xt_norm ?_
    refine wp_seq ?_
    refine wp_seq ?_
    refine wp_region_lit ?_
    refine st_run tbOk 2 hA (e' := (4, .bool true) :: (3, .slice none 0 0) :: _) rfl ?_; clear hA; intro a hA
    refine wpList_nil ?_
    replace hA := hA.sel [0, 4] (e' := [(0, .slice none 0 0), (4, .bool true)]) rfl
    refine xt_norm ?_
    refine cd_cond_t hA rfl ?_
    refine wp_seq ?_
    refine wp_region_lit ?_
    refine st_run tbOk 1 hA (e' := (2, .slice none 0 0) :: _) rfl ?_; clear hA; intro a hA
    refine wpList_nil ?_
    replace hA := hA.sel [2] (e' := [(2, .slice none 0 0)]) rfl
    refine xt_norm ?_
    refine wp_ret (xt_ret ?_)
    refine ret1 (fn := Tryd.f20) hA rfl rfl ?_
    exact ⟨[], Own.nil _ _, hS.nil⟩
  · refine enter (vs := [.slice (some ⟨b, off, none⟩) l.length c]) 8 Tryd.func20 rfl rfl (by simp) ?_; intro a hA
    refine wp_seq ?_
    refine wp_region_lit ?_
    refine st_run tbOk 1 hA (e' := (2, .slice none 0 0) :: _) rfl ?_; clear hA; intro a hA
    refine wpList_nil ?_
    replace hA := hA.sel [0] (e' := [(0, .slice (some ⟨b, off, none⟩) l.length c)]) rfl
    refine xt_norm ?_
    refine wp_seq ?_
    refine wp_seq ?_
    refine wp_region_lit ?_
    refine st_run tbOk 2 hA (e' := (4, .bool false) :: (3, .slice (some ⟨b, off, none⟩) l.length c) :: _) rfl ?_; clear hA; intro a hA
    refine wpList_nil ?_
    replace hA := hA.sel [0, 4] (e' := [(0, .slice (some ⟨b, off, none⟩) l.length c), (4, .bool false)]) rfl
    refine xt_norm ?_
    refine cd_cond_f hA rfl ?_
    refine wp_skip ?_
    refine xt_norm ?_
    refine wp_seq ?_
    refine wp_region_lit ?_
    refine st_buildSlice tbOk hA hS [] rfl rfl rfl rfl rfl (by decide) (by kernel_rfl) rfl rfl (by decide) ?_; clear hA hS; intro b1 w2 a hS hA
    refine st_run tbOk 1 hA (e' := (6, .slice (some ⟨b, off, none⟩) l.length c) :: _) rfl ?_; clear hA; intro a hA
    refine st_append tbOk hA (m := 0) (q := l.length) (xs := rows encI ([] : List Int)) (news := rows encI l) rfl rfl rfl rfl rfl rfl rfl rfl (by decide) (Own.full (T := 3) (size := 1) (g := b1) (m := 0) rfl (by decide)) hS (hr _ (hS.tail 1 rfl)) (rows_one encI_ok _) (maxLen_le (by omega)) (by show (0 + l.length) * 8 ≤ 140737488355328; omega) rfl rfl (by decide) ?_
    clear hA hS; intro v3 w4 C5 a hO5 hS hA
    replace hO5 := Own.app (l := ([] : List Int)) (l2 := l) hO5
    replace hO5 : Own 3 1 v3 l.length (rows encI l) C5 := hO5
    obtain ⟨A6, c7, rfl, hmc7, hxc7⟩ := hO5.open'
    refine st_run tbOk 1 hA (e' := (2, .slice A6 l.length c7) :: _) rfl ?_; clear hA; intro a hA
    refine wpList_nil ?_
    replace hA := hA.sel [2] (e' := [(2, .slice A6 l.length c7)]) rfl
    refine xt_norm ?_
    refine wp_ret ?_
    refine ret1 (fn := Tryd.f20) hA rfl rfl ?_
    exact ⟨C5, hO5, hS⟩

theorem index21 {w0 w : World} {F : List Chunk} (hS : St w0 w F) {v : Value} {l : List Int} (hr : RdS w0 F 1 v l.length (rows encI l)) (x : Int) :
    Ret Tryd.prog 21 #[v, .int .i64 x] w (fun v w' => v = .int .i64 (idx (fun y => y == x) l) ∧ St w0 w' F) := by
  obtain ⟨A, c, rfl, hmc, hcx⟩ := (hr w hS).open'
  refine enter (vs := [.slice A l.length c, .int .i64 x]) 19 Tryd.func21 rfl rfl (by simp) ?_; intro a hA
  refine wp_seq ?_
  refine wp_region_lit ?_
  refine st_run tbOk 1 hA (e' := (4, .int .i64 0) :: _) rfl ?_; clear hA; intro a hA
  refine wpList_nil ?_
  replace hA := hA.sel [0, 1] (e' := [(0, .slice A l.length c), (1, .int .i64 x)]) rfl
  refine xt_norm ?_
  refine wp_seq ?_
  refine wp_seq ?_
  refine wp_region_lit ?_
  refine st_run tbOk 3 hA (e' := (8, .int .i64 0) :: (7, .int .i64 ((l.length : Nat) : Int)) :: (6, .slice A l.length c) :: _) rfl ?_; clear hA; intro a hA
  refine wpList_nil ?_
  replace hA := hA.sel [0, 1, 7, 8] (e' := [(0, .slice A l.length c), (1, .int .i64 x), (7, .int .i64 ((l.length : Nat) : Int)), (8, .int .i64 0)]) rfl
  refine xt_norm ?_
  refine wp_block ?_
  refine wp_loop_ghost (fun m a w => ∃ (k : Nat), m = l.length - k ∧ Has a 19 [(0, .slice A l.length c), (1, .int .i64 x), (7, .int .i64 ((l.length : Nat) : Int)), (8, .int .i64 ((k : Nat) : Int))] ∧ St w0 w (F) ∧ (k ≤ l.length) ∧ (∀ (i : Nat) (y : Int), i < k → l[i]? = some y → ¬ y = x)) (l.length - 0)
    ⟨0, rfl, (hA.sel [0, 1, 7, 8] rfl), hS, Nat.zero_le _, fun i y hi => absurd hi (by omega)⟩ ?_
  clear hA hS; rintro m0 a w1 ⟨k, rfl, hA, hS, hk, hb⟩
  refine wp_seq ?_
  refine wp_region_lit ?_
  refine st_run tbOk 1 hA (e' := (9, .bool (decide (((k : Nat) : Int) < ((l.length : Nat) : Int)))) :: _) rfl ?_; clear hA; intro a hA
  refine wpList_nil ?_
  refine xt_norm ?_
  refine wp_seq ?_
  by_cases hc2 : ((k : Nat) : Int) < ((l.length : Nat) : Int)
  · first
    | (exfalso; omega)
    | (replace hA := hA.rw 9 (v' := .bool true) rfl (vb_true hc2)
       refine cd_cond_t hA rfl ?_
       refine wp_skip ?_
       refine xt_norm ?_
       refine wp_seq ?_
       refine wp_block ?_
       refine wp_seq ?_
       refine wp_region_lit ?_
       refine st_run tbOk 2 hA (e' := (5, .int .i64 ((k : Nat) : Int)) :: (10, .int .i64 ((k : Nat) : Int)) :: _) rfl ?_; clear hA; intro a hA
       refine wpList_nil ?_
       replace hA := hA.sel [0, 1, 5, 7, 8] (e' := [(0, .slice A l.length c), (1, .int .i64 x), (5, .int .i64 ((k : Nat) : Int)), (7, .int .i64 ((l.length : Nat) : Int)), (8, .int .i64 ((k : Nat) : Int))]) rfl
       refine xt_norm ?_
       refine wp_seq ?_
       refine wp_region_lit ?_
       refine st_run tbOk 3 hA (e' := (13, .int .i64 ((k : Nat) : Int)) :: (12, .slice A l.length c) :: (11, .int .i64 x) :: _) rfl ?_; clear hA; intro a hA
       obtain ⟨b3, o4, rfl⟩ := (hr _ hS).isSome (k := k) (by omega)
       refine st_val hA rfl rfl (by decide) (rn_indexAddr tbOk hA k (o4 + k) rfl rfl rfl rfl rfl rfl (by rfl) (by omega) (by first | rfl | simp [Nat.mul_one, Nat.zero_add] | omega)) ?_; clear hA; intro a hA
       obtain ⟨x5, hx5⟩ := get_ex (l := l) (k := k) (by omega)
       refine st_val hA rfl rfl (by decide) (rn_load tbOk hA rfl rfl rfl rfl ((hr _ hS).elem0 (k := k) encI_ok hx5 rfl)) ?_; clear hA; intro a hA
       refine st_run tbOk 1 hA (e' := (16, .bool (x == x5)) :: _) rfl ?_; clear hA; intro a hA
       refine wpList_nil ?_
       replace hA := hA.sel [0, 1, 5, 7, 8, 16] (e' := [(0, .slice (some ⟨b3, o4, none⟩) l.length c), (1, .int .i64 x), (5, .int .i64 ((k : Nat) : Int)), (7, .int .i64 ((l.length : Nat) : Int)), (8, .int .i64 ((k : Nat) : Int)), (16, .bool (x == x5))]) rfl
       refine xt_norm ?_
       by_cases hc6 : x = x5
       · first
         | (exfalso; omega)
         | (replace hA := hA.rw 16 (v' := .bool true) rfl (vb_eq_t hc6)
            refine cd_cond_t hA rfl ?_
            refine wp_seq ?_
            refine wp_region_lit ?_
            refine st_run tbOk 2 hA (e' := (4, .int .i64 ((k : Nat) : Int)) :: (17, .int .i64 ((k : Nat) : Int)) :: _) rfl ?_; clear hA; intro a hA
            refine wpList_nil ?_
            replace hA := hA.sel [4] (e' := [(4, .int .i64 ((k : Nat) : Int))]) rfl
            refine xt_norm ?_
            refine wp_ret (xb_ret (xt_ret (xt_ret (xb_ret (xt_ret ?_)))))
            refine ret1 (fn := Tryd.f21) hA rfl rfl ?_
            exact ⟨vint (idx_some (p := fun y => y == x) hx5 (beq_iff_eq.2 (by omega)) (fun i y hi hy => beq_eq_false_iff_ne.2 (hb i y hi hy))).symm, hS⟩)
       · first
         | (exfalso; omega)
         | (replace hA := hA.rw 16 (v' := .bool false) rfl (vb_eq_f hc6)
            refine cd_cond_f hA rfl ?_
            refine wp_skip ?_
            refine xb_norm ?_
            refine xt_norm ?_
            refine wp_region_lit ?_
            refine st_run tbOk 1 hA (e' := (18, .int .i64 (IntKind.i64.wrap (((k : Nat) : Int) + 1))) :: _) rfl ?_; clear hA; intro a hA
            replace hA := hA.rw 18 (v' := .int .i64 ((k + 1 : Nat) : Int)) rfl (wr64 (by omega) (by omega) (by omega))
            refine st_run tbOk 1 hA (e' := (8, .int .i64 ((k + 1 : Nat) : Int)) :: _) rfl ?_; clear hA; intro a hA
            refine wpList_nil ?_
            replace hA := hA.sel [0, 1, 7, 8] (e' := [(0, .slice (some ⟨b3, o4, none⟩) l.length c), (1, .int .i64 x), (7, .int .i64 ((l.length : Nat) : Int)), (8, .int .i64 ((k + 1 : Nat) : Int))]) rfl
            exact lp_next _ (by omega) ⟨(k + 1), rfl, (hA.sel [0, 1, 7, 8] rfl), hS, by omega, fun i y hi hy => (Nat.lt_succ_iff_lt_or_eq.1 hi).elim (fun h => hb i y h hy) (fun h => by subst h; rw [hx5] at hy; injection hy with hy; subst hy; omega)⟩))
  · first
    | (exfalso; omega)
    | (replace hA := hA.rw 9 (v' := .bool false) rfl (vb_false hc2)
       refine cd_cond_f hA rfl ?_
       refine wp_exit ?_
       refine xt_exit ?_
       refine xt_exit ?_
       refine cd_exit_eq ?_
       refine xt_norm ?_
       refine wp_seq ?_
       refine wp_region_lit ?_
       refine st_run tbOk 1 hA (e' := (4, .int .i64 (-1)) :: _) rfl ?_; clear hA; intro a hA
       refine wpList_nil ?_
       replace hA := hA.sel [4] (e' := [(4, .int .i64 (-1))]) rfl
       refine xt_norm ?_
       refine wp_ret ?_
       refine ret1 (fn := Tryd.f21) hA rfl rfl ?_
       exact ⟨vint (idx_none (fun i y hy => beq_eq_false_iff_ne.2 (hb i y (by have := (List.getElem?_eq_some_iff.1 hy).1; omega) hy))).symm, hS⟩)

theorem contains15 {w0 w : World} {F : List Chunk} (hS : St w0 w F) {v : Value} {l : List Int} (hr : RdS w0 F 1 v l.length (rows encI l)) (x : Int) :
    Ret Tryd.prog 15 #[v, .int .i64 x] w (fun v w' => v = .bool (l.any (fun y => y == x)) ∧ St w0 w' F) := by
  obtain ⟨A, c, rfl, hmc, hcx⟩ := (hr w hS).open'
  refine enter (vs := [.slice A l.length c, .int .i64 x]) 9 Tryd.func15 rfl rfl (by simp) ?_; intro a hA
  refine wp_seq ?_
  refine wp_region_lit ?_
  refine st_run tbOk 1 hA (e' := (4, .bool false) :: _) rfl ?_; clear hA; intro a hA
  refine wpList_nil ?_
  replace hA := hA.sel [0, 1] (e' := [(0, .slice A l.length c), (1, .int .i64 x)]) rfl
  refine xt_norm ?_
  refine wp_seq ?_
  refine wp_region_lit ?_
  refine st_run tbOk 2 hA (e' := (6, .int .i64 x) :: (5, .slice A l.length c) :: _) rfl ?_; clear hA; intro a hA
  refine st_call0 hA rfl rfl rfl isfn21 rfl rfl (by decide) (index21 hS (l := l) (fun w' h => (hr _ h)) x) ?_
  clear hA hS; rintro v w1 a ⟨rfl, hS⟩ hA
  refine st_run tbOk 2 hA (e' := (4, .bool (decide (idx (fun y => y == x) l ≥ 0))) :: (8, .bool (decide (idx (fun y => y == x) l ≥ 0))) :: _) rfl ?_; clear hA; intro a hA
  refine wpList_nil ?_
  replace hA := hA.sel [4] (e' := [(4, .bool (decide (idx (fun y => y == x) l ≥ 0)))]) rfl
  refine xt_norm ?_
  refine wp_ret ?_
  refine ret1 (fn := Tryd.f15) hA rfl rfl ?_
  exact ⟨vbool (idx_any _ _), hS⟩

theorem indexFunc26 {w0 w : World} {F : List Chunk} (hS : St w0 w F) {v : Value} {l : List Int} (hr : RdS w0 F 1 v l.length (rows encI l)) {g : Nat} {first cap : Array Value} {p : Int → Bool} (hg : IsFn Tryd.prog g) (hp : Pred Tryd.prog w0 F g first cap (fun x => .int .i64 x) p) :
    Ret Tryd.prog 26 #[v, .func (.func g) first cap] w (fun v w' => v = .int .i64 (idx p l) ∧ St w0 w' F) := by
  obtain ⟨A, c, rfl, hmc, hcx⟩ := (hr w hS).open'
  refine enter (vs := [.slice A l.length c, .func (.func g) first cap]) 19 Tryd.func26 rfl rfl (by simp) ?_; intro a hA
  refine wp_seq ?_
  refine wp_region_lit ?_
  refine st_run tbOk 1 hA (e' := (4, .int .i64 0) :: _) rfl ?_; clear hA; intro a hA
  refine wpList_nil ?_
  replace hA := hA.sel [0, 1] (e' := [(0, .slice A l.length c), (1, .func (.func g) first cap)]) rfl
  refine xt_norm ?_
  refine wp_seq ?_
  refine wp_seq ?_
  refine wp_region_lit ?_
  refine st_run tbOk 3 hA (e' := (8, .int .i64 0) :: (7, .int .i64 ((l.length : Nat) : Int)) :: (6, .slice A l.length c) :: _) rfl ?_; clear hA; intro a hA
  refine wpList_nil ?_
  replace hA := hA.sel [0, 1, 7, 8] (e' := [(0, .slice A l.length c), (1, .func (.func g) first cap), (7, .int .i64 ((l.length : Nat) : Int)), (8, .int .i64 0)]) rfl
  refine xt_norm ?_
  refine wp_block ?_
  refine wp_loop_ghost (fun m a w => ∃ (k : Nat), m = l.length - k ∧ Has a 19 [(0, .slice A l.length c), (1, .func (.func g) first cap), (7, .int .i64 ((l.length : Nat) : Int)), (8, .int .i64 ((k : Nat) : Int))] ∧ St w0 w (F) ∧ (k ≤ l.length) ∧ (∀ (i : Nat) (y : Int), i < k → l[i]? = some y → p y = false)) (l.length - 0)
    ⟨0, rfl, (hA.sel [0, 1, 7, 8] rfl), hS, Nat.zero_le _, fun i y hi => absurd hi (by omega)⟩ ?_
  clear hA hS; rintro m0 a w1 ⟨k, rfl, hA, hS, hk, hb⟩
  refine wp_seq ?_
  refine wp_region_lit ?_
  refine st_run tbOk 1 hA (e' := (9, .bool (decide (((k : Nat) : Int) < ((l.length : Nat) : Int)))) :: _) rfl ?_; clear hA; intro a hA
  refine wpList_nil ?_
  refine xt_norm ?_
  refine wp_seq ?_
  by_cases hc2 : ((k : Nat) : Int) < ((l.length : Nat) : Int)
  · first
    | (exfalso; omega)
    | (replace hA := hA.rw 9 (v' := .bool true) rfl (vb_true hc2)
       refine cd_cond_t hA rfl ?_
       refine wp_skip ?_
       refine xt_norm ?_
       refine wp_seq ?_
       refine wp_block ?_
       refine wp_seq ?_
       refine wp_region_lit ?_
       refine st_run tbOk 2 hA (e' := (5, .int .i64 ((k : Nat) : Int)) :: (10, .int .i64 ((k : Nat) : Int)) :: _) rfl ?_; clear hA; intro a hA
       refine wpList_nil ?_
       replace hA := hA.sel [0, 1, 5, 7, 8] (e' := [(0, .slice A l.length c), (1, .func (.func g) first cap), (5, .int .i64 ((k : Nat) : Int)), (7, .int .i64 ((l.length : Nat) : Int)), (8, .int .i64 ((k : Nat) : Int))]) rfl
       refine xt_norm ?_
       refine wp_seq ?_
       refine wp_region_lit ?_
       refine st_run tbOk 3 hA (e' := (13, .int .i64 ((k : Nat) : Int)) :: (12, .slice A l.length c) :: (11, .func (.func g) first cap) :: _) rfl ?_; clear hA; intro a hA
       obtain ⟨b3, o4, rfl⟩ := (hr _ hS).isSome (k := k) (by omega)
       refine st_val hA rfl rfl (by decide) (rn_indexAddr tbOk hA k (o4 + k) rfl rfl rfl rfl rfl rfl (by rfl) (by omega) (by first | rfl | simp [Nat.mul_one, Nat.zero_add] | omega)) ?_; clear hA; intro a hA
       obtain ⟨x5, hx5⟩ := get_ex (l := l) (k := k) (by omega)
       refine st_val hA rfl rfl (by decide) (rn_load tbOk hA rfl rfl rfl rfl ((hr _ hS).elem0 (k := k) encI_ok hx5 rfl)) ?_; clear hA; intro a hA
       refine st_call hA rfl rfl rfl rfl hg rfl rfl (by decide) (hp _ x5 hS) ?_
       clear hA; rintro v w6 a ⟨rfl, hS'⟩ hA; replace hS : St w0 w6 (F) := hS.trans hS'
       refine wpList_nil ?_
       replace hA := hA.sel [0, 1, 5, 7, 8, 16] (e' := [(0, .slice (some ⟨b3, o4, none⟩) l.length c), (1, .func (.func g) first cap), (5, .int .i64 ((k : Nat) : Int)), (7, .int .i64 ((l.length : Nat) : Int)), (8, .int .i64 ((k : Nat) : Int)), (16, .bool (p x5))]) rfl
       refine xt_norm ?_
       by_cases hpx : (p x5) = true
       · first
         | (exfalso; omega)
         | (replace hA := hA.rw 16 (v' := .bool true) rfl (vb_t hpx)
            refine cd_cond_t hA rfl ?_
            refine wp_seq ?_
            refine wp_region_lit ?_
            refine st_run tbOk 2 hA (e' := (4, .int .i64 ((k : Nat) : Int)) :: (17, .int .i64 ((k : Nat) : Int)) :: _) rfl ?_; clear hA; intro a hA
            refine wpList_nil ?_
            replace hA := hA.sel [4] (e' := [(4, .int .i64 ((k : Nat) : Int))]) rfl
            refine xt_norm ?_
            refine wp_ret (xb_ret (xt_ret (xt_ret (xb_ret (xt_ret ?_)))))
            refine ret1 (fn := Tryd.f26) hA rfl rfl ?_
            exact ⟨vint (idx_some hx5 hpx (fun i y hi hy => hb i y hi hy)).symm, hS⟩)
       · first
         | (exfalso; omega)
         | (replace hA := hA.rw 16 (v' := .bool false) rfl (vb_f hpx)
            refine cd_cond_f hA rfl ?_
            refine wp_skip ?_
            refine xb_norm ?_
            refine xt_norm ?_
            refine wp_region_lit ?_
            refine st_run tbOk 1 hA (e' := (18, .int .i64 (IntKind.i64.wrap (((k : Nat) : Int) + 1))) :: _) rfl ?_; clear hA; intro a hA
            replace hA := hA.rw 18 (v' := .int .i64 ((k + 1 : Nat) : Int)) rfl (wr64 (by omega) (by omega) (by omega))
            refine st_run tbOk 1 hA (e' := (8, .int .i64 ((k + 1 : Nat) : Int)) :: _) rfl ?_; clear hA; intro a hA
            refine wpList_nil ?_
            replace hA := hA.sel [0, 1, 7, 8] (e' := [(0, .slice (some ⟨b3, o4, none⟩) l.length c), (1, .func (.func g) first cap), (7, .int .i64 ((l.length : Nat) : Int)), (8, .int .i64 ((k + 1 : Nat) : Int))]) rfl
            exact lp_next _ (by omega) ⟨(k + 1), rfl, (hA.sel [0, 1, 7, 8] rfl), hS, by omega, fun i y hi hy => (Nat.lt_succ_iff_lt_or_eq.1 hi).elim (fun h => hb i y h hy) (fun h => by subst h; rw [hx5] at hy; injection hy with hy; subst hy; simpa using hpx)⟩))
  · first
    | (exfalso; omega)
    | (replace hA := hA.rw 9 (v' := .bool false) rfl (vb_false hc2)
       refine cd_cond_f hA rfl ?_
       refine wp_exit ?_
       refine xt_exit ?_
       refine xt_exit ?_
       refine cd_exit_eq ?_
       refine xt_norm ?_
       refine wp_seq ?_
       refine wp_region_lit ?_
       refine st_run tbOk 1 hA (e' := (4, .int .i64 (-1)) :: _) rfl ?_; clear hA; intro a hA
       refine wpList_nil ?_
       replace hA := hA.sel [4] (e' := [(4, .int .i64 (-1))]) rfl
       refine xt_norm ?_
       refine wp_ret ?_
       refine ret1 (fn := Tryd.f26) hA rfl rfl ?_
       exact ⟨vint (idx_none (fun i y hy => hb i y (by have := (List.getElem?_eq_some_iff.1 hy).1; omega) hy)).symm, hS⟩)

theorem deleteFunc18 {w0 w : World} {F : List Chunk} {C : Chunk} (hS : St w0 w (C :: F)) {v : Value} {l : List Int} (hO : Own 3 1 v l.length (rows encI l) C) {g : Nat} {first cap : Array Value} {p : Int → Bool} (hg : IsFn Tryd.prog g) (hp : Pred Tryd.prog w0 F g first cap (fun x => .int .i64 x) p) :
    Ret Tryd.prog 18 #[v, .func (.func g) first cap] w (fun v w' => ∃ C', Own 3 1 v (l.filter (fun x => !p x)).length (rows encI (l.filter (fun x => !p x))) C' ∧ St w0 w' (C' :: F)) := by
  obtain ⟨A, c, rfl, hmc, hcx⟩ := hO.open'
  refine enter (vs := [.slice A l.length c, .func (.func g) first cap]) 42 Tryd.func18 rfl rfl (by simp) ?_; intro a hA
  refine wp_seq ?_
  refine wp_region_lit ?_
  refine st_run tbOk 1 hA (e' := (4, .slice none 0 0) :: _) rfl ?_; clear hA; intro a hA
  refine wpList_nil ?_
  replace hA := hA.sel [0, 1] (e' := [(0, .slice A l.length c), (1, .func (.func g) first cap)]) rfl
  refine xt_norm ?_
  refine wp_seq ?_
  refine wp_region_lit ?_
  refine st_run tbOk 2 hA (e' := (9, .func (.func g) first cap) :: (8, .slice A l.length c) :: _) rfl ?_; clear hA; intro a hA
  refine st_call0 hA rfl rfl rfl isfn26 rfl rfl (by decide) (indexFunc26 hS (l := l) (RdS.own hO 0 rfl) hg hp.cons) ?_
  clear hA hS; rintro v w1 a ⟨rfl, hS⟩ hA
  refine st_run tbOk 1 hA (e' := (5, .int .i64 (idx p l)) :: _) rfl ?_; clear hA; intro a hA
  refine wpList_nil ?_
  replace hA := hA.sel [0, 1, 5] (e' := [(0, .slice A l.length c), (1, .func (.func g) first cap), (5, .int .i64 (idx p l))]) rfl
  refine xt_norm ?_
  refine wp_seq ?_
  refine wp_seq ?_
  rcases idx_cases p l with ⟨hi, hf⟩ | ⟨k, x0, hi, hx0, hpx0, hb⟩
  · replace hA := hA.rw 5 (v' := .int .i64 (-1)) rfl (by rw [hi])
    refine wp_region_lit ?_
    refine st_run tbOk 2 hA (e' := (12, .bool true) :: (11, .int .i64 (-1)) :: _) rfl ?_; clear hA; intro a hA
    refine wpList_nil ?_
    replace hA := hA.sel [0, 1, 5, 12] (e' := [(0, .slice A l.length c), (1, .func (.func g) first cap), (5, .int .i64 (-1)), (12, .bool true)]) rfl
    refine xt_norm ?_
    refine cd_cond_t hA rfl ?_
    refine wp_seq ?_
    refine wp_region_lit ?_
    refine st_run tbOk 2 hA (e' := (4, .slice A l.length c) :: (13, .slice A l.length c) :: _) rfl ?_; clear hA; intro a hA
    refine wpList_nil ?_
    replace hA := hA.sel [4] (e' := [(4, .slice A l.length c)]) rfl
    refine xt_norm ?_
    refine wp_ret (xt_ret ?_)
    refine ret1 (fn := Tryd.f18) hA rfl rfl ?_
    have hfl : l.filter (fun x => !p x) = l := List.filter_eq_self.2 (fun y hy => by obtain ⟨i, hi⟩ := List.mem_iff_getElem?.1 hy; simp [hf i y hi])
    exact ⟨C, by rw [hfl]; exact hO, hS⟩
  · replace hA := hA.rw 5 (v' := .int .i64 ((k : Nat) : Int)) rfl (by rw [hi])
    have hkl := (List.getElem?_eq_some_iff.1 hx0).1
    refine wp_region_lit ?_
    refine st_run tbOk 2 hA (e' := (12, .bool (((k : Nat) : Int) == (-1))) :: (11, .int .i64 ((k : Nat) : Int)) :: _) rfl ?_; clear hA; intro a hA
    refine wpList_nil ?_
    replace hA := hA.sel [0, 1, 5, 12] (e' := [(0, .slice A l.length c), (1, .func (.func g) first cap), (5, .int .i64 ((k : Nat) : Int)), (12, .bool (((k : Nat) : Int) == (-1)))]) rfl
    refine xt_norm ?_
    by_cases hc2 : ((k : Nat) : Int) = (-1)
    · first
      | (exfalso; omega)
      | (replace hA := hA.rw 12 (v' := .bool true) rfl (vb_eq_t hc2)
         refine cd_cond_t hA rfl ?_
         refine wp_seq ?_
         refine wp_region_lit ?_
         refine st_run tbOk 2 hA (e' := (4, .slice A l.length c) :: (13, .slice A l.length c) :: _) rfl ?_; clear hA; intro a hA
         refine wpList_nil ?_
         replace hA := hA.sel [4] (e' := [(4, .slice A l.length c)]) rfl
         refine xt_norm ?_
         refine wp_ret (xt_ret ?_)
         refine ret1 (fn := Tryd.f18) hA rfl rfl ?_
         have hfl : l.filter (fun x => !p x) = l := List.filter_eq_self.2 (fun y hy => by obtain ⟨i, hi⟩ := List.mem_iff_getElem?.1 hy; simp [hf i y hi])
         exact ⟨C, by rw [hfl]; exact hO, hS⟩)
    · first
      | (exfalso; omega)
      | (replace hA := hA.rw 12 (v' := .bool false) rfl (vb_eq_f hc2)
         refine cd_cond_f hA rfl ?_
         refine wp_skip ?_
         refine xt_norm ?_
         refine wp_seq ?_
         refine wp_seq ?_
         refine wp_region_lit ?_
         refine st_run tbOk 2 hA (e' := (15, .int .i64 (IntKind.i64.wrap (((k : Nat) : Int) + 1))) :: (14, .int .i64 ((k : Nat) : Int)) :: _) rfl ?_; clear hA; intro a hA
         replace hA := hA.rw 15 (v' := .int .i64 ((k + 1 : Nat) : Int)) rfl (wr64 (by omega) (by omega) (by omega))
         refine st_run tbOk 1 hA (e' := (6, .int .i64 ((k + 1 : Nat) : Int)) :: _) rfl ?_; clear hA; intro a hA
         refine wpList_nil ?_
         replace hA := hA.sel [0, 1, 5, 6] (e' := [(0, .slice A l.length c), (1, .func (.func g) first cap), (5, .int .i64 ((k : Nat) : Int)), (6, .int .i64 ((k + 1 : Nat) : Int))]) rfl
         refine xt_norm ?_
         refine wp_block ?_
         have hk1 : (kept p l (k + 1)).length = k := by rw [kept_step hx0, if_pos hpx0, kept_first hb, List.length_take]; omega
         replace hA := hA.rw 5 (v' := .int .i64 (((kept p l (k + 1)).length : Nat) : Int)) rfl (by rw [hk1])
         refine wp_loop_ghost (fun m a w => ∃ (j : Nat) (C : Chunk), m = l.length - j ∧ Has a 42 [(0, .slice A l.length c), (1, .func (.func g) first cap), (5, .int .i64 (((kept p l j).length : Nat) : Int)), (6, .int .i64 ((j : Nat) : Int))] ∧ St w0 w (C :: F) ∧ (k < j) ∧ (j ≤ l.length) ∧ (Own 3 1 (.slice A l.length c) l.length (rows encI (mid p l j)) C)) (l.length - (k + 1))
           ⟨(k + 1), C, rfl, (hA.sel [0, 1, 5, 6] rfl), hS, by omega, by omega, by rw [mid_no hx0 hpx0, mid_first (by omega) hb]; exact hO⟩ ?_
         clear hA hS; rintro m0 a w3 ⟨j, C, rfl, hA, hS, hj1, hj, hO⟩
         have hkj := kept_le p l j
         refine wp_seq ?_
         refine wp_seq ?_
         refine wp_region_lit ?_
         refine st_run tbOk 4 hA (e' := (19, .bool (decide (((j : Nat) : Int) < ((l.length : Nat) : Int)))) :: (18, .int .i64 ((l.length : Nat) : Int)) :: (17, .slice A l.length c) :: (16, .int .i64 ((j : Nat) : Int)) :: _) rfl ?_; clear hA; intro a hA
         refine wpList_nil ?_
         replace hA := hA.sel [0, 1, 5, 6, 19] (e' := [(0, .slice A l.length c), (1, .func (.func g) first cap), (5, .int .i64 (((kept p l j).length : Nat) : Int)), (6, .int .i64 ((j : Nat) : Int)), (19, .bool (decide (((j : Nat) : Int) < ((l.length : Nat) : Int))))]) rfl
         refine xt_norm ?_
         by_cases hc4 : ((j : Nat) : Int) < ((l.length : Nat) : Int)
         · first
           | (exfalso; omega)
           | (replace hA := hA.rw 19 (v' := .bool true) rfl (vb_true hc4)
              refine cd_cond_t hA rfl ?_
              refine wp_skip ?_
              refine xt_norm ?_
              refine wp_seq ?_
              refine wp_block ?_
              refine wp_seq ?_
              refine wp_region_lit ?_
              refine st_run tbOk 2 hA (e' := (23, .int .i64 ((j : Nat) : Int)) :: (22, .slice A l.length c) :: _) rfl ?_; clear hA; intro a hA
              obtain ⟨b5, o6, rfl⟩ := hO.isSome (k := j) (by omega)
              refine st_val hA rfl rfl (by decide) (rn_indexAddr tbOk hA j (o6 + j) rfl rfl rfl rfl rfl rfl (by rfl) (by omega) (by first | rfl | simp [Nat.mul_one, Nat.zero_add] | omega)) ?_; clear hA; intro a hA
              obtain ⟨x7, hx7⟩ := get_ex (l := l) (k := j) (by omega)
              have gx7 := (mid_at (p := p) (l := l) (Nat.le_refl j)).trans hx7
              refine st_val hA rfl rfl (by decide) (rn_load tbOk hA rfl rfl rfl rfl ((hO.rd (hS.own_ 0 rfl)).elem0 (k := j) encI_ok gx7 rfl)) ?_; clear hA; intro a hA
              refine st_run tbOk 1 hA (e' := (7, .int .i64 x7) :: _) rfl ?_; clear hA; intro a hA
              refine wpList_nil ?_
              replace hA := hA.sel [0, 1, 5, 6, 7] (e' := [(0, .slice (some ⟨b5, o6, none⟩) l.length c), (1, .func (.func g) first cap), (5, .int .i64 (((kept p l j).length : Nat) : Int)), (6, .int .i64 ((j : Nat) : Int)), (7, .int .i64 x7)]) rfl
              refine xt_norm ?_
              refine wp_seq ?_
              refine wp_region_lit ?_
              refine st_run tbOk 2 hA (e' := (27, .int .i64 x7) :: (26, .func (.func g) first cap) :: _) rfl ?_; clear hA; intro a hA
              refine st_call hA rfl rfl rfl rfl hg rfl rfl (by decide) (hp _ x7 (hS.tail 1 rfl)) ?_
              clear hA; rintro v w8 a ⟨rfl, hS'⟩ hA; replace hS : St w0 w8 (C :: F) := hS.trans hS'
              by_cases hpx : (p x7) = true
              · first
                | (exfalso; omega)
                | (replace hA := hA.rw 28 (v' := .bool true) rfl (vb_t hpx)
                   refine st_run tbOk 1 hA (e' := (29, .bool false) :: _) rfl ?_; clear hA; intro a hA
                   refine wpList_nil ?_
                   replace hA := hA.sel [0, 1, 5, 6, 7, 29] (e' := [(0, .slice (some ⟨b5, o6, none⟩) l.length c), (1, .func (.func g) first cap), (5, .int .i64 (((kept p l j).length : Nat) : Int)), (6, .int .i64 ((j : Nat) : Int)), (7, .int .i64 x7), (29, .bool false)]) rfl
                   refine xt_norm ?_
                   refine cd_cond_f hA rfl ?_
                   refine wp_skip ?_
                   refine xb_norm ?_
                   refine xt_norm ?_
                   refine wp_region_lit ?_
                   refine st_run tbOk 2 hA (e' := (21, .int .i64 (IntKind.i64.wrap (((j : Nat) : Int) + 1))) :: (20, .int .i64 ((j : Nat) : Int)) :: _) rfl ?_; clear hA; intro a hA
                   replace hA := hA.rw 21 (v' := .int .i64 ((j + 1 : Nat) : Int)) rfl (wr64 (by omega) (by omega) (by omega))
                   refine st_run tbOk 1 hA (e' := (6, .int .i64 ((j + 1 : Nat) : Int)) :: _) rfl ?_; clear hA; intro a hA
                   refine wpList_nil ?_
                   replace hA := hA.sel [0, 1, 5, 6] (e' := [(0, .slice (some ⟨b5, o6, none⟩) l.length c), (1, .func (.func g) first cap), (5, .int .i64 (((kept p l j).length : Nat) : Int)), (6, .int .i64 ((j + 1 : Nat) : Int))]) rfl
                   have h2 : (kept p l (j + 1)).length = (kept p l j).length := by rw [kept_step hx7, if_pos (by simpa using hpx)]
                   have h3 : Own 3 1 (.slice (some ⟨b5, o6, none⟩) l.length c) l.length (rows encI (mid p l (j + 1))) C := by rw [mid_no hx7 (by simpa using hpx)]; exact hO
                   replace hA := hA.rw 5 (v' := .int .i64 (((kept p l (j + 1)).length : Nat) : Int)) rfl (by rw [h2])
                   exact lp_next _ (by omega) ⟨(j + 1), C, rfl, (hA.sel [0, 1, 5, 6] rfl), hS, by omega, by omega, h3⟩)
              · first
                | (exfalso; omega)
                | (replace hA := hA.rw 28 (v' := .bool false) rfl (vb_f hpx)
                   refine st_run tbOk 1 hA (e' := (29, .bool true) :: _) rfl ?_; clear hA; intro a hA
                   refine wpList_nil ?_
                   replace hA := hA.sel [0, 1, 5, 6, 7, 29] (e' := [(0, .slice (some ⟨b5, o6, none⟩) l.length c), (1, .func (.func g) first cap), (5, .int .i64 (((kept p l j).length : Nat) : Int)), (6, .int .i64 ((j : Nat) : Int)), (7, .int .i64 x7), (29, .bool true)]) rfl
                   refine xt_norm ?_
                   refine cd_cond_t hA rfl ?_
                   refine wp_seq ?_
                   refine wp_region_lit ?_
                   refine st_run tbOk 3 hA (e' := (32, .int .i64 x7) :: (31, .int .i64 (((kept p l j).length : Nat) : Int)) :: (30, .slice (some ⟨b5, o6, none⟩) l.length c) :: _) rfl ?_; clear hA; intro a hA
                   refine st_val hA rfl rfl (by decide) (rn_indexAddr tbOk hA ((kept p l j).length) (o6 + ((kept p l j).length)) rfl rfl rfl rfl rfl rfl (by rfl) (by omega) (by first | rfl | simp [Nat.mul_one, Nat.zero_add] | omega)) ?_; clear hA; intro a hA
                   refine st_store_own tbOk hA hO hS (((kept p l j).length)) (o6 + ((kept p l j).length)) [.int .i64 x7] (rows encI ((mid p l j).set (kept p l j).length x7)) rfl rfl rfl rfl (by rfl) rfl rfl (by intro u hu; rw [List.mem_singleton.1 hu]; rfl) (by rw [rows_length encI_ok, mid_length]; have := kept_le p l j; simp only [List.length_cons, List.length_nil]; omega) (by have := rows_set encI_ok (x := x7) (l := mid p l j) (k := (kept p l j).length) (by rw [mid_length]; have := kept_le p l j; omega); rw [Nat.mul_one] at this; exact this) rfl rfl ?_; clear hS; intro w9 C10 hO10 hS
                   refine wpList_nil ?_
                   replace hA := hA.sel [0, 1, 5, 6] (e' := [(0, .slice (some ⟨b5, o6, none⟩) l.length c), (1, .func (.func g) first cap), (5, .int .i64 (((kept p l j).length : Nat) : Int)), (6, .int .i64 ((j : Nat) : Int))]) rfl
                   refine xt_norm ?_
                   refine wp_region_lit ?_
                   refine st_run tbOk 2 hA (e' := (35, .int .i64 (IntKind.i64.wrap ((((kept p l j).length : Nat) : Int) + 1))) :: (34, .int .i64 (((kept p l j).length : Nat) : Int)) :: _) rfl ?_; clear hA; intro a hA
                   replace hA := hA.rw 35 (v' := .int .i64 ((((kept p l j).length) + 1 : Nat) : Int)) rfl (wr64 (by omega) (by omega) (by omega))
                   refine st_run tbOk 1 hA (e' := (5, .int .i64 ((((kept p l j).length) + 1 : Nat) : Int)) :: _) rfl ?_; clear hA; intro a hA
                   refine wpList_nil ?_
                   replace hA := hA.sel [0, 1, 5, 6] (e' := [(0, .slice (some ⟨b5, o6, none⟩) l.length c), (1, .func (.func g) first cap), (5, .int .i64 ((((kept p l j).length) + 1 : Nat) : Int)), (6, .int .i64 ((j : Nat) : Int))]) rfl
                   refine xb_norm ?_
                   refine xt_norm ?_
                   refine wp_region_lit ?_
                   refine st_run tbOk 2 hA (e' := (21, .int .i64 (IntKind.i64.wrap (((j : Nat) : Int) + 1))) :: (20, .int .i64 ((j : Nat) : Int)) :: _) rfl ?_; clear hA; intro a hA
                   replace hA := hA.rw 21 (v' := .int .i64 ((j + 1 : Nat) : Int)) rfl (wr64 (by omega) (by omega) (by omega))
                   refine st_run tbOk 1 hA (e' := (6, .int .i64 ((j + 1 : Nat) : Int)) :: _) rfl ?_; clear hA; intro a hA
                   refine wpList_nil ?_
                   replace hA := hA.sel [0, 1, 5, 6] (e' := [(0, .slice (some ⟨b5, o6, none⟩) l.length c), (1, .func (.func g) first cap), (5, .int .i64 ((((kept p l j).length) + 1 : Nat) : Int)), (6, .int .i64 ((j + 1 : Nat) : Int))]) rfl
                   have h2 : (kept p l (j + 1)).length = (kept p l j).length + 1 := by rw [kept_step hx7, if_neg (by simpa using hpx), List.length_append]; rfl
                   have h3 : Own 3 1 (.slice (some ⟨b5, o6, none⟩) l.length c) l.length (rows encI (mid p l (j + 1))) C10 := by rw [mid_yes hx7 (by simpa using hpx)]; exact hO10
                   replace hA := hA.rw 5 (v' := .int .i64 (((kept p l (j + 1)).length : Nat) : Int)) rfl (by rw [h2])
                   exact lp_next _ (by omega) ⟨(j + 1), C10, rfl, (hA.sel [0, 1, 5, 6] rfl), hS, by omega, by omega, h3⟩))
         · first
           | (exfalso; omega)
           | (replace hA := hA.rw 19 (v' := .bool false) rfl (vb_false hc4)
              refine cd_cond_f hA rfl ?_
              refine wp_exit ?_
              refine xt_exit ?_
              refine xt_exit ?_
              refine cd_exit_eq ?_
              refine xt_norm ?_
              refine wp_seq ?_
              refine wp_region_lit ?_
              refine st_run tbOk 2 hA (e' := (37, .int .i64 (((kept p l j).length : Nat) : Int)) :: (36, .slice A l.length c) :: _) rfl ?_; clear hA; intro a hA
              refine st_val hA rfl rfl (by decide) (rn_slice_l tbOk hA ((kept p l j).length) rfl rfl rfl rfl rfl rfl (by rfl) (by omega)) ?_; clear hA; intro a hA
              refine st_clear tbOk hA (h := (kept p l j).length) (old := l.length) (c := c) rfl rfl rfl rfl rfl rfl (fun u hu => List.all_eq_true.1 (by rfl) u hu) (hO.head (kept p l j).length (by omega)) hS (by omega) (by omega) rfl rfl ?_; clear hS; intro w11 C12 hO12 hS
              obtain rfl : j = l.length := by omega
              rw [rows_take encI_ok, mid_head, kept_all] at hO12
              have e1 : (kept p l l.length).length = (l.filter (fun x => !p x)).length := by rw [kept_all]
              refine wpList_nil ?_
              replace hA := hA.sel [0, 5] (e' := [(0, .slice A l.length c), (5, .int .i64 (((kept p l l.length).length : Nat) : Int))]) rfl
              refine xt_norm ?_
              refine wp_seq ?_
              refine wp_region_lit ?_
              refine st_run tbOk 2 hA (e' := (40, .int .i64 (((kept p l l.length).length : Nat) : Int)) :: (39, .slice A l.length c) :: _) rfl ?_; clear hA; intro a hA
              refine st_val hA rfl rfl (by decide) (rn_slice_h tbOk hA ((kept p l l.length).length) rfl rfl rfl rfl rfl rfl (by rfl) (by omega)) ?_; clear hA; intro a hA
              refine st_run tbOk 1 hA (e' := (4, .slice A ((kept p l l.length).length) c) :: _) rfl ?_; clear hA; intro a hA
              refine wpList_nil ?_
              replace hA := hA.sel [4] (e' := [(4, .slice A ((kept p l l.length).length) c)]) rfl
              refine xt_norm ?_
              refine wp_ret ?_
              refine ret1 (fn := Tryd.f18) hA rfl rfl ?_
              exact ⟨_, (e1 ▸ hO12), hS⟩))

theorem delete17 {w0 w : World} {F : List Chunk} {C : Chunk} (hS : St w0 w (C :: F)) {v : Value} {l : List Int} (hO : Own 3 1 v l.length (rows encI l) C) (i j : Nat) (hij : i ≤ j) (hj : j ≤ l.length) :
    Ret Tryd.prog 17 #[v, .int .i64 ((i : Nat) : Int), .int .i64 ((j : Nat) : Int)] w (fun v w' => ∃ C', Own 3 1 v (l.take i ++ l.drop j).length (rows encI (l.take i ++ l.drop j)) C' ∧ St w0 w' (C' :: F)) := by
  obtain ⟨A, c, rfl, hmc, hcx⟩ := hO.open'
  refine enter (vs := [.slice A l.length c, .int .i64 ((i : Nat) : Int), .int .i64 ((j : Nat) : Int)]) 33 Tryd.func17 rfl rfl (by simp) ?_; intro a hA
  refine wp_seq ?_
  refine wp_region_lit ?_
  refine st_run tbOk 1 hA (e' := (6, .slice none 0 0) :: _) rfl ?_; clear hA; intro a hA
  refine wpList_nil ?_
  replace hA := hA.sel [0, 1, 2] (e' := [(0, .slice A l.length c), (1, .int .i64 ((i : Nat) : Int)), (2, .int .i64 ((j : Nat) : Int))]) rfl
  refine xt_norm ?_
  refine wp_seq ?_
  refine wp_region_lit ?_
  refine st_run tbOk 5 hA (e' := (12, .int .i64 ((l.length : Nat) : Int)) :: (11, .slice A l.length c) :: (10, .int .i64 ((j : Nat) : Int)) :: (9, .int .i64 ((i : Nat) : Int)) :: (8, .slice A l.length c) :: _) rfl ?_; clear hA; intro a hA
  refine st_val hA rfl rfl (by decide) (rn_slice_lhm tbOk hA i j l.length rfl rfl rfl rfl rfl rfl rfl rfl (by rfl) (by rfl) (by rfl) (by omega) (by omega) (by omega)) ?_; clear hA; intro a hA
  refine wpList_nil ?_
  replace hA := hA.sel [0, 1, 2] (e' := [(0, .slice A l.length c), (1, .int .i64 ((i : Nat) : Int)), (2, .int .i64 ((j : Nat) : Int))]) rfl
  refine xt_norm ?_
  refine wp_seq ?_
  refine wp_seq ?_
  refine wp_region_lit ?_
  refine st_run tbOk 3 hA (e' := (16, .bool (((i : Nat) : Int) == ((j : Nat) : Int))) :: (15, .int .i64 ((j : Nat) : Int)) :: (14, .int .i64 ((i : Nat) : Int)) :: _) rfl ?_; clear hA; intro a hA
  refine wpList_nil ?_
  replace hA := hA.sel [0, 1, 2, 16] (e' := [(0, .slice A l.length c), (1, .int .i64 ((i : Nat) : Int)), (2, .int .i64 ((j : Nat) : Int)), (16, .bool (((i : Nat) : Int) == ((j : Nat) : Int)))]) rfl
  refine xt_norm ?_
  by_cases hc1 : ((i : Nat) : Int) = ((j : Nat) : Int)
  · first
    | (exfalso; omega)
    | (replace hA := hA.rw 16 (v' := .bool true) rfl (vb_eq_t hc1)
       refine cd_cond_t hA rfl ?_
       refine wp_seq ?_
       refine wp_region_lit ?_
       refine st_run tbOk 2 hA (e' := (6, .slice A l.length c) :: (17, .slice A l.length c) :: _) rfl ?_; clear hA; intro a hA
       refine wpList_nil ?_
       replace hA := hA.sel [6] (e' := [(6, .slice A l.length c)]) rfl
       refine xt_norm ?_
       refine wp_ret (xt_ret ?_)
       refine ret1 (fn := Tryd.f17) hA rfl rfl ?_
       have e0 : l.take i ++ l.drop j = l := by rw [show j = i by omega, List.take_append_drop]
       exact ⟨C, by rw [e0]; exact hO, hS⟩)
  · first
    | (exfalso; omega)
    | (replace hA := hA.rw 16 (v' := .bool false) rfl (vb_eq_f hc1)
       refine cd_cond_f hA rfl ?_
       refine wp_skip ?_
       refine xt_norm ?_
       refine wp_seq ?_
       refine wp_region_lit ?_
       refine st_run tbOk 3 hA (e' := (7, .int .i64 ((l.length : Nat) : Int)) :: (19, .int .i64 ((l.length : Nat) : Int)) :: (18, .slice A l.length c) :: _) rfl ?_; clear hA; intro a hA
       refine wpList_nil ?_
       replace hA := hA.sel [0, 1, 2, 7] (e' := [(0, .slice A l.length c), (1, .int .i64 ((i : Nat) : Int)), (2, .int .i64 ((j : Nat) : Int)), (7, .int .i64 ((l.length : Nat) : Int))]) rfl
       refine xt_norm ?_
       refine wp_seq ?_
       refine wp_draw (fun w' => St w0 w' (F)) [] [(0, true), (1, true), (2, true), (3, true), (4, true), (5, true), (6, false), (7, true)] mixed (by kernel_rfl) (by rintro c a w ⟨_, _, h, _⟩; cases h) (by rfl) (by kernel_rfl) ?_
       replace hS := hS.drew
       refine dr_run tbOk 2 hA (hS.tail 1 rfl) (e' := (21, .int .i64 ((i : Nat) : Int)) :: (20, .slice A l.length c) :: _) rfl ?_; clear hA; intro a hA
       refine dr_y hA rfl rfl rfl (by decide) (hS.tail 1 rfl) (fun w' hS' => rn_slice_h tbOk hA i rfl rfl rfl rfl rfl rfl (by rfl) (by omega)) ?_; clear hA; intro a hA
       refine dr_run tbOk 2 hA (hS.tail 1 rfl) (e' := (24, .int .i64 ((j : Nat) : Int)) :: (23, .slice A l.length c) :: _) rfl ?_; clear hA; intro a hA
       refine dr_y hA rfl rfl rfl (by decide) (hS.tail 1 rfl) (fun w' hS' => rn_slice_l tbOk hA j rfl rfl rfl rfl rfl rfl (by rfl) (by omega)) ?_; clear hA; intro a hA
       refine dr_b (o := _) rfl ?_
       refine st_append_rm tbOk hA (m := i) (q := ((l.take l.length).drop j).length) (c := c) (xs := (rows encI l).take (i * 1)) (news := rows encI ((l.take l.length).drop j)) rfl rfl rfl rfl rfl rfl rfl (hO.head i (by omega)) hS ((hO.rd (hS.own_ 0 rfl)).rslv encI_ok j l.length c (by omega) (by omega) (by omega) (by omega)) (rows_one encI_ok _) (by simp; omega) rfl rfl (by decide) ?_
       clear hA hS; intro w2 C3 a hO3 hS hA
       have e1 : i + ((l.take l.length).drop j).length = (l.take i ++ l.drop j).length := by simp; omega
       have e2 : (rows encI l).take (i * 1) ++ rows encI ((l.take l.length).drop j) = rows encI (l.take i ++ l.drop j) := by rw [rows_take encI_ok, rows_append, List.take_length]
       rw [e2, e1] at hO3
       rw [e1] at hA
       have e3 : (l.take i ++ l.drop j).length ≤ l.length := by simp; omega
       refine dr_nil (.inr (hS.tail 1 rfl)) ?_
       refine dr_run tbOk 1 hA (hS.tail 1 rfl) (e' := (0, .slice A ((l.take i ++ l.drop j).length) c) :: _) rfl ?_; clear hA; intro a hA
       refine dr_end ?_
       replace hA := hA.sel [0, 7] (e' := [(0, .slice A ((l.take i ++ l.drop j).length) c), (7, .int .i64 ((l.length : Nat) : Int))]) rfl
       refine xt_norm ?_
       refine wp_seq ?_
       refine wp_region_lit ?_
       refine st_run tbOk 4 hA (e' := (30, .int .i64 ((l.length : Nat) : Int)) :: (29, .int .i64 (((l.take i ++ l.drop j).length : Nat) : Int)) :: (28, .slice A ((l.take i ++ l.drop j).length) c) :: (27, .slice A ((l.take i ++ l.drop j).length) c) :: _) rfl ?_; clear hA; intro a hA
       refine st_val hA rfl rfl (by decide) (rn_slice_lh tbOk hA ((l.take i ++ l.drop j).length) l.length rfl rfl rfl rfl rfl rfl rfl (by rfl) (by rfl) (by omega) (by omega)) ?_; clear hA; intro a hA
       refine st_clear tbOk hA (h := (l.take i ++ l.drop j).length) (old := l.length) (c := c) rfl rfl rfl rfl rfl rfl (fun u hu => List.all_eq_true.1 (by rfl) u hu) hO3 hS (by omega) (by omega) rfl rfl ?_; clear hS; intro w4 C5 hO5 hS
       refine wpList_nil ?_
       replace hA := hA.sel [0] (e' := [(0, .slice A ((l.take i ++ l.drop j).length) c)]) rfl
       refine xt_norm ?_
       refine wp_seq ?_
       refine wp_region_lit ?_
       refine st_run tbOk 2 hA (e' := (6, .slice A ((l.take i ++ l.drop j).length) c) :: (32, .slice A ((l.take i ++ l.drop j).length) c) :: _) rfl ?_; clear hA; intro a hA
       refine wpList_nil ?_
       replace hA := hA.sel [6] (e' := [(6, .slice A ((l.take i ++ l.drop j).length) c)]) rfl
       refine xt_norm ?_
       refine wp_ret ?_
       refine ret1 (fn := Tryd.f17) hA rfl rfl ?_
       exact ⟨_, hO5, hS⟩)

/-- A mutex at a block: free, or held, with those that wait. -/
def MF (b : Nat) (L : Chunk) : Prop := ∃ h v C, Own 3 1 v 0 (rows encI []) C ∧ L = (b, rowO [.int .i64 h, .bool false, v] 27) :: C
def MT (b : Nat) (h : Int) (ws : List Int) (L : Chunk) : Prop := ∃ v C, Own 3 1 v ws.length (rows encI ws) C ∧ L = (b, rowO [.int .i64 h, .bool true, v] 27) :: C
theorem MF.new (b : Nat) (h : Int) : MF b [(b, rowO [.int .i64 h, .bool false, .slice none 0 0] 27)] := ⟨h, _, [], Own.nil _ _, rfl⟩
theorem filt_len (l : List Int) (id : Int) : (l.filter (fun x => !(x == id))).length ≤ l.length := List.length_filter_le _ _

theorem lock_argF7 {w0 w : World} {F : List Chunk} {L : Chunk} {b : Nat} (hS : St w0 w (L :: F)) (hM : MF b L) (id : Int) (h1 : id < 0) :
    Ret Tryd.prog 7 #[.pointer (some ⟨b, 0, none⟩), .int .i64 id] w (fun v w' => ∃ L', MF b L' ∧ v = .tuple #[.bool false, .iface 36 (.int .i64 4)] ∧ St w0 w' (L' :: F)) := by
  obtain ⟨h, v, C, hO, rfl⟩ := hM
  obtain ⟨A, c, rfl, hmc, hcx⟩ := hO.open'
  replace hS : St w0 w ([(b, rowO [.int .i64 h, .bool false, .slice A 0 c] 27)] :: C :: F) := hS.split
  refine enter (vs := [.pointer (some ⟨b, 0, none⟩), .int .i64 id]) 57 Tryd.func7 rfl rfl (by simp) ?_; intro a hA
  refine wp_seq ?_
  refine wp_region_lit ?_
  refine st_run tbOk 2 hA (e' := (5, .nilIface) :: (4, .bool false) :: _) rfl ?_; clear hA; intro a hA
  refine wpList_nil ?_
  replace hA := hA.sel [0, 1] (e' := [(0, .pointer (some ⟨b, 0, none⟩)), (1, .int .i64 id)]) rfl
  refine xt_norm ?_
  refine wp_seq ?_
  refine wp_block ?_
  refine wp_seq ?_
  refine wp_region_lit ?_
  refine st_run tbOk 3 hA (e' := (6, .bool (decide (id < 0))) :: (8, .bool (decide (id < 0))) :: (7, .int .i64 id) :: _) rfl ?_; clear hA; intro a hA
  refine wpList_nil ?_
  replace hA := hA.sel [0, 1, 6] (e' := [(0, .pointer (some ⟨b, 0, none⟩)), (1, .int .i64 id), (6, .bool (decide (id < 0)))]) rfl
  refine xt_norm ?_
  have hc1 : id < 0 := h1
  replace hA := hA.rw 6 (v' := .bool true) rfl (vb_true hc1)
  refine cd_cond_t hA rfl ?_
  refine wp_seq ?_
  refine wp_region_lit ?_
  refine st_run tbOk 3 hA (e' := (5, .iface 36 (.int .i64 4)) :: (4, .bool false) :: (9, .iface 36 (.int .i64 4)) :: _) rfl ?_; clear hA; intro a hA
  refine wpList_nil ?_
  replace hA := hA.sel [4, 5] (e' := [(4, .bool false), (5, .iface 36 (.int .i64 4))]) rfl
  refine xt_norm ?_
  refine wp_ret (xb_ret (xt_ret ?_))
  refine ret2 (fn := Tryd.f7) hA rfl rfl rfl ?_
  replace hS := hS.front 1 (C := C) (L' := [(b, rowO [.int .i64 h, .bool false, .slice A 0 c] 27)] :: F) rfl rfl
  replace hS := hS.front 1 (C := [(b, rowO [.int .i64 h, .bool false, .slice A 0 c] 27)]) (L' := C :: F) rfl rfl
  replace hS := hS.join
  exact ⟨_, ⟨_, _, _, hO, rfl⟩, rfl, hS⟩

theorem lock_argT7 {w0 w : World} {F : List Chunk} {L : Chunk} {b : Nat} (hS : St w0 w (L :: F)) {h : Int} {ws : List Int} (hM : MT b h ws L) (id : Int) (h1 : id < 0) :
    Ret Tryd.prog 7 #[.pointer (some ⟨b, 0, none⟩), .int .i64 id] w (fun v w' => ∃ L', MT b h ws L' ∧ v = .tuple #[.bool false, .iface 36 (.int .i64 4)] ∧ St w0 w' (L' :: F)) := by
  obtain ⟨v, C, hO, rfl⟩ := hM
  obtain ⟨A, c, rfl, hmc, hcx⟩ := hO.open'
  replace hS : St w0 w ([(b, rowO [.int .i64 h, .bool true, .slice A ws.length c] 27)] :: C :: F) := hS.split
  refine enter (vs := [.pointer (some ⟨b, 0, none⟩), .int .i64 id]) 57 Tryd.func7 rfl rfl (by simp) ?_; intro a hA
  refine wp_seq ?_
  refine wp_region_lit ?_
  refine st_run tbOk 2 hA (e' := (5, .nilIface) :: (4, .bool false) :: _) rfl ?_; clear hA; intro a hA
  refine wpList_nil ?_
  replace hA := hA.sel [0, 1] (e' := [(0, .pointer (some ⟨b, 0, none⟩)), (1, .int .i64 id)]) rfl
  refine xt_norm ?_
  refine wp_seq ?_
  refine wp_block ?_
  refine wp_seq ?_
  refine wp_region_lit ?_
  refine st_run tbOk 3 hA (e' := (6, .bool (decide (id < 0))) :: (8, .bool (decide (id < 0))) :: (7, .int .i64 id) :: _) rfl ?_; clear hA; intro a hA
  refine wpList_nil ?_
  replace hA := hA.sel [0, 1, 6] (e' := [(0, .pointer (some ⟨b, 0, none⟩)), (1, .int .i64 id), (6, .bool (decide (id < 0)))]) rfl
  refine xt_norm ?_
  have hc1 : id < 0 := h1
  replace hA := hA.rw 6 (v' := .bool true) rfl (vb_true hc1)
  refine cd_cond_t hA rfl ?_
  refine wp_seq ?_
  refine wp_region_lit ?_
  refine st_run tbOk 3 hA (e' := (5, .iface 36 (.int .i64 4)) :: (4, .bool false) :: (9, .iface 36 (.int .i64 4)) :: _) rfl ?_; clear hA; intro a hA
  refine wpList_nil ?_
  replace hA := hA.sel [4, 5] (e' := [(4, .bool false), (5, .iface 36 (.int .i64 4))]) rfl
  refine xt_norm ?_
  refine wp_ret (xb_ret (xt_ret ?_))
  refine ret2 (fn := Tryd.f7) hA rfl rfl rfl ?_
  replace hS := hS.front 1 (C := C) (L' := [(b, rowO [.int .i64 h, .bool true, .slice A ws.length c] 27)] :: F) rfl rfl
  replace hS := hS.front 1 (C := [(b, rowO [.int .i64 h, .bool true, .slice A ws.length c] 27)]) (L' := C :: F) rfl rfl
  replace hS := hS.join
  exact ⟨_, ⟨_, _, hO, rfl⟩, rfl, hS⟩

theorem lock_free7 {w0 w : World} {F : List Chunk} {L : Chunk} {b : Nat} (hS : St w0 w (L :: F)) (hM : MF b L) (id : Int) (h1 : 0 ≤ id) :
    Ret Tryd.prog 7 #[.pointer (some ⟨b, 0, none⟩), .int .i64 id] w (fun v w' => ∃ L', MT b id [] L' ∧ v = .tuple #[.bool true, .nilIface] ∧ St w0 w' (L' :: F)) := by
  obtain ⟨h, v, C, hO, rfl⟩ := hM
  obtain ⟨A, c, rfl, hmc, hcx⟩ := hO.open'
  replace hS : St w0 w ([(b, rowO [.int .i64 h, .bool false, .slice A 0 c] 27)] :: C :: F) := hS.split
  refine enter (vs := [.pointer (some ⟨b, 0, none⟩), .int .i64 id]) 57 Tryd.func7 rfl rfl (by simp) ?_; intro a hA
  refine wp_seq ?_
  refine wp_region_lit ?_
  refine st_run tbOk 2 hA (e' := (5, .nilIface) :: (4, .bool false) :: _) rfl ?_; clear hA; intro a hA
  refine wpList_nil ?_
  replace hA := hA.sel [0, 1] (e' := [(0, .pointer (some ⟨b, 0, none⟩)), (1, .int .i64 id)]) rfl
  refine xt_norm ?_
  refine wp_seq ?_
  refine wp_block ?_
  refine wp_seq ?_
  refine wp_region_lit ?_
  refine st_run tbOk 3 hA (e' := (6, .bool (decide (id < 0))) :: (8, .bool (decide (id < 0))) :: (7, .int .i64 id) :: _) rfl ?_; clear hA; intro a hA
  refine wpList_nil ?_
  replace hA := hA.sel [0, 1, 6] (e' := [(0, .pointer (some ⟨b, 0, none⟩)), (1, .int .i64 id), (6, .bool (decide (id < 0)))]) rfl
  refine xt_norm ?_
  have hc1 : ¬ (id < 0) := by omega
  replace hA := hA.rw 6 (v' := .bool false) rfl (vb_false hc1)
  refine cd_cond_f hA rfl ?_
  refine wp_seq ?_
  refine wp_region_lit ?_
  refine st_run tbOk 3 hA (e' := (13, .pointer (some ⟨b, 1, none⟩)) :: (12, .pointer (some ⟨b, 0, none⟩)) :: (11, .pointer (some ⟨b, 0, none⟩)) :: _) rfl ?_; clear hA; intro a hA
  refine st_val hA rfl rfl (by decide) (rn_load tbOk hA rfl rfl rfl rfl (cell_row (hS.heapAt 0 rfl) rfl)) ?_; clear hA; intro a hA
  refine st_run tbOk 2 hA (e' := (10, .bool true) :: (15, .bool true) :: _) rfl ?_; clear hA; intro a hA
  refine wpList_nil ?_
  replace hA := hA.sel [0, 1, 10] (e' := [(0, .pointer (some ⟨b, 0, none⟩)), (1, .int .i64 id), (10, .bool true)]) rfl
  refine xt_norm ?_
  refine cd_cond_t hA rfl ?_
  refine wp_seq ?_
  refine wp_region_lit ?_
  refine st_run tbOk 5 hA (e' := (20, .pointer (some ⟨b, 0, none⟩)) :: (19, .pointer (some ⟨b, 0, none⟩)) :: (18, .int .i64 id) :: (17, .pointer (some ⟨b, 0, none⟩)) :: (16, .pointer (some ⟨b, 0, none⟩)) :: _) rfl ?_; clear hA; intro a hA
  refine st_store tbOk hA hS [.int .i64 id] [.int .i64 id, .bool false, .slice A 0 c] rfl rfl rfl rfl rfl rfl (by intro u hu; rw [List.mem_singleton.1 hu]; rfl) (Nat.le_of_ble_eq_true rfl) rfl rfl rfl ?_; clear hS; intro w2 hS
  refine st_run tbOk 2 hA (e' := (22, .pointer (some ⟨b, 1, none⟩)) :: (21, .pointer (some ⟨b, 0, none⟩)) :: _) rfl ?_; clear hA; intro a hA
  refine st_store tbOk hA hS [.bool true] [.int .i64 id, .bool true, .slice A 0 c] rfl rfl rfl rfl rfl rfl (by intro u hu; rw [List.mem_singleton.1 hu]; rfl) (Nat.le_of_ble_eq_true rfl) rfl rfl rfl ?_; clear hS; intro w3 hS
  refine wpList_nil ?_
  replace hA := hA.sel [] (e' := []) rfl
  refine xt_norm ?_
  refine wp_seq ?_
  refine wp_region_lit ?_
  refine st_run tbOk 2 hA (e' := (5, .nilIface) :: (4, .bool true) :: _) rfl ?_; clear hA; intro a hA
  refine wpList_nil ?_
  refine xt_norm ?_
  refine wp_ret (xb_ret (xt_ret ?_))
  refine ret2 (fn := Tryd.f7) hA rfl rfl rfl ?_
  replace hS := hS.front 1 (C := C) (L' := [(b, rowO [.int .i64 id, .bool true, .slice A 0 c] 27)] :: F) rfl rfl
  replace hS := hS.front 1 (C := [(b, rowO [.int .i64 id, .bool true, .slice A 0 c] 27)]) (L' := C :: F) rfl rfl
  replace hS := hS.join
  exact ⟨_, ⟨_, _, hO, rfl⟩, rfl, hS⟩

theorem lock_own7 {w0 w : World} {F : List Chunk} {L : Chunk} {b : Nat} (hS : St w0 w (L :: F)) {h : Int} {ws : List Int} (hM : MT b h ws L) (id : Int) (h1 : 0 ≤ id) (h2 : h = id) :
    Ret Tryd.prog 7 #[.pointer (some ⟨b, 0, none⟩), .int .i64 id] w (fun v w' => ∃ L', MT b h ws L' ∧ v = .tuple #[.bool false, .iface 36 (.int .i64 15)] ∧ St w0 w' (L' :: F)) := by
  obtain ⟨v, C, hO, rfl⟩ := hM
  obtain ⟨A, c, rfl, hmc, hcx⟩ := hO.open'
  replace hS : St w0 w ([(b, rowO [.int .i64 h, .bool true, .slice A ws.length c] 27)] :: C :: F) := hS.split
  refine enter (vs := [.pointer (some ⟨b, 0, none⟩), .int .i64 id]) 57 Tryd.func7 rfl rfl (by simp) ?_; intro a hA
  refine wp_seq ?_
  refine wp_region_lit ?_
  refine st_run tbOk 2 hA (e' := (5, .nilIface) :: (4, .bool false) :: _) rfl ?_; clear hA; intro a hA
  refine wpList_nil ?_
  replace hA := hA.sel [0, 1] (e' := [(0, .pointer (some ⟨b, 0, none⟩)), (1, .int .i64 id)]) rfl
  refine xt_norm ?_
  refine wp_seq ?_
  refine wp_block ?_
  refine wp_seq ?_
  refine wp_region_lit ?_
  refine st_run tbOk 3 hA (e' := (6, .bool (decide (id < 0))) :: (8, .bool (decide (id < 0))) :: (7, .int .i64 id) :: _) rfl ?_; clear hA; intro a hA
  refine wpList_nil ?_
  replace hA := hA.sel [0, 1, 6] (e' := [(0, .pointer (some ⟨b, 0, none⟩)), (1, .int .i64 id), (6, .bool (decide (id < 0)))]) rfl
  refine xt_norm ?_
  have hc1 : ¬ (id < 0) := by omega
  replace hA := hA.rw 6 (v' := .bool false) rfl (vb_false hc1)
  refine cd_cond_f hA rfl ?_
  refine wp_seq ?_
  refine wp_region_lit ?_
  refine st_run tbOk 3 hA (e' := (13, .pointer (some ⟨b, 1, none⟩)) :: (12, .pointer (some ⟨b, 0, none⟩)) :: (11, .pointer (some ⟨b, 0, none⟩)) :: _) rfl ?_; clear hA; intro a hA
  refine st_val hA rfl rfl (by decide) (rn_load tbOk hA rfl rfl rfl rfl (cell_row (hS.heapAt 0 rfl) rfl)) ?_; clear hA; intro a hA
  refine st_run tbOk 2 hA (e' := (10, .bool false) :: (15, .bool false) :: _) rfl ?_; clear hA; intro a hA
  refine wpList_nil ?_
  replace hA := hA.sel [0, 1, 10] (e' := [(0, .pointer (some ⟨b, 0, none⟩)), (1, .int .i64 id), (10, .bool false)]) rfl
  refine xt_norm ?_
  refine cd_cond_f hA rfl ?_
  refine wp_seq ?_
  refine wp_region_lit ?_
  refine st_run tbOk 3 hA (e' := (26, .pointer (some ⟨b, 0, none⟩)) :: (25, .pointer (some ⟨b, 0, none⟩)) :: (24, .pointer (some ⟨b, 0, none⟩)) :: _) rfl ?_; clear hA; intro a hA
  refine st_val hA rfl rfl (by decide) (rn_load tbOk hA rfl rfl rfl rfl (cell_row (hS.heapAt 0 rfl) rfl)) ?_; clear hA; intro a hA
  refine st_run tbOk 3 hA (e' := (30, .bool (h == id)) :: (29, .bool (h == id)) :: (28, .int .i64 id) :: _) rfl ?_; clear hA; intro a hA
  have hc2 : h = id := h2
  replace hA := hA.rw 29 (v' := .bool true) rfl (vb_eq_t hc2)
  replace hA := hA.rw 30 (v' := .bool true) rfl (vb_eq_t hc2)
  refine st_run tbOk 8 hA (e' := (23, .bool true) :: (37, .bool true) :: (36, undef) :: (35, undef) :: (34, undef) :: (33, undef) :: (32, undef) :: (31, undef) :: _) rfl ?_; clear hA; intro a hA
  refine wpList_nil ?_
  replace hA := hA.sel [0, 1, 23] (e' := [(0, .pointer (some ⟨b, 0, none⟩)), (1, .int .i64 id), (23, .bool true)]) rfl
  refine xt_norm ?_
  refine cd_cond_t hA rfl ?_
  refine wp_seq ?_
  refine wp_region_lit ?_
  refine st_run tbOk 3 hA (e' := (5, .iface 36 (.int .i64 15)) :: (4, .bool false) :: (38, .iface 36 (.int .i64 15)) :: _) rfl ?_; clear hA; intro a hA
  refine wpList_nil ?_
  replace hA := hA.sel [4, 5] (e' := [(4, .bool false), (5, .iface 36 (.int .i64 15))]) rfl
  refine xt_norm ?_
  refine wp_ret (xb_ret (xt_ret ?_))
  refine ret2 (fn := Tryd.f7) hA rfl rfl rfl ?_
  replace hS := hS.front 1 (C := C) (L' := [(b, rowO [.int .i64 h, .bool true, .slice A ws.length c] 27)] :: F) rfl rfl
  replace hS := hS.front 1 (C := [(b, rowO [.int .i64 h, .bool true, .slice A ws.length c] 27)]) (L' := C :: F) rfl rfl
  replace hS := hS.join
  exact ⟨_, ⟨_, _, hO, rfl⟩, rfl, hS⟩

theorem lock_in7 {w0 w : World} {F : List Chunk} {L : Chunk} {b : Nat} (hS : St w0 w (L :: F)) {h : Int} {ws : List Int} (hM : MT b h ws L) (id : Int) (h1 : 0 ≤ id) (h2 : ¬ h = id) (h3 : ws.any (fun y => y == id) = true) :
    Ret Tryd.prog 7 #[.pointer (some ⟨b, 0, none⟩), .int .i64 id] w (fun v w' => ∃ L', MT b h ws L' ∧ v = .tuple #[.bool false, .iface 36 (.int .i64 15)] ∧ St w0 w' (L' :: F)) := by
  obtain ⟨v, C, hO, rfl⟩ := hM
  obtain ⟨A, c, rfl, hmc, hcx⟩ := hO.open'
  replace hS : St w0 w ([(b, rowO [.int .i64 h, .bool true, .slice A ws.length c] 27)] :: C :: F) := hS.split
  refine enter (vs := [.pointer (some ⟨b, 0, none⟩), .int .i64 id]) 57 Tryd.func7 rfl rfl (by simp) ?_; intro a hA
  refine wp_seq ?_
  refine wp_region_lit ?_
  refine st_run tbOk 2 hA (e' := (5, .nilIface) :: (4, .bool false) :: _) rfl ?_; clear hA; intro a hA
  refine wpList_nil ?_
  replace hA := hA.sel [0, 1] (e' := [(0, .pointer (some ⟨b, 0, none⟩)), (1, .int .i64 id)]) rfl
  refine xt_norm ?_
  refine wp_seq ?_
  refine wp_block ?_
  refine wp_seq ?_
  refine wp_region_lit ?_
  refine st_run tbOk 3 hA (e' := (6, .bool (decide (id < 0))) :: (8, .bool (decide (id < 0))) :: (7, .int .i64 id) :: _) rfl ?_; clear hA; intro a hA
  refine wpList_nil ?_
  replace hA := hA.sel [0, 1, 6] (e' := [(0, .pointer (some ⟨b, 0, none⟩)), (1, .int .i64 id), (6, .bool (decide (id < 0)))]) rfl
  refine xt_norm ?_
  have hc1 : ¬ (id < 0) := by omega
  replace hA := hA.rw 6 (v' := .bool false) rfl (vb_false hc1)
  refine cd_cond_f hA rfl ?_
  refine wp_seq ?_
  refine wp_region_lit ?_
  refine st_run tbOk 3 hA (e' := (13, .pointer (some ⟨b, 1, none⟩)) :: (12, .pointer (some ⟨b, 0, none⟩)) :: (11, .pointer (some ⟨b, 0, none⟩)) :: _) rfl ?_; clear hA; intro a hA
  refine st_val hA rfl rfl (by decide) (rn_load tbOk hA rfl rfl rfl rfl (cell_row (hS.heapAt 0 rfl) rfl)) ?_; clear hA; intro a hA
  refine st_run tbOk 2 hA (e' := (10, .bool false) :: (15, .bool false) :: _) rfl ?_; clear hA; intro a hA
  refine wpList_nil ?_
  replace hA := hA.sel [0, 1, 10] (e' := [(0, .pointer (some ⟨b, 0, none⟩)), (1, .int .i64 id), (10, .bool false)]) rfl
  refine xt_norm ?_
  refine cd_cond_f hA rfl ?_
  refine wp_seq ?_
  refine wp_region_lit ?_
  refine st_run tbOk 3 hA (e' := (26, .pointer (some ⟨b, 0, none⟩)) :: (25, .pointer (some ⟨b, 0, none⟩)) :: (24, .pointer (some ⟨b, 0, none⟩)) :: _) rfl ?_; clear hA; intro a hA
  refine st_val hA rfl rfl (by decide) (rn_load tbOk hA rfl rfl rfl rfl (cell_row (hS.heapAt 0 rfl) rfl)) ?_; clear hA; intro a hA
  refine st_run tbOk 3 hA (e' := (30, .bool (h == id)) :: (29, .bool (h == id)) :: (28, .int .i64 id) :: _) rfl ?_; clear hA; intro a hA
  have hc2 : ¬ (h = id) := h2
  replace hA := hA.rw 29 (v' := .bool false) rfl (vb_eq_f hc2)
  replace hA := hA.rw 30 (v' := .bool false) rfl (vb_eq_f hc2)
  refine st_run tbOk 3 hA (e' := (33, .pointer (some ⟨b, 2, none⟩)) :: (32, .pointer (some ⟨b, 0, none⟩)) :: (31, .pointer (some ⟨b, 0, none⟩)) :: _) rfl ?_; clear hA; intro a hA
  refine st_val hA rfl rfl (by decide) (rn_load tbOk hA rfl rfl rfl rfl (cell_row (hS.heapAt 0 rfl) rfl)) ?_; clear hA; intro a hA
  refine st_run tbOk 1 hA (e' := (35, .int .i64 id) :: _) rfl ?_; clear hA; intro a hA
  refine st_call0 hA rfl rfl rfl isfn15 rfl rfl (by decide) (contains15 hS (l := ws) (RdS.own hO 1 rfl) id) ?_
  clear hA hS; rintro v w3 a ⟨rfl, hS⟩ hA
  refine st_run tbOk 2 hA (e' := (23, .bool (ws.any (fun y => y == id))) :: (37, .bool (ws.any (fun y => y == id))) :: _) rfl ?_; clear hA; intro a hA
  refine wpList_nil ?_
  replace hA := hA.sel [0, 1, 23] (e' := [(0, .pointer (some ⟨b, 0, none⟩)), (1, .int .i64 id), (23, .bool (ws.any (fun y => y == id)))]) rfl
  refine xt_norm ?_
  have hc4 : (ws.any (fun y => y == id)) = true := h3
  replace hA := hA.rw 23 (v' := .bool true) rfl (vb_t hc4)
  refine cd_cond_t hA rfl ?_
  refine wp_seq ?_
  refine wp_region_lit ?_
  refine st_run tbOk 3 hA (e' := (5, .iface 36 (.int .i64 15)) :: (4, .bool false) :: (38, .iface 36 (.int .i64 15)) :: _) rfl ?_; clear hA; intro a hA
  refine wpList_nil ?_
  replace hA := hA.sel [4, 5] (e' := [(4, .bool false), (5, .iface 36 (.int .i64 15))]) rfl
  refine xt_norm ?_
  refine wp_ret (xb_ret (xt_ret ?_))
  refine ret2 (fn := Tryd.f7) hA rfl rfl rfl ?_
  replace hS := hS.front 1 (C := C) (L' := [(b, rowO [.int .i64 h, .bool true, .slice A ws.length c] 27)] :: F) rfl rfl
  replace hS := hS.front 1 (C := [(b, rowO [.int .i64 h, .bool true, .slice A ws.length c] 27)]) (L' := C :: F) rfl rfl
  replace hS := hS.join
  exact ⟨_, ⟨_, _, hO, rfl⟩, rfl, hS⟩

theorem lock_full7 {w0 w : World} {F : List Chunk} {L : Chunk} {b : Nat} (hS : St w0 w (L :: F)) {h : Int} {ws : List Int} (hM : MT b h ws L) (id : Int) (h1 : 0 ≤ id) (h2 : ¬ h = id) (h3 : ws.any (fun y => y == id) = false) (h4 : 64 ≤ ws.length) :
    Ret Tryd.prog 7 #[.pointer (some ⟨b, 0, none⟩), .int .i64 id] w (fun v w' => ∃ L', MT b h ws L' ∧ v = .tuple #[.bool false, .iface 36 (.int .i64 5)] ∧ St w0 w' (L' :: F)) := by
  obtain ⟨v, C, hO, rfl⟩ := hM
  obtain ⟨A, c, rfl, hmc, hcx⟩ := hO.open'
  replace hS : St w0 w ([(b, rowO [.int .i64 h, .bool true, .slice A ws.length c] 27)] :: C :: F) := hS.split
  refine enter (vs := [.pointer (some ⟨b, 0, none⟩), .int .i64 id]) 57 Tryd.func7 rfl rfl (by simp) ?_; intro a hA
  refine wp_seq ?_
  refine wp_region_lit ?_
  refine st_run tbOk 2 hA (e' := (5, .nilIface) :: (4, .bool false) :: _) rfl ?_; clear hA; intro a hA
  refine wpList_nil ?_
  replace hA := hA.sel [0, 1] (e' := [(0, .pointer (some ⟨b, 0, none⟩)), (1, .int .i64 id)]) rfl
  refine xt_norm ?_
  refine wp_seq ?_
  refine wp_block ?_
  refine wp_seq ?_
  refine wp_region_lit ?_
  refine st_run tbOk 3 hA (e' := (6, .bool (decide (id < 0))) :: (8, .bool (decide (id < 0))) :: (7, .int .i64 id) :: _) rfl ?_; clear hA; intro a hA
  refine wpList_nil ?_
  replace hA := hA.sel [0, 1, 6] (e' := [(0, .pointer (some ⟨b, 0, none⟩)), (1, .int .i64 id), (6, .bool (decide (id < 0)))]) rfl
  refine xt_norm ?_
  have hc1 : ¬ (id < 0) := by omega
  replace hA := hA.rw 6 (v' := .bool false) rfl (vb_false hc1)
  refine cd_cond_f hA rfl ?_
  refine wp_seq ?_
  refine wp_region_lit ?_
  refine st_run tbOk 3 hA (e' := (13, .pointer (some ⟨b, 1, none⟩)) :: (12, .pointer (some ⟨b, 0, none⟩)) :: (11, .pointer (some ⟨b, 0, none⟩)) :: _) rfl ?_; clear hA; intro a hA
  refine st_val hA rfl rfl (by decide) (rn_load tbOk hA rfl rfl rfl rfl (cell_row (hS.heapAt 0 rfl) rfl)) ?_; clear hA; intro a hA
  refine st_run tbOk 2 hA (e' := (10, .bool false) :: (15, .bool false) :: _) rfl ?_; clear hA; intro a hA
  refine wpList_nil ?_
  replace hA := hA.sel [0, 1, 10] (e' := [(0, .pointer (some ⟨b, 0, none⟩)), (1, .int .i64 id), (10, .bool false)]) rfl
  refine xt_norm ?_
  refine cd_cond_f hA rfl ?_
  refine wp_seq ?_
  refine wp_region_lit ?_
  refine st_run tbOk 3 hA (e' := (26, .pointer (some ⟨b, 0, none⟩)) :: (25, .pointer (some ⟨b, 0, none⟩)) :: (24, .pointer (some ⟨b, 0, none⟩)) :: _) rfl ?_; clear hA; intro a hA
  refine st_val hA rfl rfl (by decide) (rn_load tbOk hA rfl rfl rfl rfl (cell_row (hS.heapAt 0 rfl) rfl)) ?_; clear hA; intro a hA
  refine st_run tbOk 3 hA (e' := (30, .bool (h == id)) :: (29, .bool (h == id)) :: (28, .int .i64 id) :: _) rfl ?_; clear hA; intro a hA
  have hc2 : ¬ (h = id) := h2
  replace hA := hA.rw 29 (v' := .bool false) rfl (vb_eq_f hc2)
  replace hA := hA.rw 30 (v' := .bool false) rfl (vb_eq_f hc2)
  refine st_run tbOk 3 hA (e' := (33, .pointer (some ⟨b, 2, none⟩)) :: (32, .pointer (some ⟨b, 0, none⟩)) :: (31, .pointer (some ⟨b, 0, none⟩)) :: _) rfl ?_; clear hA; intro a hA
  refine st_val hA rfl rfl (by decide) (rn_load tbOk hA rfl rfl rfl rfl (cell_row (hS.heapAt 0 rfl) rfl)) ?_; clear hA; intro a hA
  refine st_run tbOk 1 hA (e' := (35, .int .i64 id) :: _) rfl ?_; clear hA; intro a hA
  refine st_call0 hA rfl rfl rfl isfn15 rfl rfl (by decide) (contains15 hS (l := ws) (RdS.own hO 1 rfl) id) ?_
  clear hA hS; rintro v w3 a ⟨rfl, hS⟩ hA
  refine st_run tbOk 2 hA (e' := (23, .bool (ws.any (fun y => y == id))) :: (37, .bool (ws.any (fun y => y == id))) :: _) rfl ?_; clear hA; intro a hA
  refine wpList_nil ?_
  replace hA := hA.sel [0, 1, 23] (e' := [(0, .pointer (some ⟨b, 0, none⟩)), (1, .int .i64 id), (23, .bool (ws.any (fun y => y == id)))]) rfl
  refine xt_norm ?_
  have hc4 : ¬ ((ws.any (fun y => y == id)) = true) := by rw [h3]; decide
  replace hA := hA.rw 23 (v' := .bool false) rfl (vb_f hc4)
  refine cd_cond_f hA rfl ?_
  refine wp_seq ?_
  refine wp_region_lit ?_
  refine st_run tbOk 3 hA (e' := (42, .pointer (some ⟨b, 2, none⟩)) :: (41, .pointer (some ⟨b, 0, none⟩)) :: (40, .pointer (some ⟨b, 0, none⟩)) :: _) rfl ?_; clear hA; intro a hA
  refine st_val hA rfl rfl (by decide) (rn_load tbOk hA rfl rfl rfl rfl (cell_row (hS.heapAt 0 rfl) rfl)) ?_; clear hA; intro a hA
  refine st_run tbOk 3 hA (e' := (39, .bool (decide (((ws.length : Nat) : Int) ≥ 64))) :: (45, .bool (decide (((ws.length : Nat) : Int) ≥ 64))) :: (44, .int .i64 ((ws.length : Nat) : Int)) :: _) rfl ?_; clear hA; intro a hA
  refine wpList_nil ?_
  replace hA := hA.sel [0, 1, 39] (e' := [(0, .pointer (some ⟨b, 0, none⟩)), (1, .int .i64 id), (39, .bool (decide (((ws.length : Nat) : Int) ≥ 64)))]) rfl
  refine xt_norm ?_
  have hc5 : ((ws.length : Nat) : Int) ≥ 64 := by omega
  replace hA := hA.rw 39 (v' := .bool true) rfl (vb_true hc5)
  refine cd_cond_t hA rfl ?_
  refine wp_seq ?_
  refine wp_region_lit ?_
  refine st_run tbOk 3 hA (e' := (5, .iface 36 (.int .i64 5)) :: (4, .bool false) :: (46, .iface 36 (.int .i64 5)) :: _) rfl ?_; clear hA; intro a hA
  refine wpList_nil ?_
  replace hA := hA.sel [4, 5] (e' := [(4, .bool false), (5, .iface 36 (.int .i64 5))]) rfl
  refine xt_norm ?_
  refine wp_ret (xb_ret (xt_ret ?_))
  refine ret2 (fn := Tryd.f7) hA rfl rfl rfl ?_
  replace hS := hS.front 1 (C := C) (L' := [(b, rowO [.int .i64 h, .bool true, .slice A ws.length c] 27)] :: F) rfl rfl
  replace hS := hS.front 1 (C := [(b, rowO [.int .i64 h, .bool true, .slice A ws.length c] 27)]) (L' := C :: F) rfl rfl
  replace hS := hS.join
  exact ⟨_, ⟨_, _, hO, rfl⟩, rfl, hS⟩

theorem lock_ok7 {w0 w : World} {F : List Chunk} {L : Chunk} {b : Nat} (hS : St w0 w (L :: F)) {h : Int} {ws : List Int} (hM : MT b h ws L) (id : Int) (h1 : 0 ≤ id) (h2 : ¬ h = id) (h3 : ws.any (fun y => y == id) = false) (h4 : ws.length < 64) :
    Ret Tryd.prog 7 #[.pointer (some ⟨b, 0, none⟩), .int .i64 id] w (fun v w' => ∃ L', MT b h (ws ++ [id]) L' ∧ v = .tuple #[.bool false, .nilIface] ∧ St w0 w' (L' :: F)) := by
  obtain ⟨v, C, hO, rfl⟩ := hM
  obtain ⟨A, c, rfl, hmc, hcx⟩ := hO.open'
  replace hS : St w0 w ([(b, rowO [.int .i64 h, .bool true, .slice A ws.length c] 27)] :: C :: F) := hS.split
  refine enter (vs := [.pointer (some ⟨b, 0, none⟩), .int .i64 id]) 57 Tryd.func7 rfl rfl (by simp) ?_; intro a hA
  refine wp_seq ?_
  refine wp_region_lit ?_
  refine st_run tbOk 2 hA (e' := (5, .nilIface) :: (4, .bool false) :: _) rfl ?_; clear hA; intro a hA
  refine wpList_nil ?_
  replace hA := hA.sel [0, 1] (e' := [(0, .pointer (some ⟨b, 0, none⟩)), (1, .int .i64 id)]) rfl
  refine xt_norm ?_
  refine wp_seq ?_
  refine wp_block ?_
  refine wp_seq ?_
  refine wp_region_lit ?_
  refine st_run tbOk 3 hA (e' := (6, .bool (decide (id < 0))) :: (8, .bool (decide (id < 0))) :: (7, .int .i64 id) :: _) rfl ?_; clear hA; intro a hA
  refine wpList_nil ?_
  replace hA := hA.sel [0, 1, 6] (e' := [(0, .pointer (some ⟨b, 0, none⟩)), (1, .int .i64 id), (6, .bool (decide (id < 0)))]) rfl
  refine xt_norm ?_
  have hc1 : ¬ (id < 0) := by omega
  replace hA := hA.rw 6 (v' := .bool false) rfl (vb_false hc1)
  refine cd_cond_f hA rfl ?_
  refine wp_seq ?_
  refine wp_region_lit ?_
  refine st_run tbOk 3 hA (e' := (13, .pointer (some ⟨b, 1, none⟩)) :: (12, .pointer (some ⟨b, 0, none⟩)) :: (11, .pointer (some ⟨b, 0, none⟩)) :: _) rfl ?_; clear hA; intro a hA
  refine st_val hA rfl rfl (by decide) (rn_load tbOk hA rfl rfl rfl rfl (cell_row (hS.heapAt 0 rfl) rfl)) ?_; clear hA; intro a hA
  refine st_run tbOk 2 hA (e' := (10, .bool false) :: (15, .bool false) :: _) rfl ?_; clear hA; intro a hA
  refine wpList_nil ?_
  replace hA := hA.sel [0, 1, 10] (e' := [(0, .pointer (some ⟨b, 0, none⟩)), (1, .int .i64 id), (10, .bool false)]) rfl
  refine xt_norm ?_
  refine cd_cond_f hA rfl ?_
  refine wp_seq ?_
  refine wp_region_lit ?_
  refine st_run tbOk 3 hA (e' := (26, .pointer (some ⟨b, 0, none⟩)) :: (25, .pointer (some ⟨b, 0, none⟩)) :: (24, .pointer (some ⟨b, 0, none⟩)) :: _) rfl ?_; clear hA; intro a hA
  refine st_val hA rfl rfl (by decide) (rn_load tbOk hA rfl rfl rfl rfl (cell_row (hS.heapAt 0 rfl) rfl)) ?_; clear hA; intro a hA
  refine st_run tbOk 3 hA (e' := (30, .bool (h == id)) :: (29, .bool (h == id)) :: (28, .int .i64 id) :: _) rfl ?_; clear hA; intro a hA
  have hc2 : ¬ (h = id) := h2
  replace hA := hA.rw 29 (v' := .bool false) rfl (vb_eq_f hc2)
  replace hA := hA.rw 30 (v' := .bool false) rfl (vb_eq_f hc2)
  refine st_run tbOk 3 hA (e' := (33, .pointer (some ⟨b, 2, none⟩)) :: (32, .pointer (some ⟨b, 0, none⟩)) :: (31, .pointer (some ⟨b, 0, none⟩)) :: _) rfl ?_; clear hA; intro a hA
  refine st_val hA rfl rfl (by decide) (rn_load tbOk hA rfl rfl rfl rfl (cell_row (hS.heapAt 0 rfl) rfl)) ?_; clear hA; intro a hA
  refine st_run tbOk 1 hA (e' := (35, .int .i64 id) :: _) rfl ?_; clear hA; intro a hA
  refine st_call0 hA rfl rfl rfl isfn15 rfl rfl (by decide) (contains15 hS (l := ws) (RdS.own hO 1 rfl) id) ?_
  clear hA hS; rintro v w3 a ⟨rfl, hS⟩ hA
  refine st_run tbOk 2 hA (e' := (23, .bool (ws.any (fun y => y == id))) :: (37, .bool (ws.any (fun y => y == id))) :: _) rfl ?_; clear hA; intro a hA
  refine wpList_nil ?_
  replace hA := hA.sel [0, 1, 23] (e' := [(0, .pointer (some ⟨b, 0, none⟩)), (1, .int .i64 id), (23, .bool (ws.any (fun y => y == id)))]) rfl
  refine xt_norm ?_
  have hc4 : ¬ ((ws.any (fun y => y == id)) = true) := by rw [h3]; decide
  replace hA := hA.rw 23 (v' := .bool false) rfl (vb_f hc4)
  refine cd_cond_f hA rfl ?_
  refine wp_seq ?_
  refine wp_region_lit ?_
  refine st_run tbOk 3 hA (e' := (42, .pointer (some ⟨b, 2, none⟩)) :: (41, .pointer (some ⟨b, 0, none⟩)) :: (40, .pointer (some ⟨b, 0, none⟩)) :: _) rfl ?_; clear hA; intro a hA
  refine st_val hA rfl rfl (by decide) (rn_load tbOk hA rfl rfl rfl rfl (cell_row (hS.heapAt 0 rfl) rfl)) ?_; clear hA; intro a hA
  refine st_run tbOk 3 hA (e' := (39, .bool (decide (((ws.length : Nat) : Int) ≥ 64))) :: (45, .bool (decide (((ws.length : Nat) : Int) ≥ 64))) :: (44, .int .i64 ((ws.length : Nat) : Int)) :: _) rfl ?_; clear hA; intro a hA
  refine wpList_nil ?_
  replace hA := hA.sel [0, 1, 39] (e' := [(0, .pointer (some ⟨b, 0, none⟩)), (1, .int .i64 id), (39, .bool (decide (((ws.length : Nat) : Int) ≥ 64)))]) rfl
  refine xt_norm ?_
  have hc5 : ¬ (((ws.length : Nat) : Int) ≥ 64) := by omega
  replace hA := hA.rw 39 (v' := .bool false) rfl (vb_false hc5)
  refine cd_cond_f hA rfl ?_
  refine wp_skip ?_
  refine xb_norm ?_
  refine xt_norm ?_
  refine wp_seq ?_
  refine wp_region_lit ?_
  refine st_run tbOk 4 hA (e' := (50, .pointer (some ⟨b, 2, none⟩)) :: (49, .pointer (some ⟨b, 0, none⟩)) :: (48, .pointer (some ⟨b, 0, none⟩)) :: (47, .pointer (some ⟨b, 0, none⟩)) :: _) rfl ?_; clear hA; intro a hA
  refine st_val hA rfl rfl (by decide) (rn_load tbOk hA rfl rfl rfl rfl (cell_row (hS.heapAt 0 rfl) rfl)) ?_; clear hA; intro a hA
  refine st_run tbOk 1 hA (e' := (52, .int .i64 id) :: _) rfl ?_; clear hA; intro a hA
  refine st_buildSlice tbOk hA hS [.int .i64 id] rfl rfl rfl rfl rfl (by decide) (by kernel_rfl) rfl rfl (by decide) ?_; clear hA hS; intro b6 w7 a hS hA
  replace hS := hS.front 2 (C := C) (L' := [(b6, rowO [.int .i64 id] 3)] :: [(b, rowO [.int .i64 h, .bool true, .slice A ws.length c] 27)] :: F) rfl rfl
  refine st_append tbOk hA (m := ws.length) (q := 1) (xs := rows encI ws) (news := rows encI ([id] : List Int)) rfl rfl rfl rfl rfl rfl rfl rfl (by decide) hO hS ((Own.full (T := 3) (size := 1) (g := b6) (m := 1) rfl (by decide)).rd (hS.own_ 1 rfl)) (rows_one encI_ok _) (maxLen_le (by omega)) (by show (ws.length + 1) * 8 ≤ 140737488355328; omega) rfl rfl (by decide) ?_
  clear hA hS; intro v8 w9 C10 a hO10 hS hA
  replace hO10 := Own.app (l := ws) (l2 := ([id] : List Int)) hO10
  obtain ⟨A11, c12, rfl, hmc12, hxc12⟩ := hO10.open'
  refine st_run tbOk 2 hA (e' := (56, .pointer (some ⟨b, 2, none⟩)) :: (55, .pointer (some ⟨b, 0, none⟩)) :: _) rfl ?_; clear hA; intro a hA
  replace hS := hS.front 2 (C := [(b, rowO [.int .i64 h, .bool true, .slice A ws.length c] 27)]) (L' := C10 :: [(b6, rowO [.int .i64 id] 3)] :: F) rfl rfl
  refine st_store tbOk hA hS [.slice A11 ((ws ++ ([id] : List Int)).length) c12] [.int .i64 h, .bool true, .slice A11 ((ws ++ ([id] : List Int)).length) c12] rfl rfl rfl rfl rfl rfl (by intro u hu; rw [List.mem_singleton.1 hu]; rfl) (Nat.le_of_ble_eq_true rfl) rfl rfl rfl ?_; clear hS; intro w13 hS
  refine wpList_nil ?_
  replace hA := hA.sel [] (e' := []) rfl
  refine xt_norm ?_
  refine wp_seq ?_
  refine wp_region_lit ?_
  refine st_run tbOk 2 hA (e' := (5, .nilIface) :: (4, .bool false) :: _) rfl ?_; clear hA; intro a hA
  refine wpList_nil ?_
  refine xt_norm ?_
  refine wp_ret ?_
  refine ret2 (fn := Tryd.f7) hA rfl rfl rfl ?_
  replace hS := hS.front 1 (C := C10) (L' := [(b, rowO [.int .i64 h, .bool true, .slice A11 ((ws ++ ([id] : List Int)).length) c12] 27)] :: [(b6, rowO [.int .i64 id] 3)] :: F) rfl rfl
  replace hS := hS.front 1 (C := [(b, rowO [.int .i64 h, .bool true, .slice A11 ((ws ++ ([id] : List Int)).length) c12] 27)]) (L' := C10 :: [(b6, rowO [.int .i64 id] 3)] :: F) rfl rfl
  replace hS := (hS.front 2 rfl rfl).drop1
  replace hS := hS.join
  exact ⟨_, ⟨_, _, hO10, rfl⟩, rfl, hS⟩

theorem holder_F12 {w0 w : World} {F : List Chunk} {L : Chunk} {b : Nat} (hS : St w0 w (L :: F)) (hM : MF b L)  :
    Ret Tryd.prog 12 #[.pointer (some ⟨b, 0, none⟩)] w (fun v w' => ∃ L', MF b L' ∧ v = .int .i64 (-1) ∧ St w0 w' (L' :: F)) := by
  obtain ⟨h, v, C, hO, rfl⟩ := hM
  obtain ⟨A, c, rfl, hmc, hcx⟩ := hO.open'
  replace hS : St w0 w ([(b, rowO [.int .i64 h, .bool false, .slice A 0 c] 27)] :: C :: F) := hS.split
  refine enter (vs := [.pointer (some ⟨b, 0, none⟩)]) 12 Tryd.func12 rfl rfl (by simp) ?_; intro a hA
  refine wp_seq ?_
  refine wp_region_lit ?_
  refine st_run tbOk 1 hA (e' := (2, .int .i64 0) :: _) rfl ?_; clear hA; intro a hA
  refine wpList_nil ?_
  replace hA := hA.sel [0] (e' := [(0, .pointer (some ⟨b, 0, none⟩))]) rfl
  refine xt_norm ?_
  refine wp_seq ?_
  refine wp_seq ?_
  refine wp_region_lit ?_
  refine st_run tbOk 3 hA (e' := (5, .pointer (some ⟨b, 1, none⟩)) :: (4, .pointer (some ⟨b, 0, none⟩)) :: (3, .pointer (some ⟨b, 0, none⟩)) :: _) rfl ?_; clear hA; intro a hA
  refine st_val hA rfl rfl (by decide) (rn_load tbOk hA rfl rfl rfl rfl (cell_row (hS.heapAt 0 rfl) rfl)) ?_; clear hA; intro a hA
  refine st_run tbOk 1 hA (e' := (7, .bool true) :: _) rfl ?_; clear hA; intro a hA
  refine wpList_nil ?_
  replace hA := hA.sel [0, 7] (e' := [(0, .pointer (some ⟨b, 0, none⟩)), (7, .bool true)]) rfl
  refine xt_norm ?_
  refine cd_cond_t hA rfl ?_
  refine wp_seq ?_
  refine wp_region_lit ?_
  refine st_run tbOk 1 hA (e' := (2, .int .i64 (-1)) :: _) rfl ?_; clear hA; intro a hA
  refine wpList_nil ?_
  replace hA := hA.sel [2] (e' := [(2, .int .i64 (-1))]) rfl
  refine xt_norm ?_
  refine wp_ret (xt_ret ?_)
  refine ret1 (fn := Tryd.f12) hA rfl rfl ?_
  replace hS := hS.front 1 (C := C) (L' := [(b, rowO [.int .i64 h, .bool false, .slice A 0 c] 27)] :: F) rfl rfl
  replace hS := hS.front 1 (C := [(b, rowO [.int .i64 h, .bool false, .slice A 0 c] 27)]) (L' := C :: F) rfl rfl
  replace hS := hS.join
  exact ⟨_, ⟨_, _, _, hO, rfl⟩, rfl, hS⟩

theorem holder_T12 {w0 w : World} {F : List Chunk} {L : Chunk} {b : Nat} (hS : St w0 w (L :: F)) {h : Int} {ws : List Int} (hM : MT b h ws L)  :
    Ret Tryd.prog 12 #[.pointer (some ⟨b, 0, none⟩)] w (fun v w' => ∃ L', MT b h ws L' ∧ v = .int .i64 h ∧ St w0 w' (L' :: F)) := by
  obtain ⟨v, C, hO, rfl⟩ := hM
  obtain ⟨A, c, rfl, hmc, hcx⟩ := hO.open'
  replace hS : St w0 w ([(b, rowO [.int .i64 h, .bool true, .slice A ws.length c] 27)] :: C :: F) := hS.split
  refine enter (vs := [.pointer (some ⟨b, 0, none⟩)]) 12 Tryd.func12 rfl rfl (by simp) ?_; intro a hA
  refine wp_seq ?_
  refine wp_region_lit ?_
  refine st_run tbOk 1 hA (e' := (2, .int .i64 0) :: _) rfl ?_; clear hA; intro a hA
  refine wpList_nil ?_
  replace hA := hA.sel [0] (e' := [(0, .pointer (some ⟨b, 0, none⟩))]) rfl
  refine xt_norm ?_
  refine wp_seq ?_
  refine wp_seq ?_
  refine wp_region_lit ?_
  refine st_run tbOk 3 hA (e' := (5, .pointer (some ⟨b, 1, none⟩)) :: (4, .pointer (some ⟨b, 0, none⟩)) :: (3, .pointer (some ⟨b, 0, none⟩)) :: _) rfl ?_; clear hA; intro a hA
  refine st_val hA rfl rfl (by decide) (rn_load tbOk hA rfl rfl rfl rfl (cell_row (hS.heapAt 0 rfl) rfl)) ?_; clear hA; intro a hA
  refine st_run tbOk 1 hA (e' := (7, .bool false) :: _) rfl ?_; clear hA; intro a hA
  refine wpList_nil ?_
  replace hA := hA.sel [0, 7] (e' := [(0, .pointer (some ⟨b, 0, none⟩)), (7, .bool false)]) rfl
  refine xt_norm ?_
  refine cd_cond_f hA rfl ?_
  refine wp_skip ?_
  refine xt_norm ?_
  refine wp_seq ?_
  refine wp_region_lit ?_
  refine st_run tbOk 3 hA (e' := (10, .pointer (some ⟨b, 0, none⟩)) :: (9, .pointer (some ⟨b, 0, none⟩)) :: (8, .pointer (some ⟨b, 0, none⟩)) :: _) rfl ?_; clear hA; intro a hA
  refine st_val hA rfl rfl (by decide) (rn_load tbOk hA rfl rfl rfl rfl (cell_row (hS.heapAt 0 rfl) rfl)) ?_; clear hA; intro a hA
  refine st_run tbOk 1 hA (e' := (2, .int .i64 h) :: _) rfl ?_; clear hA; intro a hA
  refine wpList_nil ?_
  replace hA := hA.sel [2] (e' := [(2, .int .i64 h)]) rfl
  refine xt_norm ?_
  refine wp_ret ?_
  refine ret1 (fn := Tryd.f12) hA rfl rfl ?_
  replace hS := hS.front 1 (C := C) (L' := [(b, rowO [.int .i64 h, .bool true, .slice A ws.length c] 27)] :: F) rfl rfl
  replace hS := hS.front 1 (C := [(b, rowO [.int .i64 h, .bool true, .slice A ws.length c] 27)]) (L' := C :: F) rfl rfl
  replace hS := hS.join
  exact ⟨_, ⟨_, _, hO, rfl⟩, rfl, hS⟩

theorem holderO_F12 {w0 w : World} {F : List Chunk} {b : Nat} {h : Int} {x : Value} (hS : St w0 w ([(b, rowO [.int .i64 h, .bool false, x] 27)] :: F)) :
    Ret Tryd.prog 12 #[.pointer (some ⟨b, 0, none⟩)] w (fun v w' => v = .int .i64 (-1) ∧ St w0 w' ([(b, rowO [.int .i64 h, .bool false, x] 27)] :: F)) := by
  refine enter (vs := [.pointer (some ⟨b, 0, none⟩)]) 12 Tryd.func12 rfl rfl (by simp) ?_; intro a hA
  refine wp_seq ?_
  refine wp_region_lit ?_
  refine st_run tbOk 1 hA (e' := (2, .int .i64 0) :: _) rfl ?_; clear hA; intro a hA
  refine wpList_nil ?_
  replace hA := hA.sel [0] (e' := [(0, .pointer (some ⟨b, 0, none⟩))]) rfl
  refine xt_norm ?_
  refine wp_seq ?_
  refine wp_seq ?_
  refine wp_region_lit ?_
  refine st_run tbOk 3 hA (e' := (5, .pointer (some ⟨b, 1, none⟩)) :: (4, .pointer (some ⟨b, 0, none⟩)) :: (3, .pointer (some ⟨b, 0, none⟩)) :: _) rfl ?_; clear hA; intro a hA
  refine st_val hA rfl rfl (by decide) (rn_load tbOk hA rfl rfl rfl rfl (cell_row (hS.heapAt 0 rfl) rfl)) ?_; clear hA; intro a hA
  refine st_run tbOk 1 hA (e' := (7, .bool true) :: _) rfl ?_; clear hA; intro a hA
  refine wpList_nil ?_
  replace hA := hA.sel [0, 7] (e' := [(0, .pointer (some ⟨b, 0, none⟩)), (7, .bool true)]) rfl
  refine xt_norm ?_
  refine cd_cond_t hA rfl ?_
  refine wp_seq ?_
  refine wp_region_lit ?_
  refine st_run tbOk 1 hA (e' := (2, .int .i64 (-1)) :: _) rfl ?_; clear hA; intro a hA
  refine wpList_nil ?_
  replace hA := hA.sel [2] (e' := [(2, .int .i64 (-1))]) rfl
  refine xt_norm ?_
  refine wp_ret (xt_ret ?_)
  refine ret1 (fn := Tryd.f12) hA rfl rfl ?_
  exact ⟨rfl, hS⟩

theorem holderO_T12 {w0 w : World} {F : List Chunk} {b : Nat} {h : Int} {x : Value} (hS : St w0 w ([(b, rowO [.int .i64 h, .bool true, x] 27)] :: F)) :
    Ret Tryd.prog 12 #[.pointer (some ⟨b, 0, none⟩)] w (fun v w' => v = .int .i64 h ∧ St w0 w' ([(b, rowO [.int .i64 h, .bool true, x] 27)] :: F)) := by
  refine enter (vs := [.pointer (some ⟨b, 0, none⟩)]) 12 Tryd.func12 rfl rfl (by simp) ?_; intro a hA
  refine wp_seq ?_
  refine wp_region_lit ?_
  refine st_run tbOk 1 hA (e' := (2, .int .i64 0) :: _) rfl ?_; clear hA; intro a hA
  refine wpList_nil ?_
  replace hA := hA.sel [0] (e' := [(0, .pointer (some ⟨b, 0, none⟩))]) rfl
  refine xt_norm ?_
  refine wp_seq ?_
  refine wp_seq ?_
  refine wp_region_lit ?_
  refine st_run tbOk 3 hA (e' := (5, .pointer (some ⟨b, 1, none⟩)) :: (4, .pointer (some ⟨b, 0, none⟩)) :: (3, .pointer (some ⟨b, 0, none⟩)) :: _) rfl ?_; clear hA; intro a hA
  refine st_val hA rfl rfl (by decide) (rn_load tbOk hA rfl rfl rfl rfl (cell_row (hS.heapAt 0 rfl) rfl)) ?_; clear hA; intro a hA
  refine st_run tbOk 1 hA (e' := (7, .bool false) :: _) rfl ?_; clear hA; intro a hA
  refine wpList_nil ?_
  replace hA := hA.sel [0, 7] (e' := [(0, .pointer (some ⟨b, 0, none⟩)), (7, .bool false)]) rfl
  refine xt_norm ?_
  refine cd_cond_f hA rfl ?_
  refine wp_skip ?_
  refine xt_norm ?_
  refine wp_seq ?_
  refine wp_region_lit ?_
  refine st_run tbOk 3 hA (e' := (10, .pointer (some ⟨b, 0, none⟩)) :: (9, .pointer (some ⟨b, 0, none⟩)) :: (8, .pointer (some ⟨b, 0, none⟩)) :: _) rfl ?_; clear hA; intro a hA
  refine st_val hA rfl rfl (by decide) (rn_load tbOk hA rfl rfl rfl rfl (cell_row (hS.heapAt 0 rfl) rfl)) ?_; clear hA; intro a hA
  refine st_run tbOk 1 hA (e' := (2, .int .i64 h) :: _) rfl ?_; clear hA; intro a hA
  refine wpList_nil ?_
  replace hA := hA.sel [2] (e' := [(2, .int .i64 h)]) rfl
  refine xt_norm ?_
  refine wp_ret ?_
  refine ret1 (fn := Tryd.f12) hA rfl rfl ?_
  exact ⟨rfl, hS⟩

theorem unlock_free9 {w0 w : World} {F : List Chunk} {L : Chunk} {b : Nat} (hS : St w0 w (L :: F)) (hM : MF b L) (id : Int) :
    Ret Tryd.prog 9 #[.pointer (some ⟨b, 0, none⟩), .int .i64 id] w (fun v w' => ∃ L', MF b L' ∧ v = .tuple #[.int .i64 (-1), .iface 36 (.int .i64 15)] ∧ St w0 w' (L' :: F)) := by
  obtain ⟨h, v, C, hO, rfl⟩ := hM
  obtain ⟨A, c, rfl, hmc, hcx⟩ := hO.open'
  replace hS : St w0 w ([(b, rowO [.int .i64 h, .bool false, .slice A 0 c] 27)] :: C :: F) := hS.split
  refine enter (vs := [.pointer (some ⟨b, 0, none⟩), .int .i64 id]) 45 Tryd.func9 rfl rfl (by simp) ?_; intro a hA
  refine wp_seq ?_
  refine wp_region_lit ?_
  refine st_run tbOk 2 hA (e' := (5, .nilIface) :: (4, .int .i64 0) :: _) rfl ?_; clear hA; intro a hA
  refine wpList_nil ?_
  replace hA := hA.sel [0, 1] (e' := [(0, .pointer (some ⟨b, 0, none⟩)), (1, .int .i64 id)]) rfl
  refine xt_norm ?_
  refine wp_seq ?_
  refine wp_seq ?_
  refine wp_region_lit ?_
  refine st_run tbOk 3 hA (e' := (8, .bool (decide (id < 0))) :: (7, .bool (decide (id < 0))) :: (6, .int .i64 id) :: _) rfl ?_; clear hA; intro a hA
  by_cases hc1 : id < 0
  · first
    | (exfalso; omega)
    | (replace hA := hA.rw 7 (v' := .bool true) rfl (vb_true hc1)
       replace hA := hA.rw 8 (v' := .bool true) rfl (vb_true hc1)
       refine st_run tbOk 5 hA (e' := (13, .bool true) :: (12, undef) :: (11, undef) :: (10, undef) :: (9, undef) :: _) rfl ?_; clear hA; intro a hA
       refine wpList_nil ?_
       replace hA := hA.sel [0, 13] (e' := [(0, .pointer (some ⟨b, 0, none⟩)), (13, .bool true)]) rfl
       refine xt_norm ?_
       refine cd_cond_t hA rfl ?_
       refine wp_seq ?_
       refine wp_region_lit ?_
       refine st_run tbOk 3 hA (e' := (5, .iface 36 (.int .i64 15)) :: (4, .int .i64 (-1)) :: (14, .iface 36 (.int .i64 15)) :: _) rfl ?_; clear hA; intro a hA
       refine wpList_nil ?_
       replace hA := hA.sel [4, 5] (e' := [(4, .int .i64 (-1)), (5, .iface 36 (.int .i64 15))]) rfl
       refine xt_norm ?_
       refine wp_ret (xt_ret ?_)
       refine ret2 (fn := Tryd.f9) hA rfl rfl rfl ?_
       replace hS := hS.front 1 (C := C) (L' := [(b, rowO [.int .i64 h, .bool false, .slice A 0 c] 27)] :: F) rfl rfl
       replace hS := hS.front 1 (C := [(b, rowO [.int .i64 h, .bool false, .slice A 0 c] 27)]) (L' := C :: F) rfl rfl
       replace hS := hS.join
       exact ⟨_, ⟨_, _, _, hO, rfl⟩, rfl, hS⟩)
  · first
    | (exfalso; omega)
    | (replace hA := hA.rw 7 (v' := .bool false) rfl (vb_false hc1)
       replace hA := hA.rw 8 (v' := .bool false) rfl (vb_false hc1)
       refine st_run tbOk 1 hA (e' := (9, .pointer (some ⟨b, 0, none⟩)) :: _) rfl ?_; clear hA; intro a hA
       refine st_call0 hA rfl rfl rfl isfn12 rfl rfl (by decide) (holderO_F12 hS) ?_
       clear hA hS; rintro v w2 a ⟨rfl, hS⟩ hA
       refine st_run tbOk 3 hA (e' := (13, .bool ((-1) != id)) :: (12, .bool ((-1) != id)) :: (11, .int .i64 id) :: _) rfl ?_; clear hA; intro a hA
       refine wpList_nil ?_
       replace hA := hA.sel [0, 13] (e' := [(0, .pointer (some ⟨b, 0, none⟩)), (13, .bool ((-1) != id))]) rfl
       refine xt_norm ?_
       by_cases hc3 : (-1) = id
       · first
         | (exfalso; omega)
         | (replace hA := hA.rw 13 (v' := .bool false) rfl (vb_ne_f hc3)
            refine cd_cond_f hA rfl ?_
            refine wp_skip ?_
            refine xt_norm ?_
            refine wp_seq ?_
            refine wp_seq ?_
            refine wp_region_lit ?_
            refine st_run tbOk 3 hA (e' := (17, .pointer (some ⟨b, 2, none⟩)) :: (16, .pointer (some ⟨b, 0, none⟩)) :: (15, .pointer (some ⟨b, 0, none⟩)) :: _) rfl ?_; clear hA; intro a hA
            refine st_val hA rfl rfl (by decide) (rn_load tbOk hA rfl rfl rfl rfl (cell_row (hS.heapAt 0 rfl) rfl)) ?_; clear hA; intro a hA
            refine st_run tbOk 2 hA (e' := (20, .bool true) :: (19, .int .i64 0) :: _) rfl ?_; clear hA; intro a hA
            refine wpList_nil ?_
            replace hA := hA.sel [0, 20] (e' := [(0, .pointer (some ⟨b, 0, none⟩)), (20, .bool true)]) rfl
            refine xt_norm ?_
            refine cd_cond_t hA rfl ?_
            refine wp_seq ?_
            refine wp_region_lit ?_
            refine st_run tbOk 3 hA (e' := (23, .pointer (some ⟨b, 1, none⟩)) :: (22, .pointer (some ⟨b, 0, none⟩)) :: (21, .pointer (some ⟨b, 0, none⟩)) :: _) rfl ?_; clear hA; intro a hA
            refine st_store tbOk hA hS [.bool false] [.int .i64 h, .bool false, .slice A 0 c] rfl rfl rfl rfl rfl rfl (by intro u hu; rw [List.mem_singleton.1 hu]; rfl) (Nat.le_of_ble_eq_true rfl) rfl rfl rfl ?_; clear hS; intro w4 hS
            refine wpList_nil ?_
            replace hA := hA.sel [] (e' := []) rfl
            refine xt_norm ?_
            refine wp_seq ?_
            refine wp_region_lit ?_
            refine st_run tbOk 2 hA (e' := (5, .nilIface) :: (4, .int .i64 (-1)) :: _) rfl ?_; clear hA; intro a hA
            refine wpList_nil ?_
            refine xt_norm ?_
            refine wp_ret (xt_ret ?_)
            refine ret2 (fn := Tryd.f9) hA rfl rfl rfl ?_
            replace hS := hS.front 1 (C := C) (L' := [(b, rowO [.int .i64 h, .bool false, .slice A 0 c] 27)] :: F) rfl rfl
            replace hS := hS.front 1 (C := [(b, rowO [.int .i64 h, .bool false, .slice A 0 c] 27)]) (L' := C :: F) rfl rfl
            replace hS := hS.join
            exact ⟨_, ⟨_, _, _, hO, rfl⟩, rfl, hS⟩)
       · first
         | (exfalso; omega)
         | (replace hA := hA.rw 13 (v' := .bool true) rfl (vb_ne_t hc3)
            refine cd_cond_t hA rfl ?_
            refine wp_seq ?_
            refine wp_region_lit ?_
            refine st_run tbOk 3 hA (e' := (5, .iface 36 (.int .i64 15)) :: (4, .int .i64 (-1)) :: (14, .iface 36 (.int .i64 15)) :: _) rfl ?_; clear hA; intro a hA
            refine wpList_nil ?_
            replace hA := hA.sel [4, 5] (e' := [(4, .int .i64 (-1)), (5, .iface 36 (.int .i64 15))]) rfl
            refine xt_norm ?_
            refine wp_ret (xt_ret ?_)
            refine ret2 (fn := Tryd.f9) hA rfl rfl rfl ?_
            replace hS := hS.front 1 (C := C) (L' := [(b, rowO [.int .i64 h, .bool false, .slice A 0 c] 27)] :: F) rfl rfl
            replace hS := hS.front 1 (C := [(b, rowO [.int .i64 h, .bool false, .slice A 0 c] 27)]) (L' := C :: F) rfl rfl
            replace hS := hS.join
            exact ⟨_, ⟨_, _, _, hO, rfl⟩, rfl, hS⟩))

theorem unlock_not9 {w0 w : World} {F : List Chunk} {L : Chunk} {b : Nat} (hS : St w0 w (L :: F)) {h : Int} {ws : List Int} (hM : MT b h ws L) (id : Int) (h1 : ¬ h = id) :
    Ret Tryd.prog 9 #[.pointer (some ⟨b, 0, none⟩), .int .i64 id] w (fun v w' => ∃ L', MT b h ws L' ∧ v = .tuple #[.int .i64 (-1), .iface 36 (.int .i64 15)] ∧ St w0 w' (L' :: F)) := by
  obtain ⟨v, C, hO, rfl⟩ := hM
  obtain ⟨A, c, rfl, hmc, hcx⟩ := hO.open'
  replace hS : St w0 w ([(b, rowO [.int .i64 h, .bool true, .slice A ws.length c] 27)] :: C :: F) := hS.split
  refine enter (vs := [.pointer (some ⟨b, 0, none⟩), .int .i64 id]) 45 Tryd.func9 rfl rfl (by simp) ?_; intro a hA
  refine wp_seq ?_
  refine wp_region_lit ?_
  refine st_run tbOk 2 hA (e' := (5, .nilIface) :: (4, .int .i64 0) :: _) rfl ?_; clear hA; intro a hA
  refine wpList_nil ?_
  replace hA := hA.sel [0, 1] (e' := [(0, .pointer (some ⟨b, 0, none⟩)), (1, .int .i64 id)]) rfl
  refine xt_norm ?_
  refine wp_seq ?_
  refine wp_seq ?_
  refine wp_region_lit ?_
  refine st_run tbOk 3 hA (e' := (8, .bool (decide (id < 0))) :: (7, .bool (decide (id < 0))) :: (6, .int .i64 id) :: _) rfl ?_; clear hA; intro a hA
  by_cases hc1 : id < 0
  · first
    | (exfalso; omega)
    | (replace hA := hA.rw 7 (v' := .bool true) rfl (vb_true hc1)
       replace hA := hA.rw 8 (v' := .bool true) rfl (vb_true hc1)
       refine st_run tbOk 5 hA (e' := (13, .bool true) :: (12, undef) :: (11, undef) :: (10, undef) :: (9, undef) :: _) rfl ?_; clear hA; intro a hA
       refine wpList_nil ?_
       replace hA := hA.sel [0, 13] (e' := [(0, .pointer (some ⟨b, 0, none⟩)), (13, .bool true)]) rfl
       refine xt_norm ?_
       refine cd_cond_t hA rfl ?_
       refine wp_seq ?_
       refine wp_region_lit ?_
       refine st_run tbOk 3 hA (e' := (5, .iface 36 (.int .i64 15)) :: (4, .int .i64 (-1)) :: (14, .iface 36 (.int .i64 15)) :: _) rfl ?_; clear hA; intro a hA
       refine wpList_nil ?_
       replace hA := hA.sel [4, 5] (e' := [(4, .int .i64 (-1)), (5, .iface 36 (.int .i64 15))]) rfl
       refine xt_norm ?_
       refine wp_ret (xt_ret ?_)
       refine ret2 (fn := Tryd.f9) hA rfl rfl rfl ?_
       replace hS := hS.front 1 (C := C) (L' := [(b, rowO [.int .i64 h, .bool true, .slice A ws.length c] 27)] :: F) rfl rfl
       replace hS := hS.front 1 (C := [(b, rowO [.int .i64 h, .bool true, .slice A ws.length c] 27)]) (L' := C :: F) rfl rfl
       replace hS := hS.join
       exact ⟨_, ⟨_, _, hO, rfl⟩, rfl, hS⟩)
  · first
    | (exfalso; omega)
    | (replace hA := hA.rw 7 (v' := .bool false) rfl (vb_false hc1)
       replace hA := hA.rw 8 (v' := .bool false) rfl (vb_false hc1)
       refine st_run tbOk 1 hA (e' := (9, .pointer (some ⟨b, 0, none⟩)) :: _) rfl ?_; clear hA; intro a hA
       refine st_call0 hA rfl rfl rfl isfn12 rfl rfl (by decide) (holderO_T12 hS) ?_
       clear hA hS; rintro v w2 a ⟨rfl, hS⟩ hA
       refine st_run tbOk 3 hA (e' := (13, .bool (h != id)) :: (12, .bool (h != id)) :: (11, .int .i64 id) :: _) rfl ?_; clear hA; intro a hA
       refine wpList_nil ?_
       replace hA := hA.sel [0, 13] (e' := [(0, .pointer (some ⟨b, 0, none⟩)), (13, .bool (h != id))]) rfl
       refine xt_norm ?_
       have hc3 : ¬ (h = id) := h1
       replace hA := hA.rw 13 (v' := .bool true) rfl (vb_ne_t hc3)
       refine cd_cond_t hA rfl ?_
       refine wp_seq ?_
       refine wp_region_lit ?_
       refine st_run tbOk 3 hA (e' := (5, .iface 36 (.int .i64 15)) :: (4, .int .i64 (-1)) :: (14, .iface 36 (.int .i64 15)) :: _) rfl ?_; clear hA; intro a hA
       refine wpList_nil ?_
       replace hA := hA.sel [4, 5] (e' := [(4, .int .i64 (-1)), (5, .iface 36 (.int .i64 15))]) rfl
       refine xt_norm ?_
       refine wp_ret (xt_ret ?_)
       refine ret2 (fn := Tryd.f9) hA rfl rfl rfl ?_
       replace hS := hS.front 1 (C := C) (L' := [(b, rowO [.int .i64 h, .bool true, .slice A ws.length c] 27)] :: F) rfl rfl
       replace hS := hS.front 1 (C := [(b, rowO [.int .i64 h, .bool true, .slice A ws.length c] 27)]) (L' := C :: F) rfl rfl
       replace hS := hS.join
       exact ⟨_, ⟨_, _, hO, rfl⟩, rfl, hS⟩)

theorem unlock_last9 {w0 w : World} {F : List Chunk} {L : Chunk} {b : Nat} (hS : St w0 w (L :: F)) {h : Int} {ws : List Int} (hM : MT b h ws L) (id : Int) (h1 : 0 ≤ id) (h2 : h = id) (h3 : ws.length = 0) :
    Ret Tryd.prog 9 #[.pointer (some ⟨b, 0, none⟩), .int .i64 id] w (fun v w' => ∃ L', MF b L' ∧ v = .tuple #[.int .i64 (-1), .nilIface] ∧ St w0 w' (L' :: F)) := by
  obtain ⟨v, C, hO, rfl⟩ := hM
  obtain ⟨A, c, rfl, hmc, hcx⟩ := hO.open'
  replace hS : St w0 w ([(b, rowO [.int .i64 h, .bool true, .slice A ws.length c] 27)] :: C :: F) := hS.split
  refine enter (vs := [.pointer (some ⟨b, 0, none⟩), .int .i64 id]) 45 Tryd.func9 rfl rfl (by simp) ?_; intro a hA
  refine wp_seq ?_
  refine wp_region_lit ?_
  refine st_run tbOk 2 hA (e' := (5, .nilIface) :: (4, .int .i64 0) :: _) rfl ?_; clear hA; intro a hA
  refine wpList_nil ?_
  replace hA := hA.sel [0, 1] (e' := [(0, .pointer (some ⟨b, 0, none⟩)), (1, .int .i64 id)]) rfl
  refine xt_norm ?_
  refine wp_seq ?_
  refine wp_seq ?_
  refine wp_region_lit ?_
  refine st_run tbOk 3 hA (e' := (8, .bool (decide (id < 0))) :: (7, .bool (decide (id < 0))) :: (6, .int .i64 id) :: _) rfl ?_; clear hA; intro a hA
  have hc1 : ¬ (id < 0) := by omega
  replace hA := hA.rw 7 (v' := .bool false) rfl (vb_false hc1)
  replace hA := hA.rw 8 (v' := .bool false) rfl (vb_false hc1)
  refine st_run tbOk 1 hA (e' := (9, .pointer (some ⟨b, 0, none⟩)) :: _) rfl ?_; clear hA; intro a hA
  refine st_call0 hA rfl rfl rfl isfn12 rfl rfl (by decide) (holderO_T12 hS) ?_
  clear hA hS; rintro v w2 a ⟨rfl, hS⟩ hA
  refine st_run tbOk 3 hA (e' := (13, .bool (h != id)) :: (12, .bool (h != id)) :: (11, .int .i64 id) :: _) rfl ?_; clear hA; intro a hA
  refine wpList_nil ?_
  replace hA := hA.sel [0, 13] (e' := [(0, .pointer (some ⟨b, 0, none⟩)), (13, .bool (h != id))]) rfl
  refine xt_norm ?_
  have hc3 : h = id := by omega
  replace hA := hA.rw 13 (v' := .bool false) rfl (vb_ne_f hc3)
  refine cd_cond_f hA rfl ?_
  refine wp_skip ?_
  refine xt_norm ?_
  refine wp_seq ?_
  refine wp_seq ?_
  refine wp_region_lit ?_
  refine st_run tbOk 3 hA (e' := (17, .pointer (some ⟨b, 2, none⟩)) :: (16, .pointer (some ⟨b, 0, none⟩)) :: (15, .pointer (some ⟨b, 0, none⟩)) :: _) rfl ?_; clear hA; intro a hA
  refine st_val hA rfl rfl (by decide) (rn_load tbOk hA rfl rfl rfl rfl (cell_row (hS.heapAt 0 rfl) rfl)) ?_; clear hA; intro a hA
  refine st_run tbOk 2 hA (e' := (20, .bool (((ws.length : Nat) : Int) == 0)) :: (19, .int .i64 ((ws.length : Nat) : Int)) :: _) rfl ?_; clear hA; intro a hA
  refine wpList_nil ?_
  replace hA := hA.sel [0, 20] (e' := [(0, .pointer (some ⟨b, 0, none⟩)), (20, .bool (((ws.length : Nat) : Int) == 0))]) rfl
  refine xt_norm ?_
  have hc4 : ((ws.length : Nat) : Int) = 0 := by omega
  replace hA := hA.rw 20 (v' := .bool true) rfl (vb_eq_t hc4)
  refine cd_cond_t hA rfl ?_
  refine wp_seq ?_
  refine wp_region_lit ?_
  refine st_run tbOk 3 hA (e' := (23, .pointer (some ⟨b, 1, none⟩)) :: (22, .pointer (some ⟨b, 0, none⟩)) :: (21, .pointer (some ⟨b, 0, none⟩)) :: _) rfl ?_; clear hA; intro a hA
  refine st_store tbOk hA hS [.bool false] [.int .i64 h, .bool false, .slice A ws.length c] rfl rfl rfl rfl rfl rfl (by intro u hu; rw [List.mem_singleton.1 hu]; rfl) (Nat.le_of_ble_eq_true rfl) rfl rfl rfl ?_; clear hS; intro w5 hS
  refine wpList_nil ?_
  replace hA := hA.sel [] (e' := []) rfl
  refine xt_norm ?_
  refine wp_seq ?_
  refine wp_region_lit ?_
  refine st_run tbOk 2 hA (e' := (5, .nilIface) :: (4, .int .i64 (-1)) :: _) rfl ?_; clear hA; intro a hA
  refine wpList_nil ?_
  refine xt_norm ?_
  refine wp_ret (xt_ret ?_)
  refine ret2 (fn := Tryd.f9) hA rfl rfl rfl ?_
  replace hS := hS.front 1 (C := C) (L' := [(b, rowO [.int .i64 h, .bool false, .slice A ws.length c] 27)] :: F) rfl rfl
  replace hS := hS.front 1 (C := [(b, rowO [.int .i64 h, .bool false, .slice A ws.length c] 27)]) (L' := C :: F) rfl rfl
  replace hS := hS.join
  obtain rfl := List.eq_nil_of_length_eq_zero h3
  exact ⟨_, ⟨_, _, _, hO, rfl⟩, rfl, hS⟩

theorem unlock_next9 {w0 w : World} {F : List Chunk} {L : Chunk} {b : Nat} (hS : St w0 w (L :: F)) {h : Int} {ws : List Int} (hM : MT b h ws L) (id : Int) (h1 : 0 ≤ id) (h2 : h = id) {x : Int} {r : List Int} (h3 : ws = x :: r) :
    Ret Tryd.prog 9 #[.pointer (some ⟨b, 0, none⟩), .int .i64 id] w (fun v w' => ∃ L', MT b x r L' ∧ v = .tuple #[.int .i64 x, .nilIface] ∧ St w0 w' (L' :: F)) := by
  obtain ⟨v, C, hO, rfl⟩ := hM
  obtain ⟨A, c, rfl, hmc, hcx⟩ := hO.open'
  replace hS : St w0 w ([(b, rowO [.int .i64 h, .bool true, .slice A ws.length c] 27)] :: C :: F) := hS.split
  refine enter (vs := [.pointer (some ⟨b, 0, none⟩), .int .i64 id]) 45 Tryd.func9 rfl rfl (by simp) ?_; intro a hA
  have hlen : ws.length = r.length + 1 := by rw [h3]; rfl
  refine wp_seq ?_
  refine wp_region_lit ?_
  refine st_run tbOk 2 hA (e' := (5, .nilIface) :: (4, .int .i64 0) :: _) rfl ?_; clear hA; intro a hA
  refine wpList_nil ?_
  replace hA := hA.sel [0, 1] (e' := [(0, .pointer (some ⟨b, 0, none⟩)), (1, .int .i64 id)]) rfl
  refine xt_norm ?_
  refine wp_seq ?_
  refine wp_seq ?_
  refine wp_region_lit ?_
  refine st_run tbOk 3 hA (e' := (8, .bool (decide (id < 0))) :: (7, .bool (decide (id < 0))) :: (6, .int .i64 id) :: _) rfl ?_; clear hA; intro a hA
  have hc1 : ¬ (id < 0) := by omega
  replace hA := hA.rw 7 (v' := .bool false) rfl (vb_false hc1)
  replace hA := hA.rw 8 (v' := .bool false) rfl (vb_false hc1)
  refine st_run tbOk 1 hA (e' := (9, .pointer (some ⟨b, 0, none⟩)) :: _) rfl ?_; clear hA; intro a hA
  refine st_call0 hA rfl rfl rfl isfn12 rfl rfl (by decide) (holderO_T12 hS) ?_
  clear hA hS; rintro v w2 a ⟨rfl, hS⟩ hA
  refine st_run tbOk 3 hA (e' := (13, .bool (h != id)) :: (12, .bool (h != id)) :: (11, .int .i64 id) :: _) rfl ?_; clear hA; intro a hA
  refine wpList_nil ?_
  replace hA := hA.sel [0, 13] (e' := [(0, .pointer (some ⟨b, 0, none⟩)), (13, .bool (h != id))]) rfl
  refine xt_norm ?_
  have hc3 : h = id := by omega
  replace hA := hA.rw 13 (v' := .bool false) rfl (vb_ne_f hc3)
  refine cd_cond_f hA rfl ?_
  refine wp_skip ?_
  refine xt_norm ?_
  refine wp_seq ?_
  refine wp_seq ?_
  refine wp_region_lit ?_
  refine st_run tbOk 3 hA (e' := (17, .pointer (some ⟨b, 2, none⟩)) :: (16, .pointer (some ⟨b, 0, none⟩)) :: (15, .pointer (some ⟨b, 0, none⟩)) :: _) rfl ?_; clear hA; intro a hA
  refine st_val hA rfl rfl (by decide) (rn_load tbOk hA rfl rfl rfl rfl (cell_row (hS.heapAt 0 rfl) rfl)) ?_; clear hA; intro a hA
  refine st_run tbOk 2 hA (e' := (20, .bool (((ws.length : Nat) : Int) == 0)) :: (19, .int .i64 ((ws.length : Nat) : Int)) :: _) rfl ?_; clear hA; intro a hA
  refine wpList_nil ?_
  replace hA := hA.sel [0, 20] (e' := [(0, .pointer (some ⟨b, 0, none⟩)), (20, .bool (((ws.length : Nat) : Int) == 0))]) rfl
  refine xt_norm ?_
  have hc4 : ¬ (((ws.length : Nat) : Int) = 0) := by omega
  replace hA := hA.rw 20 (v' := .bool false) rfl (vb_eq_f hc4)
  refine cd_cond_f hA rfl ?_
  refine wp_skip ?_
  refine xt_norm ?_
  refine wp_seq ?_
  refine wp_region_lit ?_
  refine st_run tbOk 4 hA (e' := (27, .pointer (some ⟨b, 2, none⟩)) :: (26, .pointer (some ⟨b, 0, none⟩)) :: (25, .pointer (some ⟨b, 0, none⟩)) :: (24, .pointer (some ⟨b, 0, none⟩)) :: _) rfl ?_; clear hA; intro a hA
  refine st_val hA rfl rfl (by decide) (rn_load tbOk hA rfl rfl rfl rfl (cell_row (hS.heapAt 0 rfl) rfl)) ?_; clear hA; intro a hA
  obtain ⟨b5, o6, rfl⟩ := hO.isSome (k := 0) (by omega)
  refine st_val hA rfl rfl (by decide) (rn_indexAddr tbOk hA 0 o6 rfl rfl rfl rfl rfl rfl (by rfl) (by omega) (by first | rfl | simp [Nat.mul_one, Nat.zero_add] | omega)) ?_; clear hA; intro a hA
  refine st_val hA rfl rfl (by decide) (rn_load tbOk hA rfl rfl rfl rfl ((hO.rd (hS.own_ 1 rfl)).elem0 (k := 0) encI_ok (by rw [h3]; rfl) rfl)) ?_; clear hA; intro a hA
  refine st_run tbOk 2 hA (e' := (32, .pointer (some ⟨b, 0, none⟩)) :: (31, .pointer (some ⟨b, 0, none⟩)) :: _) rfl ?_; clear hA; intro a hA
  refine st_store tbOk hA hS [.int .i64 x] [.int .i64 x, .bool true, .slice (some ⟨b5, o6, none⟩) ws.length c] rfl rfl rfl rfl rfl rfl (by intro u hu; rw [List.mem_singleton.1 hu]; rfl) (Nat.le_of_ble_eq_true rfl) rfl rfl rfl ?_; clear hS; intro w7 hS
  refine wpList_nil ?_
  replace hA := hA.sel [0] (e' := [(0, .pointer (some ⟨b, 0, none⟩))]) rfl
  refine xt_norm ?_
  refine wp_seq ?_
  refine wp_region_lit ?_
  refine st_run tbOk 4 hA (e' := (36, .pointer (some ⟨b, 2, none⟩)) :: (35, .pointer (some ⟨b, 0, none⟩)) :: (34, .pointer (some ⟨b, 0, none⟩)) :: (33, .pointer (some ⟨b, 0, none⟩)) :: _) rfl ?_; clear hA; intro a hA
  refine st_val hA rfl rfl (by decide) (rn_load tbOk hA rfl rfl rfl rfl (cell_row (hS.heapAt 0 rfl) rfl)) ?_; clear hA; intro a hA
  replace hS := hS.front 1 (C := C) (L' := [(b, rowO [.int .i64 x, .bool true, .slice (some ⟨b5, o6, none⟩) ws.length c] 27)] :: F) rfl rfl
  refine st_call0 hA rfl rfl rfl isfn17 rfl rfl (by decide) (delete17 hS hO 0 1 (by omega) (by omega)) ?_
  clear hA hS; rintro v8 w9 a ⟨C10, hO10, hS⟩ hA
  obtain ⟨A11, c12, rfl, hmc12, hxc12⟩ := hO10.open'
  refine st_run tbOk 2 hA (e' := (40, .pointer (some ⟨b, 2, none⟩)) :: (39, .pointer (some ⟨b, 0, none⟩)) :: _) rfl ?_; clear hA; intro a hA
  replace hS := hS.front 1 (C := [(b, rowO [.int .i64 x, .bool true, .slice (some ⟨b5, o6, none⟩) ws.length c] 27)]) (L' := C10 :: F) rfl rfl
  refine st_store tbOk hA hS [.slice A11 ((ws.take 0 ++ ws.drop 1).length) c12] [.int .i64 x, .bool true, .slice A11 ((ws.take 0 ++ ws.drop 1).length) c12] rfl rfl rfl rfl rfl rfl (by intro u hu; rw [List.mem_singleton.1 hu]; rfl) (Nat.le_of_ble_eq_true rfl) rfl rfl rfl ?_; clear hS; intro w13 hS
  refine wpList_nil ?_
  replace hA := hA.sel [0] (e' := [(0, .pointer (some ⟨b, 0, none⟩))]) rfl
  refine xt_norm ?_
  refine wp_seq ?_
  refine wp_region_lit ?_
  refine st_run tbOk 3 hA (e' := (43, .pointer (some ⟨b, 0, none⟩)) :: (42, .pointer (some ⟨b, 0, none⟩)) :: (41, .pointer (some ⟨b, 0, none⟩)) :: _) rfl ?_; clear hA; intro a hA
  refine st_val hA rfl rfl (by decide) (rn_load tbOk hA rfl rfl rfl rfl (cell_row (hS.heapAt 0 rfl) rfl)) ?_; clear hA; intro a hA
  refine st_run tbOk 2 hA (e' := (5, .nilIface) :: (4, .int .i64 x) :: _) rfl ?_; clear hA; intro a hA
  refine wpList_nil ?_
  replace hA := hA.sel [4, 5] (e' := [(4, .int .i64 x), (5, .nilIface)]) rfl
  refine xt_norm ?_
  refine wp_ret ?_
  refine ret2 (fn := Tryd.f9) hA rfl rfl rfl ?_
  replace hS := hS.front 1 (C := C10) (L' := [(b, rowO [.int .i64 x, .bool true, .slice A11 ((ws.take 0 ++ ws.drop 1).length) c12] 27)] :: F) rfl rfl
  replace hS := hS.front 1 (C := [(b, rowO [.int .i64 x, .bool true, .slice A11 ((ws.take 0 ++ ws.drop 1).length) c12] 27)]) (L' := C10 :: F) rfl rfl
  replace hS := hS.join
  have e1 : ws.take 0 ++ ws.drop 1 = r := by rw [h3]; rfl
  rw [e1] at hO10
  have e2 : (ws.take 0 ++ ws.drop 1).length = r.length := by rw [e1]
  rw [e1] at hS
  exact ⟨_, ⟨_, _, hO10, rfl⟩, rfl, hS⟩

theorem leavec19 {w0 w : World} {F : List Chunk} (hS : St w0 w F) {b : Nat} {id : Int} (hc : ∀ w', St w0 w' F → w'.cell? ⟨b, 0, none⟩ = some (.int .i64 id)) (x : Int) :
    Ret Tryd.prog 19 #[.int .i64 x, .pointer (some ⟨b, 0, none⟩)] w (fun v w' => v = .bool (x == id) ∧ St w0 w' F) := by
  refine enter (vs := [.int .i64 x, .pointer (some ⟨b, 0, none⟩)]) 7 Tryd.func19 rfl rfl (by simp) ?_; intro a hA
  refine wp_seq ?_
  refine wp_region_lit ?_
  refine st_run tbOk 1 hA (e' := (3, .bool false) :: _) rfl ?_; clear hA; intro a hA
  refine wpList_nil ?_
  replace hA := hA.sel [0, 1] (e' := [(0, .int .i64 x), (1, .pointer (some ⟨b, 0, none⟩))]) rfl
  refine xt_norm ?_
  refine wp_seq ?_
  refine wp_region_lit ?_
  refine st_run tbOk 1 hA (e' := (4, .int .i64 x) :: _) rfl ?_; clear hA; intro a hA
  refine st_val hA rfl rfl (by decide) (rn_load tbOk hA rfl rfl rfl rfl (hc _ hS)) ?_; clear hA; intro a hA
  refine st_run tbOk 2 hA (e' := (3, .bool (x == id)) :: (6, .bool (x == id)) :: _) rfl ?_; clear hA; intro a hA
  refine wpList_nil ?_
  replace hA := hA.sel [3] (e' := [(3, .bool (x == id))]) rfl
  refine xt_norm ?_
  refine wp_ret ?_
  refine ret1 (fn := Tryd.f19) hA rfl rfl ?_
  exact ⟨rfl, hS⟩
theorem leavepred {w0 : World} {F : List Chunk} {b : Nat} {id : Int} (hc : ∀ w, St w0 w F → w.cell? ⟨b, 0, none⟩ = some (.int .i64 id)) : Pred Tryd.prog w0 F 19 #[] #[.pointer (some ⟨b, 0, none⟩)] (fun x => .int .i64 x) (fun x => x == id) := by
  intro w x hS
  exact leavec19 (St.refl w) (fun w' h => h.old (hc w hS)) x

theorem leave_F11 {w0 w : World} {F : List Chunk} {L : Chunk} {b : Nat} (hS : St w0 w (L :: F)) (hM : MF b L) (id : Int) :
    Ret Tryd.prog 11 #[.pointer (some ⟨b, 0, none⟩), .int .i64 id] w (fun v w' => ∃ L', MF b L' ∧ v = .int .i64 (-1) ∧ St w0 w' (L' :: F)) := by
  obtain ⟨h, v, C, hO, rfl⟩ := hM
  obtain ⟨A, c, rfl, hmc, hcx⟩ := hO.open'
  replace hS : St w0 w ([(b, rowO [.int .i64 h, .bool false, .slice A 0 c] 27)] :: C :: F) := hS.split
  refine enter (vs := [.pointer (some ⟨b, 0, none⟩), .int .i64 id]) 29 Tryd.func11 rfl rfl (by simp) ?_; intro a hA
  refine wp_seq ?_
  refine wp_region_lit ?_
  refine st_box hA hS [.int .i64 id] rfl rfl rfl rfl rfl (by decide) ?_; clear hA hS; intro b1 w2 a hS hA
  refine st_run tbOk 1 hA (e' := (4, .int .i64 0) :: _) rfl ?_; clear hA; intro a hA
  refine wpList_nil ?_
  replace hA := hA.sel [0, 3] (e' := [(0, .pointer (some ⟨b, 0, none⟩)), (3, .pointer (some ⟨b1, 0, none⟩))]) rfl
  refine xt_norm ?_
  refine wp_seq ?_
  refine wp_region_lit ?_
  refine st_run tbOk 4 hA (e' := (10, .pointer (some ⟨b, 2, none⟩)) :: (9, .pointer (some ⟨b, 0, none⟩)) :: (8, .pointer (some ⟨b, 0, none⟩)) :: (7, .pointer (some ⟨b, 0, none⟩)) :: _) rfl ?_; clear hA; intro a hA
  refine st_val hA rfl rfl (by decide) (rn_load tbOk hA rfl rfl rfl rfl (cell_row (hS.heapAt 1 rfl) rfl)) ?_; clear hA; intro a hA
  refine st_run tbOk 1 hA (e' := (12, .func (.func 19) #[] #[.pointer (some ⟨b1, 0, none⟩)]) :: _) rfl ?_; clear hA; intro a hA
  replace hS := hS.front 2 (C := C) (L' := [(b1, rowO [.int .i64 id] 3)] :: [(b, rowO [.int .i64 h, .bool false, .slice A 0 c] 27)] :: F) rfl rfl
  refine st_call0 hA rfl rfl rfl isfn18 rfl rfl (by decide) (deleteFunc18 hS (l := ([] : List Int)) hO isfn19 (leavepred (b := b1) (fun w' h => cell_row (h.heapAt 0 rfl) rfl))) ?_
  clear hA hS; rintro v3 w4 a ⟨C5, hO5, hS⟩ hA
  obtain ⟨A6, c7, rfl, hmc7, hxc7⟩ := hO5.open'
  refine st_run tbOk 2 hA (e' := (15, .pointer (some ⟨b, 2, none⟩)) :: (14, .pointer (some ⟨b, 0, none⟩)) :: _) rfl ?_; clear hA; intro a hA
  replace hS := hS.front 2 (C := [(b, rowO [.int .i64 h, .bool false, .slice A 0 c] 27)]) (L' := C5 :: [(b1, rowO [.int .i64 id] 3)] :: F) rfl rfl
  refine st_store tbOk hA hS [.slice A6 ((([] : List Int).filter (fun x => !(x == id))).length) c7] [.int .i64 h, .bool false, .slice A6 ((([] : List Int).filter (fun x => !(x == id))).length) c7] rfl rfl rfl rfl rfl rfl (by intro u hu; rw [List.mem_singleton.1 hu]; rfl) (Nat.le_of_ble_eq_true rfl) rfl rfl rfl ?_; clear hS; intro w8 hS
  refine wpList_nil ?_
  replace hA := hA.sel [0, 3] (e' := [(0, .pointer (some ⟨b, 0, none⟩)), (3, .pointer (some ⟨b1, 0, none⟩))]) rfl
  refine xt_norm ?_
  refine wp_seq ?_
  refine wp_seq ?_
  refine wp_draw (fun w' => St w0 w' ([(b, rowO [.int .i64 h, .bool false, .slice A6 ((([] : List Int).filter (fun x => !(x == id))).length) c7] 27)] :: C5 :: [(b1, rowO [.int .i64 id] 3)] :: F)) [] [(0, true), (2, true), (1, false), (3, true)] mixed (by kernel_rfl) (by rintro c a w ⟨_, _, h, _⟩; cases h) (by rfl) (by kernel_rfl) ?_
  replace hS := hS.drew
  refine dr_run tbOk 1 hA hS (e' := (16, .pointer (some ⟨b, 0, none⟩)) :: _) rfl ?_; clear hA; intro a hA
  refine dr_y hA rfl rfl rfl (by decide) hS (fun w' hS' => rn_load tbOk hA rfl rfl rfl rfl (cell_row (hS'.heapAt 2 rfl) rfl)) ?_; clear hA; intro a hA
  refine dr_b (o := _) rfl ?_
  refine st_call0 hA rfl rfl rfl isfn12 rfl rfl (by decide) (holderO_F12 hS) ?_
  clear hA hS; rintro v w9 a ⟨rfl, hS⟩ hA
  refine dr_nil (.inr hS) ?_
  refine dr_run tbOk 1 hA hS (e' := (19, .bool ((-1) != id)) :: _) rfl ?_; clear hA; intro a hA
  refine dr_end ?_
  replace hA := hA.sel [0, 3, 19] (e' := [(0, .pointer (some ⟨b, 0, none⟩)), (3, .pointer (some ⟨b1, 0, none⟩)), (19, .bool ((-1) != id))]) rfl
  refine xt_norm ?_
  by_cases hc10 : (-1) = id
  · first
    | (exfalso; omega)
    | (replace hA := hA.rw 19 (v' := .bool false) rfl (vb_ne_f hc10)
       refine cd_cond_f hA rfl ?_
       refine wp_skip ?_
       refine xt_norm ?_
       refine wp_seq ?_
       refine wp_region_lit ?_
       refine st_run tbOk 1 hA (e' := (21, .pointer (some ⟨b, 0, none⟩)) :: _) rfl ?_; clear hA; intro a hA
       refine st_val hA rfl rfl (by decide) (rn_load tbOk hA rfl rfl rfl rfl (cell_row (hS.heapAt 2 rfl) rfl)) ?_; clear hA; intro a hA
       replace hS := hS.front 1 (C := C5) (L' := [(b, rowO [.int .i64 h, .bool false, .slice A6 ((([] : List Int).filter (fun x => !(x == id))).length) c7] 27)] :: [(b1, rowO [.int .i64 id] 3)] :: F) rfl rfl
       replace hS := hS.front 1 (C := [(b, rowO [.int .i64 h, .bool false, .slice A6 ((([] : List Int).filter (fun x => !(x == id))).length) c7] 27)]) (L' := C5 :: [(b1, rowO [.int .i64 id] 3)] :: F) rfl rfl
       replace hS := hS.join
       refine st_call0 hA rfl rfl rfl isfn9 rfl rfl (by decide) (unlock_free9 hS (⟨_, _, _, hO5, rfl⟩ : MF b _) id) ?_
       clear hA hS; rintro v w12 a ⟨L11, hM2, rfl, hS⟩ hA
       refine st_run tbOk 5 hA (e' := (6, .iface 36 (.int .i64 15)) :: (5, .int .i64 (-1)) :: (25, .iface 36 (.int .i64 15)) :: (24, .int .i64 (-1)) :: (20, .tuple #[.int .i64 (-1), .iface 36 (.int .i64 15)]) :: _) rfl ?_; clear hA; intro a hA
       refine wpList_nil ?_
       replace hA := hA.sel [5, 6] (e' := [(5, .int .i64 (-1)), (6, .iface 36 (.int .i64 15))]) rfl
       refine xt_norm ?_
       refine wp_seq ?_
       refine wp_seq ?_
       refine wp_region_lit ?_
       refine st_run tbOk 2 hA (e' := (27, .bool true) :: (26, .iface 36 (.int .i64 15)) :: _) rfl ?_; clear hA; intro a hA
       refine wpList_nil ?_
       replace hA := hA.sel [5, 27] (e' := [(5, .int .i64 (-1)), (27, .bool true)]) rfl
       refine xt_norm ?_
       refine cd_cond_t hA rfl ?_
       refine wp_seq ?_
       refine wp_region_lit ?_
       refine st_run tbOk 1 hA (e' := (4, .int .i64 (-1)) :: _) rfl ?_; clear hA; intro a hA
       refine wpList_nil ?_
       replace hA := hA.sel [4] (e' := [(4, .int .i64 (-1))]) rfl
       refine xt_norm ?_
       refine wp_ret (xt_ret ?_)
       refine ret1 (fn := Tryd.f11) hA rfl rfl ?_
       replace hS := hS.drop2
       exact ⟨_, hM2, rfl, hS⟩)
  · first
    | (exfalso; omega)
    | (replace hA := hA.rw 19 (v' := .bool true) rfl (vb_ne_t hc10)
       refine cd_cond_t hA rfl ?_
       refine wp_seq ?_
       refine wp_region_lit ?_
       refine st_run tbOk 1 hA (e' := (4, .int .i64 (-1)) :: _) rfl ?_; clear hA; intro a hA
       refine wpList_nil ?_
       replace hA := hA.sel [4] (e' := [(4, .int .i64 (-1))]) rfl
       refine xt_norm ?_
       refine wp_ret (xt_ret ?_)
       refine ret1 (fn := Tryd.f11) hA rfl rfl ?_
       replace hS := hS.front 1 (C := C5) (L' := [(b, rowO [.int .i64 h, .bool false, .slice A6 ((([] : List Int).filter (fun x => !(x == id))).length) c7] 27)] :: [(b1, rowO [.int .i64 id] 3)] :: F) rfl rfl
       replace hS := hS.front 1 (C := [(b, rowO [.int .i64 h, .bool false, .slice A6 ((([] : List Int).filter (fun x => !(x == id))).length) c7] 27)]) (L' := C5 :: [(b1, rowO [.int .i64 id] 3)] :: F) rfl rfl
       replace hS := (hS.front 2 rfl rfl).drop1
       replace hS := hS.join
       exact ⟨_, ⟨_, _, _, hO5, rfl⟩, rfl, hS⟩)

theorem leave_not11 {w0 w : World} {F : List Chunk} {L : Chunk} {b : Nat} (hS : St w0 w (L :: F)) {h : Int} {ws : List Int} (hM : MT b h ws L) (id : Int) (h2 : ¬ h = id) :
    Ret Tryd.prog 11 #[.pointer (some ⟨b, 0, none⟩), .int .i64 id] w (fun v w' => ∃ L', MT b h (ws.filter (fun x => !(x == id))) L' ∧ v = .int .i64 (-1) ∧ St w0 w' (L' :: F)) := by
  obtain ⟨v, C, hO, rfl⟩ := hM
  obtain ⟨A, c, rfl, hmc, hcx⟩ := hO.open'
  replace hS : St w0 w ([(b, rowO [.int .i64 h, .bool true, .slice A ws.length c] 27)] :: C :: F) := hS.split
  refine enter (vs := [.pointer (some ⟨b, 0, none⟩), .int .i64 id]) 29 Tryd.func11 rfl rfl (by simp) ?_; intro a hA
  refine wp_seq ?_
  refine wp_region_lit ?_
  refine st_box hA hS [.int .i64 id] rfl rfl rfl rfl rfl (by decide) ?_; clear hA hS; intro b1 w2 a hS hA
  refine st_run tbOk 1 hA (e' := (4, .int .i64 0) :: _) rfl ?_; clear hA; intro a hA
  refine wpList_nil ?_
  replace hA := hA.sel [0, 3] (e' := [(0, .pointer (some ⟨b, 0, none⟩)), (3, .pointer (some ⟨b1, 0, none⟩))]) rfl
  refine xt_norm ?_
  refine wp_seq ?_
  refine wp_region_lit ?_
  refine st_run tbOk 4 hA (e' := (10, .pointer (some ⟨b, 2, none⟩)) :: (9, .pointer (some ⟨b, 0, none⟩)) :: (8, .pointer (some ⟨b, 0, none⟩)) :: (7, .pointer (some ⟨b, 0, none⟩)) :: _) rfl ?_; clear hA; intro a hA
  refine st_val hA rfl rfl (by decide) (rn_load tbOk hA rfl rfl rfl rfl (cell_row (hS.heapAt 1 rfl) rfl)) ?_; clear hA; intro a hA
  refine st_run tbOk 1 hA (e' := (12, .func (.func 19) #[] #[.pointer (some ⟨b1, 0, none⟩)]) :: _) rfl ?_; clear hA; intro a hA
  replace hS := hS.front 2 (C := C) (L' := [(b1, rowO [.int .i64 id] 3)] :: [(b, rowO [.int .i64 h, .bool true, .slice A ws.length c] 27)] :: F) rfl rfl
  refine st_call0 hA rfl rfl rfl isfn18 rfl rfl (by decide) (deleteFunc18 hS (l := ws) hO isfn19 (leavepred (b := b1) (fun w' h => cell_row (h.heapAt 0 rfl) rfl))) ?_
  clear hA hS; rintro v3 w4 a ⟨C5, hO5, hS⟩ hA
  obtain ⟨A6, c7, rfl, hmc7, hxc7⟩ := hO5.open'
  refine st_run tbOk 2 hA (e' := (15, .pointer (some ⟨b, 2, none⟩)) :: (14, .pointer (some ⟨b, 0, none⟩)) :: _) rfl ?_; clear hA; intro a hA
  replace hS := hS.front 2 (C := [(b, rowO [.int .i64 h, .bool true, .slice A ws.length c] 27)]) (L' := C5 :: [(b1, rowO [.int .i64 id] 3)] :: F) rfl rfl
  refine st_store tbOk hA hS [.slice A6 ((ws.filter (fun x => !(x == id))).length) c7] [.int .i64 h, .bool true, .slice A6 ((ws.filter (fun x => !(x == id))).length) c7] rfl rfl rfl rfl rfl rfl (by intro u hu; rw [List.mem_singleton.1 hu]; rfl) (Nat.le_of_ble_eq_true rfl) rfl rfl rfl ?_; clear hS; intro w8 hS
  refine wpList_nil ?_
  replace hA := hA.sel [0, 3] (e' := [(0, .pointer (some ⟨b, 0, none⟩)), (3, .pointer (some ⟨b1, 0, none⟩))]) rfl
  refine xt_norm ?_
  refine wp_seq ?_
  refine wp_seq ?_
  refine wp_draw (fun w' => St w0 w' ([(b, rowO [.int .i64 h, .bool true, .slice A6 ((ws.filter (fun x => !(x == id))).length) c7] 27)] :: C5 :: [(b1, rowO [.int .i64 id] 3)] :: F)) [] [(0, true), (2, true), (1, false), (3, true)] mixed (by kernel_rfl) (by rintro c a w ⟨_, _, h, _⟩; cases h) (by rfl) (by kernel_rfl) ?_
  replace hS := hS.drew
  refine dr_run tbOk 1 hA hS (e' := (16, .pointer (some ⟨b, 0, none⟩)) :: _) rfl ?_; clear hA; intro a hA
  refine dr_y hA rfl rfl rfl (by decide) hS (fun w' hS' => rn_load tbOk hA rfl rfl rfl rfl (cell_row (hS'.heapAt 2 rfl) rfl)) ?_; clear hA; intro a hA
  refine dr_b (o := _) rfl ?_
  refine st_call0 hA rfl rfl rfl isfn12 rfl rfl (by decide) (holderO_T12 hS) ?_
  clear hA hS; rintro v w9 a ⟨rfl, hS⟩ hA
  refine dr_nil (.inr hS) ?_
  refine dr_run tbOk 1 hA hS (e' := (19, .bool (h != id)) :: _) rfl ?_; clear hA; intro a hA
  refine dr_end ?_
  replace hA := hA.sel [0, 3, 19] (e' := [(0, .pointer (some ⟨b, 0, none⟩)), (3, .pointer (some ⟨b1, 0, none⟩)), (19, .bool (h != id))]) rfl
  refine xt_norm ?_
  have hc10 : ¬ (h = id) := h2
  replace hA := hA.rw 19 (v' := .bool true) rfl (vb_ne_t hc10)
  refine cd_cond_t hA rfl ?_
  refine wp_seq ?_
  refine wp_region_lit ?_
  refine st_run tbOk 1 hA (e' := (4, .int .i64 (-1)) :: _) rfl ?_; clear hA; intro a hA
  refine wpList_nil ?_
  replace hA := hA.sel [4] (e' := [(4, .int .i64 (-1))]) rfl
  refine xt_norm ?_
  refine wp_ret (xt_ret ?_)
  refine ret1 (fn := Tryd.f11) hA rfl rfl ?_
  replace hS := hS.front 1 (C := C5) (L' := [(b, rowO [.int .i64 h, .bool true, .slice A6 ((ws.filter (fun x => !(x == id))).length) c7] 27)] :: [(b1, rowO [.int .i64 id] 3)] :: F) rfl rfl
  replace hS := hS.front 1 (C := [(b, rowO [.int .i64 h, .bool true, .slice A6 ((ws.filter (fun x => !(x == id))).length) c7] 27)]) (L' := C5 :: [(b1, rowO [.int .i64 id] 3)] :: F) rfl rfl
  replace hS := (hS.front 2 rfl rfl).drop1
  replace hS := hS.join
  exact ⟨_, ⟨_, _, hO5, rfl⟩, rfl, hS⟩

theorem leave_last11 {w0 w : World} {F : List Chunk} {L : Chunk} {b : Nat} (hS : St w0 w (L :: F)) {h : Int} {ws : List Int} (hM : MT b h ws L) (id : Int) (h1 : 0 ≤ id) (h2 : h = id) (h3 : (ws.filter (fun x => !(x == id))).length = 0) :
    Ret Tryd.prog 11 #[.pointer (some ⟨b, 0, none⟩), .int .i64 id] w (fun v w' => ∃ L', MF b L' ∧ v = .int .i64 (-1) ∧ St w0 w' (L' :: F)) := by
  obtain ⟨v, C, hO, rfl⟩ := hM
  obtain ⟨A, c, rfl, hmc, hcx⟩ := hO.open'
  replace hS : St w0 w ([(b, rowO [.int .i64 h, .bool true, .slice A ws.length c] 27)] :: C :: F) := hS.split
  refine enter (vs := [.pointer (some ⟨b, 0, none⟩), .int .i64 id]) 29 Tryd.func11 rfl rfl (by simp) ?_; intro a hA
  refine wp_seq ?_
  refine wp_region_lit ?_
  refine st_box hA hS [.int .i64 id] rfl rfl rfl rfl rfl (by decide) ?_; clear hA hS; intro b1 w2 a hS hA
  refine st_run tbOk 1 hA (e' := (4, .int .i64 0) :: _) rfl ?_; clear hA; intro a hA
  refine wpList_nil ?_
  replace hA := hA.sel [0, 3] (e' := [(0, .pointer (some ⟨b, 0, none⟩)), (3, .pointer (some ⟨b1, 0, none⟩))]) rfl
  refine xt_norm ?_
  refine wp_seq ?_
  refine wp_region_lit ?_
  refine st_run tbOk 4 hA (e' := (10, .pointer (some ⟨b, 2, none⟩)) :: (9, .pointer (some ⟨b, 0, none⟩)) :: (8, .pointer (some ⟨b, 0, none⟩)) :: (7, .pointer (some ⟨b, 0, none⟩)) :: _) rfl ?_; clear hA; intro a hA
  refine st_val hA rfl rfl (by decide) (rn_load tbOk hA rfl rfl rfl rfl (cell_row (hS.heapAt 1 rfl) rfl)) ?_; clear hA; intro a hA
  refine st_run tbOk 1 hA (e' := (12, .func (.func 19) #[] #[.pointer (some ⟨b1, 0, none⟩)]) :: _) rfl ?_; clear hA; intro a hA
  replace hS := hS.front 2 (C := C) (L' := [(b1, rowO [.int .i64 id] 3)] :: [(b, rowO [.int .i64 h, .bool true, .slice A ws.length c] 27)] :: F) rfl rfl
  refine st_call0 hA rfl rfl rfl isfn18 rfl rfl (by decide) (deleteFunc18 hS (l := ws) hO isfn19 (leavepred (b := b1) (fun w' h => cell_row (h.heapAt 0 rfl) rfl))) ?_
  clear hA hS; rintro v3 w4 a ⟨C5, hO5, hS⟩ hA
  obtain ⟨A6, c7, rfl, hmc7, hxc7⟩ := hO5.open'
  refine st_run tbOk 2 hA (e' := (15, .pointer (some ⟨b, 2, none⟩)) :: (14, .pointer (some ⟨b, 0, none⟩)) :: _) rfl ?_; clear hA; intro a hA
  replace hS := hS.front 2 (C := [(b, rowO [.int .i64 h, .bool true, .slice A ws.length c] 27)]) (L' := C5 :: [(b1, rowO [.int .i64 id] 3)] :: F) rfl rfl
  refine st_store tbOk hA hS [.slice A6 ((ws.filter (fun x => !(x == id))).length) c7] [.int .i64 h, .bool true, .slice A6 ((ws.filter (fun x => !(x == id))).length) c7] rfl rfl rfl rfl rfl rfl (by intro u hu; rw [List.mem_singleton.1 hu]; rfl) (Nat.le_of_ble_eq_true rfl) rfl rfl rfl ?_; clear hS; intro w8 hS
  refine wpList_nil ?_
  replace hA := hA.sel [0, 3] (e' := [(0, .pointer (some ⟨b, 0, none⟩)), (3, .pointer (some ⟨b1, 0, none⟩))]) rfl
  refine xt_norm ?_
  refine wp_seq ?_
  refine wp_seq ?_
  refine wp_draw (fun w' => St w0 w' ([(b, rowO [.int .i64 h, .bool true, .slice A6 ((ws.filter (fun x => !(x == id))).length) c7] 27)] :: C5 :: [(b1, rowO [.int .i64 id] 3)] :: F)) [] [(0, true), (2, true), (1, false), (3, true)] mixed (by kernel_rfl) (by rintro c a w ⟨_, _, h, _⟩; cases h) (by rfl) (by kernel_rfl) ?_
  replace hS := hS.drew
  refine dr_run tbOk 1 hA hS (e' := (16, .pointer (some ⟨b, 0, none⟩)) :: _) rfl ?_; clear hA; intro a hA
  refine dr_y hA rfl rfl rfl (by decide) hS (fun w' hS' => rn_load tbOk hA rfl rfl rfl rfl (cell_row (hS'.heapAt 2 rfl) rfl)) ?_; clear hA; intro a hA
  refine dr_b (o := _) rfl ?_
  refine st_call0 hA rfl rfl rfl isfn12 rfl rfl (by decide) (holderO_T12 hS) ?_
  clear hA hS; rintro v w9 a ⟨rfl, hS⟩ hA
  refine dr_nil (.inr hS) ?_
  refine dr_run tbOk 1 hA hS (e' := (19, .bool (h != id)) :: _) rfl ?_; clear hA; intro a hA
  refine dr_end ?_
  replace hA := hA.sel [0, 3, 19] (e' := [(0, .pointer (some ⟨b, 0, none⟩)), (3, .pointer (some ⟨b1, 0, none⟩)), (19, .bool (h != id))]) rfl
  refine xt_norm ?_
  have hc10 : h = id := h2
  replace hA := hA.rw 19 (v' := .bool false) rfl (vb_ne_f hc10)
  refine cd_cond_f hA rfl ?_
  refine wp_skip ?_
  refine xt_norm ?_
  refine wp_seq ?_
  refine wp_region_lit ?_
  refine st_run tbOk 1 hA (e' := (21, .pointer (some ⟨b, 0, none⟩)) :: _) rfl ?_; clear hA; intro a hA
  refine st_val hA rfl rfl (by decide) (rn_load tbOk hA rfl rfl rfl rfl (cell_row (hS.heapAt 2 rfl) rfl)) ?_; clear hA; intro a hA
  replace hS := hS.front 1 (C := C5) (L' := [(b, rowO [.int .i64 h, .bool true, .slice A6 ((ws.filter (fun x => !(x == id))).length) c7] 27)] :: [(b1, rowO [.int .i64 id] 3)] :: F) rfl rfl
  replace hS := hS.front 1 (C := [(b, rowO [.int .i64 h, .bool true, .slice A6 ((ws.filter (fun x => !(x == id))).length) c7] 27)]) (L' := C5 :: [(b1, rowO [.int .i64 id] 3)] :: F) rfl rfl
  replace hS := hS.join
  refine st_call0 hA rfl rfl rfl isfn9 rfl rfl (by decide) (unlock_last9 hS (⟨_, _, hO5, rfl⟩ : MT b _ _ _) id h1 h2 h3) ?_
  clear hA hS; rintro v w12 a ⟨L11, hM2, rfl, hS⟩ hA
  refine st_run tbOk 5 hA (e' := (6, .nilIface) :: (5, .int .i64 (-1)) :: (25, .nilIface) :: (24, .int .i64 (-1)) :: (20, .tuple #[.int .i64 (-1), .nilIface]) :: _) rfl ?_; clear hA; intro a hA
  refine wpList_nil ?_
  replace hA := hA.sel [5, 6] (e' := [(5, .int .i64 (-1)), (6, .nilIface)]) rfl
  refine xt_norm ?_
  refine wp_seq ?_
  refine wp_seq ?_
  refine wp_region_lit ?_
  refine st_run tbOk 2 hA (e' := (27, .bool false) :: (26, .nilIface) :: _) rfl ?_; clear hA; intro a hA
  refine wpList_nil ?_
  replace hA := hA.sel [5, 27] (e' := [(5, .int .i64 (-1)), (27, .bool false)]) rfl
  refine xt_norm ?_
  refine cd_cond_f hA rfl ?_
  refine wp_skip ?_
  refine xt_norm ?_
  refine wp_seq ?_
  refine wp_region_lit ?_
  refine st_run tbOk 2 hA (e' := (4, .int .i64 (-1)) :: (28, .int .i64 (-1)) :: _) rfl ?_; clear hA; intro a hA
  refine wpList_nil ?_
  replace hA := hA.sel [4] (e' := [(4, .int .i64 (-1))]) rfl
  refine xt_norm ?_
  refine wp_ret ?_
  refine ret1 (fn := Tryd.f11) hA rfl rfl ?_
  replace hS := hS.drop2
  exact ⟨_, hM2, rfl, hS⟩

theorem leave_next11 {w0 w : World} {F : List Chunk} {L : Chunk} {b : Nat} (hS : St w0 w (L :: F)) {h : Int} {ws : List Int} (hM : MT b h ws L) (id : Int) (h1 : 0 ≤ id) (h2 : h = id) {x : Int} {r : List Int} (h3 : ws.filter (fun x => !(x == id)) = x :: r) :
    Ret Tryd.prog 11 #[.pointer (some ⟨b, 0, none⟩), .int .i64 id] w (fun v w' => ∃ L', MT b x r L' ∧ v = .int .i64 x ∧ St w0 w' (L' :: F)) := by
  obtain ⟨v, C, hO, rfl⟩ := hM
  obtain ⟨A, c, rfl, hmc, hcx⟩ := hO.open'
  replace hS : St w0 w ([(b, rowO [.int .i64 h, .bool true, .slice A ws.length c] 27)] :: C :: F) := hS.split
  refine enter (vs := [.pointer (some ⟨b, 0, none⟩), .int .i64 id]) 29 Tryd.func11 rfl rfl (by simp) ?_; intro a hA
  refine wp_seq ?_
  refine wp_region_lit ?_
  refine st_box hA hS [.int .i64 id] rfl rfl rfl rfl rfl (by decide) ?_; clear hA hS; intro b1 w2 a hS hA
  refine st_run tbOk 1 hA (e' := (4, .int .i64 0) :: _) rfl ?_; clear hA; intro a hA
  refine wpList_nil ?_
  replace hA := hA.sel [0, 3] (e' := [(0, .pointer (some ⟨b, 0, none⟩)), (3, .pointer (some ⟨b1, 0, none⟩))]) rfl
  refine xt_norm ?_
  refine wp_seq ?_
  refine wp_region_lit ?_
  refine st_run tbOk 4 hA (e' := (10, .pointer (some ⟨b, 2, none⟩)) :: (9, .pointer (some ⟨b, 0, none⟩)) :: (8, .pointer (some ⟨b, 0, none⟩)) :: (7, .pointer (some ⟨b, 0, none⟩)) :: _) rfl ?_; clear hA; intro a hA
  refine st_val hA rfl rfl (by decide) (rn_load tbOk hA rfl rfl rfl rfl (cell_row (hS.heapAt 1 rfl) rfl)) ?_; clear hA; intro a hA
  refine st_run tbOk 1 hA (e' := (12, .func (.func 19) #[] #[.pointer (some ⟨b1, 0, none⟩)]) :: _) rfl ?_; clear hA; intro a hA
  replace hS := hS.front 2 (C := C) (L' := [(b1, rowO [.int .i64 id] 3)] :: [(b, rowO [.int .i64 h, .bool true, .slice A ws.length c] 27)] :: F) rfl rfl
  refine st_call0 hA rfl rfl rfl isfn18 rfl rfl (by decide) (deleteFunc18 hS (l := ws) hO isfn19 (leavepred (b := b1) (fun w' h => cell_row (h.heapAt 0 rfl) rfl))) ?_
  clear hA hS; rintro v3 w4 a ⟨C5, hO5, hS⟩ hA
  obtain ⟨A6, c7, rfl, hmc7, hxc7⟩ := hO5.open'
  refine st_run tbOk 2 hA (e' := (15, .pointer (some ⟨b, 2, none⟩)) :: (14, .pointer (some ⟨b, 0, none⟩)) :: _) rfl ?_; clear hA; intro a hA
  replace hS := hS.front 2 (C := [(b, rowO [.int .i64 h, .bool true, .slice A ws.length c] 27)]) (L' := C5 :: [(b1, rowO [.int .i64 id] 3)] :: F) rfl rfl
  refine st_store tbOk hA hS [.slice A6 ((ws.filter (fun x => !(x == id))).length) c7] [.int .i64 h, .bool true, .slice A6 ((ws.filter (fun x => !(x == id))).length) c7] rfl rfl rfl rfl rfl rfl (by intro u hu; rw [List.mem_singleton.1 hu]; rfl) (Nat.le_of_ble_eq_true rfl) rfl rfl rfl ?_; clear hS; intro w8 hS
  refine wpList_nil ?_
  replace hA := hA.sel [0, 3] (e' := [(0, .pointer (some ⟨b, 0, none⟩)), (3, .pointer (some ⟨b1, 0, none⟩))]) rfl
  refine xt_norm ?_
  refine wp_seq ?_
  refine wp_seq ?_
  refine wp_draw (fun w' => St w0 w' ([(b, rowO [.int .i64 h, .bool true, .slice A6 ((ws.filter (fun x => !(x == id))).length) c7] 27)] :: C5 :: [(b1, rowO [.int .i64 id] 3)] :: F)) [] [(0, true), (2, true), (1, false), (3, true)] mixed (by kernel_rfl) (by rintro c a w ⟨_, _, h, _⟩; cases h) (by rfl) (by kernel_rfl) ?_
  replace hS := hS.drew
  refine dr_run tbOk 1 hA hS (e' := (16, .pointer (some ⟨b, 0, none⟩)) :: _) rfl ?_; clear hA; intro a hA
  refine dr_y hA rfl rfl rfl (by decide) hS (fun w' hS' => rn_load tbOk hA rfl rfl rfl rfl (cell_row (hS'.heapAt 2 rfl) rfl)) ?_; clear hA; intro a hA
  refine dr_b (o := _) rfl ?_
  refine st_call0 hA rfl rfl rfl isfn12 rfl rfl (by decide) (holderO_T12 hS) ?_
  clear hA hS; rintro v w9 a ⟨rfl, hS⟩ hA
  refine dr_nil (.inr hS) ?_
  refine dr_run tbOk 1 hA hS (e' := (19, .bool (h != id)) :: _) rfl ?_; clear hA; intro a hA
  refine dr_end ?_
  replace hA := hA.sel [0, 3, 19] (e' := [(0, .pointer (some ⟨b, 0, none⟩)), (3, .pointer (some ⟨b1, 0, none⟩)), (19, .bool (h != id))]) rfl
  refine xt_norm ?_
  have hc10 : h = id := h2
  replace hA := hA.rw 19 (v' := .bool false) rfl (vb_ne_f hc10)
  refine cd_cond_f hA rfl ?_
  refine wp_skip ?_
  refine xt_norm ?_
  refine wp_seq ?_
  refine wp_region_lit ?_
  refine st_run tbOk 1 hA (e' := (21, .pointer (some ⟨b, 0, none⟩)) :: _) rfl ?_; clear hA; intro a hA
  refine st_val hA rfl rfl (by decide) (rn_load tbOk hA rfl rfl rfl rfl (cell_row (hS.heapAt 2 rfl) rfl)) ?_; clear hA; intro a hA
  replace hS := hS.front 1 (C := C5) (L' := [(b, rowO [.int .i64 h, .bool true, .slice A6 ((ws.filter (fun x => !(x == id))).length) c7] 27)] :: [(b1, rowO [.int .i64 id] 3)] :: F) rfl rfl
  replace hS := hS.front 1 (C := [(b, rowO [.int .i64 h, .bool true, .slice A6 ((ws.filter (fun x => !(x == id))).length) c7] 27)]) (L' := C5 :: [(b1, rowO [.int .i64 id] 3)] :: F) rfl rfl
  replace hS := hS.join
  refine st_call0 hA rfl rfl rfl isfn9 rfl rfl (by decide) (unlock_next9 hS (⟨_, _, hO5, rfl⟩ : MT b _ _ _) id h1 h2 h3) ?_
  clear hA hS; rintro v w12 a ⟨L11, hM2, rfl, hS⟩ hA
  refine st_run tbOk 5 hA (e' := (6, .nilIface) :: (5, .int .i64 x) :: (25, .nilIface) :: (24, .int .i64 x) :: (20, .tuple #[.int .i64 x, .nilIface]) :: _) rfl ?_; clear hA; intro a hA
  refine wpList_nil ?_
  replace hA := hA.sel [5, 6] (e' := [(5, .int .i64 x), (6, .nilIface)]) rfl
  refine xt_norm ?_
  refine wp_seq ?_
  refine wp_seq ?_
  refine wp_region_lit ?_
  refine st_run tbOk 2 hA (e' := (27, .bool false) :: (26, .nilIface) :: _) rfl ?_; clear hA; intro a hA
  refine wpList_nil ?_
  replace hA := hA.sel [5, 27] (e' := [(5, .int .i64 x), (27, .bool false)]) rfl
  refine xt_norm ?_
  refine cd_cond_f hA rfl ?_
  refine wp_skip ?_
  refine xt_norm ?_
  refine wp_seq ?_
  refine wp_region_lit ?_
  refine st_run tbOk 2 hA (e' := (4, .int .i64 x) :: (28, .int .i64 x) :: _) rfl ?_; clear hA; intro a hA
  refine wpList_nil ?_
  replace hA := hA.sel [4] (e' := [(4, .int .i64 x)]) rfl
  refine xt_norm ?_
  refine wp_ret ?_
  refine ret1 (fn := Tryd.f11) hA rfl rfl ?_
  replace hS := hS.drop2
  exact ⟨_, hM2, rfl, hS⟩

theorem waiting_F14 {w0 w : World} {F : List Chunk} {L : Chunk} {b : Nat} (hS : St w0 w (L :: F)) (hM : MF b L) :
    Ret Tryd.prog 14 #[.pointer (some ⟨b, 0, none⟩)] w (fun v w' => ∃ L' C', Own 3 1 v ([] : List Int).length (rows encI ([] : List Int)) C' ∧ MF b L' ∧ St w0 w' (C' :: L' :: F)) := by
  obtain ⟨h, v, C, hO, rfl⟩ := hM
  obtain ⟨A, c, rfl, hmc, hcx⟩ := hO.open'
  replace hS : St w0 w ([(b, rowO [.int .i64 h, .bool false, .slice A 0 c] 27)] :: C :: F) := hS.split
  refine enter (vs := [.pointer (some ⟨b, 0, none⟩)]) 8 Tryd.func14 rfl rfl (by simp) ?_; intro a hA
  refine wp_seq ?_
  refine wp_region_lit ?_
  refine st_run tbOk 1 hA (e' := (2, .slice none 0 0) :: _) rfl ?_; clear hA; intro a hA
  refine wpList_nil ?_
  replace hA := hA.sel [0] (e' := [(0, .pointer (some ⟨b, 0, none⟩))]) rfl
  refine xt_norm ?_
  refine wp_seq ?_
  refine wp_region_lit ?_
  refine st_run tbOk 3 hA (e' := (5, .pointer (some ⟨b, 2, none⟩)) :: (4, .pointer (some ⟨b, 0, none⟩)) :: (3, .pointer (some ⟨b, 0, none⟩)) :: _) rfl ?_; clear hA; intro a hA
  refine st_val hA rfl rfl (by decide) (rn_load tbOk hA rfl rfl rfl rfl (cell_row (hS.heapAt 0 rfl) rfl)) ?_; clear hA; intro a hA
  refine st_call0 hA rfl rfl rfl isfn20 rfl rfl (by decide) (clone20 hS (l := ([] : List Int)) (RdS.own hO 1 rfl) (by first | omega | simp)) ?_
  clear hA hS; rintro v1 w2 a ⟨C3, hO3, hS⟩ hA
  obtain ⟨A4, c5, rfl, hmc5, hxc5⟩ := hO3.open'
  refine st_run tbOk 1 hA (e' := (2, .slice A4 (([] : List Int).length) c5) :: _) rfl ?_; clear hA; intro a hA
  refine wpList_nil ?_
  replace hA := hA.sel [2] (e' := [(2, .slice A4 (([] : List Int).length) c5)]) rfl
  refine xt_norm ?_
  refine wp_ret ?_
  refine ret1 (fn := Tryd.f14) hA rfl rfl ?_
  replace hS := hS.front 2 (C := C) (L' := C3 :: [(b, rowO [.int .i64 h, .bool false, .slice A 0 c] 27)] :: F) rfl rfl
  replace hS := hS.front 2 (C := [(b, rowO [.int .i64 h, .bool false, .slice A 0 c] 27)]) (L' := C :: C3 :: F) rfl rfl
  replace hS := hS.join
  replace hS := hS.swap
  exact ⟨_, C3, hO3, ⟨_, _, _, hO, rfl⟩, hS⟩

theorem waiting_T14 {w0 w : World} {F : List Chunk} {L : Chunk} {b : Nat} (hS : St w0 w (L :: F)) {h : Int} {ws : List Int} (hM : MT b h ws L) (hb : ws.length * 8 ≤ 140737488355328) :
    Ret Tryd.prog 14 #[.pointer (some ⟨b, 0, none⟩)] w (fun v w' => ∃ L' C', Own 3 1 v ws.length (rows encI ws) C' ∧ MT b h ws L' ∧ St w0 w' (C' :: L' :: F)) := by
  obtain ⟨v, C, hO, rfl⟩ := hM
  obtain ⟨A, c, rfl, hmc, hcx⟩ := hO.open'
  replace hS : St w0 w ([(b, rowO [.int .i64 h, .bool true, .slice A ws.length c] 27)] :: C :: F) := hS.split
  refine enter (vs := [.pointer (some ⟨b, 0, none⟩)]) 8 Tryd.func14 rfl rfl (by simp) ?_; intro a hA
  refine wp_seq ?_
  refine wp_region_lit ?_
  refine st_run tbOk 1 hA (e' := (2, .slice none 0 0) :: _) rfl ?_; clear hA; intro a hA
  refine wpList_nil ?_
  replace hA := hA.sel [0] (e' := [(0, .pointer (some ⟨b, 0, none⟩))]) rfl
  refine xt_norm ?_
  refine wp_seq ?_
  refine wp_region_lit ?_
  refine st_run tbOk 3 hA (e' := (5, .pointer (some ⟨b, 2, none⟩)) :: (4, .pointer (some ⟨b, 0, none⟩)) :: (3, .pointer (some ⟨b, 0, none⟩)) :: _) rfl ?_; clear hA; intro a hA
  refine st_val hA rfl rfl (by decide) (rn_load tbOk hA rfl rfl rfl rfl (cell_row (hS.heapAt 0 rfl) rfl)) ?_; clear hA; intro a hA
  refine st_call0 hA rfl rfl rfl isfn20 rfl rfl (by decide) (clone20 hS (l := ws) (RdS.own hO 1 rfl) (by first | omega | simp)) ?_
  clear hA hS; rintro v1 w2 a ⟨C3, hO3, hS⟩ hA
  obtain ⟨A4, c5, rfl, hmc5, hxc5⟩ := hO3.open'
  refine st_run tbOk 1 hA (e' := (2, .slice A4 ws.length c5) :: _) rfl ?_; clear hA; intro a hA
  refine wpList_nil ?_
  replace hA := hA.sel [2] (e' := [(2, .slice A4 ws.length c5)]) rfl
  refine xt_norm ?_
  refine wp_ret ?_
  refine ret1 (fn := Tryd.f14) hA rfl rfl ?_
  replace hS := hS.front 2 (C := C) (L' := C3 :: [(b, rowO [.int .i64 h, .bool true, .slice A ws.length c] 27)] :: F) rfl rfl
  replace hS := hS.front 2 (C := [(b, rowO [.int .i64 h, .bool true, .slice A ws.length c] 27)]) (L' := C :: C3 :: F) rfl rfl
  replace hS := hS.join
  replace hS := hS.swap
  exact ⟨_, C3, hO3, ⟨_, _, hO, rfl⟩, hS⟩

def first (row : List Int) : Int := row.headD (-1)
def MR (b : Nat) : List Int → Chunk → Prop
  | [], L => MF b L
  | h :: ws, L => MT b h ws L
section
variable {w0 w : World} {F : List Chunk} {L : Chunk} {b : Nat} {row : List Int}
theorem lockR_arg (hS : St w0 w (L :: F)) (hM : MR b row L) (id : Int) (h1 : id < 0) : Ret Tryd.prog 7 #[.pointer (some ⟨b, 0, none⟩), .int .i64 id] w (fun v w' => ∃ L', MR b row L' ∧ v = .tuple #[.bool false, .iface 36 (.int .i64 4)] ∧ St w0 w' (L' :: F)) := by
  cases row with
  | nil => exact lock_argF7 hS hM id h1
  | cons h ws => exact lock_argT7 hS hM id h1
theorem lockR_in (hS : St w0 w (L :: F)) (hM : MR b row L) (id : Int) (h1 : 0 ≤ id) (h2 : row.any (fun y => y == id) = true) : Ret Tryd.prog 7 #[.pointer (some ⟨b, 0, none⟩), .int .i64 id] w (fun v w' => ∃ L', MR b row L' ∧ v = .tuple #[.bool false, .iface 36 (.int .i64 15)] ∧ St w0 w' (L' :: F)) := by
  cases row with
  | nil => simp at h2
  | cons h ws =>
    by_cases hh : h = id
    · exact lock_own7 hS hM id h1 hh
    · exact lock_in7 hS hM id h1 hh (by simpa [hh] using h2)
theorem lockR_full (hS : St w0 w (L :: F)) (hM : MR b row L) (id : Int) (h1 : 0 ≤ id) (h2 : row.any (fun y => y == id) = false) (h3 : 65 ≤ row.length) : Ret Tryd.prog 7 #[.pointer (some ⟨b, 0, none⟩), .int .i64 id] w (fun v w' => ∃ L', MR b row L' ∧ v = .tuple #[.bool false, .iface 36 (.int .i64 5)] ∧ St w0 w' (L' :: F)) := by
  cases row with
  | nil => simp at h3
  | cons h ws =>
    rw [List.any_cons, Bool.or_eq_false_iff] at h2
    exact lock_full7 hS hM id h1 (by simpa using h2.1) h2.2 (by simp at h3; omega)
theorem lockR_ok (hS : St w0 w (L :: F)) (hM : MR b row L) (id : Int) (h1 : 0 ≤ id) (h2 : row.any (fun y => y == id) = false) (h3 : row.length < 65) : Ret Tryd.prog 7 #[.pointer (some ⟨b, 0, none⟩), .int .i64 id] w (fun v w' => ∃ L', MR b (row ++ [id]) L' ∧ v = .tuple #[.bool row.isEmpty, .nilIface] ∧ St w0 w' (L' :: F)) := by
  cases row with
  | nil => exact lock_free7 hS hM id h1
  | cons h ws =>
    rw [List.any_cons, Bool.or_eq_false_iff] at h2
    exact lock_ok7 hS hM id h1 (by simpa using h2.1) h2.2 (by simp at h3; omega)
theorem holderR (hS : St w0 w (L :: F)) (hM : MR b row L) : Ret Tryd.prog 12 #[.pointer (some ⟨b, 0, none⟩)] w (fun v w' => ∃ L', MR b row L' ∧ v = .int .i64 (first row) ∧ St w0 w' (L' :: F)) := by
  cases row with
  | nil => exact holder_F12 hS hM
  | cons h ws => exact holder_T12 hS hM
theorem unlockR_not (hS : St w0 w (L :: F)) (hM : MR b row L) (id : Int) (h1 : ¬ (row ≠ [] ∧ first row = id)) : Ret Tryd.prog 9 #[.pointer (some ⟨b, 0, none⟩), .int .i64 id] w (fun v w' => ∃ L', MR b row L' ∧ v = .tuple #[.int .i64 (-1), .iface 36 (.int .i64 15)] ∧ St w0 w' (L' :: F)) := by
  cases row with
  | nil => exact unlock_free9 hS hM id
  | cons h ws => exact unlock_not9 hS hM id (fun hh => h1 ⟨by simp, hh⟩)
theorem unlockR_ok (hS : St w0 w (L :: F)) {id : Int} {r : List Int} (hM : MR b (id :: r) L) (h1 : 0 ≤ id) : Ret Tryd.prog 9 #[.pointer (some ⟨b, 0, none⟩), .int .i64 id] w (fun v w' => ∃ L', MR b r L' ∧ v = .tuple #[.int .i64 (first r), .nilIface] ∧ St w0 w' (L' :: F)) := by
  cases r with
  | nil => exact unlock_last9 hS hM id h1 rfl rfl
  | cons x r => exact unlock_next9 hS hM id h1 rfl rfl
theorem waitingR (hS : St w0 w (L :: F)) (hM : MR b row L) (hb : row.length ≤ 65) : Ret Tryd.prog 14 #[.pointer (some ⟨b, 0, none⟩)] w (fun v w' => ∃ L' C', Own 3 1 v row.tail.length (rows encI row.tail) C' ∧ MR b row L' ∧ St w0 w' (C' :: L' :: F)) := by
  cases row with
  | nil => exact waiting_F14 hS hM
  | cons h ws => exact waiting_T14 hS hM (by simp at hb ⊢; omega)
theorem leaveR (hS : St w0 w (L :: F)) (hM : MR b row L) (id : Int) (hp : ∀ x ∈ row, 0 ≤ x) : Ret Tryd.prog 11 #[.pointer (some ⟨b, 0, none⟩), .int .i64 id] w (fun v w' => ∃ L', MR b (row.filter (fun x => !(x == id))) L' ∧ v = .int .i64 (if row ≠ [] ∧ first row = id then first (row.filter (fun x => !(x == id))) else -1) ∧ St w0 w' (L' :: F)) := by
  cases row with
  | nil => exact leave_F11 hS hM id
  | cons h ws =>
    by_cases hh : h = id
    · subst hh
      have e : (h :: ws).filter (fun x => !(x == h)) = ws.filter (fun x => !(x == h)) := by simp
      rw [e]
      have e2 : ((h :: ws) ≠ [] ∧ first (h :: ws) = h) = True := by simp [first]
      simp only [e2, if_true]
      have h0 := hp h (by simp)
      cases hf : ws.filter (fun x => !(x == h)) with
      | nil => exact leave_last11 hS hM h h0 rfl (by rw [hf]; rfl)
      | cons x r => exact leave_next11 hS hM h h0 rfl hf
    · have e : (h :: ws).filter (fun x => !(x == id)) = h :: ws.filter (fun x => !(x == id)) := by rw [List.filter_cons]; simp [hh]
      rw [e]
      have e2 : ((h :: ws) ≠ [] ∧ first (h :: ws) = id) = False := by simp [first, hh]
      simp only [e2, if_false]
      exact leave_not11 hS hM id hh
end

theorem awake5 {w0 w : World} {F : List Chunk} (hS : St w0 w F) :
    Ret Tryd.prog 5 #[] w (fun v w' => v = .bool true ∧ St w0 w' F) := by
  refine enter (vs := []) 83 Tryd.func5 rfl rfl (by simp) ?_; intro a hA
  refine wp_seq ?_
  refine wp_region_lit ?_
  refine st_run tbOk 1 hA (e' := (0, .bool false) :: _) rfl ?_; clear hA; intro a hA
  refine wpList_nil ?_
  replace hA := hA.sel [] (e' := []) rfl
  refine xt_norm ?_
  refine wp_seq ?_
  refine wp_region_lit ?_
  refine st_run tbOk 1 hA (e' := (13, .agg #[.int .i64 0, .bool false, .slice none 0 0]) :: _) rfl ?_; clear hA; intro a hA
  refine st_box hA hS [.int .i64 0, .bool false, .slice none 0 0] rfl rfl rfl rfl rfl (by decide) ?_; clear hA hS; intro b1 w2 a hS hA
  obtain ⟨L3, hM, hS⟩ : ∃ L, MR b1 [] L ∧ St w0 w2 (L :: F) := ⟨_, MF.new _ _, hS⟩
  refine st_run tbOk 1 hA (e' := (1, .pointer (some ⟨b1, 0, none⟩)) :: _) rfl ?_; clear hA; intro a hA
  refine wpList_nil ?_
  replace hA := hA.sel [1] (e' := [(1, .pointer (some ⟨b1, 0, none⟩))]) rfl
  refine xt_norm ?_
  refine wp_seq ?_
  refine wp_region_lit ?_
  refine st_run tbOk 1 hA (e' := (16, .pointer (some ⟨b1, 0, none⟩)) :: _) rfl ?_; clear hA; intro a hA
  refine st_call0 hA rfl rfl rfl isfn7 rfl rfl (by decide) (lockR_ok hS hM 1 (by decide) (by decide) (by decide)) ?_
  clear hA hS hM; rintro v w5 a ⟨L4, hM, rfl, hS⟩ hA
  refine st_run tbOk 5 hA (e' := (3, .nilIface) :: (2, .bool true) :: (19, .nilIface) :: (18, .bool true) :: (15, .tuple #[.bool true, .nilIface]) :: _) rfl ?_; clear hA; intro a hA
  refine wpList_nil ?_
  replace hA := hA.sel [1, 2, 3] (e' := [(1, .pointer (some ⟨b1, 0, none⟩)), (2, .bool true), (3, .nilIface)]) rfl
  refine xt_norm ?_
  refine wp_seq ?_
  refine wp_region_lit ?_
  refine st_run tbOk 1 hA (e' := (21, .pointer (some ⟨b1, 0, none⟩)) :: _) rfl ?_; clear hA; intro a hA
  refine st_call0 hA rfl rfl rfl isfn7 rfl rfl (by decide) (lockR_ok hS hM 2 (by decide) (by decide) (by decide)) ?_
  clear hA hS hM; rintro v w7 a ⟨L6, hM, rfl, hS⟩ hA
  refine st_run tbOk 5 hA (e' := (5, .nilIface) :: (4, .bool false) :: (24, .nilIface) :: (23, .bool false) :: (20, .tuple #[.bool false, .nilIface]) :: _) rfl ?_; clear hA; intro a hA
  refine wpList_nil ?_
  replace hA := hA.sel [1, 2, 3, 4, 5] (e' := [(1, .pointer (some ⟨b1, 0, none⟩)), (2, .bool true), (3, .nilIface), (4, .bool false), (5, .nilIface)]) rfl
  refine xt_norm ?_
  refine wp_seq ?_
  refine wp_region_lit ?_
  refine st_run tbOk 1 hA (e' := (26, .pointer (some ⟨b1, 0, none⟩)) :: _) rfl ?_; clear hA; intro a hA
  refine st_call0 hA rfl rfl rfl isfn7 rfl rfl (by decide) (lockR_ok hS hM 3 (by decide) (by decide) (by decide)) ?_
  clear hA hS hM; rintro v w9 a ⟨L8, hM, rfl, hS⟩ hA
  refine st_run tbOk 5 hA (e' := (7, .nilIface) :: (6, .bool false) :: (29, .nilIface) :: (28, .bool false) :: (25, .tuple #[.bool false, .nilIface]) :: _) rfl ?_; clear hA; intro a hA
  refine wpList_nil ?_
  replace hA := hA.sel [1, 2, 3, 4, 5, 6, 7] (e' := [(1, .pointer (some ⟨b1, 0, none⟩)), (2, .bool true), (3, .nilIface), (4, .bool false), (5, .nilIface), (6, .bool false), (7, .nilIface)]) rfl
  refine xt_norm ?_
  refine wp_seq ?_
  refine wp_region_lit ?_
  refine st_run tbOk 1 hA (e' := (31, .pointer (some ⟨b1, 0, none⟩)) :: _) rfl ?_; clear hA; intro a hA
  refine st_call0 hA rfl rfl rfl isfn9 rfl rfl (by decide) (unlockR_ok hS (id := 1) (r := ([2, 3] : List Int)) hM (by decide)) ?_
  clear hA hS hM; rintro v w11 a ⟨L10, hM, rfl, hS⟩ hA
  refine st_run tbOk 5 hA (e' := (9, .nilIface) :: (8, .int .i64 2) :: (34, .nilIface) :: (33, .int .i64 2) :: (30, .tuple #[.int .i64 2, .nilIface]) :: _) rfl ?_; clear hA; intro a hA
  refine wpList_nil ?_
  replace hA := hA.sel [1, 2, 3, 4, 5, 6, 7, 8, 9] (e' := [(1, .pointer (some ⟨b1, 0, none⟩)), (2, .bool true), (3, .nilIface), (4, .bool false), (5, .nilIface), (6, .bool false), (7, .nilIface), (8, .int .i64 2), (9, .nilIface)]) rfl
  refine xt_norm ?_
  refine wp_seq ?_
  refine wp_region_lit ?_
  refine st_run tbOk 1 hA (e' := (35, .pointer (some ⟨b1, 0, none⟩)) :: _) rfl ?_; clear hA; intro a hA
  refine st_call0 hA rfl rfl rfl isfn11 rfl rfl (by decide) (leaveR hS hM 2 (by decide)) ?_
  clear hA hS hM; rintro v w13 a ⟨L12, hM, rfl, hS⟩ hA
  refine st_run tbOk 1 hA (e' := (10, .int .i64 3) :: _) rfl ?_; clear hA; intro a hA
  refine wpList_nil ?_
  replace hA := hA.sel [1, 2, 3, 4, 5, 6, 7, 8, 9, 10] (e' := [(1, .pointer (some ⟨b1, 0, none⟩)), (2, .bool true), (3, .nilIface), (4, .bool false), (5, .nilIface), (6, .bool false), (7, .nilIface), (8, .int .i64 2), (9, .nilIface), (10, .int .i64 3)]) rfl
  refine xt_norm ?_
  refine wp_seq ?_
  refine wp_region_lit ?_
  refine st_run tbOk 1 hA (e' := (38, .pointer (some ⟨b1, 0, none⟩)) :: _) rfl ?_; clear hA; intro a hA
  refine st_call0 hA rfl rfl rfl isfn9 rfl rfl (by decide) (unlockR_ok hS (id := 3) (r := ([] : List Int)) hM (by decide)) ?_
  clear hA hS hM; rintro v w15 a ⟨L14, hM, rfl, hS⟩ hA
  refine st_run tbOk 5 hA (e' := (12, .nilIface) :: (11, .int .i64 (-1)) :: (41, .nilIface) :: (40, .int .i64 (-1)) :: (37, .tuple #[.int .i64 (-1), .nilIface]) :: _) rfl ?_; clear hA; intro a hA
  refine wpList_nil ?_
  replace hA := hA.sel [2, 3, 4, 5, 6, 7, 8, 9, 10, 11, 12] (e' := [(2, .bool true), (3, .nilIface), (4, .bool false), (5, .nilIface), (6, .bool false), (7, .nilIface), (8, .int .i64 2), (9, .nilIface), (10, .int .i64 3), (11, .int .i64 (-1)), (12, .nilIface)]) rfl
  refine xt_norm ?_
  refine wp_seq ?_
  refine wp_region_lit ?_
  refine st_run tbOk 42 hA (e' := (0, .bool true) :: (82, .bool true) :: (81, .bool true) :: (80, .nilIface) :: (79, .bool true) :: (78, .bool true) :: (77, .bool true) :: (76, .nilIface) :: (75, .bool true) :: (74, .bool true) :: (73, .bool true) :: (72, .nilIface) :: (71, .bool true) :: (70, .bool true) :: (69, .bool true) :: (68, .nilIface) :: (67, .bool true) :: (66, .bool true) :: (65, .bool true) :: (64, .nilIface) :: (63, .bool true) :: (62, .bool true) :: (61, .bool true) :: (60, .int .i64 (-1)) :: (59, .bool true) :: (58, .bool true) :: (57, .bool true) :: (56, .int .i64 3) :: (55, .bool true) :: (54, .bool true) :: (53, .bool true) :: (52, .int .i64 2) :: (51, .bool true) :: (50, .bool true) :: (49, .bool true) :: (48, .bool false) :: (47, .bool true) :: (46, .bool true) :: (45, .bool true) :: (44, .bool false) :: (43, .bool true) :: (42, .bool true) :: _) rfl ?_; clear hA; intro a hA
  refine wpList_nil ?_
  replace hA := hA.sel [0] (e' := [(0, .bool true)]) rfl
  refine xt_norm ?_
  refine wp_ret ?_
  refine ret1 (fn := Tryd.f5) hA rfl rfl ?_
  replace hS := hS.drop1
  exact ⟨rfl, hS⟩

def prog (c n : Nat) : List Int := (List.range n).map (fun i => ((c * i : Nat) : Int))
theorem prog_len (c n : Nat) : (prog c n).length = n := by simp [prog]
theorem prog_succ (c n : Nat) : prog c n ++ [((c * n : Nat) : Int)] = prog c (n + 1) := by simp [prog, List.range_succ]
theorem prog_not (c n : Nat) (hc : 0 < c) : (prog c n).any (fun y => y == ((c * n : Nat) : Int)) = false := by
  rw [List.any_eq_false]; intro y hy
  simp only [prog, List.mem_map, List.mem_range] at hy
  obtain ⟨i, hi, rfl⟩ := hy
  simp only [beq_iff_eq]
  intro h
  have h2 : c * i = c * n := by omega
  have := Nat.eq_of_mul_eq_mul_left hc h2
  omega
theorem prog_get {c n k : Nat} (h : k < n) : (prog c n)[k]? = some (((c * k : Nat) : Int)) := by simp [prog, h]
theorem prog_drop {c n k : Nat} (h : k < n) : (prog c n).drop k = ((c * k : Nat) : Int) :: (prog c n).drop (k + 1) := by
  rw [List.drop_eq_getElem_cons (by rw [prog_len]; exact h)]
  congr 1
  have := prog_get (c := c) h
  rw [List.getElem?_eq_getElem (by rw [prog_len]; exact h)] at this
  injection this
theorem prog_empty (c n : Nat) : (prog c n).isEmpty = (((n : Nat) : Int) == 0) := by
  cases n with
  | zero => rfl
  | succ n =>
    have h1 : (prog c (n + 1)).isEmpty = false := by rw [List.isEmpty_eq_false_iff]; intro h; have := congrArg List.length h; simp [prog] at this
    have h2 : ((((n + 1 : Nat) : Nat) : Int) == 0) = false := by rw [beq_eq_false_iff_ne]; omega
    rw [h1, h2]
theorem prog_end (c n : Nat) : (prog c n).drop n = [] := List.drop_eq_nil_of_le (by rw [prog_len]; exact Nat.le_refl _)

theorem prog1_not (n : Nat) : (prog 1 n).any (fun y => y == ((n : Nat) : Int)) = false := by have := prog_not 1 n (by decide); rw [Nat.one_mul] at this; exact this
theorem prog1_succ (n : Nat) : prog 1 n ++ [((n : Nat) : Int)] = prog 1 (n + 1) := by have := prog_succ 1 n; rw [Nat.one_mul] at this; exact this
theorem prog_mem {n : Nat} {x : Int} (h : x ∈ prog 1 n) : 0 ≤ x ∧ x < n := by
  simp only [prog, List.mem_map, List.mem_range] at h
  obtain ⟨i, hi, rfl⟩ := h
  omega
theorem leaves0 (k : Nat) : ∀ x ∈ prog 1 k, 0 ≤ x ∧ x < (k : Int) ∧ (List.replicate k false)[x.toNat]? = some false := fun x hx => by
  have := prog_mem hx
  have h2 : x.toNat < k := by omega
  exact ⟨this.1, this.2, by simp [h2]⟩
theorem leaves_step {row : List Int} {gl : List Bool} {k q : Nat} (h : ∀ x ∈ row, 0 ≤ x ∧ x < (k : Int) ∧ gl[x.toNat]? = some false) : ∀ x ∈ row.filter (fun x => !(x == ((q : Nat) : Int))), 0 ≤ x ∧ x < (k : Int) ∧ (gl.set q true)[x.toNat]? = some false := fun x hx => by
  simp only [List.mem_filter] at hx
  have h1 := h x hx.1
  refine ⟨h1.1, h1.2.1, ?_⟩
  have h2 : ¬ x = ((q : Nat) : Int) := by simpa using hx.2
  rw [List.getElem?_set_ne (by omega)]
  exact h1.2.2
theorem first_mem {row : List Int} (h : ¬ first row = -1) : first row ∈ row := by
  cases row with
  | nil => exact absurd rfl h
  | cons x r => simp [first]
theorem leaves_gone {row : List Int} {gl : List Bool} {k : Nat} (h : ∀ x ∈ row, 0 ≤ x ∧ x < (k : Int) ∧ gl[x.toNat]? = some false) (h1 : ¬ first row = -1) : ∃ q : Nat, first row = ((q : Nat) : Int) ∧ q < k ∧ gl[q]? = some false := by
  have := h _ (first_mem h1)
  exact ⟨(first row).toNat, by omega, by omega, this.2.2⟩
theorem below_step {row : List Int} {k i : Nat} (h : ∀ x ∈ row, ((i : Nat) : Int) ≤ x ∧ x < (k : Int)) : ∀ x ∈ row.filter (fun x => !(x == ((i : Nat) : Int))), (((i + 1 : Nat) : Nat) : Int) ≤ x ∧ x < (k : Int) := fun x hx => by
  simp only [List.mem_filter] at hx
  have h1 := h x hx.1
  have h2 : ¬ x = ((i : Nat) : Int) := by simpa using hx.2
  omega
theorem below_nil {row : List Int} {k i : Nat} (hi : k ≤ i) (h : ∀ x ∈ row, ((i : Nat) : Int) ≤ x ∧ x < (k : Int)) : row = [] := List.eq_nil_iff_forall_not_mem.2 fun x hx => by have := h x hx; omega

theorem in_any {n q : Nat} (h : q < n) : (prog 1 n).any (fun y => y == ((q : Nat) : Int)) = true := by
  rw [List.any_eq_true]
  exact ⟨((1 * q : Nat) : Int), List.mem_map.2 ⟨q, List.mem_range.2 h, rfl⟩, by simp⟩
theorem notin {n q : Nat} (h : n ≤ q) : (prog 1 n).any (fun y => y == ((q : Nat) : Int)) = false := by
  rw [List.any_eq_false]; intro y hy
  have := prog_mem hy
  simp only [beq_iff_eq]; omega
theorem head0 {n q : Nat} (hq : q = 0) (h : 0 < n) : prog 1 n = ((q : Nat) : Int) :: (prog 1 n).drop 1 := by
  subst hq
  have := prog_drop (c := 1) h
  rw [List.drop_zero] at this
  exact this
theorem first_drop1 {t : Nat} (h : t = 0) : first ((prog 1 (1 + t)).drop 1) = -1 := by subst h; rfl
theorem first_drop2 {t : Nat} (h : 0 < t) : first ((prog 1 (1 + t)).drop 1) = 1 := by
  rw [prog_drop (c := 1) (n := 1 + t) (k := 1) (by omega)]; rfl
theorem first_prog {n : Nat} (h : 0 < n) : first (prog 1 n) = 0 := by rw [head0 rfl h]; rfl
theorem notfirst {n q : Nat} (h : 0 < q) (hn : 0 < n) : ¬ (prog 1 n ≠ [] ∧ first (prog 1 n) = ((q : Nat) : Int)) := by
  rw [first_prog hn]; intro h; omega
theorem notfirst2 {n q : Nat} (x : Int) (h : 0 < q) (hn : 0 < n) : ¬ (prog 1 n ++ [x] ≠ [] ∧ first (prog 1 n ++ [x]) = ((q : Nat) : Int)) := by
  rw [head0 rfl hn]; intro h; have := h.2; simp [first] at this; omega
theorem ne_empty {n : Nat} (h : 0 < n) : (prog 1 n).isEmpty = false := by rw [head0 rfl h]; rfl

theorem upd_setCell {w : World} {b : Nat} {x v : Value} {T : TypeId} (hb : w.heap[b]? = some (rowO [x] T)) : Upd w (w.setCell ⟨b, 0, none⟩ v) b (rowO [v] T) := by
  refine ⟨rfl, rfl, rfl, by simp [World.setCell], ?_, fun k _ hk => RowKit.Below.heap_setCell w _ _ k hk⟩
  simp only [World.setCell, Array.getElem?_modify, if_true, hb]
  rfl
/-- What the listed variable holds, in the world that the law begins in. -/
def HG (w : World) : Prop := w.cell? ⟨0, 0, none⟩ = some (.iface 69 (.agg #[.pointer (some ⟨1, 33, none⟩)]))
theorem asHit {w0 w : World} {F : List Chunk} {b : Nat} {x : Value} (hS : St w0 w ([(b, rowO [x] 36)] :: F)) (hg : HG w0) (n : Int) :
    Ret Tryd.prog 16 #[.iface 36 (.int .i64 n), .iface 49 (.pointer (some ⟨b, 0, none⟩))] w (fun v w' => v = .bool true ∧ St w0 w' ([(b, rowO [.int .i64 n] 36)] :: F)) := by
  have hb := hS.heapAt 0 rfl
  refine Calls.mono (as_hit n ⟨b, 0, none⟩ x w (hS.old hg) (cell_row hb rfl) (by simp [World.frozen?, hb, rowO])) fun e w' ⟨he, hw⟩ => ⟨_, he, rfl, ?_⟩
  subst hw
  have h4 := (((hS.alloc (.cells #[.pointer (some ⟨b, 0, none⟩)] 49)).alloc (.cells #[.pointer (some ⟨1, 49, none⟩), .pointer (some ⟨w.heap.size, 0, none⟩), .int .u64 150] 58)).alloc (.cells #[.pointer (some ⟨1, 49, none⟩), .pointer (some ⟨w.heap.size, 0, none⟩), .int .u64 150] 58)).alloc (.cells #[.int .i64 n] 36)
  have h5 := h4.drop1.drop1.drop1.drop1
  exact h5.upd (upd_setCell (h5.heapAt 0 rfl))
theorem asNil {w0 w : World} {F : List Chunk} (hS : St w0 w F) (t : Value) :
    Ret Tryd.prog 16 #[.nilIface, t] w (fun v w' => v = .bool false ∧ St w0 w' F) :=
  Calls.mono (as_nil t w) fun e w' ⟨he, hw⟩ => ⟨_, he, rfl, hw ▸ hS⟩

theorem number_hit8 {w0 w : World} {F : List Chunk} (hS : St w0 w F) (hg : HG w0) (n : Int) :
    Ret Tryd.prog 8 #[.iface 36 (.int .i64 n)] w (fun v w' => v = .int .i64 n ∧ St w0 w' F) := by
  refine enter (vs := [.iface 36 (.int .i64 n)]) 8 Tryd.func8 rfl rfl (by simp) ?_; intro a hA
  refine wp_seq ?_
  refine wp_region_lit ?_
  refine st_run tbOk 1 hA (e' := (2, .int .i64 0) :: _) rfl ?_; clear hA; intro a hA
  refine wpList_nil ?_
  replace hA := hA.sel [0] (e' := [(0, .iface 36 (.int .i64 n))]) rfl
  refine xt_norm ?_
  refine wp_seq ?_
  refine wp_region_lit ?_
  refine st_alloc tbOk hA hS [.int .i64 0] rfl rfl rfl rfl rfl (by decide) ?_; clear hA hS; intro b1 w2 a hS hA
  refine wpList_nil ?_
  refine xt_norm ?_
  refine wp_seq ?_
  refine wp_seq ?_
  refine wp_region_lit ?_
  refine st_run tbOk 2 hA (e' := (5, .iface 49 (.pointer (some ⟨b1, 0, none⟩))) :: (4, .iface 36 (.int .i64 n)) :: _) rfl ?_; clear hA; intro a hA
  refine st_call0 hA rfl rfl rfl isfn16 rfl rfl (by decide) (asHit hS hg n) ?_
  clear hA hS; rintro v w3 a ⟨rfl, hS⟩ hA
  refine wpList_nil ?_
  replace hA := hA.sel [3, 6] (e' := [(3, .pointer (some ⟨b1, 0, none⟩)), (6, .bool true)]) rfl
  refine xt_norm ?_
  refine cd_cond_t hA rfl ?_
  refine wp_seq ?_
  refine wp_region_lit ?_
  refine st_val hA rfl rfl (by decide) (rn_load tbOk hA rfl rfl rfl rfl (cell_row (hS.heapAt 0 rfl) rfl)) ?_; clear hA; intro a hA
  refine st_run tbOk 1 hA (e' := (2, .int .i64 n) :: _) rfl ?_; clear hA; intro a hA
  refine wpList_nil ?_
  replace hA := hA.sel [2] (e' := [(2, .int .i64 n)]) rfl
  refine xt_norm ?_
  refine wp_ret (xt_ret ?_)
  refine ret1 (fn := Tryd.f8) hA rfl rfl ?_
  replace hS := hS.drop1
  exact ⟨rfl, hS⟩

theorem number_nil8 {w0 w : World} {F : List Chunk} (hS : St w0 w F) (hg : HG w0) :
    Ret Tryd.prog 8 #[.nilIface] w (fun v w' => v = .int .i64 0 ∧ St w0 w' F) := by
  refine enter (vs := [.nilIface]) 8 Tryd.func8 rfl rfl (by simp) ?_; intro a hA
  refine wp_seq ?_
  refine wp_region_lit ?_
  refine st_run tbOk 1 hA (e' := (2, .int .i64 0) :: _) rfl ?_; clear hA; intro a hA
  refine wpList_nil ?_
  replace hA := hA.sel [0] (e' := [(0, .nilIface)]) rfl
  refine xt_norm ?_
  refine wp_seq ?_
  refine wp_region_lit ?_
  refine st_alloc tbOk hA hS [.int .i64 0] rfl rfl rfl rfl rfl (by decide) ?_; clear hA hS; intro b1 w2 a hS hA
  refine wpList_nil ?_
  refine xt_norm ?_
  refine wp_seq ?_
  refine wp_seq ?_
  refine wp_region_lit ?_
  refine st_run tbOk 2 hA (e' := (5, .iface 49 (.pointer (some ⟨b1, 0, none⟩))) :: (4, .nilIface) :: _) rfl ?_; clear hA; intro a hA
  refine st_call0 hA rfl rfl rfl isfn16 rfl rfl (by decide) (asNil hS _) ?_
  clear hA hS; rintro v w3 a ⟨rfl, hS⟩ hA
  refine wpList_nil ?_
  replace hA := hA.sel [3, 6] (e' := [(3, .pointer (some ⟨b1, 0, none⟩)), (6, .bool false)]) rfl
  refine xt_norm ?_
  refine cd_cond_f hA rfl ?_
  refine wp_skip ?_
  refine xt_norm ?_
  refine wp_seq ?_
  refine wp_region_lit ?_
  refine st_run tbOk 1 hA (e' := (2, .int .i64 0) :: _) rfl ?_; clear hA; intro a hA
  refine wpList_nil ?_
  replace hA := hA.sel [2] (e' := [(2, .int .i64 0)]) rfl
  refine xt_norm ?_
  refine wp_ret ?_
  refine ret1 (fn := Tryd.f8) hA rfl rfl ?_
  replace hS := hS.drop1
  exact ⟨rfl, hS⟩

theorem stateLaw4 {w0 w : World} {F : List Chunk} (hS : St w0 w F) (hg : HG w0) (n : Int) (hn : 0 ≤ n) (hn2 : n < 256) (u : Int) (hu : 0 ≤ u) (hu2 : u < 256) :
    Ret Tryd.prog 4 #[.int .u8 n, .int .u8 u] w (fun v w' => v = .bool true ∧ St w0 w' F) := by
  obtain ⟨u, rfl⟩ := Int.eq_ofNat_of_zero_le hu
  refine enter (vs := [.int .u8 n, .int .u8 ((u : Nat) : Int)]) 118 Tryd.func4 rfl rfl (by simp) ?_; intro a hA
  have hn1 := Int.emod_nonneg n (b := 20) (by decide)
  have hn2 := Int.emod_lt_of_pos n (b := 20) (by decide)
  have hn3 : n.tmod 20 = n % 20 := Int.tmod_eq_emod_of_nonneg hn
  obtain ⟨t, ht⟩ : ∃ t : Nat, t = (n % 20).toNat := ⟨_, rfl⟩
  refine wp_seq ?_
  refine wp_region_lit ?_
  refine st_run tbOk 1 hA (e' := (4, .bool false) :: _) rfl ?_; clear hA; intro a hA
  refine wpList_nil ?_
  replace hA := hA.sel [0, 1] (e' := [(0, .int .u8 n), (1, .int .u8 ((u : Nat) : Int))]) rfl
  refine xt_norm ?_
  refine wp_seq ?_
  refine wp_seq ?_
  refine wp_region_lit ?_
  refine st_call0 hA rfl rfl rfl isfn5 rfl rfl (by decide) (awake5 hS) ?_
  clear hA hS; rintro v w1 a ⟨rfl, hS⟩ hA
  refine st_run tbOk 1 hA (e' := (14, .bool false) :: _) rfl ?_; clear hA; intro a hA
  refine wpList_nil ?_
  replace hA := hA.sel [0, 1, 14] (e' := [(0, .int .u8 n), (1, .int .u8 ((u : Nat) : Int)), (14, .bool false)]) rfl
  refine xt_norm ?_
  refine cd_cond_f hA rfl ?_
  refine wp_skip ?_
  refine xt_norm ?_
  refine wp_seq ?_
  refine wp_region_lit ?_
  refine st_run tbOk 1 hA (e' := (15, .agg #[.int .i64 0, .bool false, .slice none 0 0]) :: _) rfl ?_; clear hA; intro a hA
  refine st_box hA hS [.int .i64 0, .bool false, .slice none 0 0] rfl rfl rfl rfl rfl (by decide) ?_; clear hA hS; intro b2 w3 a hS hA
  obtain ⟨L4, hM, hS⟩ : ∃ L, MR b2 [] L ∧ St w0 w3 (L :: F) := ⟨_, MF.new _ _, hS⟩
  refine st_run tbOk 1 hA (e' := (5, .pointer (some ⟨b2, 0, none⟩)) :: _) rfl ?_; clear hA; intro a hA
  refine wpList_nil ?_
  replace hA := hA.sel [0, 1, 5] (e' := [(0, .int .u8 n), (1, .int .u8 ((u : Nat) : Int)), (5, .pointer (some ⟨b2, 0, none⟩))]) rfl
  refine xt_norm ?_
  refine wp_seq ?_
  refine wp_region_lit ?_
  refine st_run tbOk 2 hA (e' := (18, .int .u8 (n.tmod 20)) :: (17, .int .u8 n) :: _) rfl ?_; clear hA; intro a hA
  refine st_run tbOk 1 hA (e' := (19, .int .i64 (IntKind.i64.wrap (n.tmod 20))) :: _) rfl ?_; clear hA; intro a hA
  replace hA := hA.rw 19 (v' := .int .i64 ((t : Nat) : Int)) rfl (wr64 (by rw [hn3]; omega) (by omega) (by omega))
  refine st_run tbOk 1 hA (e' := (20, .int .i64 (IntKind.i64.wrap (1 + ((t : Nat) : Int)))) :: _) rfl ?_; clear hA; intro a hA
  replace hA := hA.rw 20 (v' := .int .i64 ((1 + t : Nat) : Int)) rfl (wr64 (by first | omega | (simp [prog_len]; omega)) (by first | omega | (simp [prog_len]; omega)) (by first | omega | (simp [prog_len]; omega)))
  refine st_run tbOk 1 hA (e' := (6, .int .i64 ((1 + t : Nat) : Int)) :: _) rfl ?_; clear hA; intro a hA
  refine wpList_nil ?_
  replace hA := hA.sel [1, 5, 6] (e' := [(1, .int .u8 ((u : Nat) : Int)), (5, .pointer (some ⟨b2, 0, none⟩)), (6, .int .i64 ((1 + t : Nat) : Int))]) rfl
  refine xt_norm ?_
  refine wp_seq ?_
  refine wp_seq ?_
  refine wp_region_lit ?_
  refine st_run tbOk 1 hA (e' := (7, .int .i64 0) :: _) rfl ?_; clear hA; intro a hA
  refine wpList_nil ?_
  refine xt_norm ?_
  refine wp_block ?_
  have hrw : ([] : List Int) = prog 1 0 := rfl
  rw [hrw] at hM
  clear hrw
  refine wp_loop_ghost (fun m a w => ∃ (i : Nat) (L : Chunk), m = 1 + t - i ∧ Has a 118 [(1, .int .u8 ((u : Nat) : Int)), (5, .pointer (some ⟨b2, 0, none⟩)), (6, .int .i64 ((1 + t : Nat) : Int)), (7, .int .i64 ((i : Nat) : Int))] ∧ St w0 w (L :: F) ∧ (MR b2 (prog 1 i) L) ∧ (i ≤ 1 + t)) (1 + t - 0)
    ⟨0, L4, rfl, (hA.sel [1, 5, 6, 7] rfl), hS, hM, Nat.zero_le _⟩ ?_
  clear hA hS; rintro m0 a w5 ⟨i, L, rfl, hA, hS, hM, hi⟩
  refine wp_seq ?_
  refine wp_seq ?_
  refine wp_region_lit ?_
  refine st_run tbOk 3 hA (e' := (23, .bool (decide (((i : Nat) : Int) < ((1 + t : Nat) : Int)))) :: (22, .int .i64 ((1 + t : Nat) : Int)) :: (21, .int .i64 ((i : Nat) : Int)) :: _) rfl ?_; clear hA; intro a hA
  refine wpList_nil ?_
  replace hA := hA.sel [1, 5, 6, 7, 23] (e' := [(1, .int .u8 ((u : Nat) : Int)), (5, .pointer (some ⟨b2, 0, none⟩)), (6, .int .i64 ((1 + t : Nat) : Int)), (7, .int .i64 ((i : Nat) : Int)), (23, .bool (decide (((i : Nat) : Int) < ((1 + t : Nat) : Int))))]) rfl
  refine xt_norm ?_
  by_cases hc6 : ((i : Nat) : Int) < ((1 + t : Nat) : Int)
  · first
    | (exfalso; first | omega | (simp [prog_len]; omega))
    | (replace hA := hA.rw 23 (v' := .bool true) rfl (vb_true hc6)
       refine cd_cond_t hA rfl ?_
       refine wp_skip ?_
       refine xt_norm ?_
       refine wp_seq ?_
       refine wp_block ?_
       refine wp_region_lit ?_
       refine st_run tbOk 2 hA (e' := (28, .int .i64 ((i : Nat) : Int)) :: (27, .pointer (some ⟨b2, 0, none⟩)) :: _) rfl ?_; clear hA; intro a hA
       refine st_call0 hA rfl rfl rfl isfn7 rfl rfl (by decide) (lockR_ok hS hM ((i : Nat) : Int) (by omega) (prog1_not i) (by rw [prog_len]; omega)) ?_
       clear hA hS hM; rintro v w8 a ⟨L7, hM, rfl, hS⟩ hA
       refine st_run tbOk 3 hA (e' := (31, .nilIface) :: (30, .bool ((prog 1 i).isEmpty)) :: (26, .tuple #[.bool ((prog 1 i).isEmpty), .nilIface]) :: _) rfl ?_; clear hA; intro a hA
       refine wpList_nil ?_
       replace hA := hA.sel [1, 5, 6, 7] (e' := [(1, .int .u8 ((u : Nat) : Int)), (5, .pointer (some ⟨b2, 0, none⟩)), (6, .int .i64 ((1 + t : Nat) : Int)), (7, .int .i64 ((i : Nat) : Int))]) rfl
       refine xb_norm ?_
       refine xt_norm ?_
       refine wp_region_lit ?_
       refine st_run tbOk 2 hA (e' := (25, .int .i64 (IntKind.i64.wrap (((i : Nat) : Int) + 1))) :: (24, .int .i64 ((i : Nat) : Int)) :: _) rfl ?_; clear hA; intro a hA
       replace hA := hA.rw 25 (v' := .int .i64 ((i + 1 : Nat) : Int)) rfl (wr64 (by first | omega | (simp [prog_len]; omega)) (by first | omega | (simp [prog_len]; omega)) (by first | omega | (simp [prog_len]; omega)))
       refine st_run tbOk 1 hA (e' := (7, .int .i64 ((i + 1 : Nat) : Int)) :: _) rfl ?_; clear hA; intro a hA
       refine wpList_nil ?_
       replace hA := hA.sel [1, 5, 6, 7] (e' := [(1, .int .u8 ((u : Nat) : Int)), (5, .pointer (some ⟨b2, 0, none⟩)), (6, .int .i64 ((1 + t : Nat) : Int)), (7, .int .i64 ((i + 1 : Nat) : Int))]) rfl
       have hrw : (prog 1 i) ++ [((i : Nat) : Int)] = prog 1 (i + 1) := prog1_succ i
       rw [hrw] at hM
       clear hrw
       exact lp_next _ (by omega) ⟨(i + 1), L7, rfl, (hA.sel [1, 5, 6, 7] rfl), hS, hM, by omega⟩)
  · first
    | (exfalso; first | omega | (simp [prog_len]; omega))
    | (replace hA := hA.rw 23 (v' := .bool false) rfl (vb_false hc6)
       refine cd_cond_f hA rfl ?_
       refine wp_exit ?_
       refine xt_exit ?_
       refine xt_exit ?_
       refine cd_exit_eq ?_
       refine xt_norm ?_
       refine wp_seq ?_
       refine wp_region_lit ?_
       refine st_run tbOk 2 hA (e' := (33, .int .i64 (IntKind.i64.wrap ((u : Nat) : Int))) :: (32, .int .u8 ((u : Nat) : Int)) :: _) rfl ?_; clear hA; intro a hA
       replace hA := hA.rw 33 (v' := .int .i64 ((u : Nat) : Int)) rfl (wr64 (by rfl) (by omega) (by omega))
       refine st_run tbOk 2 hA (e' := (35, .int .i64 (IntKind.i64.wrap (((1 + t : Nat) : Int) + 3))) :: (34, .int .i64 ((1 + t : Nat) : Int)) :: _) rfl ?_; clear hA; intro a hA
       replace hA := hA.rw 35 (v' := .int .i64 (((1 + t) + 3 : Nat) : Int)) rfl (wr64 (by first | omega | (simp [prog_len]; omega)) (by first | omega | (simp [prog_len]; omega)) (by first | omega | (simp [prog_len]; omega)))
       refine st_val hA rfl rfl (by decide) (rn_rem hA rfl rfl rfl (by first | omega | (simp [prog_len]; omega))) ?_; clear hA; intro a hA
       have hmd9 := Nat.mod_lt u (show 0 < (1 + t) + 3 by first | omega | (simp [prog_len]; omega))
       replace hA := hA.rw 36 (v' := .int .i64 ((u % ((1 + t) + 3) : Nat) : Int)) rfl (vint (Int.ofNat_tmod _ _).symm)
       refine st_run tbOk 1 hA (e' := (8, .int .i64 ((u % ((1 + t) + 3) : Nat) : Int)) :: _) rfl ?_; clear hA; intro a hA
       refine wpList_nil ?_
       replace hA := hA.sel [5, 6, 8] (e' := [(5, .pointer (some ⟨b2, 0, none⟩)), (6, .int .i64 ((1 + t : Nat) : Int)), (8, .int .i64 ((u % ((1 + t) + 3) : Nat) : Int))]) rfl
       refine xt_norm ?_
       refine wp_seq ?_
       refine wp_region_lit ?_
       obtain rfl : i = 1 + t := by omega
       obtain ⟨q, hq⟩ : ∃ q : Nat, q = u % (1 + t + 3) := ⟨_, rfl⟩
       replace hA := hA.rw 8 (v' := .int .i64 ((q : Nat) : Int)) rfl (by rw [hq])
       have hcs : (q = 0 ∧ t = 0) ∨ (q = 0 ∧ 0 < t) ∨ (0 < q ∧ q < 1 + t) ∨ 1 + t ≤ q := by omega
       rcases hcs with ⟨h1, h2⟩ | ⟨h1, h2⟩ | ⟨h1, h2⟩ | h1
       · refine st_run tbOk 2 hA (e' := (39, .int .i64 ((q : Nat) : Int)) :: (38, .pointer (some ⟨b2, 0, none⟩)) :: _) rfl ?_; clear hA; intro a hA
         refine st_call0 hA rfl rfl rfl isfn7 rfl rfl (by decide) (lockR_in hS hM ((q : Nat) : Int) (by omega) (in_any (by omega))) ?_
         clear hA hS hM; rintro v w11 a ⟨L10, hM, rfl, hS⟩ hA
         refine st_run tbOk 5 hA (e' := (10, .iface 36 (.int .i64 15)) :: (9, .bool false) :: (42, .iface 36 (.int .i64 15)) :: (41, .bool false) :: (37, .tuple #[.bool false, .iface 36 (.int .i64 15)]) :: _) rfl ?_; clear hA; intro a hA
         refine wpList_nil ?_
         replace hA := hA.sel [5, 6, 8, 9, 10] (e' := [(5, .pointer (some ⟨b2, 0, none⟩)), (6, .int .i64 ((1 + t : Nat) : Int)), (8, .int .i64 ((q : Nat) : Int)), (9, .bool false), (10, .iface 36 (.int .i64 15))]) rfl
         refine xt_norm ?_
         refine wp_seq ?_
         refine wp_region_lit ?_
         have hrw : prog 1 (1 + t) = ((q : Nat) : Int) :: (prog 1 (1 + t)).drop 1 := head0 (by omega) (by omega)
         rw [hrw] at hM
         clear hrw
         refine st_run tbOk 2 hA (e' := (45, .int .i64 ((q : Nat) : Int)) :: (44, .pointer (some ⟨b2, 0, none⟩)) :: _) rfl ?_; clear hA; intro a hA
         refine st_call0 hA rfl rfl rfl isfn9 rfl rfl (by decide) (unlockR_ok hS hM (by omega)) ?_
         clear hA hS hM; rintro v w13 a ⟨L12, hM, rfl, hS⟩ hA
         refine st_run tbOk 5 hA (e' := (12, .nilIface) :: (11, .int .i64 (first ((prog 1 (1 + t)).drop 1))) :: (48, .nilIface) :: (47, .int .i64 (first ((prog 1 (1 + t)).drop 1))) :: (43, .tuple #[.int .i64 (first ((prog 1 (1 + t)).drop 1)), .nilIface]) :: _) rfl ?_; clear hA; intro a hA
         refine wpList_nil ?_
         replace hA := hA.sel [5, 6, 8, 9, 10, 11, 12] (e' := [(5, .pointer (some ⟨b2, 0, none⟩)), (6, .int .i64 ((1 + t : Nat) : Int)), (8, .int .i64 ((q : Nat) : Int)), (9, .bool false), (10, .iface 36 (.int .i64 15)), (11, .int .i64 (first ((prog 1 (1 + t)).drop 1))), (12, .nilIface)]) rfl
         refine xt_norm ?_
         refine wp_seq ?_
         refine wp_seq ?_
         refine wp_region_lit ?_
         replace hA := hA.rw 11 (v' := .int .i64 (-1)) rfl (by rw [first_drop1 h2])
         refine st_run tbOk 3 hA (e' := (51, .bool (decide (((q : Nat) : Int) < ((1 + t : Nat) : Int)))) :: (50, .int .i64 ((1 + t : Nat) : Int)) :: (49, .int .i64 ((q : Nat) : Int)) :: _) rfl ?_; clear hA; intro a hA
         refine wpList_nil ?_
         replace hA := hA.sel [5, 6, 8, 9, 10, 11, 12, 51] (e' := [(5, .pointer (some ⟨b2, 0, none⟩)), (6, .int .i64 ((1 + t : Nat) : Int)), (8, .int .i64 ((q : Nat) : Int)), (9, .bool false), (10, .iface 36 (.int .i64 15)), (11, .int .i64 (-1)), (12, .nilIface), (51, .bool (decide (((q : Nat) : Int) < ((1 + t : Nat) : Int))))]) rfl
         refine xt_norm ?_
         by_cases hc14 : ((q : Nat) : Int) < ((1 + t : Nat) : Int)
         · first
           | (exfalso; first | omega | (simp [prog_len]; omega))
           | (replace hA := hA.rw 51 (v' := .bool true) rfl (vb_true hc14)
              refine cd_cond_t hA rfl ?_
              refine wp_seq ?_
              refine wp_region_lit ?_
              refine st_run tbOk 4 hA (e' := (55, .iface 36 (.int .i64 15)) :: (54, .bool true) :: (53, .bool true) :: (52, .bool false) :: _) rfl ?_; clear hA; intro a hA
              refine st_call0 hA rfl rfl rfl isfn8 rfl rfl (by decide) (number_hit8 hS hg 15) ?_
              clear hA hS; rintro v w15 a ⟨rfl, hS⟩ hA
              refine st_run tbOk 6 hA (e' := (62, .bool (((q : Nat) : Int) == 0)) :: (61, .bool (((q : Nat) : Int) == 0)) :: (60, .int .i64 ((q : Nat) : Int)) :: (59, .bool true) :: (58, .bool true) :: (57, .bool true) :: _) rfl ?_; clear hA; intro a hA
              by_cases hc16 : ((q : Nat) : Int) = 0
              · first
                | (exfalso; first | omega | (simp [prog_len]; omega))
                | (replace hA := hA.rw 61 (v' := .bool true) rfl (vb_eq_t hc16)
                   replace hA := hA.rw 62 (v' := .bool true) rfl (vb_eq_t hc16)
                   refine st_run tbOk 7 hA (e' := (69, .bool (((1 + t : Nat) : Int) == 1)) :: (68, .bool (((1 + t : Nat) : Int) == 1)) :: (67, .int .i64 ((1 + t : Nat) : Int)) :: (66, .bool true) :: (65, .bool true) :: (64, .bool true) :: (63, .nilIface) :: _) rfl ?_; clear hA; intro a hA
                   by_cases hc17 : ((1 + t : Nat) : Int) = 1
                   · first
                     | (exfalso; first | omega | (simp [prog_len]; omega))
                     | (replace hA := hA.rw 68 (v' := .bool true) rfl (vb_eq_t hc17)
                        replace hA := hA.rw 69 (v' := .bool true) rfl (vb_eq_t hc17)
                        refine st_run tbOk 27 hA (e' := (4, .bool true) :: (95, .bool true) :: (94, .bool true) :: (93, undef) :: (92, undef) :: (91, undef) :: (90, undef) :: (89, undef) :: (88, undef) :: (87, undef) :: (86, undef) :: (85, undef) :: (84, undef) :: (83, undef) :: (82, .bool true) :: (81, .bool true) :: (80, .bool true) :: (79, undef) :: (78, undef) :: (77, undef) :: (76, undef) :: (75, undef) :: (74, undef) :: (73, .bool true) :: (72, .bool true) :: (71, .bool true) :: (70, .int .i64 (-1)) :: _) rfl ?_; clear hA; intro a hA
                        refine wpList_nil ?_
                        replace hA := hA.sel [4] (e' := [(4, .bool true)]) rfl
                        refine xt_norm ?_
                        refine wp_ret (xt_ret ?_)
                        refine ret1 (fn := Tryd.f4) hA rfl rfl ?_
                        replace hS := hS.drop1
                        exact ⟨rfl, hS⟩)
                   · first
                     | (exfalso; first | omega | (simp [prog_len]; omega))
                     | (replace hA := hA.rw 68 (v' := .bool false) rfl (vb_eq_f hc17)
                        replace hA := hA.rw 69 (v' := .bool false) rfl (vb_eq_f hc17)
                        refine st_run tbOk 7 hA (e' := (76, .bool (decide (((1 + t : Nat) : Int) > 1))) :: (75, .bool (decide (((1 + t : Nat) : Int) > 1))) :: (74, .int .i64 ((1 + t : Nat) : Int)) :: (73, .bool false) :: (72, .bool false) :: (71, undef) :: (70, undef) :: _) rfl ?_; clear hA; intro a hA
                        by_cases hc18 : ((1 + t : Nat) : Int) > 1
                        · first
                          | (exfalso; first | omega | (simp [prog_len]; omega))
                          | (replace hA := hA.rw 75 (v' := .bool true) rfl (vb_true hc18)
                             replace hA := hA.rw 76 (v' := .bool true) rfl (vb_true hc18)
                             refine st_run tbOk 9 hA (e' := (85, .bool (decide (((q : Nat) : Int) > 0))) :: (84, .bool (decide (((q : Nat) : Int) > 0))) :: (83, .int .i64 ((q : Nat) : Int)) :: (82, .bool false) :: (81, .bool false) :: (80, .bool false) :: (79, .bool false) :: (78, .bool false) :: (77, .int .i64 (-1)) :: _) rfl ?_; clear hA; intro a hA
                             by_cases hc19 : ((q : Nat) : Int) > 0
                             · first
                               | (exfalso; first | omega | (simp [prog_len]; omega))
                               | (replace hA := hA.rw 84 (v' := .bool true) rfl (vb_true hc19)
                                  replace hA := hA.rw 85 (v' := .bool true) rfl (vb_true hc19)
                                  refine st_run tbOk 5 hA (e' := (90, .nilIface) :: (89, .bool true) :: (88, .bool true) :: (87, .bool true) :: (86, .int .i64 (-1)) :: _) rfl ?_; clear hA; intro a hA
                                  refine st_call0 hA rfl rfl rfl isfn8 rfl rfl (by decide) (number_nil8 hS hg) ?_
                                  clear hA hS; rintro v w20 a ⟨rfl, hS⟩ hA
                                  refine st_run tbOk 5 hA (e' := (4, .bool false) :: (95, .bool false) :: (94, .bool false) :: (93, .bool false) :: (92, .bool false) :: _) rfl ?_; clear hA; intro a hA
                                  refine wpList_nil ?_
                                  replace hA := hA.sel [4] (e' := [(4, .bool false)]) rfl
                                  refine xt_norm ?_
                                  refine wp_ret (xt_ret ?_)
                                  refine ret1 (fn := Tryd.f4) hA rfl rfl ?_
                                  exfalso; omega)
                             · first
                               | (exfalso; first | omega | (simp [prog_len]; omega))
                               | (replace hA := hA.rw 84 (v' := .bool false) rfl (vb_false hc19)
                                  replace hA := hA.rw 85 (v' := .bool false) rfl (vb_false hc19)
                                  refine st_run tbOk 11 hA (e' := (4, .bool false) :: (95, .bool false) :: (94, .bool false) :: (93, .bool false) :: (92, undef) :: (91, undef) :: (90, undef) :: (89, .bool false) :: (88, .bool false) :: (87, undef) :: (86, undef) :: _) rfl ?_; clear hA; intro a hA
                                  refine wpList_nil ?_
                                  replace hA := hA.sel [4] (e' := [(4, .bool false)]) rfl
                                  refine xt_norm ?_
                                  refine wp_ret (xt_ret ?_)
                                  refine ret1 (fn := Tryd.f4) hA rfl rfl ?_
                                  exfalso; omega))
                        · first
                          | (exfalso; first | omega | (simp [prog_len]; omega))
                          | (replace hA := hA.rw 75 (v' := .bool false) rfl (vb_false hc18)
                             replace hA := hA.rw 76 (v' := .bool false) rfl (vb_false hc18)
                             refine st_run tbOk 9 hA (e' := (85, .bool (decide (((q : Nat) : Int) > 0))) :: (84, .bool (decide (((q : Nat) : Int) > 0))) :: (83, .int .i64 ((q : Nat) : Int)) :: (82, .bool false) :: (81, .bool false) :: (80, .bool false) :: (79, .bool false) :: (78, undef) :: (77, undef) :: _) rfl ?_; clear hA; intro a hA
                             by_cases hc21 : ((q : Nat) : Int) > 0
                             · first
                               | (exfalso; first | omega | (simp [prog_len]; omega))
                               | (replace hA := hA.rw 84 (v' := .bool true) rfl (vb_true hc21)
                                  replace hA := hA.rw 85 (v' := .bool true) rfl (vb_true hc21)
                                  refine st_run tbOk 5 hA (e' := (90, .nilIface) :: (89, .bool true) :: (88, .bool true) :: (87, .bool true) :: (86, .int .i64 (-1)) :: _) rfl ?_; clear hA; intro a hA
                                  refine st_call0 hA rfl rfl rfl isfn8 rfl rfl (by decide) (number_nil8 hS hg) ?_
                                  clear hA hS; rintro v w22 a ⟨rfl, hS⟩ hA
                                  refine st_run tbOk 5 hA (e' := (4, .bool false) :: (95, .bool false) :: (94, .bool false) :: (93, .bool false) :: (92, .bool false) :: _) rfl ?_; clear hA; intro a hA
                                  refine wpList_nil ?_
                                  replace hA := hA.sel [4] (e' := [(4, .bool false)]) rfl
                                  refine xt_norm ?_
                                  refine wp_ret (xt_ret ?_)
                                  refine ret1 (fn := Tryd.f4) hA rfl rfl ?_
                                  exfalso; omega)
                             · first
                               | (exfalso; first | omega | (simp [prog_len]; omega))
                               | (replace hA := hA.rw 84 (v' := .bool false) rfl (vb_false hc21)
                                  replace hA := hA.rw 85 (v' := .bool false) rfl (vb_false hc21)
                                  refine st_run tbOk 11 hA (e' := (4, .bool false) :: (95, .bool false) :: (94, .bool false) :: (93, .bool false) :: (92, undef) :: (91, undef) :: (90, undef) :: (89, .bool false) :: (88, .bool false) :: (87, undef) :: (86, undef) :: _) rfl ?_; clear hA; intro a hA
                                  refine wpList_nil ?_
                                  replace hA := hA.sel [4] (e' := [(4, .bool false)]) rfl
                                  refine xt_norm ?_
                                  refine wp_ret (xt_ret ?_)
                                  refine ret1 (fn := Tryd.f4) hA rfl rfl ?_
                                  exfalso; omega))))
              · first
                | (exfalso; first | omega | (simp [prog_len]; omega))
                | (replace hA := hA.rw 61 (v' := .bool false) rfl (vb_eq_f hc16)
                   replace hA := hA.rw 62 (v' := .bool false) rfl (vb_eq_f hc16)
                   refine st_run tbOk 23 hA (e' := (85, .bool (decide (((q : Nat) : Int) > 0))) :: (84, .bool (decide (((q : Nat) : Int) > 0))) :: (83, .int .i64 ((q : Nat) : Int)) :: (82, .bool false) :: (81, .bool false) :: (80, undef) :: (79, undef) :: (78, undef) :: (77, undef) :: (76, undef) :: (75, undef) :: (74, undef) :: (73, undef) :: (72, undef) :: (71, undef) :: (70, undef) :: (69, undef) :: (68, undef) :: (67, undef) :: (66, .bool false) :: (65, .bool false) :: (64, undef) :: (63, undef) :: _) rfl ?_; clear hA; intro a hA
                   by_cases hc23 : ((q : Nat) : Int) > 0
                   · first
                     | (exfalso; first | omega | (simp [prog_len]; omega))
                     | (replace hA := hA.rw 84 (v' := .bool true) rfl (vb_true hc23)
                        replace hA := hA.rw 85 (v' := .bool true) rfl (vb_true hc23)
                        refine st_run tbOk 5 hA (e' := (90, .nilIface) :: (89, .bool true) :: (88, .bool true) :: (87, .bool true) :: (86, .int .i64 (-1)) :: _) rfl ?_; clear hA; intro a hA
                        refine st_call0 hA rfl rfl rfl isfn8 rfl rfl (by decide) (number_nil8 hS hg) ?_
                        clear hA hS; rintro v w24 a ⟨rfl, hS⟩ hA
                        refine st_run tbOk 5 hA (e' := (4, .bool false) :: (95, .bool false) :: (94, .bool false) :: (93, .bool false) :: (92, .bool false) :: _) rfl ?_; clear hA; intro a hA
                        refine wpList_nil ?_
                        replace hA := hA.sel [4] (e' := [(4, .bool false)]) rfl
                        refine xt_norm ?_
                        refine wp_ret (xt_ret ?_)
                        refine ret1 (fn := Tryd.f4) hA rfl rfl ?_
                        exfalso; omega)
                   · first
                     | (exfalso; first | omega | (simp [prog_len]; omega))
                     | (replace hA := hA.rw 84 (v' := .bool false) rfl (vb_false hc23)
                        replace hA := hA.rw 85 (v' := .bool false) rfl (vb_false hc23)
                        refine st_run tbOk 11 hA (e' := (4, .bool false) :: (95, .bool false) :: (94, .bool false) :: (93, .bool false) :: (92, undef) :: (91, undef) :: (90, undef) :: (89, .bool false) :: (88, .bool false) :: (87, undef) :: (86, undef) :: _) rfl ?_; clear hA; intro a hA
                        refine wpList_nil ?_
                        replace hA := hA.sel [4] (e' := [(4, .bool false)]) rfl
                        refine xt_norm ?_
                        refine wp_ret (xt_ret ?_)
                        refine ret1 (fn := Tryd.f4) hA rfl rfl ?_
                        exfalso; omega)))
         · first
           | (exfalso; first | omega | (simp [prog_len]; omega))
           | (replace hA := hA.rw 51 (v' := .bool false) rfl (vb_false hc14)
              refine cd_cond_f hA rfl ?_
              refine wp_skip ?_
              refine xt_norm ?_
              refine wp_seq ?_
              refine wp_region_lit ?_
              refine st_run tbOk 19 hA (e' := (114, undef) :: (113, undef) :: (112, undef) :: (111, .bool false) :: (110, .bool false) :: (109, undef) :: (108, undef) :: (107, undef) :: (106, .bool false) :: (105, .bool false) :: (104, undef) :: (103, undef) :: (102, .bool false) :: (101, .bool false) :: (100, .bool false) :: (99, .iface 36 (.int .i64 15)) :: (98, .bool true) :: (97, .bool true) :: (96, .bool false) :: _) rfl ?_; clear hA; intro a hA
              refine st_run tbOk 4 hA (e' := (4, .bool false) :: (117, .bool false) :: (116, undef) :: (115, undef) :: _) rfl ?_; clear hA; intro a hA
              refine wpList_nil ?_
              replace hA := hA.sel [4] (e' := [(4, .bool false)]) rfl
              refine xt_norm ?_
              refine wp_ret ?_
              refine ret1 (fn := Tryd.f4) hA rfl rfl ?_
              exfalso; omega)
       · refine st_run tbOk 2 hA (e' := (39, .int .i64 ((q : Nat) : Int)) :: (38, .pointer (some ⟨b2, 0, none⟩)) :: _) rfl ?_; clear hA; intro a hA
         refine st_call0 hA rfl rfl rfl isfn7 rfl rfl (by decide) (lockR_in hS hM ((q : Nat) : Int) (by omega) (in_any (by omega))) ?_
         clear hA hS hM; rintro v w26 a ⟨L25, hM, rfl, hS⟩ hA
         refine st_run tbOk 5 hA (e' := (10, .iface 36 (.int .i64 15)) :: (9, .bool false) :: (42, .iface 36 (.int .i64 15)) :: (41, .bool false) :: (37, .tuple #[.bool false, .iface 36 (.int .i64 15)]) :: _) rfl ?_; clear hA; intro a hA
         refine wpList_nil ?_
         replace hA := hA.sel [5, 6, 8, 9, 10] (e' := [(5, .pointer (some ⟨b2, 0, none⟩)), (6, .int .i64 ((1 + t : Nat) : Int)), (8, .int .i64 ((q : Nat) : Int)), (9, .bool false), (10, .iface 36 (.int .i64 15))]) rfl
         refine xt_norm ?_
         refine wp_seq ?_
         refine wp_region_lit ?_
         have hrw : prog 1 (1 + t) = ((q : Nat) : Int) :: (prog 1 (1 + t)).drop 1 := head0 (by omega) (by omega)
         rw [hrw] at hM
         clear hrw
         refine st_run tbOk 2 hA (e' := (45, .int .i64 ((q : Nat) : Int)) :: (44, .pointer (some ⟨b2, 0, none⟩)) :: _) rfl ?_; clear hA; intro a hA
         refine st_call0 hA rfl rfl rfl isfn9 rfl rfl (by decide) (unlockR_ok hS hM (by omega)) ?_
         clear hA hS hM; rintro v w28 a ⟨L27, hM, rfl, hS⟩ hA
         refine st_run tbOk 5 hA (e' := (12, .nilIface) :: (11, .int .i64 (first ((prog 1 (1 + t)).drop 1))) :: (48, .nilIface) :: (47, .int .i64 (first ((prog 1 (1 + t)).drop 1))) :: (43, .tuple #[.int .i64 (first ((prog 1 (1 + t)).drop 1)), .nilIface]) :: _) rfl ?_; clear hA; intro a hA
         refine wpList_nil ?_
         replace hA := hA.sel [5, 6, 8, 9, 10, 11, 12] (e' := [(5, .pointer (some ⟨b2, 0, none⟩)), (6, .int .i64 ((1 + t : Nat) : Int)), (8, .int .i64 ((q : Nat) : Int)), (9, .bool false), (10, .iface 36 (.int .i64 15)), (11, .int .i64 (first ((prog 1 (1 + t)).drop 1))), (12, .nilIface)]) rfl
         refine xt_norm ?_
         refine wp_seq ?_
         refine wp_seq ?_
         refine wp_region_lit ?_
         replace hA := hA.rw 11 (v' := .int .i64 1) rfl (by rw [first_drop2 h2])
         refine st_run tbOk 3 hA (e' := (51, .bool (decide (((q : Nat) : Int) < ((1 + t : Nat) : Int)))) :: (50, .int .i64 ((1 + t : Nat) : Int)) :: (49, .int .i64 ((q : Nat) : Int)) :: _) rfl ?_; clear hA; intro a hA
         refine wpList_nil ?_
         replace hA := hA.sel [5, 6, 8, 9, 10, 11, 12, 51] (e' := [(5, .pointer (some ⟨b2, 0, none⟩)), (6, .int .i64 ((1 + t : Nat) : Int)), (8, .int .i64 ((q : Nat) : Int)), (9, .bool false), (10, .iface 36 (.int .i64 15)), (11, .int .i64 1), (12, .nilIface), (51, .bool (decide (((q : Nat) : Int) < ((1 + t : Nat) : Int))))]) rfl
         refine xt_norm ?_
         by_cases hc29 : ((q : Nat) : Int) < ((1 + t : Nat) : Int)
         · first
           | (exfalso; first | omega | (simp [prog_len]; omega))
           | (replace hA := hA.rw 51 (v' := .bool true) rfl (vb_true hc29)
              refine cd_cond_t hA rfl ?_
              refine wp_seq ?_
              refine wp_region_lit ?_
              refine st_run tbOk 4 hA (e' := (55, .iface 36 (.int .i64 15)) :: (54, .bool true) :: (53, .bool true) :: (52, .bool false) :: _) rfl ?_; clear hA; intro a hA
              refine st_call0 hA rfl rfl rfl isfn8 rfl rfl (by decide) (number_hit8 hS hg 15) ?_
              clear hA hS; rintro v w30 a ⟨rfl, hS⟩ hA
              refine st_run tbOk 6 hA (e' := (62, .bool (((q : Nat) : Int) == 0)) :: (61, .bool (((q : Nat) : Int) == 0)) :: (60, .int .i64 ((q : Nat) : Int)) :: (59, .bool true) :: (58, .bool true) :: (57, .bool true) :: _) rfl ?_; clear hA; intro a hA
              by_cases hc31 : ((q : Nat) : Int) = 0
              · first
                | (exfalso; first | omega | (simp [prog_len]; omega))
                | (replace hA := hA.rw 61 (v' := .bool true) rfl (vb_eq_t hc31)
                   replace hA := hA.rw 62 (v' := .bool true) rfl (vb_eq_t hc31)
                   refine st_run tbOk 7 hA (e' := (69, .bool (((1 + t : Nat) : Int) == 1)) :: (68, .bool (((1 + t : Nat) : Int) == 1)) :: (67, .int .i64 ((1 + t : Nat) : Int)) :: (66, .bool true) :: (65, .bool true) :: (64, .bool true) :: (63, .nilIface) :: _) rfl ?_; clear hA; intro a hA
                   by_cases hc32 : ((1 + t : Nat) : Int) = 1
                   · first
                     | (exfalso; first | omega | (simp [prog_len]; omega))
                     | (replace hA := hA.rw 68 (v' := .bool true) rfl (vb_eq_t hc32)
                        replace hA := hA.rw 69 (v' := .bool true) rfl (vb_eq_t hc32)
                        refine st_run tbOk 7 hA (e' := (76, .bool (decide (((1 + t : Nat) : Int) > 1))) :: (75, .bool (decide (((1 + t : Nat) : Int) > 1))) :: (74, .int .i64 ((1 + t : Nat) : Int)) :: (73, .bool false) :: (72, .bool false) :: (71, .bool false) :: (70, .int .i64 1) :: _) rfl ?_; clear hA; intro a hA
                        by_cases hc33 : ((1 + t : Nat) : Int) > 1
                        · first
                          | (exfalso; first | omega | (simp [prog_len]; omega))
                          | (replace hA := hA.rw 75 (v' := .bool true) rfl (vb_true hc33)
                             replace hA := hA.rw 76 (v' := .bool true) rfl (vb_true hc33)
                             refine st_run tbOk 20 hA (e' := (4, .bool true) :: (95, .bool true) :: (94, .bool true) :: (93, undef) :: (92, undef) :: (91, undef) :: (90, undef) :: (89, undef) :: (88, undef) :: (87, undef) :: (86, undef) :: (85, undef) :: (84, undef) :: (83, undef) :: (82, .bool true) :: (81, .bool true) :: (80, .bool true) :: (79, .bool true) :: (78, .bool true) :: (77, .int .i64 1) :: _) rfl ?_; clear hA; intro a hA
                             refine wpList_nil ?_
                             replace hA := hA.sel [4] (e' := [(4, .bool true)]) rfl
                             refine xt_norm ?_
                             refine wp_ret (xt_ret ?_)
                             refine ret1 (fn := Tryd.f4) hA rfl rfl ?_
                             replace hS := hS.drop1
                             exact ⟨rfl, hS⟩)
                        · first
                          | (exfalso; first | omega | (simp [prog_len]; omega))
                          | (replace hA := hA.rw 75 (v' := .bool false) rfl (vb_false hc33)
                             replace hA := hA.rw 76 (v' := .bool false) rfl (vb_false hc33)
                             refine st_run tbOk 9 hA (e' := (85, .bool (decide (((q : Nat) : Int) > 0))) :: (84, .bool (decide (((q : Nat) : Int) > 0))) :: (83, .int .i64 ((q : Nat) : Int)) :: (82, .bool false) :: (81, .bool false) :: (80, .bool false) :: (79, .bool false) :: (78, undef) :: (77, undef) :: _) rfl ?_; clear hA; intro a hA
                             by_cases hc34 : ((q : Nat) : Int) > 0
                             · first
                               | (exfalso; first | omega | (simp [prog_len]; omega))
                               | (replace hA := hA.rw 84 (v' := .bool true) rfl (vb_true hc34)
                                  replace hA := hA.rw 85 (v' := .bool true) rfl (vb_true hc34)
                                  refine st_run tbOk 11 hA (e' := (4, .bool false) :: (95, .bool false) :: (94, .bool false) :: (93, .bool false) :: (92, undef) :: (91, undef) :: (90, undef) :: (89, .bool false) :: (88, .bool false) :: (87, .bool false) :: (86, .int .i64 1) :: _) rfl ?_; clear hA; intro a hA
                                  refine wpList_nil ?_
                                  replace hA := hA.sel [4] (e' := [(4, .bool false)]) rfl
                                  refine xt_norm ?_
                                  refine wp_ret (xt_ret ?_)
                                  refine ret1 (fn := Tryd.f4) hA rfl rfl ?_
                                  exfalso; omega)
                             · first
                               | (exfalso; first | omega | (simp [prog_len]; omega))
                               | (replace hA := hA.rw 84 (v' := .bool false) rfl (vb_false hc34)
                                  replace hA := hA.rw 85 (v' := .bool false) rfl (vb_false hc34)
                                  refine st_run tbOk 11 hA (e' := (4, .bool false) :: (95, .bool false) :: (94, .bool false) :: (93, .bool false) :: (92, undef) :: (91, undef) :: (90, undef) :: (89, .bool false) :: (88, .bool false) :: (87, undef) :: (86, undef) :: _) rfl ?_; clear hA; intro a hA
                                  refine wpList_nil ?_
                                  replace hA := hA.sel [4] (e' := [(4, .bool false)]) rfl
                                  refine xt_norm ?_
                                  refine wp_ret (xt_ret ?_)
                                  refine ret1 (fn := Tryd.f4) hA rfl rfl ?_
                                  exfalso; omega)))
                   · first
                     | (exfalso; first | omega | (simp [prog_len]; omega))
                     | (replace hA := hA.rw 68 (v' := .bool false) rfl (vb_eq_f hc32)
                        replace hA := hA.rw 69 (v' := .bool false) rfl (vb_eq_f hc32)
                        refine st_run tbOk 7 hA (e' := (76, .bool (decide (((1 + t : Nat) : Int) > 1))) :: (75, .bool (decide (((1 + t : Nat) : Int) > 1))) :: (74, .int .i64 ((1 + t : Nat) : Int)) :: (73, .bool false) :: (72, .bool false) :: (71, undef) :: (70, undef) :: _) rfl ?_; clear hA; intro a hA
                        by_cases hc35 : ((1 + t : Nat) : Int) > 1
                        · first
                          | (exfalso; first | omega | (simp [prog_len]; omega))
                          | (replace hA := hA.rw 75 (v' := .bool true) rfl (vb_true hc35)
                             replace hA := hA.rw 76 (v' := .bool true) rfl (vb_true hc35)
                             refine st_run tbOk 20 hA (e' := (4, .bool true) :: (95, .bool true) :: (94, .bool true) :: (93, undef) :: (92, undef) :: (91, undef) :: (90, undef) :: (89, undef) :: (88, undef) :: (87, undef) :: (86, undef) :: (85, undef) :: (84, undef) :: (83, undef) :: (82, .bool true) :: (81, .bool true) :: (80, .bool true) :: (79, .bool true) :: (78, .bool true) :: (77, .int .i64 1) :: _) rfl ?_; clear hA; intro a hA
                             refine wpList_nil ?_
                             replace hA := hA.sel [4] (e' := [(4, .bool true)]) rfl
                             refine xt_norm ?_
                             refine wp_ret (xt_ret ?_)
                             refine ret1 (fn := Tryd.f4) hA rfl rfl ?_
                             replace hS := hS.drop1
                             exact ⟨rfl, hS⟩)
                        · first
                          | (exfalso; first | omega | (simp [prog_len]; omega))
                          | (replace hA := hA.rw 75 (v' := .bool false) rfl (vb_false hc35)
                             replace hA := hA.rw 76 (v' := .bool false) rfl (vb_false hc35)
                             refine st_run tbOk 9 hA (e' := (85, .bool (decide (((q : Nat) : Int) > 0))) :: (84, .bool (decide (((q : Nat) : Int) > 0))) :: (83, .int .i64 ((q : Nat) : Int)) :: (82, .bool false) :: (81, .bool false) :: (80, .bool false) :: (79, .bool false) :: (78, undef) :: (77, undef) :: _) rfl ?_; clear hA; intro a hA
                             by_cases hc36 : ((q : Nat) : Int) > 0
                             · first
                               | (exfalso; first | omega | (simp [prog_len]; omega))
                               | (replace hA := hA.rw 84 (v' := .bool true) rfl (vb_true hc36)
                                  replace hA := hA.rw 85 (v' := .bool true) rfl (vb_true hc36)
                                  refine st_run tbOk 11 hA (e' := (4, .bool false) :: (95, .bool false) :: (94, .bool false) :: (93, .bool false) :: (92, undef) :: (91, undef) :: (90, undef) :: (89, .bool false) :: (88, .bool false) :: (87, .bool false) :: (86, .int .i64 1) :: _) rfl ?_; clear hA; intro a hA
                                  refine wpList_nil ?_
                                  replace hA := hA.sel [4] (e' := [(4, .bool false)]) rfl
                                  refine xt_norm ?_
                                  refine wp_ret (xt_ret ?_)
                                  refine ret1 (fn := Tryd.f4) hA rfl rfl ?_
                                  exfalso; omega)
                             · first
                               | (exfalso; first | omega | (simp [prog_len]; omega))
                               | (replace hA := hA.rw 84 (v' := .bool false) rfl (vb_false hc36)
                                  replace hA := hA.rw 85 (v' := .bool false) rfl (vb_false hc36)
                                  refine st_run tbOk 11 hA (e' := (4, .bool false) :: (95, .bool false) :: (94, .bool false) :: (93, .bool false) :: (92, undef) :: (91, undef) :: (90, undef) :: (89, .bool false) :: (88, .bool false) :: (87, undef) :: (86, undef) :: _) rfl ?_; clear hA; intro a hA
                                  refine wpList_nil ?_
                                  replace hA := hA.sel [4] (e' := [(4, .bool false)]) rfl
                                  refine xt_norm ?_
                                  refine wp_ret (xt_ret ?_)
                                  refine ret1 (fn := Tryd.f4) hA rfl rfl ?_
                                  exfalso; omega))))
              · first
                | (exfalso; first | omega | (simp [prog_len]; omega))
                | (replace hA := hA.rw 61 (v' := .bool false) rfl (vb_eq_f hc31)
                   replace hA := hA.rw 62 (v' := .bool false) rfl (vb_eq_f hc31)
                   refine st_run tbOk 23 hA (e' := (85, .bool (decide (((q : Nat) : Int) > 0))) :: (84, .bool (decide (((q : Nat) : Int) > 0))) :: (83, .int .i64 ((q : Nat) : Int)) :: (82, .bool false) :: (81, .bool false) :: (80, undef) :: (79, undef) :: (78, undef) :: (77, undef) :: (76, undef) :: (75, undef) :: (74, undef) :: (73, undef) :: (72, undef) :: (71, undef) :: (70, undef) :: (69, undef) :: (68, undef) :: (67, undef) :: (66, .bool false) :: (65, .bool false) :: (64, undef) :: (63, undef) :: _) rfl ?_; clear hA; intro a hA
                   by_cases hc37 : ((q : Nat) : Int) > 0
                   · first
                     | (exfalso; first | omega | (simp [prog_len]; omega))
                     | (replace hA := hA.rw 84 (v' := .bool true) rfl (vb_true hc37)
                        replace hA := hA.rw 85 (v' := .bool true) rfl (vb_true hc37)
                        refine st_run tbOk 11 hA (e' := (4, .bool false) :: (95, .bool false) :: (94, .bool false) :: (93, .bool false) :: (92, undef) :: (91, undef) :: (90, undef) :: (89, .bool false) :: (88, .bool false) :: (87, .bool false) :: (86, .int .i64 1) :: _) rfl ?_; clear hA; intro a hA
                        refine wpList_nil ?_
                        replace hA := hA.sel [4] (e' := [(4, .bool false)]) rfl
                        refine xt_norm ?_
                        refine wp_ret (xt_ret ?_)
                        refine ret1 (fn := Tryd.f4) hA rfl rfl ?_
                        exfalso; omega)
                   · first
                     | (exfalso; first | omega | (simp [prog_len]; omega))
                     | (replace hA := hA.rw 84 (v' := .bool false) rfl (vb_false hc37)
                        replace hA := hA.rw 85 (v' := .bool false) rfl (vb_false hc37)
                        refine st_run tbOk 11 hA (e' := (4, .bool false) :: (95, .bool false) :: (94, .bool false) :: (93, .bool false) :: (92, undef) :: (91, undef) :: (90, undef) :: (89, .bool false) :: (88, .bool false) :: (87, undef) :: (86, undef) :: _) rfl ?_; clear hA; intro a hA
                        refine wpList_nil ?_
                        replace hA := hA.sel [4] (e' := [(4, .bool false)]) rfl
                        refine xt_norm ?_
                        refine wp_ret (xt_ret ?_)
                        refine ret1 (fn := Tryd.f4) hA rfl rfl ?_
                        exfalso; omega)))
         · first
           | (exfalso; first | omega | (simp [prog_len]; omega))
           | (replace hA := hA.rw 51 (v' := .bool false) rfl (vb_false hc29)
              refine cd_cond_f hA rfl ?_
              refine wp_skip ?_
              refine xt_norm ?_
              refine wp_seq ?_
              refine wp_region_lit ?_
              refine st_run tbOk 19 hA (e' := (114, undef) :: (113, undef) :: (112, undef) :: (111, .bool false) :: (110, .bool false) :: (109, undef) :: (108, undef) :: (107, undef) :: (106, .bool false) :: (105, .bool false) :: (104, undef) :: (103, undef) :: (102, .bool false) :: (101, .bool false) :: (100, .bool false) :: (99, .iface 36 (.int .i64 15)) :: (98, .bool true) :: (97, .bool true) :: (96, .bool false) :: _) rfl ?_; clear hA; intro a hA
              refine st_run tbOk 4 hA (e' := (4, .bool false) :: (117, .bool false) :: (116, undef) :: (115, undef) :: _) rfl ?_; clear hA; intro a hA
              refine wpList_nil ?_
              replace hA := hA.sel [4] (e' := [(4, .bool false)]) rfl
              refine xt_norm ?_
              refine wp_ret ?_
              refine ret1 (fn := Tryd.f4) hA rfl rfl ?_
              exfalso; omega)
       · refine st_run tbOk 2 hA (e' := (39, .int .i64 ((q : Nat) : Int)) :: (38, .pointer (some ⟨b2, 0, none⟩)) :: _) rfl ?_; clear hA; intro a hA
         refine st_call0 hA rfl rfl rfl isfn7 rfl rfl (by decide) (lockR_in hS hM ((q : Nat) : Int) (by omega) (in_any (by omega))) ?_
         clear hA hS hM; rintro v w39 a ⟨L38, hM, rfl, hS⟩ hA
         refine st_run tbOk 5 hA (e' := (10, .iface 36 (.int .i64 15)) :: (9, .bool false) :: (42, .iface 36 (.int .i64 15)) :: (41, .bool false) :: (37, .tuple #[.bool false, .iface 36 (.int .i64 15)]) :: _) rfl ?_; clear hA; intro a hA
         refine wpList_nil ?_
         replace hA := hA.sel [5, 6, 8, 9, 10] (e' := [(5, .pointer (some ⟨b2, 0, none⟩)), (6, .int .i64 ((1 + t : Nat) : Int)), (8, .int .i64 ((q : Nat) : Int)), (9, .bool false), (10, .iface 36 (.int .i64 15))]) rfl
         refine xt_norm ?_
         refine wp_seq ?_
         refine wp_region_lit ?_
         refine st_run tbOk 2 hA (e' := (45, .int .i64 ((q : Nat) : Int)) :: (44, .pointer (some ⟨b2, 0, none⟩)) :: _) rfl ?_; clear hA; intro a hA
         refine st_call0 hA rfl rfl rfl isfn9 rfl rfl (by decide) (unlockR_not hS hM ((q : Nat) : Int) (notfirst (by omega) (by omega))) ?_
         clear hA hS hM; rintro v w41 a ⟨L40, hM, rfl, hS⟩ hA
         refine st_run tbOk 5 hA (e' := (12, .iface 36 (.int .i64 15)) :: (11, .int .i64 (-1)) :: (48, .iface 36 (.int .i64 15)) :: (47, .int .i64 (-1)) :: (43, .tuple #[.int .i64 (-1), .iface 36 (.int .i64 15)]) :: _) rfl ?_; clear hA; intro a hA
         refine wpList_nil ?_
         replace hA := hA.sel [5, 6, 8, 9, 10, 11, 12] (e' := [(5, .pointer (some ⟨b2, 0, none⟩)), (6, .int .i64 ((1 + t : Nat) : Int)), (8, .int .i64 ((q : Nat) : Int)), (9, .bool false), (10, .iface 36 (.int .i64 15)), (11, .int .i64 (-1)), (12, .iface 36 (.int .i64 15))]) rfl
         refine xt_norm ?_
         refine wp_seq ?_
         refine wp_seq ?_
         refine wp_region_lit ?_
         refine st_run tbOk 3 hA (e' := (51, .bool (decide (((q : Nat) : Int) < ((1 + t : Nat) : Int)))) :: (50, .int .i64 ((1 + t : Nat) : Int)) :: (49, .int .i64 ((q : Nat) : Int)) :: _) rfl ?_; clear hA; intro a hA
         refine wpList_nil ?_
         replace hA := hA.sel [5, 6, 8, 9, 10, 11, 12, 51] (e' := [(5, .pointer (some ⟨b2, 0, none⟩)), (6, .int .i64 ((1 + t : Nat) : Int)), (8, .int .i64 ((q : Nat) : Int)), (9, .bool false), (10, .iface 36 (.int .i64 15)), (11, .int .i64 (-1)), (12, .iface 36 (.int .i64 15)), (51, .bool (decide (((q : Nat) : Int) < ((1 + t : Nat) : Int))))]) rfl
         refine xt_norm ?_
         by_cases hc42 : ((q : Nat) : Int) < ((1 + t : Nat) : Int)
         · first
           | (exfalso; first | omega | (simp [prog_len]; omega))
           | (replace hA := hA.rw 51 (v' := .bool true) rfl (vb_true hc42)
              refine cd_cond_t hA rfl ?_
              refine wp_seq ?_
              refine wp_region_lit ?_
              refine st_run tbOk 4 hA (e' := (55, .iface 36 (.int .i64 15)) :: (54, .bool true) :: (53, .bool true) :: (52, .bool false) :: _) rfl ?_; clear hA; intro a hA
              refine st_call0 hA rfl rfl rfl isfn8 rfl rfl (by decide) (number_hit8 hS hg 15) ?_
              clear hA hS; rintro v w43 a ⟨rfl, hS⟩ hA
              refine st_run tbOk 6 hA (e' := (62, .bool (((q : Nat) : Int) == 0)) :: (61, .bool (((q : Nat) : Int) == 0)) :: (60, .int .i64 ((q : Nat) : Int)) :: (59, .bool true) :: (58, .bool true) :: (57, .bool true) :: _) rfl ?_; clear hA; intro a hA
              by_cases hc44 : ((q : Nat) : Int) = 0
              · first
                | (exfalso; first | omega | (simp [prog_len]; omega))
                | (replace hA := hA.rw 61 (v' := .bool true) rfl (vb_eq_t hc44)
                   replace hA := hA.rw 62 (v' := .bool true) rfl (vb_eq_t hc44)
                   refine st_run tbOk 23 hA (e' := (85, .bool (decide (((q : Nat) : Int) > 0))) :: (84, .bool (decide (((q : Nat) : Int) > 0))) :: (83, .int .i64 ((q : Nat) : Int)) :: (82, .bool false) :: (81, .bool false) :: (80, undef) :: (79, undef) :: (78, undef) :: (77, undef) :: (76, undef) :: (75, undef) :: (74, undef) :: (73, undef) :: (72, undef) :: (71, undef) :: (70, undef) :: (69, undef) :: (68, undef) :: (67, undef) :: (66, .bool false) :: (65, .bool false) :: (64, .bool false) :: (63, .iface 36 (.int .i64 15)) :: _) rfl ?_; clear hA; intro a hA
                   by_cases hc45 : ((q : Nat) : Int) > 0
                   · first
                     | (exfalso; first | omega | (simp [prog_len]; omega))
                     | (replace hA := hA.rw 84 (v' := .bool true) rfl (vb_true hc45)
                        replace hA := hA.rw 85 (v' := .bool true) rfl (vb_true hc45)
                        refine st_run tbOk 5 hA (e' := (90, .iface 36 (.int .i64 15)) :: (89, .bool true) :: (88, .bool true) :: (87, .bool true) :: (86, .int .i64 (-1)) :: _) rfl ?_; clear hA; intro a hA
                        refine st_call0 hA rfl rfl rfl isfn8 rfl rfl (by decide) (number_hit8 hS hg 15) ?_
                        clear hA hS; rintro v w46 a ⟨rfl, hS⟩ hA
                        refine st_run tbOk 5 hA (e' := (4, .bool true) :: (95, .bool true) :: (94, .bool true) :: (93, .bool true) :: (92, .bool true) :: _) rfl ?_; clear hA; intro a hA
                        refine wpList_nil ?_
                        replace hA := hA.sel [4] (e' := [(4, .bool true)]) rfl
                        refine xt_norm ?_
                        refine wp_ret (xt_ret ?_)
                        refine ret1 (fn := Tryd.f4) hA rfl rfl ?_
                        replace hS := hS.drop1
                        exact ⟨rfl, hS⟩)
                   · first
                     | (exfalso; first | omega | (simp [prog_len]; omega))
                     | (replace hA := hA.rw 84 (v' := .bool false) rfl (vb_false hc45)
                        replace hA := hA.rw 85 (v' := .bool false) rfl (vb_false hc45)
                        refine st_run tbOk 11 hA (e' := (4, .bool false) :: (95, .bool false) :: (94, .bool false) :: (93, .bool false) :: (92, undef) :: (91, undef) :: (90, undef) :: (89, .bool false) :: (88, .bool false) :: (87, undef) :: (86, undef) :: _) rfl ?_; clear hA; intro a hA
                        refine wpList_nil ?_
                        replace hA := hA.sel [4] (e' := [(4, .bool false)]) rfl
                        refine xt_norm ?_
                        refine wp_ret (xt_ret ?_)
                        refine ret1 (fn := Tryd.f4) hA rfl rfl ?_
                        exfalso; omega))
              · first
                | (exfalso; first | omega | (simp [prog_len]; omega))
                | (replace hA := hA.rw 61 (v' := .bool false) rfl (vb_eq_f hc44)
                   replace hA := hA.rw 62 (v' := .bool false) rfl (vb_eq_f hc44)
                   refine st_run tbOk 23 hA (e' := (85, .bool (decide (((q : Nat) : Int) > 0))) :: (84, .bool (decide (((q : Nat) : Int) > 0))) :: (83, .int .i64 ((q : Nat) : Int)) :: (82, .bool false) :: (81, .bool false) :: (80, undef) :: (79, undef) :: (78, undef) :: (77, undef) :: (76, undef) :: (75, undef) :: (74, undef) :: (73, undef) :: (72, undef) :: (71, undef) :: (70, undef) :: (69, undef) :: (68, undef) :: (67, undef) :: (66, .bool false) :: (65, .bool false) :: (64, undef) :: (63, undef) :: _) rfl ?_; clear hA; intro a hA
                   by_cases hc47 : ((q : Nat) : Int) > 0
                   · first
                     | (exfalso; first | omega | (simp [prog_len]; omega))
                     | (replace hA := hA.rw 84 (v' := .bool true) rfl (vb_true hc47)
                        replace hA := hA.rw 85 (v' := .bool true) rfl (vb_true hc47)
                        refine st_run tbOk 5 hA (e' := (90, .iface 36 (.int .i64 15)) :: (89, .bool true) :: (88, .bool true) :: (87, .bool true) :: (86, .int .i64 (-1)) :: _) rfl ?_; clear hA; intro a hA
                        refine st_call0 hA rfl rfl rfl isfn8 rfl rfl (by decide) (number_hit8 hS hg 15) ?_
                        clear hA hS; rintro v w48 a ⟨rfl, hS⟩ hA
                        refine st_run tbOk 5 hA (e' := (4, .bool true) :: (95, .bool true) :: (94, .bool true) :: (93, .bool true) :: (92, .bool true) :: _) rfl ?_; clear hA; intro a hA
                        refine wpList_nil ?_
                        replace hA := hA.sel [4] (e' := [(4, .bool true)]) rfl
                        refine xt_norm ?_
                        refine wp_ret (xt_ret ?_)
                        refine ret1 (fn := Tryd.f4) hA rfl rfl ?_
                        replace hS := hS.drop1
                        exact ⟨rfl, hS⟩)
                   · first
                     | (exfalso; first | omega | (simp [prog_len]; omega))
                     | (replace hA := hA.rw 84 (v' := .bool false) rfl (vb_false hc47)
                        replace hA := hA.rw 85 (v' := .bool false) rfl (vb_false hc47)
                        refine st_run tbOk 11 hA (e' := (4, .bool false) :: (95, .bool false) :: (94, .bool false) :: (93, .bool false) :: (92, undef) :: (91, undef) :: (90, undef) :: (89, .bool false) :: (88, .bool false) :: (87, undef) :: (86, undef) :: _) rfl ?_; clear hA; intro a hA
                        refine wpList_nil ?_
                        replace hA := hA.sel [4] (e' := [(4, .bool false)]) rfl
                        refine xt_norm ?_
                        refine wp_ret (xt_ret ?_)
                        refine ret1 (fn := Tryd.f4) hA rfl rfl ?_
                        exfalso; omega)))
         · first
           | (exfalso; first | omega | (simp [prog_len]; omega))
           | (replace hA := hA.rw 51 (v' := .bool false) rfl (vb_false hc42)
              refine cd_cond_f hA rfl ?_
              refine wp_skip ?_
              refine xt_norm ?_
              refine wp_seq ?_
              refine wp_region_lit ?_
              refine st_run tbOk 19 hA (e' := (114, undef) :: (113, undef) :: (112, undef) :: (111, .bool false) :: (110, .bool false) :: (109, undef) :: (108, undef) :: (107, undef) :: (106, .bool false) :: (105, .bool false) :: (104, undef) :: (103, undef) :: (102, .bool false) :: (101, .bool false) :: (100, .bool false) :: (99, .iface 36 (.int .i64 15)) :: (98, .bool true) :: (97, .bool true) :: (96, .bool false) :: _) rfl ?_; clear hA; intro a hA
              refine st_run tbOk 4 hA (e' := (4, .bool false) :: (117, .bool false) :: (116, undef) :: (115, undef) :: _) rfl ?_; clear hA; intro a hA
              refine wpList_nil ?_
              replace hA := hA.sel [4] (e' := [(4, .bool false)]) rfl
              refine xt_norm ?_
              refine wp_ret ?_
              refine ret1 (fn := Tryd.f4) hA rfl rfl ?_
              exfalso; omega)
       · refine st_run tbOk 2 hA (e' := (39, .int .i64 ((q : Nat) : Int)) :: (38, .pointer (some ⟨b2, 0, none⟩)) :: _) rfl ?_; clear hA; intro a hA
         refine st_call0 hA rfl rfl rfl isfn7 rfl rfl (by decide) (lockR_ok hS hM ((q : Nat) : Int) (by omega) (notin (by omega)) (by rw [prog_len]; omega)) ?_
         clear hA hS hM; rintro v w50 a ⟨L49, hM, rfl, hS⟩ hA
         refine st_run tbOk 5 hA (e' := (10, .nilIface) :: (9, .bool ((prog 1 (1 + t)).isEmpty)) :: (42, .nilIface) :: (41, .bool ((prog 1 (1 + t)).isEmpty)) :: (37, .tuple #[.bool ((prog 1 (1 + t)).isEmpty), .nilIface]) :: _) rfl ?_; clear hA; intro a hA
         refine wpList_nil ?_
         replace hA := hA.sel [5, 6, 8, 9, 10] (e' := [(5, .pointer (some ⟨b2, 0, none⟩)), (6, .int .i64 ((1 + t : Nat) : Int)), (8, .int .i64 ((q : Nat) : Int)), (9, .bool ((prog 1 (1 + t)).isEmpty)), (10, .nilIface)]) rfl
         refine xt_norm ?_
         refine wp_seq ?_
         refine wp_region_lit ?_
         replace hA := hA.rw 9 (v' := .bool false) rfl (by rw [ne_empty (by omega)])
         refine st_run tbOk 2 hA (e' := (45, .int .i64 ((q : Nat) : Int)) :: (44, .pointer (some ⟨b2, 0, none⟩)) :: _) rfl ?_; clear hA; intro a hA
         refine st_call0 hA rfl rfl rfl isfn9 rfl rfl (by decide) (unlockR_not hS hM ((q : Nat) : Int) (notfirst2 _ (by omega) (by omega))) ?_
         clear hA hS hM; rintro v w52 a ⟨L51, hM, rfl, hS⟩ hA
         refine st_run tbOk 5 hA (e' := (12, .iface 36 (.int .i64 15)) :: (11, .int .i64 (-1)) :: (48, .iface 36 (.int .i64 15)) :: (47, .int .i64 (-1)) :: (43, .tuple #[.int .i64 (-1), .iface 36 (.int .i64 15)]) :: _) rfl ?_; clear hA; intro a hA
         refine wpList_nil ?_
         replace hA := hA.sel [5, 6, 8, 9, 10, 11, 12] (e' := [(5, .pointer (some ⟨b2, 0, none⟩)), (6, .int .i64 ((1 + t : Nat) : Int)), (8, .int .i64 ((q : Nat) : Int)), (9, .bool false), (10, .nilIface), (11, .int .i64 (-1)), (12, .iface 36 (.int .i64 15))]) rfl
         refine xt_norm ?_
         refine wp_seq ?_
         refine wp_seq ?_
         refine wp_region_lit ?_
         refine st_run tbOk 3 hA (e' := (51, .bool (decide (((q : Nat) : Int) < ((1 + t : Nat) : Int)))) :: (50, .int .i64 ((1 + t : Nat) : Int)) :: (49, .int .i64 ((q : Nat) : Int)) :: _) rfl ?_; clear hA; intro a hA
         refine wpList_nil ?_
         replace hA := hA.sel [5, 6, 8, 9, 10, 11, 12, 51] (e' := [(5, .pointer (some ⟨b2, 0, none⟩)), (6, .int .i64 ((1 + t : Nat) : Int)), (8, .int .i64 ((q : Nat) : Int)), (9, .bool false), (10, .nilIface), (11, .int .i64 (-1)), (12, .iface 36 (.int .i64 15)), (51, .bool (decide (((q : Nat) : Int) < ((1 + t : Nat) : Int))))]) rfl
         refine xt_norm ?_
         by_cases hc53 : ((q : Nat) : Int) < ((1 + t : Nat) : Int)
         · first
           | (exfalso; first | omega | (simp [prog_len]; omega))
           | (replace hA := hA.rw 51 (v' := .bool true) rfl (vb_true hc53)
              refine cd_cond_t hA rfl ?_
              refine wp_seq ?_
              refine wp_region_lit ?_
              refine st_run tbOk 4 hA (e' := (55, .nilIface) :: (54, .bool true) :: (53, .bool true) :: (52, .bool false) :: _) rfl ?_; clear hA; intro a hA
              refine st_call0 hA rfl rfl rfl isfn8 rfl rfl (by decide) (number_nil8 hS hg) ?_
              clear hA hS; rintro v w54 a ⟨rfl, hS⟩ hA
              refine st_run tbOk 40 hA (e' := (4, .bool false) :: (95, .bool false) :: (94, undef) :: (93, undef) :: (92, undef) :: (91, undef) :: (90, undef) :: (89, undef) :: (88, undef) :: (87, undef) :: (86, undef) :: (85, undef) :: (84, undef) :: (83, undef) :: (82, undef) :: (81, undef) :: (80, undef) :: (79, undef) :: (78, undef) :: (77, undef) :: (76, undef) :: (75, undef) :: (74, undef) :: (73, undef) :: (72, undef) :: (71, undef) :: (70, undef) :: (69, undef) :: (68, undef) :: (67, undef) :: (66, undef) :: (65, undef) :: (64, undef) :: (63, undef) :: (62, undef) :: (61, undef) :: (60, undef) :: (59, .bool false) :: (58, .bool false) :: (57, .bool false) :: _) rfl ?_; clear hA; intro a hA
              refine wpList_nil ?_
              replace hA := hA.sel [4] (e' := [(4, .bool false)]) rfl
              refine xt_norm ?_
              refine wp_ret (xt_ret ?_)
              refine ret1 (fn := Tryd.f4) hA rfl rfl ?_
              exfalso; omega)
         · first
           | (exfalso; first | omega | (simp [prog_len]; omega))
           | (replace hA := hA.rw 51 (v' := .bool false) rfl (vb_false hc53)
              refine cd_cond_f hA rfl ?_
              refine wp_skip ?_
              refine xt_norm ?_
              refine wp_seq ?_
              refine wp_region_lit ?_
              refine st_run tbOk 12 hA (e' := (107, .iface 36 (.int .i64 15)) :: (106, .bool true) :: (105, .bool true) :: (104, .bool true) :: (103, .int .i64 (-1)) :: (102, .bool true) :: (101, .bool true) :: (100, .bool true) :: (99, .nilIface) :: (98, .bool true) :: (97, .bool true) :: (96, .bool false) :: _) rfl ?_; clear hA; intro a hA
              refine st_call0 hA rfl rfl rfl isfn8 rfl rfl (by decide) (number_hit8 hS hg 15) ?_
              clear hA hS; rintro v w55 a ⟨rfl, hS⟩ hA
              refine st_run tbOk 4 hA (e' := (112, .pointer (some ⟨b2, 0, none⟩)) :: (111, .bool true) :: (110, .bool true) :: (109, .bool true) :: _) rfl ?_; clear hA; intro a hA
              refine st_call0 hA rfl rfl rfl isfn14 rfl rfl (by decide) (waitingR hS hM (by first | first | omega | (simp [prog_len]; omega) | simp)) ?_
              clear hA hS hM; rintro v58 w57 a ⟨L56, C59, hO59, hM, hS⟩ hA
              obtain ⟨A60, c61, rfl, hmc61, hxc61⟩ := hO59.open'
              refine st_run tbOk 1 hA (e' := (114, .int .i64 (((((prog 1 (1 + t)) ++ [((q : Nat) : Int)]).tail).length : Nat) : Int)) :: _) rfl ?_; clear hA; intro a hA
              replace hA := hA.rw 114 (v' := .int .i64 ((1 + t : Nat) : Int)) rfl (vint (by simp [prog_len]))
              refine st_run tbOk 4 hA (e' := (4, .bool (((1 + t : Nat) : Int) == ((1 + t : Nat) : Int))) :: (117, .bool (((1 + t : Nat) : Int) == ((1 + t : Nat) : Int))) :: (116, .bool (((1 + t : Nat) : Int) == ((1 + t : Nat) : Int))) :: (115, .int .i64 ((1 + t : Nat) : Int)) :: _) rfl ?_; clear hA; intro a hA
              refine wpList_nil ?_
              replace hA := hA.sel [4] (e' := [(4, .bool (((1 + t : Nat) : Int) == ((1 + t : Nat) : Int)))]) rfl
              refine xt_norm ?_
              refine wp_ret ?_
              refine ret1 (fn := Tryd.f4) hA rfl rfl ?_
              replace hS := hS.drop1
              replace hS := hS.drop1
              exact ⟨congrArg Value.bool (beq_iff_eq.2 (by first | omega | (simp [prog_len]; omega))), hS⟩))

theorem same_len {xs ys : List Int} (h : xs.length ≠ ys.length) : ¬ xs = ys := fun e => h (by rw [e])
theorem same_ne {xs ys : List Int} {k : Nat} {x y : Int} (hx : xs[k]? = some x) (hy : ys[k]? = some y) (h : ¬ x = y) : ¬ xs = ys := fun e => by
  subst e; rw [hx] at hy; injection hy with hy; exact h hy
theorem same_all {xs ys : List Int} (h : xs.length = ys.length) (ha : ∀ (i : Nat), i < xs.length → xs[i]? = ys[i]?) : xs = ys := by
  apply List.ext_getElem? 
  intro i
  by_cases hi : i < xs.length
  · exact ha i hi
  · rw [List.getElem?_eq_none (by omega), List.getElem?_eq_none (by omega)]
theorem same13 {w0 w : World} {F : List Chunk} (hS : St w0 w F) {va vb : Value} {xs ys : List Int} (ha : RdS w0 F 1 va xs.length (rows encI xs)) (hb : RdS w0 F 1 vb ys.length (rows encI ys)) :
    Ret Tryd.prog 13 #[va, vb] w (fun v w' => v = .bool (decide (xs = ys)) ∧ St w0 w' F) := by
  obtain ⟨A1, c1, rfl, hm1, hx1⟩ := (ha w hS).open'
  obtain ⟨A2, c2, rfl, hm2, hx2⟩ := (hb w hS).open'
  refine enter (vs := [.slice A1 xs.length c1, .slice A2 ys.length c2]) 26 Tryd.func13 rfl rfl (by simp) ?_; intro a hA
  refine wp_seq ?_
  refine wp_region_lit ?_
  refine st_run tbOk 1 hA (e' := (4, .bool false) :: _) rfl ?_; clear hA; intro a hA
  refine wpList_nil ?_
  replace hA := hA.sel [0, 1] (e' := [(0, .slice A1 xs.length c1), (1, .slice A2 ys.length c2)]) rfl
  refine xt_norm ?_
  refine wp_seq ?_
  refine wp_seq ?_
  refine wp_region_lit ?_
  refine st_run tbOk 5 hA (e' := (10, .bool (((xs.length : Nat) : Int) != ((ys.length : Nat) : Int))) :: (9, .int .i64 ((ys.length : Nat) : Int)) :: (8, .slice A2 ys.length c2) :: (7, .int .i64 ((xs.length : Nat) : Int)) :: (6, .slice A1 xs.length c1) :: _) rfl ?_; clear hA; intro a hA
  refine wpList_nil ?_
  replace hA := hA.sel [0, 1, 10] (e' := [(0, .slice A1 xs.length c1), (1, .slice A2 ys.length c2), (10, .bool (((xs.length : Nat) : Int) != ((ys.length : Nat) : Int)))]) rfl
  refine xt_norm ?_
  by_cases hc1 : ((xs.length : Nat) : Int) = ((ys.length : Nat) : Int)
  · first
    | (exfalso; omega)
    | (replace hA := hA.rw 10 (v' := .bool false) rfl (vb_ne_f hc1)
       refine cd_cond_f hA rfl ?_
       refine wp_skip ?_
       refine xt_norm ?_
       refine wp_seq ?_
       refine wp_seq ?_
       refine wp_region_lit ?_
       refine st_run tbOk 3 hA (e' := (13, .int .i64 0) :: (12, .int .i64 ((xs.length : Nat) : Int)) :: (11, .slice A1 xs.length c1) :: _) rfl ?_; clear hA; intro a hA
       refine wpList_nil ?_
       replace hA := hA.sel [0, 1, 12, 13] (e' := [(0, .slice A1 xs.length c1), (1, .slice A2 ys.length c2), (12, .int .i64 ((xs.length : Nat) : Int)), (13, .int .i64 0)]) rfl
       refine xt_norm ?_
       refine wp_block ?_
       refine wp_loop_ghost (fun m a w => ∃ (k : Nat), m = xs.length - k ∧ Has a 26 [(0, .slice A1 xs.length c1), (1, .slice A2 ys.length c2), (12, .int .i64 ((xs.length : Nat) : Int)), (13, .int .i64 ((k : Nat) : Int))] ∧ St w0 w (F) ∧ (k ≤ xs.length) ∧ (∀ (i : Nat), i < k → xs[i]? = ys[i]?)) (xs.length - 0)
         ⟨0, rfl, (hA.sel [0, 1, 12, 13] rfl), hS, Nat.zero_le _, fun i hi => absurd hi (by omega)⟩ ?_
       clear hA hS; rintro m0 a w2 ⟨k, rfl, hA, hS, hk, hall⟩
       refine wp_seq ?_
       refine wp_region_lit ?_
       refine st_run tbOk 1 hA (e' := (14, .bool (decide (((k : Nat) : Int) < ((xs.length : Nat) : Int)))) :: _) rfl ?_; clear hA; intro a hA
       refine wpList_nil ?_
       refine xt_norm ?_
       refine wp_seq ?_
       by_cases hc3 : ((k : Nat) : Int) < ((xs.length : Nat) : Int)
       · first
         | (exfalso; omega)
         | (replace hA := hA.rw 14 (v' := .bool true) rfl (vb_true hc3)
            refine cd_cond_t hA rfl ?_
            refine wp_skip ?_
            refine xt_norm ?_
            refine wp_seq ?_
            refine wp_block ?_
            refine wp_seq ?_
            refine wp_region_lit ?_
            refine st_run tbOk 2 hA (e' := (5, .int .i64 ((k : Nat) : Int)) :: (15, .int .i64 ((k : Nat) : Int)) :: _) rfl ?_; clear hA; intro a hA
            refine wpList_nil ?_
            replace hA := hA.sel [0, 1, 5, 12, 13] (e' := [(0, .slice A1 xs.length c1), (1, .slice A2 ys.length c2), (5, .int .i64 ((k : Nat) : Int)), (12, .int .i64 ((xs.length : Nat) : Int)), (13, .int .i64 ((k : Nat) : Int))]) rfl
            refine xt_norm ?_
            refine wp_seq ?_
            refine wp_draw (fun w' => St w0 w' (F)) [] [(0, true), (1, true), (2, true), (3, true), (4, true), (5, true), (6, true), (7, true), (8, true)] mixed (by kernel_rfl) (by rintro c a w ⟨_, _, h, _⟩; cases h) (by rfl) (by kernel_rfl) ?_
            replace hS := hS.drew
            refine dr_run tbOk 2 hA hS (e' := (17, .int .i64 ((k : Nat) : Int)) :: (16, .slice A1 xs.length c1) :: _) rfl ?_; clear hA; intro a hA
            obtain ⟨b4, o5, rfl⟩ := (ha _ hS).isSome (k := k) (by omega)
            refine dr_y hA rfl rfl rfl (by decide) hS (fun w' hS' => rn_indexAddr tbOk hA k (o5 + k) rfl rfl rfl rfl rfl rfl (by rfl) (by omega) (by first | rfl | simp [Nat.mul_one, Nat.zero_add] | omega)) ?_; clear hA; intro a hA
            obtain ⟨x6, hx6⟩ := get_ex (l := xs) (k := k) (by omega)
            refine dr_y hA rfl rfl rfl (by decide) hS (fun w' hS' => rn_load tbOk hA rfl rfl rfl rfl ((ha _ hS').elem0 (k := k) encI_ok hx6 rfl)) ?_; clear hA; intro a hA
            refine dr_run tbOk 2 hA hS (e' := (21, .int .i64 ((k : Nat) : Int)) :: (20, .slice A2 ys.length c2) :: _) rfl ?_; clear hA; intro a hA
            obtain ⟨b7, o8, rfl⟩ := (hb _ hS).isSome (k := k) (by omega)
            refine dr_y hA rfl rfl rfl (by decide) hS (fun w' hS' => rn_indexAddr tbOk hA k (o8 + k) rfl rfl rfl rfl rfl rfl (by rfl) (by omega) (by first | rfl | simp [Nat.mul_one, Nat.zero_add] | omega)) ?_; clear hA; intro a hA
            obtain ⟨x9, hx9⟩ := get_ex (l := ys) (k := k) (by omega)
            refine dr_y hA rfl rfl rfl (by decide) hS (fun w' hS' => rn_load tbOk hA rfl rfl rfl rfl ((hb _ hS').elem0 (k := k) encI_ok hx9 rfl)) ?_; clear hA; intro a hA
            refine dr_run tbOk 1 hA hS (e' := (24, .bool (x6 != x9)) :: _) rfl ?_; clear hA; intro a hA
            refine dr_end ?_
            replace hA := hA.sel [0, 1, 12, 13, 24] (e' := [(0, .slice (some ⟨b4, o5, none⟩) xs.length c1), (1, .slice (some ⟨b7, o8, none⟩) ys.length c2), (12, .int .i64 ((xs.length : Nat) : Int)), (13, .int .i64 ((k : Nat) : Int)), (24, .bool (x6 != x9))]) rfl
            refine xt_norm ?_
            by_cases hc10 : x6 = x9
            · first
              | (exfalso; omega)
              | (replace hA := hA.rw 24 (v' := .bool false) rfl (vb_ne_f hc10)
                 refine cd_cond_f hA rfl ?_
                 refine wp_skip ?_
                 refine xb_norm ?_
                 refine xt_norm ?_
                 refine wp_region_lit ?_
                 refine st_run tbOk 1 hA (e' := (25, .int .i64 (IntKind.i64.wrap (((k : Nat) : Int) + 1))) :: _) rfl ?_; clear hA; intro a hA
                 replace hA := hA.rw 25 (v' := .int .i64 ((k + 1 : Nat) : Int)) rfl (wr64 (by omega) (by omega) (by omega))
                 refine st_run tbOk 1 hA (e' := (13, .int .i64 ((k + 1 : Nat) : Int)) :: _) rfl ?_; clear hA; intro a hA
                 refine wpList_nil ?_
                 replace hA := hA.sel [0, 1, 12, 13] (e' := [(0, .slice (some ⟨b4, o5, none⟩) xs.length c1), (1, .slice (some ⟨b7, o8, none⟩) ys.length c2), (12, .int .i64 ((xs.length : Nat) : Int)), (13, .int .i64 ((k + 1 : Nat) : Int))]) rfl
                 exact lp_next _ (by omega) ⟨(k + 1), rfl, (hA.sel [0, 1, 12, 13] rfl), hS, by omega, fun i hi => (Nat.lt_succ_iff_lt_or_eq.1 hi).elim (fun h => hall i h) (fun h => by subst h; rw [hx6, hx9]; exact congrArg some (by omega))⟩)
            · first
              | (exfalso; omega)
              | (replace hA := hA.rw 24 (v' := .bool true) rfl (vb_ne_t hc10)
                 refine cd_cond_t hA rfl ?_
                 refine wp_seq ?_
                 refine wp_region_lit ?_
                 refine st_run tbOk 1 hA (e' := (4, .bool false) :: _) rfl ?_; clear hA; intro a hA
                 refine wpList_nil ?_
                 replace hA := hA.sel [4] (e' := [(4, .bool false)]) rfl
                 refine xt_norm ?_
                 refine wp_ret (xb_ret (xt_ret (xt_ret (xb_ret (xt_ret ?_)))))
                 refine ret1 (fn := Tryd.f13) hA rfl rfl ?_
                 refine ⟨?_, hS⟩
                 rw [decide_eq_false]; exact same_ne hx6 hx9 (by omega)))
       · first
         | (exfalso; omega)
         | (replace hA := hA.rw 14 (v' := .bool false) rfl (vb_false hc3)
            refine cd_cond_f hA rfl ?_
            refine wp_exit ?_
            refine xt_exit ?_
            refine xt_exit ?_
            refine cd_exit_eq ?_
            refine xt_norm ?_
            refine wp_seq ?_
            refine wp_region_lit ?_
            refine st_run tbOk 1 hA (e' := (4, .bool true) :: _) rfl ?_; clear hA; intro a hA
            refine wpList_nil ?_
            replace hA := hA.sel [4] (e' := [(4, .bool true)]) rfl
            refine xt_norm ?_
            refine wp_ret ?_
            refine ret1 (fn := Tryd.f13) hA rfl rfl ?_
            refine ⟨?_, hS⟩
            rw [decide_eq_true]; exact same_all (by omega) (fun i hi => hall i (by omega))))
  · first
    | (exfalso; omega)
    | (replace hA := hA.rw 10 (v' := .bool true) rfl (vb_ne_t hc1)
       refine cd_cond_t hA rfl ?_
       refine wp_seq ?_
       refine wp_region_lit ?_
       refine st_run tbOk 1 hA (e' := (4, .bool false) :: _) rfl ?_; clear hA; intro a hA
       refine wpList_nil ?_
       replace hA := hA.sel [4] (e' := [(4, .bool false)]) rfl
       refine xt_norm ?_
       refine wp_ret (xt_ret ?_)
       refine ret1 (fn := Tryd.f13) hA rfl rfl ?_
       refine ⟨?_, hS⟩
       rw [decide_eq_false]; exact same_len (by omega))

theorem any_filter (l : List Int) (id : Int) : (l.filter (fun x => !(x == id))).length < l.length ↔ l.any (fun y => y == id) = true := by
  constructor
  · intro h
    cases ha : l.any (fun y => y == id) with
    | true => rfl
    | false =>
      rw [List.any_eq_false] at ha
      rw [List.filter_eq_self.2 (fun x hx => by simpa using ha x hx)] at h
      omega
  · intro h
    rw [List.any_eq_true] at h
    obtain ⟨x, hx, he⟩ := h
    have := List.length_filter_lt_length_iff_exists (p := fun x => !(x == id)) (l := l)
    exact this.2 ⟨x, hx, by simpa using he⟩
theorem lockcases (row : List Int) (id : Int) (hl : row.length ≤ 65) : id < 0 ∨ (0 ≤ id ∧ row.any (fun y => y == id) = true) ∨ (0 ≤ id ∧ row.any (fun y => y == id) = false ∧ row.length = 65) ∨ (0 ≤ id ∧ row.any (fun y => y == id) = false ∧ row.length < 65) := by
  rcases Int.lt_or_le id 0 with h | h
  · exact .inl h
  · cases ha : row.any (fun y => y == id) with
    | true => exact .inr (.inl ⟨h, rfl⟩)
    | false => exact .inr (.inr ((Nat.lt_or_ge row.length 65).elim (fun h2 => .inr ⟨h, rfl, h2⟩) (fun h2 => .inl ⟨h, rfl, by omega⟩)))
theorem has_yes {row : List Int} {id : Int} (h : row.any (fun y => y == id) = true) : (row.filter (fun x => !(x == id))).length < row.length := (any_filter row id).2 h
theorem has_no {row : List Int} {id : Int} (h : row.any (fun y => y == id) = false) : (row.filter (fun x => !(x == id))).length = row.length := by
  have h1 : ¬ (row.filter (fun x => !(x == id))).length < row.length := fun h2 => by rw [(any_filter row id).1 h2] at h; cases h
  have := List.length_filter_le (fun x => !(x == id)) row
  omega
theorem unlockcases (row : List Int) (id : Int) (hp : ∀ x ∈ row, 0 ≤ x) : (¬ (row ≠ [] ∧ first row = id) ∧ (id < 0 ∨ ¬ first row = id)) ∨ (0 ≤ id ∧ ∃ r, row = id :: r) := by
  cases row with
  | nil => exact .inl ⟨by simp, by simp only [first, List.headD_nil]; omega⟩
  | cons x r =>
    by_cases h : x = id
    · subst h
      exact .inr ⟨hp x (by simp), r, rfl⟩
    · exact .inl ⟨fun h2 => h (by simpa [first] using h2.2), .inr (by simpa [first] using h)⟩
theorem isEmpty_len (row : List Int) : row.isEmpty = (((row.length : Nat) : Int) == 0) := by
  cases row with
  | nil => rfl
  | cons x r =>
    have h2 : ((((x :: r).length : Nat) : Int) == 0) = false := by rw [beq_eq_false_iff_ne]; simp only [List.length_cons]; omega
    rw [h2]; rfl
theorem leave_val {row : List Int} {id : Int} (hp : ∀ x ∈ row, 0 ≤ x) (a : Int) : (if row ≠ [] ∧ first row = id then a else -1) = if 0 ≤ id ∧ first row = id then a else -1 := by
  cases row with
  | nil =>
    have h1 : ¬ (0 ≤ id ∧ first [] = id) := by simp only [first, List.headD_nil]; omega
    rw [if_neg h1, if_neg (by simp)]
  | cons x r =>
    have := hp x (by simp)
    by_cases h : x = id
    · subst h; simp [first, this]
    · simp [first, h]
theorem nn_app {row : List Int} {id : Int} (hp : ∀ x ∈ row, 0 ≤ x) (h : 0 ≤ id) : ∀ x ∈ row ++ [id], 0 ≤ x := fun x hx => by
  rcases List.mem_append.1 hx with hx | hx
  · exact hp x hx
  · rw [List.mem_singleton.1 hx]; exact h
theorem nn_filt {row : List Int} {p : Int → Bool} (hp : ∀ x ∈ row, 0 ≤ x) : ∀ x ∈ row.filter p, 0 ≤ x := fun x hx => hp x (List.mem_filter.1 hx).1
theorem nn_tail {row r : List Int} {id : Int} (hp : ∀ x ∈ row, 0 ≤ x) (h : row = id :: r) : ∀ x ∈ r, 0 ≤ x := fun x hx => hp x (by rw [h]; exact List.mem_cons_of_mem _ hx)
theorem first_pos {row : List Int} (h : 0 < row.length) : row ≠ [] := fun e => by rw [e] at h; simp at h

def wo (l : List Int) (id : Int) (k : Nat) : List Int := (l.take k).filter (fun x => !(x == id))
theorem wo_yes {l : List Int} {id x : Int} {k : Nat} (hx : l[k]? = some x) (h : ¬ x = id) : wo l id k ++ [x] = wo l id (k + 1) := by
  rw [wo, wo, List.take_add_one, hx, List.filter_append]
  congr 1
  simp [h]
theorem wo_no {l : List Int} {id x : Int} {k : Nat} (hx : l[k]? = some x) (h : x = id) : wo l id k = wo l id (k + 1) := by
  rw [wo, wo, List.take_add_one, hx, List.filter_append]
  simp [h]
theorem wo_le (l : List Int) (id : Int) (k : Nat) : (wo l id k).length ≤ k := by
  rw [wo]; exact Nat.le_trans (List.length_filter_le _ _) (by rw [List.length_take]; omega)
theorem wo_all (l : List Int) (id : Int) : wo l id l.length = l.filter (fun x => !(x == id)) := by rw [wo, List.take_length]
theorem without6 {w0 w : World} {F : List Chunk} (hS : St w0 w F) {v : Value} {l : List Int} (hr : RdS w0 F 1 v l.length (rows encI l)) (id : Int) (hb : l.length * 8 ≤ 140737488351232) :
    Ret Tryd.prog 6 #[v, .int .i64 id] w (fun v w' => ∃ C, Own 3 1 v (l.filter (fun x => !(x == id))).length (rows encI (l.filter (fun x => !(x == id)))) C ∧ St w0 w' (C :: F)) := by
  obtain ⟨A, c, rfl, hmc, hcx⟩ := (hr w hS).open'
  refine enter (vs := [.slice A l.length c, .int .i64 id]) 23 Tryd.func6 rfl rfl (by simp) ?_; intro a hA
  refine wp_seq ?_
  refine wp_region_lit ?_
  refine st_run tbOk 1 hA (e' := (4, .slice none 0 0) :: _) rfl ?_; clear hA; intro a hA
  refine wpList_nil ?_
  replace hA := hA.sel [0, 1] (e' := [(0, .slice A l.length c), (1, .int .i64 id)]) rfl
  refine xt_norm ?_
  refine wp_seq ?_
  refine wp_region_lit ?_
  refine st_run tbOk 1 hA (e' := (5, .slice none 0 0) :: _) rfl ?_; clear hA; intro a hA
  refine wpList_nil ?_
  refine xt_norm ?_
  refine wp_seq ?_
  refine wp_seq ?_
  refine wp_region_lit ?_
  refine st_run tbOk 3 hA (e' := (10, .int .i64 0) :: (9, .int .i64 ((l.length : Nat) : Int)) :: (8, .slice A l.length c) :: _) rfl ?_; clear hA; intro a hA
  refine wpList_nil ?_
  replace hA := hA.sel [1, 5, 8, 9, 10] (e' := [(1, .int .i64 id), (5, .slice none 0 0), (8, .slice A l.length c), (9, .int .i64 ((l.length : Nat) : Int)), (10, .int .i64 0)]) rfl
  refine xt_norm ?_
  refine wp_block ?_
  replace hS := hS.nil
  refine wp_loop_ghost (fun m a w => ∃ (k : Nat) (A1 : Option Addr) (c1 : Nat) (C1 : Chunk), m = l.length - k ∧ Has a 23 [(1, .int .i64 id), (5, .slice A1 ((wo l id k).length) c1), (8, .slice A l.length c), (9, .int .i64 ((l.length : Nat) : Int)), (10, .int .i64 ((k : Nat) : Int))] ∧ St w0 w (C1 :: F) ∧ (k ≤ l.length) ∧ (Own 3 1 (.slice A1 (wo l id k).length c1) (wo l id k).length (rows encI (wo l id k)) C1)) (l.length - 0)
    ⟨0, none, 0, ([]), rfl, (hA.sel [1, 5, 8, 9, 10] rfl), hS, Nat.zero_le _, (Own.nil 3 1)⟩ ?_
  clear hA hS; rintro m0 a w1 ⟨k, A1, c1, C1, rfl, hA, hS, hk, hO⟩
  have hwl := wo_le l id k
  refine wp_seq ?_
  refine wp_region_lit ?_
  refine st_run tbOk 1 hA (e' := (11, .bool (decide (((k : Nat) : Int) < ((l.length : Nat) : Int)))) :: _) rfl ?_; clear hA; intro a hA
  refine wpList_nil ?_
  refine xt_norm ?_
  refine wp_seq ?_
  by_cases hc2 : ((k : Nat) : Int) < ((l.length : Nat) : Int)
  · first
    | (exfalso; omega)
    | (replace hA := hA.rw 11 (v' := .bool true) rfl (vb_true hc2)
       refine cd_cond_t hA rfl ?_
       refine wp_skip ?_
       refine xt_norm ?_
       refine wp_seq ?_
       refine wp_block ?_
       refine wp_seq ?_
       refine wp_region_lit ?_
       obtain ⟨b3, o4, rfl⟩ := (hr _ (hS.tail 1 rfl)).isSome (k := k) (by omega)
       refine st_val hA rfl rfl (by decide) (rn_indexAddr tbOk hA k (o4 + k) rfl rfl rfl rfl rfl rfl (by rfl) (by omega) (by first | rfl | simp [Nat.mul_one, Nat.zero_add] | omega)) ?_; clear hA; intro a hA
       obtain ⟨x5, hx5⟩ := get_ex (l := l) (k := k) (by omega)
       refine st_val hA rfl rfl (by decide) (rn_load tbOk hA rfl rfl rfl rfl ((hr _ (hS.tail 1 rfl)).elem0 (k := k) encI_ok hx5 rfl)) ?_; clear hA; intro a hA
       refine st_run tbOk 1 hA (e' := (7, .int .i64 x5) :: _) rfl ?_; clear hA; intro a hA
       refine wpList_nil ?_
       replace hA := hA.sel [1, 5, 7, 8, 9, 10] (e' := [(1, .int .i64 id), (5, .slice A1 ((wo l id k).length) c1), (7, .int .i64 x5), (8, .slice (some ⟨b3, o4, none⟩) l.length c), (9, .int .i64 ((l.length : Nat) : Int)), (10, .int .i64 ((k : Nat) : Int))]) rfl
       refine xt_norm ?_
       refine wp_seq ?_
       refine wp_region_lit ?_
       refine st_run tbOk 3 hA (e' := (16, .bool (x5 != id)) :: (15, .int .i64 id) :: (14, .int .i64 x5) :: _) rfl ?_; clear hA; intro a hA
       refine wpList_nil ?_
       replace hA := hA.sel [1, 5, 7, 8, 9, 10, 16] (e' := [(1, .int .i64 id), (5, .slice A1 ((wo l id k).length) c1), (7, .int .i64 x5), (8, .slice (some ⟨b3, o4, none⟩) l.length c), (9, .int .i64 ((l.length : Nat) : Int)), (10, .int .i64 ((k : Nat) : Int)), (16, .bool (x5 != id))]) rfl
       refine xt_norm ?_
       by_cases hc6 : x5 = id
       · first
         | (exfalso; omega)
         | (replace hA := hA.rw 16 (v' := .bool false) rfl (vb_ne_f hc6)
            refine cd_cond_f hA rfl ?_
            refine wp_skip ?_
            refine xb_norm ?_
            refine xt_norm ?_
            refine wp_region_lit ?_
            refine st_run tbOk 1 hA (e' := (21, .int .i64 (IntKind.i64.wrap (((k : Nat) : Int) + 1))) :: _) rfl ?_; clear hA; intro a hA
            replace hA := hA.rw 21 (v' := .int .i64 ((k + 1 : Nat) : Int)) rfl (wr64 (by omega) (by omega) (by omega))
            refine st_run tbOk 1 hA (e' := (10, .int .i64 ((k + 1 : Nat) : Int)) :: _) rfl ?_; clear hA; intro a hA
            refine wpList_nil ?_
            replace hA := hA.sel [1, 5, 8, 9, 10] (e' := [(1, .int .i64 id), (5, .slice A1 ((wo l id k).length) c1), (8, .slice (some ⟨b3, o4, none⟩) l.length c), (9, .int .i64 ((l.length : Nat) : Int)), (10, .int .i64 ((k + 1 : Nat) : Int))]) rfl
            have hw1 : wo l id k = wo l id (k + 1) := wo_no hx5 (by omega)
            rw [hw1] at hO hA
            exact lp_next _ (by omega) ⟨(k + 1), A1, c1, C1, rfl, (hA.sel [1, 5, 8, 9, 10] rfl), hS, by omega, hO⟩)
       · first
         | (exfalso; omega)
         | (replace hA := hA.rw 16 (v' := .bool true) rfl (vb_ne_t hc6)
            refine cd_cond_t hA rfl ?_
            refine wp_region_lit ?_
            refine st_run tbOk 2 hA (e' := (18, .int .i64 x5) :: (17, .slice A1 ((wo l id k).length) c1) :: _) rfl ?_; clear hA; intro a hA
            refine st_buildSlice tbOk hA hS [.int .i64 x5] rfl rfl rfl rfl rfl (by decide) (by kernel_rfl) rfl rfl (by decide) ?_; clear hA hS; intro b7 w8 a hS hA
            replace hS := hS.front 1 (C := C1) (L' := [(b7, rowO [.int .i64 x5] 3)] :: F) rfl rfl
            refine st_append tbOk hA (m := (wo l id k).length) (q := 1) (xs := rows encI (wo l id k)) (news := rows encI ([x5] : List Int)) rfl rfl rfl rfl rfl rfl rfl rfl (by decide) hO hS ((Own.full (T := 3) (size := 1) (g := b7) (m := 1) rfl (by decide)).rd (hS.own_ 1 rfl)) (rows_one encI_ok _) (maxLen_le (by omega)) (by show ((wo l id k).length + 1) * 8 ≤ 140737488355328; omega) rfl rfl (by decide) ?_
            clear hA hS; intro v9 w10 C11 a hO11 hS hA
            replace hO11 := Own.app (l := wo l id k) (l2 := ([x5] : List Int)) hO11
            obtain ⟨A12, c13, rfl, hmc13, hxc13⟩ := hO11.open'
            refine st_run tbOk 1 hA (e' := (5, .slice A12 (((wo l id k) ++ ([x5] : List Int)).length) c13) :: _) rfl ?_; clear hA; intro a hA
            refine wpList_nil ?_
            replace hA := hA.sel [1, 5, 8, 9, 10] (e' := [(1, .int .i64 id), (5, .slice A12 (((wo l id k) ++ ([x5] : List Int)).length) c13), (8, .slice (some ⟨b3, o4, none⟩) l.length c), (9, .int .i64 ((l.length : Nat) : Int)), (10, .int .i64 ((k : Nat) : Int))]) rfl
            refine xb_norm ?_
            refine xt_norm ?_
            refine wp_region_lit ?_
            refine st_run tbOk 1 hA (e' := (21, .int .i64 (IntKind.i64.wrap (((k : Nat) : Int) + 1))) :: _) rfl ?_; clear hA; intro a hA
            replace hA := hA.rw 21 (v' := .int .i64 ((k + 1 : Nat) : Int)) rfl (wr64 (by omega) (by omega) (by omega))
            refine st_run tbOk 1 hA (e' := (10, .int .i64 ((k + 1 : Nat) : Int)) :: _) rfl ?_; clear hA; intro a hA
            refine wpList_nil ?_
            replace hA := hA.sel [1, 5, 8, 9, 10] (e' := [(1, .int .i64 id), (5, .slice A12 (((wo l id k) ++ ([x5] : List Int)).length) c13), (8, .slice (some ⟨b3, o4, none⟩) l.length c), (9, .int .i64 ((l.length : Nat) : Int)), (10, .int .i64 ((k + 1 : Nat) : Int))]) rfl
            have hl : (wo l id k) ++ ([x5] : List Int) = wo l id (k + 1) := wo_yes hx5 (by omega)
            rw [hl] at hO11; rw [hl] at hA
            replace hS := hS.drop2
            exact lp_next _ (by omega) ⟨(k + 1), A12, c13, C11, rfl, (hA.sel [1, 5, 8, 9, 10] rfl), hS, by omega, hO11⟩))
  · first
    | (exfalso; omega)
    | (replace hA := hA.rw 11 (v' := .bool false) rfl (vb_false hc2)
       refine cd_cond_f hA rfl ?_
       refine wp_exit ?_
       refine xt_exit ?_
       refine xt_exit ?_
       refine cd_exit_eq ?_
       refine xt_norm ?_
       refine wp_seq ?_
       refine wp_region_lit ?_
       refine st_run tbOk 2 hA (e' := (4, .slice A1 ((wo l id k).length) c1) :: (22, .slice A1 ((wo l id k).length) c1) :: _) rfl ?_; clear hA; intro a hA
       refine wpList_nil ?_
       replace hA := hA.sel [4] (e' := [(4, .slice A1 ((wo l id k).length) c1)]) rfl
       refine xt_norm ?_
       refine wp_ret ?_
       refine ret1 (fn := Tryd.f6) hA rfl rfl ?_
       have hkl : k = l.length := by omega
       subst hkl; rw [wo_all] at hO
       exact ⟨_, by rw [wo_all]; exact hO, hS⟩)

theorem first_nil10 {w0 w : World} {F : List Chunk} (hS : St w0 w F) {v : Value} {l : List Int} (hr : RdS w0 F 1 v l.length (rows encI l)) (h : l = []) :
    Ret Tryd.prog 10 #[v] w (fun v w' => v = .int .i64 (-1) ∧ St w0 w' F) := by
  obtain ⟨A, c, rfl, hmc, hcx⟩ := (hr w hS).open'
  refine enter (vs := [.slice A l.length c]) 9 Tryd.func10 rfl rfl (by simp) ?_; intro a hA
  have hlen : l.length = 0 := by rw [h]; rfl
  refine wp_seq ?_
  refine wp_region_lit ?_
  refine st_run tbOk 1 hA (e' := (2, .int .i64 0) :: _) rfl ?_; clear hA; intro a hA
  refine wpList_nil ?_
  replace hA := hA.sel [0] (e' := [(0, .slice A l.length c)]) rfl
  refine xt_norm ?_
  refine wp_seq ?_
  refine wp_seq ?_
  refine wp_region_lit ?_
  refine st_run tbOk 3 hA (e' := (5, .bool (((l.length : Nat) : Int) == 0)) :: (4, .int .i64 ((l.length : Nat) : Int)) :: (3, .slice A l.length c) :: _) rfl ?_; clear hA; intro a hA
  refine wpList_nil ?_
  replace hA := hA.sel [0, 5] (e' := [(0, .slice A l.length c), (5, .bool (((l.length : Nat) : Int) == 0))]) rfl
  refine xt_norm ?_
  have hc1 : ((l.length : Nat) : Int) = 0 := by omega
  replace hA := hA.rw 5 (v' := .bool true) rfl (vb_eq_t hc1)
  refine cd_cond_t hA rfl ?_
  refine wp_seq ?_
  refine wp_region_lit ?_
  refine st_run tbOk 1 hA (e' := (2, .int .i64 (-1)) :: _) rfl ?_; clear hA; intro a hA
  refine wpList_nil ?_
  replace hA := hA.sel [2] (e' := [(2, .int .i64 (-1))]) rfl
  refine xt_norm ?_
  refine wp_ret (xt_ret ?_)
  refine ret1 (fn := Tryd.f10) hA rfl rfl ?_
  exact ⟨rfl, hS⟩

theorem first_cons10 {w0 w : World} {F : List Chunk} (hS : St w0 w F) {v : Value} {l : List Int} (hr : RdS w0 F 1 v l.length (rows encI l)) {x : Int} {r : List Int} (h : l = x :: r) :
    Ret Tryd.prog 10 #[v] w (fun v w' => v = .int .i64 x ∧ St w0 w' F) := by
  obtain ⟨A, c, rfl, hmc, hcx⟩ := (hr w hS).open'
  refine enter (vs := [.slice A l.length c]) 9 Tryd.func10 rfl rfl (by simp) ?_; intro a hA
  have hlen : l.length = r.length + 1 := by rw [h]; rfl
  refine wp_seq ?_
  refine wp_region_lit ?_
  refine st_run tbOk 1 hA (e' := (2, .int .i64 0) :: _) rfl ?_; clear hA; intro a hA
  refine wpList_nil ?_
  replace hA := hA.sel [0] (e' := [(0, .slice A l.length c)]) rfl
  refine xt_norm ?_
  refine wp_seq ?_
  refine wp_seq ?_
  refine wp_region_lit ?_
  refine st_run tbOk 3 hA (e' := (5, .bool (((l.length : Nat) : Int) == 0)) :: (4, .int .i64 ((l.length : Nat) : Int)) :: (3, .slice A l.length c) :: _) rfl ?_; clear hA; intro a hA
  refine wpList_nil ?_
  replace hA := hA.sel [0, 5] (e' := [(0, .slice A l.length c), (5, .bool (((l.length : Nat) : Int) == 0))]) rfl
  refine xt_norm ?_
  have hc1 : ¬ (((l.length : Nat) : Int) = 0) := by omega
  replace hA := hA.rw 5 (v' := .bool false) rfl (vb_eq_f hc1)
  refine cd_cond_f hA rfl ?_
  refine wp_skip ?_
  refine xt_norm ?_
  refine wp_seq ?_
  refine wp_region_lit ?_
  refine st_run tbOk 1 hA (e' := (6, .slice A l.length c) :: _) rfl ?_; clear hA; intro a hA
  obtain ⟨b2, o3, rfl⟩ := (hr _ hS).isSome (k := 0) (by omega)
  refine st_val hA rfl rfl (by decide) (rn_indexAddr tbOk hA 0 o3 rfl rfl rfl rfl rfl rfl (by rfl) (by omega) (by first | rfl | simp [Nat.mul_one, Nat.zero_add] | omega)) ?_; clear hA; intro a hA
  refine st_val hA rfl rfl (by decide) (rn_load tbOk hA rfl rfl rfl rfl ((hr _ hS).elem0 (k := 0) encI_ok (by rw [h]; rfl) rfl)) ?_; clear hA; intro a hA
  refine st_run tbOk 1 hA (e' := (2, .int .i64 x) :: _) rfl ?_; clear hA; intro a hA
  refine wpList_nil ?_
  replace hA := hA.sel [2] (e' := [(2, .int .i64 x)]) rfl
  refine xt_norm ?_
  refine wp_ret ?_
  refine ret1 (fn := Tryd.f10) hA rfl rfl ?_
  exact ⟨rfl, hS⟩

theorem first10 {w0 w : World} {F : List Chunk} (hS : St w0 w F) {v : Value} {l : List Int} (hr : RdS w0 F 1 v l.length (rows encI l)) :
    Ret Tryd.prog 10 #[v] w (fun v w' => v = .int .i64 (first l) ∧ St w0 w' F) := by
  cases hl : l with
  | nil => rw [hl] at hr; exact first_nil10 hS hr rfl
  | cons x r => rw [hl] at hr; exact first_cons10 hS hr rfl

def encAct (x : Int × Int) : List Value := [.int .u8 x.1, .int .i8 x.2]
theorem encAct_ok : Enc encAct 2 := ⟨fun _ => rfl, fun x u hu => by simp only [encAct, List.mem_cons, List.not_mem_nil, or_false] at hu; rcases hu with rfl | rfl <;> rfl⟩
def encAct_good (x : Int × Int) : Prop := (0 ≤ x.1 ∧ x.1 < 256) ∧ (-128 ≤ x.2 ∧ x.2 < 128)

end Go.Proofs.YthpdmjghabehpaaDoor
