import Derived.Test.YtlodnipimofpeaaProg
import Derived.Test.YtlodnipimofpeaaSK11
set_option linter.unusedVariables false
set_option linter.unusedSimpArgs false
set_option maxRecDepth 4000
namespace Go.Proofs.Ytlodnipimofpeaa
open Go Go.SK
theorem mixed : Try.prog.follows .mixedOrders = true := by kernel_rfl
theorem isfn6 : IsFn Try.prog 6 := fun args w => by kernel_rfl
theorem isfn7 : IsFn Try.prog 7 := fun args w => by kernel_rfl
theorem isfn8 : IsFn Try.prog 8 := fun args w => by kernel_rfl
theorem isfn9 : IsFn Try.prog 9 := fun args w => by kernel_rfl
theorem isfn10 : IsFn Try.prog 10 := fun args w => by kernel_rfl
theorem isfn11 : IsFn Try.prog 11 := fun args w => by kernel_rfl
theorem isfn12 : IsFn Try.prog 12 := fun args w => by kernel_rfl
theorem isfn13 : IsFn Try.prog 13 := fun args w => by kernel_rfl
theorem isfn14 : IsFn Try.prog 14 := fun args w => by kernel_rfl
theorem isfn15 : IsFn Try.prog 15 := fun args w => by kernel_rfl
theorem isfn16 : IsFn Try.prog 16 := fun args w => by kernel_rfl
theorem isfn17 : IsFn Try.prog 17 := fun args w => by kernel_rfl
noncomputable def tb : List TI := [
  ⟨3, Try.t3.desc, 1, 8, .int .i64 0⟩,
  ⟨4, Try.t4.desc, 1, 1, .bool false⟩,
  ⟨5, Try.t5.desc, 1, 1, .int .u8 0⟩,
  ⟨23, Try.t23.desc, 1, 8, .pointer none⟩,
  ⟨24, Try.t24.desc, 1, 24, .slice none 0 0⟩,
  ⟨26, Try.t25.desc, 2, 32, .agg #[.int .i64 0, .slice none 0 0]⟩,
  ⟨28, Try.t27.desc, 1, 16, .nilIface⟩,
  ⟨30, Try.t30.desc, 1, 24, .slice none 0 0⟩,
  ⟨33, Try.t33.desc, 1, 24, .slice none 0 0⟩,
  ⟨40, Try.t3.desc, 1, 8, .int .i64 0⟩,
  ⟨43, Try.t42.desc, 2, 16, .agg #[.int .i64 0, .int .i64 0]⟩]
theorem tbOk : TabOk Try.prog tb := ⟨
  ⟨by kernel_rfl, Try.t3, by kernel_rfl, by kernel_rfl, by kernel_rfl, by kernel_rfl⟩,
  ⟨by kernel_rfl, Try.t4, by kernel_rfl, by kernel_rfl, by kernel_rfl, by kernel_rfl⟩,
  ⟨by kernel_rfl, Try.t5, by kernel_rfl, by kernel_rfl, by kernel_rfl, by kernel_rfl⟩,
  ⟨by kernel_rfl, Try.t23, by kernel_rfl, by kernel_rfl, by kernel_rfl, by kernel_rfl⟩,
  ⟨by kernel_rfl, Try.t24, by kernel_rfl, by kernel_rfl, by kernel_rfl, by kernel_rfl⟩,
  ⟨by kernel_rfl, Try.t26, by kernel_rfl, by kernel_rfl, by kernel_rfl, by kernel_rfl⟩,
  ⟨by kernel_rfl, Try.t28, by kernel_rfl, by kernel_rfl, by kernel_rfl, by kernel_rfl⟩,
  ⟨by kernel_rfl, Try.t30, by kernel_rfl, by kernel_rfl, by kernel_rfl, by kernel_rfl⟩,
  ⟨by kernel_rfl, Try.t33, by kernel_rfl, by kernel_rfl, by kernel_rfl, by kernel_rfl⟩,
  ⟨by kernel_rfl, Try.t40, by kernel_rfl, by kernel_rfl, by kernel_rfl, by kernel_rfl⟩,
  ⟨by kernel_rfl, Try.t43, by kernel_rfl, by kernel_rfl, by kernel_rfl, by kernel_rfl⟩,
  trivial⟩
def encAlarm (x : Int × Int) : List Value := [.int .i64 x.1, .int .i64 x.2]
theorem encAlarm_ok : Enc encAlarm 2 := ⟨fun _ => rfl, fun x u hu => by simp only [encAlarm, List.mem_cons, List.not_mem_nil, or_false] at hu; rcases hu with rfl | rfl <;> rfl⟩
def encAlarm_good (x : Int × Int) : Prop := (-9223372036854775808 ≤ x.1 ∧ x.1 < 9223372036854775808) ∧ (-9223372036854775808 ≤ x.2 ∧ x.2 < 9223372036854775808)

theorem clone13 {w0 w : World} {F : List Chunk} (hS : St w0 w F) {v : Value} {l : List (Int × Int)} (hr : RdS w0 F 2 v l.length (rows encAlarm l)) (hb : l.length * 16 ≤ 140737488355328) :
    Ret Try.prog 13 #[v] w (fun v w' => ∃ C, Own 43 2 v l.length (rows encAlarm l) C ∧ St w0 w' (C :: F)) := by
  rcases hr.cases hS with ⟨rfl, h0, h1⟩ | ⟨b, off, c, rfl, hmc, hcx⟩
  · obtain rfl := List.eq_nil_of_length_eq_zero h0
    refine enter (vs := [.slice none 0 0]) 8 Try.func13 rfl rfl (by simp) ?_; intro a hA
    refine wp_seq ?_
    refine wp_region_lit ?_
    refine st_run tbOk 1 hA (e' := (2, .slice none 0 0) :: _) rfl ?_; clear hA; intro a hA
    refine wpList_nil ?_
    replace hA := hA.sel [0] (e' := [(0, .slice none 0 0)]) rfl
    refine xt_norm ?_
    refine wp_seq ?_
    refine wp_seq ?_
    refine wp_region_lit ?_
    refine st_run tbOk 2 hA (e' := (4, .bool true) :: (3, .slice none 0 0) :: _) rfl ?_; clear hA; intro a hA
    refine wpList_nil ?_
    replace hA := hA.sel [0, 4] (e' := [(0, .slice none 0 0), (4, .bool true)]) rfl
    refine xt_norm ?_
    refine cd_cond_t hA rfl ?_
    refine wp_seq ?_
    refine wp_region_lit ?_
    refine st_run tbOk 1 hA (e' := (2, .slice none 0 0) :: _) rfl ?_; clear hA; intro a hA
    refine wpList_nil ?_
    replace hA := hA.sel [2] (e' := [(2, .slice none 0 0)]) rfl
    refine xt_norm ?_
    refine wp_ret (xt_ret ?_)
    refine ret1 (fn := Try.f13) hA rfl rfl ?_
    exact ⟨[], Own.nil _ _, hS.nil⟩
  · refine enter (vs := [.slice (some ⟨b, off, none⟩) l.length c]) 8 Try.func13 rfl rfl (by simp) ?_; intro a hA
    refine wp_seq ?_
    refine wp_region_lit ?_
    refine st_run tbOk 1 hA (e' := (2, .slice none 0 0) :: _) rfl ?_; clear hA; intro a hA
    refine wpList_nil ?_
    replace hA := hA.sel [0] (e' := [(0, .slice (some ⟨b, off, none⟩) l.length c)]) rfl
    refine xt_norm ?_
    refine wp_seq ?_
    refine wp_seq ?_
    refine wp_region_lit ?_
    refine st_run tbOk 2 hA (e' := (4, .bool false) :: (3, .slice (some ⟨b, off, none⟩) l.length c) :: _) rfl ?_; clear hA; intro a hA
    refine wpList_nil ?_
    replace hA := hA.sel [0, 4] (e' := [(0, .slice (some ⟨b, off, none⟩) l.length c), (4, .bool false)]) rfl
    refine xt_norm ?_
    refine cd_cond_f hA rfl ?_
    refine wp_skip ?_
    refine xt_norm ?_
    refine wp_seq ?_
    refine wp_region_lit ?_
    refine st_buildSlice tbOk hA hS [] rfl rfl rfl rfl rfl (by decide) (by kernel_rfl) rfl rfl (by decide) ?_; clear hA hS; intro b1 w2 a hS hA
    refine st_run tbOk 1 hA (e' := (6, .slice (some ⟨b, off, none⟩) l.length c) :: _) rfl ?_; clear hA; intro a hA
    refine st_append tbOk hA (m := 0) (q := l.length) (xs := rows encAlarm ([] : List (Int × Int))) (news := rows encAlarm l) rfl rfl rfl rfl rfl rfl rfl rfl (by decide) (Own.full (T := 43) (size := 2) (g := b1) (m := 0) rfl (by decide)) hS (hr _ (hS.tail 1 rfl)) (rows_one encAlarm_ok _) (maxLen_le (by omega)) (by show (0 + l.length) * 16 ≤ 140737488355328; omega) rfl rfl (by decide) ?_
    clear hA hS; intro v3 w4 C5 a hO5 hS hA
    replace hO5 := Own.app (l := ([] : List (Int × Int))) (l2 := l) hO5
    replace hO5 : Own 43 2 v3 l.length (rows encAlarm l) C5 := hO5
    obtain ⟨A6, c7, rfl, hmc7, hxc7⟩ := hO5.open'
    refine st_run tbOk 1 hA (e' := (2, .slice A6 l.length c7) :: _) rfl ?_; clear hA; intro a hA
    refine wpList_nil ?_
    replace hA := hA.sel [2] (e' := [(2, .slice A6 l.length c7)]) rfl
    refine xt_norm ?_
    refine wp_ret ?_
    refine ret1 (fn := Try.f13) hA rfl rfl ?_
    exact ⟨C5, hO5, hS⟩

theorem indexFunc17 {w0 w : World} {F : List Chunk} (hS : St w0 w F) {v : Value} {l : List (Int × Int)} (hr : RdS w0 F 2 v l.length (rows encAlarm l)) {g : Nat} {first cap : Array Value} {p : (Int × Int) → Bool} (hg : IsFn Try.prog g) (hp : Pred Try.prog w0 F g first cap (fun x => .agg (encAlarm x).toArray) p) :
    Ret Try.prog 17 #[v, .func (.func g) first cap] w (fun v w' => v = .int .i64 (idx p l) ∧ St w0 w' F) := by
  obtain ⟨A, c, rfl, hmc, hcx⟩ := (hr w hS).open'
  refine enter (vs := [.slice A l.length c, .func (.func g) first cap]) 19 Try.func17 rfl rfl (by simp) ?_; intro a hA
  refine wp_seq ?_
  refine wp_region_lit ?_
  refine st_run tbOk 1 hA (e' := (4, .int .i64 0) :: _) rfl ?_; clear hA; intro a hA
  refine wpList_nil ?_
  replace hA := hA.sel [0, 1] (e' := [(0, .slice A l.length c), (1, .func (.func g) first cap)]) rfl
  refine xt_norm ?_
  refine wp_seq ?_
  refine wp_seq ?_
  refine wp_region_lit ?_
  refine st_run tbOk 3 hA (e' := (8, .int .i64 0) :: (7, .int .i64 ((l.length : Nat) : Int)) :: (6, .slice A l.length c) :: _) rfl ?_; clear hA; intro a hA
  refine wpList_nil ?_
  replace hA := hA.sel [0, 1, 7, 8] (e' := [(0, .slice A l.length c), (1, .func (.func g) first cap), (7, .int .i64 ((l.length : Nat) : Int)), (8, .int .i64 0)]) rfl
  refine xt_norm ?_
  refine wp_block ?_
  refine wp_loop_ghost (fun m a w => ∃ (k : Nat), m = l.length - k ∧ Has a 19 [(0, .slice A l.length c), (1, .func (.func g) first cap), (7, .int .i64 ((l.length : Nat) : Int)), (8, .int .i64 ((k : Nat) : Int))] ∧ St w0 w (F) ∧ (k ≤ l.length) ∧ (∀ (i : Nat) (y : (Int × Int)), i < k → l[i]? = some y → p y = false)) (l.length - 0)
    ⟨0, rfl, (hA.sel [0, 1, 7, 8] rfl), hS, Nat.zero_le _, fun i y hi => absurd hi (by omega)⟩ ?_
  clear hA hS; rintro m0 a w1 ⟨k, rfl, hA, hS, hk, hb⟩
  refine wp_seq ?_
  refine wp_region_lit ?_
  refine st_run tbOk 1 hA (e' := (9, .bool (decide (((k : Nat) : Int) < ((l.length : Nat) : Int)))) :: _) rfl ?_; clear hA; intro a hA
  refine wpList_nil ?_
  refine xt_norm ?_
  refine wp_seq ?_
  by_cases hc2 : ((k : Nat) : Int) < ((l.length : Nat) : Int)
  · first
    | (exfalso; omega)
    | (replace hA := hA.rw 9 (v' := .bool true) rfl (vb_true hc2)
       refine cd_cond_t hA rfl ?_
       refine wp_skip ?_
       refine xt_norm ?_
       refine wp_seq ?_
       refine wp_block ?_
       refine wp_seq ?_
       refine wp_region_lit ?_
       refine st_run tbOk 2 hA (e' := (5, .int .i64 ((k : Nat) : Int)) :: (10, .int .i64 ((k : Nat) : Int)) :: _) rfl ?_; clear hA; intro a hA
       refine wpList_nil ?_
       replace hA := hA.sel [0, 1, 5, 7, 8] (e' := [(0, .slice A l.length c), (1, .func (.func g) first cap), (5, .int .i64 ((k : Nat) : Int)), (7, .int .i64 ((l.length : Nat) : Int)), (8, .int .i64 ((k : Nat) : Int))]) rfl
       refine xt_norm ?_
       refine wp_seq ?_
       refine wp_region_lit ?_
       refine st_run tbOk 3 hA (e' := (13, .int .i64 ((k : Nat) : Int)) :: (12, .slice A l.length c) :: (11, .func (.func g) first cap) :: _) rfl ?_; clear hA; intro a hA
       obtain ⟨b3, o4, rfl⟩ := (hr _ hS).isSome (k := k) (by omega)
       refine st_val hA rfl rfl (by decide) (rn_indexAddr tbOk hA k (o4 + (k * 2)) rfl rfl rfl rfl rfl rfl (by rfl) (by omega) (by first | rfl | simp [Nat.mul_one, Nat.zero_add] | omega)) ?_; clear hA; intro a hA
       obtain ⟨x5, hx5⟩ := get_ex (l := l) (k := k) (by omega)
       refine st_val hA rfl rfl (by decide) (rn_loadA tbOk hA ([.int .i64 x5.1, .int .i64 x5.2]) rfl rfl rfl rfl (by rfl) ((hr _ hS).elem (k := k) encAlarm_ok hx5)) ?_; clear hA; intro a hA
       refine st_call hA rfl rfl rfl rfl hg rfl rfl (by decide) (hp _ x5 hS) ?_
       clear hA; rintro v w6 a ⟨rfl, hS'⟩ hA; replace hS : St w0 w6 (F) := hS.trans hS'
       refine wpList_nil ?_
       replace hA := hA.sel [0, 1, 5, 7, 8, 16] (e' := [(0, .slice (some ⟨b3, o4, none⟩) l.length c), (1, .func (.func g) first cap), (5, .int .i64 ((k : Nat) : Int)), (7, .int .i64 ((l.length : Nat) : Int)), (8, .int .i64 ((k : Nat) : Int)), (16, .bool (p x5))]) rfl
       refine xt_norm ?_
       by_cases hpx : (p x5) = true
       · first
         | (exfalso; omega)
         | (replace hA := hA.rw 16 (v' := .bool true) rfl (vb_t hpx)
            refine cd_cond_t hA rfl ?_
            refine wp_seq ?_
            refine wp_region_lit ?_
            refine st_run tbOk 2 hA (e' := (4, .int .i64 ((k : Nat) : Int)) :: (17, .int .i64 ((k : Nat) : Int)) :: _) rfl ?_; clear hA; intro a hA
            refine wpList_nil ?_
            replace hA := hA.sel [4] (e' := [(4, .int .i64 ((k : Nat) : Int))]) rfl
            refine xt_norm ?_
            refine wp_ret (xb_ret (xt_ret (xt_ret (xb_ret (xt_ret ?_)))))
            refine ret1 (fn := Try.f17) hA rfl rfl ?_
            exact ⟨vint (idx_some hx5 hpx (fun i y hi hy => hb i y hi hy)).symm, hS⟩)
       · first
         | (exfalso; omega)
         | (replace hA := hA.rw 16 (v' := .bool false) rfl (vb_f hpx)
            refine cd_cond_f hA rfl ?_
            refine wp_skip ?_
            refine xb_norm ?_
            refine xt_norm ?_
            refine wp_region_lit ?_
            refine st_run tbOk 1 hA (e' := (18, .int .i64 (IntKind.i64.wrap (((k : Nat) : Int) + 1))) :: _) rfl ?_; clear hA; intro a hA
            replace hA := hA.rw 18 (v' := .int .i64 ((k + 1 : Nat) : Int)) rfl (wr64 (by omega) (by omega) (by omega))
            refine st_run tbOk 1 hA (e' := (8, .int .i64 ((k + 1 : Nat) : Int)) :: _) rfl ?_; clear hA; intro a hA
            refine wpList_nil ?_
            replace hA := hA.sel [0, 1, 7, 8] (e' := [(0, .slice (some ⟨b3, o4, none⟩) l.length c), (1, .func (.func g) first cap), (7, .int .i64 ((l.length : Nat) : Int)), (8, .int .i64 ((k + 1 : Nat) : Int))]) rfl
            exact lp_next _ (by omega) ⟨(k + 1), rfl, (hA.sel [0, 1, 7, 8] rfl), hS, by omega, fun i y hi hy => (Nat.lt_succ_iff_lt_or_eq.1 hi).elim (fun h => hb i y h hy) (fun h => by subst h; rw [hx5] at hy; injection hy with hy; subst hy; simpa using hpx)⟩))
  · first
    | (exfalso; omega)
    | (replace hA := hA.rw 9 (v' := .bool false) rfl (vb_false hc2)
       refine cd_cond_f hA rfl ?_
       refine wp_exit ?_
       refine xt_exit ?_
       refine xt_exit ?_
       refine cd_exit_eq ?_
       refine xt_norm ?_
       refine wp_seq ?_
       refine wp_region_lit ?_
       refine st_run tbOk 1 hA (e' := (4, .int .i64 (-1)) :: _) rfl ?_; clear hA; intro a hA
       refine wpList_nil ?_
       replace hA := hA.sel [4] (e' := [(4, .int .i64 (-1))]) rfl
       refine xt_norm ?_
       refine wp_ret ?_
       refine ret1 (fn := Try.f17) hA rfl rfl ?_
       exact ⟨vint (idx_none (fun i y hy => hb i y (by have := (List.getElem?_eq_some_iff.1 hy).1; omega) hy)).symm, hS⟩)

theorem deleteFunc12 {w0 w : World} {F : List Chunk} {C : Chunk} (hS : St w0 w (C :: F)) {v : Value} {l : List (Int × Int)} (hO : Own 43 2 v l.length (rows encAlarm l) C) {g : Nat} {first cap : Array Value} {p : (Int × Int) → Bool} (hg : IsFn Try.prog g) (hp : Pred Try.prog w0 F g first cap (fun x => .agg (encAlarm x).toArray) p) :
    Ret Try.prog 12 #[v, .func (.func g) first cap] w (fun v w' => ∃ C', Own 43 2 v (l.filter (fun x => !p x)).length (rows encAlarm (l.filter (fun x => !p x))) C' ∧ St w0 w' (C' :: F)) := by
  obtain ⟨A, c, rfl, hmc, hcx⟩ := hO.open'
  refine enter (vs := [.slice A l.length c, .func (.func g) first cap]) 42 Try.func12 rfl rfl (by simp) ?_; intro a hA
  refine wp_seq ?_
  refine wp_region_lit ?_
  refine st_run tbOk 1 hA (e' := (4, .slice none 0 0) :: _) rfl ?_; clear hA; intro a hA
  refine wpList_nil ?_
  replace hA := hA.sel [0, 1] (e' := [(0, .slice A l.length c), (1, .func (.func g) first cap)]) rfl
  refine xt_norm ?_
  refine wp_seq ?_
  refine wp_region_lit ?_
  refine st_run tbOk 2 hA (e' := (9, .func (.func g) first cap) :: (8, .slice A l.length c) :: _) rfl ?_; clear hA; intro a hA
  refine st_call0 hA rfl rfl rfl isfn17 rfl rfl (by decide) (indexFunc17 hS (l := l) (RdS.own hO 0 rfl) hg hp.cons) ?_
  clear hA hS; rintro v w1 a ⟨rfl, hS⟩ hA
  refine st_run tbOk 1 hA (e' := (5, .int .i64 (idx p l)) :: _) rfl ?_; clear hA; intro a hA
  refine wpList_nil ?_
  replace hA := hA.sel [0, 1, 5] (e' := [(0, .slice A l.length c), (1, .func (.func g) first cap), (5, .int .i64 (idx p l))]) rfl
  refine xt_norm ?_
  refine wp_seq ?_
  refine wp_seq ?_
  rcases idx_cases p l with ⟨hi, hf⟩ | ⟨k, x0, hi, hx0, hpx0, hb⟩
  · replace hA := hA.rw 5 (v' := .int .i64 (-1)) rfl (by rw [hi])
    refine wp_region_lit ?_
    refine st_run tbOk 2 hA (e' := (12, .bool true) :: (11, .int .i64 (-1)) :: _) rfl ?_; clear hA; intro a hA
    refine wpList_nil ?_
    replace hA := hA.sel [0, 1, 5, 12] (e' := [(0, .slice A l.length c), (1, .func (.func g) first cap), (5, .int .i64 (-1)), (12, .bool true)]) rfl
    refine xt_norm ?_
    refine cd_cond_t hA rfl ?_
    refine wp_seq ?_
    refine wp_region_lit ?_
    refine st_run tbOk 2 hA (e' := (4, .slice A l.length c) :: (13, .slice A l.length c) :: _) rfl ?_; clear hA; intro a hA
    refine wpList_nil ?_
    replace hA := hA.sel [4] (e' := [(4, .slice A l.length c)]) rfl
    refine xt_norm ?_
    refine wp_ret (xt_ret ?_)
    refine ret1 (fn := Try.f12) hA rfl rfl ?_
    have hfl : l.filter (fun x => !p x) = l := List.filter_eq_self.2 (fun y hy => by obtain ⟨i, hi⟩ := List.mem_iff_getElem?.1 hy; simp [hf i y hi])
    exact ⟨C, by rw [hfl]; exact hO, hS⟩
  · replace hA := hA.rw 5 (v' := .int .i64 ((k : Nat) : Int)) rfl (by rw [hi])
    have hkl := (List.getElem?_eq_some_iff.1 hx0).1
    refine wp_region_lit ?_
    refine st_run tbOk 2 hA (e' := (12, .bool (((k : Nat) : Int) == (-1))) :: (11, .int .i64 ((k : Nat) : Int)) :: _) rfl ?_; clear hA; intro a hA
    refine wpList_nil ?_
    replace hA := hA.sel [0, 1, 5, 12] (e' := [(0, .slice A l.length c), (1, .func (.func g) first cap), (5, .int .i64 ((k : Nat) : Int)), (12, .bool (((k : Nat) : Int) == (-1)))]) rfl
    refine xt_norm ?_
    by_cases hc2 : ((k : Nat) : Int) = (-1)
    · first
      | (exfalso; omega)
      | (replace hA := hA.rw 12 (v' := .bool true) rfl (vb_eq_t hc2)
         refine cd_cond_t hA rfl ?_
         refine wp_seq ?_
         refine wp_region_lit ?_
         refine st_run tbOk 2 hA (e' := (4, .slice A l.length c) :: (13, .slice A l.length c) :: _) rfl ?_; clear hA; intro a hA
         refine wpList_nil ?_
         replace hA := hA.sel [4] (e' := [(4, .slice A l.length c)]) rfl
         refine xt_norm ?_
         refine wp_ret (xt_ret ?_)
         refine ret1 (fn := Try.f12) hA rfl rfl ?_
         have hfl : l.filter (fun x => !p x) = l := List.filter_eq_self.2 (fun y hy => by obtain ⟨i, hi⟩ := List.mem_iff_getElem?.1 hy; simp [hf i y hi])
         exact ⟨C, by rw [hfl]; exact hO, hS⟩)
    · first
      | (exfalso; omega)
      | (replace hA := hA.rw 12 (v' := .bool false) rfl (vb_eq_f hc2)
         refine cd_cond_f hA rfl ?_
         refine wp_skip ?_
         refine xt_norm ?_
         refine wp_seq ?_
         refine wp_seq ?_
         refine wp_region_lit ?_
         refine st_run tbOk 2 hA (e' := (15, .int .i64 (IntKind.i64.wrap (((k : Nat) : Int) + 1))) :: (14, .int .i64 ((k : Nat) : Int)) :: _) rfl ?_; clear hA; intro a hA
         replace hA := hA.rw 15 (v' := .int .i64 ((k + 1 : Nat) : Int)) rfl (wr64 (by omega) (by omega) (by omega))
         refine st_run tbOk 1 hA (e' := (6, .int .i64 ((k + 1 : Nat) : Int)) :: _) rfl ?_; clear hA; intro a hA
         refine wpList_nil ?_
         replace hA := hA.sel [0, 1, 5, 6] (e' := [(0, .slice A l.length c), (1, .func (.func g) first cap), (5, .int .i64 ((k : Nat) : Int)), (6, .int .i64 ((k + 1 : Nat) : Int))]) rfl
         refine xt_norm ?_
         refine wp_block ?_
         have hk1 : (kept p l (k + 1)).length = k := by rw [kept_step hx0, if_pos hpx0, kept_first hb, List.length_take]; omega
         replace hA := hA.rw 5 (v' := .int .i64 (((kept p l (k + 1)).length : Nat) : Int)) rfl (by rw [hk1])
         refine wp_loop_ghost (fun m a w => ∃ (j : Nat) (C : Chunk), m = l.length - j ∧ Has a 42 [(0, .slice A l.length c), (1, .func (.func g) first cap), (5, .int .i64 (((kept p l j).length : Nat) : Int)), (6, .int .i64 ((j : Nat) : Int))] ∧ St w0 w (C :: F) ∧ (k < j) ∧ (j ≤ l.length) ∧ (Own 43 2 (.slice A l.length c) l.length (rows encAlarm (mid p l j)) C)) (l.length - (k + 1))
           ⟨(k + 1), C, rfl, (hA.sel [0, 1, 5, 6] rfl), hS, by omega, by omega, by rw [mid_no hx0 hpx0, mid_first (by omega) hb]; exact hO⟩ ?_
         clear hA hS; rintro m0 a w3 ⟨j, C, rfl, hA, hS, hj1, hj, hO⟩
         have hkj := kept_le p l j
         refine wp_seq ?_
         refine wp_seq ?_
         refine wp_region_lit ?_
         refine st_run tbOk 4 hA (e' := (19, .bool (decide (((j : Nat) : Int) < ((l.length : Nat) : Int)))) :: (18, .int .i64 ((l.length : Nat) : Int)) :: (17, .slice A l.length c) :: (16, .int .i64 ((j : Nat) : Int)) :: _) rfl ?_; clear hA; intro a hA
         refine wpList_nil ?_
         replace hA := hA.sel [0, 1, 5, 6, 19] (e' := [(0, .slice A l.length c), (1, .func (.func g) first cap), (5, .int .i64 (((kept p l j).length : Nat) : Int)), (6, .int .i64 ((j : Nat) : Int)), (19, .bool (decide (((j : Nat) : Int) < ((l.length : Nat) : Int))))]) rfl
         refine xt_norm ?_
         by_cases hc4 : ((j : Nat) : Int) < ((l.length : Nat) : Int)
         · first
           | (exfalso; omega)
           | (replace hA := hA.rw 19 (v' := .bool true) rfl (vb_true hc4)
              refine cd_cond_t hA rfl ?_
              refine wp_skip ?_
              refine xt_norm ?_
              refine wp_seq ?_
              refine wp_block ?_
              refine wp_seq ?_
              refine wp_region_lit ?_
              refine st_run tbOk 2 hA (e' := (23, .int .i64 ((j : Nat) : Int)) :: (22, .slice A l.length c) :: _) rfl ?_; clear hA; intro a hA
              obtain ⟨b5, o6, rfl⟩ := hO.isSome (k := j) (by omega)
              refine st_val hA rfl rfl (by decide) (rn_indexAddr tbOk hA j (o6 + (j * 2)) rfl rfl rfl rfl rfl rfl (by rfl) (by omega) (by first | rfl | simp [Nat.mul_one, Nat.zero_add] | omega)) ?_; clear hA; intro a hA
              obtain ⟨x7, hx7⟩ := get_ex (l := l) (k := j) (by omega)
              have gx7 := (mid_at (p := p) (l := l) (Nat.le_refl j)).trans hx7
              refine st_val hA rfl rfl (by decide) (rn_loadA tbOk hA ([.int .i64 x7.1, .int .i64 x7.2]) rfl rfl rfl rfl (by rfl) ((hO.rd (hS.own_ 0 rfl)).elem (k := j) encAlarm_ok gx7)) ?_; clear hA; intro a hA
              refine st_alloc tbOk hA hS [.int .i64 0, .int .i64 0] rfl rfl rfl rfl rfl (by decide) ?_; clear hA hS; intro b8 w9 a hS hA
              refine st_store tbOk hA hS [.int .i64 x7.1, .int .i64 x7.2] [.int .i64 x7.1, .int .i64 x7.2] rfl rfl rfl rfl rfl rfl (by simp [Value.oneCell']) (Nat.le_of_ble_eq_true rfl) rfl rfl rfl ?_; clear hS; intro w10 hS
              refine wpList_nil ?_
              replace hA := hA.sel [0, 1, 5, 6, 7] (e' := [(0, .slice (some ⟨b5, o6, none⟩) l.length c), (1, .func (.func g) first cap), (5, .int .i64 (((kept p l j).length : Nat) : Int)), (6, .int .i64 ((j : Nat) : Int)), (7, .pointer (some ⟨b8, 0, none⟩))]) rfl
              refine xt_norm ?_
              refine wp_seq ?_
              refine wp_region_lit ?_
              refine st_run tbOk 1 hA (e' := (26, .func (.func g) first cap) :: _) rfl ?_; clear hA; intro a hA
              refine st_val hA rfl rfl (by decide) (rn_loadA tbOk hA [.int .i64 x7.1, .int .i64 x7.2] rfl rfl rfl rfl rfl (cells_row (hS.heapAt 0 rfl) rfl)) ?_; clear hA; intro a hA
              refine st_call hA rfl rfl rfl rfl hg rfl rfl (by decide) (hp _ x7 (hS.tail 2 rfl)) ?_
              clear hA; rintro v w11 a ⟨rfl, hS'⟩ hA; replace hS : St w0 w11 ([(b8, rowO [.int .i64 x7.1, .int .i64 x7.2] 43)] :: C :: F) := hS.trans hS'
              by_cases hpx : (p x7) = true
              · first
                | (exfalso; omega)
                | (replace hA := hA.rw 28 (v' := .bool true) rfl (vb_t hpx)
                   refine st_run tbOk 1 hA (e' := (29, .bool false) :: _) rfl ?_; clear hA; intro a hA
                   refine wpList_nil ?_
                   replace hA := hA.sel [0, 1, 5, 6, 7, 29] (e' := [(0, .slice (some ⟨b5, o6, none⟩) l.length c), (1, .func (.func g) first cap), (5, .int .i64 (((kept p l j).length : Nat) : Int)), (6, .int .i64 ((j : Nat) : Int)), (7, .pointer (some ⟨b8, 0, none⟩)), (29, .bool false)]) rfl
                   refine xt_norm ?_
                   refine cd_cond_f hA rfl ?_
                   refine wp_skip ?_
                   refine xb_norm ?_
                   refine xt_norm ?_
                   refine wp_region_lit ?_
                   refine st_run tbOk 2 hA (e' := (21, .int .i64 (IntKind.i64.wrap (((j : Nat) : Int) + 1))) :: (20, .int .i64 ((j : Nat) : Int)) :: _) rfl ?_; clear hA; intro a hA
                   replace hA := hA.rw 21 (v' := .int .i64 ((j + 1 : Nat) : Int)) rfl (wr64 (by omega) (by omega) (by omega))
                   refine st_run tbOk 1 hA (e' := (6, .int .i64 ((j + 1 : Nat) : Int)) :: _) rfl ?_; clear hA; intro a hA
                   refine wpList_nil ?_
                   replace hA := hA.sel [0, 1, 5, 6] (e' := [(0, .slice (some ⟨b5, o6, none⟩) l.length c), (1, .func (.func g) first cap), (5, .int .i64 (((kept p l j).length : Nat) : Int)), (6, .int .i64 ((j + 1 : Nat) : Int))]) rfl
                   have h2 : (kept p l (j + 1)).length = (kept p l j).length := by rw [kept_step hx7, if_pos (by simpa using hpx)]
                   have h3 : Own 43 2 (.slice (some ⟨b5, o6, none⟩) l.length c) l.length (rows encAlarm (mid p l (j + 1))) C := by rw [mid_no hx7 (by simpa using hpx)]; exact hO
                   replace hA := hA.rw 5 (v' := .int .i64 (((kept p l (j + 1)).length : Nat) : Int)) rfl (by rw [h2])
                   replace hS := hS.drop1
                   exact lp_next _ (by omega) ⟨(j + 1), C, rfl, (hA.sel [0, 1, 5, 6] rfl), hS, by omega, by omega, h3⟩)
              · first
                | (exfalso; omega)
                | (replace hA := hA.rw 28 (v' := .bool false) rfl (vb_f hpx)
                   refine st_run tbOk 1 hA (e' := (29, .bool true) :: _) rfl ?_; clear hA; intro a hA
                   refine wpList_nil ?_
                   replace hA := hA.sel [0, 1, 5, 6, 7, 29] (e' := [(0, .slice (some ⟨b5, o6, none⟩) l.length c), (1, .func (.func g) first cap), (5, .int .i64 (((kept p l j).length : Nat) : Int)), (6, .int .i64 ((j : Nat) : Int)), (7, .pointer (some ⟨b8, 0, none⟩)), (29, .bool true)]) rfl
                   refine xt_norm ?_
                   refine cd_cond_t hA rfl ?_
                   refine wp_seq ?_
                   refine wp_region_lit ?_
                   refine st_run tbOk 2 hA (e' := (31, .int .i64 (((kept p l j).length : Nat) : Int)) :: (30, .slice (some ⟨b5, o6, none⟩) l.length c) :: _) rfl ?_; clear hA; intro a hA
                   refine st_val hA rfl rfl (by decide) (rn_loadA tbOk hA [.int .i64 x7.1, .int .i64 x7.2] rfl rfl rfl rfl rfl (cells_row (hS.heapAt 0 rfl) rfl)) ?_; clear hA; intro a hA
                   refine st_val hA rfl rfl (by decide) (rn_indexAddr tbOk hA ((kept p l j).length) (o6 + (((kept p l j).length) * 2)) rfl rfl rfl rfl rfl rfl (by rfl) (by omega) (by first | rfl | simp [Nat.mul_one, Nat.zero_add] | omega)) ?_; clear hA; intro a hA
                   replace hS := hS.front 1 (C := C) (L' := [(b8, rowO [.int .i64 x7.1, .int .i64 x7.2] 43)] :: F) rfl rfl
                   refine st_store_own tbOk hA hO hS ((((kept p l j).length) * 2)) (o6 + (((kept p l j).length) * 2)) [.int .i64 x7.1, .int .i64 x7.2] (rows encAlarm ((mid p l j).set (kept p l j).length x7)) rfl rfl rfl rfl (by rfl) rfl rfl (by exact encAlarm_ok.one x7) (by rw [rows_length encAlarm_ok, mid_length]; have := kept_le p l j; have := Nat.mul_le_mul_right 2 (show (kept p l j).length + 1 ≤ l.length by omega); simp only [List.length_cons, List.length_nil]; omega) ((congrArg _ rfl).trans (rows_set encAlarm_ok (by rw [mid_length]; have := kept_le p l j; omega))) rfl rfl ?_; clear hS; intro w12 C13 hO13 hS
                   refine wpList_nil ?_
                   replace hA := hA.sel [0, 1, 5, 6] (e' := [(0, .slice (some ⟨b5, o6, none⟩) l.length c), (1, .func (.func g) first cap), (5, .int .i64 (((kept p l j).length : Nat) : Int)), (6, .int .i64 ((j : Nat) : Int))]) rfl
                   refine xt_norm ?_
                   refine wp_region_lit ?_
                   refine st_run tbOk 2 hA (e' := (35, .int .i64 (IntKind.i64.wrap ((((kept p l j).length : Nat) : Int) + 1))) :: (34, .int .i64 (((kept p l j).length : Nat) : Int)) :: _) rfl ?_; clear hA; intro a hA
                   replace hA := hA.rw 35 (v' := .int .i64 ((((kept p l j).length) + 1 : Nat) : Int)) rfl (wr64 (by omega) (by omega) (by omega))
                   refine st_run tbOk 1 hA (e' := (5, .int .i64 ((((kept p l j).length) + 1 : Nat) : Int)) :: _) rfl ?_; clear hA; intro a hA
                   refine wpList_nil ?_
                   replace hA := hA.sel [0, 1, 5, 6] (e' := [(0, .slice (some ⟨b5, o6, none⟩) l.length c), (1, .func (.func g) first cap), (5, .int .i64 ((((kept p l j).length) + 1 : Nat) : Int)), (6, .int .i64 ((j : Nat) : Int))]) rfl
                   refine xb_norm ?_
                   refine xt_norm ?_
                   refine wp_region_lit ?_
                   refine st_run tbOk 2 hA (e' := (21, .int .i64 (IntKind.i64.wrap (((j : Nat) : Int) + 1))) :: (20, .int .i64 ((j : Nat) : Int)) :: _) rfl ?_; clear hA; intro a hA
                   replace hA := hA.rw 21 (v' := .int .i64 ((j + 1 : Nat) : Int)) rfl (wr64 (by omega) (by omega) (by omega))
                   refine st_run tbOk 1 hA (e' := (6, .int .i64 ((j + 1 : Nat) : Int)) :: _) rfl ?_; clear hA; intro a hA
                   refine wpList_nil ?_
                   replace hA := hA.sel [0, 1, 5, 6] (e' := [(0, .slice (some ⟨b5, o6, none⟩) l.length c), (1, .func (.func g) first cap), (5, .int .i64 ((((kept p l j).length) + 1 : Nat) : Int)), (6, .int .i64 ((j + 1 : Nat) : Int))]) rfl
                   have h2 : (kept p l (j + 1)).length = (kept p l j).length + 1 := by rw [kept_step hx7, if_neg (by simpa using hpx), List.length_append]; rfl
                   have h3 : Own 43 2 (.slice (some ⟨b5, o6, none⟩) l.length c) l.length (rows encAlarm (mid p l (j + 1))) C13 := by rw [mid_yes hx7 (by simpa using hpx)]; exact hO13
                   replace hA := hA.rw 5 (v' := .int .i64 (((kept p l (j + 1)).length : Nat) : Int)) rfl (by rw [h2])
                   replace hS := hS.front 1 (C := [(b8, rowO [.int .i64 x7.1, .int .i64 x7.2] 43)]) (L' := C13 :: F) rfl rfl
                   replace hS := hS.drop1
                   exact lp_next _ (by omega) ⟨(j + 1), C13, rfl, (hA.sel [0, 1, 5, 6] rfl), hS, by omega, by omega, h3⟩))
         · first
           | (exfalso; omega)
           | (replace hA := hA.rw 19 (v' := .bool false) rfl (vb_false hc4)
              refine cd_cond_f hA rfl ?_
              refine wp_exit ?_
              refine xt_exit ?_
              refine xt_exit ?_
              refine cd_exit_eq ?_
              refine xt_norm ?_
              refine wp_seq ?_
              refine wp_region_lit ?_
              refine st_run tbOk 2 hA (e' := (37, .int .i64 (((kept p l j).length : Nat) : Int)) :: (36, .slice A l.length c) :: _) rfl ?_; clear hA; intro a hA
              refine st_val hA rfl rfl (by decide) (rn_slice_l tbOk hA ((kept p l j).length) rfl rfl rfl rfl rfl rfl (by rfl) (by omega)) ?_; clear hA; intro a hA
              refine st_clear tbOk hA (h := (kept p l j).length) (old := l.length) (c := c) rfl rfl rfl rfl rfl rfl (fun u hu => List.all_eq_true.1 (by rfl) u hu) (hO.head (kept p l j).length (by omega)) hS (by omega) (by omega) rfl rfl ?_; clear hS; intro w14 C15 hO15 hS
              obtain rfl : j = l.length := by omega
              rw [rows_take encAlarm_ok, mid_head, kept_all] at hO15
              have e1 : (kept p l l.length).length = (l.filter (fun x => !p x)).length := by rw [kept_all]
              refine wpList_nil ?_
              replace hA := hA.sel [0, 5] (e' := [(0, .slice A l.length c), (5, .int .i64 (((kept p l l.length).length : Nat) : Int))]) rfl
              refine xt_norm ?_
              refine wp_seq ?_
              refine wp_region_lit ?_
              refine st_run tbOk 2 hA (e' := (40, .int .i64 (((kept p l l.length).length : Nat) : Int)) :: (39, .slice A l.length c) :: _) rfl ?_; clear hA; intro a hA
              refine st_val hA rfl rfl (by decide) (rn_slice_h tbOk hA ((kept p l l.length).length) rfl rfl rfl rfl rfl rfl (by rfl) (by omega)) ?_; clear hA; intro a hA
              refine st_run tbOk 1 hA (e' := (4, .slice A ((kept p l l.length).length) c) :: _) rfl ?_; clear hA; intro a hA
              refine wpList_nil ?_
              replace hA := hA.sel [4] (e' := [(4, .slice A ((kept p l l.length).length) c)]) rfl
              refine xt_norm ?_
              refine wp_ret ?_
              refine ret1 (fn := Try.f12) hA rfl rfl ?_
              exact ⟨_, (e1 ▸ hO15), hS⟩))

theorem same_len {xs ys : List Int} (h : xs.length ≠ ys.length) : ¬ xs = ys := fun e => h (by rw [e])
theorem same_ne {xs ys : List Int} {k : Nat} {x y : Int} (hx : xs[k]? = some x) (hy : ys[k]? = some y) (h : ¬ x = y) : ¬ xs = ys := fun e => by
  subst e; rw [hx] at hy; injection hy with hy; exact h hy
theorem same_all {xs ys : List Int} (h : xs.length = ys.length) (ha : ∀ (i : Nat), i < xs.length → xs[i]? = ys[i]?) : xs = ys := by
  apply List.ext_getElem? 
  intro i
  by_cases hi : i < xs.length
  · exact ha i hi
  · rw [List.getElem?_eq_none (by omega), List.getElem?_eq_none (by omega)]
theorem same10 {w0 w : World} {F : List Chunk} (hS : St w0 w F) {va vb : Value} {xs ys : List Int} (ha : RdS w0 F 1 va xs.length (rows encI xs)) (hb : RdS w0 F 1 vb ys.length (rows encI ys)) :
    Ret Try.prog 10 #[va, vb] w (fun v w' => v = .bool (decide (xs = ys)) ∧ St w0 w' F) := by
  obtain ⟨A1, c1, rfl, hm1, hx1⟩ := (ha w hS).open'
  obtain ⟨A2, c2, rfl, hm2, hx2⟩ := (hb w hS).open'
  refine enter (vs := [.slice A1 xs.length c1, .slice A2 ys.length c2]) 26 Try.func10 rfl rfl (by simp) ?_; intro a hA
  refine wp_seq ?_
  refine wp_region_lit ?_
  refine st_run tbOk 1 hA (e' := (4, .bool false) :: _) rfl ?_; clear hA; intro a hA
  refine wpList_nil ?_
  replace hA := hA.sel [0, 1] (e' := [(0, .slice A1 xs.length c1), (1, .slice A2 ys.length c2)]) rfl
  refine xt_norm ?_
  refine wp_seq ?_
  refine wp_seq ?_
  refine wp_region_lit ?_
  refine st_run tbOk 5 hA (e' := (10, .bool (((xs.length : Nat) : Int) != ((ys.length : Nat) : Int))) :: (9, .int .i64 ((ys.length : Nat) : Int)) :: (8, .slice A2 ys.length c2) :: (7, .int .i64 ((xs.length : Nat) : Int)) :: (6, .slice A1 xs.length c1) :: _) rfl ?_; clear hA; intro a hA
  refine wpList_nil ?_
  replace hA := hA.sel [0, 1, 10] (e' := [(0, .slice A1 xs.length c1), (1, .slice A2 ys.length c2), (10, .bool (((xs.length : Nat) : Int) != ((ys.length : Nat) : Int)))]) rfl
  refine xt_norm ?_
  by_cases hc1 : ((xs.length : Nat) : Int) = ((ys.length : Nat) : Int)
  · first
    | (exfalso; omega)
    | (replace hA := hA.rw 10 (v' := .bool false) rfl (vb_ne_f hc1)
       refine cd_cond_f hA rfl ?_
       refine wp_skip ?_
       refine xt_norm ?_
       refine wp_seq ?_
       refine wp_seq ?_
       refine wp_region_lit ?_
       refine st_run tbOk 3 hA (e' := (13, .int .i64 0) :: (12, .int .i64 ((xs.length : Nat) : Int)) :: (11, .slice A1 xs.length c1) :: _) rfl ?_; clear hA; intro a hA
       refine wpList_nil ?_
       replace hA := hA.sel [0, 1, 12, 13] (e' := [(0, .slice A1 xs.length c1), (1, .slice A2 ys.length c2), (12, .int .i64 ((xs.length : Nat) : Int)), (13, .int .i64 0)]) rfl
       refine xt_norm ?_
       refine wp_block ?_
       refine wp_loop_ghost (fun m a w => ∃ (k : Nat), m = xs.length - k ∧ Has a 26 [(0, .slice A1 xs.length c1), (1, .slice A2 ys.length c2), (12, .int .i64 ((xs.length : Nat) : Int)), (13, .int .i64 ((k : Nat) : Int))] ∧ St w0 w (F) ∧ (k ≤ xs.length) ∧ (∀ (i : Nat), i < k → xs[i]? = ys[i]?)) (xs.length - 0)
         ⟨0, rfl, (hA.sel [0, 1, 12, 13] rfl), hS, Nat.zero_le _, fun i hi => absurd hi (by omega)⟩ ?_
       clear hA hS; rintro m0 a w2 ⟨k, rfl, hA, hS, hk, hall⟩
       refine wp_seq ?_
       refine wp_region_lit ?_
       refine st_run tbOk 1 hA (e' := (14, .bool (decide (((k : Nat) : Int) < ((xs.length : Nat) : Int)))) :: _) rfl ?_; clear hA; intro a hA
       refine wpList_nil ?_
       refine xt_norm ?_
       refine wp_seq ?_
       by_cases hc3 : ((k : Nat) : Int) < ((xs.length : Nat) : Int)
       · first
         | (exfalso; omega)
         | (replace hA := hA.rw 14 (v' := .bool true) rfl (vb_true hc3)
            refine cd_cond_t hA rfl ?_
            refine wp_skip ?_
            refine xt_norm ?_
            refine wp_seq ?_
            refine wp_block ?_
            refine wp_seq ?_
            refine wp_region_lit ?_
            refine st_run tbOk 2 hA (e' := (5, .int .i64 ((k : Nat) : Int)) :: (15, .int .i64 ((k : Nat) : Int)) :: _) rfl ?_; clear hA; intro a hA
            refine wpList_nil ?_
            replace hA := hA.sel [0, 1, 5, 12, 13] (e' := [(0, .slice A1 xs.length c1), (1, .slice A2 ys.length c2), (5, .int .i64 ((k : Nat) : Int)), (12, .int .i64 ((xs.length : Nat) : Int)), (13, .int .i64 ((k : Nat) : Int))]) rfl
            refine xt_norm ?_
            refine wp_seq ?_
            refine wp_draw (fun w' => St w0 w' (F)) [] [(0, true), (1, true), (2, true), (3, true), (4, true), (5, true), (6, true), (7, true), (8, true)] mixed (by kernel_rfl) (by rintro c a w ⟨_, _, h, _⟩; cases h) (by rfl) (by kernel_rfl) ?_
            replace hS := hS.drew
            refine dr_run tbOk 2 hA hS (e' := (17, .int .i64 ((k : Nat) : Int)) :: (16, .slice A1 xs.length c1) :: _) rfl ?_; clear hA; intro a hA
            obtain ⟨b4, o5, rfl⟩ := (ha _ hS).isSome (k := k) (by omega)
            refine dr_y hA rfl rfl rfl (by decide) hS (fun w' hS' => rn_indexAddr tbOk hA k (o5 + k) rfl rfl rfl rfl rfl rfl (by rfl) (by omega) (by first | rfl | simp [Nat.mul_one, Nat.zero_add] | omega)) ?_; clear hA; intro a hA
            obtain ⟨x6, hx6⟩ := get_ex (l := xs) (k := k) (by omega)
            refine dr_y hA rfl rfl rfl (by decide) hS (fun w' hS' => rn_load tbOk hA rfl rfl rfl rfl ((ha _ hS').elem0 (k := k) encI_ok hx6 rfl)) ?_; clear hA; intro a hA
            refine dr_run tbOk 2 hA hS (e' := (21, .int .i64 ((k : Nat) : Int)) :: (20, .slice A2 ys.length c2) :: _) rfl ?_; clear hA; intro a hA
            obtain ⟨b7, o8, rfl⟩ := (hb _ hS).isSome (k := k) (by omega)
            refine dr_y hA rfl rfl rfl (by decide) hS (fun w' hS' => rn_indexAddr tbOk hA k (o8 + k) rfl rfl rfl rfl rfl rfl (by rfl) (by omega) (by first | rfl | simp [Nat.mul_one, Nat.zero_add] | omega)) ?_; clear hA; intro a hA
            obtain ⟨x9, hx9⟩ := get_ex (l := ys) (k := k) (by omega)
            refine dr_y hA rfl rfl rfl (by decide) hS (fun w' hS' => rn_load tbOk hA rfl rfl rfl rfl ((hb _ hS').elem0 (k := k) encI_ok hx9 rfl)) ?_; clear hA; intro a hA
            refine dr_run tbOk 1 hA hS (e' := (24, .bool (x6 != x9)) :: _) rfl ?_; clear hA; intro a hA
            refine dr_end ?_
            replace hA := hA.sel [0, 1, 12, 13, 24] (e' := [(0, .slice (some ⟨b4, o5, none⟩) xs.length c1), (1, .slice (some ⟨b7, o8, none⟩) ys.length c2), (12, .int .i64 ((xs.length : Nat) : Int)), (13, .int .i64 ((k : Nat) : Int)), (24, .bool (x6 != x9))]) rfl
            refine xt_norm ?_
            by_cases hc10 : x6 = x9
            · first
              | (exfalso; omega)
              | (replace hA := hA.rw 24 (v' := .bool false) rfl (vb_ne_f hc10)
                 refine cd_cond_f hA rfl ?_
                 refine wp_skip ?_
                 refine xb_norm ?_
                 refine xt_norm ?_
                 refine wp_region_lit ?_
                 refine st_run tbOk 1 hA (e' := (25, .int .i64 (IntKind.i64.wrap (((k : Nat) : Int) + 1))) :: _) rfl ?_; clear hA; intro a hA
                 replace hA := hA.rw 25 (v' := .int .i64 ((k + 1 : Nat) : Int)) rfl (wr64 (by omega) (by omega) (by omega))
                 refine st_run tbOk 1 hA (e' := (13, .int .i64 ((k + 1 : Nat) : Int)) :: _) rfl ?_; clear hA; intro a hA
                 refine wpList_nil ?_
                 replace hA := hA.sel [0, 1, 12, 13] (e' := [(0, .slice (some ⟨b4, o5, none⟩) xs.length c1), (1, .slice (some ⟨b7, o8, none⟩) ys.length c2), (12, .int .i64 ((xs.length : Nat) : Int)), (13, .int .i64 ((k + 1 : Nat) : Int))]) rfl
                 exact lp_next _ (by omega) ⟨(k + 1), rfl, (hA.sel [0, 1, 12, 13] rfl), hS, by omega, fun i hi => (Nat.lt_succ_iff_lt_or_eq.1 hi).elim (fun h => hall i h) (fun h => by subst h; rw [hx6, hx9]; exact congrArg some (by omega))⟩)
            · first
              | (exfalso; omega)
              | (replace hA := hA.rw 24 (v' := .bool true) rfl (vb_ne_t hc10)
                 refine cd_cond_t hA rfl ?_
                 refine wp_seq ?_
                 refine wp_region_lit ?_
                 refine st_run tbOk 1 hA (e' := (4, .bool false) :: _) rfl ?_; clear hA; intro a hA
                 refine wpList_nil ?_
                 replace hA := hA.sel [4] (e' := [(4, .bool false)]) rfl
                 refine xt_norm ?_
                 refine wp_ret (xb_ret (xt_ret (xt_ret (xb_ret (xt_ret ?_)))))
                 refine ret1 (fn := Try.f10) hA rfl rfl ?_
                 refine ⟨?_, hS⟩
                 rw [decide_eq_false]; exact same_ne hx6 hx9 (by omega)))
       · first
         | (exfalso; omega)
         | (replace hA := hA.rw 14 (v' := .bool false) rfl (vb_false hc3)
            refine cd_cond_f hA rfl ?_
            refine wp_exit ?_
            refine xt_exit ?_
            refine xt_exit ?_
            refine cd_exit_eq ?_
            refine xt_norm ?_
            refine wp_seq ?_
            refine wp_region_lit ?_
            refine st_run tbOk 1 hA (e' := (4, .bool true) :: _) rfl ?_; clear hA; intro a hA
            refine wpList_nil ?_
            replace hA := hA.sel [4] (e' := [(4, .bool true)]) rfl
            refine xt_norm ?_
            refine wp_ret ?_
            refine ret1 (fn := Try.f10) hA rfl rfl ?_
            refine ⟨?_, hS⟩
            rw [decide_eq_true]; exact same_all (by omega) (fun i hi => hall i (by omega))))
  · first
    | (exfalso; omega)
    | (replace hA := hA.rw 10 (v' := .bool true) rfl (vb_ne_t hc1)
       refine cd_cond_t hA rfl ?_
       refine wp_seq ?_
       refine wp_region_lit ?_
       refine st_run tbOk 1 hA (e' := (4, .bool false) :: _) rfl ?_; clear hA; intro a hA
       refine wpList_nil ?_
       replace hA := hA.sel [4] (e' := [(4, .bool false)]) rfl
       refine xt_norm ?_
       refine wp_ret (xt_ret ?_)
       refine ret1 (fn := Try.f10) hA rfl rfl ?_
       refine ⟨?_, hS⟩
       rw [decide_eq_false]; exact same_len (by omega))

/-- A timer at a block: the time, and its alarms. -/
def XR (b : Nat) (now : Int) (al : List (Int × Int)) (L : Chunk) : Prop := ∃ v C, Own 43 2 v al.length (rows encAlarm al) C ∧ L = (b, rowO [.int .i64 now, v] 26) :: C
theorem XR.new (b : Nat) : XR b 0 [] [(b, rowO [.int .i64 0, .slice none 0 0] 26)] := ⟨_, [], Own.nil _ _, rfl⟩
def wid (id : Int) (x : Int × Int) : Bool := x.1 == id
def wat (now : Int) (x : Int × Int) : Bool := x.2 == now

theorem setc14 {w0 w : World} {F : List Chunk} (hS : St w0 w F) {bx : Nat} {id : Int} (hc : ∀ w', St w0 w' F → w'.cell? ⟨bx, 0, none⟩ = some (.int .i64 id)) (x : Int × Int) :
    Ret Try.prog 14 #[.agg #[.int .i64 x.1, .int .i64 x.2], .pointer (some ⟨bx, 0, none⟩)] w (fun v w' => v = .bool (wid id x) ∧ St w0 w' F) := by
  refine enter (vs := [.agg #[.int .i64 x.1, .int .i64 x.2], .pointer (some ⟨bx, 0, none⟩)]) 8 Try.func14 rfl rfl (by simp) ?_; intro a hA
  refine wp_seq ?_
  refine wp_region_lit ?_
  refine st_box hA hS [.int .i64 x.1, .int .i64 x.2] rfl rfl rfl rfl rfl (by decide) ?_; clear hA hS; intro b1 w2 a hS hA
  refine st_run tbOk 1 hA (e' := (3, .bool false) :: _) rfl ?_; clear hA; intro a hA
  refine wpList_nil ?_
  replace hA := hA.sel [1, 2] (e' := [(1, .pointer (some ⟨bx, 0, none⟩)), (2, .pointer (some ⟨b1, 0, none⟩))]) rfl
  refine xt_norm ?_
  refine wp_seq ?_
  refine wp_region_lit ?_
  refine st_run tbOk 1 hA (e' := (4, .pointer (some ⟨b1, 0, none⟩)) :: _) rfl ?_; clear hA; intro a hA
  refine st_val hA rfl rfl (by decide) (rn_load tbOk hA rfl rfl rfl rfl (cell_row (hS.heapAt 0 rfl) rfl)) ?_; clear hA; intro a hA
  refine st_val hA rfl rfl (by decide) (rn_load tbOk hA rfl rfl rfl rfl (hc _ (hS.tail 1 rfl))) ?_; clear hA; intro a hA
  refine st_run tbOk 2 hA (e' := (3, .bool (x.1 == id)) :: (7, .bool (x.1 == id)) :: _) rfl ?_; clear hA; intro a hA
  refine wpList_nil ?_
  replace hA := hA.sel [3] (e' := [(3, .bool (x.1 == id))]) rfl
  refine xt_norm ?_
  refine wp_ret ?_
  refine ret1 (fn := Try.f14) hA rfl rfl ?_
  replace hS := hS.drop1
  exact ⟨rfl, hS⟩

theorem setcP {w0 : World} {F : List Chunk} {bx : Nat} {id : Int} (hc : ∀ w', St w0 w' F → w'.cell? ⟨bx, 0, none⟩ = some (.int .i64 id)) : Pred Try.prog w0 F 14 #[] #[.pointer (some ⟨bx, 0, none⟩)] (fun x => .agg (encAlarm x).toArray) (fun x => wid id x) := by
  intro w x hS
  exact setc14 (St.refl w) (fun w' h => h.old (hc w hS)) x

theorem canc16 {w0 w : World} {F : List Chunk} (hS : St w0 w F) {bx : Nat} {id : Int} (hc : ∀ w', St w0 w' F → w'.cell? ⟨bx, 0, none⟩ = some (.int .i64 id)) (x : Int × Int) :
    Ret Try.prog 16 #[.agg #[.int .i64 x.1, .int .i64 x.2], .pointer (some ⟨bx, 0, none⟩)] w (fun v w' => v = .bool (wid id x) ∧ St w0 w' F) := by
  refine enter (vs := [.agg #[.int .i64 x.1, .int .i64 x.2], .pointer (some ⟨bx, 0, none⟩)]) 8 Try.func16 rfl rfl (by simp) ?_; intro a hA
  refine wp_seq ?_
  refine wp_region_lit ?_
  refine st_box hA hS [.int .i64 x.1, .int .i64 x.2] rfl rfl rfl rfl rfl (by decide) ?_; clear hA hS; intro b1 w2 a hS hA
  refine st_run tbOk 1 hA (e' := (3, .bool false) :: _) rfl ?_; clear hA; intro a hA
  refine wpList_nil ?_
  replace hA := hA.sel [1, 2] (e' := [(1, .pointer (some ⟨bx, 0, none⟩)), (2, .pointer (some ⟨b1, 0, none⟩))]) rfl
  refine xt_norm ?_
  refine wp_seq ?_
  refine wp_region_lit ?_
  refine st_run tbOk 1 hA (e' := (4, .pointer (some ⟨b1, 0, none⟩)) :: _) rfl ?_; clear hA; intro a hA
  refine st_val hA rfl rfl (by decide) (rn_load tbOk hA rfl rfl rfl rfl (cell_row (hS.heapAt 0 rfl) rfl)) ?_; clear hA; intro a hA
  refine st_val hA rfl rfl (by decide) (rn_load tbOk hA rfl rfl rfl rfl (hc _ (hS.tail 1 rfl))) ?_; clear hA; intro a hA
  refine st_run tbOk 2 hA (e' := (3, .bool (x.1 == id)) :: (7, .bool (x.1 == id)) :: _) rfl ?_; clear hA; intro a hA
  refine wpList_nil ?_
  replace hA := hA.sel [3] (e' := [(3, .bool (x.1 == id))]) rfl
  refine xt_norm ?_
  refine wp_ret ?_
  refine ret1 (fn := Try.f16) hA rfl rfl ?_
  replace hS := hS.drop1
  exact ⟨rfl, hS⟩

theorem cancP {w0 : World} {F : List Chunk} {bx : Nat} {id : Int} (hc : ∀ w', St w0 w' F → w'.cell? ⟨bx, 0, none⟩ = some (.int .i64 id)) : Pred Try.prog w0 F 16 #[] #[.pointer (some ⟨bx, 0, none⟩)] (fun x => .agg (encAlarm x).toArray) (fun x => wid id x) := by
  intro w x hS
  exact canc16 (St.refl w) (fun w' h => h.old (hc w hS)) x

theorem tickc15 {w0 w : World} {F : List Chunk} (hS : St w0 w F) {bx : Nat} {b : Nat} {now : Int} (hc : ∀ w', St w0 w' F → w'.cell? ⟨bx, 0, none⟩ = some (.pointer (some ⟨b, 0, none⟩))) (hn : ∀ w', St w0 w' F → w'.cell? ⟨b, 0, none⟩ = some (.int .i64 now)) (x : Int × Int) :
    Ret Try.prog 15 #[.agg #[.int .i64 x.1, .int .i64 x.2], .pointer (some ⟨bx, 0, none⟩)] w (fun v w' => v = .bool (wat now x) ∧ St w0 w' F) := by
  refine enter (vs := [.agg #[.int .i64 x.1, .int .i64 x.2], .pointer (some ⟨bx, 0, none⟩)]) 11 Try.func15 rfl rfl (by simp) ?_; intro a hA
  refine wp_seq ?_
  refine wp_region_lit ?_
  refine st_box hA hS [.int .i64 x.1, .int .i64 x.2] rfl rfl rfl rfl rfl (by decide) ?_; clear hA hS; intro b1 w2 a hS hA
  refine st_run tbOk 1 hA (e' := (3, .bool false) :: _) rfl ?_; clear hA; intro a hA
  refine wpList_nil ?_
  replace hA := hA.sel [1, 2] (e' := [(1, .pointer (some ⟨bx, 0, none⟩)), (2, .pointer (some ⟨b1, 0, none⟩))]) rfl
  refine xt_norm ?_
  refine wp_seq ?_
  refine wp_draw (fun w' => St w0 w' ([(b1, rowO [.int .i64 x.1, .int .i64 x.2] 43)] :: F)) [] [(0, true), (1, true), (2, true), (3, true), (4, true), (5, true), (6, true), (7, true)] mixed (by kernel_rfl) (by rintro c a w ⟨_, _, h, _⟩; cases h) (by rfl) (by kernel_rfl) ?_
  replace hS := hS.drew
  refine dr_run tbOk 1 hA hS (e' := (4, .pointer (some ⟨b1, 1, none⟩)) :: _) rfl ?_; clear hA; intro a hA
  refine dr_y hA rfl rfl rfl (by decide) hS (fun w' hS' => rn_load tbOk hA rfl rfl rfl rfl (cell_row (hS'.heapAt 0 rfl) rfl)) ?_; clear hA; intro a hA
  refine dr_y hA rfl rfl rfl (by decide) hS (fun w' hS' => rn_load tbOk hA rfl rfl rfl rfl (hc _ (hS'.tail 1 rfl))) ?_; clear hA; intro a hA
  refine dr_run tbOk 2 hA hS (e' := (8, .pointer (some ⟨b, 0, none⟩)) :: (7, .pointer (some ⟨b, 0, none⟩)) :: _) rfl ?_; clear hA; intro a hA
  refine dr_y hA rfl rfl rfl (by decide) hS (fun w' hS' => rn_load tbOk hA rfl rfl rfl rfl (hn _ (hS'.tail 1 rfl))) ?_; clear hA; intro a hA
  refine dr_run tbOk 2 hA hS (e' := (3, .bool (x.2 == now)) :: (10, .bool (x.2 == now)) :: _) rfl ?_; clear hA; intro a hA
  refine dr_end ?_
  replace hA := hA.sel [3] (e' := [(3, .bool (x.2 == now))]) rfl
  refine xt_norm ?_
  refine wp_ret ?_
  refine ret1 (fn := Try.f15) hA rfl rfl ?_
  replace hS := hS.drop1
  exact ⟨rfl, hS⟩

theorem tickcP {w0 : World} {F : List Chunk} {bx : Nat} {b : Nat} {now : Int} (hc : ∀ w', St w0 w' F → w'.cell? ⟨bx, 0, none⟩ = some (.pointer (some ⟨b, 0, none⟩))) (hn : ∀ w', St w0 w' F → w'.cell? ⟨b, 0, none⟩ = some (.int .i64 now)) : Pred Try.prog w0 F 15 #[] #[.pointer (some ⟨bx, 0, none⟩)] (fun x => .agg (encAlarm x).toArray) (fun x => wat now x) := by
  intro w x hS
  exact tickc15 (St.refl w) (fun w' h => h.old (hc w hS)) (fun w' h => h.old (hn w hS)) x

theorem set_lo7 {w0 w : World} {F : List Chunk} {L : Chunk} {b : Nat} {now : Int} {al : List (Int × Int)} (hS : St w0 w (L :: F)) (hM : XR b now al L) (id n : Int) (h1 : n < 1) :
    Ret Try.prog 7 #[.pointer (some ⟨b, 0, none⟩), .int .i64 id, .int .i64 n] w (fun v w' => ∃ L', XR b (now) (al) L' ∧ v = .iface 40 (.int .i64 4) ∧ St w0 w' (L' :: F)) := by
  obtain ⟨v, C, hO, rfl⟩ := hM
  obtain ⟨A, c, rfl, hmc, hcx⟩ := hO.open'
  replace hS : St w0 w ([(b, rowO [.int .i64 now, .slice A al.length c] 26)] :: C :: F) := hS.split
  refine enter (vs := [.pointer (some ⟨b, 0, none⟩), .int .i64 id, .int .i64 n]) 40 Try.func7 rfl rfl (by simp) ?_; intro a hA
  refine wp_seq ?_
  refine wp_region_lit ?_
  refine st_box hA hS [.int .i64 id] rfl rfl rfl rfl rfl (by decide) ?_; clear hA hS; intro b1 w2 a hS hA
  refine st_run tbOk 1 hA (e' := (6, .nilIface) :: _) rfl ?_; clear hA; intro a hA
  refine wpList_nil ?_
  replace hA := hA.sel [0, 2, 4] (e' := [(0, .pointer (some ⟨b, 0, none⟩)), (2, .int .i64 n), (4, .pointer (some ⟨b1, 0, none⟩))]) rfl
  refine xt_norm ?_
  refine wp_seq ?_
  refine wp_seq ?_
  refine wp_region_lit ?_
  refine st_run tbOk 3 hA (e' := (10, .bool (decide (n < 1))) :: (9, .bool (decide (n < 1))) :: (8, .int .i64 n) :: _) rfl ?_; clear hA; intro a hA
  have hc3 : n < 1 := by omega
  replace hA := hA.rw 9 (v' := .bool true) rfl (vb_true hc3)
  replace hA := hA.rw 10 (v' := .bool true) rfl (vb_true hc3)
  refine st_run tbOk 3 hA (e' := (13, .bool true) :: (12, undef) :: (11, undef) :: _) rfl ?_; clear hA; intro a hA
  refine wpList_nil ?_
  replace hA := hA.sel [0, 2, 4, 13] (e' := [(0, .pointer (some ⟨b, 0, none⟩)), (2, .int .i64 n), (4, .pointer (some ⟨b1, 0, none⟩)), (13, .bool true)]) rfl
  refine xt_norm ?_
  refine cd_cond_t hA rfl ?_
  refine wp_seq ?_
  refine wp_region_lit ?_
  refine st_run tbOk 2 hA (e' := (6, .iface 40 (.int .i64 4)) :: (14, .iface 40 (.int .i64 4)) :: _) rfl ?_; clear hA; intro a hA
  refine wpList_nil ?_
  replace hA := hA.sel [6] (e' := [(6, .iface 40 (.int .i64 4))]) rfl
  refine xt_norm ?_
  refine wp_ret (xt_ret ?_)
  refine ret1 (fn := Try.f7) hA rfl rfl ?_
  replace hS := hS.front 2 (C := C) (L' := [(b1, rowO [.int .i64 id] 3)] :: [(b, rowO [.int .i64 now, .slice A al.length c] 26)] :: F) rfl rfl
  replace hS := hS.front 2 (C := [(b, rowO [.int .i64 now, .slice A al.length c] 26)]) (L' := C :: [(b1, rowO [.int .i64 id] 3)] :: F) rfl rfl
  replace hS := (hS.front 2 rfl rfl).drop1
  replace hS := hS.join
  exact ⟨_, ⟨_, _, hO, rfl⟩, rfl, hS⟩

theorem set_hi7 {w0 w : World} {F : List Chunk} {L : Chunk} {b : Nat} {now : Int} {al : List (Int × Int)} (hS : St w0 w (L :: F)) (hM : XR b now al L) (id n : Int) (h1 : 1000000 < n) :
    Ret Try.prog 7 #[.pointer (some ⟨b, 0, none⟩), .int .i64 id, .int .i64 n] w (fun v w' => ∃ L', XR b (now) (al) L' ∧ v = .iface 40 (.int .i64 4) ∧ St w0 w' (L' :: F)) := by
  obtain ⟨v, C, hO, rfl⟩ := hM
  obtain ⟨A, c, rfl, hmc, hcx⟩ := hO.open'
  replace hS : St w0 w ([(b, rowO [.int .i64 now, .slice A al.length c] 26)] :: C :: F) := hS.split
  refine enter (vs := [.pointer (some ⟨b, 0, none⟩), .int .i64 id, .int .i64 n]) 40 Try.func7 rfl rfl (by simp) ?_; intro a hA
  refine wp_seq ?_
  refine wp_region_lit ?_
  refine st_box hA hS [.int .i64 id] rfl rfl rfl rfl rfl (by decide) ?_; clear hA hS; intro b1 w2 a hS hA
  refine st_run tbOk 1 hA (e' := (6, .nilIface) :: _) rfl ?_; clear hA; intro a hA
  refine wpList_nil ?_
  replace hA := hA.sel [0, 2, 4] (e' := [(0, .pointer (some ⟨b, 0, none⟩)), (2, .int .i64 n), (4, .pointer (some ⟨b1, 0, none⟩))]) rfl
  refine xt_norm ?_
  refine wp_seq ?_
  refine wp_seq ?_
  refine wp_region_lit ?_
  refine st_run tbOk 3 hA (e' := (10, .bool (decide (n < 1))) :: (9, .bool (decide (n < 1))) :: (8, .int .i64 n) :: _) rfl ?_; clear hA; intro a hA
  have hc3 : ¬ (n < 1) := by omega
  replace hA := hA.rw 9 (v' := .bool false) rfl (vb_false hc3)
  replace hA := hA.rw 10 (v' := .bool false) rfl (vb_false hc3)
  refine st_run tbOk 3 hA (e' := (13, .bool (decide (n > 1000000))) :: (12, .bool (decide (n > 1000000))) :: (11, .int .i64 n) :: _) rfl ?_; clear hA; intro a hA
  refine wpList_nil ?_
  replace hA := hA.sel [0, 2, 4, 13] (e' := [(0, .pointer (some ⟨b, 0, none⟩)), (2, .int .i64 n), (4, .pointer (some ⟨b1, 0, none⟩)), (13, .bool (decide (n > 1000000)))]) rfl
  refine xt_norm ?_
  have hc4 : n > 1000000 := by omega
  replace hA := hA.rw 13 (v' := .bool true) rfl (vb_true hc4)
  refine cd_cond_t hA rfl ?_
  refine wp_seq ?_
  refine wp_region_lit ?_
  refine st_run tbOk 2 hA (e' := (6, .iface 40 (.int .i64 4)) :: (14, .iface 40 (.int .i64 4)) :: _) rfl ?_; clear hA; intro a hA
  refine wpList_nil ?_
  replace hA := hA.sel [6] (e' := [(6, .iface 40 (.int .i64 4))]) rfl
  refine xt_norm ?_
  refine wp_ret (xt_ret ?_)
  refine ret1 (fn := Try.f7) hA rfl rfl ?_
  replace hS := hS.front 2 (C := C) (L' := [(b1, rowO [.int .i64 id] 3)] :: [(b, rowO [.int .i64 now, .slice A al.length c] 26)] :: F) rfl rfl
  replace hS := hS.front 2 (C := [(b, rowO [.int .i64 now, .slice A al.length c] 26)]) (L' := C :: [(b1, rowO [.int .i64 id] 3)] :: F) rfl rfl
  replace hS := (hS.front 2 rfl rfl).drop1
  replace hS := hS.join
  exact ⟨_, ⟨_, _, hO, rfl⟩, rfl, hS⟩

theorem set_full7 {w0 w : World} {F : List Chunk} {L : Chunk} {b : Nat} {now : Int} {al : List (Int × Int)} (hS : St w0 w (L :: F)) (hM : XR b now al L) (id n : Int) (h1 : 1 ≤ n) (h2 : n ≤ 1000000) (h3 : 64 ≤ (al.filter (fun x => !(wid id x))).length) (hal : al.length ≤ 64) :
    Ret Try.prog 7 #[.pointer (some ⟨b, 0, none⟩), .int .i64 id, .int .i64 n] w (fun v w' => ∃ L', XR b (now) (al) L' ∧ v = .iface 40 (.int .i64 5) ∧ St w0 w' (L' :: F)) := by
  obtain ⟨v, C, hO, rfl⟩ := hM
  obtain ⟨A, c, rfl, hmc, hcx⟩ := hO.open'
  replace hS : St w0 w ([(b, rowO [.int .i64 now, .slice A al.length c] 26)] :: C :: F) := hS.split
  refine enter (vs := [.pointer (some ⟨b, 0, none⟩), .int .i64 id, .int .i64 n]) 40 Try.func7 rfl rfl (by simp) ?_; intro a hA
  refine wp_seq ?_
  refine wp_region_lit ?_
  refine st_box hA hS [.int .i64 id] rfl rfl rfl rfl rfl (by decide) ?_; clear hA hS; intro b1 w2 a hS hA
  refine st_run tbOk 1 hA (e' := (6, .nilIface) :: _) rfl ?_; clear hA; intro a hA
  refine wpList_nil ?_
  replace hA := hA.sel [0, 2, 4] (e' := [(0, .pointer (some ⟨b, 0, none⟩)), (2, .int .i64 n), (4, .pointer (some ⟨b1, 0, none⟩))]) rfl
  refine xt_norm ?_
  refine wp_seq ?_
  refine wp_seq ?_
  refine wp_region_lit ?_
  refine st_run tbOk 3 hA (e' := (10, .bool (decide (n < 1))) :: (9, .bool (decide (n < 1))) :: (8, .int .i64 n) :: _) rfl ?_; clear hA; intro a hA
  have hc3 : ¬ (n < 1) := by omega
  replace hA := hA.rw 9 (v' := .bool false) rfl (vb_false hc3)
  replace hA := hA.rw 10 (v' := .bool false) rfl (vb_false hc3)
  refine st_run tbOk 3 hA (e' := (13, .bool (decide (n > 1000000))) :: (12, .bool (decide (n > 1000000))) :: (11, .int .i64 n) :: _) rfl ?_; clear hA; intro a hA
  refine wpList_nil ?_
  replace hA := hA.sel [0, 2, 4, 13] (e' := [(0, .pointer (some ⟨b, 0, none⟩)), (2, .int .i64 n), (4, .pointer (some ⟨b1, 0, none⟩)), (13, .bool (decide (n > 1000000)))]) rfl
  refine xt_norm ?_
  have hc4 : ¬ (n > 1000000) := by omega
  replace hA := hA.rw 13 (v' := .bool false) rfl (vb_false hc4)
  refine cd_cond_f hA rfl ?_
  refine wp_skip ?_
  refine xt_norm ?_
  refine wp_seq ?_
  refine wp_region_lit ?_
  refine st_run tbOk 3 hA (e' := (17, .pointer (some ⟨b, 1, none⟩)) :: (16, .pointer (some ⟨b, 0, none⟩)) :: (15, .pointer (some ⟨b, 0, none⟩)) :: _) rfl ?_; clear hA; intro a hA
  refine st_val hA rfl rfl (by decide) (rn_load tbOk hA rfl rfl rfl rfl (cell_row (hS.heapAt 1 rfl) rfl)) ?_; clear hA; intro a hA
  refine st_call0 hA rfl rfl rfl isfn13 rfl rfl (by decide) (clone13 hS (l := al) (RdS.own hO 2 rfl) (by omega)) ?_
  clear hA hS; rintro v5 w6 a ⟨C7, hO7, hS⟩ hA
  obtain ⟨A8, c9, rfl, hmc9, hxc9⟩ := hO7.open'
  refine st_run tbOk 1 hA (e' := (20, .func (.func 14) #[] #[.pointer (some ⟨b1, 0, none⟩)]) :: _) rfl ?_; clear hA; intro a hA
  refine st_call0 hA rfl rfl rfl isfn12 rfl rfl (by decide) (deleteFunc12 hS (l := al) hO7 isfn14 (setcP (bx := b1) (fun w' h => cell_row (h.heapAt 0 rfl) rfl))) ?_
  clear hA hS; rintro v10 w11 a ⟨C12, hO12, hS⟩ hA
  obtain ⟨A13, c14, rfl, hmc14, hxc14⟩ := hO12.open'
  refine st_run tbOk 1 hA (e' := (7, .slice A13 ((al.filter (fun x => !(wid id x))).length) c14) :: _) rfl ?_; clear hA; intro a hA
  refine wpList_nil ?_
  replace hA := hA.sel [0, 2, 4, 7] (e' := [(0, .pointer (some ⟨b, 0, none⟩)), (2, .int .i64 n), (4, .pointer (some ⟨b1, 0, none⟩)), (7, .slice A13 ((al.filter (fun x => !(wid id x))).length) c14)]) rfl
  refine xt_norm ?_
  refine wp_seq ?_
  refine wp_seq ?_
  refine wp_region_lit ?_
  refine st_run tbOk 3 hA (e' := (24, .bool (decide ((((al.filter (fun x => !(wid id x))).length : Nat) : Int) ≥ 64))) :: (23, .int .i64 (((al.filter (fun x => !(wid id x))).length : Nat) : Int)) :: (22, .slice A13 ((al.filter (fun x => !(wid id x))).length) c14) :: _) rfl ?_; clear hA; intro a hA
  refine wpList_nil ?_
  replace hA := hA.sel [0, 2, 4, 7, 24] (e' := [(0, .pointer (some ⟨b, 0, none⟩)), (2, .int .i64 n), (4, .pointer (some ⟨b1, 0, none⟩)), (7, .slice A13 ((al.filter (fun x => !(wid id x))).length) c14), (24, .bool (decide ((((al.filter (fun x => !(wid id x))).length : Nat) : Int) ≥ 64)))]) rfl
  refine xt_norm ?_
  have hc15 : (((al.filter (fun x => !(wid id x))).length : Nat) : Int) ≥ 64 := by omega
  replace hA := hA.rw 24 (v' := .bool true) rfl (vb_true hc15)
  refine cd_cond_t hA rfl ?_
  refine wp_seq ?_
  refine wp_region_lit ?_
  refine st_run tbOk 2 hA (e' := (6, .iface 40 (.int .i64 5)) :: (25, .iface 40 (.int .i64 5)) :: _) rfl ?_; clear hA; intro a hA
  refine wpList_nil ?_
  replace hA := hA.sel [6] (e' := [(6, .iface 40 (.int .i64 5))]) rfl
  refine xt_norm ?_
  refine wp_ret (xt_ret ?_)
  refine ret1 (fn := Try.f7) hA rfl rfl ?_
  replace hS := hS.front 3 (C := C) (L' := C12 :: [(b1, rowO [.int .i64 id] 3)] :: [(b, rowO [.int .i64 now, .slice A al.length c] 26)] :: F) rfl rfl
  replace hS := hS.front 3 (C := [(b, rowO [.int .i64 now, .slice A al.length c] 26)]) (L' := C :: C12 :: [(b1, rowO [.int .i64 id] 3)] :: F) rfl rfl
  replace hS := (hS.front 2 rfl rfl).drop1
  replace hS := (hS.front 2 rfl rfl).drop1
  replace hS := hS.join
  exact ⟨_, ⟨_, _, hO, rfl⟩, rfl, hS⟩

theorem set_ok7 {w0 w : World} {F : List Chunk} {L : Chunk} {b : Nat} {now : Int} {al : List (Int × Int)} (hS : St w0 w (L :: F)) (hM : XR b now al L) (id n : Int) (h1 : 1 ≤ n) (h2 : n ≤ 1000000) (h3 : (al.filter (fun x => !(wid id x))).length < 64) (hal : al.length ≤ 64) (hn1 : -4611686018427387904 ≤ now) (hn2 : now ≤ 4611686018427387904) :
    Ret Try.prog 7 #[.pointer (some ⟨b, 0, none⟩), .int .i64 id, .int .i64 n] w (fun v w' => ∃ L', XR b (now) (al.filter (fun x => !(wid id x)) ++ [(id, now + n)]) L' ∧ v = .nilIface ∧ St w0 w' (L' :: F)) := by
  obtain ⟨v, C, hO, rfl⟩ := hM
  obtain ⟨A, c, rfl, hmc, hcx⟩ := hO.open'
  replace hS : St w0 w ([(b, rowO [.int .i64 now, .slice A al.length c] 26)] :: C :: F) := hS.split
  refine enter (vs := [.pointer (some ⟨b, 0, none⟩), .int .i64 id, .int .i64 n]) 40 Try.func7 rfl rfl (by simp) ?_; intro a hA
  refine wp_seq ?_
  refine wp_region_lit ?_
  refine st_box hA hS [.int .i64 id] rfl rfl rfl rfl rfl (by decide) ?_; clear hA hS; intro b1 w2 a hS hA
  refine st_run tbOk 1 hA (e' := (6, .nilIface) :: _) rfl ?_; clear hA; intro a hA
  refine wpList_nil ?_
  replace hA := hA.sel [0, 2, 4] (e' := [(0, .pointer (some ⟨b, 0, none⟩)), (2, .int .i64 n), (4, .pointer (some ⟨b1, 0, none⟩))]) rfl
  refine xt_norm ?_
  refine wp_seq ?_
  refine wp_seq ?_
  refine wp_region_lit ?_
  refine st_run tbOk 3 hA (e' := (10, .bool (decide (n < 1))) :: (9, .bool (decide (n < 1))) :: (8, .int .i64 n) :: _) rfl ?_; clear hA; intro a hA
  have hc3 : ¬ (n < 1) := by omega
  replace hA := hA.rw 9 (v' := .bool false) rfl (vb_false hc3)
  replace hA := hA.rw 10 (v' := .bool false) rfl (vb_false hc3)
  refine st_run tbOk 3 hA (e' := (13, .bool (decide (n > 1000000))) :: (12, .bool (decide (n > 1000000))) :: (11, .int .i64 n) :: _) rfl ?_; clear hA; intro a hA
  refine wpList_nil ?_
  replace hA := hA.sel [0, 2, 4, 13] (e' := [(0, .pointer (some ⟨b, 0, none⟩)), (2, .int .i64 n), (4, .pointer (some ⟨b1, 0, none⟩)), (13, .bool (decide (n > 1000000)))]) rfl
  refine xt_norm ?_
  have hc4 : ¬ (n > 1000000) := by omega
  replace hA := hA.rw 13 (v' := .bool false) rfl (vb_false hc4)
  refine cd_cond_f hA rfl ?_
  refine wp_skip ?_
  refine xt_norm ?_
  refine wp_seq ?_
  refine wp_region_lit ?_
  refine st_run tbOk 3 hA (e' := (17, .pointer (some ⟨b, 1, none⟩)) :: (16, .pointer (some ⟨b, 0, none⟩)) :: (15, .pointer (some ⟨b, 0, none⟩)) :: _) rfl ?_; clear hA; intro a hA
  refine st_val hA rfl rfl (by decide) (rn_load tbOk hA rfl rfl rfl rfl (cell_row (hS.heapAt 1 rfl) rfl)) ?_; clear hA; intro a hA
  refine st_call0 hA rfl rfl rfl isfn13 rfl rfl (by decide) (clone13 hS (l := al) (RdS.own hO 2 rfl) (by omega)) ?_
  clear hA hS; rintro v5 w6 a ⟨C7, hO7, hS⟩ hA
  obtain ⟨A8, c9, rfl, hmc9, hxc9⟩ := hO7.open'
  refine st_run tbOk 1 hA (e' := (20, .func (.func 14) #[] #[.pointer (some ⟨b1, 0, none⟩)]) :: _) rfl ?_; clear hA; intro a hA
  refine st_call0 hA rfl rfl rfl isfn12 rfl rfl (by decide) (deleteFunc12 hS (l := al) hO7 isfn14 (setcP (bx := b1) (fun w' h => cell_row (h.heapAt 0 rfl) rfl))) ?_
  clear hA hS; rintro v10 w11 a ⟨C12, hO12, hS⟩ hA
  obtain ⟨A13, c14, rfl, hmc14, hxc14⟩ := hO12.open'
  refine st_run tbOk 1 hA (e' := (7, .slice A13 ((al.filter (fun x => !(wid id x))).length) c14) :: _) rfl ?_; clear hA; intro a hA
  refine wpList_nil ?_
  replace hA := hA.sel [0, 2, 4, 7] (e' := [(0, .pointer (some ⟨b, 0, none⟩)), (2, .int .i64 n), (4, .pointer (some ⟨b1, 0, none⟩)), (7, .slice A13 ((al.filter (fun x => !(wid id x))).length) c14)]) rfl
  refine xt_norm ?_
  refine wp_seq ?_
  refine wp_seq ?_
  refine wp_region_lit ?_
  refine st_run tbOk 3 hA (e' := (24, .bool (decide ((((al.filter (fun x => !(wid id x))).length : Nat) : Int) ≥ 64))) :: (23, .int .i64 (((al.filter (fun x => !(wid id x))).length : Nat) : Int)) :: (22, .slice A13 ((al.filter (fun x => !(wid id x))).length) c14) :: _) rfl ?_; clear hA; intro a hA
  refine wpList_nil ?_
  replace hA := hA.sel [0, 2, 4, 7, 24] (e' := [(0, .pointer (some ⟨b, 0, none⟩)), (2, .int .i64 n), (4, .pointer (some ⟨b1, 0, none⟩)), (7, .slice A13 ((al.filter (fun x => !(wid id x))).length) c14), (24, .bool (decide ((((al.filter (fun x => !(wid id x))).length : Nat) : Int) ≥ 64)))]) rfl
  refine xt_norm ?_
  have hc15 : ¬ ((((al.filter (fun x => !(wid id x))).length : Nat) : Int) ≥ 64) := by omega
  replace hA := hA.rw 24 (v' := .bool false) rfl (vb_false hc15)
  refine cd_cond_f hA rfl ?_
  refine wp_skip ?_
  refine xt_norm ?_
  refine wp_seq ?_
  refine wp_draw (fun w' => St w0 w' ([(b1, rowO [.int .i64 id] 3)] :: [(b, rowO [.int .i64 now, .slice A al.length c] 26)] :: C :: F)) [14] [(0, true), (1, true), (2, true), (3, true), (4, true), (5, true), (6, true), (7, true), (8, true), (9, true), (10, false), (11, false), (12, true), (13, true), (14, false)] mixed (by kernel_rfl) (by rintro c a w ⟨_, _, h, _⟩; cases h) (by rfl) (by kernel_rfl) ?_
  replace hS := hS.drew
  refine dr_run tbOk 2 hA (hS.tail 1 rfl) (e' := (27, .slice A13 ((al.filter (fun x => !(wid id x))).length) c14) :: (26, .pointer (some ⟨b, 0, none⟩)) :: _) rfl ?_; clear hA; intro a hA
  refine dr_y hA rfl rfl rfl (by decide) (hS.tail 1 rfl) (fun w' hS' => rn_load tbOk hA rfl rfl rfl rfl (cell_row (hS'.heapAt 0 rfl) rfl)) ?_; clear hA; intro a hA
  refine dr_run tbOk 3 hA (hS.tail 1 rfl) (e' := (31, .pointer (some ⟨b, 0, none⟩)) :: (30, .pointer (some ⟨b, 0, none⟩)) :: (29, .pointer (some ⟨b, 0, none⟩)) :: _) rfl ?_; clear hA; intro a hA
  refine dr_y hA rfl rfl rfl (by decide) (hS.tail 1 rfl) (fun w' hS' => rn_load tbOk hA rfl rfl rfl rfl (cell_row (hS'.heapAt 1 rfl) rfl)) ?_; clear hA; intro a hA
  refine dr_run tbOk 2 hA (hS.tail 1 rfl) (e' := (34, .int .i64 (IntKind.i64.wrap (now + n))) :: (33, .int .i64 n) :: _) rfl ?_; clear hA; intro a hA
  replace hA := hA.rw 34 (v' := .int .i64 (now + n)) rfl (wr64 (by omega) (by omega) (by omega))
  refine dr_run tbOk 1 hA (hS.tail 1 rfl) (e' := (35, .agg #[.int .i64 id, .int .i64 (now + n)]) :: _) rfl ?_; clear hA; intro a hA
  refine dr_b (o := _) rfl ?_
  refine st_buildSlice tbOk hA hS [.int .i64 id, .int .i64 (now + n)] rfl rfl rfl rfl rfl (by decide) (by kernel_rfl) rfl rfl (by decide) ?_; clear hA hS; intro b16 w17 a hS hA
  refine dr_nil (.inr (hS.tail 2 rfl)) ?_
  refine dr_b (o := _) rfl ?_
  replace hS := hS.front 1 (C := C12) (L' := [(b16, rowO [.int .i64 id, .int .i64 (now + n)] 43)] :: [(b1, rowO [.int .i64 id] 3)] :: [(b, rowO [.int .i64 now, .slice A al.length c] 26)] :: C :: F) rfl rfl
  refine st_append tbOk hA (m := (al.filter (fun x => !(wid id x))).length) (q := 1) (xs := rows encAlarm (al.filter (fun x => !(wid id x)))) (news := rows encAlarm ([(id, now + n)] : List (Int × Int))) rfl rfl rfl rfl rfl rfl rfl rfl (by decide) hO12 hS ((Own.full (T := 43) (size := 2) (g := b16) (m := 1) rfl (by decide)).rd (hS.own_ 1 rfl)) (rows_one encAlarm_ok _) (maxLen_le (by omega)) (by show ((al.filter (fun x => !(wid id x))).length + 1) * 16 ≤ 140737488355328; omega) rfl rfl (by decide) ?_
  clear hA hS; intro v18 w19 C20 a hO20 hS hA
  replace hO20 := Own.app (l := al.filter (fun x => !(wid id x))) (l2 := ([(id, now + n)] : List (Int × Int))) hO20
  obtain ⟨A21, c22, rfl, hmc22, hxc22⟩ := hO20.open'
  refine dr_nil (.inr (hS.tail 2 rfl)) ?_
  refine dr_run tbOk 2 hA (hS.tail 2 rfl) (e' := (39, .pointer (some ⟨b, 1, none⟩)) :: (38, .pointer (some ⟨b, 0, none⟩)) :: _) rfl ?_; clear hA; intro a hA
  refine dr_b (o := _) rfl ?_
  replace hS := hS.front 3 (C := [(b, rowO [.int .i64 now, .slice A al.length c] 26)]) (L' := C20 :: [(b16, rowO [.int .i64 id, .int .i64 (now + n)] 43)] :: [(b1, rowO [.int .i64 id] 3)] :: C :: F) rfl rfl
  refine st_store tbOk hA hS [.slice A21 (((al.filter (fun x => !(wid id x))) ++ ([(id, now + n)] : List (Int × Int))).length) c22] [.int .i64 now, .slice A21 (((al.filter (fun x => !(wid id x))) ++ ([(id, now + n)] : List (Int × Int))).length) c22] rfl rfl rfl rfl rfl rfl (by intro u hu; rw [List.mem_singleton.1 hu]; rfl) (Nat.le_of_ble_eq_true rfl) rfl rfl rfl ?_; clear hS; intro w23 hS
  refine dr_nil (.inl (by decide)) ?_
  refine dr_end ?_
  replace hA := hA.sel [] (e' := []) rfl
  refine xt_norm ?_
  refine wp_seq ?_
  refine wp_region_lit ?_
  refine st_run tbOk 1 hA (e' := (6, .nilIface) :: _) rfl ?_; clear hA; intro a hA
  refine wpList_nil ?_
  refine xt_norm ?_
  refine wp_ret ?_
  refine ret1 (fn := Try.f7) hA rfl rfl ?_
  replace hS := hS.front 1 (C := C20) (L' := [(b, rowO [.int .i64 now, .slice A21 (((al.filter (fun x => !(wid id x))) ++ ([(id, now + n)] : List (Int × Int))).length) c22] 26)] :: [(b16, rowO [.int .i64 id, .int .i64 (now + n)] 43)] :: [(b1, rowO [.int .i64 id] 3)] :: C :: F) rfl rfl
  replace hS := hS.front 1 (C := [(b, rowO [.int .i64 now, .slice A21 (((al.filter (fun x => !(wid id x))) ++ ([(id, now + n)] : List (Int × Int))).length) c22] 26)]) (L' := C20 :: [(b16, rowO [.int .i64 id, .int .i64 (now + n)] 43)] :: [(b1, rowO [.int .i64 id] 3)] :: C :: F) rfl rfl
  replace hS := (hS.front 2 rfl rfl).drop1
  replace hS := (hS.front 2 rfl rfl).drop1
  replace hS := (hS.front 2 rfl rfl).drop1
  replace hS := hS.join
  exact ⟨_, ⟨_, _, hO20, rfl⟩, rfl, hS⟩

theorem cancel9 {w0 w : World} {F : List Chunk} {L : Chunk} {b : Nat} {now : Int} {al : List (Int × Int)} (hS : St w0 w (L :: F)) (hM : XR b now al L) (id : Int) :
    Ret Try.prog 9 #[.pointer (some ⟨b, 0, none⟩), .int .i64 id] w (fun v w' => ∃ L', XR b (now) (al.filter (fun x => !(wid id x))) L' ∧ v = .bool (decide (((al.filter (fun x => !(wid id x))).length : Nat) < al.length)) ∧ St w0 w' (L' :: F)) := by
  obtain ⟨v, C, hO, rfl⟩ := hM
  obtain ⟨A, c, rfl, hmc, hcx⟩ := hO.open'
  replace hS : St w0 w ([(b, rowO [.int .i64 now, .slice A al.length c] 26)] :: C :: F) := hS.split
  refine enter (vs := [.pointer (some ⟨b, 0, none⟩), .int .i64 id]) 27 Try.func9 rfl rfl (by simp) ?_; intro a hA
  refine wp_seq ?_
  refine wp_region_lit ?_
  refine st_box hA hS [.int .i64 id] rfl rfl rfl rfl rfl (by decide) ?_; clear hA hS; intro b1 w2 a hS hA
  refine st_run tbOk 1 hA (e' := (4, .bool false) :: _) rfl ?_; clear hA; intro a hA
  refine wpList_nil ?_
  replace hA := hA.sel [0, 3] (e' := [(0, .pointer (some ⟨b, 0, none⟩)), (3, .pointer (some ⟨b1, 0, none⟩))]) rfl
  refine xt_norm ?_
  refine wp_seq ?_
  refine wp_region_lit ?_
  refine st_run tbOk 3 hA (e' := (8, .pointer (some ⟨b, 1, none⟩)) :: (7, .pointer (some ⟨b, 0, none⟩)) :: (6, .pointer (some ⟨b, 0, none⟩)) :: _) rfl ?_; clear hA; intro a hA
  refine st_val hA rfl rfl (by decide) (rn_load tbOk hA rfl rfl rfl rfl (cell_row (hS.heapAt 1 rfl) rfl)) ?_; clear hA; intro a hA
  refine st_run tbOk 2 hA (e' := (5, .int .i64 ((al.length : Nat) : Int)) :: (10, .int .i64 ((al.length : Nat) : Int)) :: _) rfl ?_; clear hA; intro a hA
  refine wpList_nil ?_
  replace hA := hA.sel [0, 3, 5] (e' := [(0, .pointer (some ⟨b, 0, none⟩)), (3, .pointer (some ⟨b1, 0, none⟩)), (5, .int .i64 ((al.length : Nat) : Int))]) rfl
  refine xt_norm ?_
  refine wp_seq ?_
  refine wp_region_lit ?_
  refine st_run tbOk 4 hA (e' := (14, .pointer (some ⟨b, 1, none⟩)) :: (13, .pointer (some ⟨b, 0, none⟩)) :: (12, .pointer (some ⟨b, 0, none⟩)) :: (11, .pointer (some ⟨b, 0, none⟩)) :: _) rfl ?_; clear hA; intro a hA
  refine st_val hA rfl rfl (by decide) (rn_load tbOk hA rfl rfl rfl rfl (cell_row (hS.heapAt 1 rfl) rfl)) ?_; clear hA; intro a hA
  refine st_run tbOk 1 hA (e' := (16, .func (.func 16) #[] #[.pointer (some ⟨b1, 0, none⟩)]) :: _) rfl ?_; clear hA; intro a hA
  replace hS := hS.front 2 (C := C) (L' := [(b1, rowO [.int .i64 id] 3)] :: [(b, rowO [.int .i64 now, .slice A al.length c] 26)] :: F) rfl rfl
  refine st_call0 hA rfl rfl rfl isfn12 rfl rfl (by decide) (deleteFunc12 hS (l := al) hO isfn16 (cancP (bx := b1) (fun w' h => cell_row (h.heapAt 0 rfl) rfl))) ?_
  clear hA hS; rintro v3 w4 a ⟨C5, hO5, hS⟩ hA
  obtain ⟨A6, c7, rfl, hmc7, hxc7⟩ := hO5.open'
  refine st_run tbOk 2 hA (e' := (19, .pointer (some ⟨b, 1, none⟩)) :: (18, .pointer (some ⟨b, 0, none⟩)) :: _) rfl ?_; clear hA; intro a hA
  replace hS := hS.front 2 (C := [(b, rowO [.int .i64 now, .slice A al.length c] 26)]) (L' := C5 :: [(b1, rowO [.int .i64 id] 3)] :: F) rfl rfl
  refine st_store tbOk hA hS [.slice A6 ((al.filter (fun x => !(wid id x))).length) c7] [.int .i64 now, .slice A6 ((al.filter (fun x => !(wid id x))).length) c7] rfl rfl rfl rfl rfl rfl (by intro u hu; rw [List.mem_singleton.1 hu]; rfl) (Nat.le_of_ble_eq_true rfl) rfl rfl rfl ?_; clear hS; intro w8 hS
  refine wpList_nil ?_
  replace hA := hA.sel [0, 5] (e' := [(0, .pointer (some ⟨b, 0, none⟩)), (5, .int .i64 ((al.length : Nat) : Int))]) rfl
  refine xt_norm ?_
  refine wp_seq ?_
  refine wp_region_lit ?_
  refine st_run tbOk 3 hA (e' := (22, .pointer (some ⟨b, 1, none⟩)) :: (21, .pointer (some ⟨b, 0, none⟩)) :: (20, .pointer (some ⟨b, 0, none⟩)) :: _) rfl ?_; clear hA; intro a hA
  refine st_val hA rfl rfl (by decide) (rn_load tbOk hA rfl rfl rfl rfl (cell_row (hS.heapAt 0 rfl) rfl)) ?_; clear hA; intro a hA
  refine st_run tbOk 4 hA (e' := (4, .bool (decide ((((al.filter (fun x => !(wid id x))).length : Nat) : Int) < ((al.length : Nat) : Int)))) :: (26, .bool (decide ((((al.filter (fun x => !(wid id x))).length : Nat) : Int) < ((al.length : Nat) : Int)))) :: (25, .int .i64 ((al.length : Nat) : Int)) :: (24, .int .i64 (((al.filter (fun x => !(wid id x))).length : Nat) : Int)) :: _) rfl ?_; clear hA; intro a hA
  refine wpList_nil ?_
  replace hA := hA.sel [4] (e' := [(4, .bool (decide ((((al.filter (fun x => !(wid id x))).length : Nat) : Int) < ((al.length : Nat) : Int))))]) rfl
  refine xt_norm ?_
  refine wp_ret ?_
  refine ret1 (fn := Try.f9) hA rfl rfl ?_
  replace hS := hS.front 1 (C := C5) (L' := [(b, rowO [.int .i64 now, .slice A6 ((al.filter (fun x => !(wid id x))).length) c7] 26)] :: [(b1, rowO [.int .i64 id] 3)] :: F) rfl rfl
  replace hS := hS.front 1 (C := [(b, rowO [.int .i64 now, .slice A6 ((al.filter (fun x => !(wid id x))).length) c7] 26)]) (L' := C5 :: [(b1, rowO [.int .i64 id] 3)] :: F) rfl rfl
  replace hS := (hS.front 2 rfl rfl).drop1
  replace hS := hS.join
  exact ⟨_, ⟨_, _, hO5, rfl⟩, congrArg Value.bool (by first | rfl | (rw [decide_eq_decide]; omega)), hS⟩

def left (al : List (Int × Int)) (id : Int) : Option Int := (al.find? (wid id)).map (fun x => x.2)
def noneOf (al : List (Int × Int)) (id : Int) (k : Nat) : Prop := ∀ (i : Nat) (x : Int × Int), i < k → al[i]? = some x → ¬ x.1 = id
theorem left_some {al : List (Int × Int)} {id : Int} {k : Nat} {x : Int × Int} (hb : noneOf al id k) (hx : al[k]? = some x) (h : x.1 = id) : left al id = some x.2 := by
  have : al.find? (wid id) = some x := by
    rw [List.find?_eq_some_iff_getElem]
    obtain ⟨hk, hx2⟩ := List.getElem?_eq_some_iff.1 hx
    refine ⟨by simp [wid, h], k, hk, hx2, fun j hj => ?_⟩
    have := hb j al[j] hj (List.getElem?_eq_getElem (by omega))
    simpa [wid] using this
  rw [left, this]; rfl
theorem left_none {al : List (Int × Int)} {id : Int} (hb : noneOf al id al.length) : left al id = none := by
  have : al.find? (wid id) = none := by
    rw [List.find?_eq_none]
    intro x hx
    obtain ⟨i, hi⟩ := List.mem_iff_getElem?.1 hx
    have := hb i x (List.getElem?_eq_some_iff.1 hi).1 hi
    simpa [wid] using this
  rw [left, this]; rfl

theorem leftT11 {w0 w : World} {F : List Chunk} {L : Chunk} {b : Nat} {now : Int} {al : List (Int × Int)} (hS : St w0 w (L :: F)) (hM : XR b now al L) (id : Int) (hal : ∀ x ∈ al, -4611686018427387904 ≤ x.2 - now ∧ x.2 - now ≤ 4611686018427387904) :
    Ret Try.prog 11 #[.pointer (some ⟨b, 0, none⟩), .int .i64 id] w (fun v w' => ∃ L', XR b (now) (al) L' ∧ v = (match left al id with | some a => .tuple #[.int .i64 (a - now), .bool true] | none => .tuple #[.int .i64 0, .bool false]) ∧ St w0 w' (L' :: F)) := by
  obtain ⟨v, C, hO, rfl⟩ := hM
  obtain ⟨A, c, rfl, hmc, hcx⟩ := hO.open'
  replace hS : St w0 w ([(b, rowO [.int .i64 now, .slice A al.length c] 26)] :: C :: F) := hS.split
  refine enter (vs := [.pointer (some ⟨b, 0, none⟩), .int .i64 id]) 29 Try.func11 rfl rfl (by simp) ?_; intro a hA
  refine wp_seq ?_
  refine wp_region_lit ?_
  refine st_run tbOk 2 hA (e' := (5, .bool false) :: (4, .int .i64 0) :: _) rfl ?_; clear hA; intro a hA
  refine wpList_nil ?_
  replace hA := hA.sel [0, 1] (e' := [(0, .pointer (some ⟨b, 0, none⟩)), (1, .int .i64 id)]) rfl
  refine xt_norm ?_
  refine wp_seq ?_
  refine wp_seq ?_
  refine wp_region_lit ?_
  refine st_run tbOk 3 hA (e' := (10, .pointer (some ⟨b, 1, none⟩)) :: (9, .pointer (some ⟨b, 0, none⟩)) :: (8, .pointer (some ⟨b, 0, none⟩)) :: _) rfl ?_; clear hA; intro a hA
  refine st_val hA rfl rfl (by decide) (rn_load tbOk hA rfl rfl rfl rfl (cell_row (hS.heapAt 0 rfl) rfl)) ?_; clear hA; intro a hA
  refine st_run tbOk 2 hA (e' := (13, .int .i64 0) :: (12, .int .i64 ((al.length : Nat) : Int)) :: _) rfl ?_; clear hA; intro a hA
  refine wpList_nil ?_
  replace hA := hA.sel [0, 1, 11, 12, 13] (e' := [(0, .pointer (some ⟨b, 0, none⟩)), (1, .int .i64 id), (11, .slice A al.length c), (12, .int .i64 ((al.length : Nat) : Int)), (13, .int .i64 0)]) rfl
  refine xt_norm ?_
  refine wp_block ?_
  refine wp_loop_ghost (fun m a w => ∃ (k : Nat), m = al.length - k ∧ Has a 29 [(0, .pointer (some ⟨b, 0, none⟩)), (1, .int .i64 id), (11, .slice A al.length c), (12, .int .i64 ((al.length : Nat) : Int)), (13, .int .i64 ((k : Nat) : Int))] ∧ St w0 w ([(b, rowO [.int .i64 now, .slice A al.length c] 26)] :: C :: F) ∧ (k ≤ al.length) ∧ (noneOf al id k)) (al.length - 0)
    ⟨0, rfl, (hA.sel [0, 1, 11, 12, 13] rfl), hS, Nat.zero_le _, fun i y hi => absurd hi (by omega)⟩ ?_
  clear hA hS; rintro m0 a w1 ⟨k, rfl, hA, hS, hk, hb⟩
  refine wp_seq ?_
  refine wp_region_lit ?_
  refine st_run tbOk 1 hA (e' := (14, .bool (decide (((k : Nat) : Int) < ((al.length : Nat) : Int)))) :: _) rfl ?_; clear hA; intro a hA
  refine wpList_nil ?_
  refine xt_norm ?_
  refine wp_seq ?_
  by_cases hc2 : ((k : Nat) : Int) < ((al.length : Nat) : Int)
  · first
    | (exfalso; omega)
    | (replace hA := hA.rw 14 (v' := .bool true) rfl (vb_true hc2)
       refine cd_cond_t hA rfl ?_
       refine wp_skip ?_
       refine xt_norm ?_
       refine wp_seq ?_
       refine wp_block ?_
       refine wp_seq ?_
       refine wp_region_lit ?_
       obtain ⟨b3, o4, rfl⟩ := hO.isSome (k := k) (by omega)
       refine st_val hA rfl rfl (by decide) (rn_indexAddr tbOk hA k (o4 + (k * 2)) rfl rfl rfl rfl rfl rfl (by rfl) (by omega) (by first | rfl | simp [Nat.mul_one, Nat.zero_add] | omega)) ?_; clear hA; intro a hA
       obtain ⟨x5, hx5⟩ := get_ex (l := al) (k := k) (by omega)
       refine st_val hA rfl rfl (by decide) (rn_loadA tbOk hA ([.int .i64 x5.1, .int .i64 x5.2]) rfl rfl rfl rfl (by rfl) ((hO.rd (hS.own_ 1 rfl)).elem (k := k) encAlarm_ok hx5)) ?_; clear hA; intro a hA
       refine st_alloc tbOk hA hS [.int .i64 0, .int .i64 0] rfl rfl rfl rfl rfl (by decide) ?_; clear hA hS; intro b6 w7 a hS hA
       refine st_store tbOk hA hS [.int .i64 x5.1, .int .i64 x5.2] [.int .i64 x5.1, .int .i64 x5.2] rfl rfl rfl rfl rfl rfl (by simp [Value.oneCell']) (Nat.le_of_ble_eq_true rfl) rfl rfl rfl ?_; clear hS; intro w8 hS
       refine wpList_nil ?_
       replace hA := hA.sel [0, 1, 7, 11, 12, 13] (e' := [(0, .pointer (some ⟨b, 0, none⟩)), (1, .int .i64 id), (7, .pointer (some ⟨b6, 0, none⟩)), (11, .slice (some ⟨b3, o4, none⟩) al.length c), (12, .int .i64 ((al.length : Nat) : Int)), (13, .int .i64 ((k : Nat) : Int))]) rfl
       refine xt_norm ?_
       refine wp_seq ?_
       refine wp_region_lit ?_
       refine st_run tbOk 1 hA (e' := (17, .pointer (some ⟨b6, 0, none⟩)) :: _) rfl ?_; clear hA; intro a hA
       refine st_val hA rfl rfl (by decide) (rn_load tbOk hA rfl rfl rfl rfl (cell_row (hS.heapAt 0 rfl) rfl)) ?_; clear hA; intro a hA
       refine st_run tbOk 2 hA (e' := (20, .bool (x5.1 == id)) :: (19, .int .i64 id) :: _) rfl ?_; clear hA; intro a hA
       refine wpList_nil ?_
       replace hA := hA.sel [0, 1, 7, 11, 12, 13, 20] (e' := [(0, .pointer (some ⟨b, 0, none⟩)), (1, .int .i64 id), (7, .pointer (some ⟨b6, 0, none⟩)), (11, .slice (some ⟨b3, o4, none⟩) al.length c), (12, .int .i64 ((al.length : Nat) : Int)), (13, .int .i64 ((k : Nat) : Int)), (20, .bool (x5.1 == id))]) rfl
       refine xt_norm ?_
       by_cases hc9 : x5.1 = id
       · first
         | (exfalso; omega)
         | (replace hA := hA.rw 20 (v' := .bool true) rfl (vb_eq_t hc9)
            refine cd_cond_t hA rfl ?_
            refine wp_seq ?_
            refine wp_draw (fun w' => St w0 w' ([(b6, rowO [.int .i64 x5.1, .int .i64 x5.2] 43)] :: [(b, rowO [.int .i64 now, .slice (some ⟨b3, o4, none⟩) al.length c] 26)] :: C :: F)) [] [(0, true), (1, true), (2, true), (3, true), (4, true), (5, true), (6, true), (7, true), (8, true)] mixed (by kernel_rfl) (by rintro c a w ⟨_, _, h, _⟩; cases h) (by rfl) (by kernel_rfl) ?_
            replace hS := hS.drew
            refine dr_run tbOk 1 hA hS (e' := (21, .pointer (some ⟨b6, 1, none⟩)) :: _) rfl ?_; clear hA; intro a hA
            refine dr_y hA rfl rfl rfl (by decide) hS (fun w' hS' => rn_load tbOk hA rfl rfl rfl rfl (cell_row (hS'.heapAt 0 rfl) rfl)) ?_; clear hA; intro a hA
            refine dr_run tbOk 3 hA hS (e' := (25, .pointer (some ⟨b, 0, none⟩)) :: (24, .pointer (some ⟨b, 0, none⟩)) :: (23, .pointer (some ⟨b, 0, none⟩)) :: _) rfl ?_; clear hA; intro a hA
            refine dr_y hA rfl rfl rfl (by decide) hS (fun w' hS' => rn_load tbOk hA rfl rfl rfl rfl (cell_row (hS'.heapAt 1 rfl) rfl)) ?_; clear hA; intro a hA
            have hbd := hal _ (List.mem_of_getElem? hx5)
            refine dr_run tbOk 1 hA hS (e' := (27, .int .i64 (IntKind.i64.wrap (x5.2 - now))) :: _) rfl ?_; clear hA; intro a hA
            replace hA := hA.rw 27 (v' := .int .i64 (x5.2 - now)) rfl (wr64 (by omega) (by omega) (by omega))
            refine dr_run tbOk 2 hA hS (e' := (5, .bool true) :: (4, .int .i64 (x5.2 - now)) :: _) rfl ?_; clear hA; intro a hA
            refine dr_end ?_
            replace hA := hA.sel [4, 5] (e' := [(4, .int .i64 (x5.2 - now)), (5, .bool true)]) rfl
            refine xt_norm ?_
            refine wp_ret (xb_ret (xt_ret (xt_ret (xb_ret (xt_ret ?_)))))
            refine ret2 (fn := Try.f11) hA rfl rfl rfl ?_
            have hlf := left_some hb hx5 (by assumption)
            replace hS := hS.front 2 (C := C) (L' := [(b6, rowO [.int .i64 x5.1, .int .i64 x5.2] 43)] :: [(b, rowO [.int .i64 now, .slice (some ⟨b3, o4, none⟩) al.length c] 26)] :: F) rfl rfl
            replace hS := hS.front 2 (C := [(b, rowO [.int .i64 now, .slice (some ⟨b3, o4, none⟩) al.length c] 26)]) (L' := C :: [(b6, rowO [.int .i64 x5.1, .int .i64 x5.2] 43)] :: F) rfl rfl
            replace hS := (hS.front 2 rfl rfl).drop1
            replace hS := hS.join
            exact ⟨_, ⟨_, _, hO, rfl⟩, by rw [hlf], hS⟩)
       · first
         | (exfalso; omega)
         | (replace hA := hA.rw 20 (v' := .bool false) rfl (vb_eq_f hc9)
            refine cd_cond_f hA rfl ?_
            refine wp_skip ?_
            refine xb_norm ?_
            refine xt_norm ?_
            refine wp_region_lit ?_
            refine st_run tbOk 1 hA (e' := (28, .int .i64 (IntKind.i64.wrap (((k : Nat) : Int) + 1))) :: _) rfl ?_; clear hA; intro a hA
            replace hA := hA.rw 28 (v' := .int .i64 ((k + 1 : Nat) : Int)) rfl (wr64 (by omega) (by omega) (by omega))
            refine st_run tbOk 1 hA (e' := (13, .int .i64 ((k + 1 : Nat) : Int)) :: _) rfl ?_; clear hA; intro a hA
            refine wpList_nil ?_
            replace hA := hA.sel [0, 1, 11, 12, 13] (e' := [(0, .pointer (some ⟨b, 0, none⟩)), (1, .int .i64 id), (11, .slice (some ⟨b3, o4, none⟩) al.length c), (12, .int .i64 ((al.length : Nat) : Int)), (13, .int .i64 ((k + 1 : Nat) : Int))]) rfl
            replace hS := hS.drop1
            replace hS := hS.front 1 (C := C) (L' := [(b, rowO [.int .i64 now, .slice (some ⟨b3, o4, none⟩) al.length c] 26)] :: F) rfl rfl
            replace hS := hS.front 1 (C := [(b, rowO [.int .i64 now, .slice (some ⟨b3, o4, none⟩) al.length c] 26)]) (L' := C :: F) rfl rfl
            exact lp_next _ (by omega) ⟨(k + 1), rfl, (hA.sel [0, 1, 11, 12, 13] rfl), hS, by omega, fun i y hi hy => (Nat.lt_succ_iff_lt_or_eq.1 hi).elim (fun h => hb i y h hy) (fun h => by subst h; rw [hx5] at hy; injection hy with hy; subst hy; assumption)⟩))
  · first
    | (exfalso; omega)
    | (replace hA := hA.rw 14 (v' := .bool false) rfl (vb_false hc2)
       refine cd_cond_f hA rfl ?_
       refine wp_exit ?_
       refine xt_exit ?_
       refine xt_exit ?_
       refine cd_exit_eq ?_
       refine xt_norm ?_
       refine wp_seq ?_
       refine wp_region_lit ?_
       refine st_run tbOk 2 hA (e' := (5, .bool false) :: (4, .int .i64 0) :: _) rfl ?_; clear hA; intro a hA
       refine wpList_nil ?_
       replace hA := hA.sel [4, 5] (e' := [(4, .int .i64 0), (5, .bool false)]) rfl
       refine xt_norm ?_
       refine wp_ret ?_
       refine ret2 (fn := Try.f11) hA rfl rfl rfl ?_
       have hkk : k = al.length := by omega
       subst hkk
       have hlf := left_none hb
       replace hS := hS.front 1 (C := C) (L' := [(b, rowO [.int .i64 now, .slice A al.length c] 26)] :: F) rfl rfl
       replace hS := hS.front 1 (C := [(b, rowO [.int .i64 now, .slice A al.length c] 26)]) (L' := C :: F) rfl rfl
       replace hS := hS.join
       exact ⟨_, ⟨_, _, hO, rfl⟩, by rw [hlf], hS⟩)

def ring (al : List (Int × Int)) (now : Int) (k : Nat) : List Int := ((al.take k).filter (wat now)).map (fun x => x.1)
theorem ring_yes {al : List (Int × Int)} {now : Int} {k : Nat} {x : Int × Int} (hx : al[k]? = some x) (h : x.2 = now) : ring al now k ++ [x.1] = ring al now (k + 1) := by
  rw [ring, ring, List.take_add_one, hx, List.filter_append, List.map_append]
  congr 1
  simp [wat, h]
theorem ring_no {al : List (Int × Int)} {now : Int} {k : Nat} {x : Int × Int} (hx : al[k]? = some x) (h : ¬ x.2 = now) : ring al now k = ring al now (k + 1) := by
  rw [ring, ring, List.take_add_one, hx, List.filter_append, List.map_append]
  simp [wat, h]
theorem ring_le (al : List (Int × Int)) (now : Int) (k : Nat) : (ring al now k).length ≤ k := by
  rw [ring, List.length_map]; exact Nat.le_trans (List.length_filter_le _ _) (by rw [List.length_take]; omega)

theorem tick8 {w0 w : World} {F : List Chunk} {L : Chunk} {b : Nat} {now : Int} {al : List (Int × Int)} (hS : St w0 w (L :: F)) (hM : XR b now al L) (hal : al.length ≤ 64) (hn1 : -4611686018427387904 ≤ now) (hn2 : now ≤ 4611686018427387904) :
    Ret Try.prog 8 #[.pointer (some ⟨b, 0, none⟩)] w (fun v w' => ∃ L' C', Own 3 1 v (ring al (now + 1) al.length).length (rows encI (ring al (now + 1) al.length)) C' ∧ XR b (now + 1) (al.filter (fun x => !(wat (now + 1) x))) L' ∧ St w0 w' (C' :: L' :: F)) := by
  obtain ⟨v, C, hO, rfl⟩ := hM
  obtain ⟨A, c, rfl, hmc, hcx⟩ := hO.open'
  replace hS : St w0 w ([(b, rowO [.int .i64 now, .slice A al.length c] 26)] :: C :: F) := hS.split
  refine enter (vs := [.pointer (some ⟨b, 0, none⟩)]) 45 Try.func8 rfl rfl (by simp) ?_; intro a hA
  refine wp_seq ?_
  refine wp_region_lit ?_
  refine st_box hA hS [.pointer (some ⟨b, 0, none⟩)] rfl rfl rfl rfl rfl (by decide) ?_; clear hA hS; intro b1 w2 a hS hA
  refine st_run tbOk 1 hA (e' := (2, .slice none 0 0) :: _) rfl ?_; clear hA; intro a hA
  refine wpList_nil ?_
  replace hA := hA.sel [1] (e' := [(1, .pointer (some ⟨b1, 0, none⟩))]) rfl
  refine xt_norm ?_
  refine wp_seq ?_
  refine wp_region_lit ?_
  refine st_val hA rfl rfl (by decide) (rn_load tbOk hA rfl rfl rfl rfl (cell_row (hS.heapAt 0 rfl) rfl)) ?_; clear hA; intro a hA
  refine st_run tbOk 2 hA (e' := (8, .pointer (some ⟨b, 0, none⟩)) :: (7, .pointer (some ⟨b, 0, none⟩)) :: _) rfl ?_; clear hA; intro a hA
  refine st_val hA rfl rfl (by decide) (rn_load tbOk hA rfl rfl rfl rfl (cell_row (hS.heapAt 1 rfl) rfl)) ?_; clear hA; intro a hA
  refine st_run tbOk 1 hA (e' := (10, .int .i64 (IntKind.i64.wrap (now + 1))) :: _) rfl ?_; clear hA; intro a hA
  replace hA := hA.rw 10 (v' := .int .i64 (now + 1)) rfl (wr64 (by omega) (by omega) (by omega))
  refine st_run tbOk 2 hA (e' := (12, .pointer (some ⟨b, 0, none⟩)) :: (11, .pointer (some ⟨b, 0, none⟩)) :: _) rfl ?_; clear hA; intro a hA
  replace hS := hS.front 1 (C := [(b, rowO [.int .i64 now, .slice A al.length c] 26)]) (L' := [(b1, rowO [.pointer (some ⟨b, 0, none⟩)] 23)] :: C :: F) rfl rfl
  refine st_store tbOk hA hS [.int .i64 (now + 1)] [.int .i64 (now + 1), .slice A al.length c] rfl rfl rfl rfl rfl rfl (by intro u hu; rw [List.mem_singleton.1 hu]; rfl) (Nat.le_of_ble_eq_true rfl) rfl rfl rfl ?_; clear hS; intro w3 hS
  refine wpList_nil ?_
  replace hA := hA.sel [1] (e' := [(1, .pointer (some ⟨b1, 0, none⟩))]) rfl
  refine xt_norm ?_
  refine wp_seq ?_
  refine wp_region_lit ?_
  refine st_run tbOk 1 hA (e' := (3, .slice none 0 0) :: _) rfl ?_; clear hA; intro a hA
  refine wpList_nil ?_
  refine xt_norm ?_
  refine wp_seq ?_
  refine wp_seq ?_
  refine wp_region_lit ?_
  refine st_val hA rfl rfl (by decide) (rn_load tbOk hA rfl rfl rfl rfl (cell_row (hS.heapAt 1 rfl) rfl)) ?_; clear hA; intro a hA
  refine st_run tbOk 2 hA (e' := (15, .pointer (some ⟨b, 1, none⟩)) :: (14, .pointer (some ⟨b, 0, none⟩)) :: _) rfl ?_; clear hA; intro a hA
  refine st_val hA rfl rfl (by decide) (rn_load tbOk hA rfl rfl rfl rfl (cell_row (hS.heapAt 0 rfl) rfl)) ?_; clear hA; intro a hA
  refine st_run tbOk 2 hA (e' := (18, .int .i64 0) :: (17, .int .i64 ((al.length : Nat) : Int)) :: _) rfl ?_; clear hA; intro a hA
  refine wpList_nil ?_
  replace hA := hA.sel [1, 3, 16, 17, 18] (e' := [(1, .pointer (some ⟨b1, 0, none⟩)), (3, .slice none 0 0), (16, .slice A al.length c), (17, .int .i64 ((al.length : Nat) : Int)), (18, .int .i64 0)]) rfl
  refine xt_norm ?_
  refine wp_block ?_
  replace hS := hS.nil
  refine wp_loop_ghost (fun m a w => ∃ (k : Nat) (A1 : Option Addr) (c1 : Nat) (R : Chunk), m = al.length - k ∧ Has a 45 [(1, .pointer (some ⟨b1, 0, none⟩)), (3, .slice A1 ((ring al (now + 1) k).length) c1), (16, .slice A al.length c), (17, .int .i64 ((al.length : Nat) : Int)), (18, .int .i64 ((k : Nat) : Int))] ∧ St w0 w (R :: [(b, rowO [.int .i64 (now + 1), .slice A al.length c] 26)] :: [(b1, rowO [.pointer (some ⟨b, 0, none⟩)] 23)] :: C :: F) ∧ (k ≤ al.length) ∧ (Own 3 1 (.slice A1 (ring al (now + 1) k).length c1) (ring al (now + 1) k).length (rows encI (ring al (now + 1) k)) R)) (al.length - 0)
    ⟨0, none, 0, ([]), rfl, (hA.sel [1, 3, 16, 17, 18] rfl), hS, Nat.zero_le _, (Own.nil 3 1)⟩ ?_
  clear hA hS; rintro m0 a w4 ⟨k, A1, c1, R, rfl, hA, hS, hk, hR⟩
  have hrl := ring_le al (now + 1) k
  refine wp_seq ?_
  refine wp_region_lit ?_
  refine st_run tbOk 1 hA (e' := (19, .bool (decide (((k : Nat) : Int) < ((al.length : Nat) : Int)))) :: _) rfl ?_; clear hA; intro a hA
  refine wpList_nil ?_
  refine xt_norm ?_
  refine wp_seq ?_
  by_cases hc5 : ((k : Nat) : Int) < ((al.length : Nat) : Int)
  · first
    | (exfalso; omega)
    | (replace hA := hA.rw 19 (v' := .bool true) rfl (vb_true hc5)
       refine cd_cond_t hA rfl ?_
       refine wp_skip ?_
       refine xt_norm ?_
       refine wp_seq ?_
       refine wp_block ?_
       refine wp_seq ?_
       refine wp_region_lit ?_
       obtain ⟨b6, o7, rfl⟩ := hO.isSome (k := k) (by omega)
       refine st_val hA rfl rfl (by decide) (rn_indexAddr tbOk hA k (o7 + (k * 2)) rfl rfl rfl rfl rfl rfl (by rfl) (by omega) (by first | rfl | simp [Nat.mul_one, Nat.zero_add] | omega)) ?_; clear hA; intro a hA
       obtain ⟨x8, hx8⟩ := get_ex (l := al) (k := k) (by omega)
       refine st_val hA rfl rfl (by decide) (rn_loadA tbOk hA ([.int .i64 x8.1, .int .i64 x8.2]) rfl rfl rfl rfl (by rfl) ((hO.rd (hS.own_ 3 rfl)).elem (k := k) encAlarm_ok hx8)) ?_; clear hA; intro a hA
       refine st_alloc tbOk hA hS [.int .i64 0, .int .i64 0] rfl rfl rfl rfl rfl (by decide) ?_; clear hA hS; intro b9 w10 a hS hA
       refine st_store tbOk hA hS [.int .i64 x8.1, .int .i64 x8.2] [.int .i64 x8.1, .int .i64 x8.2] rfl rfl rfl rfl rfl rfl (by simp [Value.oneCell']) (Nat.le_of_ble_eq_true rfl) rfl rfl rfl ?_; clear hS; intro w11 hS
       refine wpList_nil ?_
       replace hA := hA.sel [1, 3, 5, 16, 17, 18] (e' := [(1, .pointer (some ⟨b1, 0, none⟩)), (3, .slice A1 ((ring al (now + 1) k).length) c1), (5, .pointer (some ⟨b9, 0, none⟩)), (16, .slice (some ⟨b6, o7, none⟩) al.length c), (17, .int .i64 ((al.length : Nat) : Int)), (18, .int .i64 ((k : Nat) : Int))]) rfl
       refine xt_norm ?_
       refine wp_seq ?_
       refine wp_draw (fun w' => St w0 w' ([(b9, rowO [.int .i64 x8.1, .int .i64 x8.2] 43)] :: R :: [(b, rowO [.int .i64 (now + 1), .slice (some ⟨b6, o7, none⟩) al.length c] 26)] :: [(b1, rowO [.pointer (some ⟨b, 0, none⟩)] 23)] :: C :: F)) [] [(0, true), (1, true), (2, true), (3, true), (4, true), (5, true), (6, true)] mixed (by kernel_rfl) (by rintro c a w ⟨_, _, h, _⟩; cases h) (by rfl) (by kernel_rfl) ?_
       replace hS := hS.drew
       refine dr_run tbOk 1 hA hS (e' := (22, .pointer (some ⟨b9, 1, none⟩)) :: _) rfl ?_; clear hA; intro a hA
       refine dr_y hA rfl rfl rfl (by decide) hS (fun w' hS' => rn_load tbOk hA rfl rfl rfl rfl (cell_row (hS'.heapAt 0 rfl) rfl)) ?_; clear hA; intro a hA
       refine dr_y hA rfl rfl rfl (by decide) hS (fun w' hS' => rn_load tbOk hA rfl rfl rfl rfl (cell_row (hS'.heapAt 3 rfl) rfl)) ?_; clear hA; intro a hA
       refine dr_run tbOk 2 hA hS (e' := (26, .pointer (some ⟨b, 0, none⟩)) :: (25, .pointer (some ⟨b, 0, none⟩)) :: _) rfl ?_; clear hA; intro a hA
       refine dr_y hA rfl rfl rfl (by decide) hS (fun w' hS' => rn_load tbOk hA rfl rfl rfl rfl (cell_row (hS'.heapAt 2 rfl) rfl)) ?_; clear hA; intro a hA
       refine dr_run tbOk 1 hA hS (e' := (28, .bool (x8.2 == (now + 1))) :: _) rfl ?_; clear hA; intro a hA
       refine dr_end ?_
       replace hA := hA.sel [1, 3, 5, 16, 17, 18, 28] (e' := [(1, .pointer (some ⟨b1, 0, none⟩)), (3, .slice A1 ((ring al (now + 1) k).length) c1), (5, .pointer (some ⟨b9, 0, none⟩)), (16, .slice (some ⟨b6, o7, none⟩) al.length c), (17, .int .i64 ((al.length : Nat) : Int)), (18, .int .i64 ((k : Nat) : Int)), (28, .bool (x8.2 == (now + 1)))]) rfl
       refine xt_norm ?_
       by_cases hc12 : x8.2 = now + 1
       · first
         | (exfalso; omega)
         | (replace hA := hA.rw 28 (v' := .bool true) rfl (vb_eq_t hc12)
            refine cd_cond_t hA rfl ?_
            refine wp_region_lit ?_
            refine st_run tbOk 2 hA (e' := (30, .pointer (some ⟨b9, 0, none⟩)) :: (29, .slice A1 ((ring al (now + 1) k).length) c1) :: _) rfl ?_; clear hA; intro a hA
            refine st_val hA rfl rfl (by decide) (rn_load tbOk hA rfl rfl rfl rfl (cell_row (hS.heapAt 0 rfl) rfl)) ?_; clear hA; intro a hA
            refine st_buildSlice tbOk hA hS [.int .i64 x8.1] rfl rfl rfl rfl rfl (by decide) (by kernel_rfl) rfl rfl (by decide) ?_; clear hA hS; intro b13 w14 a hS hA
            replace hS := hS.front 2 (C := R) (L' := [(b13, rowO [.int .i64 x8.1] 3)] :: [(b9, rowO [.int .i64 x8.1, .int .i64 x8.2] 43)] :: [(b, rowO [.int .i64 (now + 1), .slice (some ⟨b6, o7, none⟩) al.length c] 26)] :: [(b1, rowO [.pointer (some ⟨b, 0, none⟩)] 23)] :: C :: F) rfl rfl
            refine st_append tbOk hA (m := (ring al (now + 1) k).length) (q := 1) (xs := rows encI (ring al (now + 1) k)) (news := rows encI ([x8.1] : List Int)) rfl rfl rfl rfl rfl rfl rfl rfl (by decide) hR hS ((Own.full (T := 3) (size := 1) (g := b13) (m := 1) rfl (by decide)).rd (hS.own_ 1 rfl)) (rows_one encI_ok _) (maxLen_le (by omega)) (by show ((ring al (now + 1) k).length + 1) * 8 ≤ 140737488355328; omega) rfl rfl (by decide) ?_
            clear hA hS; intro v15 w16 C17 a hO17 hS hA
            replace hO17 := Own.app (l := ring al (now + 1) k) (l2 := ([x8.1] : List Int)) hO17
            obtain ⟨A18, c19, rfl, hmc19, hxc19⟩ := hO17.open'
            refine st_run tbOk 1 hA (e' := (3, .slice A18 (((ring al (now + 1) k) ++ ([x8.1] : List Int)).length) c19) :: _) rfl ?_; clear hA; intro a hA
            refine wpList_nil ?_
            replace hA := hA.sel [1, 3, 16, 17, 18] (e' := [(1, .pointer (some ⟨b1, 0, none⟩)), (3, .slice A18 (((ring al (now + 1) k) ++ ([x8.1] : List Int)).length) c19), (16, .slice (some ⟨b6, o7, none⟩) al.length c), (17, .int .i64 ((al.length : Nat) : Int)), (18, .int .i64 ((k : Nat) : Int))]) rfl
            refine xb_norm ?_
            refine xt_norm ?_
            refine wp_region_lit ?_
            refine st_run tbOk 1 hA (e' := (34, .int .i64 (IntKind.i64.wrap (((k : Nat) : Int) + 1))) :: _) rfl ?_; clear hA; intro a hA
            replace hA := hA.rw 34 (v' := .int .i64 ((k + 1 : Nat) : Int)) rfl (wr64 (by omega) (by omega) (by omega))
            refine st_run tbOk 1 hA (e' := (18, .int .i64 ((k + 1 : Nat) : Int)) :: _) rfl ?_; clear hA; intro a hA
            refine wpList_nil ?_
            replace hA := hA.sel [1, 3, 16, 17, 18] (e' := [(1, .pointer (some ⟨b1, 0, none⟩)), (3, .slice A18 (((ring al (now + 1) k) ++ ([x8.1] : List Int)).length) c19), (16, .slice (some ⟨b6, o7, none⟩) al.length c), (17, .int .i64 ((al.length : Nat) : Int)), (18, .int .i64 ((k + 1 : Nat) : Int))]) rfl
            have hl : (ring al (now + 1) k) ++ ([x8.1] : List Int) = ring al (now + 1) (k + 1) := ring_yes hx8 (by omega)
            rw [hl] at hO17; rw [hl] at hA
            replace hS := hS.front 1 (C := [(b13, rowO [.int .i64 x8.1] 3)]) (L' := C17 :: [(b9, rowO [.int .i64 x8.1, .int .i64 x8.2] 43)] :: [(b, rowO [.int .i64 (now + 1), .slice (some ⟨b6, o7, none⟩) al.length c] 26)] :: [(b1, rowO [.pointer (some ⟨b, 0, none⟩)] 23)] :: C :: F) rfl rfl
            replace hS := hS.drop1
            replace hS := hS.front 1 (C := [(b9, rowO [.int .i64 x8.1, .int .i64 x8.2] 43)]) (L' := C17 :: [(b, rowO [.int .i64 (now + 1), .slice (some ⟨b6, o7, none⟩) al.length c] 26)] :: [(b1, rowO [.pointer (some ⟨b, 0, none⟩)] 23)] :: C :: F) rfl rfl
            replace hS := hS.drop1
            replace hS := hS.front 3 (C := C) (L' := C17 :: [(b, rowO [.int .i64 (now + 1), .slice (some ⟨b6, o7, none⟩) al.length c] 26)] :: [(b1, rowO [.pointer (some ⟨b, 0, none⟩)] 23)] :: F) rfl rfl
            replace hS := hS.front 3 (C := [(b1, rowO [.pointer (some ⟨b, 0, none⟩)] 23)]) (L' := C :: C17 :: [(b, rowO [.int .i64 (now + 1), .slice (some ⟨b6, o7, none⟩) al.length c] 26)] :: F) rfl rfl
            replace hS := hS.front 3 (C := [(b, rowO [.int .i64 (now + 1), .slice (some ⟨b6, o7, none⟩) al.length c] 26)]) (L' := [(b1, rowO [.pointer (some ⟨b, 0, none⟩)] 23)] :: C :: C17 :: F) rfl rfl
            replace hS := hS.front 3 (C := C17) (L' := [(b, rowO [.int .i64 (now + 1), .slice (some ⟨b6, o7, none⟩) al.length c] 26)] :: [(b1, rowO [.pointer (some ⟨b, 0, none⟩)] 23)] :: C :: F) rfl rfl
            exact lp_next _ (by omega) ⟨(k + 1), A18, c19, C17, rfl, (hA.sel [1, 3, 16, 17, 18] rfl), hS, by omega, hO17⟩)
       · first
         | (exfalso; omega)
         | (replace hA := hA.rw 28 (v' := .bool false) rfl (vb_eq_f hc12)
            refine cd_cond_f hA rfl ?_
            refine wp_skip ?_
            refine xb_norm ?_
            refine xt_norm ?_
            refine wp_region_lit ?_
            refine st_run tbOk 1 hA (e' := (34, .int .i64 (IntKind.i64.wrap (((k : Nat) : Int) + 1))) :: _) rfl ?_; clear hA; intro a hA
            replace hA := hA.rw 34 (v' := .int .i64 ((k + 1 : Nat) : Int)) rfl (wr64 (by omega) (by omega) (by omega))
            refine st_run tbOk 1 hA (e' := (18, .int .i64 ((k + 1 : Nat) : Int)) :: _) rfl ?_; clear hA; intro a hA
            refine wpList_nil ?_
            replace hA := hA.sel [1, 3, 16, 17, 18] (e' := [(1, .pointer (some ⟨b1, 0, none⟩)), (3, .slice A1 ((ring al (now + 1) k).length) c1), (16, .slice (some ⟨b6, o7, none⟩) al.length c), (17, .int .i64 ((al.length : Nat) : Int)), (18, .int .i64 ((k + 1 : Nat) : Int))]) rfl
            have hw1 : ring al (now + 1) k = ring al (now + 1) (k + 1) := ring_no hx8 (by omega)
            rw [hw1] at hR hA
            replace hS := hS.drop1
            replace hS := hS.front 3 (C := C) (L' := R :: [(b, rowO [.int .i64 (now + 1), .slice (some ⟨b6, o7, none⟩) al.length c] 26)] :: [(b1, rowO [.pointer (some ⟨b, 0, none⟩)] 23)] :: F) rfl rfl
            replace hS := hS.front 3 (C := [(b1, rowO [.pointer (some ⟨b, 0, none⟩)] 23)]) (L' := C :: R :: [(b, rowO [.int .i64 (now + 1), .slice (some ⟨b6, o7, none⟩) al.length c] 26)] :: F) rfl rfl
            replace hS := hS.front 3 (C := [(b, rowO [.int .i64 (now + 1), .slice (some ⟨b6, o7, none⟩) al.length c] 26)]) (L' := [(b1, rowO [.pointer (some ⟨b, 0, none⟩)] 23)] :: C :: R :: F) rfl rfl
            replace hS := hS.front 3 (C := R) (L' := [(b, rowO [.int .i64 (now + 1), .slice (some ⟨b6, o7, none⟩) al.length c] 26)] :: [(b1, rowO [.pointer (some ⟨b, 0, none⟩)] 23)] :: C :: F) rfl rfl
            exact lp_next _ (by omega) ⟨(k + 1), A1, c1, R, rfl, (hA.sel [1, 3, 16, 17, 18] rfl), hS, by omega, hR⟩))
  · first
    | (exfalso; omega)
    | (replace hA := hA.rw 19 (v' := .bool false) rfl (vb_false hc5)
       refine cd_cond_f hA rfl ?_
       refine wp_exit ?_
       refine xt_exit ?_
       refine xt_exit ?_
       refine cd_exit_eq ?_
       refine xt_norm ?_
       refine wp_seq ?_
       have hkl : k = al.length := by omega
       have hl : ring al (now + 1) k = ring al (now + 1) al.length := by rw [hkl]
       rw [hl] at hR; rw [hl] at hA
       replace hS := hS.front 3 (C := C) (L' := R :: [(b, rowO [.int .i64 (now + 1), .slice A al.length c] 26)] :: [(b1, rowO [.pointer (some ⟨b, 0, none⟩)] 23)] :: F) rfl rfl
       refine wp_draw (fun w' => St w0 w' (R :: [(b, rowO [.int .i64 (now + 1), .slice A al.length c] 26)] :: [(b1, rowO [.pointer (some ⟨b, 0, none⟩)] 23)] :: F)) [9] [(0, true), (1, true), (2, true), (3, true), (4, true), (5, true), (6, false), (7, true), (8, true), (9, false)] mixed (by kernel_rfl) (by rintro c a w ⟨_, _, h, _⟩; cases h) (by rfl) (by kernel_rfl) ?_
       replace hS := hS.drew
       refine dr_y hA rfl rfl rfl (by decide) (hS.tail 1 rfl) (fun w' hS' => rn_load tbOk hA rfl rfl rfl rfl (cell_row (hS'.heapAt 2 rfl) rfl)) ?_; clear hA; intro a hA
       refine dr_y hA rfl rfl rfl (by decide) (hS.tail 1 rfl) (fun w' hS' => rn_load tbOk hA rfl rfl rfl rfl (cell_row (hS'.heapAt 2 rfl) rfl)) ?_; clear hA; intro a hA
       refine dr_run tbOk 2 hA (hS.tail 1 rfl) (e' := (38, .pointer (some ⟨b, 1, none⟩)) :: (37, .pointer (some ⟨b, 0, none⟩)) :: _) rfl ?_; clear hA; intro a hA
       refine dr_y hA rfl rfl rfl (by decide) (hS.tail 1 rfl) (fun w' hS' => rn_load tbOk hA rfl rfl rfl rfl (cell_row (hS'.heapAt 1 rfl) rfl)) ?_; clear hA; intro a hA
       refine dr_run tbOk 1 hA (hS.tail 1 rfl) (e' := (40, .func (.func 15) #[] #[.pointer (some ⟨b1, 0, none⟩)]) :: _) rfl ?_; clear hA; intro a hA
       refine dr_b (o := _) rfl ?_
       refine st_call0 hA rfl rfl rfl isfn12 rfl rfl (by decide) (deleteFunc12 hS (l := al) hO isfn15 (tickcP (bx := b1) (fun w' h => cell_row (h.heapAt 2 rfl) rfl) (fun w' h => cell_row (h.heapAt 1 rfl) rfl))) ?_
       clear hA hS; rintro v20 w21 a ⟨C22, hO22, hS⟩ hA
       obtain ⟨A23, c24, rfl, hmc24, hxc24⟩ := hO22.open'
       refine dr_nil (.inr (hS.tail 1 rfl)) ?_
       refine dr_run tbOk 2 hA (hS.tail 1 rfl) (e' := (43, .pointer (some ⟨b, 1, none⟩)) :: (42, .pointer (some ⟨b, 0, none⟩)) :: _) rfl ?_; clear hA; intro a hA
       refine dr_b (o := _) rfl ?_
       replace hS := hS.front 2 (C := [(b, rowO [.int .i64 (now + 1), .slice A al.length c] 26)]) (L' := C22 :: R :: [(b1, rowO [.pointer (some ⟨b, 0, none⟩)] 23)] :: F) rfl rfl
       refine st_store tbOk hA hS [.slice A23 ((al.filter (fun x => !(wat (now + 1) x))).length) c24] [.int .i64 (now + 1), .slice A23 ((al.filter (fun x => !(wat (now + 1) x))).length) c24] rfl rfl rfl rfl rfl rfl (by intro u hu; rw [List.mem_singleton.1 hu]; rfl) (Nat.le_of_ble_eq_true rfl) rfl rfl rfl ?_; clear hS; intro w25 hS
       refine dr_nil (.inl (by decide)) ?_
       refine dr_end ?_
       replace hA := hA.sel [3] (e' := [(3, .slice A1 ((ring al (now + 1) al.length).length) c1)]) rfl
       refine xt_norm ?_
       refine wp_seq ?_
       refine wp_region_lit ?_
       refine st_run tbOk 2 hA (e' := (2, .slice A1 ((ring al (now + 1) al.length).length) c1) :: (44, .slice A1 ((ring al (now + 1) al.length).length) c1) :: _) rfl ?_; clear hA; intro a hA
       refine wpList_nil ?_
       replace hA := hA.sel [2] (e' := [(2, .slice A1 ((ring al (now + 1) al.length).length) c1)]) rfl
       refine xt_norm ?_
       refine wp_ret ?_
       refine ret1 (fn := Try.f8) hA rfl rfl ?_
       replace hS := hS.front 2 (C := R) (L' := [(b, rowO [.int .i64 (now + 1), .slice A23 ((al.filter (fun x => !(wat (now + 1) x))).length) c24] 26)] :: C22 :: [(b1, rowO [.pointer (some ⟨b, 0, none⟩)] 23)] :: F) rfl rfl
       replace hS := hS.front 2 (C := C22) (L' := R :: [(b, rowO [.int .i64 (now + 1), .slice A23 ((al.filter (fun x => !(wat (now + 1) x))).length) c24] 26)] :: [(b1, rowO [.pointer (some ⟨b, 0, none⟩)] 23)] :: F) rfl rfl
       replace hS := hS.front 2 (C := [(b, rowO [.int .i64 (now + 1), .slice A23 ((al.filter (fun x => !(wat (now + 1) x))).length) c24] 26)]) (L' := C22 :: R :: [(b1, rowO [.pointer (some ⟨b, 0, none⟩)] 23)] :: F) rfl rfl
       replace hS := (hS.front 3 rfl rfl).drop1
       replace hS := hS.join
       replace hS := hS.swap
       exact ⟨_, _, hR, ⟨_, _, hO22, rfl⟩, hS⟩)

theorem awake6 {w0 w : World} {F : List Chunk} (hS : St w0 w F) :
    Ret Try.prog 6 #[] w (fun v w' => v = .bool true ∧ St w0 w' F) := by
  refine enter (vs := []) 36 Try.func6 rfl rfl (by simp) ?_; intro a hA
  refine wp_seq ?_
  refine wp_region_lit ?_
  refine st_run tbOk 1 hA (e' := (0, .bool false) :: _) rfl ?_; clear hA; intro a hA
  refine wpList_nil ?_
  replace hA := hA.sel [] (e' := []) rfl
  refine xt_norm ?_
  refine wp_seq ?_
  refine wp_region_lit ?_
  refine st_run tbOk 1 hA (e' := (3, .agg #[.int .i64 0, .slice none 0 0]) :: _) rfl ?_; clear hA; intro a hA
  refine st_box hA hS [.int .i64 0, .slice none 0 0] rfl rfl rfl rfl rfl (by decide) ?_; clear hA hS; intro b1 w2 a hS hA
  obtain ⟨L3, hM4, hS⟩ : ∃ Z, XR b1 0 [] Z ∧ St w0 w2 (Z :: F) := ⟨_, XR.new _, hS⟩
  refine st_run tbOk 1 hA (e' := (1, .pointer (some ⟨b1, 0, none⟩)) :: _) rfl ?_; clear hA; intro a hA
  refine wpList_nil ?_
  replace hA := hA.sel [1] (e' := [(1, .pointer (some ⟨b1, 0, none⟩))]) rfl
  refine xt_norm ?_
  refine wp_seq ?_
  refine wp_region_lit ?_
  refine st_run tbOk 1 hA (e' := (5, .pointer (some ⟨b1, 0, none⟩)) :: _) rfl ?_; clear hA; intro a hA
  refine st_call0 hA rfl rfl rfl isfn7 rfl rfl (by decide) (set_ok7 hS hM4 7 2 (by decide) (by decide) (by decide) (by decide) (by decide) (by decide)) ?_
  clear hA hS; rintro v w6 a ⟨L5, hM7, rfl, hS⟩ hA
  refine st_run tbOk 3 hA (e' := (9, .pointer (some ⟨b1, 0, none⟩)) :: (8, .bool true) :: (7, .bool true) :: _) rfl ?_; clear hA; intro a hA
  refine st_call0 hA rfl rfl rfl isfn7 rfl rfl (by decide) (set_ok7 hS hM7 8 1 (by decide) (by decide) (by decide) (by decide) (by decide) (by decide)) ?_
  clear hA hS; rintro v w9 a ⟨L8, hM10, rfl, hS⟩ hA
  refine st_run tbOk 4 hA (e' := (14, .pointer (some ⟨b1, 0, none⟩)) :: (13, .bool true) :: (12, .bool true) :: (11, .bool true) :: _) rfl ?_; clear hA; intro a hA
  refine st_call0 hA rfl rfl rfl isfn7 rfl rfl (by decide) (set_ok7 hS hM10 9 2 (by decide) (by decide) (by decide) (by decide) (by decide) (by decide)) ?_
  clear hA hS; rintro v w12 a ⟨L11, hM13, rfl, hS⟩ hA
  refine st_run tbOk 4 hA (e' := (19, .pointer (some ⟨b1, 0, none⟩)) :: (18, .bool true) :: (17, .bool true) :: (16, .bool true) :: _) rfl ?_; clear hA; intro a hA
  refine st_call0 hA rfl rfl rfl isfn7 rfl rfl (by decide) (set_ok7 hS hM13 7 2 (by decide) (by decide) (by decide) (by decide) (by decide) (by decide)) ?_
  clear hA hS; rintro v w15 a ⟨L14, hM16, rfl, hS⟩ hA
  refine st_run tbOk 3 hA (e' := (2, .bool true) :: (22, .bool true) :: (21, .bool true) :: _) rfl ?_; clear hA; intro a hA
  refine wpList_nil ?_
  replace hA := hA.sel [1, 2] (e' := [(1, .pointer (some ⟨b1, 0, none⟩)), (2, .bool true)]) rfl
  refine xt_norm ?_
  refine wp_seq ?_
  refine wp_region_lit ?_
  refine st_run tbOk 3 hA (e' := (25, .pointer (some ⟨b1, 0, none⟩)) :: (24, .bool true) :: (23, .bool true) :: _) rfl ?_; clear hA; intro a hA
  refine st_call0 hA rfl rfl rfl isfn8 rfl rfl (by decide) (tick8 hS hM16 (by decide) (by decide) (by decide)) ?_
  clear hA hS; rintro v20 w18 a ⟨L17, C21, hO21, hM19, hS⟩ hA
  obtain ⟨A22, c23, rfl, hmc23, hxc23⟩ := hO21.open'
  refine st_buildSlice tbOk hA hS [.int .i64 8] rfl rfl rfl rfl rfl (by decide) (by kernel_rfl) rfl rfl (by decide) ?_; clear hA hS; intro b24 w25 a hS hA
  refine st_call0 hA rfl rfl rfl isfn10 rfl rfl (by decide) (same10 hS (xs := ([8] : List Int)) (ys := ([8] : List Int)) (RdS.own hO21 1 rfl) (RdS.own (Own.full (T := 3) (size := 1) (g := b24) (m := 1) rfl (by decide)) 0 rfl)) ?_
  clear hA hS; rintro v w26 a ⟨rfl, hS⟩ hA
  replace hA := hA.rw 28 (v' := .bool true) rfl (by first | rfl | decide)
  refine st_run tbOk 3 hA (e' := (31, .pointer (some ⟨b1, 0, none⟩)) :: (30, .bool true) :: (29, .bool true) :: _) rfl ?_; clear hA; intro a hA
  replace hS := hS.front 2 (C := L17) (L' := [(b24, rowO [.int .i64 8] 3)] :: C21 :: F) rfl rfl
  refine st_call0 hA rfl rfl rfl isfn8 rfl rfl (by decide) (tick8 hS hM19 (by decide) (by decide) (by decide)) ?_
  clear hA hS; rintro v30 w28 a ⟨L27, C31, hO31, hM29, hS⟩ hA
  obtain ⟨A32, c33, rfl, hmc33, hxc33⟩ := hO31.open'
  refine st_buildSlice tbOk hA hS [.int .i64 9, .int .i64 7] rfl rfl rfl rfl rfl (by decide) (by kernel_rfl) rfl rfl (by decide) ?_; clear hA hS; intro b34 w35 a hS hA
  refine st_call0 hA rfl rfl rfl isfn10 rfl rfl (by decide) (same10 hS (xs := ([9, 7] : List Int)) (ys := ([9, 7] : List Int)) (RdS.own hO31 1 rfl) (RdS.own (Own.full (T := 3) (size := 1) (g := b34) (m := 2) rfl (by decide)) 0 rfl)) ?_
  clear hA hS; rintro v w36 a ⟨rfl, hS⟩ hA
  replace hA := hA.rw 34 (v' := .bool true) rfl (by first | rfl | decide)
  refine st_run tbOk 2 hA (e' := (0, .bool true) :: (35, .bool true) :: _) rfl ?_; clear hA; intro a hA
  refine wpList_nil ?_
  replace hA := hA.sel [0] (e' := [(0, .bool true)]) rfl
  refine xt_norm ?_
  refine wp_ret ?_
  refine ret1 (fn := Try.f6) hA rfl rfl ?_
  replace hS := hS.drop1
  replace hS := hS.drop1
  replace hS := hS.drop1
  replace hS := hS.drop1
  replace hS := hS.drop1
  exact ⟨rfl, hS⟩

def one (id a j : Int) : List (Int × Int) := if j < a then [(id, a)] else []
theorem one_in {id a j : Int} (h : j < a) : one id a j = [(id, a)] := if_pos h
theorem one_out {id a j : Int} (h : ¬ j < a) : one id a j = [] := if_neg h
theorem one_len (id a j : Int) : (one id a j).length ≤ 1 := by rw [one]; split <;> simp
theorem one_filt {id a j : Int} : (one id a j).filter (fun x => !(wat (j + 1) x)) = one id a (j + 1) := by
  by_cases h : j < a
  · rw [one_in h]
    by_cases h2 : j + 1 < a
    · rw [one_in h2]; simp [wat]; omega
    · rw [one_out h2]; simp [wat]; omega
  · rw [one_out h, one_out (by omega)]; rfl
theorem one_ring_n {id a j : Int} (h : ¬ j + 1 = a) : ring (one id a j) (j + 1) (one id a j).length = [] := by
  rw [ring, List.take_length]
  by_cases h1 : j < a
  · rw [one_in h1]; simp [wat]; omega
  · rw [one_out h1]; rfl
theorem one_ring_y {id a j : Int} (h : j + 1 = a) : ring (one id a j) (j + 1) (one id a j).length = [id] := by
  rw [ring, List.take_length, one_in (by omega)]; simp [wat, h]
theorem one_drop {id a j : Int} : (one id a j).filter (fun x => !(wid id x)) = [] := by
  by_cases h1 : j < a
  · rw [one_in h1]; simp [wid]
  · rw [one_out h1]; rfl
theorem tick1_n {w0 w : World} {F : List Chunk} {L : Chunk} {b : Nat} {id a j : Int} (hS : St w0 w (L :: F)) (hM : XR b j (one id a j) L) (h0 : 0 ≤ j) (h1 : j ≤ 1000000000) (h : ¬ j + 1 = a) :
    Ret Try.prog 8 #[.pointer (some ⟨b, 0, none⟩)] w (fun v w' => ∃ L' C', Own 3 1 v 0 (rows encI []) C' ∧ XR b (j + 1) (one id a (j + 1)) L' ∧ St w0 w' (C' :: L' :: F)) := by
  refine (tick8 hS hM (by have := one_len id a j; omega) (by omega) (by omega)).mono ?_
  rintro v w' ⟨L', C', hO, hM', hS'⟩
  rw [one_ring_n h] at hO; rw [one_filt] at hM'
  exact ⟨L', C', hO, hM', hS'⟩
theorem tick1_y {w0 w : World} {F : List Chunk} {L : Chunk} {b : Nat} {id a j : Int} (hS : St w0 w (L :: F)) (hM : XR b j (one id a j) L) (h0 : 0 ≤ j) (h1 : j ≤ 1000000000) (h : j + 1 = a) :
    Ret Try.prog 8 #[.pointer (some ⟨b, 0, none⟩)] w (fun v w' => ∃ L' C', Own 3 1 v 1 (rows encI [id]) C' ∧ XR b (j + 1) (one id a (j + 1)) L' ∧ St w0 w' (C' :: L' :: F)) := by
  refine (tick8 hS hM (by have := one_len id a j; omega) (by omega) (by omega)).mono ?_
  rintro v w' ⟨L', C', hO, hM', hS'⟩
  rw [one_ring_y h] at hO; rw [one_filt] at hM'
  exact ⟨L', C', hO, hM', hS'⟩
theorem left_in {id a j : Int} (h : j < a) : left (one id a j) id = some a := by rw [one_in h]; simp [left, wid]
theorem left_out {id a j : Int} (h : ¬ j < a) : left (one id a j) id = none := by rw [one_out h]; rfl

theorem moves3 {w0 w : World} {F : List Chunk} (hS : St w0 w F) (a0 a1 a2 : Int) (h0 : 0 ≤ a0) (hb0 : a0 < 256) (h1 : 0 ≤ a1) (hb1 : a1 < 256) (h2 : 0 ≤ a2) (hb2 : a2 < 256) :
    Ret Try.prog 3 #[.int .u8 a0, .int .u8 a1, .int .u8 a2] w (fun v w' => v = .bool true ∧ St w0 w' F) := by
  obtain ⟨f, rfl⟩ := Int.eq_ofNat_of_zero_le h0
  obtain ⟨g, rfl⟩ := Int.eq_ofNat_of_zero_le h1
  obtain ⟨s, rfl⟩ := Int.eq_ofNat_of_zero_le h2
  refine enter (vs := [.int .u8 ((f : Nat) : Int), .int .u8 ((g : Nat) : Int), .int .u8 ((s : Nat) : Int)]) 58 Try.func3 rfl rfl (by simp) ?_; intro a hA
  refine wp_seq ?_
  refine wp_region_lit ?_
  refine st_run tbOk 1 hA (e' := (6, .bool false) :: _) rfl ?_; clear hA; intro a hA
  refine wpList_nil ?_
  replace hA := hA.sel [0, 1, 2] (e' := [(0, .int .u8 ((f : Nat) : Int)), (1, .int .u8 ((g : Nat) : Int)), (2, .int .u8 ((s : Nat) : Int))]) rfl
  refine xt_norm ?_
  refine wp_seq ?_
  refine wp_seq ?_
  refine wp_region_lit ?_
  refine st_call0 hA rfl rfl rfl isfn6 rfl rfl (by decide) (awake6 hS) ?_
  clear hA hS; rintro v w1 a ⟨rfl, hS⟩ hA
  refine st_run tbOk 1 hA (e' := (13, .bool false) :: _) rfl ?_; clear hA; intro a hA
  refine wpList_nil ?_
  replace hA := hA.sel [0, 1, 2, 13] (e' := [(0, .int .u8 ((f : Nat) : Int)), (1, .int .u8 ((g : Nat) : Int)), (2, .int .u8 ((s : Nat) : Int)), (13, .bool false)]) rfl
  refine xt_norm ?_
  refine cd_cond_f hA rfl ?_
  refine wp_skip ?_
  refine xt_norm ?_
  refine wp_seq ?_
  refine wp_region_lit ?_
  refine st_run tbOk 1 hA (e' := (14, .agg #[.int .i64 0, .slice none 0 0]) :: _) rfl ?_; clear hA; intro a hA
  refine st_box hA hS [.int .i64 0, .slice none 0 0] rfl rfl rfl rfl rfl (by decide) ?_; clear hA hS; intro b2 w3 a hS hA
  obtain ⟨L4, hM5, hS⟩ : ∃ Z, XR b2 0 [] Z ∧ St w0 w3 (Z :: F) := ⟨_, XR.new _, hS⟩
  refine st_run tbOk 1 hA (e' := (7, .pointer (some ⟨b2, 0, none⟩)) :: _) rfl ?_; clear hA; intro a hA
  refine wpList_nil ?_
  replace hA := hA.sel [0, 1, 2, 7] (e' := [(0, .int .u8 ((f : Nat) : Int)), (1, .int .u8 ((g : Nat) : Int)), (2, .int .u8 ((s : Nat) : Int)), (7, .pointer (some ⟨b2, 0, none⟩))]) rfl
  refine xt_norm ?_
  refine wp_seq ?_
  refine wp_region_lit ?_
  refine st_run tbOk 2 hA (e' := (17, .int .i64 (IntKind.i64.wrap ((f : Nat) : Int))) :: (16, .int .u8 ((f : Nat) : Int)) :: _) rfl ?_; clear hA; intro a hA
  replace hA := hA.rw 17 (v' := .int .i64 ((f : Nat) : Int)) rfl (wr64 (by rfl) (by omega) (by omega))
  refine st_run tbOk 1 hA (e' := (18, .int .i64 (IntKind.i64.wrap (2 + ((f : Nat) : Int)))) :: _) rfl ?_; clear hA; intro a hA
  replace hA := hA.rw 18 (v' := .int .i64 ((2 + f : Nat) : Int)) rfl (wr64 (by omega) (by omega) (by omega))
  refine st_run tbOk 1 hA (e' := (8, .int .i64 ((2 + f : Nat) : Int)) :: _) rfl ?_; clear hA; intro a hA
  refine wpList_nil ?_
  replace hA := hA.sel [1, 2, 7, 8] (e' := [(1, .int .u8 ((g : Nat) : Int)), (2, .int .u8 ((s : Nat) : Int)), (7, .pointer (some ⟨b2, 0, none⟩)), (8, .int .i64 ((2 + f : Nat) : Int))]) rfl
  refine xt_norm ?_
  refine wp_seq ?_
  refine wp_region_lit ?_
  refine st_run tbOk 2 hA (e' := (20, .int .i64 (IntKind.i64.wrap ((g : Nat) : Int))) :: (19, .int .u8 ((g : Nat) : Int)) :: _) rfl ?_; clear hA; intro a hA
  replace hA := hA.rw 20 (v' := .int .i64 ((g : Nat) : Int)) rfl (wr64 (by rfl) (by omega) (by omega))
  refine st_run tbOk 2 hA (e' := (22, .int .i64 (IntKind.i64.wrap (((2 + f : Nat) : Int) - 1))) :: (21, .int .i64 ((2 + f : Nat) : Int)) :: _) rfl ?_; clear hA; intro a hA
  replace hA := hA.rw 22 (v' := .int .i64 (((2 + f : Nat) : Int) - 1)) rfl (wr64 (by omega) (by omega) (by omega))
  replace hA := hA.rw 22 (v' := .int .i64 ((f + 1 : Nat) : Int)) rfl (vint (by omega))
  refine st_val hA rfl rfl (by decide) (rn_rem hA rfl rfl rfl (by omega)) ?_; clear hA; intro a hA
  have hmd6 := Nat.mod_lt g (show 0 < f + 1 by omega)
  replace hA := hA.rw 23 (v' := .int .i64 ((g % (f + 1) : Nat) : Int)) rfl (vint (Int.ofNat_tmod _ _).symm)
  obtain ⟨v, hv⟩ : ∃ v, v = g % (f + 1) := ⟨_, rfl⟩
  have hvl : v < f + 1 := by rw [hv]; exact Nat.mod_lt _ (by omega)
  replace hA := hA.rw 23 (v' := .int .i64 ((v : Nat) : Int)) rfl (by rw [hv])
  refine st_run tbOk 1 hA (e' := (9, .int .i64 ((v : Nat) : Int)) :: _) rfl ?_; clear hA; intro a hA
  refine wpList_nil ?_
  replace hA := hA.sel [2, 7, 8, 9] (e' := [(2, .int .u8 ((s : Nat) : Int)), (7, .pointer (some ⟨b2, 0, none⟩)), (8, .int .i64 ((2 + f : Nat) : Int)), (9, .int .i64 ((v : Nat) : Int))]) rfl
  refine xt_norm ?_
  refine wp_seq ?_
  refine wp_region_lit ?_
  refine st_run tbOk 2 hA (e' := (25, .int .i64 (IntKind.i64.wrap ((s : Nat) : Int))) :: (24, .int .u8 ((s : Nat) : Int)) :: _) rfl ?_; clear hA; intro a hA
  replace hA := hA.rw 25 (v' := .int .i64 ((s : Nat) : Int)) rfl (wr64 (by rfl) (by omega) (by omega))
  refine st_run tbOk 1 hA (e' := (26, .int .i64 (IntKind.i64.wrap (1 + ((s : Nat) : Int)))) :: _) rfl ?_; clear hA; intro a hA
  replace hA := hA.rw 26 (v' := .int .i64 ((1 + s : Nat) : Int)) rfl (wr64 (by omega) (by omega) (by omega))
  refine st_run tbOk 1 hA (e' := (10, .int .i64 ((1 + s : Nat) : Int)) :: _) rfl ?_; clear hA; intro a hA
  refine wpList_nil ?_
  replace hA := hA.sel [7, 8, 9, 10] (e' := [(7, .pointer (some ⟨b2, 0, none⟩)), (8, .int .i64 ((2 + f : Nat) : Int)), (9, .int .i64 ((v : Nat) : Int)), (10, .int .i64 ((1 + s : Nat) : Int))]) rfl
  refine xt_norm ?_
  refine wp_seq ?_
  refine wp_seq ?_
  refine wp_region_lit ?_
  refine st_run tbOk 2 hA (e' := (28, .int .i64 ((2 + f : Nat) : Int)) :: (27, .pointer (some ⟨b2, 0, none⟩)) :: _) rfl ?_; clear hA; intro a hA
  refine st_call0 hA rfl rfl rfl isfn7 rfl rfl (by decide) (set_ok7 hS hM5 3 ((2 + f : Nat) : Int) (by omega) (by omega) (by first | decide | simp) (by decide) (by decide) (by decide)) ?_
  clear hA hS; rintro v w8 a ⟨L7, hM9, rfl, hS⟩ hA
  refine st_run tbOk 1 hA (e' := (30, .bool false) :: _) rfl ?_; clear hA; intro a hA
  refine wpList_nil ?_
  replace hA := hA.sel [7, 8, 9, 10, 30] (e' := [(7, .pointer (some ⟨b2, 0, none⟩)), (8, .int .i64 ((2 + f : Nat) : Int)), (9, .int .i64 ((v : Nat) : Int)), (10, .int .i64 ((1 + s : Nat) : Int)), (30, .bool false)]) rfl
  refine xt_norm ?_
  refine cd_cond_f hA rfl ?_
  refine wp_skip ?_
  refine xt_norm ?_
  refine wp_seq ?_
  refine wp_seq ?_
  refine wp_region_lit ?_
  refine st_run tbOk 2 hA (e' := (32, .int .i64 0) :: (31, .int .i64 ((v : Nat) : Int)) :: _) rfl ?_; clear hA; intro a hA
  refine wpList_nil ?_
  replace hA := hA.sel [7, 8, 10, 31, 32] (e' := [(7, .pointer (some ⟨b2, 0, none⟩)), (8, .int .i64 ((2 + f : Nat) : Int)), (10, .int .i64 ((1 + s : Nat) : Int)), (31, .int .i64 ((v : Nat) : Int)), (32, .int .i64 0)]) rfl
  refine xt_norm ?_
  refine wp_block ?_
  have hM10 : XR b2 (((0 : Nat) : Int)) (one 3 ((2 + f : Nat) : Int) ((0 : Nat) : Int)) L7 := (by rw [one_in (by omega)]; simpa using hM9)
  refine wp_loop_ghost (fun m a w => ∃ (j : Nat) (L : Chunk), m = v - j ∧ Has a 58 [(7, .pointer (some ⟨b2, 0, none⟩)), (8, .int .i64 ((2 + f : Nat) : Int)), (10, .int .i64 ((1 + s : Nat) : Int)), (31, .int .i64 ((v : Nat) : Int)), (32, .int .i64 ((j : Nat) : Int))] ∧ St w0 w (L :: F) ∧ (j ≤ v) ∧ (XR b2 ((j : Nat) : Int) (one 3 ((2 + f : Nat) : Int) ((j : Nat) : Int)) L)) (v - 0)
    ⟨0, L7, rfl, (hA.sel [7, 8, 10, 31, 32] rfl), hS, Nat.zero_le _, hM10⟩ ?_
  clear hA hS; rintro m0 a w11 ⟨j, L, rfl, hA, hS, hj, hM⟩
  refine wp_seq ?_
  refine wp_region_lit ?_
  refine st_run tbOk 1 hA (e' := (33, .bool (decide (((j : Nat) : Int) < ((v : Nat) : Int)))) :: _) rfl ?_; clear hA; intro a hA
  refine wpList_nil ?_
  refine xt_norm ?_
  refine wp_seq ?_
  by_cases hc12 : ((j : Nat) : Int) < ((v : Nat) : Int)
  · first
    | (exfalso; omega)
    | (replace hA := hA.rw 33 (v' := .bool true) rfl (vb_true hc12)
       refine cd_cond_t hA rfl ?_
       refine wp_skip ?_
       refine xt_norm ?_
       refine wp_seq ?_
       refine wp_block ?_
       refine wp_seq ?_
       refine wp_region_lit ?_
       refine st_run tbOk 1 hA (e' := (34, .pointer (some ⟨b2, 0, none⟩)) :: _) rfl ?_; clear hA; intro a hA
       refine st_call0 hA rfl rfl rfl isfn8 rfl rfl (by decide) (tick1_n hS hM (by omega) (by omega) (by omega)) ?_
       clear hA hS; rintro v16 w14 a ⟨L13, C17, hO17, hM15, hS⟩ hA
       obtain ⟨A18, c19, rfl, hmc19, hxc19⟩ := hO17.open'
       refine st_run tbOk 2 hA (e' := (37, .bool false) :: (36, .int .i64 0) :: _) rfl ?_; clear hA; intro a hA
       refine wpList_nil ?_
       replace hA := hA.sel [7, 8, 10, 31, 32, 37] (e' := [(7, .pointer (some ⟨b2, 0, none⟩)), (8, .int .i64 ((2 + f : Nat) : Int)), (10, .int .i64 ((1 + s : Nat) : Int)), (31, .int .i64 ((v : Nat) : Int)), (32, .int .i64 ((j : Nat) : Int)), (37, .bool false)]) rfl
       refine xt_norm ?_
       refine cd_cond_f hA rfl ?_
       refine wp_skip ?_
       refine xb_norm ?_
       refine xt_norm ?_
       refine wp_region_lit ?_
       refine st_run tbOk 1 hA (e' := (38, .int .i64 (IntKind.i64.wrap (((j : Nat) : Int) + 1))) :: _) rfl ?_; clear hA; intro a hA
       replace hA := hA.rw 38 (v' := .int .i64 ((j + 1 : Nat) : Int)) rfl (wr64 (by omega) (by omega) (by omega))
       refine st_run tbOk 1 hA (e' := (32, .int .i64 ((j + 1 : Nat) : Int)) :: _) rfl ?_; clear hA; intro a hA
       refine wpList_nil ?_
       replace hA := hA.sel [7, 8, 10, 31, 32] (e' := [(7, .pointer (some ⟨b2, 0, none⟩)), (8, .int .i64 ((2 + f : Nat) : Int)), (10, .int .i64 ((1 + s : Nat) : Int)), (31, .int .i64 ((v : Nat) : Int)), (32, .int .i64 ((j + 1 : Nat) : Int))]) rfl
       have hM20 : XR b2 (((j + 1 : Nat) : Int)) (one 3 ((2 + f : Nat) : Int) ((j + 1 : Nat) : Int)) L13 := (by rw [show ((j + 1 : Nat) : Int) = ((j : Nat) : Int) + 1 by omega]; exact hM15)
       replace hS := hS.drop1
       exact lp_next _ (by omega) ⟨(j + 1), L13, rfl, (hA.sel [7, 8, 10, 31, 32] rfl), hS, by omega, hM20⟩)
  · first
    | (exfalso; omega)
    | (replace hA := hA.rw 33 (v' := .bool false) rfl (vb_false hc12)
       refine cd_cond_f hA rfl ?_
       refine wp_exit ?_
       refine xt_exit ?_
       refine xt_exit ?_
       refine cd_exit_eq ?_
       refine xt_norm ?_
       refine wp_seq ?_
       refine wp_seq ?_
       refine wp_region_lit ?_
       refine st_run tbOk 2 hA (e' := (40, .int .i64 ((1 + s : Nat) : Int)) :: (39, .pointer (some ⟨b2, 0, none⟩)) :: _) rfl ?_; clear hA; intro a hA
       refine st_call0 hA rfl rfl rfl isfn7 rfl rfl (by decide) (set_ok7 hS hM 3 ((1 + s : Nat) : Int) (by omega) (by omega) (by rw [one_drop]; decide) (by have := one_len 3 ((2 + f : Nat) : Int) ((j : Nat) : Int); omega) (by omega) (by omega)) ?_
       clear hA hS; rintro v w22 a ⟨L21, hM23, rfl, hS⟩ hA
       refine st_run tbOk 1 hA (e' := (42, .bool false) :: _) rfl ?_; clear hA; intro a hA
       refine wpList_nil ?_
       replace hA := hA.sel [7, 8, 10, 42] (e' := [(7, .pointer (some ⟨b2, 0, none⟩)), (8, .int .i64 ((2 + f : Nat) : Int)), (10, .int .i64 ((1 + s : Nat) : Int)), (42, .bool false)]) rfl
       refine xt_norm ?_
       refine cd_cond_f hA rfl ?_
       refine wp_skip ?_
       refine xt_norm ?_
       refine wp_seq ?_
       refine wp_seq ?_
       refine wp_region_lit ?_
       refine st_run tbOk 1 hA (e' := (11, .int .i64 1) :: _) rfl ?_; clear hA; intro a hA
       refine wpList_nil ?_
       replace hA := hA.sel [7, 8, 10, 11] (e' := [(7, .pointer (some ⟨b2, 0, none⟩)), (8, .int .i64 ((2 + f : Nat) : Int)), (10, .int .i64 ((1 + s : Nat) : Int)), (11, .int .i64 1)]) rfl
       refine xt_norm ?_
       refine wp_block ?_
       have hjv : j = v := by omega
       subst hjv
       have hM24 : XR b2 (((j + 0 : Nat) : Int)) (one 3 ((j + (1 + s) : Nat) : Int) ((j + 0 : Nat) : Int)) L21 := (by have hx := hM23; rw [one_drop] at hx; rw [one_in (by omega)]; simpa using hx)
       refine wp_loop_ghost (fun m a w => ∃ (k : Nat) (L : Chunk), m = 2 + f + (1 + s) - k ∧ Has a 58 [(7, .pointer (some ⟨b2, 0, none⟩)), (8, .int .i64 ((2 + f : Nat) : Int)), (10, .int .i64 ((1 + s : Nat) : Int)), (11, .int .i64 ((k + 1 : Nat) : Int))] ∧ St w0 w (L :: F) ∧ (k ≤ 2 + f + (1 + s)) ∧ (XR b2 ((j + k : Nat) : Int) (one 3 ((j + (1 + s) : Nat) : Int) ((j + k : Nat) : Int)) L)) (2 + f + (1 + s) - 0)
         ⟨0, L21, rfl, (hA.sel [7, 8, 10, 11] rfl), hS, Nat.zero_le _, hM24⟩ ?_
       clear hA hS; rintro m0 a w25 ⟨k, L, rfl, hA, hS, hk, hM⟩
       refine wp_seq ?_
       refine wp_seq ?_
       refine wp_region_lit ?_
       refine st_run tbOk 4 hA (e' := (46, .int .i64 (IntKind.i64.wrap (((2 + f : Nat) : Int) + ((1 + s : Nat) : Int)))) :: (45, .int .i64 ((1 + s : Nat) : Int)) :: (44, .int .i64 ((2 + f : Nat) : Int)) :: (43, .int .i64 ((k + 1 : Nat) : Int)) :: _) rfl ?_; clear hA; intro a hA
       replace hA := hA.rw 46 (v' := .int .i64 (((2 + f) + (1 + s) : Nat) : Int)) rfl (wr64 (by omega) (by omega) (by omega))
       refine st_run tbOk 1 hA (e' := (47, .bool (decide (((k + 1 : Nat) : Int) ≤ (((2 + f) + (1 + s) : Nat) : Int)))) :: _) rfl ?_; clear hA; intro a hA
       refine wpList_nil ?_
       replace hA := hA.sel [7, 8, 10, 11, 47] (e' := [(7, .pointer (some ⟨b2, 0, none⟩)), (8, .int .i64 ((2 + f : Nat) : Int)), (10, .int .i64 ((1 + s : Nat) : Int)), (11, .int .i64 ((k + 1 : Nat) : Int)), (47, .bool (decide (((k + 1 : Nat) : Int) ≤ (((2 + f) + (1 + s) : Nat) : Int))))]) rfl
       refine xt_norm ?_
       by_cases hc26 : ((k + 1 : Nat) : Int) ≤ (((2 + f) + (1 + s) : Nat) : Int)
       · first
         | (exfalso; omega)
         | (replace hA := hA.rw 47 (v' := .bool true) rfl (vb_true hc26)
            refine cd_cond_t hA rfl ?_
            refine wp_skip ?_
            refine xt_norm ?_
            refine wp_seq ?_
            refine wp_block ?_
            refine wp_seq ?_
            refine wp_region_lit ?_
            rcases Nat.lt_trichotomy (k + 1) (1 + s) with hks | hks | hks
            · refine st_run tbOk 1 hA (e' := (50, .pointer (some ⟨b2, 0, none⟩)) :: _) rfl ?_; clear hA; intro a hA
              refine st_call0 hA rfl rfl rfl isfn8 rfl rfl (by decide) (tick1_n hS hM (by omega) (by omega) (by omega)) ?_
              clear hA hS; rintro v30 w28 a ⟨L27, C31, hO31, hM29, hS⟩ hA
              obtain ⟨A32, c33, rfl, hmc33, hxc33⟩ := hO31.open'
              refine st_run tbOk 5 hA (e' := (56, .bool (((k + 1 : Nat) : Int) == ((1 + s : Nat) : Int))) :: (55, .int .i64 ((1 + s : Nat) : Int)) :: (54, .int .i64 ((k + 1 : Nat) : Int)) :: (53, .bool false) :: (52, .int .i64 0) :: _) rfl ?_; clear hA; intro a hA
              by_cases hc34 : ((k + 1 : Nat) : Int) = ((1 + s : Nat) : Int)
              · first
                | (exfalso; omega)
                | (replace hA := hA.rw 56 (v' := .bool true) rfl (vb_eq_t hc34)
                   refine st_run tbOk 1 hA (e' := (57, .bool true) :: _) rfl ?_; clear hA; intro a hA
                   refine wpList_nil ?_
                   replace hA := hA.sel [7, 8, 10, 11, 57] (e' := [(7, .pointer (some ⟨b2, 0, none⟩)), (8, .int .i64 ((2 + f : Nat) : Int)), (10, .int .i64 ((1 + s : Nat) : Int)), (11, .int .i64 ((k + 1 : Nat) : Int)), (57, .bool true)]) rfl
                   refine xt_norm ?_
                   refine cd_cond_t hA rfl ?_
                   refine wp_seq ?_
                   refine wp_region_lit ?_
                   refine st_run tbOk 1 hA (e' := (6, .bool false) :: _) rfl ?_; clear hA; intro a hA
                   refine wpList_nil ?_
                   replace hA := hA.sel [6] (e' := [(6, .bool false)]) rfl
                   refine xt_norm ?_
                   refine wp_ret (xb_ret (xt_ret (xt_ret (xb_ret (xt_ret ?_)))))
                   refine ret1 (fn := Try.f3) hA rfl rfl ?_
                   exfalso; omega)
              · first
                | (exfalso; omega)
                | (replace hA := hA.rw 56 (v' := .bool false) rfl (vb_eq_f hc34)
                   refine st_run tbOk 1 hA (e' := (57, .bool false) :: _) rfl ?_; clear hA; intro a hA
                   refine wpList_nil ?_
                   replace hA := hA.sel [7, 8, 10, 11, 57] (e' := [(7, .pointer (some ⟨b2, 0, none⟩)), (8, .int .i64 ((2 + f : Nat) : Int)), (10, .int .i64 ((1 + s : Nat) : Int)), (11, .int .i64 ((k + 1 : Nat) : Int)), (57, .bool false)]) rfl
                   refine xt_norm ?_
                   refine cd_cond_f hA rfl ?_
                   refine wp_skip ?_
                   refine xb_norm ?_
                   refine xt_norm ?_
                   refine wp_region_lit ?_
                   refine st_run tbOk 2 hA (e' := (49, .int .i64 (IntKind.i64.wrap (((k + 1 : Nat) : Int) + 1))) :: (48, .int .i64 ((k + 1 : Nat) : Int)) :: _) rfl ?_; clear hA; intro a hA
                   replace hA := hA.rw 49 (v' := .int .i64 (((k + 1) + 1 : Nat) : Int)) rfl (wr64 (by omega) (by omega) (by omega))
                   refine st_run tbOk 1 hA (e' := (11, .int .i64 (((k + 1) + 1 : Nat) : Int)) :: _) rfl ?_; clear hA; intro a hA
                   refine wpList_nil ?_
                   replace hA := hA.sel [7, 8, 10, 11] (e' := [(7, .pointer (some ⟨b2, 0, none⟩)), (8, .int .i64 ((2 + f : Nat) : Int)), (10, .int .i64 ((1 + s : Nat) : Int)), (11, .int .i64 (((k + 1) + 1 : Nat) : Int))]) rfl
                   have hM35 : XR b2 (((j + (k + 1) : Nat) : Int)) (one 3 ((j + (1 + s) : Nat) : Int) ((j + (k + 1) : Nat) : Int)) L27 := (by rw [show ((j + (k + 1) : Nat) : Int) = ((j + k : Nat) : Int) + 1 by omega]; exact hM29)
                   replace hS := hS.drop1
                   exact lp_next _ (by omega) ⟨(k + 1), L27, rfl, (hA.sel [7, 8, 10, 11] rfl), hS, by omega, hM35⟩)
            · refine st_run tbOk 1 hA (e' := (50, .pointer (some ⟨b2, 0, none⟩)) :: _) rfl ?_; clear hA; intro a hA
              refine st_call0 hA rfl rfl rfl isfn8 rfl rfl (by decide) (tick1_y hS hM (by omega) (by omega) (by omega)) ?_
              clear hA hS; rintro v39 w37 a ⟨L36, C40, hO40, hM38, hS⟩ hA
              obtain ⟨A41, c42, rfl, hmc42, hxc42⟩ := hO40.open'
              refine st_run tbOk 5 hA (e' := (56, .bool (((k + 1 : Nat) : Int) == ((1 + s : Nat) : Int))) :: (55, .int .i64 ((1 + s : Nat) : Int)) :: (54, .int .i64 ((k + 1 : Nat) : Int)) :: (53, .bool true) :: (52, .int .i64 1) :: _) rfl ?_; clear hA; intro a hA
              by_cases hc43 : ((k + 1 : Nat) : Int) = ((1 + s : Nat) : Int)
              · first
                | (exfalso; omega)
                | (replace hA := hA.rw 56 (v' := .bool true) rfl (vb_eq_t hc43)
                   refine st_run tbOk 1 hA (e' := (57, .bool false) :: _) rfl ?_; clear hA; intro a hA
                   refine wpList_nil ?_
                   replace hA := hA.sel [7, 8, 10, 11, 57] (e' := [(7, .pointer (some ⟨b2, 0, none⟩)), (8, .int .i64 ((2 + f : Nat) : Int)), (10, .int .i64 ((1 + s : Nat) : Int)), (11, .int .i64 ((k + 1 : Nat) : Int)), (57, .bool false)]) rfl
                   refine xt_norm ?_
                   refine cd_cond_f hA rfl ?_
                   refine wp_skip ?_
                   refine xb_norm ?_
                   refine xt_norm ?_
                   refine wp_region_lit ?_
                   refine st_run tbOk 2 hA (e' := (49, .int .i64 (IntKind.i64.wrap (((k + 1 : Nat) : Int) + 1))) :: (48, .int .i64 ((k + 1 : Nat) : Int)) :: _) rfl ?_; clear hA; intro a hA
                   replace hA := hA.rw 49 (v' := .int .i64 (((k + 1) + 1 : Nat) : Int)) rfl (wr64 (by omega) (by omega) (by omega))
                   refine st_run tbOk 1 hA (e' := (11, .int .i64 (((k + 1) + 1 : Nat) : Int)) :: _) rfl ?_; clear hA; intro a hA
                   refine wpList_nil ?_
                   replace hA := hA.sel [7, 8, 10, 11] (e' := [(7, .pointer (some ⟨b2, 0, none⟩)), (8, .int .i64 ((2 + f : Nat) : Int)), (10, .int .i64 ((1 + s : Nat) : Int)), (11, .int .i64 (((k + 1) + 1 : Nat) : Int))]) rfl
                   have hM44 : XR b2 (((j + (k + 1) : Nat) : Int)) (one 3 ((j + (1 + s) : Nat) : Int) ((j + (k + 1) : Nat) : Int)) L36 := (by rw [show ((j + (k + 1) : Nat) : Int) = ((j + k : Nat) : Int) + 1 by omega]; exact hM38)
                   replace hS := hS.drop1
                   exact lp_next _ (by omega) ⟨(k + 1), L36, rfl, (hA.sel [7, 8, 10, 11] rfl), hS, by omega, hM44⟩)
              · first
                | (exfalso; omega)
                | (replace hA := hA.rw 56 (v' := .bool false) rfl (vb_eq_f hc43)
                   refine st_run tbOk 1 hA (e' := (57, .bool true) :: _) rfl ?_; clear hA; intro a hA
                   refine wpList_nil ?_
                   replace hA := hA.sel [7, 8, 10, 11, 57] (e' := [(7, .pointer (some ⟨b2, 0, none⟩)), (8, .int .i64 ((2 + f : Nat) : Int)), (10, .int .i64 ((1 + s : Nat) : Int)), (11, .int .i64 ((k + 1 : Nat) : Int)), (57, .bool true)]) rfl
                   refine xt_norm ?_
                   refine cd_cond_t hA rfl ?_
                   refine wp_seq ?_
                   refine wp_region_lit ?_
                   refine st_run tbOk 1 hA (e' := (6, .bool false) :: _) rfl ?_; clear hA; intro a hA
                   refine wpList_nil ?_
                   replace hA := hA.sel [6] (e' := [(6, .bool false)]) rfl
                   refine xt_norm ?_
                   refine wp_ret (xb_ret (xt_ret (xt_ret (xb_ret (xt_ret ?_)))))
                   refine ret1 (fn := Try.f3) hA rfl rfl ?_
                   exfalso; omega)
            · refine st_run tbOk 1 hA (e' := (50, .pointer (some ⟨b2, 0, none⟩)) :: _) rfl ?_; clear hA; intro a hA
              refine st_call0 hA rfl rfl rfl isfn8 rfl rfl (by decide) (tick1_n hS hM (by omega) (by omega) (by omega)) ?_
              clear hA hS; rintro v48 w46 a ⟨L45, C49, hO49, hM47, hS⟩ hA
              obtain ⟨A50, c51, rfl, hmc51, hxc51⟩ := hO49.open'
              refine st_run tbOk 5 hA (e' := (56, .bool (((k + 1 : Nat) : Int) == ((1 + s : Nat) : Int))) :: (55, .int .i64 ((1 + s : Nat) : Int)) :: (54, .int .i64 ((k + 1 : Nat) : Int)) :: (53, .bool false) :: (52, .int .i64 0) :: _) rfl ?_; clear hA; intro a hA
              by_cases hc52 : ((k + 1 : Nat) : Int) = ((1 + s : Nat) : Int)
              · first
                | (exfalso; omega)
                | (replace hA := hA.rw 56 (v' := .bool true) rfl (vb_eq_t hc52)
                   refine st_run tbOk 1 hA (e' := (57, .bool true) :: _) rfl ?_; clear hA; intro a hA
                   refine wpList_nil ?_
                   replace hA := hA.sel [7, 8, 10, 11, 57] (e' := [(7, .pointer (some ⟨b2, 0, none⟩)), (8, .int .i64 ((2 + f : Nat) : Int)), (10, .int .i64 ((1 + s : Nat) : Int)), (11, .int .i64 ((k + 1 : Nat) : Int)), (57, .bool true)]) rfl
                   refine xt_norm ?_
                   refine cd_cond_t hA rfl ?_
                   refine wp_seq ?_
                   refine wp_region_lit ?_
                   refine st_run tbOk 1 hA (e' := (6, .bool false) :: _) rfl ?_; clear hA; intro a hA
                   refine wpList_nil ?_
                   replace hA := hA.sel [6] (e' := [(6, .bool false)]) rfl
                   refine xt_norm ?_
                   refine wp_ret (xb_ret (xt_ret (xt_ret (xb_ret (xt_ret ?_)))))
                   refine ret1 (fn := Try.f3) hA rfl rfl ?_
                   exfalso; omega)
              · first
                | (exfalso; omega)
                | (replace hA := hA.rw 56 (v' := .bool false) rfl (vb_eq_f hc52)
                   refine st_run tbOk 1 hA (e' := (57, .bool false) :: _) rfl ?_; clear hA; intro a hA
                   refine wpList_nil ?_
                   replace hA := hA.sel [7, 8, 10, 11, 57] (e' := [(7, .pointer (some ⟨b2, 0, none⟩)), (8, .int .i64 ((2 + f : Nat) : Int)), (10, .int .i64 ((1 + s : Nat) : Int)), (11, .int .i64 ((k + 1 : Nat) : Int)), (57, .bool false)]) rfl
                   refine xt_norm ?_
                   refine cd_cond_f hA rfl ?_
                   refine wp_skip ?_
                   refine xb_norm ?_
                   refine xt_norm ?_
                   refine wp_region_lit ?_
                   refine st_run tbOk 2 hA (e' := (49, .int .i64 (IntKind.i64.wrap (((k + 1 : Nat) : Int) + 1))) :: (48, .int .i64 ((k + 1 : Nat) : Int)) :: _) rfl ?_; clear hA; intro a hA
                   replace hA := hA.rw 49 (v' := .int .i64 (((k + 1) + 1 : Nat) : Int)) rfl (wr64 (by omega) (by omega) (by omega))
                   refine st_run tbOk 1 hA (e' := (11, .int .i64 (((k + 1) + 1 : Nat) : Int)) :: _) rfl ?_; clear hA; intro a hA
                   refine wpList_nil ?_
                   replace hA := hA.sel [7, 8, 10, 11] (e' := [(7, .pointer (some ⟨b2, 0, none⟩)), (8, .int .i64 ((2 + f : Nat) : Int)), (10, .int .i64 ((1 + s : Nat) : Int)), (11, .int .i64 (((k + 1) + 1 : Nat) : Int))]) rfl
                   have hM53 : XR b2 (((j + (k + 1) : Nat) : Int)) (one 3 ((j + (1 + s) : Nat) : Int) ((j + (k + 1) : Nat) : Int)) L45 := (by rw [show ((j + (k + 1) : Nat) : Int) = ((j + k : Nat) : Int) + 1 by omega]; exact hM47)
                   replace hS := hS.drop1
                   exact lp_next _ (by omega) ⟨(k + 1), L45, rfl, (hA.sel [7, 8, 10, 11] rfl), hS, by omega, hM53⟩))
       · first
         | (exfalso; omega)
         | (replace hA := hA.rw 47 (v' := .bool false) rfl (vb_false hc26)
            refine cd_cond_f hA rfl ?_
            refine wp_exit ?_
            refine xt_exit ?_
            refine xt_exit ?_
            refine cd_exit_eq ?_
            refine xt_norm ?_
            refine wp_seq ?_
            refine wp_region_lit ?_
            refine st_run tbOk 1 hA (e' := (6, .bool true) :: _) rfl ?_; clear hA; intro a hA
            refine wpList_nil ?_
            replace hA := hA.sel [6] (e' := [(6, .bool true)]) rfl
            refine xt_norm ?_
            refine wp_ret ?_
            refine ret1 (fn := Try.f3) hA rfl rfl ?_
            replace hS := hS.drop1
            exact ⟨rfl, hS⟩))

theorem left1_in {w0 w : World} {F : List Chunk} {L : Chunk} {b : Nat} {id a j : Int} (hS : St w0 w (L :: F)) (hM : XR b j (one id a j) L) (h0 : 0 ≤ j) (h1 : j ≤ 1000000000) (h2 : 0 ≤ a) (h3 : a ≤ 1000000000) (h : j < a) :
    Ret Try.prog 11 #[.pointer (some ⟨b, 0, none⟩), .int .i64 id] w (fun v w' => ∃ L', XR b j (one id a j) L' ∧ v = .tuple #[.int .i64 (a - j), .bool true] ∧ St w0 w' (L' :: F)) := by
  refine (leftT11 hS hM id (fun x hx => by rw [one_in h] at hx; rw [List.mem_singleton.1 hx]; omega)).mono ?_
  rintro v w' ⟨L', hM', rfl, hS'⟩
  exact ⟨L', hM', by rw [left_in h], hS'⟩
theorem left1_out {w0 w : World} {F : List Chunk} {L : Chunk} {b : Nat} {id a j : Int} (hS : St w0 w (L :: F)) (hM : XR b j (one id a j) L) (h : ¬ j < a) :
    Ret Try.prog 11 #[.pointer (some ⟨b, 0, none⟩), .int .i64 id] w (fun v w' => ∃ L', XR b j (one id a j) L' ∧ v = .tuple #[.int .i64 0, .bool false] ∧ St w0 w' (L' :: F)) := by
  refine (leftT11 hS hM id (fun x hx => by rw [one_out h] at hx; simp at hx)).mono ?_
  rintro v w' ⟨L', hM', rfl, hS'⟩
  exact ⟨L', hM', by rw [left_out h], hS'⟩
theorem cancel1_out {w0 w : World} {F : List Chunk} {L : Chunk} {b : Nat} {id a j : Int} (hS : St w0 w (L :: F)) (hM : XR b j (one id a j) L) (h : ¬ j < a) :
    Ret Try.prog 9 #[.pointer (some ⟨b, 0, none⟩), .int .i64 id] w (fun v w' => ∃ L', XR b j [] L' ∧ v = .bool false ∧ St w0 w' (L' :: F)) := by
  rw [one_out h] at hM
  refine (cancel9 hS hM id).mono ?_
  rintro v w' ⟨L', hM', rfl, hS'⟩
  exact ⟨L', hM', by rfl, hS'⟩

theorem rings5 {w0 w : World} {F : List Chunk} (hS : St w0 w F) (id a1 a2 : Int) (h1 : 0 ≤ a1) (hb1 : a1 < 256) (h2 : 0 ≤ a2) (hb2 : a2 < 256) :
    Ret Try.prog 5 #[.int .i64 id, .int .u8 a1, .int .u8 a2] w (fun v w' => v = .bool true ∧ St w0 w' F) := by
  obtain ⟨f, rfl⟩ := Int.eq_ofNat_of_zero_le h1
  obtain ⟨g, rfl⟩ := Int.eq_ofNat_of_zero_le h2
  refine enter (vs := [.int .i64 id, .int .u8 ((f : Nat) : Int), .int .u8 ((g : Nat) : Int)]) 89 Try.func5 rfl rfl (by simp) ?_; intro a hA
  refine wp_seq ?_
  refine wp_region_lit ?_
  refine st_run tbOk 1 hA (e' := (6, .bool false) :: _) rfl ?_; clear hA; intro a hA
  refine wpList_nil ?_
  replace hA := hA.sel [0, 1, 2] (e' := [(0, .int .i64 id), (1, .int .u8 ((f : Nat) : Int)), (2, .int .u8 ((g : Nat) : Int))]) rfl
  refine xt_norm ?_
  refine wp_seq ?_
  refine wp_seq ?_
  refine wp_region_lit ?_
  refine st_call0 hA rfl rfl rfl isfn6 rfl rfl (by decide) (awake6 hS) ?_
  clear hA hS; rintro v w1 a ⟨rfl, hS⟩ hA
  refine st_run tbOk 1 hA (e' := (14, .bool false) :: _) rfl ?_; clear hA; intro a hA
  refine wpList_nil ?_
  replace hA := hA.sel [0, 1, 2, 14] (e' := [(0, .int .i64 id), (1, .int .u8 ((f : Nat) : Int)), (2, .int .u8 ((g : Nat) : Int)), (14, .bool false)]) rfl
  refine xt_norm ?_
  refine cd_cond_f hA rfl ?_
  refine wp_skip ?_
  refine xt_norm ?_
  refine wp_seq ?_
  refine wp_region_lit ?_
  refine st_run tbOk 1 hA (e' := (15, .agg #[.int .i64 0, .slice none 0 0]) :: _) rfl ?_; clear hA; intro a hA
  refine st_box hA hS [.int .i64 0, .slice none 0 0] rfl rfl rfl rfl rfl (by decide) ?_; clear hA hS; intro b2 w3 a hS hA
  obtain ⟨L4, hM5, hS⟩ : ∃ Z, XR b2 0 [] Z ∧ St w0 w3 (Z :: F) := ⟨_, XR.new _, hS⟩
  refine st_run tbOk 1 hA (e' := (7, .pointer (some ⟨b2, 0, none⟩)) :: _) rfl ?_; clear hA; intro a hA
  refine wpList_nil ?_
  replace hA := hA.sel [0, 1, 2, 7] (e' := [(0, .int .i64 id), (1, .int .u8 ((f : Nat) : Int)), (2, .int .u8 ((g : Nat) : Int)), (7, .pointer (some ⟨b2, 0, none⟩))]) rfl
  refine xt_norm ?_
  refine wp_seq ?_
  refine wp_region_lit ?_
  refine st_run tbOk 2 hA (e' := (18, .int .i64 (IntKind.i64.wrap ((f : Nat) : Int))) :: (17, .int .u8 ((f : Nat) : Int)) :: _) rfl ?_; clear hA; intro a hA
  replace hA := hA.rw 18 (v' := .int .i64 ((f : Nat) : Int)) rfl (wr64 (by rfl) (by omega) (by omega))
  refine st_run tbOk 1 hA (e' := (19, .int .i64 (IntKind.i64.wrap (1 + ((f : Nat) : Int)))) :: _) rfl ?_; clear hA; intro a hA
  replace hA := hA.rw 19 (v' := .int .i64 ((1 + f : Nat) : Int)) rfl (wr64 (by omega) (by omega) (by omega))
  refine st_run tbOk 1 hA (e' := (8, .int .i64 ((1 + f : Nat) : Int)) :: _) rfl ?_; clear hA; intro a hA
  refine wpList_nil ?_
  replace hA := hA.sel [0, 2, 7, 8] (e' := [(0, .int .i64 id), (2, .int .u8 ((g : Nat) : Int)), (7, .pointer (some ⟨b2, 0, none⟩)), (8, .int .i64 ((1 + f : Nat) : Int))]) rfl
  refine xt_norm ?_
  refine wp_seq ?_
  refine wp_seq ?_
  refine wp_region_lit ?_
  refine st_run tbOk 3 hA (e' := (22, .int .i64 ((1 + f : Nat) : Int)) :: (21, .int .i64 id) :: (20, .pointer (some ⟨b2, 0, none⟩)) :: _) rfl ?_; clear hA; intro a hA
  refine st_call0 hA rfl rfl rfl isfn7 rfl rfl (by decide) (set_ok7 hS hM5 id ((1 + f : Nat) : Int) (by omega) (by omega) (by first | decide | simp) (by decide) (by decide) (by decide)) ?_
  clear hA hS; rintro v w7 a ⟨L6, hM8, rfl, hS⟩ hA
  refine st_run tbOk 1 hA (e' := (24, .bool false) :: _) rfl ?_; clear hA; intro a hA
  refine wpList_nil ?_
  replace hA := hA.sel [0, 2, 7, 8, 24] (e' := [(0, .int .i64 id), (2, .int .u8 ((g : Nat) : Int)), (7, .pointer (some ⟨b2, 0, none⟩)), (8, .int .i64 ((1 + f : Nat) : Int)), (24, .bool false)]) rfl
  refine xt_norm ?_
  refine cd_cond_f hA rfl ?_
  refine wp_skip ?_
  refine xt_norm ?_
  refine wp_seq ?_
  refine wp_seq ?_
  refine wp_region_lit ?_
  refine st_run tbOk 1 hA (e' := (9, .int .i64 1) :: _) rfl ?_; clear hA; intro a hA
  refine wpList_nil ?_
  replace hA := hA.sel [0, 2, 7, 8, 9] (e' := [(0, .int .i64 id), (2, .int .u8 ((g : Nat) : Int)), (7, .pointer (some ⟨b2, 0, none⟩)), (8, .int .i64 ((1 + f : Nat) : Int)), (9, .int .i64 1)]) rfl
  refine xt_norm ?_
  refine wp_block ?_
  have hM9 : XR b2 (((0 : Nat) : Int)) (one id ((1 + f : Nat) : Int) ((0 : Nat) : Int)) L6 := (by rw [one_in (by omega)]; simpa using hM8)
  refine wp_loop_ghost (fun m a w => ∃ (k : Nat) (L : Chunk), m = 1 + f + g % 20 - k ∧ Has a 89 [(0, .int .i64 id), (2, .int .u8 ((g : Nat) : Int)), (7, .pointer (some ⟨b2, 0, none⟩)), (8, .int .i64 ((1 + f : Nat) : Int)), (9, .int .i64 ((k + 1 : Nat) : Int))] ∧ St w0 w (L :: F) ∧ (k ≤ 1 + f + g % 20) ∧ (XR b2 ((k : Nat) : Int) (one id ((1 + f : Nat) : Int) ((k : Nat) : Int)) L)) (1 + f + g % 20 - 0)
    ⟨0, L6, rfl, (hA.sel [0, 2, 7, 8, 9] rfl), hS, Nat.zero_le _, hM9⟩ ?_
  clear hA hS; rintro m0 a w10 ⟨k, L, rfl, hA, hS, hk, hM⟩
  refine wp_seq ?_
  refine wp_seq ?_
  refine wp_region_lit ?_
  refine st_run tbOk 4 hA (e' := (28, .int .u8 (((g : Nat) : Int).tmod 20)) :: (27, .int .u8 ((g : Nat) : Int)) :: (26, .int .i64 ((1 + f : Nat) : Int)) :: (25, .int .i64 ((k + 1 : Nat) : Int)) :: _) rfl ?_; clear hA; intro a hA
  replace hA := hA.rw 28 (v' := .int .u8 ((g % 20 : Nat) : Int)) rfl (vint (Int.ofNat_tmod _ _).symm)
  refine st_run tbOk 1 hA (e' := (29, .int .i64 (IntKind.i64.wrap ((g % 20 : Nat) : Int))) :: _) rfl ?_; clear hA; intro a hA
  replace hA := hA.rw 29 (v' := .int .i64 ((g % 20 : Nat) : Int)) rfl (wr64 (by rfl) (by omega) (by omega))
  refine st_run tbOk 1 hA (e' := (30, .int .i64 (IntKind.i64.wrap (((1 + f : Nat) : Int) + ((g % 20 : Nat) : Int)))) :: _) rfl ?_; clear hA; intro a hA
  replace hA := hA.rw 30 (v' := .int .i64 (((1 + f) + (g % 20) : Nat) : Int)) rfl (wr64 (by omega) (by omega) (by omega))
  refine st_run tbOk 1 hA (e' := (31, .bool (decide (((k + 1 : Nat) : Int) ≤ (((1 + f) + (g % 20) : Nat) : Int)))) :: _) rfl ?_; clear hA; intro a hA
  refine wpList_nil ?_
  replace hA := hA.sel [0, 2, 7, 8, 9, 31] (e' := [(0, .int .i64 id), (2, .int .u8 ((g : Nat) : Int)), (7, .pointer (some ⟨b2, 0, none⟩)), (8, .int .i64 ((1 + f : Nat) : Int)), (9, .int .i64 ((k + 1 : Nat) : Int)), (31, .bool (decide (((k + 1 : Nat) : Int) ≤ (((1 + f) + (g % 20) : Nat) : Int))))]) rfl
  refine xt_norm ?_
  by_cases hc11 : ((k + 1 : Nat) : Int) ≤ (((1 + f) + (g % 20) : Nat) : Int)
  · first
    | (exfalso; omega)
    | (replace hA := hA.rw 31 (v' := .bool true) rfl (vb_true hc11)
       refine cd_cond_t hA rfl ?_
       refine wp_skip ?_
       refine xt_norm ?_
       refine wp_seq ?_
       refine wp_block ?_
       refine wp_seq ?_
       refine wp_region_lit ?_
       rcases Nat.lt_trichotomy (k + 1) (1 + f) with hks | hks | hks
       · refine st_run tbOk 1 hA (e' := (34, .pointer (some ⟨b2, 0, none⟩)) :: _) rfl ?_; clear hA; intro a hA
         refine st_call0 hA rfl rfl rfl isfn8 rfl rfl (by decide) (tick1_n hS hM (by omega) (by omega) (by omega)) ?_
         clear hA hS; rintro v15 w13 a ⟨L12, C16, hO16, hM14, hS⟩ hA
         obtain ⟨A17, c18, rfl, hmc18, hxc18⟩ := hO16.open'
         refine st_run tbOk 1 hA (e' := (10, .slice A17 0 c18) :: _) rfl ?_; clear hA; intro a hA
         refine wpList_nil ?_
         replace hA := hA.sel [0, 2, 7, 8, 9, 10] (e' := [(0, .int .i64 id), (2, .int .u8 ((g : Nat) : Int)), (7, .pointer (some ⟨b2, 0, none⟩)), (8, .int .i64 ((1 + f : Nat) : Int)), (9, .int .i64 ((k + 1 : Nat) : Int)), (10, .slice A17 0 c18)]) rfl
         refine xt_norm ?_
         refine wp_seq ?_
         refine wp_seq ?_
         refine wp_region_lit ?_
         refine st_run tbOk 4 hA (e' := (39, .bool (((k + 1 : Nat) : Int) == ((1 + f : Nat) : Int))) :: (38, .bool (((k + 1 : Nat) : Int) == ((1 + f : Nat) : Int))) :: (37, .int .i64 ((1 + f : Nat) : Int)) :: (36, .int .i64 ((k + 1 : Nat) : Int)) :: _) rfl ?_; clear hA; intro a hA
         by_cases hc19 : ((k + 1 : Nat) : Int) = ((1 + f : Nat) : Int)
         · first
           | (exfalso; omega)
           | (replace hA := hA.rw 38 (v' := .bool true) rfl (vb_eq_t hc19)
              replace hA := hA.rw 39 (v' := .bool true) rfl (vb_eq_t hc19)
              refine st_run tbOk 2 hA (e' := (41, .int .i64 id) :: (40, .slice A17 0 c18) :: _) rfl ?_; clear hA; intro a hA
              refine st_buildSlice tbOk hA hS [.int .i64 id] rfl rfl rfl rfl rfl (by decide) (by kernel_rfl) rfl rfl (by decide) ?_; clear hA hS; intro b20 w21 a hS hA
              refine st_call0 hA rfl rfl rfl isfn10 rfl rfl (by decide) (same10 hS (xs := ([] : List Int)) (ys := ([id] : List Int)) (RdS.own hO16 1 rfl) (RdS.own (Own.full (T := 3) (size := 1) (g := b20) (m := 1) rfl (by decide)) 0 rfl)) ?_
              clear hA hS; rintro v w22 a ⟨rfl, hS⟩ hA
              replace hA := hA.rw 43 (v' := .bool true) rfl (by simp)
              refine st_run tbOk 7 hA (e' := (50, .bool (((k + 1 : Nat) : Int) != ((1 + f : Nat) : Int))) :: (49, .bool (((k + 1 : Nat) : Int) != ((1 + f : Nat) : Int))) :: (48, .int .i64 ((1 + f : Nat) : Int)) :: (47, .int .i64 ((k + 1 : Nat) : Int)) :: (46, .bool false) :: (45, .bool false) :: (44, .bool false) :: _) rfl ?_; clear hA; intro a hA
              by_cases hc23 : ((k + 1 : Nat) : Int) = ((1 + f : Nat) : Int)
              · first
                | (exfalso; omega)
                | (replace hA := hA.rw 49 (v' := .bool false) rfl (vb_ne_f hc23)
                   replace hA := hA.rw 50 (v' := .bool false) rfl (vb_ne_f hc23)
                   refine st_run tbOk 5 hA (e' := (55, .bool false) :: (54, .bool false) :: (53, undef) :: (52, undef) :: (51, undef) :: _) rfl ?_; clear hA; intro a hA
                   refine wpList_nil ?_
                   replace hA := hA.sel [0, 2, 7, 8, 9, 55] (e' := [(0, .int .i64 id), (2, .int .u8 ((g : Nat) : Int)), (7, .pointer (some ⟨b2, 0, none⟩)), (8, .int .i64 ((1 + f : Nat) : Int)), (9, .int .i64 ((k + 1 : Nat) : Int)), (55, .bool false)]) rfl
                   refine xt_norm ?_
                   refine cd_cond_f hA rfl ?_
                   refine wp_skip ?_
                   refine xt_norm ?_
                   refine wp_seq ?_
                   refine wp_region_lit ?_
                   refine st_run tbOk 2 hA (e' := (58, .int .i64 id) :: (57, .pointer (some ⟨b2, 0, none⟩)) :: _) rfl ?_; clear hA; intro a hA
                   replace hS := hS.front 2 (C := L12) (L' := [(b20, rowO [.int .i64 id] 3)] :: C16 :: F) rfl rfl
                   refine st_call0 hA rfl rfl rfl isfn11 rfl rfl (by decide) (left1_in hS hM14 (by omega) (by omega) (by omega) (by omega) (by omega)) ?_
                   clear hA hS; rintro v w25 a ⟨L24, hM26, rfl, hS⟩ hA
                   refine st_run tbOk 5 hA (e' := (12, .bool true) :: (11, .int .i64 (((1 + f : Nat) : Int) - (((k : Nat) : Int) + 1))) :: (61, .bool true) :: (60, .int .i64 (((1 + f : Nat) : Int) - (((k : Nat) : Int) + 1))) :: (56, .tuple #[.int .i64 (((1 + f : Nat) : Int) - (((k : Nat) : Int) + 1)), .bool true]) :: _) rfl ?_; clear hA; intro a hA
                   refine wpList_nil ?_
                   replace hA := hA.sel [0, 2, 7, 8, 9, 11, 12] (e' := [(0, .int .i64 id), (2, .int .u8 ((g : Nat) : Int)), (7, .pointer (some ⟨b2, 0, none⟩)), (8, .int .i64 ((1 + f : Nat) : Int)), (9, .int .i64 ((k + 1 : Nat) : Int)), (11, .int .i64 (((1 + f : Nat) : Int) - (((k : Nat) : Int) + 1))), (12, .bool true)]) rfl
                   refine xt_norm ?_
                   refine wp_seq ?_
                   refine wp_region_lit ?_
                   refine st_run tbOk 4 hA (e' := (65, .bool (decide (((k + 1 : Nat) : Int) < ((1 + f : Nat) : Int)))) :: (64, .int .i64 ((1 + f : Nat) : Int)) :: (63, .int .i64 ((k + 1 : Nat) : Int)) :: (62, .bool true) :: _) rfl ?_; clear hA; intro a hA
                   by_cases hc27 : ((k + 1 : Nat) : Int) < ((1 + f : Nat) : Int)
                   · first
                     | (exfalso; omega)
                     | (replace hA := hA.rw 65 (v' := .bool true) rfl (vb_true hc27)
                        refine st_run tbOk 8 hA (e' := (73, .int .i64 (IntKind.i64.wrap (((1 + f : Nat) : Int) - ((k + 1 : Nat) : Int)))) :: (72, .int .i64 ((k + 1 : Nat) : Int)) :: (71, .int .i64 ((1 + f : Nat) : Int)) :: (70, .int .i64 (((1 + f : Nat) : Int) - (((k : Nat) : Int) + 1))) :: (69, .bool true) :: (68, .bool true) :: (67, .bool false) :: (66, .bool false) :: _) rfl ?_; clear hA; intro a hA
                        replace hA := hA.rw 73 (v' := .int .i64 (((1 + f : Nat) : Int) - ((k + 1 : Nat) : Int))) rfl (wr64 (by omega) (by omega) (by omega))
                        refine st_run tbOk 4 hA (e' := (77, .bool ((((1 + f : Nat) : Int) - (((k : Nat) : Int) + 1)) != (((1 + f : Nat) : Int) - ((k + 1 : Nat) : Int)))) :: (76, .bool ((((1 + f : Nat) : Int) - (((k : Nat) : Int) + 1)) != (((1 + f : Nat) : Int) - ((k + 1 : Nat) : Int)))) :: (75, .bool ((((1 + f : Nat) : Int) - (((k : Nat) : Int) + 1)) != (((1 + f : Nat) : Int) - ((k + 1 : Nat) : Int)))) :: (74, .bool ((((1 + f : Nat) : Int) - (((k : Nat) : Int) + 1)) != (((1 + f : Nat) : Int) - ((k + 1 : Nat) : Int)))) :: _) rfl ?_; clear hA; intro a hA
                        by_cases hc28 : ((1 + f : Nat) : Int) - (((k : Nat) : Int) + 1) = ((1 + f : Nat) : Int) - ((k + 1 : Nat) : Int)
                        · first
                          | (exfalso; omega)
                          | (replace hA := hA.rw 74 (v' := .bool false) rfl (vb_ne_f hc28)
                             replace hA := hA.rw 75 (v' := .bool false) rfl (vb_ne_f hc28)
                             replace hA := hA.rw 76 (v' := .bool false) rfl (vb_ne_f hc28)
                             replace hA := hA.rw 77 (v' := .bool false) rfl (vb_ne_f hc28)
                             refine st_run tbOk 7 hA (e' := (84, .bool false) :: (83, .bool false) :: (82, undef) :: (81, undef) :: (80, .bool false) :: (79, .bool false) :: (78, .bool true) :: _) rfl ?_; clear hA; intro a hA
                             refine wpList_nil ?_
                             replace hA := hA.sel [0, 2, 7, 8, 9, 84] (e' := [(0, .int .i64 id), (2, .int .u8 ((g : Nat) : Int)), (7, .pointer (some ⟨b2, 0, none⟩)), (8, .int .i64 ((1 + f : Nat) : Int)), (9, .int .i64 ((k + 1 : Nat) : Int)), (84, .bool false)]) rfl
                             refine xt_norm ?_
                             refine cd_cond_f hA rfl ?_
                             refine wp_skip ?_
                             refine xb_norm ?_
                             refine xt_norm ?_
                             refine wp_region_lit ?_
                             refine st_run tbOk 2 hA (e' := (33, .int .i64 (IntKind.i64.wrap (((k + 1 : Nat) : Int) + 1))) :: (32, .int .i64 ((k + 1 : Nat) : Int)) :: _) rfl ?_; clear hA; intro a hA
                             replace hA := hA.rw 33 (v' := .int .i64 (((k + 1) + 1 : Nat) : Int)) rfl (wr64 (by omega) (by omega) (by omega))
                             refine st_run tbOk 1 hA (e' := (9, .int .i64 (((k + 1) + 1 : Nat) : Int)) :: _) rfl ?_; clear hA; intro a hA
                             refine wpList_nil ?_
                             replace hA := hA.sel [0, 2, 7, 8, 9] (e' := [(0, .int .i64 id), (2, .int .u8 ((g : Nat) : Int)), (7, .pointer (some ⟨b2, 0, none⟩)), (8, .int .i64 ((1 + f : Nat) : Int)), (9, .int .i64 (((k + 1) + 1 : Nat) : Int))]) rfl
                             have hM29 : XR b2 (((k + 1 : Nat) : Int)) (one id ((1 + f : Nat) : Int) ((k + 1 : Nat) : Int)) L24 := (by rw [show ((k + 1 : Nat) : Int) = ((k : Nat) : Int) + 1 by omega]; exact hM26)
                             replace hS := hS.front 1 (C := [(b20, rowO [.int .i64 id] 3)]) (L' := L24 :: C16 :: F) rfl rfl
                             replace hS := hS.drop1
                             replace hS := hS.front 1 (C := C16) (L' := L24 :: F) rfl rfl
                             replace hS := hS.drop1
                             exact lp_next _ (by omega) ⟨(k + 1), L24, rfl, (hA.sel [0, 2, 7, 8, 9] rfl), hS, by omega, hM29⟩)
                        · first
                          | (exfalso; omega)
                          | (replace hA := hA.rw 74 (v' := .bool true) rfl (vb_ne_t hc28)
                             replace hA := hA.rw 75 (v' := .bool true) rfl (vb_ne_t hc28)
                             replace hA := hA.rw 76 (v' := .bool true) rfl (vb_ne_t hc28)
                             replace hA := hA.rw 77 (v' := .bool true) rfl (vb_ne_t hc28)
                             refine st_run tbOk 7 hA (e' := (84, .bool true) :: (83, undef) :: (82, undef) :: (81, undef) :: (80, undef) :: (79, undef) :: (78, undef) :: _) rfl ?_; clear hA; intro a hA
                             refine wpList_nil ?_
                             replace hA := hA.sel [0, 2, 7, 8, 9, 84] (e' := [(0, .int .i64 id), (2, .int .u8 ((g : Nat) : Int)), (7, .pointer (some ⟨b2, 0, none⟩)), (8, .int .i64 ((1 + f : Nat) : Int)), (9, .int .i64 ((k + 1 : Nat) : Int)), (84, .bool true)]) rfl
                             refine xt_norm ?_
                             refine cd_cond_t hA rfl ?_
                             refine wp_seq ?_
                             refine wp_region_lit ?_
                             refine st_run tbOk 1 hA (e' := (6, .bool false) :: _) rfl ?_; clear hA; intro a hA
                             refine wpList_nil ?_
                             replace hA := hA.sel [6] (e' := [(6, .bool false)]) rfl
                             refine xt_norm ?_
                             refine wp_ret (xb_ret (xt_ret (xt_ret (xb_ret (xt_ret ?_)))))
                             refine ret1 (fn := Try.f5) hA rfl rfl ?_
                             exfalso; omega))
                   · first
                     | (exfalso; omega)
                     | (replace hA := hA.rw 65 (v' := .bool false) rfl (vb_false hc27)
                        refine st_run tbOk 19 hA (e' := (84, .bool true) :: (83, undef) :: (82, undef) :: (81, undef) :: (80, undef) :: (79, undef) :: (78, undef) :: (77, .bool true) :: (76, .bool true) :: (75, undef) :: (74, undef) :: (73, undef) :: (72, undef) :: (71, undef) :: (70, undef) :: (69, undef) :: (68, undef) :: (67, .bool true) :: (66, .bool true) :: _) rfl ?_; clear hA; intro a hA
                        refine wpList_nil ?_
                        replace hA := hA.sel [0, 2, 7, 8, 9, 84] (e' := [(0, .int .i64 id), (2, .int .u8 ((g : Nat) : Int)), (7, .pointer (some ⟨b2, 0, none⟩)), (8, .int .i64 ((1 + f : Nat) : Int)), (9, .int .i64 ((k + 1 : Nat) : Int)), (84, .bool true)]) rfl
                        refine xt_norm ?_
                        refine cd_cond_t hA rfl ?_
                        refine wp_seq ?_
                        refine wp_region_lit ?_
                        refine st_run tbOk 1 hA (e' := (6, .bool false) :: _) rfl ?_; clear hA; intro a hA
                        refine wpList_nil ?_
                        replace hA := hA.sel [6] (e' := [(6, .bool false)]) rfl
                        refine xt_norm ?_
                        refine wp_ret (xb_ret (xt_ret (xt_ret (xb_ret (xt_ret ?_)))))
                        refine ret1 (fn := Try.f5) hA rfl rfl ?_
                        exfalso; omega))
              · first
                | (exfalso; omega)
                | (replace hA := hA.rw 49 (v' := .bool true) rfl (vb_ne_t hc23)
                   replace hA := hA.rw 50 (v' := .bool true) rfl (vb_ne_t hc23)
                   refine st_run tbOk 5 hA (e' := (55, .bool false) :: (54, .bool false) :: (53, .bool false) :: (52, .int .i64 0) :: (51, .slice A17 0 c18) :: _) rfl ?_; clear hA; intro a hA
                   refine wpList_nil ?_
                   replace hA := hA.sel [0, 2, 7, 8, 9, 55] (e' := [(0, .int .i64 id), (2, .int .u8 ((g : Nat) : Int)), (7, .pointer (some ⟨b2, 0, none⟩)), (8, .int .i64 ((1 + f : Nat) : Int)), (9, .int .i64 ((k + 1 : Nat) : Int)), (55, .bool false)]) rfl
                   refine xt_norm ?_
                   refine cd_cond_f hA rfl ?_
                   refine wp_skip ?_
                   refine xt_norm ?_
                   refine wp_seq ?_
                   refine wp_region_lit ?_
                   refine st_run tbOk 2 hA (e' := (58, .int .i64 id) :: (57, .pointer (some ⟨b2, 0, none⟩)) :: _) rfl ?_; clear hA; intro a hA
                   replace hS := hS.front 2 (C := L12) (L' := [(b20, rowO [.int .i64 id] 3)] :: C16 :: F) rfl rfl
                   refine st_call0 hA rfl rfl rfl isfn11 rfl rfl (by decide) (left1_in hS hM14 (by omega) (by omega) (by omega) (by omega) (by omega)) ?_
                   clear hA hS; rintro v w31 a ⟨L30, hM32, rfl, hS⟩ hA
                   refine st_run tbOk 5 hA (e' := (12, .bool true) :: (11, .int .i64 (((1 + f : Nat) : Int) - (((k : Nat) : Int) + 1))) :: (61, .bool true) :: (60, .int .i64 (((1 + f : Nat) : Int) - (((k : Nat) : Int) + 1))) :: (56, .tuple #[.int .i64 (((1 + f : Nat) : Int) - (((k : Nat) : Int) + 1)), .bool true]) :: _) rfl ?_; clear hA; intro a hA
                   refine wpList_nil ?_
                   replace hA := hA.sel [0, 2, 7, 8, 9, 11, 12] (e' := [(0, .int .i64 id), (2, .int .u8 ((g : Nat) : Int)), (7, .pointer (some ⟨b2, 0, none⟩)), (8, .int .i64 ((1 + f : Nat) : Int)), (9, .int .i64 ((k + 1 : Nat) : Int)), (11, .int .i64 (((1 + f : Nat) : Int) - (((k : Nat) : Int) + 1))), (12, .bool true)]) rfl
                   refine xt_norm ?_
                   refine wp_seq ?_
                   refine wp_region_lit ?_
                   refine st_run tbOk 4 hA (e' := (65, .bool (decide (((k + 1 : Nat) : Int) < ((1 + f : Nat) : Int)))) :: (64, .int .i64 ((1 + f : Nat) : Int)) :: (63, .int .i64 ((k + 1 : Nat) : Int)) :: (62, .bool true) :: _) rfl ?_; clear hA; intro a hA
                   by_cases hc33 : ((k + 1 : Nat) : Int) < ((1 + f : Nat) : Int)
                   · first
                     | (exfalso; omega)
                     | (replace hA := hA.rw 65 (v' := .bool true) rfl (vb_true hc33)
                        refine st_run tbOk 8 hA (e' := (73, .int .i64 (IntKind.i64.wrap (((1 + f : Nat) : Int) - ((k + 1 : Nat) : Int)))) :: (72, .int .i64 ((k + 1 : Nat) : Int)) :: (71, .int .i64 ((1 + f : Nat) : Int)) :: (70, .int .i64 (((1 + f : Nat) : Int) - (((k : Nat) : Int) + 1))) :: (69, .bool true) :: (68, .bool true) :: (67, .bool false) :: (66, .bool false) :: _) rfl ?_; clear hA; intro a hA
                        replace hA := hA.rw 73 (v' := .int .i64 (((1 + f : Nat) : Int) - ((k + 1 : Nat) : Int))) rfl (wr64 (by omega) (by omega) (by omega))
                        refine st_run tbOk 4 hA (e' := (77, .bool ((((1 + f : Nat) : Int) - (((k : Nat) : Int) + 1)) != (((1 + f : Nat) : Int) - ((k + 1 : Nat) : Int)))) :: (76, .bool ((((1 + f : Nat) : Int) - (((k : Nat) : Int) + 1)) != (((1 + f : Nat) : Int) - ((k + 1 : Nat) : Int)))) :: (75, .bool ((((1 + f : Nat) : Int) - (((k : Nat) : Int) + 1)) != (((1 + f : Nat) : Int) - ((k + 1 : Nat) : Int)))) :: (74, .bool ((((1 + f : Nat) : Int) - (((k : Nat) : Int) + 1)) != (((1 + f : Nat) : Int) - ((k + 1 : Nat) : Int)))) :: _) rfl ?_; clear hA; intro a hA
                        by_cases hc34 : ((1 + f : Nat) : Int) - (((k : Nat) : Int) + 1) = ((1 + f : Nat) : Int) - ((k + 1 : Nat) : Int)
                        · first
                          | (exfalso; omega)
                          | (replace hA := hA.rw 74 (v' := .bool false) rfl (vb_ne_f hc34)
                             replace hA := hA.rw 75 (v' := .bool false) rfl (vb_ne_f hc34)
                             replace hA := hA.rw 76 (v' := .bool false) rfl (vb_ne_f hc34)
                             replace hA := hA.rw 77 (v' := .bool false) rfl (vb_ne_f hc34)
                             refine st_run tbOk 7 hA (e' := (84, .bool false) :: (83, .bool false) :: (82, undef) :: (81, undef) :: (80, .bool false) :: (79, .bool false) :: (78, .bool true) :: _) rfl ?_; clear hA; intro a hA
                             refine wpList_nil ?_
                             replace hA := hA.sel [0, 2, 7, 8, 9, 84] (e' := [(0, .int .i64 id), (2, .int .u8 ((g : Nat) : Int)), (7, .pointer (some ⟨b2, 0, none⟩)), (8, .int .i64 ((1 + f : Nat) : Int)), (9, .int .i64 ((k + 1 : Nat) : Int)), (84, .bool false)]) rfl
                             refine xt_norm ?_
                             refine cd_cond_f hA rfl ?_
                             refine wp_skip ?_
                             refine xb_norm ?_
                             refine xt_norm ?_
                             refine wp_region_lit ?_
                             refine st_run tbOk 2 hA (e' := (33, .int .i64 (IntKind.i64.wrap (((k + 1 : Nat) : Int) + 1))) :: (32, .int .i64 ((k + 1 : Nat) : Int)) :: _) rfl ?_; clear hA; intro a hA
                             replace hA := hA.rw 33 (v' := .int .i64 (((k + 1) + 1 : Nat) : Int)) rfl (wr64 (by omega) (by omega) (by omega))
                             refine st_run tbOk 1 hA (e' := (9, .int .i64 (((k + 1) + 1 : Nat) : Int)) :: _) rfl ?_; clear hA; intro a hA
                             refine wpList_nil ?_
                             replace hA := hA.sel [0, 2, 7, 8, 9] (e' := [(0, .int .i64 id), (2, .int .u8 ((g : Nat) : Int)), (7, .pointer (some ⟨b2, 0, none⟩)), (8, .int .i64 ((1 + f : Nat) : Int)), (9, .int .i64 (((k + 1) + 1 : Nat) : Int))]) rfl
                             have hM35 : XR b2 (((k + 1 : Nat) : Int)) (one id ((1 + f : Nat) : Int) ((k + 1 : Nat) : Int)) L30 := (by rw [show ((k + 1 : Nat) : Int) = ((k : Nat) : Int) + 1 by omega]; exact hM32)
                             replace hS := hS.front 1 (C := [(b20, rowO [.int .i64 id] 3)]) (L' := L30 :: C16 :: F) rfl rfl
                             replace hS := hS.drop1
                             replace hS := hS.front 1 (C := C16) (L' := L30 :: F) rfl rfl
                             replace hS := hS.drop1
                             exact lp_next _ (by omega) ⟨(k + 1), L30, rfl, (hA.sel [0, 2, 7, 8, 9] rfl), hS, by omega, hM35⟩)
                        · first
                          | (exfalso; omega)
                          | (replace hA := hA.rw 74 (v' := .bool true) rfl (vb_ne_t hc34)
                             replace hA := hA.rw 75 (v' := .bool true) rfl (vb_ne_t hc34)
                             replace hA := hA.rw 76 (v' := .bool true) rfl (vb_ne_t hc34)
                             replace hA := hA.rw 77 (v' := .bool true) rfl (vb_ne_t hc34)
                             refine st_run tbOk 7 hA (e' := (84, .bool true) :: (83, undef) :: (82, undef) :: (81, undef) :: (80, undef) :: (79, undef) :: (78, undef) :: _) rfl ?_; clear hA; intro a hA
                             refine wpList_nil ?_
                             replace hA := hA.sel [0, 2, 7, 8, 9, 84] (e' := [(0, .int .i64 id), (2, .int .u8 ((g : Nat) : Int)), (7, .pointer (some ⟨b2, 0, none⟩)), (8, .int .i64 ((1 + f : Nat) : Int)), (9, .int .i64 ((k + 1 : Nat) : Int)), (84, .bool true)]) rfl
                             refine xt_norm ?_
                             refine cd_cond_t hA rfl ?_
                             refine wp_seq ?_
                             refine wp_region_lit ?_
                             refine st_run tbOk 1 hA (e' := (6, .bool false) :: _) rfl ?_; clear hA; intro a hA
                             refine wpList_nil ?_
                             replace hA := hA.sel [6] (e' := [(6, .bool false)]) rfl
                             refine xt_norm ?_
                             refine wp_ret (xb_ret (xt_ret (xt_ret (xb_ret (xt_ret ?_)))))
                             refine ret1 (fn := Try.f5) hA rfl rfl ?_
                             exfalso; omega))
                   · first
                     | (exfalso; omega)
                     | (replace hA := hA.rw 65 (v' := .bool false) rfl (vb_false hc33)
                        refine st_run tbOk 19 hA (e' := (84, .bool true) :: (83, undef) :: (82, undef) :: (81, undef) :: (80, undef) :: (79, undef) :: (78, undef) :: (77, .bool true) :: (76, .bool true) :: (75, undef) :: (74, undef) :: (73, undef) :: (72, undef) :: (71, undef) :: (70, undef) :: (69, undef) :: (68, undef) :: (67, .bool true) :: (66, .bool true) :: _) rfl ?_; clear hA; intro a hA
                        refine wpList_nil ?_
                        replace hA := hA.sel [0, 2, 7, 8, 9, 84] (e' := [(0, .int .i64 id), (2, .int .u8 ((g : Nat) : Int)), (7, .pointer (some ⟨b2, 0, none⟩)), (8, .int .i64 ((1 + f : Nat) : Int)), (9, .int .i64 ((k + 1 : Nat) : Int)), (84, .bool true)]) rfl
                        refine xt_norm ?_
                        refine cd_cond_t hA rfl ?_
                        refine wp_seq ?_
                        refine wp_region_lit ?_
                        refine st_run tbOk 1 hA (e' := (6, .bool false) :: _) rfl ?_; clear hA; intro a hA
                        refine wpList_nil ?_
                        replace hA := hA.sel [6] (e' := [(6, .bool false)]) rfl
                        refine xt_norm ?_
                        refine wp_ret (xb_ret (xt_ret (xt_ret (xb_ret (xt_ret ?_)))))
                        refine ret1 (fn := Try.f5) hA rfl rfl ?_
                        exfalso; omega)))
         · first
           | (exfalso; omega)
           | (replace hA := hA.rw 38 (v' := .bool false) rfl (vb_eq_f hc19)
              replace hA := hA.rw 39 (v' := .bool false) rfl (vb_eq_f hc19)
              refine st_run tbOk 11 hA (e' := (50, .bool (((k + 1 : Nat) : Int) != ((1 + f : Nat) : Int))) :: (49, .bool (((k + 1 : Nat) : Int) != ((1 + f : Nat) : Int))) :: (48, .int .i64 ((1 + f : Nat) : Int)) :: (47, .int .i64 ((k + 1 : Nat) : Int)) :: (46, .bool false) :: (45, .bool false) :: (44, undef) :: (43, undef) :: (42, undef) :: (41, undef) :: (40, undef) :: _) rfl ?_; clear hA; intro a hA
              by_cases hc36 : ((k + 1 : Nat) : Int) = ((1 + f : Nat) : Int)
              · first
                | (exfalso; omega)
                | (replace hA := hA.rw 49 (v' := .bool false) rfl (vb_ne_f hc36)
                   replace hA := hA.rw 50 (v' := .bool false) rfl (vb_ne_f hc36)
                   refine st_run tbOk 5 hA (e' := (55, .bool false) :: (54, .bool false) :: (53, undef) :: (52, undef) :: (51, undef) :: _) rfl ?_; clear hA; intro a hA
                   refine wpList_nil ?_
                   replace hA := hA.sel [0, 2, 7, 8, 9, 55] (e' := [(0, .int .i64 id), (2, .int .u8 ((g : Nat) : Int)), (7, .pointer (some ⟨b2, 0, none⟩)), (8, .int .i64 ((1 + f : Nat) : Int)), (9, .int .i64 ((k + 1 : Nat) : Int)), (55, .bool false)]) rfl
                   refine xt_norm ?_
                   refine cd_cond_f hA rfl ?_
                   refine wp_skip ?_
                   refine xt_norm ?_
                   refine wp_seq ?_
                   refine wp_region_lit ?_
                   refine st_run tbOk 2 hA (e' := (58, .int .i64 id) :: (57, .pointer (some ⟨b2, 0, none⟩)) :: _) rfl ?_; clear hA; intro a hA
                   replace hS := hS.front 1 (C := L12) (L' := C16 :: F) rfl rfl
                   refine st_call0 hA rfl rfl rfl isfn11 rfl rfl (by decide) (left1_in hS hM14 (by omega) (by omega) (by omega) (by omega) (by omega)) ?_
                   clear hA hS; rintro v w38 a ⟨L37, hM39, rfl, hS⟩ hA
                   refine st_run tbOk 5 hA (e' := (12, .bool true) :: (11, .int .i64 (((1 + f : Nat) : Int) - (((k : Nat) : Int) + 1))) :: (61, .bool true) :: (60, .int .i64 (((1 + f : Nat) : Int) - (((k : Nat) : Int) + 1))) :: (56, .tuple #[.int .i64 (((1 + f : Nat) : Int) - (((k : Nat) : Int) + 1)), .bool true]) :: _) rfl ?_; clear hA; intro a hA
                   refine wpList_nil ?_
                   replace hA := hA.sel [0, 2, 7, 8, 9, 11, 12] (e' := [(0, .int .i64 id), (2, .int .u8 ((g : Nat) : Int)), (7, .pointer (some ⟨b2, 0, none⟩)), (8, .int .i64 ((1 + f : Nat) : Int)), (9, .int .i64 ((k + 1 : Nat) : Int)), (11, .int .i64 (((1 + f : Nat) : Int) - (((k : Nat) : Int) + 1))), (12, .bool true)]) rfl
                   refine xt_norm ?_
                   refine wp_seq ?_
                   refine wp_region_lit ?_
                   refine st_run tbOk 4 hA (e' := (65, .bool (decide (((k + 1 : Nat) : Int) < ((1 + f : Nat) : Int)))) :: (64, .int .i64 ((1 + f : Nat) : Int)) :: (63, .int .i64 ((k + 1 : Nat) : Int)) :: (62, .bool true) :: _) rfl ?_; clear hA; intro a hA
                   by_cases hc40 : ((k + 1 : Nat) : Int) < ((1 + f : Nat) : Int)
                   · first
                     | (exfalso; omega)
                     | (replace hA := hA.rw 65 (v' := .bool true) rfl (vb_true hc40)
                        refine st_run tbOk 8 hA (e' := (73, .int .i64 (IntKind.i64.wrap (((1 + f : Nat) : Int) - ((k + 1 : Nat) : Int)))) :: (72, .int .i64 ((k + 1 : Nat) : Int)) :: (71, .int .i64 ((1 + f : Nat) : Int)) :: (70, .int .i64 (((1 + f : Nat) : Int) - (((k : Nat) : Int) + 1))) :: (69, .bool true) :: (68, .bool true) :: (67, .bool false) :: (66, .bool false) :: _) rfl ?_; clear hA; intro a hA
                        replace hA := hA.rw 73 (v' := .int .i64 (((1 + f : Nat) : Int) - ((k + 1 : Nat) : Int))) rfl (wr64 (by omega) (by omega) (by omega))
                        refine st_run tbOk 4 hA (e' := (77, .bool ((((1 + f : Nat) : Int) - (((k : Nat) : Int) + 1)) != (((1 + f : Nat) : Int) - ((k + 1 : Nat) : Int)))) :: (76, .bool ((((1 + f : Nat) : Int) - (((k : Nat) : Int) + 1)) != (((1 + f : Nat) : Int) - ((k + 1 : Nat) : Int)))) :: (75, .bool ((((1 + f : Nat) : Int) - (((k : Nat) : Int) + 1)) != (((1 + f : Nat) : Int) - ((k + 1 : Nat) : Int)))) :: (74, .bool ((((1 + f : Nat) : Int) - (((k : Nat) : Int) + 1)) != (((1 + f : Nat) : Int) - ((k + 1 : Nat) : Int)))) :: _) rfl ?_; clear hA; intro a hA
                        by_cases hc41 : ((1 + f : Nat) : Int) - (((k : Nat) : Int) + 1) = ((1 + f : Nat) : Int) - ((k + 1 : Nat) : Int)
                        · first
                          | (exfalso; omega)
                          | (replace hA := hA.rw 74 (v' := .bool false) rfl (vb_ne_f hc41)
                             replace hA := hA.rw 75 (v' := .bool false) rfl (vb_ne_f hc41)
                             replace hA := hA.rw 76 (v' := .bool false) rfl (vb_ne_f hc41)
                             replace hA := hA.rw 77 (v' := .bool false) rfl (vb_ne_f hc41)
                             refine st_run tbOk 7 hA (e' := (84, .bool false) :: (83, .bool false) :: (82, undef) :: (81, undef) :: (80, .bool false) :: (79, .bool false) :: (78, .bool true) :: _) rfl ?_; clear hA; intro a hA
                             refine wpList_nil ?_
                             replace hA := hA.sel [0, 2, 7, 8, 9, 84] (e' := [(0, .int .i64 id), (2, .int .u8 ((g : Nat) : Int)), (7, .pointer (some ⟨b2, 0, none⟩)), (8, .int .i64 ((1 + f : Nat) : Int)), (9, .int .i64 ((k + 1 : Nat) : Int)), (84, .bool false)]) rfl
                             refine xt_norm ?_
                             refine cd_cond_f hA rfl ?_
                             refine wp_skip ?_
                             refine xb_norm ?_
                             refine xt_norm ?_
                             refine wp_region_lit ?_
                             refine st_run tbOk 2 hA (e' := (33, .int .i64 (IntKind.i64.wrap (((k + 1 : Nat) : Int) + 1))) :: (32, .int .i64 ((k + 1 : Nat) : Int)) :: _) rfl ?_; clear hA; intro a hA
                             replace hA := hA.rw 33 (v' := .int .i64 (((k + 1) + 1 : Nat) : Int)) rfl (wr64 (by omega) (by omega) (by omega))
                             refine st_run tbOk 1 hA (e' := (9, .int .i64 (((k + 1) + 1 : Nat) : Int)) :: _) rfl ?_; clear hA; intro a hA
                             refine wpList_nil ?_
                             replace hA := hA.sel [0, 2, 7, 8, 9] (e' := [(0, .int .i64 id), (2, .int .u8 ((g : Nat) : Int)), (7, .pointer (some ⟨b2, 0, none⟩)), (8, .int .i64 ((1 + f : Nat) : Int)), (9, .int .i64 (((k + 1) + 1 : Nat) : Int))]) rfl
                             have hM42 : XR b2 (((k + 1 : Nat) : Int)) (one id ((1 + f : Nat) : Int) ((k + 1 : Nat) : Int)) L37 := (by rw [show ((k + 1 : Nat) : Int) = ((k : Nat) : Int) + 1 by omega]; exact hM39)
                             replace hS := hS.front 1 (C := C16) (L' := L37 :: F) rfl rfl
                             replace hS := hS.drop1
                             exact lp_next _ (by omega) ⟨(k + 1), L37, rfl, (hA.sel [0, 2, 7, 8, 9] rfl), hS, by omega, hM42⟩)
                        · first
                          | (exfalso; omega)
                          | (replace hA := hA.rw 74 (v' := .bool true) rfl (vb_ne_t hc41)
                             replace hA := hA.rw 75 (v' := .bool true) rfl (vb_ne_t hc41)
                             replace hA := hA.rw 76 (v' := .bool true) rfl (vb_ne_t hc41)
                             replace hA := hA.rw 77 (v' := .bool true) rfl (vb_ne_t hc41)
                             refine st_run tbOk 7 hA (e' := (84, .bool true) :: (83, undef) :: (82, undef) :: (81, undef) :: (80, undef) :: (79, undef) :: (78, undef) :: _) rfl ?_; clear hA; intro a hA
                             refine wpList_nil ?_
                             replace hA := hA.sel [0, 2, 7, 8, 9, 84] (e' := [(0, .int .i64 id), (2, .int .u8 ((g : Nat) : Int)), (7, .pointer (some ⟨b2, 0, none⟩)), (8, .int .i64 ((1 + f : Nat) : Int)), (9, .int .i64 ((k + 1 : Nat) : Int)), (84, .bool true)]) rfl
                             refine xt_norm ?_
                             refine cd_cond_t hA rfl ?_
                             refine wp_seq ?_
                             refine wp_region_lit ?_
                             refine st_run tbOk 1 hA (e' := (6, .bool false) :: _) rfl ?_; clear hA; intro a hA
                             refine wpList_nil ?_
                             replace hA := hA.sel [6] (e' := [(6, .bool false)]) rfl
                             refine xt_norm ?_
                             refine wp_ret (xb_ret (xt_ret (xt_ret (xb_ret (xt_ret ?_)))))
                             refine ret1 (fn := Try.f5) hA rfl rfl ?_
                             exfalso; omega))
                   · first
                     | (exfalso; omega)
                     | (replace hA := hA.rw 65 (v' := .bool false) rfl (vb_false hc40)
                        refine st_run tbOk 19 hA (e' := (84, .bool true) :: (83, undef) :: (82, undef) :: (81, undef) :: (80, undef) :: (79, undef) :: (78, undef) :: (77, .bool true) :: (76, .bool true) :: (75, undef) :: (74, undef) :: (73, undef) :: (72, undef) :: (71, undef) :: (70, undef) :: (69, undef) :: (68, undef) :: (67, .bool true) :: (66, .bool true) :: _) rfl ?_; clear hA; intro a hA
                        refine wpList_nil ?_
                        replace hA := hA.sel [0, 2, 7, 8, 9, 84] (e' := [(0, .int .i64 id), (2, .int .u8 ((g : Nat) : Int)), (7, .pointer (some ⟨b2, 0, none⟩)), (8, .int .i64 ((1 + f : Nat) : Int)), (9, .int .i64 ((k + 1 : Nat) : Int)), (84, .bool true)]) rfl
                        refine xt_norm ?_
                        refine cd_cond_t hA rfl ?_
                        refine wp_seq ?_
                        refine wp_region_lit ?_
                        refine st_run tbOk 1 hA (e' := (6, .bool false) :: _) rfl ?_; clear hA; intro a hA
                        refine wpList_nil ?_
                        replace hA := hA.sel [6] (e' := [(6, .bool false)]) rfl
                        refine xt_norm ?_
                        refine wp_ret (xb_ret (xt_ret (xt_ret (xb_ret (xt_ret ?_)))))
                        refine ret1 (fn := Try.f5) hA rfl rfl ?_
                        exfalso; omega))
              · first
                | (exfalso; omega)
                | (replace hA := hA.rw 49 (v' := .bool true) rfl (vb_ne_t hc36)
                   replace hA := hA.rw 50 (v' := .bool true) rfl (vb_ne_t hc36)
                   refine st_run tbOk 5 hA (e' := (55, .bool false) :: (54, .bool false) :: (53, .bool false) :: (52, .int .i64 0) :: (51, .slice A17 0 c18) :: _) rfl ?_; clear hA; intro a hA
                   refine wpList_nil ?_
                   replace hA := hA.sel [0, 2, 7, 8, 9, 55] (e' := [(0, .int .i64 id), (2, .int .u8 ((g : Nat) : Int)), (7, .pointer (some ⟨b2, 0, none⟩)), (8, .int .i64 ((1 + f : Nat) : Int)), (9, .int .i64 ((k + 1 : Nat) : Int)), (55, .bool false)]) rfl
                   refine xt_norm ?_
                   refine cd_cond_f hA rfl ?_
                   refine wp_skip ?_
                   refine xt_norm ?_
                   refine wp_seq ?_
                   refine wp_region_lit ?_
                   refine st_run tbOk 2 hA (e' := (58, .int .i64 id) :: (57, .pointer (some ⟨b2, 0, none⟩)) :: _) rfl ?_; clear hA; intro a hA
                   replace hS := hS.front 1 (C := L12) (L' := C16 :: F) rfl rfl
                   refine st_call0 hA rfl rfl rfl isfn11 rfl rfl (by decide) (left1_in hS hM14 (by omega) (by omega) (by omega) (by omega) (by omega)) ?_
                   clear hA hS; rintro v w44 a ⟨L43, hM45, rfl, hS⟩ hA
                   refine st_run tbOk 5 hA (e' := (12, .bool true) :: (11, .int .i64 (((1 + f : Nat) : Int) - (((k : Nat) : Int) + 1))) :: (61, .bool true) :: (60, .int .i64 (((1 + f : Nat) : Int) - (((k : Nat) : Int) + 1))) :: (56, .tuple #[.int .i64 (((1 + f : Nat) : Int) - (((k : Nat) : Int) + 1)), .bool true]) :: _) rfl ?_; clear hA; intro a hA
                   refine wpList_nil ?_
                   replace hA := hA.sel [0, 2, 7, 8, 9, 11, 12] (e' := [(0, .int .i64 id), (2, .int .u8 ((g : Nat) : Int)), (7, .pointer (some ⟨b2, 0, none⟩)), (8, .int .i64 ((1 + f : Nat) : Int)), (9, .int .i64 ((k + 1 : Nat) : Int)), (11, .int .i64 (((1 + f : Nat) : Int) - (((k : Nat) : Int) + 1))), (12, .bool true)]) rfl
                   refine xt_norm ?_
                   refine wp_seq ?_
                   refine wp_region_lit ?_
                   refine st_run tbOk 4 hA (e' := (65, .bool (decide (((k + 1 : Nat) : Int) < ((1 + f : Nat) : Int)))) :: (64, .int .i64 ((1 + f : Nat) : Int)) :: (63, .int .i64 ((k + 1 : Nat) : Int)) :: (62, .bool true) :: _) rfl ?_; clear hA; intro a hA
                   by_cases hc46 : ((k + 1 : Nat) : Int) < ((1 + f : Nat) : Int)
                   · first
                     | (exfalso; omega)
                     | (replace hA := hA.rw 65 (v' := .bool true) rfl (vb_true hc46)
                        refine st_run tbOk 8 hA (e' := (73, .int .i64 (IntKind.i64.wrap (((1 + f : Nat) : Int) - ((k + 1 : Nat) : Int)))) :: (72, .int .i64 ((k + 1 : Nat) : Int)) :: (71, .int .i64 ((1 + f : Nat) : Int)) :: (70, .int .i64 (((1 + f : Nat) : Int) - (((k : Nat) : Int) + 1))) :: (69, .bool true) :: (68, .bool true) :: (67, .bool false) :: (66, .bool false) :: _) rfl ?_; clear hA; intro a hA
                        replace hA := hA.rw 73 (v' := .int .i64 (((1 + f : Nat) : Int) - ((k + 1 : Nat) : Int))) rfl (wr64 (by omega) (by omega) (by omega))
                        refine st_run tbOk 4 hA (e' := (77, .bool ((((1 + f : Nat) : Int) - (((k : Nat) : Int) + 1)) != (((1 + f : Nat) : Int) - ((k + 1 : Nat) : Int)))) :: (76, .bool ((((1 + f : Nat) : Int) - (((k : Nat) : Int) + 1)) != (((1 + f : Nat) : Int) - ((k + 1 : Nat) : Int)))) :: (75, .bool ((((1 + f : Nat) : Int) - (((k : Nat) : Int) + 1)) != (((1 + f : Nat) : Int) - ((k + 1 : Nat) : Int)))) :: (74, .bool ((((1 + f : Nat) : Int) - (((k : Nat) : Int) + 1)) != (((1 + f : Nat) : Int) - ((k + 1 : Nat) : Int)))) :: _) rfl ?_; clear hA; intro a hA
                        by_cases hc47 : ((1 + f : Nat) : Int) - (((k : Nat) : Int) + 1) = ((1 + f : Nat) : Int) - ((k + 1 : Nat) : Int)
                        · first
                          | (exfalso; omega)
                          | (replace hA := hA.rw 74 (v' := .bool false) rfl (vb_ne_f hc47)
                             replace hA := hA.rw 75 (v' := .bool false) rfl (vb_ne_f hc47)
                             replace hA := hA.rw 76 (v' := .bool false) rfl (vb_ne_f hc47)
                             replace hA := hA.rw 77 (v' := .bool false) rfl (vb_ne_f hc47)
                             refine st_run tbOk 7 hA (e' := (84, .bool false) :: (83, .bool false) :: (82, undef) :: (81, undef) :: (80, .bool false) :: (79, .bool false) :: (78, .bool true) :: _) rfl ?_; clear hA; intro a hA
                             refine wpList_nil ?_
                             replace hA := hA.sel [0, 2, 7, 8, 9, 84] (e' := [(0, .int .i64 id), (2, .int .u8 ((g : Nat) : Int)), (7, .pointer (some ⟨b2, 0, none⟩)), (8, .int .i64 ((1 + f : Nat) : Int)), (9, .int .i64 ((k + 1 : Nat) : Int)), (84, .bool false)]) rfl
                             refine xt_norm ?_
                             refine cd_cond_f hA rfl ?_
                             refine wp_skip ?_
                             refine xb_norm ?_
                             refine xt_norm ?_
                             refine wp_region_lit ?_
                             refine st_run tbOk 2 hA (e' := (33, .int .i64 (IntKind.i64.wrap (((k + 1 : Nat) : Int) + 1))) :: (32, .int .i64 ((k + 1 : Nat) : Int)) :: _) rfl ?_; clear hA; intro a hA
                             replace hA := hA.rw 33 (v' := .int .i64 (((k + 1) + 1 : Nat) : Int)) rfl (wr64 (by omega) (by omega) (by omega))
                             refine st_run tbOk 1 hA (e' := (9, .int .i64 (((k + 1) + 1 : Nat) : Int)) :: _) rfl ?_; clear hA; intro a hA
                             refine wpList_nil ?_
                             replace hA := hA.sel [0, 2, 7, 8, 9] (e' := [(0, .int .i64 id), (2, .int .u8 ((g : Nat) : Int)), (7, .pointer (some ⟨b2, 0, none⟩)), (8, .int .i64 ((1 + f : Nat) : Int)), (9, .int .i64 (((k + 1) + 1 : Nat) : Int))]) rfl
                             have hM48 : XR b2 (((k + 1 : Nat) : Int)) (one id ((1 + f : Nat) : Int) ((k + 1 : Nat) : Int)) L43 := (by rw [show ((k + 1 : Nat) : Int) = ((k : Nat) : Int) + 1 by omega]; exact hM45)
                             replace hS := hS.front 1 (C := C16) (L' := L43 :: F) rfl rfl
                             replace hS := hS.drop1
                             exact lp_next _ (by omega) ⟨(k + 1), L43, rfl, (hA.sel [0, 2, 7, 8, 9] rfl), hS, by omega, hM48⟩)
                        · first
                          | (exfalso; omega)
                          | (replace hA := hA.rw 74 (v' := .bool true) rfl (vb_ne_t hc47)
                             replace hA := hA.rw 75 (v' := .bool true) rfl (vb_ne_t hc47)
                             replace hA := hA.rw 76 (v' := .bool true) rfl (vb_ne_t hc47)
                             replace hA := hA.rw 77 (v' := .bool true) rfl (vb_ne_t hc47)
                             refine st_run tbOk 7 hA (e' := (84, .bool true) :: (83, undef) :: (82, undef) :: (81, undef) :: (80, undef) :: (79, undef) :: (78, undef) :: _) rfl ?_; clear hA; intro a hA
                             refine wpList_nil ?_
                             replace hA := hA.sel [0, 2, 7, 8, 9, 84] (e' := [(0, .int .i64 id), (2, .int .u8 ((g : Nat) : Int)), (7, .pointer (some ⟨b2, 0, none⟩)), (8, .int .i64 ((1 + f : Nat) : Int)), (9, .int .i64 ((k + 1 : Nat) : Int)), (84, .bool true)]) rfl
                             refine xt_norm ?_
                             refine cd_cond_t hA rfl ?_
                             refine wp_seq ?_
                             refine wp_region_lit ?_
                             refine st_run tbOk 1 hA (e' := (6, .bool false) :: _) rfl ?_; clear hA; intro a hA
                             refine wpList_nil ?_
                             replace hA := hA.sel [6] (e' := [(6, .bool false)]) rfl
                             refine xt_norm ?_
                             refine wp_ret (xb_ret (xt_ret (xt_ret (xb_ret (xt_ret ?_)))))
                             refine ret1 (fn := Try.f5) hA rfl rfl ?_
                             exfalso; omega))
                   · first
                     | (exfalso; omega)
                     | (replace hA := hA.rw 65 (v' := .bool false) rfl (vb_false hc46)
                        refine st_run tbOk 19 hA (e' := (84, .bool true) :: (83, undef) :: (82, undef) :: (81, undef) :: (80, undef) :: (79, undef) :: (78, undef) :: (77, .bool true) :: (76, .bool true) :: (75, undef) :: (74, undef) :: (73, undef) :: (72, undef) :: (71, undef) :: (70, undef) :: (69, undef) :: (68, undef) :: (67, .bool true) :: (66, .bool true) :: _) rfl ?_; clear hA; intro a hA
                        refine wpList_nil ?_
                        replace hA := hA.sel [0, 2, 7, 8, 9, 84] (e' := [(0, .int .i64 id), (2, .int .u8 ((g : Nat) : Int)), (7, .pointer (some ⟨b2, 0, none⟩)), (8, .int .i64 ((1 + f : Nat) : Int)), (9, .int .i64 ((k + 1 : Nat) : Int)), (84, .bool true)]) rfl
                        refine xt_norm ?_
                        refine cd_cond_t hA rfl ?_
                        refine wp_seq ?_
                        refine wp_region_lit ?_
                        refine st_run tbOk 1 hA (e' := (6, .bool false) :: _) rfl ?_; clear hA; intro a hA
                        refine wpList_nil ?_
                        replace hA := hA.sel [6] (e' := [(6, .bool false)]) rfl
                        refine xt_norm ?_
                        refine wp_ret (xb_ret (xt_ret (xt_ret (xb_ret (xt_ret ?_)))))
                        refine ret1 (fn := Try.f5) hA rfl rfl ?_
                        exfalso; omega)))
       · refine st_run tbOk 1 hA (e' := (34, .pointer (some ⟨b2, 0, none⟩)) :: _) rfl ?_; clear hA; intro a hA
         refine st_call0 hA rfl rfl rfl isfn8 rfl rfl (by decide) (tick1_y hS hM (by omega) (by omega) (by omega)) ?_
         clear hA hS; rintro v52 w50 a ⟨L49, C53, hO53, hM51, hS⟩ hA
         obtain ⟨A54, c55, rfl, hmc55, hxc55⟩ := hO53.open'
         refine st_run tbOk 1 hA (e' := (10, .slice A54 1 c55) :: _) rfl ?_; clear hA; intro a hA
         refine wpList_nil ?_
         replace hA := hA.sel [0, 2, 7, 8, 9, 10] (e' := [(0, .int .i64 id), (2, .int .u8 ((g : Nat) : Int)), (7, .pointer (some ⟨b2, 0, none⟩)), (8, .int .i64 ((1 + f : Nat) : Int)), (9, .int .i64 ((k + 1 : Nat) : Int)), (10, .slice A54 1 c55)]) rfl
         refine xt_norm ?_
         refine wp_seq ?_
         refine wp_seq ?_
         refine wp_region_lit ?_
         refine st_run tbOk 4 hA (e' := (39, .bool (((k + 1 : Nat) : Int) == ((1 + f : Nat) : Int))) :: (38, .bool (((k + 1 : Nat) : Int) == ((1 + f : Nat) : Int))) :: (37, .int .i64 ((1 + f : Nat) : Int)) :: (36, .int .i64 ((k + 1 : Nat) : Int)) :: _) rfl ?_; clear hA; intro a hA
         by_cases hc56 : ((k + 1 : Nat) : Int) = ((1 + f : Nat) : Int)
         · first
           | (exfalso; omega)
           | (replace hA := hA.rw 38 (v' := .bool true) rfl (vb_eq_t hc56)
              replace hA := hA.rw 39 (v' := .bool true) rfl (vb_eq_t hc56)
              refine st_run tbOk 2 hA (e' := (41, .int .i64 id) :: (40, .slice A54 1 c55) :: _) rfl ?_; clear hA; intro a hA
              refine st_buildSlice tbOk hA hS [.int .i64 id] rfl rfl rfl rfl rfl (by decide) (by kernel_rfl) rfl rfl (by decide) ?_; clear hA hS; intro b57 w58 a hS hA
              refine st_call0 hA rfl rfl rfl isfn10 rfl rfl (by decide) (same10 hS (xs := ([id] : List Int)) (ys := ([id] : List Int)) (RdS.own hO53 1 rfl) (RdS.own (Own.full (T := 3) (size := 1) (g := b57) (m := 1) rfl (by decide)) 0 rfl)) ?_
              clear hA hS; rintro v w59 a ⟨rfl, hS⟩ hA
              replace hA := hA.rw 43 (v' := .bool true) rfl (by simp)
              refine st_run tbOk 7 hA (e' := (50, .bool (((k + 1 : Nat) : Int) != ((1 + f : Nat) : Int))) :: (49, .bool (((k + 1 : Nat) : Int) != ((1 + f : Nat) : Int))) :: (48, .int .i64 ((1 + f : Nat) : Int)) :: (47, .int .i64 ((k + 1 : Nat) : Int)) :: (46, .bool false) :: (45, .bool false) :: (44, .bool false) :: _) rfl ?_; clear hA; intro a hA
              by_cases hc60 : ((k + 1 : Nat) : Int) = ((1 + f : Nat) : Int)
              · first
                | (exfalso; omega)
                | (replace hA := hA.rw 49 (v' := .bool false) rfl (vb_ne_f hc60)
                   replace hA := hA.rw 50 (v' := .bool false) rfl (vb_ne_f hc60)
                   refine st_run tbOk 5 hA (e' := (55, .bool false) :: (54, .bool false) :: (53, undef) :: (52, undef) :: (51, undef) :: _) rfl ?_; clear hA; intro a hA
                   refine wpList_nil ?_
                   replace hA := hA.sel [0, 2, 7, 8, 9, 55] (e' := [(0, .int .i64 id), (2, .int .u8 ((g : Nat) : Int)), (7, .pointer (some ⟨b2, 0, none⟩)), (8, .int .i64 ((1 + f : Nat) : Int)), (9, .int .i64 ((k + 1 : Nat) : Int)), (55, .bool false)]) rfl
                   refine xt_norm ?_
                   refine cd_cond_f hA rfl ?_
                   refine wp_skip ?_
                   refine xt_norm ?_
                   refine wp_seq ?_
                   refine wp_region_lit ?_
                   refine st_run tbOk 2 hA (e' := (58, .int .i64 id) :: (57, .pointer (some ⟨b2, 0, none⟩)) :: _) rfl ?_; clear hA; intro a hA
                   replace hS := hS.front 2 (C := L49) (L' := [(b57, rowO [.int .i64 id] 3)] :: C53 :: F) rfl rfl
                   refine st_call0 hA rfl rfl rfl isfn11 rfl rfl (by decide) (left1_out hS hM51 (by omega)) ?_
                   clear hA hS; rintro v w62 a ⟨L61, hM63, rfl, hS⟩ hA
                   refine st_run tbOk 5 hA (e' := (12, .bool false) :: (11, .int .i64 0) :: (61, .bool false) :: (60, .int .i64 0) :: (56, .tuple #[.int .i64 0, .bool false]) :: _) rfl ?_; clear hA; intro a hA
                   refine wpList_nil ?_
                   replace hA := hA.sel [0, 2, 7, 8, 9, 11, 12] (e' := [(0, .int .i64 id), (2, .int .u8 ((g : Nat) : Int)), (7, .pointer (some ⟨b2, 0, none⟩)), (8, .int .i64 ((1 + f : Nat) : Int)), (9, .int .i64 ((k + 1 : Nat) : Int)), (11, .int .i64 0), (12, .bool false)]) rfl
                   refine xt_norm ?_
                   refine wp_seq ?_
                   refine wp_region_lit ?_
                   refine st_run tbOk 4 hA (e' := (65, .bool (decide (((k + 1 : Nat) : Int) < ((1 + f : Nat) : Int)))) :: (64, .int .i64 ((1 + f : Nat) : Int)) :: (63, .int .i64 ((k + 1 : Nat) : Int)) :: (62, .bool false) :: _) rfl ?_; clear hA; intro a hA
                   by_cases hc64 : ((k + 1 : Nat) : Int) < ((1 + f : Nat) : Int)
                   · first
                     | (exfalso; omega)
                     | (replace hA := hA.rw 65 (v' := .bool true) rfl (vb_true hc64)
                        refine st_run tbOk 19 hA (e' := (84, .bool true) :: (83, undef) :: (82, undef) :: (81, undef) :: (80, undef) :: (79, undef) :: (78, undef) :: (77, .bool true) :: (76, .bool true) :: (75, undef) :: (74, undef) :: (73, undef) :: (72, undef) :: (71, undef) :: (70, undef) :: (69, undef) :: (68, undef) :: (67, .bool true) :: (66, .bool true) :: _) rfl ?_; clear hA; intro a hA
                        refine wpList_nil ?_
                        replace hA := hA.sel [0, 2, 7, 8, 9, 84] (e' := [(0, .int .i64 id), (2, .int .u8 ((g : Nat) : Int)), (7, .pointer (some ⟨b2, 0, none⟩)), (8, .int .i64 ((1 + f : Nat) : Int)), (9, .int .i64 ((k + 1 : Nat) : Int)), (84, .bool true)]) rfl
                        refine xt_norm ?_
                        refine cd_cond_t hA rfl ?_
                        refine wp_seq ?_
                        refine wp_region_lit ?_
                        refine st_run tbOk 1 hA (e' := (6, .bool false) :: _) rfl ?_; clear hA; intro a hA
                        refine wpList_nil ?_
                        replace hA := hA.sel [6] (e' := [(6, .bool false)]) rfl
                        refine xt_norm ?_
                        refine wp_ret (xb_ret (xt_ret (xt_ret (xb_ret (xt_ret ?_)))))
                        refine ret1 (fn := Try.f5) hA rfl rfl ?_
                        exfalso; omega)
                   · first
                     | (exfalso; omega)
                     | (replace hA := hA.rw 65 (v' := .bool false) rfl (vb_false hc64)
                        refine st_run tbOk 19 hA (e' := (84, .bool false) :: (83, .bool false) :: (82, .bool false) :: (81, .int .i64 0) :: (80, .bool true) :: (79, .bool true) :: (78, .bool false) :: (77, .bool false) :: (76, .bool false) :: (75, .bool false) :: (74, undef) :: (73, undef) :: (72, undef) :: (71, undef) :: (70, undef) :: (69, .bool false) :: (68, .bool false) :: (67, .bool false) :: (66, .bool false) :: _) rfl ?_; clear hA; intro a hA
                        refine wpList_nil ?_
                        replace hA := hA.sel [0, 2, 7, 8, 9, 84] (e' := [(0, .int .i64 id), (2, .int .u8 ((g : Nat) : Int)), (7, .pointer (some ⟨b2, 0, none⟩)), (8, .int .i64 ((1 + f : Nat) : Int)), (9, .int .i64 ((k + 1 : Nat) : Int)), (84, .bool false)]) rfl
                        refine xt_norm ?_
                        refine cd_cond_f hA rfl ?_
                        refine wp_skip ?_
                        refine xb_norm ?_
                        refine xt_norm ?_
                        refine wp_region_lit ?_
                        refine st_run tbOk 2 hA (e' := (33, .int .i64 (IntKind.i64.wrap (((k + 1 : Nat) : Int) + 1))) :: (32, .int .i64 ((k + 1 : Nat) : Int)) :: _) rfl ?_; clear hA; intro a hA
                        replace hA := hA.rw 33 (v' := .int .i64 (((k + 1) + 1 : Nat) : Int)) rfl (wr64 (by omega) (by omega) (by omega))
                        refine st_run tbOk 1 hA (e' := (9, .int .i64 (((k + 1) + 1 : Nat) : Int)) :: _) rfl ?_; clear hA; intro a hA
                        refine wpList_nil ?_
                        replace hA := hA.sel [0, 2, 7, 8, 9] (e' := [(0, .int .i64 id), (2, .int .u8 ((g : Nat) : Int)), (7, .pointer (some ⟨b2, 0, none⟩)), (8, .int .i64 ((1 + f : Nat) : Int)), (9, .int .i64 (((k + 1) + 1 : Nat) : Int))]) rfl
                        have hM65 : XR b2 (((k + 1 : Nat) : Int)) (one id ((1 + f : Nat) : Int) ((k + 1 : Nat) : Int)) L61 := (by rw [show ((k + 1 : Nat) : Int) = ((k : Nat) : Int) + 1 by omega]; exact hM63)
                        replace hS := hS.front 1 (C := [(b57, rowO [.int .i64 id] 3)]) (L' := L61 :: C53 :: F) rfl rfl
                        replace hS := hS.drop1
                        replace hS := hS.front 1 (C := C53) (L' := L61 :: F) rfl rfl
                        replace hS := hS.drop1
                        exact lp_next _ (by omega) ⟨(k + 1), L61, rfl, (hA.sel [0, 2, 7, 8, 9] rfl), hS, by omega, hM65⟩))
              · first
                | (exfalso; omega)
                | (replace hA := hA.rw 49 (v' := .bool true) rfl (vb_ne_t hc60)
                   replace hA := hA.rw 50 (v' := .bool true) rfl (vb_ne_t hc60)
                   refine st_run tbOk 5 hA (e' := (55, .bool true) :: (54, .bool true) :: (53, .bool true) :: (52, .int .i64 1) :: (51, .slice A54 1 c55) :: _) rfl ?_; clear hA; intro a hA
                   refine wpList_nil ?_
                   replace hA := hA.sel [0, 2, 7, 8, 9, 55] (e' := [(0, .int .i64 id), (2, .int .u8 ((g : Nat) : Int)), (7, .pointer (some ⟨b2, 0, none⟩)), (8, .int .i64 ((1 + f : Nat) : Int)), (9, .int .i64 ((k + 1 : Nat) : Int)), (55, .bool true)]) rfl
                   refine xt_norm ?_
                   refine cd_cond_t hA rfl ?_
                   refine wp_seq ?_
                   refine wp_region_lit ?_
                   refine st_run tbOk 1 hA (e' := (6, .bool false) :: _) rfl ?_; clear hA; intro a hA
                   refine wpList_nil ?_
                   replace hA := hA.sel [6] (e' := [(6, .bool false)]) rfl
                   refine xt_norm ?_
                   refine wp_ret (xt_ret (xb_ret (xt_ret (xt_ret (xb_ret (xt_ret ?_))))))
                   refine ret1 (fn := Try.f5) hA rfl rfl ?_
                   exfalso; omega))
         · first
           | (exfalso; omega)
           | (replace hA := hA.rw 38 (v' := .bool false) rfl (vb_eq_f hc56)
              replace hA := hA.rw 39 (v' := .bool false) rfl (vb_eq_f hc56)
              refine st_run tbOk 11 hA (e' := (50, .bool (((k + 1 : Nat) : Int) != ((1 + f : Nat) : Int))) :: (49, .bool (((k + 1 : Nat) : Int) != ((1 + f : Nat) : Int))) :: (48, .int .i64 ((1 + f : Nat) : Int)) :: (47, .int .i64 ((k + 1 : Nat) : Int)) :: (46, .bool false) :: (45, .bool false) :: (44, undef) :: (43, undef) :: (42, undef) :: (41, undef) :: (40, undef) :: _) rfl ?_; clear hA; intro a hA
              by_cases hc66 : ((k + 1 : Nat) : Int) = ((1 + f : Nat) : Int)
              · first
                | (exfalso; omega)
                | (replace hA := hA.rw 49 (v' := .bool false) rfl (vb_ne_f hc66)
                   replace hA := hA.rw 50 (v' := .bool false) rfl (vb_ne_f hc66)
                   refine st_run tbOk 5 hA (e' := (55, .bool false) :: (54, .bool false) :: (53, undef) :: (52, undef) :: (51, undef) :: _) rfl ?_; clear hA; intro a hA
                   refine wpList_nil ?_
                   replace hA := hA.sel [0, 2, 7, 8, 9, 55] (e' := [(0, .int .i64 id), (2, .int .u8 ((g : Nat) : Int)), (7, .pointer (some ⟨b2, 0, none⟩)), (8, .int .i64 ((1 + f : Nat) : Int)), (9, .int .i64 ((k + 1 : Nat) : Int)), (55, .bool false)]) rfl
                   refine xt_norm ?_
                   refine cd_cond_f hA rfl ?_
                   refine wp_skip ?_
                   refine xt_norm ?_
                   refine wp_seq ?_
                   refine wp_region_lit ?_
                   refine st_run tbOk 2 hA (e' := (58, .int .i64 id) :: (57, .pointer (some ⟨b2, 0, none⟩)) :: _) rfl ?_; clear hA; intro a hA
                   replace hS := hS.front 1 (C := L49) (L' := C53 :: F) rfl rfl
                   refine st_call0 hA rfl rfl rfl isfn11 rfl rfl (by decide) (left1_out hS hM51 (by omega)) ?_
                   clear hA hS; rintro v w68 a ⟨L67, hM69, rfl, hS⟩ hA
                   refine st_run tbOk 5 hA (e' := (12, .bool false) :: (11, .int .i64 0) :: (61, .bool false) :: (60, .int .i64 0) :: (56, .tuple #[.int .i64 0, .bool false]) :: _) rfl ?_; clear hA; intro a hA
                   refine wpList_nil ?_
                   replace hA := hA.sel [0, 2, 7, 8, 9, 11, 12] (e' := [(0, .int .i64 id), (2, .int .u8 ((g : Nat) : Int)), (7, .pointer (some ⟨b2, 0, none⟩)), (8, .int .i64 ((1 + f : Nat) : Int)), (9, .int .i64 ((k + 1 : Nat) : Int)), (11, .int .i64 0), (12, .bool false)]) rfl
                   refine xt_norm ?_
                   refine wp_seq ?_
                   refine wp_region_lit ?_
                   refine st_run tbOk 4 hA (e' := (65, .bool (decide (((k + 1 : Nat) : Int) < ((1 + f : Nat) : Int)))) :: (64, .int .i64 ((1 + f : Nat) : Int)) :: (63, .int .i64 ((k + 1 : Nat) : Int)) :: (62, .bool false) :: _) rfl ?_; clear hA; intro a hA
                   by_cases hc70 : ((k + 1 : Nat) : Int) < ((1 + f : Nat) : Int)
                   · first
                     | (exfalso; omega)
                     | (replace hA := hA.rw 65 (v' := .bool true) rfl (vb_true hc70)
                        refine st_run tbOk 19 hA (e' := (84, .bool true) :: (83, undef) :: (82, undef) :: (81, undef) :: (80, undef) :: (79, undef) :: (78, undef) :: (77, .bool true) :: (76, .bool true) :: (75, undef) :: (74, undef) :: (73, undef) :: (72, undef) :: (71, undef) :: (70, undef) :: (69, undef) :: (68, undef) :: (67, .bool true) :: (66, .bool true) :: _) rfl ?_; clear hA; intro a hA
                        refine wpList_nil ?_
                        replace hA := hA.sel [0, 2, 7, 8, 9, 84] (e' := [(0, .int .i64 id), (2, .int .u8 ((g : Nat) : Int)), (7, .pointer (some ⟨b2, 0, none⟩)), (8, .int .i64 ((1 + f : Nat) : Int)), (9, .int .i64 ((k + 1 : Nat) : Int)), (84, .bool true)]) rfl
                        refine xt_norm ?_
                        refine cd_cond_t hA rfl ?_
                        refine wp_seq ?_
                        refine wp_region_lit ?_
                        refine st_run tbOk 1 hA (e' := (6, .bool false) :: _) rfl ?_; clear hA; intro a hA
                        refine wpList_nil ?_
                        replace hA := hA.sel [6] (e' := [(6, .bool false)]) rfl
                        refine xt_norm ?_
                        refine wp_ret (xb_ret (xt_ret (xt_ret (xb_ret (xt_ret ?_)))))
                        refine ret1 (fn := Try.f5) hA rfl rfl ?_
                        exfalso; omega)
                   · first
                     | (exfalso; omega)
                     | (replace hA := hA.rw 65 (v' := .bool false) rfl (vb_false hc70)
                        refine st_run tbOk 19 hA (e' := (84, .bool false) :: (83, .bool false) :: (82, .bool false) :: (81, .int .i64 0) :: (80, .bool true) :: (79, .bool true) :: (78, .bool false) :: (77, .bool false) :: (76, .bool false) :: (75, .bool false) :: (74, undef) :: (73, undef) :: (72, undef) :: (71, undef) :: (70, undef) :: (69, .bool false) :: (68, .bool false) :: (67, .bool false) :: (66, .bool false) :: _) rfl ?_; clear hA; intro a hA
                        refine wpList_nil ?_
                        replace hA := hA.sel [0, 2, 7, 8, 9, 84] (e' := [(0, .int .i64 id), (2, .int .u8 ((g : Nat) : Int)), (7, .pointer (some ⟨b2, 0, none⟩)), (8, .int .i64 ((1 + f : Nat) : Int)), (9, .int .i64 ((k + 1 : Nat) : Int)), (84, .bool false)]) rfl
                        refine xt_norm ?_
                        refine cd_cond_f hA rfl ?_
                        refine wp_skip ?_
                        refine xb_norm ?_
                        refine xt_norm ?_
                        refine wp_region_lit ?_
                        refine st_run tbOk 2 hA (e' := (33, .int .i64 (IntKind.i64.wrap (((k + 1 : Nat) : Int) + 1))) :: (32, .int .i64 ((k + 1 : Nat) : Int)) :: _) rfl ?_; clear hA; intro a hA
                        replace hA := hA.rw 33 (v' := .int .i64 (((k + 1) + 1 : Nat) : Int)) rfl (wr64 (by omega) (by omega) (by omega))
                        refine st_run tbOk 1 hA (e' := (9, .int .i64 (((k + 1) + 1 : Nat) : Int)) :: _) rfl ?_; clear hA; intro a hA
                        refine wpList_nil ?_
                        replace hA := hA.sel [0, 2, 7, 8, 9] (e' := [(0, .int .i64 id), (2, .int .u8 ((g : Nat) : Int)), (7, .pointer (some ⟨b2, 0, none⟩)), (8, .int .i64 ((1 + f : Nat) : Int)), (9, .int .i64 (((k + 1) + 1 : Nat) : Int))]) rfl
                        have hM71 : XR b2 (((k + 1 : Nat) : Int)) (one id ((1 + f : Nat) : Int) ((k + 1 : Nat) : Int)) L67 := (by rw [show ((k + 1 : Nat) : Int) = ((k : Nat) : Int) + 1 by omega]; exact hM69)
                        replace hS := hS.front 1 (C := C53) (L' := L67 :: F) rfl rfl
                        replace hS := hS.drop1
                        exact lp_next _ (by omega) ⟨(k + 1), L67, rfl, (hA.sel [0, 2, 7, 8, 9] rfl), hS, by omega, hM71⟩))
              · first
                | (exfalso; omega)
                | (replace hA := hA.rw 49 (v' := .bool true) rfl (vb_ne_t hc66)
                   replace hA := hA.rw 50 (v' := .bool true) rfl (vb_ne_t hc66)
                   refine st_run tbOk 5 hA (e' := (55, .bool true) :: (54, .bool true) :: (53, .bool true) :: (52, .int .i64 1) :: (51, .slice A54 1 c55) :: _) rfl ?_; clear hA; intro a hA
                   refine wpList_nil ?_
                   replace hA := hA.sel [0, 2, 7, 8, 9, 55] (e' := [(0, .int .i64 id), (2, .int .u8 ((g : Nat) : Int)), (7, .pointer (some ⟨b2, 0, none⟩)), (8, .int .i64 ((1 + f : Nat) : Int)), (9, .int .i64 ((k + 1 : Nat) : Int)), (55, .bool true)]) rfl
                   refine xt_norm ?_
                   refine cd_cond_t hA rfl ?_
                   refine wp_seq ?_
                   refine wp_region_lit ?_
                   refine st_run tbOk 1 hA (e' := (6, .bool false) :: _) rfl ?_; clear hA; intro a hA
                   refine wpList_nil ?_
                   replace hA := hA.sel [6] (e' := [(6, .bool false)]) rfl
                   refine xt_norm ?_
                   refine wp_ret (xt_ret (xb_ret (xt_ret (xt_ret (xb_ret (xt_ret ?_))))))
                   refine ret1 (fn := Try.f5) hA rfl rfl ?_
                   exfalso; omega))
       · refine st_run tbOk 1 hA (e' := (34, .pointer (some ⟨b2, 0, none⟩)) :: _) rfl ?_; clear hA; intro a hA
         refine st_call0 hA rfl rfl rfl isfn8 rfl rfl (by decide) (tick1_n hS hM (by omega) (by omega) (by omega)) ?_
         clear hA hS; rintro v75 w73 a ⟨L72, C76, hO76, hM74, hS⟩ hA
         obtain ⟨A77, c78, rfl, hmc78, hxc78⟩ := hO76.open'
         refine st_run tbOk 1 hA (e' := (10, .slice A77 0 c78) :: _) rfl ?_; clear hA; intro a hA
         refine wpList_nil ?_
         replace hA := hA.sel [0, 2, 7, 8, 9, 10] (e' := [(0, .int .i64 id), (2, .int .u8 ((g : Nat) : Int)), (7, .pointer (some ⟨b2, 0, none⟩)), (8, .int .i64 ((1 + f : Nat) : Int)), (9, .int .i64 ((k + 1 : Nat) : Int)), (10, .slice A77 0 c78)]) rfl
         refine xt_norm ?_
         refine wp_seq ?_
         refine wp_seq ?_
         refine wp_region_lit ?_
         refine st_run tbOk 4 hA (e' := (39, .bool (((k + 1 : Nat) : Int) == ((1 + f : Nat) : Int))) :: (38, .bool (((k + 1 : Nat) : Int) == ((1 + f : Nat) : Int))) :: (37, .int .i64 ((1 + f : Nat) : Int)) :: (36, .int .i64 ((k + 1 : Nat) : Int)) :: _) rfl ?_; clear hA; intro a hA
         by_cases hc79 : ((k + 1 : Nat) : Int) = ((1 + f : Nat) : Int)
         · first
           | (exfalso; omega)
           | (replace hA := hA.rw 38 (v' := .bool true) rfl (vb_eq_t hc79)
              replace hA := hA.rw 39 (v' := .bool true) rfl (vb_eq_t hc79)
              refine st_run tbOk 2 hA (e' := (41, .int .i64 id) :: (40, .slice A77 0 c78) :: _) rfl ?_; clear hA; intro a hA
              refine st_buildSlice tbOk hA hS [.int .i64 id] rfl rfl rfl rfl rfl (by decide) (by kernel_rfl) rfl rfl (by decide) ?_; clear hA hS; intro b80 w81 a hS hA
              refine st_call0 hA rfl rfl rfl isfn10 rfl rfl (by decide) (same10 hS (xs := ([] : List Int)) (ys := ([id] : List Int)) (RdS.own hO76 1 rfl) (RdS.own (Own.full (T := 3) (size := 1) (g := b80) (m := 1) rfl (by decide)) 0 rfl)) ?_
              clear hA hS; rintro v w82 a ⟨rfl, hS⟩ hA
              replace hA := hA.rw 43 (v' := .bool true) rfl (by simp)
              refine st_run tbOk 7 hA (e' := (50, .bool (((k + 1 : Nat) : Int) != ((1 + f : Nat) : Int))) :: (49, .bool (((k + 1 : Nat) : Int) != ((1 + f : Nat) : Int))) :: (48, .int .i64 ((1 + f : Nat) : Int)) :: (47, .int .i64 ((k + 1 : Nat) : Int)) :: (46, .bool false) :: (45, .bool false) :: (44, .bool false) :: _) rfl ?_; clear hA; intro a hA
              by_cases hc83 : ((k + 1 : Nat) : Int) = ((1 + f : Nat) : Int)
              · first
                | (exfalso; omega)
                | (replace hA := hA.rw 49 (v' := .bool false) rfl (vb_ne_f hc83)
                   replace hA := hA.rw 50 (v' := .bool false) rfl (vb_ne_f hc83)
                   refine st_run tbOk 5 hA (e' := (55, .bool false) :: (54, .bool false) :: (53, undef) :: (52, undef) :: (51, undef) :: _) rfl ?_; clear hA; intro a hA
                   refine wpList_nil ?_
                   replace hA := hA.sel [0, 2, 7, 8, 9, 55] (e' := [(0, .int .i64 id), (2, .int .u8 ((g : Nat) : Int)), (7, .pointer (some ⟨b2, 0, none⟩)), (8, .int .i64 ((1 + f : Nat) : Int)), (9, .int .i64 ((k + 1 : Nat) : Int)), (55, .bool false)]) rfl
                   refine xt_norm ?_
                   refine cd_cond_f hA rfl ?_
                   refine wp_skip ?_
                   refine xt_norm ?_
                   refine wp_seq ?_
                   refine wp_region_lit ?_
                   refine st_run tbOk 2 hA (e' := (58, .int .i64 id) :: (57, .pointer (some ⟨b2, 0, none⟩)) :: _) rfl ?_; clear hA; intro a hA
                   replace hS := hS.front 2 (C := L72) (L' := [(b80, rowO [.int .i64 id] 3)] :: C76 :: F) rfl rfl
                   refine st_call0 hA rfl rfl rfl isfn11 rfl rfl (by decide) (left1_out hS hM74 (by omega)) ?_
                   clear hA hS; rintro v w85 a ⟨L84, hM86, rfl, hS⟩ hA
                   refine st_run tbOk 5 hA (e' := (12, .bool false) :: (11, .int .i64 0) :: (61, .bool false) :: (60, .int .i64 0) :: (56, .tuple #[.int .i64 0, .bool false]) :: _) rfl ?_; clear hA; intro a hA
                   refine wpList_nil ?_
                   replace hA := hA.sel [0, 2, 7, 8, 9, 11, 12] (e' := [(0, .int .i64 id), (2, .int .u8 ((g : Nat) : Int)), (7, .pointer (some ⟨b2, 0, none⟩)), (8, .int .i64 ((1 + f : Nat) : Int)), (9, .int .i64 ((k + 1 : Nat) : Int)), (11, .int .i64 0), (12, .bool false)]) rfl
                   refine xt_norm ?_
                   refine wp_seq ?_
                   refine wp_region_lit ?_
                   refine st_run tbOk 4 hA (e' := (65, .bool (decide (((k + 1 : Nat) : Int) < ((1 + f : Nat) : Int)))) :: (64, .int .i64 ((1 + f : Nat) : Int)) :: (63, .int .i64 ((k + 1 : Nat) : Int)) :: (62, .bool false) :: _) rfl ?_; clear hA; intro a hA
                   by_cases hc87 : ((k + 1 : Nat) : Int) < ((1 + f : Nat) : Int)
                   · first
                     | (exfalso; omega)
                     | (replace hA := hA.rw 65 (v' := .bool true) rfl (vb_true hc87)
                        refine st_run tbOk 19 hA (e' := (84, .bool true) :: (83, undef) :: (82, undef) :: (81, undef) :: (80, undef) :: (79, undef) :: (78, undef) :: (77, .bool true) :: (76, .bool true) :: (75, undef) :: (74, undef) :: (73, undef) :: (72, undef) :: (71, undef) :: (70, undef) :: (69, undef) :: (68, undef) :: (67, .bool true) :: (66, .bool true) :: _) rfl ?_; clear hA; intro a hA
                        refine wpList_nil ?_
                        replace hA := hA.sel [0, 2, 7, 8, 9, 84] (e' := [(0, .int .i64 id), (2, .int .u8 ((g : Nat) : Int)), (7, .pointer (some ⟨b2, 0, none⟩)), (8, .int .i64 ((1 + f : Nat) : Int)), (9, .int .i64 ((k + 1 : Nat) : Int)), (84, .bool true)]) rfl
                        refine xt_norm ?_
                        refine cd_cond_t hA rfl ?_
                        refine wp_seq ?_
                        refine wp_region_lit ?_
                        refine st_run tbOk 1 hA (e' := (6, .bool false) :: _) rfl ?_; clear hA; intro a hA
                        refine wpList_nil ?_
                        replace hA := hA.sel [6] (e' := [(6, .bool false)]) rfl
                        refine xt_norm ?_
                        refine wp_ret (xb_ret (xt_ret (xt_ret (xb_ret (xt_ret ?_)))))
                        refine ret1 (fn := Try.f5) hA rfl rfl ?_
                        exfalso; omega)
                   · first
                     | (exfalso; omega)
                     | (replace hA := hA.rw 65 (v' := .bool false) rfl (vb_false hc87)
                        refine st_run tbOk 19 hA (e' := (84, .bool false) :: (83, .bool false) :: (82, .bool false) :: (81, .int .i64 0) :: (80, .bool true) :: (79, .bool true) :: (78, .bool false) :: (77, .bool false) :: (76, .bool false) :: (75, .bool false) :: (74, undef) :: (73, undef) :: (72, undef) :: (71, undef) :: (70, undef) :: (69, .bool false) :: (68, .bool false) :: (67, .bool false) :: (66, .bool false) :: _) rfl ?_; clear hA; intro a hA
                        refine wpList_nil ?_
                        replace hA := hA.sel [0, 2, 7, 8, 9, 84] (e' := [(0, .int .i64 id), (2, .int .u8 ((g : Nat) : Int)), (7, .pointer (some ⟨b2, 0, none⟩)), (8, .int .i64 ((1 + f : Nat) : Int)), (9, .int .i64 ((k + 1 : Nat) : Int)), (84, .bool false)]) rfl
                        refine xt_norm ?_
                        refine cd_cond_f hA rfl ?_
                        refine wp_skip ?_
                        refine xb_norm ?_
                        refine xt_norm ?_
                        refine wp_region_lit ?_
                        refine st_run tbOk 2 hA (e' := (33, .int .i64 (IntKind.i64.wrap (((k + 1 : Nat) : Int) + 1))) :: (32, .int .i64 ((k + 1 : Nat) : Int)) :: _) rfl ?_; clear hA; intro a hA
                        replace hA := hA.rw 33 (v' := .int .i64 (((k + 1) + 1 : Nat) : Int)) rfl (wr64 (by omega) (by omega) (by omega))
                        refine st_run tbOk 1 hA (e' := (9, .int .i64 (((k + 1) + 1 : Nat) : Int)) :: _) rfl ?_; clear hA; intro a hA
                        refine wpList_nil ?_
                        replace hA := hA.sel [0, 2, 7, 8, 9] (e' := [(0, .int .i64 id), (2, .int .u8 ((g : Nat) : Int)), (7, .pointer (some ⟨b2, 0, none⟩)), (8, .int .i64 ((1 + f : Nat) : Int)), (9, .int .i64 (((k + 1) + 1 : Nat) : Int))]) rfl
                        have hM88 : XR b2 (((k + 1 : Nat) : Int)) (one id ((1 + f : Nat) : Int) ((k + 1 : Nat) : Int)) L84 := (by rw [show ((k + 1 : Nat) : Int) = ((k : Nat) : Int) + 1 by omega]; exact hM86)
                        replace hS := hS.front 1 (C := [(b80, rowO [.int .i64 id] 3)]) (L' := L84 :: C76 :: F) rfl rfl
                        replace hS := hS.drop1
                        replace hS := hS.front 1 (C := C76) (L' := L84 :: F) rfl rfl
                        replace hS := hS.drop1
                        exact lp_next _ (by omega) ⟨(k + 1), L84, rfl, (hA.sel [0, 2, 7, 8, 9] rfl), hS, by omega, hM88⟩))
              · first
                | (exfalso; omega)
                | (replace hA := hA.rw 49 (v' := .bool true) rfl (vb_ne_t hc83)
                   replace hA := hA.rw 50 (v' := .bool true) rfl (vb_ne_t hc83)
                   refine st_run tbOk 5 hA (e' := (55, .bool false) :: (54, .bool false) :: (53, .bool false) :: (52, .int .i64 0) :: (51, .slice A77 0 c78) :: _) rfl ?_; clear hA; intro a hA
                   refine wpList_nil ?_
                   replace hA := hA.sel [0, 2, 7, 8, 9, 55] (e' := [(0, .int .i64 id), (2, .int .u8 ((g : Nat) : Int)), (7, .pointer (some ⟨b2, 0, none⟩)), (8, .int .i64 ((1 + f : Nat) : Int)), (9, .int .i64 ((k + 1 : Nat) : Int)), (55, .bool false)]) rfl
                   refine xt_norm ?_
                   refine cd_cond_f hA rfl ?_
                   refine wp_skip ?_
                   refine xt_norm ?_
                   refine wp_seq ?_
                   refine wp_region_lit ?_
                   refine st_run tbOk 2 hA (e' := (58, .int .i64 id) :: (57, .pointer (some ⟨b2, 0, none⟩)) :: _) rfl ?_; clear hA; intro a hA
                   replace hS := hS.front 2 (C := L72) (L' := [(b80, rowO [.int .i64 id] 3)] :: C76 :: F) rfl rfl
                   refine st_call0 hA rfl rfl rfl isfn11 rfl rfl (by decide) (left1_out hS hM74 (by omega)) ?_
                   clear hA hS; rintro v w90 a ⟨L89, hM91, rfl, hS⟩ hA
                   refine st_run tbOk 5 hA (e' := (12, .bool false) :: (11, .int .i64 0) :: (61, .bool false) :: (60, .int .i64 0) :: (56, .tuple #[.int .i64 0, .bool false]) :: _) rfl ?_; clear hA; intro a hA
                   refine wpList_nil ?_
                   replace hA := hA.sel [0, 2, 7, 8, 9, 11, 12] (e' := [(0, .int .i64 id), (2, .int .u8 ((g : Nat) : Int)), (7, .pointer (some ⟨b2, 0, none⟩)), (8, .int .i64 ((1 + f : Nat) : Int)), (9, .int .i64 ((k + 1 : Nat) : Int)), (11, .int .i64 0), (12, .bool false)]) rfl
                   refine xt_norm ?_
                   refine wp_seq ?_
                   refine wp_region_lit ?_
                   refine st_run tbOk 4 hA (e' := (65, .bool (decide (((k + 1 : Nat) : Int) < ((1 + f : Nat) : Int)))) :: (64, .int .i64 ((1 + f : Nat) : Int)) :: (63, .int .i64 ((k + 1 : Nat) : Int)) :: (62, .bool false) :: _) rfl ?_; clear hA; intro a hA
                   by_cases hc92 : ((k + 1 : Nat) : Int) < ((1 + f : Nat) : Int)
                   · first
                     | (exfalso; omega)
                     | (replace hA := hA.rw 65 (v' := .bool true) rfl (vb_true hc92)
                        refine st_run tbOk 19 hA (e' := (84, .bool true) :: (83, undef) :: (82, undef) :: (81, undef) :: (80, undef) :: (79, undef) :: (78, undef) :: (77, .bool true) :: (76, .bool true) :: (75, undef) :: (74, undef) :: (73, undef) :: (72, undef) :: (71, undef) :: (70, undef) :: (69, undef) :: (68, undef) :: (67, .bool true) :: (66, .bool true) :: _) rfl ?_; clear hA; intro a hA
                        refine wpList_nil ?_
                        replace hA := hA.sel [0, 2, 7, 8, 9, 84] (e' := [(0, .int .i64 id), (2, .int .u8 ((g : Nat) : Int)), (7, .pointer (some ⟨b2, 0, none⟩)), (8, .int .i64 ((1 + f : Nat) : Int)), (9, .int .i64 ((k + 1 : Nat) : Int)), (84, .bool true)]) rfl
                        refine xt_norm ?_
                        refine cd_cond_t hA rfl ?_
                        refine wp_seq ?_
                        refine wp_region_lit ?_
                        refine st_run tbOk 1 hA (e' := (6, .bool false) :: _) rfl ?_; clear hA; intro a hA
                        refine wpList_nil ?_
                        replace hA := hA.sel [6] (e' := [(6, .bool false)]) rfl
                        refine xt_norm ?_
                        refine wp_ret (xb_ret (xt_ret (xt_ret (xb_ret (xt_ret ?_)))))
                        refine ret1 (fn := Try.f5) hA rfl rfl ?_
                        exfalso; omega)
                   · first
                     | (exfalso; omega)
                     | (replace hA := hA.rw 65 (v' := .bool false) rfl (vb_false hc92)
                        refine st_run tbOk 19 hA (e' := (84, .bool false) :: (83, .bool false) :: (82, .bool false) :: (81, .int .i64 0) :: (80, .bool true) :: (79, .bool true) :: (78, .bool false) :: (77, .bool false) :: (76, .bool false) :: (75, .bool false) :: (74, undef) :: (73, undef) :: (72, undef) :: (71, undef) :: (70, undef) :: (69, .bool false) :: (68, .bool false) :: (67, .bool false) :: (66, .bool false) :: _) rfl ?_; clear hA; intro a hA
                        refine wpList_nil ?_
                        replace hA := hA.sel [0, 2, 7, 8, 9, 84] (e' := [(0, .int .i64 id), (2, .int .u8 ((g : Nat) : Int)), (7, .pointer (some ⟨b2, 0, none⟩)), (8, .int .i64 ((1 + f : Nat) : Int)), (9, .int .i64 ((k + 1 : Nat) : Int)), (84, .bool false)]) rfl
                        refine xt_norm ?_
                        refine cd_cond_f hA rfl ?_
                        refine wp_skip ?_
                        refine xb_norm ?_
                        refine xt_norm ?_
                        refine wp_region_lit ?_
                        refine st_run tbOk 2 hA (e' := (33, .int .i64 (IntKind.i64.wrap (((k + 1 : Nat) : Int) + 1))) :: (32, .int .i64 ((k + 1 : Nat) : Int)) :: _) rfl ?_; clear hA; intro a hA
                        replace hA := hA.rw 33 (v' := .int .i64 (((k + 1) + 1 : Nat) : Int)) rfl (wr64 (by omega) (by omega) (by omega))
                        refine st_run tbOk 1 hA (e' := (9, .int .i64 (((k + 1) + 1 : Nat) : Int)) :: _) rfl ?_; clear hA; intro a hA
                        refine wpList_nil ?_
                        replace hA := hA.sel [0, 2, 7, 8, 9] (e' := [(0, .int .i64 id), (2, .int .u8 ((g : Nat) : Int)), (7, .pointer (some ⟨b2, 0, none⟩)), (8, .int .i64 ((1 + f : Nat) : Int)), (9, .int .i64 (((k + 1) + 1 : Nat) : Int))]) rfl
                        have hM93 : XR b2 (((k + 1 : Nat) : Int)) (one id ((1 + f : Nat) : Int) ((k + 1 : Nat) : Int)) L89 := (by rw [show ((k + 1 : Nat) : Int) = ((k : Nat) : Int) + 1 by omega]; exact hM91)
                        replace hS := hS.front 1 (C := [(b80, rowO [.int .i64 id] 3)]) (L' := L89 :: C76 :: F) rfl rfl
                        replace hS := hS.drop1
                        replace hS := hS.front 1 (C := C76) (L' := L89 :: F) rfl rfl
                        replace hS := hS.drop1
                        exact lp_next _ (by omega) ⟨(k + 1), L89, rfl, (hA.sel [0, 2, 7, 8, 9] rfl), hS, by omega, hM93⟩)))
         · first
           | (exfalso; omega)
           | (replace hA := hA.rw 38 (v' := .bool false) rfl (vb_eq_f hc79)
              replace hA := hA.rw 39 (v' := .bool false) rfl (vb_eq_f hc79)
              refine st_run tbOk 11 hA (e' := (50, .bool (((k + 1 : Nat) : Int) != ((1 + f : Nat) : Int))) :: (49, .bool (((k + 1 : Nat) : Int) != ((1 + f : Nat) : Int))) :: (48, .int .i64 ((1 + f : Nat) : Int)) :: (47, .int .i64 ((k + 1 : Nat) : Int)) :: (46, .bool false) :: (45, .bool false) :: (44, undef) :: (43, undef) :: (42, undef) :: (41, undef) :: (40, undef) :: _) rfl ?_; clear hA; intro a hA
              by_cases hc94 : ((k + 1 : Nat) : Int) = ((1 + f : Nat) : Int)
              · first
                | (exfalso; omega)
                | (replace hA := hA.rw 49 (v' := .bool false) rfl (vb_ne_f hc94)
                   replace hA := hA.rw 50 (v' := .bool false) rfl (vb_ne_f hc94)
                   refine st_run tbOk 5 hA (e' := (55, .bool false) :: (54, .bool false) :: (53, undef) :: (52, undef) :: (51, undef) :: _) rfl ?_; clear hA; intro a hA
                   refine wpList_nil ?_
                   replace hA := hA.sel [0, 2, 7, 8, 9, 55] (e' := [(0, .int .i64 id), (2, .int .u8 ((g : Nat) : Int)), (7, .pointer (some ⟨b2, 0, none⟩)), (8, .int .i64 ((1 + f : Nat) : Int)), (9, .int .i64 ((k + 1 : Nat) : Int)), (55, .bool false)]) rfl
                   refine xt_norm ?_
                   refine cd_cond_f hA rfl ?_
                   refine wp_skip ?_
                   refine xt_norm ?_
                   refine wp_seq ?_
                   refine wp_region_lit ?_
                   refine st_run tbOk 2 hA (e' := (58, .int .i64 id) :: (57, .pointer (some ⟨b2, 0, none⟩)) :: _) rfl ?_; clear hA; intro a hA
                   replace hS := hS.front 1 (C := L72) (L' := C76 :: F) rfl rfl
                   refine st_call0 hA rfl rfl rfl isfn11 rfl rfl (by decide) (left1_out hS hM74 (by omega)) ?_
                   clear hA hS; rintro v w96 a ⟨L95, hM97, rfl, hS⟩ hA
                   refine st_run tbOk 5 hA (e' := (12, .bool false) :: (11, .int .i64 0) :: (61, .bool false) :: (60, .int .i64 0) :: (56, .tuple #[.int .i64 0, .bool false]) :: _) rfl ?_; clear hA; intro a hA
                   refine wpList_nil ?_
                   replace hA := hA.sel [0, 2, 7, 8, 9, 11, 12] (e' := [(0, .int .i64 id), (2, .int .u8 ((g : Nat) : Int)), (7, .pointer (some ⟨b2, 0, none⟩)), (8, .int .i64 ((1 + f : Nat) : Int)), (9, .int .i64 ((k + 1 : Nat) : Int)), (11, .int .i64 0), (12, .bool false)]) rfl
                   refine xt_norm ?_
                   refine wp_seq ?_
                   refine wp_region_lit ?_
                   refine st_run tbOk 4 hA (e' := (65, .bool (decide (((k + 1 : Nat) : Int) < ((1 + f : Nat) : Int)))) :: (64, .int .i64 ((1 + f : Nat) : Int)) :: (63, .int .i64 ((k + 1 : Nat) : Int)) :: (62, .bool false) :: _) rfl ?_; clear hA; intro a hA
                   by_cases hc98 : ((k + 1 : Nat) : Int) < ((1 + f : Nat) : Int)
                   · first
                     | (exfalso; omega)
                     | (replace hA := hA.rw 65 (v' := .bool true) rfl (vb_true hc98)
                        refine st_run tbOk 19 hA (e' := (84, .bool true) :: (83, undef) :: (82, undef) :: (81, undef) :: (80, undef) :: (79, undef) :: (78, undef) :: (77, .bool true) :: (76, .bool true) :: (75, undef) :: (74, undef) :: (73, undef) :: (72, undef) :: (71, undef) :: (70, undef) :: (69, undef) :: (68, undef) :: (67, .bool true) :: (66, .bool true) :: _) rfl ?_; clear hA; intro a hA
                        refine wpList_nil ?_
                        replace hA := hA.sel [0, 2, 7, 8, 9, 84] (e' := [(0, .int .i64 id), (2, .int .u8 ((g : Nat) : Int)), (7, .pointer (some ⟨b2, 0, none⟩)), (8, .int .i64 ((1 + f : Nat) : Int)), (9, .int .i64 ((k + 1 : Nat) : Int)), (84, .bool true)]) rfl
                        refine xt_norm ?_
                        refine cd_cond_t hA rfl ?_
                        refine wp_seq ?_
                        refine wp_region_lit ?_
                        refine st_run tbOk 1 hA (e' := (6, .bool false) :: _) rfl ?_; clear hA; intro a hA
                        refine wpList_nil ?_
                        replace hA := hA.sel [6] (e' := [(6, .bool false)]) rfl
                        refine xt_norm ?_
                        refine wp_ret (xb_ret (xt_ret (xt_ret (xb_ret (xt_ret ?_)))))
                        refine ret1 (fn := Try.f5) hA rfl rfl ?_
                        exfalso; omega)
                   · first
                     | (exfalso; omega)
                     | (replace hA := hA.rw 65 (v' := .bool false) rfl (vb_false hc98)
                        refine st_run tbOk 19 hA (e' := (84, .bool false) :: (83, .bool false) :: (82, .bool false) :: (81, .int .i64 0) :: (80, .bool true) :: (79, .bool true) :: (78, .bool false) :: (77, .bool false) :: (76, .bool false) :: (75, .bool false) :: (74, undef) :: (73, undef) :: (72, undef) :: (71, undef) :: (70, undef) :: (69, .bool false) :: (68, .bool false) :: (67, .bool false) :: (66, .bool false) :: _) rfl ?_; clear hA; intro a hA
                        refine wpList_nil ?_
                        replace hA := hA.sel [0, 2, 7, 8, 9, 84] (e' := [(0, .int .i64 id), (2, .int .u8 ((g : Nat) : Int)), (7, .pointer (some ⟨b2, 0, none⟩)), (8, .int .i64 ((1 + f : Nat) : Int)), (9, .int .i64 ((k + 1 : Nat) : Int)), (84, .bool false)]) rfl
                        refine xt_norm ?_
                        refine cd_cond_f hA rfl ?_
                        refine wp_skip ?_
                        refine xb_norm ?_
                        refine xt_norm ?_
                        refine wp_region_lit ?_
                        refine st_run tbOk 2 hA (e' := (33, .int .i64 (IntKind.i64.wrap (((k + 1 : Nat) : Int) + 1))) :: (32, .int .i64 ((k + 1 : Nat) : Int)) :: _) rfl ?_; clear hA; intro a hA
                        replace hA := hA.rw 33 (v' := .int .i64 (((k + 1) + 1 : Nat) : Int)) rfl (wr64 (by omega) (by omega) (by omega))
                        refine st_run tbOk 1 hA (e' := (9, .int .i64 (((k + 1) + 1 : Nat) : Int)) :: _) rfl ?_; clear hA; intro a hA
                        refine wpList_nil ?_
                        replace hA := hA.sel [0, 2, 7, 8, 9] (e' := [(0, .int .i64 id), (2, .int .u8 ((g : Nat) : Int)), (7, .pointer (some ⟨b2, 0, none⟩)), (8, .int .i64 ((1 + f : Nat) : Int)), (9, .int .i64 (((k + 1) + 1 : Nat) : Int))]) rfl
                        have hM99 : XR b2 (((k + 1 : Nat) : Int)) (one id ((1 + f : Nat) : Int) ((k + 1 : Nat) : Int)) L95 := (by rw [show ((k + 1 : Nat) : Int) = ((k : Nat) : Int) + 1 by omega]; exact hM97)
                        replace hS := hS.front 1 (C := C76) (L' := L95 :: F) rfl rfl
                        replace hS := hS.drop1
                        exact lp_next _ (by omega) ⟨(k + 1), L95, rfl, (hA.sel [0, 2, 7, 8, 9] rfl), hS, by omega, hM99⟩))
              · first
                | (exfalso; omega)
                | (replace hA := hA.rw 49 (v' := .bool true) rfl (vb_ne_t hc94)
                   replace hA := hA.rw 50 (v' := .bool true) rfl (vb_ne_t hc94)
                   refine st_run tbOk 5 hA (e' := (55, .bool false) :: (54, .bool false) :: (53, .bool false) :: (52, .int .i64 0) :: (51, .slice A77 0 c78) :: _) rfl ?_; clear hA; intro a hA
                   refine wpList_nil ?_
                   replace hA := hA.sel [0, 2, 7, 8, 9, 55] (e' := [(0, .int .i64 id), (2, .int .u8 ((g : Nat) : Int)), (7, .pointer (some ⟨b2, 0, none⟩)), (8, .int .i64 ((1 + f : Nat) : Int)), (9, .int .i64 ((k + 1 : Nat) : Int)), (55, .bool false)]) rfl
                   refine xt_norm ?_
                   refine cd_cond_f hA rfl ?_
                   refine wp_skip ?_
                   refine xt_norm ?_
                   refine wp_seq ?_
                   refine wp_region_lit ?_
                   refine st_run tbOk 2 hA (e' := (58, .int .i64 id) :: (57, .pointer (some ⟨b2, 0, none⟩)) :: _) rfl ?_; clear hA; intro a hA
                   replace hS := hS.front 1 (C := L72) (L' := C76 :: F) rfl rfl
                   refine st_call0 hA rfl rfl rfl isfn11 rfl rfl (by decide) (left1_out hS hM74 (by omega)) ?_
                   clear hA hS; rintro v w101 a ⟨L100, hM102, rfl, hS⟩ hA
                   refine st_run tbOk 5 hA (e' := (12, .bool false) :: (11, .int .i64 0) :: (61, .bool false) :: (60, .int .i64 0) :: (56, .tuple #[.int .i64 0, .bool false]) :: _) rfl ?_; clear hA; intro a hA
                   refine wpList_nil ?_
                   replace hA := hA.sel [0, 2, 7, 8, 9, 11, 12] (e' := [(0, .int .i64 id), (2, .int .u8 ((g : Nat) : Int)), (7, .pointer (some ⟨b2, 0, none⟩)), (8, .int .i64 ((1 + f : Nat) : Int)), (9, .int .i64 ((k + 1 : Nat) : Int)), (11, .int .i64 0), (12, .bool false)]) rfl
                   refine xt_norm ?_
                   refine wp_seq ?_
                   refine wp_region_lit ?_
                   refine st_run tbOk 4 hA (e' := (65, .bool (decide (((k + 1 : Nat) : Int) < ((1 + f : Nat) : Int)))) :: (64, .int .i64 ((1 + f : Nat) : Int)) :: (63, .int .i64 ((k + 1 : Nat) : Int)) :: (62, .bool false) :: _) rfl ?_; clear hA; intro a hA
                   by_cases hc103 : ((k + 1 : Nat) : Int) < ((1 + f : Nat) : Int)
                   · first
                     | (exfalso; omega)
                     | (replace hA := hA.rw 65 (v' := .bool true) rfl (vb_true hc103)
                        refine st_run tbOk 19 hA (e' := (84, .bool true) :: (83, undef) :: (82, undef) :: (81, undef) :: (80, undef) :: (79, undef) :: (78, undef) :: (77, .bool true) :: (76, .bool true) :: (75, undef) :: (74, undef) :: (73, undef) :: (72, undef) :: (71, undef) :: (70, undef) :: (69, undef) :: (68, undef) :: (67, .bool true) :: (66, .bool true) :: _) rfl ?_; clear hA; intro a hA
                        refine wpList_nil ?_
                        replace hA := hA.sel [0, 2, 7, 8, 9, 84] (e' := [(0, .int .i64 id), (2, .int .u8 ((g : Nat) : Int)), (7, .pointer (some ⟨b2, 0, none⟩)), (8, .int .i64 ((1 + f : Nat) : Int)), (9, .int .i64 ((k + 1 : Nat) : Int)), (84, .bool true)]) rfl
                        refine xt_norm ?_
                        refine cd_cond_t hA rfl ?_
                        refine wp_seq ?_
                        refine wp_region_lit ?_
                        refine st_run tbOk 1 hA (e' := (6, .bool false) :: _) rfl ?_; clear hA; intro a hA
                        refine wpList_nil ?_
                        replace hA := hA.sel [6] (e' := [(6, .bool false)]) rfl
                        refine xt_norm ?_
                        refine wp_ret (xb_ret (xt_ret (xt_ret (xb_ret (xt_ret ?_)))))
                        refine ret1 (fn := Try.f5) hA rfl rfl ?_
                        exfalso; omega)
                   · first
                     | (exfalso; omega)
                     | (replace hA := hA.rw 65 (v' := .bool false) rfl (vb_false hc103)
                        refine st_run tbOk 19 hA (e' := (84, .bool false) :: (83, .bool false) :: (82, .bool false) :: (81, .int .i64 0) :: (80, .bool true) :: (79, .bool true) :: (78, .bool false) :: (77, .bool false) :: (76, .bool false) :: (75, .bool false) :: (74, undef) :: (73, undef) :: (72, undef) :: (71, undef) :: (70, undef) :: (69, .bool false) :: (68, .bool false) :: (67, .bool false) :: (66, .bool false) :: _) rfl ?_; clear hA; intro a hA
                        refine wpList_nil ?_
                        replace hA := hA.sel [0, 2, 7, 8, 9, 84] (e' := [(0, .int .i64 id), (2, .int .u8 ((g : Nat) : Int)), (7, .pointer (some ⟨b2, 0, none⟩)), (8, .int .i64 ((1 + f : Nat) : Int)), (9, .int .i64 ((k + 1 : Nat) : Int)), (84, .bool false)]) rfl
                        refine xt_norm ?_
                        refine cd_cond_f hA rfl ?_
                        refine wp_skip ?_
                        refine xb_norm ?_
                        refine xt_norm ?_
                        refine wp_region_lit ?_
                        refine st_run tbOk 2 hA (e' := (33, .int .i64 (IntKind.i64.wrap (((k + 1 : Nat) : Int) + 1))) :: (32, .int .i64 ((k + 1 : Nat) : Int)) :: _) rfl ?_; clear hA; intro a hA
                        replace hA := hA.rw 33 (v' := .int .i64 (((k + 1) + 1 : Nat) : Int)) rfl (wr64 (by omega) (by omega) (by omega))
                        refine st_run tbOk 1 hA (e' := (9, .int .i64 (((k + 1) + 1 : Nat) : Int)) :: _) rfl ?_; clear hA; intro a hA
                        refine wpList_nil ?_
                        replace hA := hA.sel [0, 2, 7, 8, 9] (e' := [(0, .int .i64 id), (2, .int .u8 ((g : Nat) : Int)), (7, .pointer (some ⟨b2, 0, none⟩)), (8, .int .i64 ((1 + f : Nat) : Int)), (9, .int .i64 (((k + 1) + 1 : Nat) : Int))]) rfl
                        have hM104 : XR b2 (((k + 1 : Nat) : Int)) (one id ((1 + f : Nat) : Int) ((k + 1 : Nat) : Int)) L100 := (by rw [show ((k + 1 : Nat) : Int) = ((k : Nat) : Int) + 1 by omega]; exact hM102)
                        replace hS := hS.front 1 (C := C76) (L' := L100 :: F) rfl rfl
                        replace hS := hS.drop1
                        exact lp_next _ (by omega) ⟨(k + 1), L100, rfl, (hA.sel [0, 2, 7, 8, 9] rfl), hS, by omega, hM104⟩))))
  · first
    | (exfalso; omega)
    | (replace hA := hA.rw 31 (v' := .bool false) rfl (vb_false hc11)
       refine cd_cond_f hA rfl ?_
       refine wp_exit ?_
       refine xt_exit ?_
       refine xt_exit ?_
       refine cd_exit_eq ?_
       refine xt_norm ?_
       refine wp_seq ?_
       refine wp_region_lit ?_
       refine st_run tbOk 2 hA (e' := (86, .int .i64 id) :: (85, .pointer (some ⟨b2, 0, none⟩)) :: _) rfl ?_; clear hA; intro a hA
       refine st_call0 hA rfl rfl rfl isfn9 rfl rfl (by decide) (cancel1_out hS hM (by omega)) ?_
       clear hA hS; rintro v w106 a ⟨L105, hM107, rfl, hS⟩ hA
       refine st_run tbOk 2 hA (e' := (6, .bool true) :: (88, .bool true) :: _) rfl ?_; clear hA; intro a hA
       refine wpList_nil ?_
       replace hA := hA.sel [6] (e' := [(6, .bool true)]) rfl
       refine xt_norm ?_
       refine wp_ret ?_
       refine ret1 (fn := Try.f5) hA rfl rfl ?_
       replace hS := hS.drop1
       exact ⟨rfl, hS⟩)

end Go.Proofs.Ytlodnipimofpeaa
