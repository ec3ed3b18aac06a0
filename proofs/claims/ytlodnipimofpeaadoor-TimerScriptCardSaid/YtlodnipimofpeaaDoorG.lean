import Derived.Test.YtlodnipimofpeaaDoorProg
import Derived.Test.YtlodnipimofpeaaDoorAs
import Derived.Test.YtlodnipimofpeaaDoorSK11
set_option linter.unusedVariables false
set_option linter.unusedSimpArgs false
set_option maxRecDepth 4000
namespace Go.Proofs.YtlodnipimofpeaaDoor
open Go Go.SK
theorem mixed : Tryd.prog.follows .mixedOrders = true := by kernel_rfl
theorem isfn4 : IsFn Tryd.prog 4 := fun args w => by kernel_rfl
theorem isfn5 : IsFn Tryd.prog 5 := fun args w => by kernel_rfl
theorem isfn6 : IsFn Tryd.prog 6 := fun args w => by kernel_rfl
theorem isfn7 : IsFn Tryd.prog 7 := fun args w => by kernel_rfl
theorem isfn8 : IsFn Tryd.prog 8 := fun args w => by kernel_rfl
theorem isfn9 : IsFn Tryd.prog 9 := fun args w => by kernel_rfl
theorem isfn10 : IsFn Tryd.prog 10 := fun args w => by kernel_rfl
theorem isfn11 : IsFn Tryd.prog 11 := fun args w => by kernel_rfl
theorem isfn12 : IsFn Tryd.prog 12 := fun args w => by kernel_rfl
theorem isfn13 : IsFn Tryd.prog 13 := fun args w => by kernel_rfl
theorem isfn14 : IsFn Tryd.prog 14 := fun args w => by kernel_rfl
theorem isfn15 : IsFn Tryd.prog 15 := fun args w => by kernel_rfl
theorem isfn16 : IsFn Tryd.prog 16 := fun args w => by kernel_rfl
theorem isfn17 : IsFn Tryd.prog 17 := fun args w => by kernel_rfl
theorem isfn18 : IsFn Tryd.prog 18 := fun args w => by kernel_rfl
theorem isfn19 : IsFn Tryd.prog 19 := fun args w => by kernel_rfl
noncomputable def tb : List TI := [
  ⟨3, Tryd.t3.desc, 1, 8, .int .i64 0⟩,
  ⟨4, Tryd.t4.desc, 1, 1, .bool false⟩,
  ⟨5, Tryd.t5.desc, 1, 1, .int .u8 0⟩,
  ⟨21, Tryd.t21.desc, 1, 4, .int .i32 0⟩,
  ⟨22, Tryd.t22.desc, 1, 24, .slice none 0 0⟩,
  ⟨24, Tryd.t24.desc, 1, 8, .pointer none⟩,
  ⟨25, Tryd.t25.desc, 1, 24, .slice none 0 0⟩,
  ⟨27, Tryd.t26.desc, 2, 32, .agg #[.int .i64 0, .slice none 0 0]⟩,
  ⟨28, Tryd.t28.desc, 1, 24, .slice none 0 0⟩,
  ⟨30, Tryd.t30.desc, 1, 1, .int .i8 0⟩,
  ⟨32, Tryd.t31.desc, 3, 8, .agg #[.int .u8 0, .int .i8 0, .int .i32 0]⟩,
  ⟨34, Tryd.t33.desc, 1, 16, .nilIface⟩,
  ⟨36, Tryd.t3.desc, 1, 8, .int .i64 0⟩,
  ⟨46, Tryd.t45.desc, 2, 16, .agg #[.int .i64 0, .int .i64 0]⟩,
  ⟨50, Tryd.t50.desc, 1, 8, .pointer none⟩]
theorem tbOk : TabOk Tryd.prog tb := ⟨
  ⟨by kernel_rfl, Tryd.t3, by kernel_rfl, by kernel_rfl, by kernel_rfl, by kernel_rfl⟩,
  ⟨by kernel_rfl, Tryd.t4, by kernel_rfl, by kernel_rfl, by kernel_rfl, by kernel_rfl⟩,
  ⟨by kernel_rfl, Tryd.t5, by kernel_rfl, by kernel_rfl, by kernel_rfl, by kernel_rfl⟩,
  ⟨by kernel_rfl, Tryd.t21, by kernel_rfl, by kernel_rfl, by kernel_rfl, by kernel_rfl⟩,
  ⟨by kernel_rfl, Tryd.t22, by kernel_rfl, by kernel_rfl, by kernel_rfl, by kernel_rfl⟩,
  ⟨by kernel_rfl, Tryd.t24, by kernel_rfl, by kernel_rfl, by kernel_rfl, by kernel_rfl⟩,
  ⟨by kernel_rfl, Tryd.t25, by kernel_rfl, by kernel_rfl, by kernel_rfl, by kernel_rfl⟩,
  ⟨by kernel_rfl, Tryd.t27, by kernel_rfl, by kernel_rfl, by kernel_rfl, by kernel_rfl⟩,
  ⟨by kernel_rfl, Tryd.t28, by kernel_rfl, by kernel_rfl, by kernel_rfl, by kernel_rfl⟩,
  ⟨by kernel_rfl, Tryd.t30, by kernel_rfl, by kernel_rfl, by kernel_rfl, by kernel_rfl⟩,
  ⟨by kernel_rfl, Tryd.t32, by kernel_rfl, by kernel_rfl, by kernel_rfl, by kernel_rfl⟩,
  ⟨by kernel_rfl, Tryd.t34, by kernel_rfl, by kernel_rfl, by kernel_rfl, by kernel_rfl⟩,
  ⟨by kernel_rfl, Tryd.t36, by kernel_rfl, by kernel_rfl, by kernel_rfl, by kernel_rfl⟩,
  ⟨by kernel_rfl, Tryd.t46, by kernel_rfl, by kernel_rfl, by kernel_rfl, by kernel_rfl⟩,
  ⟨by kernel_rfl, Tryd.t50, by kernel_rfl, by kernel_rfl, by kernel_rfl, by kernel_rfl⟩,
  trivial⟩
def encAlarm (x : Int × Int) : List Value := [.int .i64 x.1, .int .i64 x.2]
theorem encAlarm_ok : Enc encAlarm 2 := ⟨fun _ => rfl, fun x u hu => by simp only [encAlarm, List.mem_cons, List.not_mem_nil, or_false] at hu; rcases hu with rfl | rfl <;> rfl⟩
def encAlarm_good (x : Int × Int) : Prop := (-9223372036854775808 ≤ x.1 ∧ x.1 < 9223372036854775808) ∧ (-9223372036854775808 ≤ x.2 ∧ x.2 < 9223372036854775808)

def encAct (x : Int × Int × Int) : List Value := [.int .u8 x.1, .int .i8 x.2.1, .int .i32 x.2.2]
theorem encAct_ok : Enc encAct 3 := ⟨fun _ => rfl, fun x u hu => by simp only [encAct, List.mem_cons, List.not_mem_nil, or_false] at hu; rcases hu with rfl | rfl | rfl <;> rfl⟩
def encAct_good (x : Int × Int × Int) : Prop := (0 ≤ x.1 ∧ x.1 < 256) ∧ (-128 ≤ x.2.1 ∧ x.2.1 < 128) ∧ (-2147483648 ≤ x.2.2 ∧ x.2.2 < 2147483648)

theorem clone14 {w0 w : World} {F : List Chunk} (hS : St w0 w F) {v : Value} {l : List (Int × Int)} (hr : RdS w0 F 2 v l.length (rows encAlarm l)) (hb : l.length * 16 ≤ 140737488355328) :
    Ret Tryd.prog 14 #[v] w (fun v w' => ∃ C, Own 46 2 v l.length (rows encAlarm l) C ∧ St w0 w' (C :: F)) := by
  rcases hr.cases hS with ⟨rfl, h0, h1⟩ | ⟨b, off, c, rfl, hmc, hcx⟩
  · obtain rfl := List.eq_nil_of_length_eq_zero h0
    refine enter (vs := [.slice none 0 0]) 8 Tryd.func14 rfl rfl (by simp) ?_; intro a hA
    refine wp_seq ?_
    refine wp_region_lit ?_
    refine st_run tbOk 1 hA (e' := (2, .slice none 0 0) :: _) rfl ?_; clear hA; intro a hA
    refine wpList_nil ?_
    replace hA := hA.sel [0] (e' := [(0, .slice none 0 0)]) rfl
    refine xt_norm ?_
    refine wp_seq ?_
    refine wp_seq ?_
    refine wp_region_lit ?_
    refine st_run tbOk 2 hA (e' := (4, .bool true) :: (3, .slice none 0 0) :: _) rfl ?_; clear hA; intro a hA
    refine wpList_nil ?_
    replace hA := hA.sel [0, 4] (e' := [(0, .slice none 0 0), (4, .bool true)]) rfl
    refine xt_norm ?_
    refine cd_cond_t hA rfl ?_
    refine wp_seq ?_
    refine wp_region_lit ?_
    refine st_run tbOk 1 hA (e' := (2, .slice none 0 0) :: _) rfl ?_; clear hA; intro a hA
    refine wpList_nil ?_
    replace hA := hA.sel [2] (e' := [(2, .slice none 0 0)]) rfl
    refine xt_norm ?_
    refine wp_ret (xt_ret ?_)
    refine ret1 (fn := Tryd.f14) hA rfl rfl ?_
    exact ⟨[], Own.nil _ _, hS.nil⟩
  · refine enter (vs := [.slice (some ⟨b, off, none⟩) l.length c]) 8 Tryd.func14 rfl rfl (by simp) ?_; intro a hA
    refine wp_seq ?_
    refine wp_region_lit ?_
    refine st_run tbOk 1 hA (e' := (2, .slice none 0 0) :: _) rfl ?_; clear hA; intro a hA
    refine wpList_nil ?_
    replace hA := hA.sel [0] (e' := [(0, .slice (some ⟨b, off, none⟩) l.length c)]) rfl
    refine xt_norm ?_
    refine wp_seq ?_
    refine wp_seq ?_
    refine wp_region_lit ?_
    refine st_run tbOk 2 hA (e' := (4, .bool false) :: (3, .slice (some ⟨b, off, none⟩) l.length c) :: _) rfl ?_; clear hA; intro a hA
    refine wpList_nil ?_
    replace hA := hA.sel [0, 4] (e' := [(0, .slice (some ⟨b, off, none⟩) l.length c), (4, .bool false)]) rfl
    refine xt_norm ?_
    refine cd_cond_f hA rfl ?_
    refine wp_skip ?_
    refine xt_norm ?_
    refine wp_seq ?_
    refine wp_region_lit ?_
    refine st_buildSlice tbOk hA hS [] rfl rfl rfl rfl rfl (by decide) (by kernel_rfl) rfl rfl (by decide) ?_; clear hA hS; intro b1 w2 a hS hA
    refine st_run tbOk 1 hA (e' := (6, .slice (some ⟨b, off, none⟩) l.length c) :: _) rfl ?_; clear hA; intro a hA
    refine st_append tbOk hA (m := 0) (q := l.length) (xs := rows encAlarm ([] : List (Int × Int))) (news := rows encAlarm l) rfl rfl rfl rfl rfl rfl rfl rfl (by decide) (Own.full (T := 46) (size := 2) (g := b1) (m := 0) rfl (by decide)) hS (hr _ (hS.tail 1 rfl)) (rows_one encAlarm_ok _) (maxLen_le (by omega)) (by show (0 + l.length) * 16 ≤ 140737488355328; omega) rfl rfl (by decide) ?_
    clear hA hS; intro v3 w4 C5 a hO5 hS hA
    replace hO5 := Own.app (l := ([] : List (Int × Int))) (l2 := l) hO5
    replace hO5 : Own 46 2 v3 l.length (rows encAlarm l) C5 := hO5
    obtain ⟨A6, c7, rfl, hmc7, hxc7⟩ := hO5.open'
    refine st_run tbOk 1 hA (e' := (2, .slice A6 l.length c7) :: _) rfl ?_; clear hA; intro a hA
    refine wpList_nil ?_
    replace hA := hA.sel [2] (e' := [(2, .slice A6 l.length c7)]) rfl
    refine xt_norm ?_
    refine wp_ret ?_
    refine ret1 (fn := Tryd.f14) hA rfl rfl ?_
    exact ⟨C5, hO5, hS⟩

theorem indexFunc19 {w0 w : World} {F : List Chunk} (hS : St w0 w F) {v : Value} {l : List (Int × Int)} (hr : RdS w0 F 2 v l.length (rows encAlarm l)) {g : Nat} {first cap : Array Value} {p : (Int × Int) → Bool} (hg : IsFn Tryd.prog g) (hp : Pred Tryd.prog w0 F g first cap (fun x => .agg (encAlarm x).toArray) p) :
    Ret Tryd.prog 19 #[v, .func (.func g) first cap] w (fun v w' => v = .int .i64 (idx p l) ∧ St w0 w' F) := by
  obtain ⟨A, c, rfl, hmc, hcx⟩ := (hr w hS).open'
  refine enter (vs := [.slice A l.length c, .func (.func g) first cap]) 19 Tryd.func19 rfl rfl (by simp) ?_; intro a hA
  refine wp_seq ?_
  refine wp_region_lit ?_
  refine st_run tbOk 1 hA (e' := (4, .int .i64 0) :: _) rfl ?_; clear hA; intro a hA
  refine wpList_nil ?_
  replace hA := hA.sel [0, 1] (e' := [(0, .slice A l.length c), (1, .func (.func g) first cap)]) rfl
  refine xt_norm ?_
  refine wp_seq ?_
  refine wp_seq ?_
  refine wp_region_lit ?_
  refine st_run tbOk 3 hA (e' := (8, .int .i64 0) :: (7, .int .i64 ((l.length : Nat) : Int)) :: (6, .slice A l.length c) :: _) rfl ?_; clear hA; intro a hA
  refine wpList_nil ?_
  replace hA := hA.sel [0, 1, 7, 8] (e' := [(0, .slice A l.length c), (1, .func (.func g) first cap), (7, .int .i64 ((l.length : Nat) : Int)), (8, .int .i64 0)]) rfl
  refine xt_norm ?_
  refine wp_block ?_
  refine wp_loop_ghost (fun m a w => ∃ (k : Nat), m = l.length - k ∧ Has a 19 [(0, .slice A l.length c), (1, .func (.func g) first cap), (7, .int .i64 ((l.length : Nat) : Int)), (8, .int .i64 ((k : Nat) : Int))] ∧ St w0 w (F) ∧ (k ≤ l.length) ∧ (∀ (i : Nat) (y : (Int × Int)), i < k → l[i]? = some y → p y = false)) (l.length - 0)
    ⟨0, rfl, (hA.sel [0, 1, 7, 8] rfl), hS, Nat.zero_le _, fun i y hi => absurd hi (by omega)⟩ ?_
  clear hA hS; rintro m0 a w1 ⟨k, rfl, hA, hS, hk, hb⟩
  refine wp_seq ?_
  refine wp_region_lit ?_
  refine st_run tbOk 1 hA (e' := (9, .bool (decide (((k : Nat) : Int) < ((l.length : Nat) : Int)))) :: _) rfl ?_; clear hA; intro a hA
  refine wpList_nil ?_
  refine xt_norm ?_
  refine wp_seq ?_
  by_cases hc2 : ((k : Nat) : Int) < ((l.length : Nat) : Int)
  · first
    | (exfalso; omega)
    | (replace hA := hA.rw 9 (v' := .bool true) rfl (vb_true hc2)
       refine cd_cond_t hA rfl ?_
       refine wp_skip ?_
       refine xt_norm ?_
       refine wp_seq ?_
       refine wp_block ?_
       refine wp_seq ?_
       refine wp_region_lit ?_
       refine st_run tbOk 2 hA (e' := (5, .int .i64 ((k : Nat) : Int)) :: (10, .int .i64 ((k : Nat) : Int)) :: _) rfl ?_; clear hA; intro a hA
       refine wpList_nil ?_
       replace hA := hA.sel [0, 1, 5, 7, 8] (e' := [(0, .slice A l.length c), (1, .func (.func g) first cap), (5, .int .i64 ((k : Nat) : Int)), (7, .int .i64 ((l.length : Nat) : Int)), (8, .int .i64 ((k : Nat) : Int))]) rfl
       refine xt_norm ?_
       refine wp_seq ?_
       refine wp_region_lit ?_
       refine st_run tbOk 3 hA (e' := (13, .int .i64 ((k : Nat) : Int)) :: (12, .slice A l.length c) :: (11, .func (.func g) first cap) :: _) rfl ?_; clear hA; intro a hA
       obtain ⟨b3, o4, rfl⟩ := (hr _ hS).isSome (k := k) (by omega)
       refine st_val hA rfl rfl (by decide) (rn_indexAddr tbOk hA k (o4 + (k * 2)) rfl rfl rfl rfl rfl rfl (by rfl) (by omega) (by first | rfl | simp [Nat.mul_one, Nat.zero_add] | omega)) ?_; clear hA; intro a hA
       obtain ⟨x5, hx5⟩ := get_ex (l := l) (k := k) (by omega)
       refine st_val hA rfl rfl (by decide) (rn_loadA tbOk hA ([.int .i64 x5.1, .int .i64 x5.2]) rfl rfl rfl rfl (by rfl) ((hr _ hS).elem (k := k) encAlarm_ok hx5)) ?_; clear hA; intro a hA
       refine st_call hA rfl rfl rfl rfl hg rfl rfl (by decide) (hp _ x5 hS) ?_
       clear hA; rintro v w6 a ⟨rfl, hS'⟩ hA; replace hS : St w0 w6 (F) := hS.trans hS'
       refine wpList_nil ?_
       replace hA := hA.sel [0, 1, 5, 7, 8, 16] (e' := [(0, .slice (some ⟨b3, o4, none⟩) l.length c), (1, .func (.func g) first cap), (5, .int .i64 ((k : Nat) : Int)), (7, .int .i64 ((l.length : Nat) : Int)), (8, .int .i64 ((k : Nat) : Int)), (16, .bool (p x5))]) rfl
       refine xt_norm ?_
       by_cases hpx : (p x5) = true
       · first
         | (exfalso; omega)
         | (replace hA := hA.rw 16 (v' := .bool true) rfl (vb_t hpx)
            refine cd_cond_t hA rfl ?_
            refine wp_seq ?_
            refine wp_region_lit ?_
            refine st_run tbOk 2 hA (e' := (4, .int .i64 ((k : Nat) : Int)) :: (17, .int .i64 ((k : Nat) : Int)) :: _) rfl ?_; clear hA; intro a hA
            refine wpList_nil ?_
            replace hA := hA.sel [4] (e' := [(4, .int .i64 ((k : Nat) : Int))]) rfl
            refine xt_norm ?_
            refine wp_ret (xb_ret (xt_ret (xt_ret (xb_ret (xt_ret ?_)))))
            refine ret1 (fn := Tryd.f19) hA rfl rfl ?_
            exact ⟨vint (idx_some hx5 hpx (fun i y hi hy => hb i y hi hy)).symm, hS⟩)
       · first
         | (exfalso; omega)
         | (replace hA := hA.rw 16 (v' := .bool false) rfl (vb_f hpx)
            refine cd_cond_f hA rfl ?_
            refine wp_skip ?_
            refine xb_norm ?_
            refine xt_norm ?_
            refine wp_region_lit ?_
            refine st_run tbOk 1 hA (e' := (18, .int .i64 (IntKind.i64.wrap (((k : Nat) : Int) + 1))) :: _) rfl ?_; clear hA; intro a hA
            replace hA := hA.rw 18 (v' := .int .i64 ((k + 1 : Nat) : Int)) rfl (wr64 (by omega) (by omega) (by omega))
            refine st_run tbOk 1 hA (e' := (8, .int .i64 ((k + 1 : Nat) : Int)) :: _) rfl ?_; clear hA; intro a hA
            refine wpList_nil ?_
            replace hA := hA.sel [0, 1, 7, 8] (e' := [(0, .slice (some ⟨b3, o4, none⟩) l.length c), (1, .func (.func g) first cap), (7, .int .i64 ((l.length : Nat) : Int)), (8, .int .i64 ((k + 1 : Nat) : Int))]) rfl
            exact lp_next _ (by omega) ⟨(k + 1), rfl, (hA.sel [0, 1, 7, 8] rfl), hS, by omega, fun i y hi hy => (Nat.lt_succ_iff_lt_or_eq.1 hi).elim (fun h => hb i y h hy) (fun h => by subst h; rw [hx5] at hy; injection hy with hy; subst hy; simpa using hpx)⟩))
  · first
    | (exfalso; omega)
    | (replace hA := hA.rw 9 (v' := .bool false) rfl (vb_false hc2)
       refine cd_cond_f hA rfl ?_
       refine wp_exit ?_
       refine xt_exit ?_
       refine xt_exit ?_
       refine cd_exit_eq ?_
       refine xt_norm ?_
       refine wp_seq ?_
       refine wp_region_lit ?_
       refine st_run tbOk 1 hA (e' := (4, .int .i64 (-1)) :: _) rfl ?_; clear hA; intro a hA
       refine wpList_nil ?_
       replace hA := hA.sel [4] (e' := [(4, .int .i64 (-1))]) rfl
       refine xt_norm ?_
       refine wp_ret ?_
       refine ret1 (fn := Tryd.f19) hA rfl rfl ?_
       exact ⟨vint (idx_none (fun i y hy => hb i y (by have := (List.getElem?_eq_some_iff.1 hy).1; omega) hy)).symm, hS⟩)

theorem deleteFunc13 {w0 w : World} {F : List Chunk} {C : Chunk} (hS : St w0 w (C :: F)) {v : Value} {l : List (Int × Int)} (hO : Own 46 2 v l.length (rows encAlarm l) C) {g : Nat} {first cap : Array Value} {p : (Int × Int) → Bool} (hg : IsFn Tryd.prog g) (hp : Pred Tryd.prog w0 F g first cap (fun x => .agg (encAlarm x).toArray) p) :
    Ret Tryd.prog 13 #[v, .func (.func g) first cap] w (fun v w' => ∃ C', Own 46 2 v (l.filter (fun x => !p x)).length (rows encAlarm (l.filter (fun x => !p x))) C' ∧ St w0 w' (C' :: F)) := by
  obtain ⟨A, c, rfl, hmc, hcx⟩ := hO.open'
  refine enter (vs := [.slice A l.length c, .func (.func g) first cap]) 42 Tryd.func13 rfl rfl (by simp) ?_; intro a hA
  refine wp_seq ?_
  refine wp_region_lit ?_
  refine st_run tbOk 1 hA (e' := (4, .slice none 0 0) :: _) rfl ?_; clear hA; intro a hA
  refine wpList_nil ?_
  replace hA := hA.sel [0, 1] (e' := [(0, .slice A l.length c), (1, .func (.func g) first cap)]) rfl
  refine xt_norm ?_
  refine wp_seq ?_
  refine wp_region_lit ?_
  refine st_run tbOk 2 hA (e' := (9, .func (.func g) first cap) :: (8, .slice A l.length c) :: _) rfl ?_; clear hA; intro a hA
  refine st_call0 hA rfl rfl rfl isfn19 rfl rfl (by decide) (indexFunc19 hS (l := l) (RdS.own hO 0 rfl) hg hp.cons) ?_
  clear hA hS; rintro v w1 a ⟨rfl, hS⟩ hA
  refine st_run tbOk 1 hA (e' := (5, .int .i64 (idx p l)) :: _) rfl ?_; clear hA; intro a hA
  refine wpList_nil ?_
  replace hA := hA.sel [0, 1, 5] (e' := [(0, .slice A l.length c), (1, .func (.func g) first cap), (5, .int .i64 (idx p l))]) rfl
  refine xt_norm ?_
  refine wp_seq ?_
  refine wp_seq ?_
  rcases idx_cases p l with ⟨hi, hf⟩ | ⟨k, x0, hi, hx0, hpx0, hb⟩
  · replace hA := hA.rw 5 (v' := .int .i64 (-1)) rfl (by rw [hi])
    refine wp_region_lit ?_
    refine st_run tbOk 2 hA (e' := (12, .bool true) :: (11, .int .i64 (-1)) :: _) rfl ?_; clear hA; intro a hA
    refine wpList_nil ?_
    replace hA := hA.sel [0, 1, 5, 12] (e' := [(0, .slice A l.length c), (1, .func (.func g) first cap), (5, .int .i64 (-1)), (12, .bool true)]) rfl
    refine xt_norm ?_
    refine cd_cond_t hA rfl ?_
    refine wp_seq ?_
    refine wp_region_lit ?_
    refine st_run tbOk 2 hA (e' := (4, .slice A l.length c) :: (13, .slice A l.length c) :: _) rfl ?_; clear hA; intro a hA
    refine wpList_nil ?_
    replace hA := hA.sel [4] (e' := [(4, .slice A l.length c)]) rfl
    refine xt_norm ?_
    refine wp_ret (xt_ret ?_)
    refine ret1 (fn := Tryd.f13) hA rfl rfl ?_
    have hfl : l.filter (fun x => !p x) = l := List.filter_eq_self.2 (fun y hy => by obtain ⟨i, hi⟩ := List.mem_iff_getElem?.1 hy; simp [hf i y hi])
    exact ⟨C, by rw [hfl]; exact hO, hS⟩
  · replace hA := hA.rw 5 (v' := .int .i64 ((k : Nat) : Int)) rfl (by rw [hi])
    have hkl := (List.getElem?_eq_some_iff.1 hx0).1
    refine wp_region_lit ?_
    refine st_run tbOk 2 hA (e' := (12, .bool (((k : Nat) : Int) == (-1))) :: (11, .int .i64 ((k : Nat) : Int)) :: _) rfl ?_; clear hA; intro a hA
    refine wpList_nil ?_
    replace hA := hA.sel [0, 1, 5, 12] (e' := [(0, .slice A l.length c), (1, .func (.func g) first cap), (5, .int .i64 ((k : Nat) : Int)), (12, .bool (((k : Nat) : Int) == (-1)))]) rfl
    refine xt_norm ?_
    by_cases hc2 : ((k : Nat) : Int) = (-1)
    · first
      | (exfalso; omega)
      | (replace hA := hA.rw 12 (v' := .bool true) rfl (vb_eq_t hc2)
         refine cd_cond_t hA rfl ?_
         refine wp_seq ?_
         refine wp_region_lit ?_
         refine st_run tbOk 2 hA (e' := (4, .slice A l.length c) :: (13, .slice A l.length c) :: _) rfl ?_; clear hA; intro a hA
         refine wpList_nil ?_
         replace hA := hA.sel [4] (e' := [(4, .slice A l.length c)]) rfl
         refine xt_norm ?_
         refine wp_ret (xt_ret ?_)
         refine ret1 (fn := Tryd.f13) hA rfl rfl ?_
         have hfl : l.filter (fun x => !p x) = l := List.filter_eq_self.2 (fun y hy => by obtain ⟨i, hi⟩ := List.mem_iff_getElem?.1 hy; simp [hf i y hi])
         exact ⟨C, by rw [hfl]; exact hO, hS⟩)
    · first
      | (exfalso; omega)
      | (replace hA := hA.rw 12 (v' := .bool false) rfl (vb_eq_f hc2)
         refine cd_cond_f hA rfl ?_
         refine wp_skip ?_
         refine xt_norm ?_
         refine wp_seq ?_
         refine wp_seq ?_
         refine wp_region_lit ?_
         refine st_run tbOk 2 hA (e' := (15, .int .i64 (IntKind.i64.wrap (((k : Nat) : Int) + 1))) :: (14, .int .i64 ((k : Nat) : Int)) :: _) rfl ?_; clear hA; intro a hA
         replace hA := hA.rw 15 (v' := .int .i64 ((k + 1 : Nat) : Int)) rfl (wr64 (by omega) (by omega) (by omega))
         refine st_run tbOk 1 hA (e' := (6, .int .i64 ((k + 1 : Nat) : Int)) :: _) rfl ?_; clear hA; intro a hA
         refine wpList_nil ?_
         replace hA := hA.sel [0, 1, 5, 6] (e' := [(0, .slice A l.length c), (1, .func (.func g) first cap), (5, .int .i64 ((k : Nat) : Int)), (6, .int .i64 ((k + 1 : Nat) : Int))]) rfl
         refine xt_norm ?_
         refine wp_block ?_
         have hk1 : (kept p l (k + 1)).length = k := by rw [kept_step hx0, if_pos hpx0, kept_first hb, List.length_take]; omega
         replace hA := hA.rw 5 (v' := .int .i64 (((kept p l (k + 1)).length : Nat) : Int)) rfl (by rw [hk1])
         refine wp_loop_ghost (fun m a w => ∃ (j : Nat) (C : Chunk), m = l.length - j ∧ Has a 42 [(0, .slice A l.length c), (1, .func (.func g) first cap), (5, .int .i64 (((kept p l j).length : Nat) : Int)), (6, .int .i64 ((j : Nat) : Int))] ∧ St w0 w (C :: F) ∧ (k < j) ∧ (j ≤ l.length) ∧ (Own 46 2 (.slice A l.length c) l.length (rows encAlarm (mid p l j)) C)) (l.length - (k + 1))
           ⟨(k + 1), C, rfl, (hA.sel [0, 1, 5, 6] rfl), hS, by omega, by omega, by rw [mid_no hx0 hpx0, mid_first (by omega) hb]; exact hO⟩ ?_
         clear hA hS; rintro m0 a w3 ⟨j, C, rfl, hA, hS, hj1, hj, hO⟩
         have hkj := kept_le p l j
         refine wp_seq ?_
         refine wp_seq ?_
         refine wp_region_lit ?_
         refine st_run tbOk 4 hA (e' := (19, .bool (decide (((j : Nat) : Int) < ((l.length : Nat) : Int)))) :: (18, .int .i64 ((l.length : Nat) : Int)) :: (17, .slice A l.length c) :: (16, .int .i64 ((j : Nat) : Int)) :: _) rfl ?_; clear hA; intro a hA
         refine wpList_nil ?_
         replace hA := hA.sel [0, 1, 5, 6, 19] (e' := [(0, .slice A l.length c), (1, .func (.func g) first cap), (5, .int .i64 (((kept p l j).length : Nat) : Int)), (6, .int .i64 ((j : Nat) : Int)), (19, .bool (decide (((j : Nat) : Int) < ((l.length : Nat) : Int))))]) rfl
         refine xt_norm ?_
         by_cases hc4 : ((j : Nat) : Int) < ((l.length : Nat) : Int)
         · first
           | (exfalso; omega)
           | (replace hA := hA.rw 19 (v' := .bool true) rfl (vb_true hc4)
              refine cd_cond_t hA rfl ?_
              refine wp_skip ?_
              refine xt_norm ?_
              refine wp_seq ?_
              refine wp_block ?_
              refine wp_seq ?_
              refine wp_region_lit ?_
              refine st_run tbOk 2 hA (e' := (23, .int .i64 ((j : Nat) : Int)) :: (22, .slice A l.length c) :: _) rfl ?_; clear hA; intro a hA
              obtain ⟨b5, o6, rfl⟩ := hO.isSome (k := j) (by omega)
              refine st_val hA rfl rfl (by decide) (rn_indexAddr tbOk hA j (o6 + (j * 2)) rfl rfl rfl rfl rfl rfl (by rfl) (by omega) (by first | rfl | simp [Nat.mul_one, Nat.zero_add] | omega)) ?_; clear hA; intro a hA
              obtain ⟨x7, hx7⟩ := get_ex (l := l) (k := j) (by omega)
              have gx7 := (mid_at (p := p) (l := l) (Nat.le_refl j)).trans hx7
              refine st_val hA rfl rfl (by decide) (rn_loadA tbOk hA ([.int .i64 x7.1, .int .i64 x7.2]) rfl rfl rfl rfl (by rfl) ((hO.rd (hS.own_ 0 rfl)).elem (k := j) encAlarm_ok gx7)) ?_; clear hA; intro a hA
              refine st_alloc tbOk hA hS [.int .i64 0, .int .i64 0] rfl rfl rfl rfl rfl (by decide) ?_; clear hA hS; intro b8 w9 a hS hA
              refine st_store tbOk hA hS [.int .i64 x7.1, .int .i64 x7.2] [.int .i64 x7.1, .int .i64 x7.2] rfl rfl rfl rfl rfl rfl (by simp [Value.oneCell']) (Nat.le_of_ble_eq_true rfl) rfl rfl rfl ?_; clear hS; intro w10 hS
              refine wpList_nil ?_
              replace hA := hA.sel [0, 1, 5, 6, 7] (e' := [(0, .slice (some ⟨b5, o6, none⟩) l.length c), (1, .func (.func g) first cap), (5, .int .i64 (((kept p l j).length : Nat) : Int)), (6, .int .i64 ((j : Nat) : Int)), (7, .pointer (some ⟨b8, 0, none⟩))]) rfl
              refine xt_norm ?_
              refine wp_seq ?_
              refine wp_region_lit ?_
              refine st_run tbOk 1 hA (e' := (26, .func (.func g) first cap) :: _) rfl ?_; clear hA; intro a hA
              refine st_val hA rfl rfl (by decide) (rn_loadA tbOk hA [.int .i64 x7.1, .int .i64 x7.2] rfl rfl rfl rfl rfl (cells_row (hS.heapAt 0 rfl) rfl)) ?_; clear hA; intro a hA
              refine st_call hA rfl rfl rfl rfl hg rfl rfl (by decide) (hp _ x7 (hS.tail 2 rfl)) ?_
              clear hA; rintro v w11 a ⟨rfl, hS'⟩ hA; replace hS : St w0 w11 ([(b8, rowO [.int .i64 x7.1, .int .i64 x7.2] 46)] :: C :: F) := hS.trans hS'
              by_cases hpx : (p x7) = true
              · first
                | (exfalso; omega)
                | (replace hA := hA.rw 28 (v' := .bool true) rfl (vb_t hpx)
                   refine st_run tbOk 1 hA (e' := (29, .bool false) :: _) rfl ?_; clear hA; intro a hA
                   refine wpList_nil ?_
                   replace hA := hA.sel [0, 1, 5, 6, 7, 29] (e' := [(0, .slice (some ⟨b5, o6, none⟩) l.length c), (1, .func (.func g) first cap), (5, .int .i64 (((kept p l j).length : Nat) : Int)), (6, .int .i64 ((j : Nat) : Int)), (7, .pointer (some ⟨b8, 0, none⟩)), (29, .bool false)]) rfl
                   refine xt_norm ?_
                   refine cd_cond_f hA rfl ?_
                   refine wp_skip ?_
                   refine xb_norm ?_
                   refine xt_norm ?_
                   refine wp_region_lit ?_
                   refine st_run tbOk 2 hA (e' := (21, .int .i64 (IntKind.i64.wrap (((j : Nat) : Int) + 1))) :: (20, .int .i64 ((j : Nat) : Int)) :: _) rfl ?_; clear hA; intro a hA
                   replace hA := hA.rw 21 (v' := .int .i64 ((j + 1 : Nat) : Int)) rfl (wr64 (by omega) (by omega) (by omega))
                   refine st_run tbOk 1 hA (e' := (6, .int .i64 ((j + 1 : Nat) : Int)) :: _) rfl ?_; clear hA; intro a hA
                   refine wpList_nil ?_
                   replace hA := hA.sel [0, 1, 5, 6] (e' := [(0, .slice (some ⟨b5, o6, none⟩) l.length c), (1, .func (.func g) first cap), (5, .int .i64 (((kept p l j).length : Nat) : Int)), (6, .int .i64 ((j + 1 : Nat) : Int))]) rfl
                   have h2 : (kept p l (j + 1)).length = (kept p l j).length := by rw [kept_step hx7, if_pos (by simpa using hpx)]
                   have h3 : Own 46 2 (.slice (some ⟨b5, o6, none⟩) l.length c) l.length (rows encAlarm (mid p l (j + 1))) C := by rw [mid_no hx7 (by simpa using hpx)]; exact hO
                   replace hA := hA.rw 5 (v' := .int .i64 (((kept p l (j + 1)).length : Nat) : Int)) rfl (by rw [h2])
                   replace hS := hS.drop1
                   exact lp_next _ (by omega) ⟨(j + 1), C, rfl, (hA.sel [0, 1, 5, 6] rfl), hS, by omega, by omega, h3⟩)
              · first
                | (exfalso; omega)
                | (replace hA := hA.rw 28 (v' := .bool false) rfl (vb_f hpx)
                   refine st_run tbOk 1 hA (e' := (29, .bool true) :: _) rfl ?_; clear hA; intro a hA
                   refine wpList_nil ?_
                   replace hA := hA.sel [0, 1, 5, 6, 7, 29] (e' := [(0, .slice (some ⟨b5, o6, none⟩) l.length c), (1, .func (.func g) first cap), (5, .int .i64 (((kept p l j).length : Nat) : Int)), (6, .int .i64 ((j : Nat) : Int)), (7, .pointer (some ⟨b8, 0, none⟩)), (29, .bool true)]) rfl
                   refine xt_norm ?_
                   refine cd_cond_t hA rfl ?_
                   refine wp_seq ?_
                   refine wp_region_lit ?_
                   refine st_run tbOk 2 hA (e' := (31, .int .i64 (((kept p l j).length : Nat) : Int)) :: (30, .slice (some ⟨b5, o6, none⟩) l.length c) :: _) rfl ?_; clear hA; intro a hA
                   refine st_val hA rfl rfl (by decide) (rn_loadA tbOk hA [.int .i64 x7.1, .int .i64 x7.2] rfl rfl rfl rfl rfl (cells_row (hS.heapAt 0 rfl) rfl)) ?_; clear hA; intro a hA
                   refine st_val hA rfl rfl (by decide) (rn_indexAddr tbOk hA ((kept p l j).length) (o6 + (((kept p l j).length) * 2)) rfl rfl rfl rfl rfl rfl (by rfl) (by omega) (by first | rfl | simp [Nat.mul_one, Nat.zero_add] | omega)) ?_; clear hA; intro a hA
                   replace hS := hS.front 1 (C := C) (L' := [(b8, rowO [.int .i64 x7.1, .int .i64 x7.2] 46)] :: F) rfl rfl
                   refine st_store_own tbOk hA hO hS ((((kept p l j).length) * 2)) (o6 + (((kept p l j).length) * 2)) [.int .i64 x7.1, .int .i64 x7.2] (rows encAlarm ((mid p l j).set (kept p l j).length x7)) rfl rfl rfl rfl (by rfl) rfl rfl (by exact encAlarm_ok.one x7) (by rw [rows_length encAlarm_ok, mid_length]; have := kept_le p l j; have := Nat.mul_le_mul_right 2 (show (kept p l j).length + 1 ≤ l.length by omega); simp only [List.length_cons, List.length_nil]; omega) ((congrArg _ rfl).trans (rows_set encAlarm_ok (by rw [mid_length]; have := kept_le p l j; omega))) rfl rfl ?_; clear hS; intro w12 C13 hO13 hS
                   refine wpList_nil ?_
                   replace hA := hA.sel [0, 1, 5, 6] (e' := [(0, .slice (some ⟨b5, o6, none⟩) l.length c), (1, .func (.func g) first cap), (5, .int .i64 (((kept p l j).length : Nat) : Int)), (6, .int .i64 ((j : Nat) : Int))]) rfl
                   refine xt_norm ?_
                   refine wp_region_lit ?_
                   refine st_run tbOk 2 hA (e' := (35, .int .i64 (IntKind.i64.wrap ((((kept p l j).length : Nat) : Int) + 1))) :: (34, .int .i64 (((kept p l j).length : Nat) : Int)) :: _) rfl ?_; clear hA; intro a hA
                   replace hA := hA.rw 35 (v' := .int .i64 ((((kept p l j).length) + 1 : Nat) : Int)) rfl (wr64 (by omega) (by omega) (by omega))
                   refine st_run tbOk 1 hA (e' := (5, .int .i64 ((((kept p l j).length) + 1 : Nat) : Int)) :: _) rfl ?_; clear hA; intro a hA
                   refine wpList_nil ?_
                   replace hA := hA.sel [0, 1, 5, 6] (e' := [(0, .slice (some ⟨b5, o6, none⟩) l.length c), (1, .func (.func g) first cap), (5, .int .i64 ((((kept p l j).length) + 1 : Nat) : Int)), (6, .int .i64 ((j : Nat) : Int))]) rfl
                   refine xb_norm ?_
                   refine xt_norm ?_
                   refine wp_region_lit ?_
                   refine st_run tbOk 2 hA (e' := (21, .int .i64 (IntKind.i64.wrap (((j : Nat) : Int) + 1))) :: (20, .int .i64 ((j : Nat) : Int)) :: _) rfl ?_; clear hA; intro a hA
                   replace hA := hA.rw 21 (v' := .int .i64 ((j + 1 : Nat) : Int)) rfl (wr64 (by omega) (by omega) (by omega))
                   refine st_run tbOk 1 hA (e' := (6, .int .i64 ((j + 1 : Nat) : Int)) :: _) rfl ?_; clear hA; intro a hA
                   refine wpList_nil ?_
                   replace hA := hA.sel [0, 1, 5, 6] (e' := [(0, .slice (some ⟨b5, o6, none⟩) l.length c), (1, .func (.func g) first cap), (5, .int .i64 ((((kept p l j).length) + 1 : Nat) : Int)), (6, .int .i64 ((j + 1 : Nat) : Int))]) rfl
                   have h2 : (kept p l (j + 1)).length = (kept p l j).length + 1 := by rw [kept_step hx7, if_neg (by simpa using hpx), List.length_append]; rfl
                   have h3 : Own 46 2 (.slice (some ⟨b5, o6, none⟩) l.length c) l.length (rows encAlarm (mid p l (j + 1))) C13 := by rw [mid_yes hx7 (by simpa using hpx)]; exact hO13
                   replace hA := hA.rw 5 (v' := .int .i64 (((kept p l (j + 1)).length : Nat) : Int)) rfl (by rw [h2])
                   replace hS := hS.front 1 (C := [(b8, rowO [.int .i64 x7.1, .int .i64 x7.2] 46)]) (L' := C13 :: F) rfl rfl
                   replace hS := hS.drop1
                   exact lp_next _ (by omega) ⟨(j + 1), C13, rfl, (hA.sel [0, 1, 5, 6] rfl), hS, by omega, by omega, h3⟩))
         · first
           | (exfalso; omega)
           | (replace hA := hA.rw 19 (v' := .bool false) rfl (vb_false hc4)
              refine cd_cond_f hA rfl ?_
              refine wp_exit ?_
              refine xt_exit ?_
              refine xt_exit ?_
              refine cd_exit_eq ?_
              refine xt_norm ?_
              refine wp_seq ?_
              refine wp_region_lit ?_
              refine st_run tbOk 2 hA (e' := (37, .int .i64 (((kept p l j).length : Nat) : Int)) :: (36, .slice A l.length c) :: _) rfl ?_; clear hA; intro a hA
              refine st_val hA rfl rfl (by decide) (rn_slice_l tbOk hA ((kept p l j).length) rfl rfl rfl rfl rfl rfl (by rfl) (by omega)) ?_; clear hA; intro a hA
              refine st_clear tbOk hA (h := (kept p l j).length) (old := l.length) (c := c) rfl rfl rfl rfl rfl rfl (fun u hu => List.all_eq_true.1 (by rfl) u hu) (hO.head (kept p l j).length (by omega)) hS (by omega) (by omega) rfl rfl ?_; clear hS; intro w14 C15 hO15 hS
              obtain rfl : j = l.length := by omega
              rw [rows_take encAlarm_ok, mid_head, kept_all] at hO15
              have e1 : (kept p l l.length).length = (l.filter (fun x => !p x)).length := by rw [kept_all]
              refine wpList_nil ?_
              replace hA := hA.sel [0, 5] (e' := [(0, .slice A l.length c), (5, .int .i64 (((kept p l l.length).length : Nat) : Int))]) rfl
              refine xt_norm ?_
              refine wp_seq ?_
              refine wp_region_lit ?_
              refine st_run tbOk 2 hA (e' := (40, .int .i64 (((kept p l l.length).length : Nat) : Int)) :: (39, .slice A l.length c) :: _) rfl ?_; clear hA; intro a hA
              refine st_val hA rfl rfl (by decide) (rn_slice_h tbOk hA ((kept p l l.length).length) rfl rfl rfl rfl rfl rfl (by rfl) (by omega)) ?_; clear hA; intro a hA
              refine st_run tbOk 1 hA (e' := (4, .slice A ((kept p l l.length).length) c) :: _) rfl ?_; clear hA; intro a hA
              refine wpList_nil ?_
              replace hA := hA.sel [4] (e' := [(4, .slice A ((kept p l l.length).length) c)]) rfl
              refine xt_norm ?_
              refine wp_ret ?_
              refine ret1 (fn := Tryd.f13) hA rfl rfl ?_
              exact ⟨_, (e1 ▸ hO15), hS⟩))

theorem same_len {xs ys : List Int} (h : xs.length ≠ ys.length) : ¬ xs = ys := fun e => h (by rw [e])
theorem same_ne {xs ys : List Int} {k : Nat} {x y : Int} (hx : xs[k]? = some x) (hy : ys[k]? = some y) (h : ¬ x = y) : ¬ xs = ys := fun e => by
  subst e; rw [hx] at hy; injection hy with hy; exact h hy
theorem same_all {xs ys : List Int} (h : xs.length = ys.length) (ha : ∀ (i : Nat), i < xs.length → xs[i]? = ys[i]?) : xs = ys := by
  apply List.ext_getElem? 
  intro i
  by_cases hi : i < xs.length
  · exact ha i hi
  · rw [List.getElem?_eq_none (by omega), List.getElem?_eq_none (by omega)]
theorem same9 {w0 w : World} {F : List Chunk} (hS : St w0 w F) {va vb : Value} {xs ys : List Int} (ha : RdS w0 F 1 va xs.length (rows encI xs)) (hb : RdS w0 F 1 vb ys.length (rows encI ys)) :
    Ret Tryd.prog 9 #[va, vb] w (fun v w' => v = .bool (decide (xs = ys)) ∧ St w0 w' F) := by
  obtain ⟨A1, c1, rfl, hm1, hx1⟩ := (ha w hS).open'
  obtain ⟨A2, c2, rfl, hm2, hx2⟩ := (hb w hS).open'
  refine enter (vs := [.slice A1 xs.length c1, .slice A2 ys.length c2]) 26 Tryd.func9 rfl rfl (by simp) ?_; intro a hA
  refine wp_seq ?_
  refine wp_region_lit ?_
  refine st_run tbOk 1 hA (e' := (4, .bool false) :: _) rfl ?_; clear hA; intro a hA
  refine wpList_nil ?_
  replace hA := hA.sel [0, 1] (e' := [(0, .slice A1 xs.length c1), (1, .slice A2 ys.length c2)]) rfl
  refine xt_norm ?_
  refine wp_seq ?_
  refine wp_seq ?_
  refine wp_region_lit ?_
  refine st_run tbOk 5 hA (e' := (10, .bool (((xs.length : Nat) : Int) != ((ys.length : Nat) : Int))) :: (9, .int .i64 ((ys.length : Nat) : Int)) :: (8, .slice A2 ys.length c2) :: (7, .int .i64 ((xs.length : Nat) : Int)) :: (6, .slice A1 xs.length c1) :: _) rfl ?_; clear hA; intro a hA
  refine wpList_nil ?_
  replace hA := hA.sel [0, 1, 10] (e' := [(0, .slice A1 xs.length c1), (1, .slice A2 ys.length c2), (10, .bool (((xs.length : Nat) : Int) != ((ys.length : Nat) : Int)))]) rfl
  refine xt_norm ?_
  by_cases hc1 : ((xs.length : Nat) : Int) = ((ys.length : Nat) : Int)
  · first
    | (exfalso; omega)
    | (replace hA := hA.rw 10 (v' := .bool false) rfl (vb_ne_f hc1)
       refine cd_cond_f hA rfl ?_
       refine wp_skip ?_
       refine xt_norm ?_
       refine wp_seq ?_
       refine wp_seq ?_
       refine wp_region_lit ?_
       refine st_run tbOk 3 hA (e' := (13, .int .i64 0) :: (12, .int .i64 ((xs.length : Nat) : Int)) :: (11, .slice A1 xs.length c1) :: _) rfl ?_; clear hA; intro a hA
       refine wpList_nil ?_
       replace hA := hA.sel [0, 1, 12, 13] (e' := [(0, .slice A1 xs.length c1), (1, .slice A2 ys.length c2), (12, .int .i64 ((xs.length : Nat) : Int)), (13, .int .i64 0)]) rfl
       refine xt_norm ?_
       refine wp_block ?_
       refine wp_loop_ghost (fun m a w => ∃ (k : Nat), m = xs.length - k ∧ Has a 26 [(0, .slice A1 xs.length c1), (1, .slice A2 ys.length c2), (12, .int .i64 ((xs.length : Nat) : Int)), (13, .int .i64 ((k : Nat) : Int))] ∧ St w0 w (F) ∧ (k ≤ xs.length) ∧ (∀ (i : Nat), i < k → xs[i]? = ys[i]?)) (xs.length - 0)
         ⟨0, rfl, (hA.sel [0, 1, 12, 13] rfl), hS, Nat.zero_le _, fun i hi => absurd hi (by omega)⟩ ?_
       clear hA hS; rintro m0 a w2 ⟨k, rfl, hA, hS, hk, hall⟩
       refine wp_seq ?_
       refine wp_region_lit ?_
       refine st_run tbOk 1 hA (e' := (14, .bool (decide (((k : Nat) : Int) < ((xs.length : Nat) : Int)))) :: _) rfl ?_; clear hA; intro a hA
       refine wpList_nil ?_
       refine xt_norm ?_
       refine wp_seq ?_
       by_cases hc3 : ((k : Nat) : Int) < ((xs.length : Nat) : Int)
       · first
         | (exfalso; omega)
         | (replace hA := hA.rw 14 (v' := .bool true) rfl (vb_true hc3)
            refine cd_cond_t hA rfl ?_
            refine wp_skip ?_
            refine xt_norm ?_
            refine wp_seq ?_
            refine wp_block ?_
            refine wp_seq ?_
            refine wp_region_lit ?_
            refine st_run tbOk 2 hA (e' := (5, .int .i64 ((k : Nat) : Int)) :: (15, .int .i64 ((k : Nat) : Int)) :: _) rfl ?_; clear hA; intro a hA
            refine wpList_nil ?_
            replace hA := hA.sel [0, 1, 5, 12, 13] (e' := [(0, .slice A1 xs.length c1), (1, .slice A2 ys.length c2), (5, .int .i64 ((k : Nat) : Int)), (12, .int .i64 ((xs.length : Nat) : Int)), (13, .int .i64 ((k : Nat) : Int))]) rfl
            refine xt_norm ?_
            refine wp_seq ?_
            refine wp_draw (fun w' => St w0 w' (F)) [] [(0, true), (1, true), (2, true), (3, true), (4, true), (5, true), (6, true), (7, true), (8, true)] mixed (by kernel_rfl) (by rintro c a w ⟨_, _, h, _⟩; cases h) (by rfl) (by kernel_rfl) ?_
            replace hS := hS.drew
            refine dr_run tbOk 2 hA hS (e' := (17, .int .i64 ((k : Nat) : Int)) :: (16, .slice A1 xs.length c1) :: _) rfl ?_; clear hA; intro a hA
            obtain ⟨b4, o5, rfl⟩ := (ha _ hS).isSome (k := k) (by omega)
            refine dr_y hA rfl rfl rfl (by decide) hS (fun w' hS' => rn_indexAddr tbOk hA k (o5 + k) rfl rfl rfl rfl rfl rfl (by rfl) (by omega) (by first | rfl | simp [Nat.mul_one, Nat.zero_add] | omega)) ?_; clear hA; intro a hA
            obtain ⟨x6, hx6⟩ := get_ex (l := xs) (k := k) (by omega)
            refine dr_y hA rfl rfl rfl (by decide) hS (fun w' hS' => rn_load tbOk hA rfl rfl rfl rfl ((ha _ hS').elem0 (k := k) encI_ok hx6 rfl)) ?_; clear hA; intro a hA
            refine dr_run tbOk 2 hA hS (e' := (21, .int .i64 ((k : Nat) : Int)) :: (20, .slice A2 ys.length c2) :: _) rfl ?_; clear hA; intro a hA
            obtain ⟨b7, o8, rfl⟩ := (hb _ hS).isSome (k := k) (by omega)
            refine dr_y hA rfl rfl rfl (by decide) hS (fun w' hS' => rn_indexAddr tbOk hA k (o8 + k) rfl rfl rfl rfl rfl rfl (by rfl) (by omega) (by first | rfl | simp [Nat.mul_one, Nat.zero_add] | omega)) ?_; clear hA; intro a hA
            obtain ⟨x9, hx9⟩ := get_ex (l := ys) (k := k) (by omega)
            refine dr_y hA rfl rfl rfl (by decide) hS (fun w' hS' => rn_load tbOk hA rfl rfl rfl rfl ((hb _ hS').elem0 (k := k) encI_ok hx9 rfl)) ?_; clear hA; intro a hA
            refine dr_run tbOk 1 hA hS (e' := (24, .bool (x6 != x9)) :: _) rfl ?_; clear hA; intro a hA
            refine dr_end ?_
            replace hA := hA.sel [0, 1, 12, 13, 24] (e' := [(0, .slice (some ⟨b4, o5, none⟩) xs.length c1), (1, .slice (some ⟨b7, o8, none⟩) ys.length c2), (12, .int .i64 ((xs.length : Nat) : Int)), (13, .int .i64 ((k : Nat) : Int)), (24, .bool (x6 != x9))]) rfl
            refine xt_norm ?_
            by_cases hc10 : x6 = x9
            · first
              | (exfalso; omega)
              | (replace hA := hA.rw 24 (v' := .bool false) rfl (vb_ne_f hc10)
                 refine cd_cond_f hA rfl ?_
                 refine wp_skip ?_
                 refine xb_norm ?_
                 refine xt_norm ?_
                 refine wp_region_lit ?_
                 refine st_run tbOk 1 hA (e' := (25, .int .i64 (IntKind.i64.wrap (((k : Nat) : Int) + 1))) :: _) rfl ?_; clear hA; intro a hA
                 replace hA := hA.rw 25 (v' := .int .i64 ((k + 1 : Nat) : Int)) rfl (wr64 (by omega) (by omega) (by omega))
                 refine st_run tbOk 1 hA (e' := (13, .int .i64 ((k + 1 : Nat) : Int)) :: _) rfl ?_; clear hA; intro a hA
                 refine wpList_nil ?_
                 replace hA := hA.sel [0, 1, 12, 13] (e' := [(0, .slice (some ⟨b4, o5, none⟩) xs.length c1), (1, .slice (some ⟨b7, o8, none⟩) ys.length c2), (12, .int .i64 ((xs.length : Nat) : Int)), (13, .int .i64 ((k + 1 : Nat) : Int))]) rfl
                 exact lp_next _ (by omega) ⟨(k + 1), rfl, (hA.sel [0, 1, 12, 13] rfl), hS, by omega, fun i hi => (Nat.lt_succ_iff_lt_or_eq.1 hi).elim (fun h => hall i h) (fun h => by subst h; rw [hx6, hx9]; exact congrArg some (by omega))⟩)
            · first
              | (exfalso; omega)
              | (replace hA := hA.rw 24 (v' := .bool true) rfl (vb_ne_t hc10)
                 refine cd_cond_t hA rfl ?_
                 refine wp_seq ?_
                 refine wp_region_lit ?_
                 refine st_run tbOk 1 hA (e' := (4, .bool false) :: _) rfl ?_; clear hA; intro a hA
                 refine wpList_nil ?_
                 replace hA := hA.sel [4] (e' := [(4, .bool false)]) rfl
                 refine xt_norm ?_
                 refine wp_ret (xb_ret (xt_ret (xt_ret (xb_ret (xt_ret ?_)))))
                 refine ret1 (fn := Tryd.f9) hA rfl rfl ?_
                 refine ⟨?_, hS⟩
                 rw [decide_eq_false]; exact same_ne hx6 hx9 (by omega)))
       · first
         | (exfalso; omega)
         | (replace hA := hA.rw 14 (v' := .bool false) rfl (vb_false hc3)
            refine cd_cond_f hA rfl ?_
            refine wp_exit ?_
            refine xt_exit ?_
            refine xt_exit ?_
            refine cd_exit_eq ?_
            refine xt_norm ?_
            refine wp_seq ?_
            refine wp_region_lit ?_
            refine st_run tbOk 1 hA (e' := (4, .bool true) :: _) rfl ?_; clear hA; intro a hA
            refine wpList_nil ?_
            replace hA := hA.sel [4] (e' := [(4, .bool true)]) rfl
            refine xt_norm ?_
            refine wp_ret ?_
            refine ret1 (fn := Tryd.f9) hA rfl rfl ?_
            refine ⟨?_, hS⟩
            rw [decide_eq_true]; exact same_all (by omega) (fun i hi => hall i (by omega))))
  · first
    | (exfalso; omega)
    | (replace hA := hA.rw 10 (v' := .bool true) rfl (vb_ne_t hc1)
       refine cd_cond_t hA rfl ?_
       refine wp_seq ?_
       refine wp_region_lit ?_
       refine st_run tbOk 1 hA (e' := (4, .bool false) :: _) rfl ?_; clear hA; intro a hA
       refine wpList_nil ?_
       replace hA := hA.sel [4] (e' := [(4, .bool false)]) rfl
       refine xt_norm ?_
       refine wp_ret (xt_ret ?_)
       refine ret1 (fn := Tryd.f9) hA rfl rfl ?_
       refine ⟨?_, hS⟩
       rw [decide_eq_false]; exact same_len (by omega))

/-- A timer at a block: the time, and its alarms. -/
def XR (b : Nat) (now : Int) (al : List (Int × Int)) (L : Chunk) : Prop := ∃ v C, Own 46 2 v al.length (rows encAlarm al) C ∧ L = (b, rowO [.int .i64 now, v] 27) :: C
theorem XR.new (b : Nat) : XR b 0 [] [(b, rowO [.int .i64 0, .slice none 0 0] 27)] := ⟨_, [], Own.nil _ _, rfl⟩
def wid (id : Int) (x : Int × Int) : Bool := x.1 == id
def wat (now : Int) (x : Int × Int) : Bool := x.2 == now

theorem setc15 {w0 w : World} {F : List Chunk} (hS : St w0 w F) {bx : Nat} {id : Int} (hc : ∀ w', St w0 w' F → w'.cell? ⟨bx, 0, none⟩ = some (.int .i64 id)) (x : Int × Int) :
    Ret Tryd.prog 15 #[.agg #[.int .i64 x.1, .int .i64 x.2], .pointer (some ⟨bx, 0, none⟩)] w (fun v w' => v = .bool (wid id x) ∧ St w0 w' F) := by
  refine enter (vs := [.agg #[.int .i64 x.1, .int .i64 x.2], .pointer (some ⟨bx, 0, none⟩)]) 8 Tryd.func15 rfl rfl (by simp) ?_; intro a hA
  refine wp_seq ?_
  refine wp_region_lit ?_
  refine st_box hA hS [.int .i64 x.1, .int .i64 x.2] rfl rfl rfl rfl rfl (by decide) ?_; clear hA hS; intro b1 w2 a hS hA
  refine st_run tbOk 1 hA (e' := (3, .bool false) :: _) rfl ?_; clear hA; intro a hA
  refine wpList_nil ?_
  replace hA := hA.sel [1, 2] (e' := [(1, .pointer (some ⟨bx, 0, none⟩)), (2, .pointer (some ⟨b1, 0, none⟩))]) rfl
  refine xt_norm ?_
  refine wp_seq ?_
  refine wp_region_lit ?_
  refine st_run tbOk 1 hA (e' := (4, .pointer (some ⟨b1, 0, none⟩)) :: _) rfl ?_; clear hA; intro a hA
  refine st_val hA rfl rfl (by decide) (rn_load tbOk hA rfl rfl rfl rfl (cell_row (hS.heapAt 0 rfl) rfl)) ?_; clear hA; intro a hA
  refine st_val hA rfl rfl (by decide) (rn_load tbOk hA rfl rfl rfl rfl (hc _ (hS.tail 1 rfl))) ?_; clear hA; intro a hA
  refine st_run tbOk 2 hA (e' := (3, .bool (x.1 == id)) :: (7, .bool (x.1 == id)) :: _) rfl ?_; clear hA; intro a hA
  refine wpList_nil ?_
  replace hA := hA.sel [3] (e' := [(3, .bool (x.1 == id))]) rfl
  refine xt_norm ?_
  refine wp_ret ?_
  refine ret1 (fn := Tryd.f15) hA rfl rfl ?_
  replace hS := hS.drop1
  exact ⟨rfl, hS⟩

theorem setcP {w0 : World} {F : List Chunk} {bx : Nat} {id : Int} (hc : ∀ w', St w0 w' F → w'.cell? ⟨bx, 0, none⟩ = some (.int .i64 id)) : Pred Tryd.prog w0 F 15 #[] #[.pointer (some ⟨bx, 0, none⟩)] (fun x => .agg (encAlarm x).toArray) (fun x => wid id x) := by
  intro w x hS
  exact setc15 (St.refl w) (fun w' h => h.old (hc w hS)) x

theorem canc17 {w0 w : World} {F : List Chunk} (hS : St w0 w F) {bx : Nat} {id : Int} (hc : ∀ w', St w0 w' F → w'.cell? ⟨bx, 0, none⟩ = some (.int .i64 id)) (x : Int × Int) :
    Ret Tryd.prog 17 #[.agg #[.int .i64 x.1, .int .i64 x.2], .pointer (some ⟨bx, 0, none⟩)] w (fun v w' => v = .bool (wid id x) ∧ St w0 w' F) := by
  refine enter (vs := [.agg #[.int .i64 x.1, .int .i64 x.2], .pointer (some ⟨bx, 0, none⟩)]) 8 Tryd.func17 rfl rfl (by simp) ?_; intro a hA
  refine wp_seq ?_
  refine wp_region_lit ?_
  refine st_box hA hS [.int .i64 x.1, .int .i64 x.2] rfl rfl rfl rfl rfl (by decide) ?_; clear hA hS; intro b1 w2 a hS hA
  refine st_run tbOk 1 hA (e' := (3, .bool false) :: _) rfl ?_; clear hA; intro a hA
  refine wpList_nil ?_
  replace hA := hA.sel [1, 2] (e' := [(1, .pointer (some ⟨bx, 0, none⟩)), (2, .pointer (some ⟨b1, 0, none⟩))]) rfl
  refine xt_norm ?_
  refine wp_seq ?_
  refine wp_region_lit ?_
  refine st_run tbOk 1 hA (e' := (4, .pointer (some ⟨b1, 0, none⟩)) :: _) rfl ?_; clear hA; intro a hA
  refine st_val hA rfl rfl (by decide) (rn_load tbOk hA rfl rfl rfl rfl (cell_row (hS.heapAt 0 rfl) rfl)) ?_; clear hA; intro a hA
  refine st_val hA rfl rfl (by decide) (rn_load tbOk hA rfl rfl rfl rfl (hc _ (hS.tail 1 rfl))) ?_; clear hA; intro a hA
  refine st_run tbOk 2 hA (e' := (3, .bool (x.1 == id)) :: (7, .bool (x.1 == id)) :: _) rfl ?_; clear hA; intro a hA
  refine wpList_nil ?_
  replace hA := hA.sel [3] (e' := [(3, .bool (x.1 == id))]) rfl
  refine xt_norm ?_
  refine wp_ret ?_
  refine ret1 (fn := Tryd.f17) hA rfl rfl ?_
  replace hS := hS.drop1
  exact ⟨rfl, hS⟩

theorem cancP {w0 : World} {F : List Chunk} {bx : Nat} {id : Int} (hc : ∀ w', St w0 w' F → w'.cell? ⟨bx, 0, none⟩ = some (.int .i64 id)) : Pred Tryd.prog w0 F 17 #[] #[.pointer (some ⟨bx, 0, none⟩)] (fun x => .agg (encAlarm x).toArray) (fun x => wid id x) := by
  intro w x hS
  exact canc17 (St.refl w) (fun w' h => h.old (hc w hS)) x

theorem tickc18 {w0 w : World} {F : List Chunk} (hS : St w0 w F) {bx : Nat} {b : Nat} {now : Int} (hc : ∀ w', St w0 w' F → w'.cell? ⟨bx, 0, none⟩ = some (.pointer (some ⟨b, 0, none⟩))) (hn : ∀ w', St w0 w' F → w'.cell? ⟨b, 0, none⟩ = some (.int .i64 now)) (x : Int × Int) :
    Ret Tryd.prog 18 #[.agg #[.int .i64 x.1, .int .i64 x.2], .pointer (some ⟨bx, 0, none⟩)] w (fun v w' => v = .bool (wat now x) ∧ St w0 w' F) := by
  refine enter (vs := [.agg #[.int .i64 x.1, .int .i64 x.2], .pointer (some ⟨bx, 0, none⟩)]) 11 Tryd.func18 rfl rfl (by simp) ?_; intro a hA
  refine wp_seq ?_
  refine wp_region_lit ?_
  refine st_box hA hS [.int .i64 x.1, .int .i64 x.2] rfl rfl rfl rfl rfl (by decide) ?_; clear hA hS; intro b1 w2 a hS hA
  refine st_run tbOk 1 hA (e' := (3, .bool false) :: _) rfl ?_; clear hA; intro a hA
  refine wpList_nil ?_
  replace hA := hA.sel [1, 2] (e' := [(1, .pointer (some ⟨bx, 0, none⟩)), (2, .pointer (some ⟨b1, 0, none⟩))]) rfl
  refine xt_norm ?_
  refine wp_seq ?_
  refine wp_draw (fun w' => St w0 w' ([(b1, rowO [.int .i64 x.1, .int .i64 x.2] 46)] :: F)) [] [(0, true), (1, true), (2, true), (3, true), (4, true), (5, true), (6, true), (7, true)] mixed (by kernel_rfl) (by rintro c a w ⟨_, _, h, _⟩; cases h) (by rfl) (by kernel_rfl) ?_
  replace hS := hS.drew
  refine dr_run tbOk 1 hA hS (e' := (4, .pointer (some ⟨b1, 1, none⟩)) :: _) rfl ?_; clear hA; intro a hA
  refine dr_y hA rfl rfl rfl (by decide) hS (fun w' hS' => rn_load tbOk hA rfl rfl rfl rfl (cell_row (hS'.heapAt 0 rfl) rfl)) ?_; clear hA; intro a hA
  refine dr_y hA rfl rfl rfl (by decide) hS (fun w' hS' => rn_load tbOk hA rfl rfl rfl rfl (hc _ (hS'.tail 1 rfl))) ?_; clear hA; intro a hA
  refine dr_run tbOk 2 hA hS (e' := (8, .pointer (some ⟨b, 0, none⟩)) :: (7, .pointer (some ⟨b, 0, none⟩)) :: _) rfl ?_; clear hA; intro a hA
  refine dr_y hA rfl rfl rfl (by decide) hS (fun w' hS' => rn_load tbOk hA rfl rfl rfl rfl (hn _ (hS'.tail 1 rfl))) ?_; clear hA; intro a hA
  refine dr_run tbOk 2 hA hS (e' := (3, .bool (x.2 == now)) :: (10, .bool (x.2 == now)) :: _) rfl ?_; clear hA; intro a hA
  refine dr_end ?_
  replace hA := hA.sel [3] (e' := [(3, .bool (x.2 == now))]) rfl
  refine xt_norm ?_
  refine wp_ret ?_
  refine ret1 (fn := Tryd.f18) hA rfl rfl ?_
  replace hS := hS.drop1
  exact ⟨rfl, hS⟩

theorem tickcP {w0 : World} {F : List Chunk} {bx : Nat} {b : Nat} {now : Int} (hc : ∀ w', St w0 w' F → w'.cell? ⟨bx, 0, none⟩ = some (.pointer (some ⟨b, 0, none⟩))) (hn : ∀ w', St w0 w' F → w'.cell? ⟨b, 0, none⟩ = some (.int .i64 now)) : Pred Tryd.prog w0 F 18 #[] #[.pointer (some ⟨bx, 0, none⟩)] (fun x => .agg (encAlarm x).toArray) (fun x => wat now x) := by
  intro w x hS
  exact tickc18 (St.refl w) (fun w' h => h.old (hc w hS)) (fun w' h => h.old (hn w hS)) x

theorem set_lo6 {w0 w : World} {F : List Chunk} {L : Chunk} {b : Nat} {now : Int} {al : List (Int × Int)} (hS : St w0 w (L :: F)) (hM : XR b now al L) (id n : Int) (h1 : n < 1) :
    Ret Tryd.prog 6 #[.pointer (some ⟨b, 0, none⟩), .int .i64 id, .int .i64 n] w (fun v w' => ∃ L', XR b (now) (al) L' ∧ v = .iface 36 (.int .i64 4) ∧ St w0 w' (L' :: F)) := by
  obtain ⟨v, C, hO, rfl⟩ := hM
  obtain ⟨A, c, rfl, hmc, hcx⟩ := hO.open'
  replace hS : St w0 w ([(b, rowO [.int .i64 now, .slice A al.length c] 27)] :: C :: F) := hS.split
  refine enter (vs := [.pointer (some ⟨b, 0, none⟩), .int .i64 id, .int .i64 n]) 40 Tryd.func6 rfl rfl (by simp) ?_; intro a hA
  refine wp_seq ?_
  refine wp_region_lit ?_
  refine st_box hA hS [.int .i64 id] rfl rfl rfl rfl rfl (by decide) ?_; clear hA hS; intro b1 w2 a hS hA
  refine st_run tbOk 1 hA (e' := (6, .nilIface) :: _) rfl ?_; clear hA; intro a hA
  refine wpList_nil ?_
  replace hA := hA.sel [0, 2, 4] (e' := [(0, .pointer (some ⟨b, 0, none⟩)), (2, .int .i64 n), (4, .pointer (some ⟨b1, 0, none⟩))]) rfl
  refine xt_norm ?_
  refine wp_seq ?_
  refine wp_seq ?_
  refine wp_region_lit ?_
  refine st_run tbOk 3 hA (e' := (10, .bool (decide (n < 1))) :: (9, .bool (decide (n < 1))) :: (8, .int .i64 n) :: _) rfl ?_; clear hA; intro a hA
  have hc3 : n < 1 := by omega
  replace hA := hA.rw 9 (v' := .bool true) rfl (vb_true hc3)
  replace hA := hA.rw 10 (v' := .bool true) rfl (vb_true hc3)
  refine st_run tbOk 3 hA (e' := (13, .bool true) :: (12, undef) :: (11, undef) :: _) rfl ?_; clear hA; intro a hA
  refine wpList_nil ?_
  replace hA := hA.sel [0, 2, 4, 13] (e' := [(0, .pointer (some ⟨b, 0, none⟩)), (2, .int .i64 n), (4, .pointer (some ⟨b1, 0, none⟩)), (13, .bool true)]) rfl
  refine xt_norm ?_
  refine cd_cond_t hA rfl ?_
  refine wp_seq ?_
  refine wp_region_lit ?_
  refine st_run tbOk 2 hA (e' := (6, .iface 36 (.int .i64 4)) :: (14, .iface 36 (.int .i64 4)) :: _) rfl ?_; clear hA; intro a hA
  refine wpList_nil ?_
  replace hA := hA.sel [6] (e' := [(6, .iface 36 (.int .i64 4))]) rfl
  refine xt_norm ?_
  refine wp_ret (xt_ret ?_)
  refine ret1 (fn := Tryd.f6) hA rfl rfl ?_
  replace hS := hS.front 2 (C := C) (L' := [(b1, rowO [.int .i64 id] 3)] :: [(b, rowO [.int .i64 now, .slice A al.length c] 27)] :: F) rfl rfl
  replace hS := hS.front 2 (C := [(b, rowO [.int .i64 now, .slice A al.length c] 27)]) (L' := C :: [(b1, rowO [.int .i64 id] 3)] :: F) rfl rfl
  replace hS := (hS.front 2 rfl rfl).drop1
  replace hS := hS.join
  exact ⟨_, ⟨_, _, hO, rfl⟩, rfl, hS⟩

theorem set_hi6 {w0 w : World} {F : List Chunk} {L : Chunk} {b : Nat} {now : Int} {al : List (Int × Int)} (hS : St w0 w (L :: F)) (hM : XR b now al L) (id n : Int) (h1 : 1000000 < n) :
    Ret Tryd.prog 6 #[.pointer (some ⟨b, 0, none⟩), .int .i64 id, .int .i64 n] w (fun v w' => ∃ L', XR b (now) (al) L' ∧ v = .iface 36 (.int .i64 4) ∧ St w0 w' (L' :: F)) := by
  obtain ⟨v, C, hO, rfl⟩ := hM
  obtain ⟨A, c, rfl, hmc, hcx⟩ := hO.open'
  replace hS : St w0 w ([(b, rowO [.int .i64 now, .slice A al.length c] 27)] :: C :: F) := hS.split
  refine enter (vs := [.pointer (some ⟨b, 0, none⟩), .int .i64 id, .int .i64 n]) 40 Tryd.func6 rfl rfl (by simp) ?_; intro a hA
  refine wp_seq ?_
  refine wp_region_lit ?_
  refine st_box hA hS [.int .i64 id] rfl rfl rfl rfl rfl (by decide) ?_; clear hA hS; intro b1 w2 a hS hA
  refine st_run tbOk 1 hA (e' := (6, .nilIface) :: _) rfl ?_; clear hA; intro a hA
  refine wpList_nil ?_
  replace hA := hA.sel [0, 2, 4] (e' := [(0, .pointer (some ⟨b, 0, none⟩)), (2, .int .i64 n), (4, .pointer (some ⟨b1, 0, none⟩))]) rfl
  refine xt_norm ?_
  refine wp_seq ?_
  refine wp_seq ?_
  refine wp_region_lit ?_
  refine st_run tbOk 3 hA (e' := (10, .bool (decide (n < 1))) :: (9, .bool (decide (n < 1))) :: (8, .int .i64 n) :: _) rfl ?_; clear hA; intro a hA
  have hc3 : ¬ (n < 1) := by omega
  replace hA := hA.rw 9 (v' := .bool false) rfl (vb_false hc3)
  replace hA := hA.rw 10 (v' := .bool false) rfl (vb_false hc3)
  refine st_run tbOk 3 hA (e' := (13, .bool (decide (n > 1000000))) :: (12, .bool (decide (n > 1000000))) :: (11, .int .i64 n) :: _) rfl ?_; clear hA; intro a hA
  refine wpList_nil ?_
  replace hA := hA.sel [0, 2, 4, 13] (e' := [(0, .pointer (some ⟨b, 0, none⟩)), (2, .int .i64 n), (4, .pointer (some ⟨b1, 0, none⟩)), (13, .bool (decide (n > 1000000)))]) rfl
  refine xt_norm ?_
  have hc4 : n > 1000000 := by omega
  replace hA := hA.rw 13 (v' := .bool true) rfl (vb_true hc4)
  refine cd_cond_t hA rfl ?_
  refine wp_seq ?_
  refine wp_region_lit ?_
  refine st_run tbOk 2 hA (e' := (6, .iface 36 (.int .i64 4)) :: (14, .iface 36 (.int .i64 4)) :: _) rfl ?_; clear hA; intro a hA
  refine wpList_nil ?_
  replace hA := hA.sel [6] (e' := [(6, .iface 36 (.int .i64 4))]) rfl
  refine xt_norm ?_
  refine wp_ret (xt_ret ?_)
  refine ret1 (fn := Tryd.f6) hA rfl rfl ?_
  replace hS := hS.front 2 (C := C) (L' := [(b1, rowO [.int .i64 id] 3)] :: [(b, rowO [.int .i64 now, .slice A al.length c] 27)] :: F) rfl rfl
  replace hS := hS.front 2 (C := [(b, rowO [.int .i64 now, .slice A al.length c] 27)]) (L' := C :: [(b1, rowO [.int .i64 id] 3)] :: F) rfl rfl
  replace hS := (hS.front 2 rfl rfl).drop1
  replace hS := hS.join
  exact ⟨_, ⟨_, _, hO, rfl⟩, rfl, hS⟩

theorem set_full6 {w0 w : World} {F : List Chunk} {L : Chunk} {b : Nat} {now : Int} {al : List (Int × Int)} (hS : St w0 w (L :: F)) (hM : XR b now al L) (id n : Int) (h1 : 1 ≤ n) (h2 : n ≤ 1000000) (h3 : 64 ≤ (al.filter (fun x => !(wid id x))).length) (hal : al.length ≤ 64) :
    Ret Tryd.prog 6 #[.pointer (some ⟨b, 0, none⟩), .int .i64 id, .int .i64 n] w (fun v w' => ∃ L', XR b (now) (al) L' ∧ v = .iface 36 (.int .i64 5) ∧ St w0 w' (L' :: F)) := by
  obtain ⟨v, C, hO, rfl⟩ := hM
  obtain ⟨A, c, rfl, hmc, hcx⟩ := hO.open'
  replace hS : St w0 w ([(b, rowO [.int .i64 now, .slice A al.length c] 27)] :: C :: F) := hS.split
  refine enter (vs := [.pointer (some ⟨b, 0, none⟩), .int .i64 id, .int .i64 n]) 40 Tryd.func6 rfl rfl (by simp) ?_; intro a hA
  refine wp_seq ?_
  refine wp_region_lit ?_
  refine st_box hA hS [.int .i64 id] rfl rfl rfl rfl rfl (by decide) ?_; clear hA hS; intro b1 w2 a hS hA
  refine st_run tbOk 1 hA (e' := (6, .nilIface) :: _) rfl ?_; clear hA; intro a hA
  refine wpList_nil ?_
  replace hA := hA.sel [0, 2, 4] (e' := [(0, .pointer (some ⟨b, 0, none⟩)), (2, .int .i64 n), (4, .pointer (some ⟨b1, 0, none⟩))]) rfl
  refine xt_norm ?_
  refine wp_seq ?_
  refine wp_seq ?_
  refine wp_region_lit ?_
  refine st_run tbOk 3 hA (e' := (10, .bool (decide (n < 1))) :: (9, .bool (decide (n < 1))) :: (8, .int .i64 n) :: _) rfl ?_; clear hA; intro a hA
  have hc3 : ¬ (n < 1) := by omega
  replace hA := hA.rw 9 (v' := .bool false) rfl (vb_false hc3)
  replace hA := hA.rw 10 (v' := .bool false) rfl (vb_false hc3)
  refine st_run tbOk 3 hA (e' := (13, .bool (decide (n > 1000000))) :: (12, .bool (decide (n > 1000000))) :: (11, .int .i64 n) :: _) rfl ?_; clear hA; intro a hA
  refine wpList_nil ?_
  replace hA := hA.sel [0, 2, 4, 13] (e' := [(0, .pointer (some ⟨b, 0, none⟩)), (2, .int .i64 n), (4, .pointer (some ⟨b1, 0, none⟩)), (13, .bool (decide (n > 1000000)))]) rfl
  refine xt_norm ?_
  have hc4 : ¬ (n > 1000000) := by omega
  replace hA := hA.rw 13 (v' := .bool false) rfl (vb_false hc4)
  refine cd_cond_f hA rfl ?_
  refine wp_skip ?_
  refine xt_norm ?_
  refine wp_seq ?_
  refine wp_region_lit ?_
  refine st_run tbOk 3 hA (e' := (17, .pointer (some ⟨b, 1, none⟩)) :: (16, .pointer (some ⟨b, 0, none⟩)) :: (15, .pointer (some ⟨b, 0, none⟩)) :: _) rfl ?_; clear hA; intro a hA
  refine st_val hA rfl rfl (by decide) (rn_load tbOk hA rfl rfl rfl rfl (cell_row (hS.heapAt 1 rfl) rfl)) ?_; clear hA; intro a hA
  refine st_call0 hA rfl rfl rfl isfn14 rfl rfl (by decide) (clone14 hS (l := al) (RdS.own hO 2 rfl) (by omega)) ?_
  clear hA hS; rintro v5 w6 a ⟨C7, hO7, hS⟩ hA
  obtain ⟨A8, c9, rfl, hmc9, hxc9⟩ := hO7.open'
  refine st_run tbOk 1 hA (e' := (20, .func (.func 15) #[] #[.pointer (some ⟨b1, 0, none⟩)]) :: _) rfl ?_; clear hA; intro a hA
  refine st_call0 hA rfl rfl rfl isfn13 rfl rfl (by decide) (deleteFunc13 hS (l := al) hO7 isfn15 (setcP (bx := b1) (fun w' h => cell_row (h.heapAt 0 rfl) rfl))) ?_
  clear hA hS; rintro v10 w11 a ⟨C12, hO12, hS⟩ hA
  obtain ⟨A13, c14, rfl, hmc14, hxc14⟩ := hO12.open'
  refine st_run tbOk 1 hA (e' := (7, .slice A13 ((al.filter (fun x => !(wid id x))).length) c14) :: _) rfl ?_; clear hA; intro a hA
  refine wpList_nil ?_
  replace hA := hA.sel [0, 2, 4, 7] (e' := [(0, .pointer (some ⟨b, 0, none⟩)), (2, .int .i64 n), (4, .pointer (some ⟨b1, 0, none⟩)), (7, .slice A13 ((al.filter (fun x => !(wid id x))).length) c14)]) rfl
  refine xt_norm ?_
  refine wp_seq ?_
  refine wp_seq ?_
  refine wp_region_lit ?_
  refine st_run tbOk 3 hA (e' := (24, .bool (decide ((((al.filter (fun x => !(wid id x))).length : Nat) : Int) ≥ 64))) :: (23, .int .i64 (((al.filter (fun x => !(wid id x))).length : Nat) : Int)) :: (22, .slice A13 ((al.filter (fun x => !(wid id x))).length) c14) :: _) rfl ?_; clear hA; intro a hA
  refine wpList_nil ?_
  replace hA := hA.sel [0, 2, 4, 7, 24] (e' := [(0, .pointer (some ⟨b, 0, none⟩)), (2, .int .i64 n), (4, .pointer (some ⟨b1, 0, none⟩)), (7, .slice A13 ((al.filter (fun x => !(wid id x))).length) c14), (24, .bool (decide ((((al.filter (fun x => !(wid id x))).length : Nat) : Int) ≥ 64)))]) rfl
  refine xt_norm ?_
  have hc15 : (((al.filter (fun x => !(wid id x))).length : Nat) : Int) ≥ 64 := by omega
  replace hA := hA.rw 24 (v' := .bool true) rfl (vb_true hc15)
  refine cd_cond_t hA rfl ?_
  refine wp_seq ?_
  refine wp_region_lit ?_
  refine st_run tbOk 2 hA (e' := (6, .iface 36 (.int .i64 5)) :: (25, .iface 36 (.int .i64 5)) :: _) rfl ?_; clear hA; intro a hA
  refine wpList_nil ?_
  replace hA := hA.sel [6] (e' := [(6, .iface 36 (.int .i64 5))]) rfl
  refine xt_norm ?_
  refine wp_ret (xt_ret ?_)
  refine ret1 (fn := Tryd.f6) hA rfl rfl ?_
  replace hS := hS.front 3 (C := C) (L' := C12 :: [(b1, rowO [.int .i64 id] 3)] :: [(b, rowO [.int .i64 now, .slice A al.length c] 27)] :: F) rfl rfl
  replace hS := hS.front 3 (C := [(b, rowO [.int .i64 now, .slice A al.length c] 27)]) (L' := C :: C12 :: [(b1, rowO [.int .i64 id] 3)] :: F) rfl rfl
  replace hS := (hS.front 2 rfl rfl).drop1
  replace hS := (hS.front 2 rfl rfl).drop1
  replace hS := hS.join
  exact ⟨_, ⟨_, _, hO, rfl⟩, rfl, hS⟩

theorem set_ok6 {w0 w : World} {F : List Chunk} {L : Chunk} {b : Nat} {now : Int} {al : List (Int × Int)} (hS : St w0 w (L :: F)) (hM : XR b now al L) (id n : Int) (h1 : 1 ≤ n) (h2 : n ≤ 1000000) (h3 : (al.filter (fun x => !(wid id x))).length < 64) (hal : al.length ≤ 64) (hn1 : -4611686018427387904 ≤ now) (hn2 : now ≤ 4611686018427387904) :
    Ret Tryd.prog 6 #[.pointer (some ⟨b, 0, none⟩), .int .i64 id, .int .i64 n] w (fun v w' => ∃ L', XR b (now) (al.filter (fun x => !(wid id x)) ++ [(id, now + n)]) L' ∧ v = .nilIface ∧ St w0 w' (L' :: F)) := by
  obtain ⟨v, C, hO, rfl⟩ := hM
  obtain ⟨A, c, rfl, hmc, hcx⟩ := hO.open'
  replace hS : St w0 w ([(b, rowO [.int .i64 now, .slice A al.length c] 27)] :: C :: F) := hS.split
  refine enter (vs := [.pointer (some ⟨b, 0, none⟩), .int .i64 id, .int .i64 n]) 40 Tryd.func6 rfl rfl (by simp) ?_; intro a hA
  refine wp_seq ?_
  refine wp_region_lit ?_
  refine st_box hA hS [.int .i64 id] rfl rfl rfl rfl rfl (by decide) ?_; clear hA hS; intro b1 w2 a hS hA
  refine st_run tbOk 1 hA (e' := (6, .nilIface) :: _) rfl ?_; clear hA; intro a hA
  refine wpList_nil ?_
  replace hA := hA.sel [0, 2, 4] (e' := [(0, .pointer (some ⟨b, 0, none⟩)), (2, .int .i64 n), (4, .pointer (some ⟨b1, 0, none⟩))]) rfl
  refine xt_norm ?_
  refine wp_seq ?_
  refine wp_seq ?_
  refine wp_region_lit ?_
  refine st_run tbOk 3 hA (e' := (10, .bool (decide (n < 1))) :: (9, .bool (decide (n < 1))) :: (8, .int .i64 n) :: _) rfl ?_; clear hA; intro a hA
  have hc3 : ¬ (n < 1) := by omega
  replace hA := hA.rw 9 (v' := .bool false) rfl (vb_false hc3)
  replace hA := hA.rw 10 (v' := .bool false) rfl (vb_false hc3)
  refine st_run tbOk 3 hA (e' := (13, .bool (decide (n > 1000000))) :: (12, .bool (decide (n > 1000000))) :: (11, .int .i64 n) :: _) rfl ?_; clear hA; intro a hA
  refine wpList_nil ?_
  replace hA := hA.sel [0, 2, 4, 13] (e' := [(0, .pointer (some ⟨b, 0, none⟩)), (2, .int .i64 n), (4, .pointer (some ⟨b1, 0, none⟩)), (13, .bool (decide (n > 1000000)))]) rfl
  refine xt_norm ?_
  have hc4 : ¬ (n > 1000000) := by omega
  replace hA := hA.rw 13 (v' := .bool false) rfl (vb_false hc4)
  refine cd_cond_f hA rfl ?_
  refine wp_skip ?_
  refine xt_norm ?_
  refine wp_seq ?_
  refine wp_region_lit ?_
  refine st_run tbOk 3 hA (e' := (17, .pointer (some ⟨b, 1, none⟩)) :: (16, .pointer (some ⟨b, 0, none⟩)) :: (15, .pointer (some ⟨b, 0, none⟩)) :: _) rfl ?_; clear hA; intro a hA
  refine st_val hA rfl rfl (by decide) (rn_load tbOk hA rfl rfl rfl rfl (cell_row (hS.heapAt 1 rfl) rfl)) ?_; clear hA; intro a hA
  refine st_call0 hA rfl rfl rfl isfn14 rfl rfl (by decide) (clone14 hS (l := al) (RdS.own hO 2 rfl) (by omega)) ?_
  clear hA hS; rintro v5 w6 a ⟨C7, hO7, hS⟩ hA
  obtain ⟨A8, c9, rfl, hmc9, hxc9⟩ := hO7.open'
  refine st_run tbOk 1 hA (e' := (20, .func (.func 15) #[] #[.pointer (some ⟨b1, 0, none⟩)]) :: _) rfl ?_; clear hA; intro a hA
  refine st_call0 hA rfl rfl rfl isfn13 rfl rfl (by decide) (deleteFunc13 hS (l := al) hO7 isfn15 (setcP (bx := b1) (fun w' h => cell_row (h.heapAt 0 rfl) rfl))) ?_
  clear hA hS; rintro v10 w11 a ⟨C12, hO12, hS⟩ hA
  obtain ⟨A13, c14, rfl, hmc14, hxc14⟩ := hO12.open'
  refine st_run tbOk 1 hA (e' := (7, .slice A13 ((al.filter (fun x => !(wid id x))).length) c14) :: _) rfl ?_; clear hA; intro a hA
  refine wpList_nil ?_
  replace hA := hA.sel [0, 2, 4, 7] (e' := [(0, .pointer (some ⟨b, 0, none⟩)), (2, .int .i64 n), (4, .pointer (some ⟨b1, 0, none⟩)), (7, .slice A13 ((al.filter (fun x => !(wid id x))).length) c14)]) rfl
  refine xt_norm ?_
  refine wp_seq ?_
  refine wp_seq ?_
  refine wp_region_lit ?_
  refine st_run tbOk 3 hA (e' := (24, .bool (decide ((((al.filter (fun x => !(wid id x))).length : Nat) : Int) ≥ 64))) :: (23, .int .i64 (((al.filter (fun x => !(wid id x))).length : Nat) : Int)) :: (22, .slice A13 ((al.filter (fun x => !(wid id x))).length) c14) :: _) rfl ?_; clear hA; intro a hA
  refine wpList_nil ?_
  replace hA := hA.sel [0, 2, 4, 7, 24] (e' := [(0, .pointer (some ⟨b, 0, none⟩)), (2, .int .i64 n), (4, .pointer (some ⟨b1, 0, none⟩)), (7, .slice A13 ((al.filter (fun x => !(wid id x))).length) c14), (24, .bool (decide ((((al.filter (fun x => !(wid id x))).length : Nat) : Int) ≥ 64)))]) rfl
  refine xt_norm ?_
  have hc15 : ¬ ((((al.filter (fun x => !(wid id x))).length : Nat) : Int) ≥ 64) := by omega
  replace hA := hA.rw 24 (v' := .bool false) rfl (vb_false hc15)
  refine cd_cond_f hA rfl ?_
  refine wp_skip ?_
  refine xt_norm ?_
  refine wp_seq ?_
  refine wp_draw (fun w' => St w0 w' ([(b1, rowO [.int .i64 id] 3)] :: [(b, rowO [.int .i64 now, .slice A al.length c] 27)] :: C :: F)) [14] [(0, true), (1, true), (2, true), (3, true), (4, true), (5, true), (6, true), (7, true), (8, true), (9, true), (10, false), (11, false), (12, true), (13, true), (14, false)] mixed (by kernel_rfl) (by rintro c a w ⟨_, _, h, _⟩; cases h) (by rfl) (by kernel_rfl) ?_
  replace hS := hS.drew
  refine dr_run tbOk 2 hA (hS.tail 1 rfl) (e' := (27, .slice A13 ((al.filter (fun x => !(wid id x))).length) c14) :: (26, .pointer (some ⟨b, 0, none⟩)) :: _) rfl ?_; clear hA; intro a hA
  refine dr_y hA rfl rfl rfl (by decide) (hS.tail 1 rfl) (fun w' hS' => rn_load tbOk hA rfl rfl rfl rfl (cell_row (hS'.heapAt 0 rfl) rfl)) ?_; clear hA; intro a hA
  refine dr_run tbOk 3 hA (hS.tail 1 rfl) (e' := (31, .pointer (some ⟨b, 0, none⟩)) :: (30, .pointer (some ⟨b, 0, none⟩)) :: (29, .pointer (some ⟨b, 0, none⟩)) :: _) rfl ?_; clear hA; intro a hA
  refine dr_y hA rfl rfl rfl (by decide) (hS.tail 1 rfl) (fun w' hS' => rn_load tbOk hA rfl rfl rfl rfl (cell_row (hS'.heapAt 1 rfl) rfl)) ?_; clear hA; intro a hA
  refine dr_run tbOk 2 hA (hS.tail 1 rfl) (e' := (34, .int .i64 (IntKind.i64.wrap (now + n))) :: (33, .int .i64 n) :: _) rfl ?_; clear hA; intro a hA
  replace hA := hA.rw 34 (v' := .int .i64 (now + n)) rfl (wr64 (by omega) (by omega) (by omega))
  refine dr_run tbOk 1 hA (hS.tail 1 rfl) (e' := (35, .agg #[.int .i64 id, .int .i64 (now + n)]) :: _) rfl ?_; clear hA; intro a hA
  refine dr_b (o := _) rfl ?_
  refine st_buildSlice tbOk hA hS [.int .i64 id, .int .i64 (now + n)] rfl rfl rfl rfl rfl (by decide) (by kernel_rfl) rfl rfl (by decide) ?_; clear hA hS; intro b16 w17 a hS hA
  refine dr_nil (.inr (hS.tail 2 rfl)) ?_
  refine dr_b (o := _) rfl ?_
  replace hS := hS.front 1 (C := C12) (L' := [(b16, rowO [.int .i64 id, .int .i64 (now + n)] 46)] :: [(b1, rowO [.int .i64 id] 3)] :: [(b, rowO [.int .i64 now, .slice A al.length c] 27)] :: C :: F) rfl rfl
  refine st_append tbOk hA (m := (al.filter (fun x => !(wid id x))).length) (q := 1) (xs := rows encAlarm (al.filter (fun x => !(wid id x)))) (news := rows encAlarm ([(id, now + n)] : List (Int × Int))) rfl rfl rfl rfl rfl rfl rfl rfl (by decide) hO12 hS ((Own.full (T := 46) (size := 2) (g := b16) (m := 1) rfl (by decide)).rd (hS.own_ 1 rfl)) (rows_one encAlarm_ok _) (maxLen_le (by omega)) (by show ((al.filter (fun x => !(wid id x))).length + 1) * 16 ≤ 140737488355328; omega) rfl rfl (by decide) ?_
  clear hA hS; intro v18 w19 C20 a hO20 hS hA
  replace hO20 := Own.app (l := al.filter (fun x => !(wid id x))) (l2 := ([(id, now + n)] : List (Int × Int))) hO20
  obtain ⟨A21, c22, rfl, hmc22, hxc22⟩ := hO20.open'
  refine dr_nil (.inr (hS.tail 2 rfl)) ?_
  refine dr_run tbOk 2 hA (hS.tail 2 rfl) (e' := (39, .pointer (some ⟨b, 1, none⟩)) :: (38, .pointer (some ⟨b, 0, none⟩)) :: _) rfl ?_; clear hA; intro a hA
  refine dr_b (o := _) rfl ?_
  replace hS := hS.front 3 (C := [(b, rowO [.int .i64 now, .slice A al.length c] 27)]) (L' := C20 :: [(b16, rowO [.int .i64 id, .int .i64 (now + n)] 46)] :: [(b1, rowO [.int .i64 id] 3)] :: C :: F) rfl rfl
  refine st_store tbOk hA hS [.slice A21 (((al.filter (fun x => !(wid id x))) ++ ([(id, now + n)] : List (Int × Int))).length) c22] [.int .i64 now, .slice A21 (((al.filter (fun x => !(wid id x))) ++ ([(id, now + n)] : List (Int × Int))).length) c22] rfl rfl rfl rfl rfl rfl (by intro u hu; rw [List.mem_singleton.1 hu]; rfl) (Nat.le_of_ble_eq_true rfl) rfl rfl rfl ?_; clear hS; intro w23 hS
  refine dr_nil (.inl (by decide)) ?_
  refine dr_end ?_
  replace hA := hA.sel [] (e' := []) rfl
  refine xt_norm ?_
  refine wp_seq ?_
  refine wp_region_lit ?_
  refine st_run tbOk 1 hA (e' := (6, .nilIface) :: _) rfl ?_; clear hA; intro a hA
  refine wpList_nil ?_
  refine xt_norm ?_
  refine wp_ret ?_
  refine ret1 (fn := Tryd.f6) hA rfl rfl ?_
  replace hS := hS.front 1 (C := C20) (L' := [(b, rowO [.int .i64 now, .slice A21 (((al.filter (fun x => !(wid id x))) ++ ([(id, now + n)] : List (Int × Int))).length) c22] 27)] :: [(b16, rowO [.int .i64 id, .int .i64 (now + n)] 46)] :: [(b1, rowO [.int .i64 id] 3)] :: C :: F) rfl rfl
  replace hS := hS.front 1 (C := [(b, rowO [.int .i64 now, .slice A21 (((al.filter (fun x => !(wid id x))) ++ ([(id, now + n)] : List (Int × Int))).length) c22] 27)]) (L' := C20 :: [(b16, rowO [.int .i64 id, .int .i64 (now + n)] 46)] :: [(b1, rowO [.int .i64 id] 3)] :: C :: F) rfl rfl
  replace hS := (hS.front 2 rfl rfl).drop1
  replace hS := (hS.front 2 rfl rfl).drop1
  replace hS := (hS.front 2 rfl rfl).drop1
  replace hS := hS.join
  exact ⟨_, ⟨_, _, hO20, rfl⟩, rfl, hS⟩

theorem cancel8 {w0 w : World} {F : List Chunk} {L : Chunk} {b : Nat} {now : Int} {al : List (Int × Int)} (hS : St w0 w (L :: F)) (hM : XR b now al L) (id : Int) :
    Ret Tryd.prog 8 #[.pointer (some ⟨b, 0, none⟩), .int .i64 id] w (fun v w' => ∃ L', XR b (now) (al.filter (fun x => !(wid id x))) L' ∧ v = .bool (decide (((al.filter (fun x => !(wid id x))).length : Nat) < al.length)) ∧ St w0 w' (L' :: F)) := by
  obtain ⟨v, C, hO, rfl⟩ := hM
  obtain ⟨A, c, rfl, hmc, hcx⟩ := hO.open'
  replace hS : St w0 w ([(b, rowO [.int .i64 now, .slice A al.length c] 27)] :: C :: F) := hS.split
  refine enter (vs := [.pointer (some ⟨b, 0, none⟩), .int .i64 id]) 27 Tryd.func8 rfl rfl (by simp) ?_; intro a hA
  refine wp_seq ?_
  refine wp_region_lit ?_
  refine st_box hA hS [.int .i64 id] rfl rfl rfl rfl rfl (by decide) ?_; clear hA hS; intro b1 w2 a hS hA
  refine st_run tbOk 1 hA (e' := (4, .bool false) :: _) rfl ?_; clear hA; intro a hA
  refine wpList_nil ?_
  replace hA := hA.sel [0, 3] (e' := [(0, .pointer (some ⟨b, 0, none⟩)), (3, .pointer (some ⟨b1, 0, none⟩))]) rfl
  refine xt_norm ?_
  refine wp_seq ?_
  refine wp_region_lit ?_
  refine st_run tbOk 3 hA (e' := (8, .pointer (some ⟨b, 1, none⟩)) :: (7, .pointer (some ⟨b, 0, none⟩)) :: (6, .pointer (some ⟨b, 0, none⟩)) :: _) rfl ?_; clear hA; intro a hA
  refine st_val hA rfl rfl (by decide) (rn_load tbOk hA rfl rfl rfl rfl (cell_row (hS.heapAt 1 rfl) rfl)) ?_; clear hA; intro a hA
  refine st_run tbOk 2 hA (e' := (5, .int .i64 ((al.length : Nat) : Int)) :: (10, .int .i64 ((al.length : Nat) : Int)) :: _) rfl ?_; clear hA; intro a hA
  refine wpList_nil ?_
  replace hA := hA.sel [0, 3, 5] (e' := [(0, .pointer (some ⟨b, 0, none⟩)), (3, .pointer (some ⟨b1, 0, none⟩)), (5, .int .i64 ((al.length : Nat) : Int))]) rfl
  refine xt_norm ?_
  refine wp_seq ?_
  refine wp_region_lit ?_
  refine st_run tbOk 4 hA (e' := (14, .pointer (some ⟨b, 1, none⟩)) :: (13, .pointer (some ⟨b, 0, none⟩)) :: (12, .pointer (some ⟨b, 0, none⟩)) :: (11, .pointer (some ⟨b, 0, none⟩)) :: _) rfl ?_; clear hA; intro a hA
  refine st_val hA rfl rfl (by decide) (rn_load tbOk hA rfl rfl rfl rfl (cell_row (hS.heapAt 1 rfl) rfl)) ?_; clear hA; intro a hA
  refine st_run tbOk 1 hA (e' := (16, .func (.func 17) #[] #[.pointer (some ⟨b1, 0, none⟩)]) :: _) rfl ?_; clear hA; intro a hA
  replace hS := hS.front 2 (C := C) (L' := [(b1, rowO [.int .i64 id] 3)] :: [(b, rowO [.int .i64 now, .slice A al.length c] 27)] :: F) rfl rfl
  refine st_call0 hA rfl rfl rfl isfn13 rfl rfl (by decide) (deleteFunc13 hS (l := al) hO isfn17 (cancP (bx := b1) (fun w' h => cell_row (h.heapAt 0 rfl) rfl))) ?_
  clear hA hS; rintro v3 w4 a ⟨C5, hO5, hS⟩ hA
  obtain ⟨A6, c7, rfl, hmc7, hxc7⟩ := hO5.open'
  refine st_run tbOk 2 hA (e' := (19, .pointer (some ⟨b, 1, none⟩)) :: (18, .pointer (some ⟨b, 0, none⟩)) :: _) rfl ?_; clear hA; intro a hA
  replace hS := hS.front 2 (C := [(b, rowO [.int .i64 now, .slice A al.length c] 27)]) (L' := C5 :: [(b1, rowO [.int .i64 id] 3)] :: F) rfl rfl
  refine st_store tbOk hA hS [.slice A6 ((al.filter (fun x => !(wid id x))).length) c7] [.int .i64 now, .slice A6 ((al.filter (fun x => !(wid id x))).length) c7] rfl rfl rfl rfl rfl rfl (by intro u hu; rw [List.mem_singleton.1 hu]; rfl) (Nat.le_of_ble_eq_true rfl) rfl rfl rfl ?_; clear hS; intro w8 hS
  refine wpList_nil ?_
  replace hA := hA.sel [0, 5] (e' := [(0, .pointer (some ⟨b, 0, none⟩)), (5, .int .i64 ((al.length : Nat) : Int))]) rfl
  refine xt_norm ?_
  refine wp_seq ?_
  refine wp_region_lit ?_
  refine st_run tbOk 3 hA (e' := (22, .pointer (some ⟨b, 1, none⟩)) :: (21, .pointer (some ⟨b, 0, none⟩)) :: (20, .pointer (some ⟨b, 0, none⟩)) :: _) rfl ?_; clear hA; intro a hA
  refine st_val hA rfl rfl (by decide) (rn_load tbOk hA rfl rfl rfl rfl (cell_row (hS.heapAt 0 rfl) rfl)) ?_; clear hA; intro a hA
  refine st_run tbOk 4 hA (e' := (4, .bool (decide ((((al.filter (fun x => !(wid id x))).length : Nat) : Int) < ((al.length : Nat) : Int)))) :: (26, .bool (decide ((((al.filter (fun x => !(wid id x))).length : Nat) : Int) < ((al.length : Nat) : Int)))) :: (25, .int .i64 ((al.length : Nat) : Int)) :: (24, .int .i64 (((al.filter (fun x => !(wid id x))).length : Nat) : Int)) :: _) rfl ?_; clear hA; intro a hA
  refine wpList_nil ?_
  replace hA := hA.sel [4] (e' := [(4, .bool (decide ((((al.filter (fun x => !(wid id x))).length : Nat) : Int) < ((al.length : Nat) : Int))))]) rfl
  refine xt_norm ?_
  refine wp_ret ?_
  refine ret1 (fn := Tryd.f8) hA rfl rfl ?_
  replace hS := hS.front 1 (C := C5) (L' := [(b, rowO [.int .i64 now, .slice A6 ((al.filter (fun x => !(wid id x))).length) c7] 27)] :: [(b1, rowO [.int .i64 id] 3)] :: F) rfl rfl
  replace hS := hS.front 1 (C := [(b, rowO [.int .i64 now, .slice A6 ((al.filter (fun x => !(wid id x))).length) c7] 27)]) (L' := C5 :: [(b1, rowO [.int .i64 id] 3)] :: F) rfl rfl
  replace hS := (hS.front 2 rfl rfl).drop1
  replace hS := hS.join
  exact ⟨_, ⟨_, _, hO5, rfl⟩, congrArg Value.bool (by first | rfl | (rw [decide_eq_decide]; omega)), hS⟩

theorem now12 {w0 w : World} {F : List Chunk} {L : Chunk} {b : Nat} {now : Int} {al : List (Int × Int)} (hS : St w0 w (L :: F)) (hM : XR b now al L)  :
    Ret Tryd.prog 12 #[.pointer (some ⟨b, 0, none⟩)] w (fun v w' => ∃ L', XR b (now) (al) L' ∧ v = .int .i64 now ∧ St w0 w' (L' :: F)) := by
  obtain ⟨v, C, hO, rfl⟩ := hM
  obtain ⟨A, c, rfl, hmc, hcx⟩ := hO.open'
  replace hS : St w0 w ([(b, rowO [.int .i64 now, .slice A al.length c] 27)] :: C :: F) := hS.split
  refine enter (vs := [.pointer (some ⟨b, 0, none⟩)]) 7 Tryd.func12 rfl rfl (by simp) ?_; intro a hA
  refine wp_seq ?_
  refine wp_region_lit ?_
  refine st_run tbOk 1 hA (e' := (2, .int .i64 0) :: _) rfl ?_; clear hA; intro a hA
  refine wpList_nil ?_
  replace hA := hA.sel [0] (e' := [(0, .pointer (some ⟨b, 0, none⟩))]) rfl
  refine xt_norm ?_
  refine wp_seq ?_
  refine wp_region_lit ?_
  refine st_run tbOk 3 hA (e' := (5, .pointer (some ⟨b, 0, none⟩)) :: (4, .pointer (some ⟨b, 0, none⟩)) :: (3, .pointer (some ⟨b, 0, none⟩)) :: _) rfl ?_; clear hA; intro a hA
  refine st_val hA rfl rfl (by decide) (rn_load tbOk hA rfl rfl rfl rfl (cell_row (hS.heapAt 0 rfl) rfl)) ?_; clear hA; intro a hA
  refine st_run tbOk 1 hA (e' := (2, .int .i64 now) :: _) rfl ?_; clear hA; intro a hA
  refine wpList_nil ?_
  replace hA := hA.sel [2] (e' := [(2, .int .i64 now)]) rfl
  refine xt_norm ?_
  refine wp_ret ?_
  refine ret1 (fn := Tryd.f12) hA rfl rfl ?_
  replace hS := hS.front 1 (C := C) (L' := [(b, rowO [.int .i64 now, .slice A al.length c] 27)] :: F) rfl rfl
  replace hS := hS.front 1 (C := [(b, rowO [.int .i64 now, .slice A al.length c] 27)]) (L' := C :: F) rfl rfl
  replace hS := hS.join
  exact ⟨_, ⟨_, _, hO, rfl⟩, rfl, hS⟩

def left (al : List (Int × Int)) (id : Int) : Option Int := (al.find? (wid id)).map (fun x => x.2)
def noneOf (al : List (Int × Int)) (id : Int) (k : Nat) : Prop := ∀ (i : Nat) (x : Int × Int), i < k → al[i]? = some x → ¬ x.1 = id
theorem left_some {al : List (Int × Int)} {id : Int} {k : Nat} {x : Int × Int} (hb : noneOf al id k) (hx : al[k]? = some x) (h : x.1 = id) : left al id = some x.2 := by
  have : al.find? (wid id) = some x := by
    rw [List.find?_eq_some_iff_getElem]
    obtain ⟨hk, hx2⟩ := List.getElem?_eq_some_iff.1 hx
    refine ⟨by simp [wid, h], k, hk, hx2, fun j hj => ?_⟩
    have := hb j al[j] hj (List.getElem?_eq_getElem (by omega))
    simpa [wid] using this
  rw [left, this]; rfl
theorem left_none {al : List (Int × Int)} {id : Int} (hb : noneOf al id al.length) : left al id = none := by
  have : al.find? (wid id) = none := by
    rw [List.find?_eq_none]
    intro x hx
    obtain ⟨i, hi⟩ := List.mem_iff_getElem?.1 hx
    have := hb i x (List.getElem?_eq_some_iff.1 hi).1 hi
    simpa [wid] using this
  rw [left, this]; rfl

theorem leftT11 {w0 w : World} {F : List Chunk} {L : Chunk} {b : Nat} {now : Int} {al : List (Int × Int)} (hS : St w0 w (L :: F)) (hM : XR b now al L) (id : Int) (hal : ∀ x ∈ al, -4611686018427387904 ≤ x.2 - now ∧ x.2 - now ≤ 4611686018427387904) :
    Ret Tryd.prog 11 #[.pointer (some ⟨b, 0, none⟩), .int .i64 id] w (fun v w' => ∃ L', XR b (now) (al) L' ∧ v = (match left al id with | some a => .tuple #[.int .i64 (a - now), .bool true] | none => .tuple #[.int .i64 0, .bool false]) ∧ St w0 w' (L' :: F)) := by
  obtain ⟨v, C, hO, rfl⟩ := hM
  obtain ⟨A, c, rfl, hmc, hcx⟩ := hO.open'
  replace hS : St w0 w ([(b, rowO [.int .i64 now, .slice A al.length c] 27)] :: C :: F) := hS.split
  refine enter (vs := [.pointer (some ⟨b, 0, none⟩), .int .i64 id]) 29 Tryd.func11 rfl rfl (by simp) ?_; intro a hA
  refine wp_seq ?_
  refine wp_region_lit ?_
  refine st_run tbOk 2 hA (e' := (5, .bool false) :: (4, .int .i64 0) :: _) rfl ?_; clear hA; intro a hA
  refine wpList_nil ?_
  replace hA := hA.sel [0, 1] (e' := [(0, .pointer (some ⟨b, 0, none⟩)), (1, .int .i64 id)]) rfl
  refine xt_norm ?_
  refine wp_seq ?_
  refine wp_seq ?_
  refine wp_region_lit ?_
  refine st_run tbOk 3 hA (e' := (10, .pointer (some ⟨b, 1, none⟩)) :: (9, .pointer (some ⟨b, 0, none⟩)) :: (8, .pointer (some ⟨b, 0, none⟩)) :: _) rfl ?_; clear hA; intro a hA
  refine st_val hA rfl rfl (by decide) (rn_load tbOk hA rfl rfl rfl rfl (cell_row (hS.heapAt 0 rfl) rfl)) ?_; clear hA; intro a hA
  refine st_run tbOk 2 hA (e' := (13, .int .i64 0) :: (12, .int .i64 ((al.length : Nat) : Int)) :: _) rfl ?_; clear hA; intro a hA
  refine wpList_nil ?_
  replace hA := hA.sel [0, 1, 11, 12, 13] (e' := [(0, .pointer (some ⟨b, 0, none⟩)), (1, .int .i64 id), (11, .slice A al.length c), (12, .int .i64 ((al.length : Nat) : Int)), (13, .int .i64 0)]) rfl
  refine xt_norm ?_
  refine wp_block ?_
  refine wp_loop_ghost (fun m a w => ∃ (k : Nat), m = al.length - k ∧ Has a 29 [(0, .pointer (some ⟨b, 0, none⟩)), (1, .int .i64 id), (11, .slice A al.length c), (12, .int .i64 ((al.length : Nat) : Int)), (13, .int .i64 ((k : Nat) : Int))] ∧ St w0 w ([(b, rowO [.int .i64 now, .slice A al.length c] 27)] :: C :: F) ∧ (k ≤ al.length) ∧ (noneOf al id k)) (al.length - 0)
    ⟨0, rfl, (hA.sel [0, 1, 11, 12, 13] rfl), hS, Nat.zero_le _, fun i y hi => absurd hi (by omega)⟩ ?_
  clear hA hS; rintro m0 a w1 ⟨k, rfl, hA, hS, hk, hb⟩
  refine wp_seq ?_
  refine wp_region_lit ?_
  refine st_run tbOk 1 hA (e' := (14, .bool (decide (((k : Nat) : Int) < ((al.length : Nat) : Int)))) :: _) rfl ?_; clear hA; intro a hA
  refine wpList_nil ?_
  refine xt_norm ?_
  refine wp_seq ?_
  by_cases hc2 : ((k : Nat) : Int) < ((al.length : Nat) : Int)
  · first
    | (exfalso; omega)
    | (replace hA := hA.rw 14 (v' := .bool true) rfl (vb_true hc2)
       refine cd_cond_t hA rfl ?_
       refine wp_skip ?_
       refine xt_norm ?_
       refine wp_seq ?_
       refine wp_block ?_
       refine wp_seq ?_
       refine wp_region_lit ?_
       obtain ⟨b3, o4, rfl⟩ := hO.isSome (k := k) (by omega)
       refine st_val hA rfl rfl (by decide) (rn_indexAddr tbOk hA k (o4 + (k * 2)) rfl rfl rfl rfl rfl rfl (by rfl) (by omega) (by first | rfl | simp [Nat.mul_one, Nat.zero_add] | omega)) ?_; clear hA; intro a hA
       obtain ⟨x5, hx5⟩ := get_ex (l := al) (k := k) (by omega)
       refine st_val hA rfl rfl (by decide) (rn_loadA tbOk hA ([.int .i64 x5.1, .int .i64 x5.2]) rfl rfl rfl rfl (by rfl) ((hO.rd (hS.own_ 1 rfl)).elem (k := k) encAlarm_ok hx5)) ?_; clear hA; intro a hA
       refine st_alloc tbOk hA hS [.int .i64 0, .int .i64 0] rfl rfl rfl rfl rfl (by decide) ?_; clear hA hS; intro b6 w7 a hS hA
       refine st_store tbOk hA hS [.int .i64 x5.1, .int .i64 x5.2] [.int .i64 x5.1, .int .i64 x5.2] rfl rfl rfl rfl rfl rfl (by simp [Value.oneCell']) (Nat.le_of_ble_eq_true rfl) rfl rfl rfl ?_; clear hS; intro w8 hS
       refine wpList_nil ?_
       replace hA := hA.sel [0, 1, 7, 11, 12, 13] (e' := [(0, .pointer (some ⟨b, 0, none⟩)), (1, .int .i64 id), (7, .pointer (some ⟨b6, 0, none⟩)), (11, .slice (some ⟨b3, o4, none⟩) al.length c), (12, .int .i64 ((al.length : Nat) : Int)), (13, .int .i64 ((k : Nat) : Int))]) rfl
       refine xt_norm ?_
       refine wp_seq ?_
       refine wp_region_lit ?_
       refine st_run tbOk 1 hA (e' := (17, .pointer (some ⟨b6, 0, none⟩)) :: _) rfl ?_; clear hA; intro a hA
       refine st_val hA rfl rfl (by decide) (rn_load tbOk hA rfl rfl rfl rfl (cell_row (hS.heapAt 0 rfl) rfl)) ?_; clear hA; intro a hA
       refine st_run tbOk 2 hA (e' := (20, .bool (x5.1 == id)) :: (19, .int .i64 id) :: _) rfl ?_; clear hA; intro a hA
       refine wpList_nil ?_
       replace hA := hA.sel [0, 1, 7, 11, 12, 13, 20] (e' := [(0, .pointer (some ⟨b, 0, none⟩)), (1, .int .i64 id), (7, .pointer (some ⟨b6, 0, none⟩)), (11, .slice (some ⟨b3, o4, none⟩) al.length c), (12, .int .i64 ((al.length : Nat) : Int)), (13, .int .i64 ((k : Nat) : Int)), (20, .bool (x5.1 == id))]) rfl
       refine xt_norm ?_
       by_cases hc9 : x5.1 = id
       · first
         | (exfalso; omega)
         | (replace hA := hA.rw 20 (v' := .bool true) rfl (vb_eq_t hc9)
            refine cd_cond_t hA rfl ?_
            refine wp_seq ?_
            refine wp_draw (fun w' => St w0 w' ([(b6, rowO [.int .i64 x5.1, .int .i64 x5.2] 46)] :: [(b, rowO [.int .i64 now, .slice (some ⟨b3, o4, none⟩) al.length c] 27)] :: C :: F)) [] [(0, true), (1, true), (2, true), (3, true), (4, true), (5, true), (6, true), (7, true), (8, true)] mixed (by kernel_rfl) (by rintro c a w ⟨_, _, h, _⟩; cases h) (by rfl) (by kernel_rfl) ?_
            replace hS := hS.drew
            refine dr_run tbOk 1 hA hS (e' := (21, .pointer (some ⟨b6, 1, none⟩)) :: _) rfl ?_; clear hA; intro a hA
            refine dr_y hA rfl rfl rfl (by decide) hS (fun w' hS' => rn_load tbOk hA rfl rfl rfl rfl (cell_row (hS'.heapAt 0 rfl) rfl)) ?_; clear hA; intro a hA
            refine dr_run tbOk 3 hA hS (e' := (25, .pointer (some ⟨b, 0, none⟩)) :: (24, .pointer (some ⟨b, 0, none⟩)) :: (23, .pointer (some ⟨b, 0, none⟩)) :: _) rfl ?_; clear hA; intro a hA
            refine dr_y hA rfl rfl rfl (by decide) hS (fun w' hS' => rn_load tbOk hA rfl rfl rfl rfl (cell_row (hS'.heapAt 1 rfl) rfl)) ?_; clear hA; intro a hA
            have hbd := hal _ (List.mem_of_getElem? hx5)
            refine dr_run tbOk 1 hA hS (e' := (27, .int .i64 (IntKind.i64.wrap (x5.2 - now))) :: _) rfl ?_; clear hA; intro a hA
            replace hA := hA.rw 27 (v' := .int .i64 (x5.2 - now)) rfl (wr64 (by omega) (by omega) (by omega))
            refine dr_run tbOk 2 hA hS (e' := (5, .bool true) :: (4, .int .i64 (x5.2 - now)) :: _) rfl ?_; clear hA; intro a hA
            refine dr_end ?_
            replace hA := hA.sel [4, 5] (e' := [(4, .int .i64 (x5.2 - now)), (5, .bool true)]) rfl
            refine xt_norm ?_
            refine wp_ret (xb_ret (xt_ret (xt_ret (xb_ret (xt_ret ?_)))))
            refine ret2 (fn := Tryd.f11) hA rfl rfl rfl ?_
            have hlf := left_some hb hx5 (by assumption)
            replace hS := hS.front 2 (C := C) (L' := [(b6, rowO [.int .i64 x5.1, .int .i64 x5.2] 46)] :: [(b, rowO [.int .i64 now, .slice (some ⟨b3, o4, none⟩) al.length c] 27)] :: F) rfl rfl
            replace hS := hS.front 2 (C := [(b, rowO [.int .i64 now, .slice (some ⟨b3, o4, none⟩) al.length c] 27)]) (L' := C :: [(b6, rowO [.int .i64 x5.1, .int .i64 x5.2] 46)] :: F) rfl rfl
            replace hS := (hS.front 2 rfl rfl).drop1
            replace hS := hS.join
            exact ⟨_, ⟨_, _, hO, rfl⟩, by rw [hlf], hS⟩)
       · first
         | (exfalso; omega)
         | (replace hA := hA.rw 20 (v' := .bool false) rfl (vb_eq_f hc9)
            refine cd_cond_f hA rfl ?_
            refine wp_skip ?_
            refine xb_norm ?_
            refine xt_norm ?_
            refine wp_region_lit ?_
            refine st_run tbOk 1 hA (e' := (28, .int .i64 (IntKind.i64.wrap (((k : Nat) : Int) + 1))) :: _) rfl ?_; clear hA; intro a hA
            replace hA := hA.rw 28 (v' := .int .i64 ((k + 1 : Nat) : Int)) rfl (wr64 (by omega) (by omega) (by omega))
            refine st_run tbOk 1 hA (e' := (13, .int .i64 ((k + 1 : Nat) : Int)) :: _) rfl ?_; clear hA; intro a hA
            refine wpList_nil ?_
            replace hA := hA.sel [0, 1, 11, 12, 13] (e' := [(0, .pointer (some ⟨b, 0, none⟩)), (1, .int .i64 id), (11, .slice (some ⟨b3, o4, none⟩) al.length c), (12, .int .i64 ((al.length : Nat) : Int)), (13, .int .i64 ((k + 1 : Nat) : Int))]) rfl
            replace hS := hS.drop1
            replace hS := hS.front 1 (C := C) (L' := [(b, rowO [.int .i64 now, .slice (some ⟨b3, o4, none⟩) al.length c] 27)] :: F) rfl rfl
            replace hS := hS.front 1 (C := [(b, rowO [.int .i64 now, .slice (some ⟨b3, o4, none⟩) al.length c] 27)]) (L' := C :: F) rfl rfl
            exact lp_next _ (by omega) ⟨(k + 1), rfl, (hA.sel [0, 1, 11, 12, 13] rfl), hS, by omega, fun i y hi hy => (Nat.lt_succ_iff_lt_or_eq.1 hi).elim (fun h => hb i y h hy) (fun h => by subst h; rw [hx5] at hy; injection hy with hy; subst hy; assumption)⟩))
  · first
    | (exfalso; omega)
    | (replace hA := hA.rw 14 (v' := .bool false) rfl (vb_false hc2)
       refine cd_cond_f hA rfl ?_
       refine wp_exit ?_
       refine xt_exit ?_
       refine xt_exit ?_
       refine cd_exit_eq ?_
       refine xt_norm ?_
       refine wp_seq ?_
       refine wp_region_lit ?_
       refine st_run tbOk 2 hA (e' := (5, .bool false) :: (4, .int .i64 0) :: _) rfl ?_; clear hA; intro a hA
       refine wpList_nil ?_
       replace hA := hA.sel [4, 5] (e' := [(4, .int .i64 0), (5, .bool false)]) rfl
       refine xt_norm ?_
       refine wp_ret ?_
       refine ret2 (fn := Tryd.f11) hA rfl rfl rfl ?_
       have hkk : k = al.length := by omega
       subst hkk
       have hlf := left_none hb
       replace hS := hS.front 1 (C := C) (L' := [(b, rowO [.int .i64 now, .slice A al.length c] 27)] :: F) rfl rfl
       replace hS := hS.front 1 (C := [(b, rowO [.int .i64 now, .slice A al.length c] 27)]) (L' := C :: F) rfl rfl
       replace hS := hS.join
       exact ⟨_, ⟨_, _, hO, rfl⟩, by rw [hlf], hS⟩)

def ring (al : List (Int × Int)) (now : Int) (k : Nat) : List Int := ((al.take k).filter (wat now)).map (fun x => x.1)
theorem ring_yes {al : List (Int × Int)} {now : Int} {k : Nat} {x : Int × Int} (hx : al[k]? = some x) (h : x.2 = now) : ring al now k ++ [x.1] = ring al now (k + 1) := by
  rw [ring, ring, List.take_add_one, hx, List.filter_append, List.map_append]
  congr 1
  simp [wat, h]
theorem ring_no {al : List (Int × Int)} {now : Int} {k : Nat} {x : Int × Int} (hx : al[k]? = some x) (h : ¬ x.2 = now) : ring al now k = ring al now (k + 1) := by
  rw [ring, ring, List.take_add_one, hx, List.filter_append, List.map_append]
  simp [wat, h]
theorem ring_le (al : List (Int × Int)) (now : Int) (k : Nat) : (ring al now k).length ≤ k := by
  rw [ring, List.length_map]; exact Nat.le_trans (List.length_filter_le _ _) (by rw [List.length_take]; omega)

theorem tick10 {w0 w : World} {F : List Chunk} {L : Chunk} {b : Nat} {now : Int} {al : List (Int × Int)} (hS : St w0 w (L :: F)) (hM : XR b now al L) (hal : al.length ≤ 64) (hn1 : -4611686018427387904 ≤ now) (hn2 : now ≤ 4611686018427387904) :
    Ret Tryd.prog 10 #[.pointer (some ⟨b, 0, none⟩)] w (fun v w' => ∃ L' C', Own 3 1 v (ring al (now + 1) al.length).length (rows encI (ring al (now + 1) al.length)) C' ∧ XR b (now + 1) (al.filter (fun x => !(wat (now + 1) x))) L' ∧ St w0 w' (C' :: L' :: F)) := by
  obtain ⟨v, C, hO, rfl⟩ := hM
  obtain ⟨A, c, rfl, hmc, hcx⟩ := hO.open'
  replace hS : St w0 w ([(b, rowO [.int .i64 now, .slice A al.length c] 27)] :: C :: F) := hS.split
  refine enter (vs := [.pointer (some ⟨b, 0, none⟩)]) 45 Tryd.func10 rfl rfl (by simp) ?_; intro a hA
  refine wp_seq ?_
  refine wp_region_lit ?_
  refine st_box hA hS [.pointer (some ⟨b, 0, none⟩)] rfl rfl rfl rfl rfl (by decide) ?_; clear hA hS; intro b1 w2 a hS hA
  refine st_run tbOk 1 hA (e' := (2, .slice none 0 0) :: _) rfl ?_; clear hA; intro a hA
  refine wpList_nil ?_
  replace hA := hA.sel [1] (e' := [(1, .pointer (some ⟨b1, 0, none⟩))]) rfl
  refine xt_norm ?_
  refine wp_seq ?_
  refine wp_region_lit ?_
  refine st_val hA rfl rfl (by decide) (rn_load tbOk hA rfl rfl rfl rfl (cell_row (hS.heapAt 0 rfl) rfl)) ?_; clear hA; intro a hA
  refine st_run tbOk 2 hA (e' := (8, .pointer (some ⟨b, 0, none⟩)) :: (7, .pointer (some ⟨b, 0, none⟩)) :: _) rfl ?_; clear hA; intro a hA
  refine st_val hA rfl rfl (by decide) (rn_load tbOk hA rfl rfl rfl rfl (cell_row (hS.heapAt 1 rfl) rfl)) ?_; clear hA; intro a hA
  refine st_run tbOk 1 hA (e' := (10, .int .i64 (IntKind.i64.wrap (now + 1))) :: _) rfl ?_; clear hA; intro a hA
  replace hA := hA.rw 10 (v' := .int .i64 (now + 1)) rfl (wr64 (by omega) (by omega) (by omega))
  refine st_run tbOk 2 hA (e' := (12, .pointer (some ⟨b, 0, none⟩)) :: (11, .pointer (some ⟨b, 0, none⟩)) :: _) rfl ?_; clear hA; intro a hA
  replace hS := hS.front 1 (C := [(b, rowO [.int .i64 now, .slice A al.length c] 27)]) (L' := [(b1, rowO [.pointer (some ⟨b, 0, none⟩)] 24)] :: C :: F) rfl rfl
  refine st_store tbOk hA hS [.int .i64 (now + 1)] [.int .i64 (now + 1), .slice A al.length c] rfl rfl rfl rfl rfl rfl (by intro u hu; rw [List.mem_singleton.1 hu]; rfl) (Nat.le_of_ble_eq_true rfl) rfl rfl rfl ?_; clear hS; intro w3 hS
  refine wpList_nil ?_
  replace hA := hA.sel [1] (e' := [(1, .pointer (some ⟨b1, 0, none⟩))]) rfl
  refine xt_norm ?_
  refine wp_seq ?_
  refine wp_region_lit ?_
  refine st_run tbOk 1 hA (e' := (3, .slice none 0 0) :: _) rfl ?_; clear hA; intro a hA
  refine wpList_nil ?_
  refine xt_norm ?_
  refine wp_seq ?_
  refine wp_seq ?_
  refine wp_region_lit ?_
  refine st_val hA rfl rfl (by decide) (rn_load tbOk hA rfl rfl rfl rfl (cell_row (hS.heapAt 1 rfl) rfl)) ?_; clear hA; intro a hA
  refine st_run tbOk 2 hA (e' := (15, .pointer (some ⟨b, 1, none⟩)) :: (14, .pointer (some ⟨b, 0, none⟩)) :: _) rfl ?_; clear hA; intro a hA
  refine st_val hA rfl rfl (by decide) (rn_load tbOk hA rfl rfl rfl rfl (cell_row (hS.heapAt 0 rfl) rfl)) ?_; clear hA; intro a hA
  refine st_run tbOk 2 hA (e' := (18, .int .i64 0) :: (17, .int .i64 ((al.length : Nat) : Int)) :: _) rfl ?_; clear hA; intro a hA
  refine wpList_nil ?_
  replace hA := hA.sel [1, 3, 16, 17, 18] (e' := [(1, .pointer (some ⟨b1, 0, none⟩)), (3, .slice none 0 0), (16, .slice A al.length c), (17, .int .i64 ((al.length : Nat) : Int)), (18, .int .i64 0)]) rfl
  refine xt_norm ?_
  refine wp_block ?_
  replace hS := hS.nil
  refine wp_loop_ghost (fun m a w => ∃ (k : Nat) (A1 : Option Addr) (c1 : Nat) (R : Chunk), m = al.length - k ∧ Has a 45 [(1, .pointer (some ⟨b1, 0, none⟩)), (3, .slice A1 ((ring al (now + 1) k).length) c1), (16, .slice A al.length c), (17, .int .i64 ((al.length : Nat) : Int)), (18, .int .i64 ((k : Nat) : Int))] ∧ St w0 w (R :: [(b, rowO [.int .i64 (now + 1), .slice A al.length c] 27)] :: [(b1, rowO [.pointer (some ⟨b, 0, none⟩)] 24)] :: C :: F) ∧ (k ≤ al.length) ∧ (Own 3 1 (.slice A1 (ring al (now + 1) k).length c1) (ring al (now + 1) k).length (rows encI (ring al (now + 1) k)) R)) (al.length - 0)
    ⟨0, none, 0, ([]), rfl, (hA.sel [1, 3, 16, 17, 18] rfl), hS, Nat.zero_le _, (Own.nil 3 1)⟩ ?_
  clear hA hS; rintro m0 a w4 ⟨k, A1, c1, R, rfl, hA, hS, hk, hR⟩
  have hrl := ring_le al (now + 1) k
  refine wp_seq ?_
  refine wp_region_lit ?_
  refine st_run tbOk 1 hA (e' := (19, .bool (decide (((k : Nat) : Int) < ((al.length : Nat) : Int)))) :: _) rfl ?_; clear hA; intro a hA
  refine wpList_nil ?_
  refine xt_norm ?_
  refine wp_seq ?_
  by_cases hc5 : ((k : Nat) : Int) < ((al.length : Nat) : Int)
  · first
    | (exfalso; omega)
    | (replace hA := hA.rw 19 (v' := .bool true) rfl (vb_true hc5)
       refine cd_cond_t hA rfl ?_
       refine wp_skip ?_
       refine xt_norm ?_
       refine wp_seq ?_
       refine wp_block ?_
       refine wp_seq ?_
       refine wp_region_lit ?_
       obtain ⟨b6, o7, rfl⟩ := hO.isSome (k := k) (by omega)
       refine st_val hA rfl rfl (by decide) (rn_indexAddr tbOk hA k (o7 + (k * 2)) rfl rfl rfl rfl rfl rfl (by rfl) (by omega) (by first | rfl | simp [Nat.mul_one, Nat.zero_add] | omega)) ?_; clear hA; intro a hA
       obtain ⟨x8, hx8⟩ := get_ex (l := al) (k := k) (by omega)
       refine st_val hA rfl rfl (by decide) (rn_loadA tbOk hA ([.int .i64 x8.1, .int .i64 x8.2]) rfl rfl rfl rfl (by rfl) ((hO.rd (hS.own_ 3 rfl)).elem (k := k) encAlarm_ok hx8)) ?_; clear hA; intro a hA
       refine st_alloc tbOk hA hS [.int .i64 0, .int .i64 0] rfl rfl rfl rfl rfl (by decide) ?_; clear hA hS; intro b9 w10 a hS hA
       refine st_store tbOk hA hS [.int .i64 x8.1, .int .i64 x8.2] [.int .i64 x8.1, .int .i64 x8.2] rfl rfl rfl rfl rfl rfl (by simp [Value.oneCell']) (Nat.le_of_ble_eq_true rfl) rfl rfl rfl ?_; clear hS; intro w11 hS
       refine wpList_nil ?_
       replace hA := hA.sel [1, 3, 5, 16, 17, 18] (e' := [(1, .pointer (some ⟨b1, 0, none⟩)), (3, .slice A1 ((ring al (now + 1) k).length) c1), (5, .pointer (some ⟨b9, 0, none⟩)), (16, .slice (some ⟨b6, o7, none⟩) al.length c), (17, .int .i64 ((al.length : Nat) : Int)), (18, .int .i64 ((k : Nat) : Int))]) rfl
       refine xt_norm ?_
       refine wp_seq ?_
       refine wp_draw (fun w' => St w0 w' ([(b9, rowO [.int .i64 x8.1, .int .i64 x8.2] 46)] :: R :: [(b, rowO [.int .i64 (now + 1), .slice (some ⟨b6, o7, none⟩) al.length c] 27)] :: [(b1, rowO [.pointer (some ⟨b, 0, none⟩)] 24)] :: C :: F)) [] [(0, true), (1, true), (2, true), (3, true), (4, true), (5, true), (6, true)] mixed (by kernel_rfl) (by rintro c a w ⟨_, _, h, _⟩; cases h) (by rfl) (by kernel_rfl) ?_
       replace hS := hS.drew
       refine dr_run tbOk 1 hA hS (e' := (22, .pointer (some ⟨b9, 1, none⟩)) :: _) rfl ?_; clear hA; intro a hA
       refine dr_y hA rfl rfl rfl (by decide) hS (fun w' hS' => rn_load tbOk hA rfl rfl rfl rfl (cell_row (hS'.heapAt 0 rfl) rfl)) ?_; clear hA; intro a hA
       refine dr_y hA rfl rfl rfl (by decide) hS (fun w' hS' => rn_load tbOk hA rfl rfl rfl rfl (cell_row (hS'.heapAt 3 rfl) rfl)) ?_; clear hA; intro a hA
       refine dr_run tbOk 2 hA hS (e' := (26, .pointer (some ⟨b, 0, none⟩)) :: (25, .pointer (some ⟨b, 0, none⟩)) :: _) rfl ?_; clear hA; intro a hA
       refine dr_y hA rfl rfl rfl (by decide) hS (fun w' hS' => rn_load tbOk hA rfl rfl rfl rfl (cell_row (hS'.heapAt 2 rfl) rfl)) ?_; clear hA; intro a hA
       refine dr_run tbOk 1 hA hS (e' := (28, .bool (x8.2 == (now + 1))) :: _) rfl ?_; clear hA; intro a hA
       refine dr_end ?_
       replace hA := hA.sel [1, 3, 5, 16, 17, 18, 28] (e' := [(1, .pointer (some ⟨b1, 0, none⟩)), (3, .slice A1 ((ring al (now + 1) k).length) c1), (5, .pointer (some ⟨b9, 0, none⟩)), (16, .slice (some ⟨b6, o7, none⟩) al.length c), (17, .int .i64 ((al.length : Nat) : Int)), (18, .int .i64 ((k : Nat) : Int)), (28, .bool (x8.2 == (now + 1)))]) rfl
       refine xt_norm ?_
       by_cases hc12 : x8.2 = now + 1
       · first
         | (exfalso; omega)
         | (replace hA := hA.rw 28 (v' := .bool true) rfl (vb_eq_t hc12)
            refine cd_cond_t hA rfl ?_
            refine wp_region_lit ?_
            refine st_run tbOk 2 hA (e' := (30, .pointer (some ⟨b9, 0, none⟩)) :: (29, .slice A1 ((ring al (now + 1) k).length) c1) :: _) rfl ?_; clear hA; intro a hA
            refine st_val hA rfl rfl (by decide) (rn_load tbOk hA rfl rfl rfl rfl (cell_row (hS.heapAt 0 rfl) rfl)) ?_; clear hA; intro a hA
            refine st_buildSlice tbOk hA hS [.int .i64 x8.1] rfl rfl rfl rfl rfl (by decide) (by kernel_rfl) rfl rfl (by decide) ?_; clear hA hS; intro b13 w14 a hS hA
            replace hS := hS.front 2 (C := R) (L' := [(b13, rowO [.int .i64 x8.1] 3)] :: [(b9, rowO [.int .i64 x8.1, .int .i64 x8.2] 46)] :: [(b, rowO [.int .i64 (now + 1), .slice (some ⟨b6, o7, none⟩) al.length c] 27)] :: [(b1, rowO [.pointer (some ⟨b, 0, none⟩)] 24)] :: C :: F) rfl rfl
            refine st_append tbOk hA (m := (ring al (now + 1) k).length) (q := 1) (xs := rows encI (ring al (now + 1) k)) (news := rows encI ([x8.1] : List Int)) rfl rfl rfl rfl rfl rfl rfl rfl (by decide) hR hS ((Own.full (T := 3) (size := 1) (g := b13) (m := 1) rfl (by decide)).rd (hS.own_ 1 rfl)) (rows_one encI_ok _) (maxLen_le (by omega)) (by show ((ring al (now + 1) k).length + 1) * 8 ≤ 140737488355328; omega) rfl rfl (by decide) ?_
            clear hA hS; intro v15 w16 C17 a hO17 hS hA
            replace hO17 := Own.app (l := ring al (now + 1) k) (l2 := ([x8.1] : List Int)) hO17
            obtain ⟨A18, c19, rfl, hmc19, hxc19⟩ := hO17.open'
            refine st_run tbOk 1 hA (e' := (3, .slice A18 (((ring al (now + 1) k) ++ ([x8.1] : List Int)).length) c19) :: _) rfl ?_; clear hA; intro a hA
            refine wpList_nil ?_
            replace hA := hA.sel [1, 3, 16, 17, 18] (e' := [(1, .pointer (some ⟨b1, 0, none⟩)), (3, .slice A18 (((ring al (now + 1) k) ++ ([x8.1] : List Int)).length) c19), (16, .slice (some ⟨b6, o7, none⟩) al.length c), (17, .int .i64 ((al.length : Nat) : Int)), (18, .int .i64 ((k : Nat) : Int))]) rfl
            refine xb_norm ?_
            refine xt_norm ?_
            refine wp_region_lit ?_
            refine st_run tbOk 1 hA (e' := (34, .int .i64 (IntKind.i64.wrap (((k : Nat) : Int) + 1))) :: _) rfl ?_; clear hA; intro a hA
            replace hA := hA.rw 34 (v' := .int .i64 ((k + 1 : Nat) : Int)) rfl (wr64 (by omega) (by omega) (by omega))
            refine st_run tbOk 1 hA (e' := (18, .int .i64 ((k + 1 : Nat) : Int)) :: _) rfl ?_; clear hA; intro a hA
            refine wpList_nil ?_
            replace hA := hA.sel [1, 3, 16, 17, 18] (e' := [(1, .pointer (some ⟨b1, 0, none⟩)), (3, .slice A18 (((ring al (now + 1) k) ++ ([x8.1] : List Int)).length) c19), (16, .slice (some ⟨b6, o7, none⟩) al.length c), (17, .int .i64 ((al.length : Nat) : Int)), (18, .int .i64 ((k + 1 : Nat) : Int))]) rfl
            have hl : (ring al (now + 1) k) ++ ([x8.1] : List Int) = ring al (now + 1) (k + 1) := ring_yes hx8 (by omega)
            rw [hl] at hO17; rw [hl] at hA
            replace hS := hS.front 1 (C := [(b13, rowO [.int .i64 x8.1] 3)]) (L' := C17 :: [(b9, rowO [.int .i64 x8.1, .int .i64 x8.2] 46)] :: [(b, rowO [.int .i64 (now + 1), .slice (some ⟨b6, o7, none⟩) al.length c] 27)] :: [(b1, rowO [.pointer (some ⟨b, 0, none⟩)] 24)] :: C :: F) rfl rfl
            replace hS := hS.drop1
            replace hS := hS.front 1 (C := [(b9, rowO [.int .i64 x8.1, .int .i64 x8.2] 46)]) (L' := C17 :: [(b, rowO [.int .i64 (now + 1), .slice (some ⟨b6, o7, none⟩) al.length c] 27)] :: [(b1, rowO [.pointer (some ⟨b, 0, none⟩)] 24)] :: C :: F) rfl rfl
            replace hS := hS.drop1
            replace hS := hS.front 3 (C := C) (L' := C17 :: [(b, rowO [.int .i64 (now + 1), .slice (some ⟨b6, o7, none⟩) al.length c] 27)] :: [(b1, rowO [.pointer (some ⟨b, 0, none⟩)] 24)] :: F) rfl rfl
            replace hS := hS.front 3 (C := [(b1, rowO [.pointer (some ⟨b, 0, none⟩)] 24)]) (L' := C :: C17 :: [(b, rowO [.int .i64 (now + 1), .slice (some ⟨b6, o7, none⟩) al.length c] 27)] :: F) rfl rfl
            replace hS := hS.front 3 (C := [(b, rowO [.int .i64 (now + 1), .slice (some ⟨b6, o7, none⟩) al.length c] 27)]) (L' := [(b1, rowO [.pointer (some ⟨b, 0, none⟩)] 24)] :: C :: C17 :: F) rfl rfl
            replace hS := hS.front 3 (C := C17) (L' := [(b, rowO [.int .i64 (now + 1), .slice (some ⟨b6, o7, none⟩) al.length c] 27)] :: [(b1, rowO [.pointer (some ⟨b, 0, none⟩)] 24)] :: C :: F) rfl rfl
            exact lp_next _ (by omega) ⟨(k + 1), A18, c19, C17, rfl, (hA.sel [1, 3, 16, 17, 18] rfl), hS, by omega, hO17⟩)
       · first
         | (exfalso; omega)
         | (replace hA := hA.rw 28 (v' := .bool false) rfl (vb_eq_f hc12)
            refine cd_cond_f hA rfl ?_
            refine wp_skip ?_
            refine xb_norm ?_
            refine xt_norm ?_
            refine wp_region_lit ?_
            refine st_run tbOk 1 hA (e' := (34, .int .i64 (IntKind.i64.wrap (((k : Nat) : Int) + 1))) :: _) rfl ?_; clear hA; intro a hA
            replace hA := hA.rw 34 (v' := .int .i64 ((k + 1 : Nat) : Int)) rfl (wr64 (by omega) (by omega) (by omega))
            refine st_run tbOk 1 hA (e' := (18, .int .i64 ((k + 1 : Nat) : Int)) :: _) rfl ?_; clear hA; intro a hA
            refine wpList_nil ?_
            replace hA := hA.sel [1, 3, 16, 17, 18] (e' := [(1, .pointer (some ⟨b1, 0, none⟩)), (3, .slice A1 ((ring al (now + 1) k).length) c1), (16, .slice (some ⟨b6, o7, none⟩) al.length c), (17, .int .i64 ((al.length : Nat) : Int)), (18, .int .i64 ((k + 1 : Nat) : Int))]) rfl
            have hw1 : ring al (now + 1) k = ring al (now + 1) (k + 1) := ring_no hx8 (by omega)
            rw [hw1] at hR hA
            replace hS := hS.drop1
            replace hS := hS.front 3 (C := C) (L' := R :: [(b, rowO [.int .i64 (now + 1), .slice (some ⟨b6, o7, none⟩) al.length c] 27)] :: [(b1, rowO [.pointer (some ⟨b, 0, none⟩)] 24)] :: F) rfl rfl
            replace hS := hS.front 3 (C := [(b1, rowO [.pointer (some ⟨b, 0, none⟩)] 24)]) (L' := C :: R :: [(b, rowO [.int .i64 (now + 1), .slice (some ⟨b6, o7, none⟩) al.length c] 27)] :: F) rfl rfl
            replace hS := hS.front 3 (C := [(b, rowO [.int .i64 (now + 1), .slice (some ⟨b6, o7, none⟩) al.length c] 27)]) (L' := [(b1, rowO [.pointer (some ⟨b, 0, none⟩)] 24)] :: C :: R :: F) rfl rfl
            replace hS := hS.front 3 (C := R) (L' := [(b, rowO [.int .i64 (now + 1), .slice (some ⟨b6, o7, none⟩) al.length c] 27)] :: [(b1, rowO [.pointer (some ⟨b, 0, none⟩)] 24)] :: C :: F) rfl rfl
            exact lp_next _ (by omega) ⟨(k + 1), A1, c1, R, rfl, (hA.sel [1, 3, 16, 17, 18] rfl), hS, by omega, hR⟩))
  · first
    | (exfalso; omega)
    | (replace hA := hA.rw 19 (v' := .bool false) rfl (vb_false hc5)
       refine cd_cond_f hA rfl ?_
       refine wp_exit ?_
       refine xt_exit ?_
       refine xt_exit ?_
       refine cd_exit_eq ?_
       refine xt_norm ?_
       refine wp_seq ?_
       have hkl : k = al.length := by omega
       have hl : ring al (now + 1) k = ring al (now + 1) al.length := by rw [hkl]
       rw [hl] at hR; rw [hl] at hA
       replace hS := hS.front 3 (C := C) (L' := R :: [(b, rowO [.int .i64 (now + 1), .slice A al.length c] 27)] :: [(b1, rowO [.pointer (some ⟨b, 0, none⟩)] 24)] :: F) rfl rfl
       refine wp_draw (fun w' => St w0 w' (R :: [(b, rowO [.int .i64 (now + 1), .slice A al.length c] 27)] :: [(b1, rowO [.pointer (some ⟨b, 0, none⟩)] 24)] :: F)) [9] [(0, true), (1, true), (2, true), (3, true), (4, true), (5, true), (6, false), (7, true), (8, true), (9, false)] mixed (by kernel_rfl) (by rintro c a w ⟨_, _, h, _⟩; cases h) (by rfl) (by kernel_rfl) ?_
       replace hS := hS.drew
       refine dr_y hA rfl rfl rfl (by decide) (hS.tail 1 rfl) (fun w' hS' => rn_load tbOk hA rfl rfl rfl rfl (cell_row (hS'.heapAt 2 rfl) rfl)) ?_; clear hA; intro a hA
       refine dr_y hA rfl rfl rfl (by decide) (hS.tail 1 rfl) (fun w' hS' => rn_load tbOk hA rfl rfl rfl rfl (cell_row (hS'.heapAt 2 rfl) rfl)) ?_; clear hA; intro a hA
       refine dr_run tbOk 2 hA (hS.tail 1 rfl) (e' := (38, .pointer (some ⟨b, 1, none⟩)) :: (37, .pointer (some ⟨b, 0, none⟩)) :: _) rfl ?_; clear hA; intro a hA
       refine dr_y hA rfl rfl rfl (by decide) (hS.tail 1 rfl) (fun w' hS' => rn_load tbOk hA rfl rfl rfl rfl (cell_row (hS'.heapAt 1 rfl) rfl)) ?_; clear hA; intro a hA
       refine dr_run tbOk 1 hA (hS.tail 1 rfl) (e' := (40, .func (.func 18) #[] #[.pointer (some ⟨b1, 0, none⟩)]) :: _) rfl ?_; clear hA; intro a hA
       refine dr_b (o := _) rfl ?_
       refine st_call0 hA rfl rfl rfl isfn13 rfl rfl (by decide) (deleteFunc13 hS (l := al) hO isfn18 (tickcP (bx := b1) (fun w' h => cell_row (h.heapAt 2 rfl) rfl) (fun w' h => cell_row (h.heapAt 1 rfl) rfl))) ?_
       clear hA hS; rintro v20 w21 a ⟨C22, hO22, hS⟩ hA
       obtain ⟨A23, c24, rfl, hmc24, hxc24⟩ := hO22.open'
       refine dr_nil (.inr (hS.tail 1 rfl)) ?_
       refine dr_run tbOk 2 hA (hS.tail 1 rfl) (e' := (43, .pointer (some ⟨b, 1, none⟩)) :: (42, .pointer (some ⟨b, 0, none⟩)) :: _) rfl ?_; clear hA; intro a hA
       refine dr_b (o := _) rfl ?_
       replace hS := hS.front 2 (C := [(b, rowO [.int .i64 (now + 1), .slice A al.length c] 27)]) (L' := C22 :: R :: [(b1, rowO [.pointer (some ⟨b, 0, none⟩)] 24)] :: F) rfl rfl
       refine st_store tbOk hA hS [.slice A23 ((al.filter (fun x => !(wat (now + 1) x))).length) c24] [.int .i64 (now + 1), .slice A23 ((al.filter (fun x => !(wat (now + 1) x))).length) c24] rfl rfl rfl rfl rfl rfl (by intro u hu; rw [List.mem_singleton.1 hu]; rfl) (Nat.le_of_ble_eq_true rfl) rfl rfl rfl ?_; clear hS; intro w25 hS
       refine dr_nil (.inl (by decide)) ?_
       refine dr_end ?_
       replace hA := hA.sel [3] (e' := [(3, .slice A1 ((ring al (now + 1) al.length).length) c1)]) rfl
       refine xt_norm ?_
       refine wp_seq ?_
       refine wp_region_lit ?_
       refine st_run tbOk 2 hA (e' := (2, .slice A1 ((ring al (now + 1) al.length).length) c1) :: (44, .slice A1 ((ring al (now + 1) al.length).length) c1) :: _) rfl ?_; clear hA; intro a hA
       refine wpList_nil ?_
       replace hA := hA.sel [2] (e' := [(2, .slice A1 ((ring al (now + 1) al.length).length) c1)]) rfl
       refine xt_norm ?_
       refine wp_ret ?_
       refine ret1 (fn := Tryd.f10) hA rfl rfl ?_
       replace hS := hS.front 2 (C := R) (L' := [(b, rowO [.int .i64 (now + 1), .slice A23 ((al.filter (fun x => !(wat (now + 1) x))).length) c24] 27)] :: C22 :: [(b1, rowO [.pointer (some ⟨b, 0, none⟩)] 24)] :: F) rfl rfl
       replace hS := hS.front 2 (C := C22) (L' := R :: [(b, rowO [.int .i64 (now + 1), .slice A23 ((al.filter (fun x => !(wat (now + 1) x))).length) c24] 27)] :: [(b1, rowO [.pointer (some ⟨b, 0, none⟩)] 24)] :: F) rfl rfl
       replace hS := hS.front 2 (C := [(b, rowO [.int .i64 (now + 1), .slice A23 ((al.filter (fun x => !(wat (now + 1) x))).length) c24] 27)]) (L' := C22 :: R :: [(b1, rowO [.pointer (some ⟨b, 0, none⟩)] 24)] :: F) rfl rfl
       replace hS := (hS.front 3 rfl rfl).drop1
       replace hS := hS.join
       replace hS := hS.swap
       exact ⟨_, _, hR, ⟨_, _, hO22, rfl⟩, hS⟩)

theorem awake4 {w0 w : World} {F : List Chunk} (hS : St w0 w F) :
    Ret Tryd.prog 4 #[] w (fun v w' => v = .bool true ∧ St w0 w' F) := by
  refine enter (vs := []) 36 Tryd.func4 rfl rfl (by simp) ?_; intro a hA
  refine wp_seq ?_
  refine wp_region_lit ?_
  refine st_run tbOk 1 hA (e' := (0, .bool false) :: _) rfl ?_; clear hA; intro a hA
  refine wpList_nil ?_
  replace hA := hA.sel [] (e' := []) rfl
  refine xt_norm ?_
  refine wp_seq ?_
  refine wp_region_lit ?_
  refine st_run tbOk 1 hA (e' := (3, .agg #[.int .i64 0, .slice none 0 0]) :: _) rfl ?_; clear hA; intro a hA
  refine st_box hA hS [.int .i64 0, .slice none 0 0] rfl rfl rfl rfl rfl (by decide) ?_; clear hA hS; intro b1 w2 a hS hA
  obtain ⟨L3, hM4, hS⟩ : ∃ Z, XR b1 0 [] Z ∧ St w0 w2 (Z :: F) := ⟨_, XR.new _, hS⟩
  refine st_run tbOk 1 hA (e' := (1, .pointer (some ⟨b1, 0, none⟩)) :: _) rfl ?_; clear hA; intro a hA
  refine wpList_nil ?_
  replace hA := hA.sel [1] (e' := [(1, .pointer (some ⟨b1, 0, none⟩))]) rfl
  refine xt_norm ?_
  refine wp_seq ?_
  refine wp_region_lit ?_
  refine st_run tbOk 1 hA (e' := (5, .pointer (some ⟨b1, 0, none⟩)) :: _) rfl ?_; clear hA; intro a hA
  refine st_call0 hA rfl rfl rfl isfn6 rfl rfl (by decide) (set_ok6 hS hM4 7 2 (by decide) (by decide) (by decide) (by decide) (by decide) (by decide)) ?_
  clear hA hS; rintro v w6 a ⟨L5, hM7, rfl, hS⟩ hA
  refine st_run tbOk 3 hA (e' := (9, .pointer (some ⟨b1, 0, none⟩)) :: (8, .bool true) :: (7, .bool true) :: _) rfl ?_; clear hA; intro a hA
  refine st_call0 hA rfl rfl rfl isfn6 rfl rfl (by decide) (set_ok6 hS hM7 8 1 (by decide) (by decide) (by decide) (by decide) (by decide) (by decide)) ?_
  clear hA hS; rintro v w9 a ⟨L8, hM10, rfl, hS⟩ hA
  refine st_run tbOk 4 hA (e' := (14, .pointer (some ⟨b1, 0, none⟩)) :: (13, .bool true) :: (12, .bool true) :: (11, .bool true) :: _) rfl ?_; clear hA; intro a hA
  refine st_call0 hA rfl rfl rfl isfn6 rfl rfl (by decide) (set_ok6 hS hM10 9 2 (by decide) (by decide) (by decide) (by decide) (by decide) (by decide)) ?_
  clear hA hS; rintro v w12 a ⟨L11, hM13, rfl, hS⟩ hA
  refine st_run tbOk 4 hA (e' := (19, .pointer (some ⟨b1, 0, none⟩)) :: (18, .bool true) :: (17, .bool true) :: (16, .bool true) :: _) rfl ?_; clear hA; intro a hA
  refine st_call0 hA rfl rfl rfl isfn6 rfl rfl (by decide) (set_ok6 hS hM13 7 2 (by decide) (by decide) (by decide) (by decide) (by decide) (by decide)) ?_
  clear hA hS; rintro v w15 a ⟨L14, hM16, rfl, hS⟩ hA
  refine st_run tbOk 3 hA (e' := (2, .bool true) :: (22, .bool true) :: (21, .bool true) :: _) rfl ?_; clear hA; intro a hA
  refine wpList_nil ?_
  replace hA := hA.sel [1, 2] (e' := [(1, .pointer (some ⟨b1, 0, none⟩)), (2, .bool true)]) rfl
  refine xt_norm ?_
  refine wp_seq ?_
  refine wp_region_lit ?_
  refine st_run tbOk 3 hA (e' := (25, .pointer (some ⟨b1, 0, none⟩)) :: (24, .bool true) :: (23, .bool true) :: _) rfl ?_; clear hA; intro a hA
  refine st_call0 hA rfl rfl rfl isfn10 rfl rfl (by decide) (tick10 hS hM16 (by decide) (by decide) (by decide)) ?_
  clear hA hS; rintro v20 w18 a ⟨L17, C21, hO21, hM19, hS⟩ hA
  obtain ⟨A22, c23, rfl, hmc23, hxc23⟩ := hO21.open'
  refine st_buildSlice tbOk hA hS [.int .i64 8] rfl rfl rfl rfl rfl (by decide) (by kernel_rfl) rfl rfl (by decide) ?_; clear hA hS; intro b24 w25 a hS hA
  refine st_call0 hA rfl rfl rfl isfn9 rfl rfl (by decide) (same9 hS (xs := ([8] : List Int)) (ys := ([8] : List Int)) (RdS.own hO21 1 rfl) (RdS.own (Own.full (T := 3) (size := 1) (g := b24) (m := 1) rfl (by decide)) 0 rfl)) ?_
  clear hA hS; rintro v w26 a ⟨rfl, hS⟩ hA
  replace hA := hA.rw 28 (v' := .bool true) rfl (by first | rfl | decide)
  refine st_run tbOk 3 hA (e' := (31, .pointer (some ⟨b1, 0, none⟩)) :: (30, .bool true) :: (29, .bool true) :: _) rfl ?_; clear hA; intro a hA
  replace hS := hS.front 2 (C := L17) (L' := [(b24, rowO [.int .i64 8] 3)] :: C21 :: F) rfl rfl
  refine st_call0 hA rfl rfl rfl isfn10 rfl rfl (by decide) (tick10 hS hM19 (by decide) (by decide) (by decide)) ?_
  clear hA hS; rintro v30 w28 a ⟨L27, C31, hO31, hM29, hS⟩ hA
  obtain ⟨A32, c33, rfl, hmc33, hxc33⟩ := hO31.open'
  refine st_buildSlice tbOk hA hS [.int .i64 9, .int .i64 7] rfl rfl rfl rfl rfl (by decide) (by kernel_rfl) rfl rfl (by decide) ?_; clear hA hS; intro b34 w35 a hS hA
  refine st_call0 hA rfl rfl rfl isfn9 rfl rfl (by decide) (same9 hS (xs := ([9, 7] : List Int)) (ys := ([9, 7] : List Int)) (RdS.own hO31 1 rfl) (RdS.own (Own.full (T := 3) (size := 1) (g := b34) (m := 2) rfl (by decide)) 0 rfl)) ?_
  clear hA hS; rintro v w36 a ⟨rfl, hS⟩ hA
  replace hA := hA.rw 34 (v' := .bool true) rfl (by first | rfl | decide)
  refine st_run tbOk 2 hA (e' := (0, .bool true) :: (35, .bool true) :: _) rfl ?_; clear hA; intro a hA
  refine wpList_nil ?_
  replace hA := hA.sel [0] (e' := [(0, .bool true)]) rfl
  refine xt_norm ?_
  refine wp_ret ?_
  refine ret1 (fn := Tryd.f4) hA rfl rfl ?_
  replace hS := hS.drop1
  replace hS := hS.drop1
  replace hS := hS.drop1
  replace hS := hS.drop1
  replace hS := hS.drop1
  exact ⟨rfl, hS⟩

theorem upd_setCell {w : World} {b : Nat} {x v : Value} {T : TypeId} (hb : w.heap[b]? = some (rowO [x] T)) : Upd w (w.setCell ⟨b, 0, none⟩ v) b (rowO [v] T) := by
  refine ⟨rfl, rfl, rfl, by simp [World.setCell], ?_, fun k _ hk => RowKit.Below.heap_setCell w _ _ k hk⟩
  simp only [World.setCell, Array.getElem?_modify, if_true, hb]
  rfl
/-- What the listed variable holds, in the world that the law begins in. -/
def HG (w : World) : Prop := w.cell? ⟨0, 0, none⟩ = some (.iface 65 (.agg #[.pointer (some ⟨1, 34, none⟩)]))
theorem asHit {w0 w : World} {F : List Chunk} {b : Nat} {x : Value} (hS : St w0 w ([(b, rowO [x] 36)] :: F)) (hg : HG w0) (n : Int) :
    Ret Tryd.prog 16 #[.iface 36 (.int .i64 n), .iface 50 (.pointer (some ⟨b, 0, none⟩))] w (fun v w' => v = .bool true ∧ St w0 w' ([(b, rowO [.int .i64 n] 36)] :: F)) := by
  have hb := hS.heapAt 0 rfl
  refine Calls.mono (as_hit n ⟨b, 0, none⟩ x w (hS.old hg) (cell_row hb rfl) (by simp [World.frozen?, hb, rowO])) fun e w' ⟨he, hw⟩ => ⟨_, he, rfl, ?_⟩
  subst hw
  have h4 := (((hS.alloc (.cells #[.pointer (some ⟨b, 0, none⟩)] 50)).alloc (.cells #[.pointer (some ⟨1, 50, none⟩), .pointer (some ⟨w.heap.size, 0, none⟩), .int .u64 150] 55)).alloc (.cells #[.pointer (some ⟨1, 50, none⟩), .pointer (some ⟨w.heap.size, 0, none⟩), .int .u64 150] 55)).alloc (.cells #[.int .i64 n] 36)
  have h5 := h4.drop1.drop1.drop1.drop1
  exact h5.upd (upd_setCell (h5.heapAt 0 rfl))
theorem asNil {w0 w : World} {F : List Chunk} (hS : St w0 w F) (t : Value) :
    Ret Tryd.prog 16 #[.nilIface, t] w (fun v w' => v = .bool false ∧ St w0 w' F) :=
  Calls.mono (as_nil t w) fun e w' ⟨he, hw⟩ => ⟨_, he, rfl, hw ▸ hS⟩

theorem number_hit7 {w0 w : World} {F : List Chunk} (hS : St w0 w F) (hg : HG w0) (n : Int) :
    Ret Tryd.prog 7 #[.iface 36 (.int .i64 n)] w (fun v w' => v = .int .i64 n ∧ St w0 w' F) := by
  refine enter (vs := [.iface 36 (.int .i64 n)]) 8 Tryd.func7 rfl rfl (by simp) ?_; intro a hA
  refine wp_seq ?_
  refine wp_region_lit ?_
  refine st_run tbOk 1 hA (e' := (2, .int .i64 0) :: _) rfl ?_; clear hA; intro a hA
  refine wpList_nil ?_
  replace hA := hA.sel [0] (e' := [(0, .iface 36 (.int .i64 n))]) rfl
  refine xt_norm ?_
  refine wp_seq ?_
  refine wp_region_lit ?_
  refine st_alloc tbOk hA hS [.int .i64 0] rfl rfl rfl rfl rfl (by decide) ?_; clear hA hS; intro b1 w2 a hS hA
  refine wpList_nil ?_
  refine xt_norm ?_
  refine wp_seq ?_
  refine wp_seq ?_
  refine wp_region_lit ?_
  refine st_run tbOk 2 hA (e' := (5, .iface 50 (.pointer (some ⟨b1, 0, none⟩))) :: (4, .iface 36 (.int .i64 n)) :: _) rfl ?_; clear hA; intro a hA
  refine st_call0 hA rfl rfl rfl isfn16 rfl rfl (by decide) (asHit hS hg n) ?_
  clear hA hS; rintro v w3 a ⟨rfl, hS⟩ hA
  refine wpList_nil ?_
  replace hA := hA.sel [3, 6] (e' := [(3, .pointer (some ⟨b1, 0, none⟩)), (6, .bool true)]) rfl
  refine xt_norm ?_
  refine cd_cond_t hA rfl ?_
  refine wp_seq ?_
  refine wp_region_lit ?_
  refine st_val hA rfl rfl (by decide) (rn_load tbOk hA rfl rfl rfl rfl (cell_row (hS.heapAt 0 rfl) rfl)) ?_; clear hA; intro a hA
  refine st_run tbOk 1 hA (e' := (2, .int .i64 n) :: _) rfl ?_; clear hA; intro a hA
  refine wpList_nil ?_
  replace hA := hA.sel [2] (e' := [(2, .int .i64 n)]) rfl
  refine xt_norm ?_
  refine wp_ret (xt_ret ?_)
  refine ret1 (fn := Tryd.f7) hA rfl rfl ?_
  replace hS := hS.drop1
  exact ⟨rfl, hS⟩

theorem number_nil7 {w0 w : World} {F : List Chunk} (hS : St w0 w F) (hg : HG w0) :
    Ret Tryd.prog 7 #[.nilIface] w (fun v w' => v = .int .i64 0 ∧ St w0 w' F) := by
  refine enter (vs := [.nilIface]) 8 Tryd.func7 rfl rfl (by simp) ?_; intro a hA
  refine wp_seq ?_
  refine wp_region_lit ?_
  refine st_run tbOk 1 hA (e' := (2, .int .i64 0) :: _) rfl ?_; clear hA; intro a hA
  refine wpList_nil ?_
  replace hA := hA.sel [0] (e' := [(0, .nilIface)]) rfl
  refine xt_norm ?_
  refine wp_seq ?_
  refine wp_region_lit ?_
  refine st_alloc tbOk hA hS [.int .i64 0] rfl rfl rfl rfl rfl (by decide) ?_; clear hA hS; intro b1 w2 a hS hA
  refine wpList_nil ?_
  refine xt_norm ?_
  refine wp_seq ?_
  refine wp_seq ?_
  refine wp_region_lit ?_
  refine st_run tbOk 2 hA (e' := (5, .iface 50 (.pointer (some ⟨b1, 0, none⟩))) :: (4, .nilIface) :: _) rfl ?_; clear hA; intro a hA
  refine st_call0 hA rfl rfl rfl isfn16 rfl rfl (by decide) (asNil hS _) ?_
  clear hA hS; rintro v w3 a ⟨rfl, hS⟩ hA
  refine wpList_nil ?_
  replace hA := hA.sel [3, 6] (e' := [(3, .pointer (some ⟨b1, 0, none⟩)), (6, .bool false)]) rfl
  refine xt_norm ?_
  refine cd_cond_f hA rfl ?_
  refine wp_skip ?_
  refine xt_norm ?_
  refine wp_seq ?_
  refine wp_region_lit ?_
  refine st_run tbOk 1 hA (e' := (2, .int .i64 0) :: _) rfl ?_; clear hA; intro a hA
  refine wpList_nil ?_
  replace hA := hA.sel [2] (e' := [(2, .int .i64 0)]) rfl
  refine xt_norm ?_
  refine wp_ret ?_
  refine ret1 (fn := Tryd.f7) hA rfl rfl ?_
  replace hS := hS.drop1
  exact ⟨rfl, hS⟩

def ids (al : List (Int × Int)) : List Int := al.map (fun x => x.1)
def lf (al : List (Int × Int)) (t : Int) : List Int := al.map (fun x => x.2 - t)
theorem ids_len (al : List (Int × Int)) : (ids al).length = al.length := List.length_map _
theorem lf_len (al : List (Int × Int)) (t : Int) : (lf al t).length = al.length := List.length_map _
theorem ids_get {al : List (Int × Int)} {k : Nat} {x : Int × Int} (h : al[k]? = some x) : (ids al)[k]? = some x.1 := by rw [ids, List.getElem?_map, h]; rfl
theorem lf_get {al : List (Int × Int)} {k : Nat} {x : Int × Int} {t : Int} (h : al[k]? = some x) : (lf al t)[k]? = some (x.2 - t) := by rw [lf, List.getElem?_map, h]; rfl
structure TV (al : List (Int × Int)) (t : Int) : Prop where
  len : al.length ≤ 64
  nd : (ids al).Nodup
  bd : ∀ x ∈ al, 1 ≤ x.2 - t ∧ x.2 - t ≤ 1000000
theorem TV.nil (t : Int) : TV [] t := ⟨by simp, by simp [ids], by simp⟩
theorem nd_ne {al : List (Int × Int)} {i j : Nat} {x y : Int × Int} (h : (ids al).Nodup) (hx : al[i]? = some x) (hy : al[j]? = some y) (hij : i < j) : ¬ x.1 = y.1 := by
  have h1 := List.getElem?_eq_some_iff.1 (ids_get hx)
  have h2 := List.getElem?_eq_some_iff.1 (ids_get hy)
  obtain ⟨p1, q1⟩ := h1
  obtain ⟨p2, q2⟩ := h2
  rw [← q1, ← q2]
  exact (List.pairwise_iff_getElem.1 h) i j p1 p2 hij
theorem left_at {al : List (Int × Int)} {j : Nat} {x : Int × Int} (h : (ids al).Nodup) (hx : al[j]? = some x) : left al x.1 = some x.2 :=
  left_some (fun i y hi hy => nd_ne h hy hx hi) hx rfl
theorem cut_at {al : List (Int × Int)} {id : Int} {k : Nat} {x : Int × Int} (h : (ids al).Nodup) (hx : al[k]? = some x) (hi : x.1 = id) : al.filter (fun y => !(wid id y)) = al.take k ++ al.drop (k + 1) := by
  obtain ⟨hk, hx2⟩ := List.getElem?_eq_some_iff.1 hx
  have e1 : al = al.take k ++ x :: al.drop (k + 1) := by
    conv => lhs; rw [← List.take_append_drop k al, List.drop_eq_getElem_cons hk, hx2]
  conv => lhs; rw [e1]
  rw [List.filter_append, List.filter_cons]
  have hw : wid id x = true := by simp [wid, hi]
  simp only [hw, Bool.not_true, Bool.false_eq_true, if_false]
  congr 1
  · rw [List.filter_eq_self]; intro y hy
    obtain ⟨i, hi2⟩ := List.mem_iff_getElem?.1 hy
    rw [List.getElem?_take] at hi2
    split at hi2
    · rename_i hik
      have := nd_ne h hi2 hx hik
      simp [wid]; omega
    · cases hi2
  · rw [List.filter_eq_self]; intro y hy
    obtain ⟨i, hi2⟩ := List.mem_iff_getElem?.1 hy
    rw [List.getElem?_drop] at hi2
    have := nd_ne h hx hi2 (by omega)
    simp [wid]; omega
theorem cut_no {al : List (Int × Int)} {id : Int} (h : ∀ x ∈ al, ¬ x.1 = id) : al.filter (fun y => !(wid id y)) = al := by
  rw [List.filter_eq_self]; intro y hy
  have := h y hy
  simp [wid]; omega
theorem id_cases (al : List (Int × Int)) (id : Int) : (∀ x ∈ al, ¬ x.1 = id) ∨ ∃ (k : Nat) (x : Int × Int), al[k]? = some x ∧ x.1 = id ∧ k < al.length := by
  by_cases h : ∀ x ∈ al, ¬ x.1 = id
  · exact .inl h
  · refine .inr ?_
    simp only [Classical.not_forall, Classical.not_not] at h
    obtain ⟨x, hx, hi⟩ := h
    obtain ⟨k, hk⟩ := List.mem_iff_getElem?.1 hx
    exact ⟨k, x, hk, hi, (List.getElem?_eq_some_iff.1 hk).1⟩
theorem TV.filt {al : List (Int × Int)} {t : Int} (h : TV al t) (id : Int) : TV (al.filter (fun y => !(wid id y))) t :=
  ⟨Nat.le_trans (List.length_filter_le _ _) h.len, (List.Sublist.map _ List.filter_sublist).nodup h.nd, fun x hx => h.bd x (List.mem_filter.1 hx).1⟩
theorem TV.set {al : List (Int × Int)} {t : Int} (h : TV al t) (id n : Int) (hl : (al.filter (fun y => !(wid id y))).length < 64) (h1 : 1 ≤ n) (h2 : n ≤ 1000000) : TV (al.filter (fun y => !(wid id y)) ++ [(id, t + n)]) t := by
  refine ⟨by simp only [List.length_append, List.length_cons, List.length_nil]; omega, ?_, fun x hx => ?_⟩
  · rw [ids, List.map_append, List.nodup_append]
    refine ⟨(h.filt id).nd, by simp, fun a ha b hb => ?_⟩
    obtain ⟨y, hy, rfl⟩ := List.mem_map.1 ha
    have := (List.mem_filter.1 hy).2
    simp [wid] at this
    simp at hb
    omega
  · rcases List.mem_append.1 hx with hx | hx
    · exact (h.filt id).bd x hx
    · rw [List.mem_singleton.1 hx]; simp; omega
theorem TV.tick {al : List (Int × Int)} {t : Int} (h : TV al t) : TV (al.filter (fun y => !(wat (t + 1) y))) (t + 1) := by
  refine ⟨Nat.le_trans (List.length_filter_le _ _) h.len, (List.Sublist.map _ List.filter_sublist).nodup h.nd, fun x hx => ?_⟩
  obtain ⟨h1, h2⟩ := List.mem_filter.1 hx
  have := h.bd x h1
  have : ¬ x.2 = t + 1 := by simpa [wat] using h2
  omega
def stay (al : List (Int × Int)) (t : Int) (k : Nat) : List (Int × Int) := (al.take k).filter (fun y => !(wat (t + 1) y))
theorem stay_yes {al : List (Int × Int)} {t : Int} {k : Nat} {x : Int × Int} (hx : al[k]? = some x) (h : ¬ x.2 - t = 1) : stay al t (k + 1) = stay al t k ++ [x] := by
  rw [stay, stay, List.take_add_one, hx, List.filter_append]
  congr 1
  have : ¬ x.2 = t + 1 := by omega
  simp [wat, this]
theorem stay_no {al : List (Int × Int)} {t : Int} {k : Nat} {x : Int × Int} (hx : al[k]? = some x) (h : x.2 - t = 1) : stay al t (k + 1) = stay al t k := by
  rw [stay, stay, List.take_add_one, hx, List.filter_append]
  have : x.2 = t + 1 := by omega
  simp [wat, this]
theorem stay_len (al : List (Int × Int)) (t : Int) (k : Nat) : (stay al t k).length ≤ k := by
  rw [stay]; exact Nat.le_trans (List.length_filter_le _ _) (by rw [List.length_take]; omega)
theorem stay_all (al : List (Int × Int)) (t : Int) : stay al t al.length = al.filter (fun y => !(wat (t + 1) y)) := by rw [stay, List.take_length]
theorem ids_app (a b : List (Int × Int)) : ids (a ++ b) = ids a ++ ids b := List.map_append
theorem lf_app (a b : List (Int × Int)) (t : Int) : lf (a ++ b) t = lf a t ++ lf b t := List.map_append
theorem ids_cut (al : List (Int × Int)) (k : Nat) : ids (al.take k ++ al.drop (k + 1)) = (ids al).take k ++ (ids al).drop (k + 1) := by rw [ids_app, ids, ids, ids, List.map_take, List.map_drop]
theorem lf_cut (al : List (Int × Int)) (t : Int) (k : Nat) : lf (al.take k ++ al.drop (k + 1)) t = (lf al t).take k ++ (lf al t).drop (k + 1) := by rw [lf_app, lf, lf, lf, List.map_take, List.map_drop]
def hasF (al : List (Int × Int)) (id : Int) (k : Nat) : Int := if ∃ x ∈ al.take k, x.1 = id then 1 else 0
theorem hasF_yes {al : List (Int × Int)} {id : Int} {k : Nat} {x : Int × Int} (hx : al[k]? = some x) (h : x.1 = id) : hasF al id (k + 1) = 1 := by
  rw [hasF, if_pos]; exact ⟨x, by rw [List.take_add_one, hx]; simp, h⟩
theorem hasF_no {al : List (Int × Int)} {id : Int} {k : Nat} {x : Int × Int} (hx : al[k]? = some x) (h : ¬ x.1 = id) : hasF al id (k + 1) = hasF al id k := by
  rw [hasF, hasF, List.take_add_one, hx]
  congr 1
  simp [h]
theorem hasF_all {al : List (Int × Int)} (h : (ids al).Nodup) (id : Int) : ((al.filter (fun y => !(wid id y))).length : Int) + hasF al id al.length = al.length := by
  rw [hasF, List.take_length]
  rcases id_cases al id with h1 | ⟨k, x, hx, hi, hk⟩
  · rw [if_neg (by rintro ⟨x, hx, hi⟩; exact h1 x hx hi), cut_no h1]; omega
  · rw [if_pos ⟨x, List.mem_of_getElem? hx, hi⟩, cut_at h hx hi]; simp; omega
theorem first_of {al : List (Int × Int)} {k : Nat} {x : Int × Int} (h : (ids al).Nodup) (hx : al[k]? = some x) : ∀ (i : Nat) (y : Int), i < k → (ids al)[i]? = some y → ¬ y = x.1 := fun i y hi hy => by
  rw [ids, List.getElem?_map] at hy
  cases hz : al[i]? with
  | none => rw [hz] at hy; cases hy
  | some z => rw [hz] at hy; injection hy with hy; subst hy; exact nd_ne h hz hx hi
theorem none_of {al : List (Int × Int)} {id : Int} (h : ∀ x ∈ al, ¬ x.1 = id) : ∀ (i : Nat) (y : Int), (ids al)[i]? = some y → ¬ y = id := fun i y hy => by
  rw [ids, List.getElem?_map] at hy
  cases hz : al[i]? with
  | none => rw [hz] at hy; cases hy
  | some z => rw [hz] at hy; injection hy with hy; subst hy; exact h z (List.mem_of_getElem? hz)
theorem ids_one (id a : Int) : ids [(id, a)] = [id] := rfl
theorem lf_one (id t n : Int) : lf [(id, t + n)] t = [n] := by
  have h : t + n - t = n := by omega
  simp [lf, h]

theorem take_no5 {w0 w : World} {F : List Chunk} {b5 b6 : Nat} {v5 v6 : Value} {l5 l6 : List Int} {C5 C6 : Chunk} (hS : St w0 w ([(b5, rowO [v5] 28)] :: C5 :: [(b6, rowO [v6] 28)] :: C6 :: F)) (h5 : Own 3 1 v5 l5.length (rows encI l5) C5) (h6 : Own 3 1 v6 l6.length (rows encI l6) C6) (h56 : l5.length = l6.length) (hl : l5.length ≤ 64) (id : Int) (hno : ∀ (i : Nat) (y : Int), l5[i]? = some y → ¬ y = id) :
    Ret Tryd.prog 5 #[.int .i64 id, .pointer (some ⟨b5, 0, none⟩), .pointer (some ⟨b6, 0, none⟩)] w (fun v w' => v = .bool false ∧ St w0 w' ([(b5, rowO [v5] 28)] :: C5 :: [(b6, rowO [v6] 28)] :: C6 :: F)) := by
  obtain ⟨A5, c5, rfl, hm5, hx5⟩ := h5.open'
  obtain ⟨A6, c6, rfl, hm6, hx6⟩ := h6.open'
  refine enter (vs := [.int .i64 id, .pointer (some ⟨b5, 0, none⟩), .pointer (some ⟨b6, 0, none⟩)]) 36 Tryd.func5 rfl rfl (by simp) ?_; intro a hA
  refine wp_seq ?_
  refine wp_region_lit ?_
  refine st_run tbOk 1 hA (e' := (4, .bool false) :: _) rfl ?_; clear hA; intro a hA
  refine wpList_nil ?_
  replace hA := hA.sel [0, 1, 2] (e' := [(0, .int .i64 id), (1, .pointer (some ⟨b5, 0, none⟩)), (2, .pointer (some ⟨b6, 0, none⟩))]) rfl
  refine xt_norm ?_
  refine wp_seq ?_
  refine wp_seq ?_
  refine wp_region_lit ?_
  refine st_val hA rfl rfl (by decide) (rn_load tbOk hA rfl rfl rfl rfl (cell_row (hS.heapAt 0 rfl) rfl)) ?_; clear hA; intro a hA
  refine st_run tbOk 2 hA (e' := (8, .int .i64 0) :: (7, .int .i64 ((l5.length : Nat) : Int)) :: _) rfl ?_; clear hA; intro a hA
  refine wpList_nil ?_
  replace hA := hA.sel [0, 1, 2, 7, 8] (e' := [(0, .int .i64 id), (1, .pointer (some ⟨b5, 0, none⟩)), (2, .pointer (some ⟨b6, 0, none⟩)), (7, .int .i64 ((l5.length : Nat) : Int)), (8, .int .i64 0)]) rfl
  refine xt_norm ?_
  refine wp_block ?_
  refine wp_loop_ghost (fun m a w => ∃ (j : Nat), m = l5.length - j ∧ Has a 36 [(0, .int .i64 id), (1, .pointer (some ⟨b5, 0, none⟩)), (2, .pointer (some ⟨b6, 0, none⟩)), (7, .int .i64 ((l5.length : Nat) : Int)), (8, .int .i64 ((j : Nat) : Int))] ∧ St w0 w ([(b5, rowO [.slice A5 l5.length c5] 28)] :: C5 :: [(b6, rowO [.slice A6 l6.length c6] 28)] :: C6 :: F) ∧ (j ≤ l5.length)) (l5.length - 0)
    ⟨0, rfl, (hA.sel [0, 1, 2, 7, 8] rfl), hS, Nat.zero_le _⟩ ?_
  clear hA hS; rintro m0 a w1 ⟨j, rfl, hA, hS, hj⟩
  refine wp_seq ?_
  refine wp_region_lit ?_
  refine st_run tbOk 1 hA (e' := (9, .bool (decide (((j : Nat) : Int) < ((l5.length : Nat) : Int)))) :: _) rfl ?_; clear hA; intro a hA
  refine wpList_nil ?_
  refine xt_norm ?_
  refine wp_seq ?_
  by_cases hc2 : ((j : Nat) : Int) < ((l5.length : Nat) : Int)
  · first
    | (exfalso; omega)
    | (replace hA := hA.rw 9 (v' := .bool true) rfl (vb_true hc2)
       refine cd_cond_t hA rfl ?_
       refine wp_skip ?_
       refine xt_norm ?_
       refine wp_seq ?_
       refine wp_block ?_
       refine wp_seq ?_
       refine wp_region_lit ?_
       refine st_run tbOk 2 hA (e' := (5, .int .i64 ((j : Nat) : Int)) :: (10, .int .i64 ((j : Nat) : Int)) :: _) rfl ?_; clear hA; intro a hA
       refine wpList_nil ?_
       replace hA := hA.sel [0, 1, 2, 5, 7, 8] (e' := [(0, .int .i64 id), (1, .pointer (some ⟨b5, 0, none⟩)), (2, .pointer (some ⟨b6, 0, none⟩)), (5, .int .i64 ((j : Nat) : Int)), (7, .int .i64 ((l5.length : Nat) : Int)), (8, .int .i64 ((j : Nat) : Int))]) rfl
       refine xt_norm ?_
       refine wp_seq ?_
       refine wp_region_lit ?_
       refine st_val hA rfl rfl (by decide) (rn_load tbOk hA rfl rfl rfl rfl (cell_row (hS.heapAt 0 rfl) rfl)) ?_; clear hA; intro a hA
       refine st_run tbOk 1 hA (e' := (12, .int .i64 ((j : Nat) : Int)) :: _) rfl ?_; clear hA; intro a hA
       obtain ⟨b3, o4, rfl⟩ := h5.isSome (k := j) (by omega)
       refine st_val hA rfl rfl (by decide) (rn_indexAddr tbOk hA j (o4 + j) rfl rfl rfl rfl rfl rfl (by rfl) (by omega) (by first | rfl | simp [Nat.mul_one, Nat.zero_add] | omega)) ?_; clear hA; intro a hA
       obtain ⟨x5, hx5⟩ := get_ex (l := l5) (k := j) (by omega)
       refine st_val hA rfl rfl (by decide) (rn_load tbOk hA rfl rfl rfl rfl ((h5.rd (hS.own_ 1 rfl)).elem0 (k := j) encI_ok hx5 rfl)) ?_; clear hA; intro a hA
       refine st_run tbOk 2 hA (e' := (16, .bool (x5 == id)) :: (15, .int .i64 id) :: _) rfl ?_; clear hA; intro a hA
       refine wpList_nil ?_
       replace hA := hA.sel [0, 1, 2, 5, 7, 8, 16] (e' := [(0, .int .i64 id), (1, .pointer (some ⟨b5, 0, none⟩)), (2, .pointer (some ⟨b6, 0, none⟩)), (5, .int .i64 ((j : Nat) : Int)), (7, .int .i64 ((l5.length : Nat) : Int)), (8, .int .i64 ((j : Nat) : Int)), (16, .bool (x5 == id))]) rfl
       refine xt_norm ?_
       by_cases hc6 : x5 = id
       · first
         | (exfalso; omega)
         | (replace hA := hA.rw 16 (v' := .bool true) rfl (vb_eq_t hc6)
            refine cd_cond_t hA rfl ?_
            refine wp_seq ?_
            exact absurd (by assumption) (hno _ _ hx5))
       · first
         | (exfalso; omega)
         | (replace hA := hA.rw 16 (v' := .bool false) rfl (vb_eq_f hc6)
            refine cd_cond_f hA rfl ?_
            refine wp_skip ?_
            refine xb_norm ?_
            refine xt_norm ?_
            refine wp_region_lit ?_
            refine st_run tbOk 1 hA (e' := (35, .int .i64 (IntKind.i64.wrap (((j : Nat) : Int) + 1))) :: _) rfl ?_; clear hA; intro a hA
            replace hA := hA.rw 35 (v' := .int .i64 ((j + 1 : Nat) : Int)) rfl (wr64 (by omega) (by omega) (by omega))
            refine st_run tbOk 1 hA (e' := (8, .int .i64 ((j + 1 : Nat) : Int)) :: _) rfl ?_; clear hA; intro a hA
            refine wpList_nil ?_
            replace hA := hA.sel [0, 1, 2, 7, 8] (e' := [(0, .int .i64 id), (1, .pointer (some ⟨b5, 0, none⟩)), (2, .pointer (some ⟨b6, 0, none⟩)), (7, .int .i64 ((l5.length : Nat) : Int)), (8, .int .i64 ((j + 1 : Nat) : Int))]) rfl
            exact lp_next _ (by omega) ⟨(j + 1), rfl, (hA.sel [0, 1, 2, 7, 8] rfl), hS, by omega⟩))
  · first
    | (exfalso; omega)
    | (replace hA := hA.rw 9 (v' := .bool false) rfl (vb_false hc2)
       refine cd_cond_f hA rfl ?_
       refine wp_exit ?_
       refine xt_exit ?_
       refine xt_exit ?_
       refine cd_exit_eq ?_
       refine xt_norm ?_
       refine wp_seq ?_
       refine wp_region_lit ?_
       refine st_run tbOk 1 hA (e' := (4, .bool false) :: _) rfl ?_; clear hA; intro a hA
       refine wpList_nil ?_
       replace hA := hA.sel [4] (e' := [(4, .bool false)]) rfl
       refine xt_norm ?_
       refine wp_ret ?_
       refine ret1 (fn := Tryd.f5) hA rfl rfl ?_
       replace hS := hS.front 3 (C := C6) (L' := [(b5, rowO [.slice A5 l5.length c5] 28)] :: C5 :: [(b6, rowO [.slice A6 l6.length c6] 28)] :: F) rfl rfl
       replace hS := hS.front 3 (C := [(b6, rowO [.slice A6 l6.length c6] 28)]) (L' := C6 :: [(b5, rowO [.slice A5 l5.length c5] 28)] :: C5 :: F) rfl rfl
       replace hS := hS.front 3 (C := C5) (L' := [(b6, rowO [.slice A6 l6.length c6] 28)] :: C6 :: [(b5, rowO [.slice A5 l5.length c5] 28)] :: F) rfl rfl
       replace hS := hS.front 3 (C := [(b5, rowO [.slice A5 l5.length c5] 28)]) (L' := C5 :: [(b6, rowO [.slice A6 l6.length c6] 28)] :: C6 :: F) rfl rfl
       exact ⟨rfl, hS⟩)

theorem take_yes5 {w0 w : World} {F : List Chunk} {b5 b6 : Nat} {v5 v6 : Value} {l5 l6 : List Int} {C5 C6 : Chunk} (hS : St w0 w ([(b5, rowO [v5] 28)] :: C5 :: [(b6, rowO [v6] 28)] :: C6 :: F)) (h5 : Own 3 1 v5 l5.length (rows encI l5) C5) (h6 : Own 3 1 v6 l6.length (rows encI l6) C6) (h56 : l5.length = l6.length) (hl : l5.length ≤ 64) (id : Int) (k : Nat) (hk : l5[k]? = some id) (hb : ∀ (i : Nat) (y : Int), i < k → l5[i]? = some y → ¬ y = id) :
    Ret Tryd.prog 5 #[.int .i64 id, .pointer (some ⟨b5, 0, none⟩), .pointer (some ⟨b6, 0, none⟩)] w (fun v w' => ∃ u5 D5 u6 D6, Own 3 1 u5 (l5.take k ++ l5.drop (k + 1)).length (rows encI (l5.take k ++ l5.drop (k + 1))) D5 ∧ Own 3 1 u6 (l6.take k ++ l6.drop (k + 1)).length (rows encI (l6.take k ++ l6.drop (k + 1))) D6 ∧ v = .bool true ∧ St w0 w' ([(b5, rowO [u5] 28)] :: D5 :: [(b6, rowO [u6] 28)] :: D6 :: F)) := by
  obtain ⟨A5, c5, rfl, hm5, hx5⟩ := h5.open'
  obtain ⟨A6, c6, rfl, hm6, hx6⟩ := h6.open'
  refine enter (vs := [.int .i64 id, .pointer (some ⟨b5, 0, none⟩), .pointer (some ⟨b6, 0, none⟩)]) 36 Tryd.func5 rfl rfl (by simp) ?_; intro a hA
  have hkl := (List.getElem?_eq_some_iff.1 hk).1
  refine wp_seq ?_
  refine wp_region_lit ?_
  refine st_run tbOk 1 hA (e' := (4, .bool false) :: _) rfl ?_; clear hA; intro a hA
  refine wpList_nil ?_
  replace hA := hA.sel [0, 1, 2] (e' := [(0, .int .i64 id), (1, .pointer (some ⟨b5, 0, none⟩)), (2, .pointer (some ⟨b6, 0, none⟩))]) rfl
  refine xt_norm ?_
  refine wp_seq ?_
  refine wp_seq ?_
  refine wp_region_lit ?_
  refine st_val hA rfl rfl (by decide) (rn_load tbOk hA rfl rfl rfl rfl (cell_row (hS.heapAt 0 rfl) rfl)) ?_; clear hA; intro a hA
  refine st_run tbOk 2 hA (e' := (8, .int .i64 0) :: (7, .int .i64 ((l5.length : Nat) : Int)) :: _) rfl ?_; clear hA; intro a hA
  refine wpList_nil ?_
  replace hA := hA.sel [0, 1, 2, 7, 8] (e' := [(0, .int .i64 id), (1, .pointer (some ⟨b5, 0, none⟩)), (2, .pointer (some ⟨b6, 0, none⟩)), (7, .int .i64 ((l5.length : Nat) : Int)), (8, .int .i64 0)]) rfl
  refine xt_norm ?_
  refine wp_block ?_
  refine wp_loop_ghost (fun m a w => ∃ (j : Nat), m = l5.length - j ∧ Has a 36 [(0, .int .i64 id), (1, .pointer (some ⟨b5, 0, none⟩)), (2, .pointer (some ⟨b6, 0, none⟩)), (7, .int .i64 ((l5.length : Nat) : Int)), (8, .int .i64 ((j : Nat) : Int))] ∧ St w0 w ([(b5, rowO [.slice A5 l5.length c5] 28)] :: C5 :: [(b6, rowO [.slice A6 l6.length c6] 28)] :: C6 :: F) ∧ (j ≤ k)) (l5.length - 0)
    ⟨0, rfl, (hA.sel [0, 1, 2, 7, 8] rfl), hS, Nat.zero_le _⟩ ?_
  clear hA hS; rintro m0 a w1 ⟨j, rfl, hA, hS, hj⟩
  refine wp_seq ?_
  refine wp_region_lit ?_
  refine st_run tbOk 1 hA (e' := (9, .bool (decide (((j : Nat) : Int) < ((l5.length : Nat) : Int)))) :: _) rfl ?_; clear hA; intro a hA
  refine wpList_nil ?_
  refine xt_norm ?_
  refine wp_seq ?_
  by_cases hc2 : ((j : Nat) : Int) < ((l5.length : Nat) : Int)
  · first
    | (exfalso; omega)
    | (replace hA := hA.rw 9 (v' := .bool true) rfl (vb_true hc2)
       refine cd_cond_t hA rfl ?_
       refine wp_skip ?_
       refine xt_norm ?_
       refine wp_seq ?_
       refine wp_block ?_
       refine wp_seq ?_
       refine wp_region_lit ?_
       refine st_run tbOk 2 hA (e' := (5, .int .i64 ((j : Nat) : Int)) :: (10, .int .i64 ((j : Nat) : Int)) :: _) rfl ?_; clear hA; intro a hA
       refine wpList_nil ?_
       replace hA := hA.sel [0, 1, 2, 5, 7, 8] (e' := [(0, .int .i64 id), (1, .pointer (some ⟨b5, 0, none⟩)), (2, .pointer (some ⟨b6, 0, none⟩)), (5, .int .i64 ((j : Nat) : Int)), (7, .int .i64 ((l5.length : Nat) : Int)), (8, .int .i64 ((j : Nat) : Int))]) rfl
       refine xt_norm ?_
       refine wp_seq ?_
       refine wp_region_lit ?_
       refine st_val hA rfl rfl (by decide) (rn_load tbOk hA rfl rfl rfl rfl (cell_row (hS.heapAt 0 rfl) rfl)) ?_; clear hA; intro a hA
       refine st_run tbOk 1 hA (e' := (12, .int .i64 ((j : Nat) : Int)) :: _) rfl ?_; clear hA; intro a hA
       obtain ⟨b3, o4, rfl⟩ := h5.isSome (k := j) (by omega)
       refine st_val hA rfl rfl (by decide) (rn_indexAddr tbOk hA j (o4 + j) rfl rfl rfl rfl rfl rfl (by rfl) (by omega) (by first | rfl | simp [Nat.mul_one, Nat.zero_add] | omega)) ?_; clear hA; intro a hA
       obtain ⟨x5, hx5⟩ := get_ex (l := l5) (k := j) (by omega)
       refine st_val hA rfl rfl (by decide) (rn_load tbOk hA rfl rfl rfl rfl ((h5.rd (hS.own_ 1 rfl)).elem0 (k := j) encI_ok hx5 rfl)) ?_; clear hA; intro a hA
       refine st_run tbOk 2 hA (e' := (16, .bool (x5 == id)) :: (15, .int .i64 id) :: _) rfl ?_; clear hA; intro a hA
       refine wpList_nil ?_
       replace hA := hA.sel [0, 1, 2, 5, 7, 8, 16] (e' := [(0, .int .i64 id), (1, .pointer (some ⟨b5, 0, none⟩)), (2, .pointer (some ⟨b6, 0, none⟩)), (5, .int .i64 ((j : Nat) : Int)), (7, .int .i64 ((l5.length : Nat) : Int)), (8, .int .i64 ((j : Nat) : Int)), (16, .bool (x5 == id))]) rfl
       refine xt_norm ?_
       by_cases hc6 : x5 = id
       · first
         | (exfalso; omega)
         | (replace hA := hA.rw 16 (v' := .bool true) rfl (vb_eq_t hc6)
            refine cd_cond_t hA rfl ?_
            refine wp_seq ?_
            have hjk : j = k := by
                rcases Nat.lt_or_ge j k with h | h
                · exact absurd (by assumption) (hb _ _ h hx5)
                · omega
            subst hjk
            refine wp_draw (fun w' => St w0 w' ([(b5, rowO [.slice (some ⟨b3, o4, none⟩) l5.length c5] 28)] :: C5 :: [(b6, rowO [.slice A6 l6.length c6] 28)] :: C6 :: F)) [18, 19] [(0, true), (1, true), (2, true), (4, true), (5, true), (6, true), (7, true), (9, true), (10, true), (11, true), (13, true), (14, true), (15, true), (16, true), (3, false), (8, false), (12, false), (17, false), (18, false), (19, false)] mixed (by kernel_rfl) (by rintro c a w ⟨_, _, h, _⟩; cases h) (by rfl) (by kernel_rfl) ?_
            replace hS := hS.drew
            refine dr_y hA rfl rfl rfl (by decide) hS (fun w' hS' => rn_load tbOk hA rfl rfl rfl rfl (cell_row (hS'.heapAt 0 rfl) rfl)) ?_; clear hA; intro a hA
            refine dr_run tbOk 1 hA hS (e' := (18, .int .i64 ((j : Nat) : Int)) :: _) rfl ?_; clear hA; intro a hA
            refine dr_y hA rfl rfl rfl (by decide) hS (fun w' hS' => rn_slice_h tbOk hA j rfl rfl rfl rfl rfl rfl (by rfl) (by omega)) ?_; clear hA; intro a hA
            replace hA := hA.rw 19 (v' := .slice (some ⟨b3, o4, none⟩) ((l5.take j).length) c5) rfl (congrArg (fun m => Value.slice _ m _) (by rw [List.length_take]; omega))
            refine dr_y hA rfl rfl rfl (by decide) hS (fun w' hS' => rn_load tbOk hA rfl rfl rfl rfl (cell_row (hS'.heapAt 0 rfl) rfl)) ?_; clear hA; intro a hA
            refine dr_run tbOk 2 hA hS (e' := (23, .int .i64 (IntKind.i64.wrap (((j : Nat) : Int) + 1))) :: (22, .int .i64 ((j : Nat) : Int)) :: _) rfl ?_; clear hA; intro a hA
            replace hA := hA.rw 23 (v' := .int .i64 ((j + 1 : Nat) : Int)) rfl (wr64 (by omega) (by omega) (by omega))
            refine dr_y hA rfl rfl rfl (by decide) hS (fun w' hS' => rn_slice_l tbOk hA (j + 1) rfl rfl rfl rfl rfl rfl (by rfl) (by omega)) ?_; clear hA; intro a hA
            refine dr_y hA rfl rfl rfl (by decide) hS (fun w' hS' => rn_load tbOk hA rfl rfl rfl rfl (cell_row (hS'.heapAt 2 rfl) rfl)) ?_; clear hA; intro a hA
            refine dr_run tbOk 1 hA hS (e' := (27, .int .i64 ((j : Nat) : Int)) :: _) rfl ?_; clear hA; intro a hA
            refine dr_y hA rfl rfl rfl (by decide) hS (fun w' hS' => rn_slice_h tbOk hA j rfl rfl rfl rfl rfl rfl (by rfl) (by omega)) ?_; clear hA; intro a hA
            replace hA := hA.rw 28 (v' := .slice A6 ((l6.take j).length) c6) rfl (congrArg (fun m => Value.slice _ m _) (by rw [List.length_take]; omega))
            refine dr_y hA rfl rfl rfl (by decide) hS (fun w' hS' => rn_load tbOk hA rfl rfl rfl rfl (cell_row (hS'.heapAt 2 rfl) rfl)) ?_; clear hA; intro a hA
            refine dr_run tbOk 2 hA hS (e' := (32, .int .i64 (IntKind.i64.wrap (((j : Nat) : Int) + 1))) :: (31, .int .i64 ((j : Nat) : Int)) :: _) rfl ?_; clear hA; intro a hA
            replace hA := hA.rw 32 (v' := .int .i64 ((j + 1 : Nat) : Int)) rfl (wr64 (by omega) (by omega) (by omega))
            refine dr_y hA rfl rfl rfl (by decide) hS (fun w' hS' => rn_slice_l tbOk hA (j + 1) rfl rfl rfl rfl rfl rfl (by rfl) (by omega)) ?_; clear hA; intro a hA
            refine dr_b (o := _) rfl ?_
            replace hS := hS.nil
            refine st_append tbOk hA (m := 0) (q := (l5.take j).length) (xs := rows encI ([] : List Int)) (news := rows encI (l5.take j)) rfl rfl rfl rfl rfl rfl rfl rfl (by decide) (Own.nil 3 1) hS ((h5.rd (hS.own_ 2 rfl)).rhead encI_ok j (by omega)) (rows_one encI_ok _) (maxLen_le (by first | omega | (simp; omega))) (by show (0 + (l5.take j).length) * 8 ≤ 140737488355328; first | omega | (simp; omega)) rfl rfl (by decide) ?_
            clear hA hS; intro v7 w8 C9 a hO9 hS hA
            replace hO9 := Own.app (l := ([] : List Int)) (l2 := l5.take j) hO9
            replace hO9 : Own 3 1 v7 (l5.take j).length (rows encI (l5.take j)) C9 := hO9
            obtain ⟨A10, c11, rfl, hmc11, hxc11⟩ := hO9.open'
            refine dr_nil (.inr (hS.tail 1 rfl)) ?_
            refine dr_b (o := _) rfl ?_
            refine st_append tbOk hA (m := (l5.take j).length) (q := ((l5.take l5.length).drop (j + 1)).length) (xs := rows encI (l5.take j)) (news := rows encI ((l5.take l5.length).drop (j + 1))) rfl rfl rfl rfl rfl rfl rfl rfl (by decide) hO9 hS ((h5.rd (hS.own_ 2 rfl)).rslv encI_ok (j + 1) l5.length c5 (by omega) (by omega) (by omega) (by omega)) (rows_one encI_ok _) (maxLen_le (by first | omega | (simp; omega))) (by show ((l5.take j).length + ((l5.take l5.length).drop (j + 1)).length) * 8 ≤ 140737488355328; first | omega | (simp; omega)) rfl rfl (by decide) ?_
            clear hA hS; intro v12 w13 C14 a hO14 hS hA
            replace hO14 := Own.app (l := l5.take j) (l2 := (l5.take l5.length).drop (j + 1)) hO14
            obtain ⟨A15, c16, rfl, hmc16, hxc16⟩ := hO14.open'
            refine dr_nil (.inr (hS.tail 1 rfl)) ?_
            refine dr_b (o := _) rfl ?_
            replace hS := hS.nil
            refine st_append tbOk hA (m := 0) (q := (l6.take j).length) (xs := rows encI ([] : List Int)) (news := rows encI (l6.take j)) rfl rfl rfl rfl rfl rfl rfl rfl (by decide) (Own.nil 3 1) hS ((h6.rd (hS.own_ 5 rfl)).rhead encI_ok j (by omega)) (rows_one encI_ok _) (maxLen_le (by first | omega | (simp; omega))) (by show (0 + (l6.take j).length) * 8 ≤ 140737488355328; first | omega | (simp; omega)) rfl rfl (by decide) ?_
            clear hA hS; intro v17 w18 C19 a hO19 hS hA
            replace hO19 := Own.app (l := ([] : List Int)) (l2 := l6.take j) hO19
            replace hO19 : Own 3 1 v17 (l6.take j).length (rows encI (l6.take j)) C19 := hO19
            obtain ⟨A20, c21, rfl, hmc21, hxc21⟩ := hO19.open'
            refine dr_nil (.inr (hS.tail 2 rfl)) ?_
            refine dr_b (o := _) rfl ?_
            refine st_append tbOk hA (m := (l6.take j).length) (q := ((l6.take l6.length).drop (j + 1)).length) (xs := rows encI (l6.take j)) (news := rows encI ((l6.take l6.length).drop (j + 1))) rfl rfl rfl rfl rfl rfl rfl rfl (by decide) hO19 hS ((h6.rd (hS.own_ 5 rfl)).rslv encI_ok (j + 1) l6.length c6 (by omega) (by omega) (by omega) (by omega)) (rows_one encI_ok _) (maxLen_le (by first | omega | (simp; omega))) (by show ((l6.take j).length + ((l6.take l6.length).drop (j + 1)).length) * 8 ≤ 140737488355328; first | omega | (simp; omega)) rfl rfl (by decide) ?_
            clear hA hS; intro v22 w23 C24 a hO24 hS hA
            replace hO24 := Own.app (l := l6.take j) (l2 := (l6.take l6.length).drop (j + 1)) hO24
            obtain ⟨A25, c26, rfl, hmc26, hxc26⟩ := hO24.open'
            refine dr_nil (.inr (hS.tail 2 rfl)) ?_
            refine dr_b (o := _) rfl ?_
            replace hS := hS.front 2 (C := [(b5, rowO [.slice (some ⟨b3, o4, none⟩) l5.length c5] 28)]) (L' := C24 :: C14 :: C5 :: [(b6, rowO [.slice A6 l6.length c6] 28)] :: C6 :: F) rfl rfl
            refine st_store tbOk hA hS [.slice A15 (((l5.take j) ++ ((l5.take l5.length).drop (j + 1))).length) c16] [.slice A15 (((l5.take j) ++ ((l5.take l5.length).drop (j + 1))).length) c16] rfl rfl rfl rfl rfl rfl (by intro u hu; rw [List.mem_singleton.1 hu]; rfl) (Nat.le_of_ble_eq_true rfl) rfl rfl rfl ?_; clear hS; intro w27 hS
            refine dr_nil (.inl (by decide)) ?_
            refine dr_b (o := _) rfl ?_
            replace hS := hS.front 4 (C := [(b6, rowO [.slice A6 l6.length c6] 28)]) (L' := [(b5, rowO [.slice A15 (((l5.take j) ++ ((l5.take l5.length).drop (j + 1))).length) c16] 28)] :: C24 :: C14 :: C5 :: C6 :: F) rfl rfl
            refine st_store tbOk hA hS [.slice A25 (((l6.take j) ++ ((l6.take l6.length).drop (j + 1))).length) c26] [.slice A25 (((l6.take j) ++ ((l6.take l6.length).drop (j + 1))).length) c26] rfl rfl rfl rfl rfl rfl (by intro u hu; rw [List.mem_singleton.1 hu]; rfl) (Nat.le_of_ble_eq_true rfl) rfl rfl rfl ?_; clear hS; intro w28 hS
            refine dr_nil (.inl (by decide)) ?_
            refine dr_end ?_
            replace hA := hA.sel [] (e' := []) rfl
            refine xt_norm ?_
            refine wp_seq ?_
            refine wp_region_lit ?_
            refine st_run tbOk 1 hA (e' := (4, .bool true) :: _) rfl ?_; clear hA; intro a hA
            refine wpList_nil ?_
            refine xt_norm ?_
            refine wp_ret (xb_ret (xt_ret (xt_ret (xb_ret (xt_ret ?_)))))
            refine ret1 (fn := Tryd.f5) hA rfl rfl ?_
            replace hS := hS.front 4 (C := C5) (L' := [(b6, rowO [.slice A25 (((l6.take j) ++ ((l6.take l6.length).drop (j + 1))).length) c26] 28)] :: [(b5, rowO [.slice A15 (((l5.take j) ++ ((l5.take l5.length).drop (j + 1))).length) c16] 28)] :: C24 :: C14 :: C6 :: F) rfl rfl
            replace hS := hS.drop1
            replace hS := hS.front 4 (C := C6) (L' := [(b6, rowO [.slice A25 (((l6.take j) ++ ((l6.take l6.length).drop (j + 1))).length) c26] 28)] :: [(b5, rowO [.slice A15 (((l5.take j) ++ ((l5.take l5.length).drop (j + 1))).length) c16] 28)] :: C24 :: C14 :: F) rfl rfl
            replace hS := hS.drop1
            replace hS := hS.front 2 (C := C24) (L' := [(b6, rowO [.slice A25 (((l6.take j) ++ ((l6.take l6.length).drop (j + 1))).length) c26] 28)] :: [(b5, rowO [.slice A15 (((l5.take j) ++ ((l5.take l5.length).drop (j + 1))).length) c16] 28)] :: C14 :: F) rfl rfl
            replace hS := hS.front 1 (C := [(b6, rowO [.slice A25 (((l6.take j) ++ ((l6.take l6.length).drop (j + 1))).length) c26] 28)]) (L' := C24 :: [(b5, rowO [.slice A15 (((l5.take j) ++ ((l5.take l5.length).drop (j + 1))).length) c16] 28)] :: C14 :: F) rfl rfl
            replace hS := hS.front 3 (C := C14) (L' := [(b6, rowO [.slice A25 (((l6.take j) ++ ((l6.take l6.length).drop (j + 1))).length) c26] 28)] :: C24 :: [(b5, rowO [.slice A15 (((l5.take j) ++ ((l5.take l5.length).drop (j + 1))).length) c16] 28)] :: F) rfl rfl
            replace hS := hS.front 3 (C := [(b5, rowO [.slice A15 (((l5.take j) ++ ((l5.take l5.length).drop (j + 1))).length) c16] 28)]) (L' := C14 :: [(b6, rowO [.slice A25 (((l6.take j) ++ ((l6.take l6.length).drop (j + 1))).length) c26] 28)] :: C24 :: F) rfl rfl
            simp only [List.take_length] at hO14 hO24 hS
            exact ⟨_, _, _, _, hO14, hO24, rfl, hS⟩)
       · first
         | (exfalso; omega)
         | (replace hA := hA.rw 16 (v' := .bool false) rfl (vb_eq_f hc6)
            refine cd_cond_f hA rfl ?_
            refine wp_skip ?_
            refine xb_norm ?_
            refine xt_norm ?_
            refine wp_region_lit ?_
            refine st_run tbOk 1 hA (e' := (35, .int .i64 (IntKind.i64.wrap (((j : Nat) : Int) + 1))) :: _) rfl ?_; clear hA; intro a hA
            replace hA := hA.rw 35 (v' := .int .i64 ((j + 1 : Nat) : Int)) rfl (wr64 (by omega) (by omega) (by omega))
            refine st_run tbOk 1 hA (e' := (8, .int .i64 ((j + 1 : Nat) : Int)) :: _) rfl ?_; clear hA; intro a hA
            refine wpList_nil ?_
            replace hA := hA.sel [0, 1, 2, 7, 8] (e' := [(0, .int .i64 id), (1, .pointer (some ⟨b5, 0, none⟩)), (2, .pointer (some ⟨b6, 0, none⟩)), (7, .int .i64 ((l5.length : Nat) : Int)), (8, .int .i64 ((j + 1 : Nat) : Int))]) rfl
            have hjk : ¬ j = k := fun e => by subst e; rw [hk] at hx5; injection hx5 with e2; omega
            exact lp_next _ (by omega) ⟨(j + 1), rfl, (hA.sel [0, 1, 2, 7, 8] rfl), hS, by omega⟩))
  · first
    | (exfalso; omega)
    | (replace hA := hA.rw 9 (v' := .bool false) rfl (vb_false hc2)
       refine cd_cond_f hA rfl ?_
       refine wp_exit ?_
       refine xt_exit ?_
       refine xt_exit ?_
       refine cd_exit_eq ?_
       refine xt_norm ?_
       refine wp_seq ?_
       refine wp_region_lit ?_
       refine st_run tbOk 1 hA (e' := (4, .bool false) :: _) rfl ?_; clear hA; intro a hA
       refine wpList_nil ?_
       replace hA := hA.sel [4] (e' := [(4, .bool false)]) rfl
       refine xt_norm ?_
       refine wp_ret ?_
       refine ret1 (fn := Tryd.f5) hA rfl rfl ?_
       exfalso; omega)

end Go.Proofs.YtlodnipimofpeaaDoor
