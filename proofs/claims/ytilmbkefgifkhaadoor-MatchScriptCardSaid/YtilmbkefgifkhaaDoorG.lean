import Derived.Test.YtilmbkefgifkhaaDoorProg
import Derived.Test.YtilmbkefgifkhaaDoorAs
import Derived.Test.YtilmbkefgifkhaaDoorSK13
set_option linter.unusedVariables false
set_option linter.unusedSimpArgs false
set_option maxRecDepth 4000
namespace Go.Proofs.YtilmbkefgifkhaaDoor
open Go Go.SK
theorem mixed : Tryd.prog.follows .mixedOrders = true := by kernel_rfl
theorem isfn4 : IsFn Tryd.prog 4 := fun args w => by kernel_rfl
theorem isfn5 : IsFn Tryd.prog 5 := fun args w => by kernel_rfl
theorem isfn6 : IsFn Tryd.prog 6 := fun args w => by kernel_rfl
theorem isfn7 : IsFn Tryd.prog 7 := fun args w => by kernel_rfl
theorem isfn8 : IsFn Tryd.prog 8 := fun args w => by kernel_rfl
theorem isfn9 : IsFn Tryd.prog 9 := fun args w => by kernel_rfl
theorem isfn10 : IsFn Tryd.prog 10 := fun args w => by kernel_rfl
theorem isfn11 : IsFn Tryd.prog 11 := fun args w => by kernel_rfl
theorem isfn12 : IsFn Tryd.prog 12 := fun args w => by kernel_rfl
theorem isfn13 : IsFn Tryd.prog 13 := fun args w => by kernel_rfl
theorem isfn14 : IsFn Tryd.prog 14 := fun args w => by kernel_rfl
theorem isfn15 : IsFn Tryd.prog 15 := fun args w => by kernel_rfl
theorem isfn16 : IsFn Tryd.prog 16 := fun args w => by kernel_rfl
theorem isfn17 : IsFn Tryd.prog 17 := fun args w => by kernel_rfl
theorem isfn18 : IsFn Tryd.prog 18 := fun args w => by kernel_rfl
theorem isfn19 : IsFn Tryd.prog 19 := fun args w => by kernel_rfl
theorem isfn20 : IsFn Tryd.prog 20 := fun args w => by kernel_rfl
noncomputable def tb : List TI := [
  ⟨3, Tryd.t3.desc, 1, 8, .int .i64 0⟩,
  ⟨4, Tryd.t4.desc, 1, 1, .bool false⟩,
  ⟨5, Tryd.t5.desc, 1, 1, .int .u8 0⟩,
  ⟨9, Tryd.t9.desc, 1, 16, .string (⟨#[]⟩ : ByteArray)⟩,
  ⟨22, Tryd.t22.desc, 1, 24, .slice none 0 0⟩,
  ⟨25, Tryd.t25.desc, 1, 24, .slice none 0 0⟩,
  ⟨26, Tryd.t26.desc, 1, 24, .slice none 0 0⟩,
  ⟨28, Tryd.t27.desc, 2, 48, .agg #[.slice none 0 0, .slice none 0 0]⟩,
  ⟨29, Tryd.t29.desc, 1, 24, .slice none 0 0⟩,
  ⟨30, Tryd.t30.desc, 1, 8, .int .u64 0⟩,
  ⟨31, Tryd.t31.desc, 1, 4, .int .u32 0⟩,
  ⟨32, Tryd.t32.desc, 1, 2, .int .u16 0⟩,
  ⟨34, Tryd.t33.desc, 4, 24, .agg #[.int .u64 0, .int .u32 0, .int .u8 0, .int .u64 0]⟩,
  ⟨35, Tryd.t35.desc, 1, 24, .slice none 0 0⟩,
  ⟨37, Tryd.t36.desc, 11, 80, .agg #[.int .u64 0, .int .u64 0, .int .u32 0, .int .u16 0, .int .u16 0, .int .u64 0, .int .u32 0, .int .u8 0, .int .u64 0, .int .u64 0, .slice none 0 0]⟩,
  ⟨39, Tryd.t38.desc, 14, 88, .agg #[.int .u8 0, .int .u8 0, .int .u8 0, .int .u64 0, .int .u64 0, .int .u32 0, .int .u16 0, .int .u16 0, .int .u64 0, .int .u32 0, .int .u8 0, .int .u64 0, .int .u64 0, .slice none 0 0]⟩,
  ⟨41, Tryd.t40.desc, 2, 16, .agg #[.int .u64 0, .int .i64 0]⟩,
  ⟨44, Tryd.t43.desc, 1, 16, .nilIface⟩,
  ⟨47, Tryd.t3.desc, 1, 8, .int .i64 0⟩,
  ⟨57, Tryd.t56.desc, 2, 16, .agg #[.int .u64 0, .int .i64 0]⟩,
  ⟨62, Tryd.t62.desc, 1, 8, .pointer none⟩]
theorem tbOk : TabOk Tryd.prog tb := ⟨
  ⟨by kernel_rfl, Tryd.t3, by kernel_rfl, by kernel_rfl, by kernel_rfl, by kernel_rfl⟩,
  ⟨by kernel_rfl, Tryd.t4, by kernel_rfl, by kernel_rfl, by kernel_rfl, by kernel_rfl⟩,
  ⟨by kernel_rfl, Tryd.t5, by kernel_rfl, by kernel_rfl, by kernel_rfl, by kernel_rfl⟩,
  ⟨by kernel_rfl, Tryd.t9, by kernel_rfl, by kernel_rfl, by kernel_rfl, by kernel_rfl⟩,
  ⟨by kernel_rfl, Tryd.t22, by kernel_rfl, by kernel_rfl, by kernel_rfl, by kernel_rfl⟩,
  ⟨by kernel_rfl, Tryd.t25, by kernel_rfl, by kernel_rfl, by kernel_rfl, by kernel_rfl⟩,
  ⟨by kernel_rfl, Tryd.t26, by kernel_rfl, by kernel_rfl, by kernel_rfl, by kernel_rfl⟩,
  ⟨by kernel_rfl, Tryd.t28, by kernel_rfl, by kernel_rfl, by kernel_rfl, by kernel_rfl⟩,
  ⟨by kernel_rfl, Tryd.t29, by kernel_rfl, by kernel_rfl, by kernel_rfl, by kernel_rfl⟩,
  ⟨by kernel_rfl, Tryd.t30, by kernel_rfl, by kernel_rfl, by kernel_rfl, by kernel_rfl⟩,
  ⟨by kernel_rfl, Tryd.t31, by kernel_rfl, by kernel_rfl, by kernel_rfl, by kernel_rfl⟩,
  ⟨by kernel_rfl, Tryd.t32, by kernel_rfl, by kernel_rfl, by kernel_rfl, by kernel_rfl⟩,
  ⟨by kernel_rfl, Tryd.t34, by kernel_rfl, by kernel_rfl, by kernel_rfl, by kernel_rfl⟩,
  ⟨by kernel_rfl, Tryd.t35, by kernel_rfl, by kernel_rfl, by kernel_rfl, by kernel_rfl⟩,
  ⟨by kernel_rfl, Tryd.t37, by kernel_rfl, by kernel_rfl, by kernel_rfl, by kernel_rfl⟩,
  ⟨by kernel_rfl, Tryd.t39, by kernel_rfl, by kernel_rfl, by kernel_rfl, by kernel_rfl⟩,
  ⟨by kernel_rfl, Tryd.t41, by kernel_rfl, by kernel_rfl, by kernel_rfl, by kernel_rfl⟩,
  ⟨by kernel_rfl, Tryd.t44, by kernel_rfl, by kernel_rfl, by kernel_rfl, by kernel_rfl⟩,
  ⟨by kernel_rfl, Tryd.t47, by kernel_rfl, by kernel_rfl, by kernel_rfl, by kernel_rfl⟩,
  ⟨by kernel_rfl, Tryd.t57, by kernel_rfl, by kernel_rfl, by kernel_rfl, by kernel_rfl⟩,
  ⟨by kernel_rfl, Tryd.t62, by kernel_rfl, by kernel_rfl, by kernel_rfl, by kernel_rfl⟩,
  trivial⟩
def encMessage (x : Int × Int × Int × Int × Int × Int × Int × Int × Int × Int × Option Addr × Nat × List UInt8) : List Value := [.int .u64 x.1, .int .u64 x.2.1, .int .u32 x.2.2.1, .int .u16 x.2.2.2.1, .int .u16 x.2.2.2.2.1, .int .u64 x.2.2.2.2.2.1, .int .u32 x.2.2.2.2.2.2.1, .int .u8 x.2.2.2.2.2.2.2.1, .int .u64 x.2.2.2.2.2.2.2.2.1, .int .u64 x.2.2.2.2.2.2.2.2.2.1, .slice x.2.2.2.2.2.2.2.2.2.2.1 x.2.2.2.2.2.2.2.2.2.2.2.2.length x.2.2.2.2.2.2.2.2.2.2.2.1]
theorem encMessage_ok : Enc encMessage 11 := ⟨fun _ => rfl, fun x u hu => by simp only [encMessage, List.mem_cons, List.not_mem_nil, or_false] at hu; rcases hu with rfl | rfl | rfl | rfl | rfl | rfl | rfl | rfl | rfl | rfl | rfl <;> rfl⟩
def encMessage_dd (w0 : World) (D : Chunk) (x : Int × Int × Int × Int × Int × Int × Int × Int × Int × Int × Option Addr × Nat × List UInt8) : Prop := DD w0 D x.2.2.2.2.2.2.2.2.2.2.1 x.2.2.2.2.2.2.2.2.2.2.2.1 x.2.2.2.2.2.2.2.2.2.2.2.2
theorem encMessage_left {w0 : World} {D E : Chunk} {x : Int × Int × Int × Int × Int × Int × Int × Int × Int × Int × Option Addr × Nat × List UInt8} (h : encMessage_dd w0 D x) : encMessage_dd w0 (E ++ D) x := DD.left h
theorem encMessage_lefts {w0 : World} {D E : Chunk} {l : List (Int × Int × Int × Int × Int × Int × Int × Int × Int × Int × Option Addr × Nat × List UInt8)} (h : ∀ x ∈ l, encMessage_dd w0 D x) : ∀ x ∈ l, encMessage_dd w0 (E ++ D) x := fun x hx => encMessage_left (h x hx)

def encWait (x : Int × Int) : List Value := [.int .u64 x.1, .int .i64 x.2]
theorem encWait_ok : Enc encWait 2 := ⟨fun _ => rfl, fun x u hu => by simp only [encWait, List.mem_cons, List.not_mem_nil, or_false] at hu; rcases hu with rfl | rfl <;> rfl⟩
def encWait_good (x : Int × Int) : Prop := (0 ≤ x.1 ∧ x.1 < 18446744073709551616) ∧ (-9223372036854775808 ≤ x.2 ∧ x.2 < 9223372036854775808)

abbrev Msg := Int × Int × Int × Int × Int × Int × Int × Int × Int × Int × Option Addr × Nat × List UInt8
def mdat (x : Msg) : List UInt8 := x.2.2.2.2.2.2.2.2.2.2.2.2

def wth (id : Int) (x : Int × Int) : Bool := x.2 == id
/-- A match at a block: the threads that wait, and the requests that do. -/
def MR (b : Nat) (ws : List (Int × Int)) (ms : List Msg) (L : Chunk) : Prop := ∃ v C v2 C2, Own 57 2 v ws.length (rows encWait ws) C ∧ Own 37 11 v2 ms.length (rows encMessage ms) C2 ∧ L = (b, rowO [v, v2] 28) :: (C ++ C2)
theorem MR.new (b : Nat) : MR b [] [] [(b, rowO [.slice none 0 0, .slice none 0 0] 28)] := ⟨_, [], _, [], Own.nil _ _, Own.nil _ _, rfl⟩

theorem indexFunc20 {w0 w : World} {F : List Chunk} (hS : St w0 w F) {v : Value} {l : List (Int × Int)} (hr : RdS w0 F 2 v l.length (rows encWait l)) {g : Nat} {first cap : Array Value} {p : (Int × Int) → Bool} (hg : IsFn Tryd.prog g) (hp : Pred Tryd.prog w0 F g first cap (fun x => .agg (encWait x).toArray) p) :
    Ret Tryd.prog 20 #[v, .func (.func g) first cap] w (fun v w' => v = .int .i64 (idx p l) ∧ St w0 w' F) := by
  obtain ⟨A, c, rfl, hmc, hcx⟩ := (hr w hS).open'
  refine enter (vs := [.slice A l.length c, .func (.func g) first cap]) 19 Tryd.func20 rfl rfl (by simp) ?_; intro a hA
  refine wp_seq ?_
  refine wp_region_lit ?_
  refine st_run tbOk 1 hA (e' := (4, .int .i64 0) :: _) rfl ?_; clear hA; intro a hA
  refine wpList_nil ?_
  replace hA := hA.sel [0, 1] (e' := [(0, .slice A l.length c), (1, .func (.func g) first cap)]) rfl
  refine xt_norm ?_
  refine wp_seq ?_
  refine wp_seq ?_
  refine wp_region_lit ?_
  refine st_run tbOk 3 hA (e' := (8, .int .i64 0) :: (7, .int .i64 ((l.length : Nat) : Int)) :: (6, .slice A l.length c) :: _) rfl ?_; clear hA; intro a hA
  refine wpList_nil ?_
  replace hA := hA.sel [0, 1, 7, 8] (e' := [(0, .slice A l.length c), (1, .func (.func g) first cap), (7, .int .i64 ((l.length : Nat) : Int)), (8, .int .i64 0)]) rfl
  refine xt_norm ?_
  refine wp_block ?_
  refine wp_loop_ghost (fun m a w => ∃ (k : Nat), m = l.length - k ∧ Has a 19 [(0, .slice A l.length c), (1, .func (.func g) first cap), (7, .int .i64 ((l.length : Nat) : Int)), (8, .int .i64 ((k : Nat) : Int))] ∧ St w0 w (F) ∧ (k ≤ l.length) ∧ (∀ (i : Nat) (y : (Int × Int)), i < k → l[i]? = some y → p y = false)) (l.length - 0)
    ⟨0, rfl, (hA.sel [0, 1, 7, 8] rfl), hS, Nat.zero_le _, fun i y hi => absurd hi (by omega)⟩ ?_
  clear hA hS; rintro m0 a w1 ⟨k, rfl, hA, hS, hk, hb⟩
  refine wp_seq ?_
  refine wp_region_lit ?_
  refine st_run tbOk 1 hA (e' := (9, .bool (decide (((k : Nat) : Int) < ((l.length : Nat) : Int)))) :: _) rfl ?_; clear hA; intro a hA
  refine wpList_nil ?_
  refine xt_norm ?_
  refine wp_seq ?_
  by_cases hc2 : ((k : Nat) : Int) < ((l.length : Nat) : Int)
  · first
    | (exfalso; omega)
    | (replace hA := hA.rw 9 (v' := .bool true) rfl (vb_true hc2)
       refine cd_cond_t hA rfl ?_
       refine wp_skip ?_
       refine xt_norm ?_
       refine wp_seq ?_
       refine wp_block ?_
       refine wp_seq ?_
       refine wp_region_lit ?_
       refine st_run tbOk 2 hA (e' := (5, .int .i64 ((k : Nat) : Int)) :: (10, .int .i64 ((k : Nat) : Int)) :: _) rfl ?_; clear hA; intro a hA
       refine wpList_nil ?_
       replace hA := hA.sel [0, 1, 5, 7, 8] (e' := [(0, .slice A l.length c), (1, .func (.func g) first cap), (5, .int .i64 ((k : Nat) : Int)), (7, .int .i64 ((l.length : Nat) : Int)), (8, .int .i64 ((k : Nat) : Int))]) rfl
       refine xt_norm ?_
       refine wp_seq ?_
       refine wp_region_lit ?_
       refine st_run tbOk 3 hA (e' := (13, .int .i64 ((k : Nat) : Int)) :: (12, .slice A l.length c) :: (11, .func (.func g) first cap) :: _) rfl ?_; clear hA; intro a hA
       obtain ⟨b3, o4, rfl⟩ := (hr _ hS).isSome (k := k) (by omega)
       refine st_val hA rfl rfl (by decide) (rn_indexAddr tbOk hA k (o4 + (k * 2)) rfl rfl rfl rfl rfl rfl (by rfl) (by omega) (by first | rfl | simp [Nat.mul_one, Nat.zero_add] | omega)) ?_; clear hA; intro a hA
       obtain ⟨x5, hx5⟩ := get_ex (l := l) (k := k) (by omega)
       refine st_val hA rfl rfl (by decide) (rn_loadA tbOk hA ([.int .u64 x5.1, .int .i64 x5.2]) rfl rfl rfl rfl (by rfl) ((hr _ hS).elem (k := k) encWait_ok hx5)) ?_; clear hA; intro a hA
       refine st_call hA rfl rfl rfl rfl hg rfl rfl (by decide) (hp _ x5 hS) ?_
       clear hA; rintro v w6 a ⟨rfl, hS'⟩ hA; replace hS : St w0 w6 (F) := hS.trans hS'
       refine wpList_nil ?_
       replace hA := hA.sel [0, 1, 5, 7, 8, 16] (e' := [(0, .slice (some ⟨b3, o4, none⟩) l.length c), (1, .func (.func g) first cap), (5, .int .i64 ((k : Nat) : Int)), (7, .int .i64 ((l.length : Nat) : Int)), (8, .int .i64 ((k : Nat) : Int)), (16, .bool (p x5))]) rfl
       refine xt_norm ?_
       by_cases hpx : (p x5) = true
       · first
         | (exfalso; omega)
         | (replace hA := hA.rw 16 (v' := .bool true) rfl (vb_t hpx)
            refine cd_cond_t hA rfl ?_
            refine wp_seq ?_
            refine wp_region_lit ?_
            refine st_run tbOk 2 hA (e' := (4, .int .i64 ((k : Nat) : Int)) :: (17, .int .i64 ((k : Nat) : Int)) :: _) rfl ?_; clear hA; intro a hA
            refine wpList_nil ?_
            replace hA := hA.sel [4] (e' := [(4, .int .i64 ((k : Nat) : Int))]) rfl
            refine xt_norm ?_
            refine wp_ret (xb_ret (xt_ret (xt_ret (xb_ret (xt_ret ?_)))))
            refine ret1 (fn := Tryd.f20) hA rfl rfl ?_
            exact ⟨vint (idx_some hx5 hpx (fun i y hi hy => hb i y hi hy)).symm, hS⟩)
       · first
         | (exfalso; omega)
         | (replace hA := hA.rw 16 (v' := .bool false) rfl (vb_f hpx)
            refine cd_cond_f hA rfl ?_
            refine wp_skip ?_
            refine xb_norm ?_
            refine xt_norm ?_
            refine wp_region_lit ?_
            refine st_run tbOk 1 hA (e' := (18, .int .i64 (IntKind.i64.wrap (((k : Nat) : Int) + 1))) :: _) rfl ?_; clear hA; intro a hA
            replace hA := hA.rw 18 (v' := .int .i64 ((k + 1 : Nat) : Int)) rfl (wr64 (by omega) (by omega) (by omega))
            refine st_run tbOk 1 hA (e' := (8, .int .i64 ((k + 1 : Nat) : Int)) :: _) rfl ?_; clear hA; intro a hA
            refine wpList_nil ?_
            replace hA := hA.sel [0, 1, 7, 8] (e' := [(0, .slice (some ⟨b3, o4, none⟩) l.length c), (1, .func (.func g) first cap), (7, .int .i64 ((l.length : Nat) : Int)), (8, .int .i64 ((k + 1 : Nat) : Int))]) rfl
            exact lp_next _ (by omega) ⟨(k + 1), rfl, (hA.sel [0, 1, 7, 8] rfl), hS, by omega, fun i y hi hy => (Nat.lt_succ_iff_lt_or_eq.1 hi).elim (fun h => hb i y h hy) (fun h => by subst h; rw [hx5] at hy; injection hy with hy; subst hy; simpa using hpx)⟩))
  · first
    | (exfalso; omega)
    | (replace hA := hA.rw 9 (v' := .bool false) rfl (vb_false hc2)
       refine cd_cond_f hA rfl ?_
       refine wp_exit ?_
       refine xt_exit ?_
       refine xt_exit ?_
       refine cd_exit_eq ?_
       refine xt_norm ?_
       refine wp_seq ?_
       refine wp_region_lit ?_
       refine st_run tbOk 1 hA (e' := (4, .int .i64 (-1)) :: _) rfl ?_; clear hA; intro a hA
       refine wpList_nil ?_
       replace hA := hA.sel [4] (e' := [(4, .int .i64 (-1))]) rfl
       refine xt_norm ?_
       refine wp_ret ?_
       refine ret1 (fn := Tryd.f20) hA rfl rfl ?_
       exact ⟨vint (idx_none (fun i y hy => hb i y (by have := (List.getElem?_eq_some_iff.1 hy).1; omega) hy)).symm, hS⟩)

theorem containsFunc12 {w0 w : World} {F : List Chunk} (hS : St w0 w F) {v : Value} {l : List (Int × Int)} (hr : RdS w0 F 2 v l.length (rows encWait l)) {g : Nat} {first cap : Array Value} {p : (Int × Int) → Bool} (hg : IsFn Tryd.prog g) (hp : Pred Tryd.prog w0 F g first cap (fun x => .agg (encWait x).toArray) p) :
    Ret Tryd.prog 12 #[v, .func (.func g) first cap] w (fun v w' => v = .bool (l.any p) ∧ St w0 w' F) := by
  obtain ⟨A, c, rfl, hmc, hcx⟩ := (hr w hS).open'
  refine enter (vs := [.slice A l.length c, .func (.func g) first cap]) 9 Tryd.func12 rfl rfl (by simp) ?_; intro a hA
  refine wp_seq ?_
  refine wp_region_lit ?_
  refine st_run tbOk 1 hA (e' := (4, .bool false) :: _) rfl ?_; clear hA; intro a hA
  refine wpList_nil ?_
  replace hA := hA.sel [0, 1] (e' := [(0, .slice A l.length c), (1, .func (.func g) first cap)]) rfl
  refine xt_norm ?_
  refine wp_seq ?_
  refine wp_region_lit ?_
  refine st_run tbOk 2 hA (e' := (6, .func (.func g) first cap) :: (5, .slice A l.length c) :: _) rfl ?_; clear hA; intro a hA
  refine st_call0 hA rfl rfl rfl isfn20 rfl rfl (by decide) (indexFunc20 hS (l := l) hr hg hp) ?_
  clear hA hS; rintro v w1 a ⟨rfl, hS⟩ hA
  refine st_run tbOk 2 hA (e' := (4, .bool (decide (idx p l ≥ 0))) :: (8, .bool (decide (idx p l ≥ 0))) :: _) rfl ?_; clear hA; intro a hA
  refine wpList_nil ?_
  replace hA := hA.sel [4] (e' := [(4, .bool (decide (idx p l ≥ 0)))]) rfl
  refine xt_norm ?_
  refine wp_ret ?_
  refine ret1 (fn := Tryd.f12) hA rfl rfl ?_
  exact ⟨vbool (idx_any _ _), hS⟩

theorem deleteFunc18 {w0 w : World} {F : List Chunk} {C : Chunk} (hS : St w0 w (C :: F)) {v : Value} {l : List (Int × Int)} (hO : Own 57 2 v l.length (rows encWait l) C) {g : Nat} {first cap : Array Value} {p : (Int × Int) → Bool} (hg : IsFn Tryd.prog g) (hp : Pred Tryd.prog w0 F g first cap (fun x => .agg (encWait x).toArray) p) :
    Ret Tryd.prog 18 #[v, .func (.func g) first cap] w (fun v w' => ∃ C', Own 57 2 v (l.filter (fun x => !p x)).length (rows encWait (l.filter (fun x => !p x))) C' ∧ St w0 w' (C' :: F)) := by
  obtain ⟨A, c, rfl, hmc, hcx⟩ := hO.open'
  refine enter (vs := [.slice A l.length c, .func (.func g) first cap]) 42 Tryd.func18 rfl rfl (by simp) ?_; intro a hA
  refine wp_seq ?_
  refine wp_region_lit ?_
  refine st_run tbOk 1 hA (e' := (4, .slice none 0 0) :: _) rfl ?_; clear hA; intro a hA
  refine wpList_nil ?_
  replace hA := hA.sel [0, 1] (e' := [(0, .slice A l.length c), (1, .func (.func g) first cap)]) rfl
  refine xt_norm ?_
  refine wp_seq ?_
  refine wp_region_lit ?_
  refine st_run tbOk 2 hA (e' := (9, .func (.func g) first cap) :: (8, .slice A l.length c) :: _) rfl ?_; clear hA; intro a hA
  refine st_call0 hA rfl rfl rfl isfn20 rfl rfl (by decide) (indexFunc20 hS (l := l) (RdS.own hO 0 rfl) hg hp.cons) ?_
  clear hA hS; rintro v w1 a ⟨rfl, hS⟩ hA
  refine st_run tbOk 1 hA (e' := (5, .int .i64 (idx p l)) :: _) rfl ?_; clear hA; intro a hA
  refine wpList_nil ?_
  replace hA := hA.sel [0, 1, 5] (e' := [(0, .slice A l.length c), (1, .func (.func g) first cap), (5, .int .i64 (idx p l))]) rfl
  refine xt_norm ?_
  refine wp_seq ?_
  refine wp_seq ?_
  rcases idx_cases p l with ⟨hi, hf⟩ | ⟨k, x0, hi, hx0, hpx0, hb⟩
  · replace hA := hA.rw 5 (v' := .int .i64 (-1)) rfl (by rw [hi])
    refine wp_region_lit ?_
    refine st_run tbOk 2 hA (e' := (12, .bool true) :: (11, .int .i64 (-1)) :: _) rfl ?_; clear hA; intro a hA
    refine wpList_nil ?_
    replace hA := hA.sel [0, 1, 5, 12] (e' := [(0, .slice A l.length c), (1, .func (.func g) first cap), (5, .int .i64 (-1)), (12, .bool true)]) rfl
    refine xt_norm ?_
    refine cd_cond_t hA rfl ?_
    refine wp_seq ?_
    refine wp_region_lit ?_
    refine st_run tbOk 2 hA (e' := (4, .slice A l.length c) :: (13, .slice A l.length c) :: _) rfl ?_; clear hA; intro a hA
    refine wpList_nil ?_
    replace hA := hA.sel [4] (e' := [(4, .slice A l.length c)]) rfl
    refine xt_norm ?_
    refine wp_ret (xt_ret ?_)
    refine ret1 (fn := Tryd.f18) hA rfl rfl ?_
    have hfl : l.filter (fun x => !p x) = l := List.filter_eq_self.2 (fun y hy => by obtain ⟨i, hi⟩ := List.mem_iff_getElem?.1 hy; simp [hf i y hi])
    exact ⟨C, by rw [hfl]; exact hO, hS⟩
  · replace hA := hA.rw 5 (v' := .int .i64 ((k : Nat) : Int)) rfl (by rw [hi])
    have hkl := (List.getElem?_eq_some_iff.1 hx0).1
    refine wp_region_lit ?_
    refine st_run tbOk 2 hA (e' := (12, .bool (((k : Nat) : Int) == (-1))) :: (11, .int .i64 ((k : Nat) : Int)) :: _) rfl ?_; clear hA; intro a hA
    refine wpList_nil ?_
    replace hA := hA.sel [0, 1, 5, 12] (e' := [(0, .slice A l.length c), (1, .func (.func g) first cap), (5, .int .i64 ((k : Nat) : Int)), (12, .bool (((k : Nat) : Int) == (-1)))]) rfl
    refine xt_norm ?_
    by_cases hc2 : ((k : Nat) : Int) = (-1)
    · first
      | (exfalso; omega)
      | (replace hA := hA.rw 12 (v' := .bool true) rfl (vb_eq_t hc2)
         refine cd_cond_t hA rfl ?_
         refine wp_seq ?_
         refine wp_region_lit ?_
         refine st_run tbOk 2 hA (e' := (4, .slice A l.length c) :: (13, .slice A l.length c) :: _) rfl ?_; clear hA; intro a hA
         refine wpList_nil ?_
         replace hA := hA.sel [4] (e' := [(4, .slice A l.length c)]) rfl
         refine xt_norm ?_
         refine wp_ret (xt_ret ?_)
         refine ret1 (fn := Tryd.f18) hA rfl rfl ?_
         have hfl : l.filter (fun x => !p x) = l := List.filter_eq_self.2 (fun y hy => by obtain ⟨i, hi⟩ := List.mem_iff_getElem?.1 hy; simp [hf i y hi])
         exact ⟨C, by rw [hfl]; exact hO, hS⟩)
    · first
      | (exfalso; omega)
      | (replace hA := hA.rw 12 (v' := .bool false) rfl (vb_eq_f hc2)
         refine cd_cond_f hA rfl ?_
         refine wp_skip ?_
         refine xt_norm ?_
         refine wp_seq ?_
         refine wp_seq ?_
         refine wp_region_lit ?_
         refine st_run tbOk 2 hA (e' := (15, .int .i64 (IntKind.i64.wrap (((k : Nat) : Int) + 1))) :: (14, .int .i64 ((k : Nat) : Int)) :: _) rfl ?_; clear hA; intro a hA
         replace hA := hA.rw 15 (v' := .int .i64 ((k + 1 : Nat) : Int)) rfl (wr64 (by omega) (by omega) (by omega))
         refine st_run tbOk 1 hA (e' := (6, .int .i64 ((k + 1 : Nat) : Int)) :: _) rfl ?_; clear hA; intro a hA
         refine wpList_nil ?_
         replace hA := hA.sel [0, 1, 5, 6] (e' := [(0, .slice A l.length c), (1, .func (.func g) first cap), (5, .int .i64 ((k : Nat) : Int)), (6, .int .i64 ((k + 1 : Nat) : Int))]) rfl
         refine xt_norm ?_
         refine wp_block ?_
         have hk1 : (kept p l (k + 1)).length = k := by rw [kept_step hx0, if_pos hpx0, kept_first hb, List.length_take]; omega
         replace hA := hA.rw 5 (v' := .int .i64 (((kept p l (k + 1)).length : Nat) : Int)) rfl (by rw [hk1])
         refine wp_loop_ghost (fun m a w => ∃ (j : Nat) (C : Chunk), m = l.length - j ∧ Has a 42 [(0, .slice A l.length c), (1, .func (.func g) first cap), (5, .int .i64 (((kept p l j).length : Nat) : Int)), (6, .int .i64 ((j : Nat) : Int))] ∧ St w0 w (C :: F) ∧ (k < j) ∧ (j ≤ l.length) ∧ (Own 57 2 (.slice A l.length c) l.length (rows encWait (mid p l j)) C)) (l.length - (k + 1))
           ⟨(k + 1), C, rfl, (hA.sel [0, 1, 5, 6] rfl), hS, by omega, by omega, by rw [mid_no hx0 hpx0, mid_first (by omega) hb]; exact hO⟩ ?_
         clear hA hS; rintro m0 a w3 ⟨j, C, rfl, hA, hS, hj1, hj, hO⟩
         have hkj := kept_le p l j
         refine wp_seq ?_
         refine wp_seq ?_
         refine wp_region_lit ?_
         refine st_run tbOk 4 hA (e' := (19, .bool (decide (((j : Nat) : Int) < ((l.length : Nat) : Int)))) :: (18, .int .i64 ((l.length : Nat) : Int)) :: (17, .slice A l.length c) :: (16, .int .i64 ((j : Nat) : Int)) :: _) rfl ?_; clear hA; intro a hA
         refine wpList_nil ?_
         replace hA := hA.sel [0, 1, 5, 6, 19] (e' := [(0, .slice A l.length c), (1, .func (.func g) first cap), (5, .int .i64 (((kept p l j).length : Nat) : Int)), (6, .int .i64 ((j : Nat) : Int)), (19, .bool (decide (((j : Nat) : Int) < ((l.length : Nat) : Int))))]) rfl
         refine xt_norm ?_
         by_cases hc4 : ((j : Nat) : Int) < ((l.length : Nat) : Int)
         · first
           | (exfalso; omega)
           | (replace hA := hA.rw 19 (v' := .bool true) rfl (vb_true hc4)
              refine cd_cond_t hA rfl ?_
              refine wp_skip ?_
              refine xt_norm ?_
              refine wp_seq ?_
              refine wp_block ?_
              refine wp_seq ?_
              refine wp_region_lit ?_
              refine st_run tbOk 2 hA (e' := (23, .int .i64 ((j : Nat) : Int)) :: (22, .slice A l.length c) :: _) rfl ?_; clear hA; intro a hA
              obtain ⟨b5, o6, rfl⟩ := hO.isSome (k := j) (by omega)
              refine st_val hA rfl rfl (by decide) (rn_indexAddr tbOk hA j (o6 + (j * 2)) rfl rfl rfl rfl rfl rfl (by rfl) (by omega) (by first | rfl | simp [Nat.mul_one, Nat.zero_add] | omega)) ?_; clear hA; intro a hA
              obtain ⟨x7, hx7⟩ := get_ex (l := l) (k := j) (by omega)
              have gx7 := (mid_at (p := p) (l := l) (Nat.le_refl j)).trans hx7
              refine st_val hA rfl rfl (by decide) (rn_loadA tbOk hA ([.int .u64 x7.1, .int .i64 x7.2]) rfl rfl rfl rfl (by rfl) ((hO.rd (hS.own_ 0 rfl)).elem (k := j) encWait_ok gx7)) ?_; clear hA; intro a hA
              refine st_alloc tbOk hA hS [.int .u64 0, .int .i64 0] rfl rfl rfl rfl rfl (by decide) ?_; clear hA hS; intro b8 w9 a hS hA
              refine st_store tbOk hA hS [.int .u64 x7.1, .int .i64 x7.2] [.int .u64 x7.1, .int .i64 x7.2] rfl rfl rfl rfl rfl rfl (by simp [Value.oneCell']) (Nat.le_of_ble_eq_true rfl) rfl rfl rfl ?_; clear hS; intro w10 hS
              refine wpList_nil ?_
              replace hA := hA.sel [0, 1, 5, 6, 7] (e' := [(0, .slice (some ⟨b5, o6, none⟩) l.length c), (1, .func (.func g) first cap), (5, .int .i64 (((kept p l j).length : Nat) : Int)), (6, .int .i64 ((j : Nat) : Int)), (7, .pointer (some ⟨b8, 0, none⟩))]) rfl
              refine xt_norm ?_
              refine wp_seq ?_
              refine wp_region_lit ?_
              refine st_run tbOk 1 hA (e' := (26, .func (.func g) first cap) :: _) rfl ?_; clear hA; intro a hA
              refine st_val hA rfl rfl (by decide) (rn_loadA tbOk hA [.int .u64 x7.1, .int .i64 x7.2] rfl rfl rfl rfl rfl (cells_row (hS.heapAt 0 rfl) rfl)) ?_; clear hA; intro a hA
              refine st_call hA rfl rfl rfl rfl hg rfl rfl (by decide) (hp _ x7 (hS.tail 2 rfl)) ?_
              clear hA; rintro v w11 a ⟨rfl, hS'⟩ hA; replace hS : St w0 w11 ([(b8, rowO [.int .u64 x7.1, .int .i64 x7.2] 57)] :: C :: F) := hS.trans hS'
              by_cases hpx : (p x7) = true
              · first
                | (exfalso; omega)
                | (replace hA := hA.rw 28 (v' := .bool true) rfl (vb_t hpx)
                   refine st_run tbOk 1 hA (e' := (29, .bool false) :: _) rfl ?_; clear hA; intro a hA
                   refine wpList_nil ?_
                   replace hA := hA.sel [0, 1, 5, 6, 7, 29] (e' := [(0, .slice (some ⟨b5, o6, none⟩) l.length c), (1, .func (.func g) first cap), (5, .int .i64 (((kept p l j).length : Nat) : Int)), (6, .int .i64 ((j : Nat) : Int)), (7, .pointer (some ⟨b8, 0, none⟩)), (29, .bool false)]) rfl
                   refine xt_norm ?_
                   refine cd_cond_f hA rfl ?_
                   refine wp_skip ?_
                   refine xb_norm ?_
                   refine xt_norm ?_
                   refine wp_region_lit ?_
                   refine st_run tbOk 2 hA (e' := (21, .int .i64 (IntKind.i64.wrap (((j : Nat) : Int) + 1))) :: (20, .int .i64 ((j : Nat) : Int)) :: _) rfl ?_; clear hA; intro a hA
                   replace hA := hA.rw 21 (v' := .int .i64 ((j + 1 : Nat) : Int)) rfl (wr64 (by omega) (by omega) (by omega))
                   refine st_run tbOk 1 hA (e' := (6, .int .i64 ((j + 1 : Nat) : Int)) :: _) rfl ?_; clear hA; intro a hA
                   refine wpList_nil ?_
                   replace hA := hA.sel [0, 1, 5, 6] (e' := [(0, .slice (some ⟨b5, o6, none⟩) l.length c), (1, .func (.func g) first cap), (5, .int .i64 (((kept p l j).length : Nat) : Int)), (6, .int .i64 ((j + 1 : Nat) : Int))]) rfl
                   have h2 : (kept p l (j + 1)).length = (kept p l j).length := by rw [kept_step hx7, if_pos (by simpa using hpx)]
                   have h3 : Own 57 2 (.slice (some ⟨b5, o6, none⟩) l.length c) l.length (rows encWait (mid p l (j + 1))) C := by rw [mid_no hx7 (by simpa using hpx)]; exact hO
                   replace hA := hA.rw 5 (v' := .int .i64 (((kept p l (j + 1)).length : Nat) : Int)) rfl (by rw [h2])
                   replace hS := hS.drop1
                   exact lp_next _ (by omega) ⟨(j + 1), C, rfl, (hA.sel [0, 1, 5, 6] rfl), hS, by omega, by omega, h3⟩)
              · first
                | (exfalso; omega)
                | (replace hA := hA.rw 28 (v' := .bool false) rfl (vb_f hpx)
                   refine st_run tbOk 1 hA (e' := (29, .bool true) :: _) rfl ?_; clear hA; intro a hA
                   refine wpList_nil ?_
                   replace hA := hA.sel [0, 1, 5, 6, 7, 29] (e' := [(0, .slice (some ⟨b5, o6, none⟩) l.length c), (1, .func (.func g) first cap), (5, .int .i64 (((kept p l j).length : Nat) : Int)), (6, .int .i64 ((j : Nat) : Int)), (7, .pointer (some ⟨b8, 0, none⟩)), (29, .bool true)]) rfl
                   refine xt_norm ?_
                   refine cd_cond_t hA rfl ?_
                   refine wp_seq ?_
                   refine wp_region_lit ?_
                   refine st_run tbOk 2 hA (e' := (31, .int .i64 (((kept p l j).length : Nat) : Int)) :: (30, .slice (some ⟨b5, o6, none⟩) l.length c) :: _) rfl ?_; clear hA; intro a hA
                   refine st_val hA rfl rfl (by decide) (rn_loadA tbOk hA [.int .u64 x7.1, .int .i64 x7.2] rfl rfl rfl rfl rfl (cells_row (hS.heapAt 0 rfl) rfl)) ?_; clear hA; intro a hA
                   refine st_val hA rfl rfl (by decide) (rn_indexAddr tbOk hA ((kept p l j).length) (o6 + (((kept p l j).length) * 2)) rfl rfl rfl rfl rfl rfl (by rfl) (by omega) (by first | rfl | simp [Nat.mul_one, Nat.zero_add] | omega)) ?_; clear hA; intro a hA
                   replace hS := hS.front 1 (C := C) (L' := [(b8, rowO [.int .u64 x7.1, .int .i64 x7.2] 57)] :: F) rfl rfl
                   refine st_store_own tbOk hA hO hS ((((kept p l j).length) * 2)) (o6 + (((kept p l j).length) * 2)) [.int .u64 x7.1, .int .i64 x7.2] (rows encWait ((mid p l j).set (kept p l j).length x7)) rfl rfl rfl rfl (by rfl) rfl rfl (by exact encWait_ok.one x7) (by rw [rows_length encWait_ok, mid_length]; have := kept_le p l j; have := Nat.mul_le_mul_right 2 (show (kept p l j).length + 1 ≤ l.length by omega); simp only [List.length_cons, List.length_nil]; omega) ((congrArg _ rfl).trans (rows_set encWait_ok (by rw [mid_length]; have := kept_le p l j; omega))) rfl rfl ?_; clear hS; intro w12 C13 hO13 hS
                   refine wpList_nil ?_
                   replace hA := hA.sel [0, 1, 5, 6] (e' := [(0, .slice (some ⟨b5, o6, none⟩) l.length c), (1, .func (.func g) first cap), (5, .int .i64 (((kept p l j).length : Nat) : Int)), (6, .int .i64 ((j : Nat) : Int))]) rfl
                   refine xt_norm ?_
                   refine wp_region_lit ?_
                   refine st_run tbOk 2 hA (e' := (35, .int .i64 (IntKind.i64.wrap ((((kept p l j).length : Nat) : Int) + 1))) :: (34, .int .i64 (((kept p l j).length : Nat) : Int)) :: _) rfl ?_; clear hA; intro a hA
                   replace hA := hA.rw 35 (v' := .int .i64 ((((kept p l j).length) + 1 : Nat) : Int)) rfl (wr64 (by omega) (by omega) (by omega))
                   refine st_run tbOk 1 hA (e' := (5, .int .i64 ((((kept p l j).length) + 1 : Nat) : Int)) :: _) rfl ?_; clear hA; intro a hA
                   refine wpList_nil ?_
                   replace hA := hA.sel [0, 1, 5, 6] (e' := [(0, .slice (some ⟨b5, o6, none⟩) l.length c), (1, .func (.func g) first cap), (5, .int .i64 ((((kept p l j).length) + 1 : Nat) : Int)), (6, .int .i64 ((j : Nat) : Int))]) rfl
                   refine xb_norm ?_
                   refine xt_norm ?_
                   refine wp_region_lit ?_
                   refine st_run tbOk 2 hA (e' := (21, .int .i64 (IntKind.i64.wrap (((j : Nat) : Int) + 1))) :: (20, .int .i64 ((j : Nat) : Int)) :: _) rfl ?_; clear hA; intro a hA
                   replace hA := hA.rw 21 (v' := .int .i64 ((j + 1 : Nat) : Int)) rfl (wr64 (by omega) (by omega) (by omega))
                   refine st_run tbOk 1 hA (e' := (6, .int .i64 ((j + 1 : Nat) : Int)) :: _) rfl ?_; clear hA; intro a hA
                   refine wpList_nil ?_
                   replace hA := hA.sel [0, 1, 5, 6] (e' := [(0, .slice (some ⟨b5, o6, none⟩) l.length c), (1, .func (.func g) first cap), (5, .int .i64 ((((kept p l j).length) + 1 : Nat) : Int)), (6, .int .i64 ((j + 1 : Nat) : Int))]) rfl
                   have h2 : (kept p l (j + 1)).length = (kept p l j).length + 1 := by rw [kept_step hx7, if_neg (by simpa using hpx), List.length_append]; rfl
                   have h3 : Own 57 2 (.slice (some ⟨b5, o6, none⟩) l.length c) l.length (rows encWait (mid p l (j + 1))) C13 := by rw [mid_yes hx7 (by simpa using hpx)]; exact hO13
                   replace hA := hA.rw 5 (v' := .int .i64 (((kept p l (j + 1)).length : Nat) : Int)) rfl (by rw [h2])
                   replace hS := hS.front 1 (C := [(b8, rowO [.int .u64 x7.1, .int .i64 x7.2] 57)]) (L' := C13 :: F) rfl rfl
                   replace hS := hS.drop1
                   exact lp_next _ (by omega) ⟨(j + 1), C13, rfl, (hA.sel [0, 1, 5, 6] rfl), hS, by omega, by omega, h3⟩))
         · first
           | (exfalso; omega)
           | (replace hA := hA.rw 19 (v' := .bool false) rfl (vb_false hc4)
              refine cd_cond_f hA rfl ?_
              refine wp_exit ?_
              refine xt_exit ?_
              refine xt_exit ?_
              refine cd_exit_eq ?_
              refine xt_norm ?_
              refine wp_seq ?_
              refine wp_region_lit ?_
              refine st_run tbOk 2 hA (e' := (37, .int .i64 (((kept p l j).length : Nat) : Int)) :: (36, .slice A l.length c) :: _) rfl ?_; clear hA; intro a hA
              refine st_val hA rfl rfl (by decide) (rn_slice_l tbOk hA ((kept p l j).length) rfl rfl rfl rfl rfl rfl (by rfl) (by omega)) ?_; clear hA; intro a hA
              refine st_clear tbOk hA (h := (kept p l j).length) (old := l.length) (c := c) rfl rfl rfl rfl rfl rfl (fun u hu => List.all_eq_true.1 (by rfl) u hu) (hO.head (kept p l j).length (by omega)) hS (by omega) (by omega) rfl rfl ?_; clear hS; intro w14 C15 hO15 hS
              obtain rfl : j = l.length := by omega
              rw [rows_take encWait_ok, mid_head, kept_all] at hO15
              have e1 : (kept p l l.length).length = (l.filter (fun x => !p x)).length := by rw [kept_all]
              refine wpList_nil ?_
              replace hA := hA.sel [0, 5] (e' := [(0, .slice A l.length c), (5, .int .i64 (((kept p l l.length).length : Nat) : Int))]) rfl
              refine xt_norm ?_
              refine wp_seq ?_
              refine wp_region_lit ?_
              refine st_run tbOk 2 hA (e' := (40, .int .i64 (((kept p l l.length).length : Nat) : Int)) :: (39, .slice A l.length c) :: _) rfl ?_; clear hA; intro a hA
              refine st_val hA rfl rfl (by decide) (rn_slice_h tbOk hA ((kept p l l.length).length) rfl rfl rfl rfl rfl rfl (by rfl) (by omega)) ?_; clear hA; intro a hA
              refine st_run tbOk 1 hA (e' := (4, .slice A ((kept p l l.length).length) c) :: _) rfl ?_; clear hA; intro a hA
              refine wpList_nil ?_
              replace hA := hA.sel [4] (e' := [(4, .slice A ((kept p l l.length).length) c)]) rfl
              refine xt_norm ?_
              refine wp_ret ?_
              refine ret1 (fn := Tryd.f18) hA rfl rfl ?_
              exact ⟨_, (e1 ▸ hO15), hS⟩))

theorem delete14 {w0 w : World} {F : List Chunk} {C : Chunk} (hS : St w0 w (C :: F)) {v : Value} {l : List (Int × Int)} (hO : Own 57 2 v l.length (rows encWait l) C) (i j : Nat) (hij : i ≤ j) (hj : j ≤ l.length) :
    Ret Tryd.prog 14 #[v, .int .i64 ((i : Nat) : Int), .int .i64 ((j : Nat) : Int)] w (fun v w' => ∃ C', Own 57 2 v (l.take i ++ l.drop j).length (rows encWait (l.take i ++ l.drop j)) C' ∧ St w0 w' (C' :: F)) := by
  obtain ⟨A, c, rfl, hmc, hcx⟩ := hO.open'
  refine enter (vs := [.slice A l.length c, .int .i64 ((i : Nat) : Int), .int .i64 ((j : Nat) : Int)]) 33 Tryd.func14 rfl rfl (by simp) ?_; intro a hA
  refine wp_seq ?_
  refine wp_region_lit ?_
  refine st_run tbOk 1 hA (e' := (6, .slice none 0 0) :: _) rfl ?_; clear hA; intro a hA
  refine wpList_nil ?_
  replace hA := hA.sel [0, 1, 2] (e' := [(0, .slice A l.length c), (1, .int .i64 ((i : Nat) : Int)), (2, .int .i64 ((j : Nat) : Int))]) rfl
  refine xt_norm ?_
  refine wp_seq ?_
  refine wp_region_lit ?_
  refine st_run tbOk 5 hA (e' := (12, .int .i64 ((l.length : Nat) : Int)) :: (11, .slice A l.length c) :: (10, .int .i64 ((j : Nat) : Int)) :: (9, .int .i64 ((i : Nat) : Int)) :: (8, .slice A l.length c) :: _) rfl ?_; clear hA; intro a hA
  refine st_val hA rfl rfl (by decide) (rn_slice_lhm tbOk hA i j l.length rfl rfl rfl rfl rfl rfl rfl rfl (by rfl) (by rfl) (by rfl) (by omega) (by omega) (by omega)) ?_; clear hA; intro a hA
  refine wpList_nil ?_
  replace hA := hA.sel [0, 1, 2] (e' := [(0, .slice A l.length c), (1, .int .i64 ((i : Nat) : Int)), (2, .int .i64 ((j : Nat) : Int))]) rfl
  refine xt_norm ?_
  refine wp_seq ?_
  refine wp_seq ?_
  refine wp_region_lit ?_
  refine st_run tbOk 3 hA (e' := (16, .bool (((i : Nat) : Int) == ((j : Nat) : Int))) :: (15, .int .i64 ((j : Nat) : Int)) :: (14, .int .i64 ((i : Nat) : Int)) :: _) rfl ?_; clear hA; intro a hA
  refine wpList_nil ?_
  replace hA := hA.sel [0, 1, 2, 16] (e' := [(0, .slice A l.length c), (1, .int .i64 ((i : Nat) : Int)), (2, .int .i64 ((j : Nat) : Int)), (16, .bool (((i : Nat) : Int) == ((j : Nat) : Int)))]) rfl
  refine xt_norm ?_
  by_cases hc1 : ((i : Nat) : Int) = ((j : Nat) : Int)
  · first
    | (exfalso; omega)
    | (replace hA := hA.rw 16 (v' := .bool true) rfl (vb_eq_t hc1)
       refine cd_cond_t hA rfl ?_
       refine wp_seq ?_
       refine wp_region_lit ?_
       refine st_run tbOk 2 hA (e' := (6, .slice A l.length c) :: (17, .slice A l.length c) :: _) rfl ?_; clear hA; intro a hA
       refine wpList_nil ?_
       replace hA := hA.sel [6] (e' := [(6, .slice A l.length c)]) rfl
       refine xt_norm ?_
       refine wp_ret (xt_ret ?_)
       refine ret1 (fn := Tryd.f14) hA rfl rfl ?_
       have e0 : l.take i ++ l.drop j = l := by rw [show j = i by omega, List.take_append_drop]
       exact ⟨C, by rw [e0]; exact hO, hS⟩)
  · first
    | (exfalso; omega)
    | (replace hA := hA.rw 16 (v' := .bool false) rfl (vb_eq_f hc1)
       refine cd_cond_f hA rfl ?_
       refine wp_skip ?_
       refine xt_norm ?_
       refine wp_seq ?_
       refine wp_region_lit ?_
       refine st_run tbOk 3 hA (e' := (7, .int .i64 ((l.length : Nat) : Int)) :: (19, .int .i64 ((l.length : Nat) : Int)) :: (18, .slice A l.length c) :: _) rfl ?_; clear hA; intro a hA
       refine wpList_nil ?_
       replace hA := hA.sel [0, 1, 2, 7] (e' := [(0, .slice A l.length c), (1, .int .i64 ((i : Nat) : Int)), (2, .int .i64 ((j : Nat) : Int)), (7, .int .i64 ((l.length : Nat) : Int))]) rfl
       refine xt_norm ?_
       refine wp_seq ?_
       refine wp_draw (fun w' => St w0 w' (F)) [] [(0, true), (1, true), (2, true), (3, true), (4, true), (5, true), (6, false), (7, true)] mixed (by kernel_rfl) (by rintro c a w ⟨_, _, h, _⟩; cases h) (by rfl) (by kernel_rfl) ?_
       replace hS := hS.drew
       refine dr_run tbOk 2 hA (hS.tail 1 rfl) (e' := (21, .int .i64 ((i : Nat) : Int)) :: (20, .slice A l.length c) :: _) rfl ?_; clear hA; intro a hA
       refine dr_y hA rfl rfl rfl (by decide) (hS.tail 1 rfl) (fun w' hS' => rn_slice_h tbOk hA i rfl rfl rfl rfl rfl rfl (by rfl) (by omega)) ?_; clear hA; intro a hA
       refine dr_run tbOk 2 hA (hS.tail 1 rfl) (e' := (24, .int .i64 ((j : Nat) : Int)) :: (23, .slice A l.length c) :: _) rfl ?_; clear hA; intro a hA
       refine dr_y hA rfl rfl rfl (by decide) (hS.tail 1 rfl) (fun w' hS' => rn_slice_l tbOk hA j rfl rfl rfl rfl rfl rfl (by rfl) (by omega)) ?_; clear hA; intro a hA
       refine dr_b (o := _) rfl ?_
       refine st_append_rm tbOk hA (m := i) (q := ((l.take l.length).drop j).length) (c := c) (xs := (rows encWait l).take (i * 2)) (news := rows encWait ((l.take l.length).drop j)) rfl rfl rfl rfl rfl rfl rfl (hO.head i (by omega)) hS ((hO.rd (hS.own_ 0 rfl)).rslv encWait_ok j l.length c (by omega) (by omega) (by omega) (by omega)) (rows_one encWait_ok _) (by simp; omega) rfl rfl (by decide) ?_
       clear hA hS; intro w2 C3 a hO3 hS hA
       have e1 : i + ((l.take l.length).drop j).length = (l.take i ++ l.drop j).length := by simp; omega
       have e2 : (rows encWait l).take (i * 2) ++ rows encWait ((l.take l.length).drop j) = rows encWait (l.take i ++ l.drop j) := by rw [rows_take encWait_ok, rows_append, List.take_length]
       rw [e2, e1] at hO3
       rw [e1] at hA
       have e3 : (l.take i ++ l.drop j).length ≤ l.length := by simp; omega
       refine dr_nil (.inr (hS.tail 1 rfl)) ?_
       refine dr_run tbOk 1 hA (hS.tail 1 rfl) (e' := (0, .slice A ((l.take i ++ l.drop j).length) c) :: _) rfl ?_; clear hA; intro a hA
       refine dr_end ?_
       replace hA := hA.sel [0, 7] (e' := [(0, .slice A ((l.take i ++ l.drop j).length) c), (7, .int .i64 ((l.length : Nat) : Int))]) rfl
       refine xt_norm ?_
       refine wp_seq ?_
       refine wp_region_lit ?_
       refine st_run tbOk 4 hA (e' := (30, .int .i64 ((l.length : Nat) : Int)) :: (29, .int .i64 (((l.take i ++ l.drop j).length : Nat) : Int)) :: (28, .slice A ((l.take i ++ l.drop j).length) c) :: (27, .slice A ((l.take i ++ l.drop j).length) c) :: _) rfl ?_; clear hA; intro a hA
       refine st_val hA rfl rfl (by decide) (rn_slice_lh tbOk hA ((l.take i ++ l.drop j).length) l.length rfl rfl rfl rfl rfl rfl rfl (by rfl) (by rfl) (by omega) (by omega)) ?_; clear hA; intro a hA
       refine st_clear tbOk hA (h := (l.take i ++ l.drop j).length) (old := l.length) (c := c) rfl rfl rfl rfl rfl rfl (fun u hu => List.all_eq_true.1 (by rfl) u hu) hO3 hS (by omega) (by omega) rfl rfl ?_; clear hS; intro w4 C5 hO5 hS
       refine wpList_nil ?_
       replace hA := hA.sel [0] (e' := [(0, .slice A ((l.take i ++ l.drop j).length) c)]) rfl
       refine xt_norm ?_
       refine wp_seq ?_
       refine wp_region_lit ?_
       refine st_run tbOk 2 hA (e' := (6, .slice A ((l.take i ++ l.drop j).length) c) :: (32, .slice A ((l.take i ++ l.drop j).length) c) :: _) rfl ?_; clear hA; intro a hA
       refine wpList_nil ?_
       replace hA := hA.sel [6] (e' := [(6, .slice A ((l.take i ++ l.drop j).length) c)]) rfl
       refine xt_norm ?_
       refine wp_ret ?_
       refine ret1 (fn := Tryd.f14) hA rfl rfl ?_
       exact ⟨_, hO5, hS⟩)

theorem delete17 {w0 w : World} {F : List Chunk} {C : Chunk} (hS : St w0 w (C :: F)) {v : Value} {l : List (Int × Int × Int × Int × Int × Int × Int × Int × Int × Int × Option Addr × Nat × List UInt8)} (hO : Own 37 11 v l.length (rows encMessage l) C) (i j : Nat) (hij : i ≤ j) (hj : j ≤ l.length) :
    Ret Tryd.prog 17 #[v, .int .i64 ((i : Nat) : Int), .int .i64 ((j : Nat) : Int)] w (fun v w' => ∃ C', Own 37 11 v (l.take i ++ l.drop j).length (rows encMessage (l.take i ++ l.drop j)) C' ∧ St w0 w' (C' :: F)) := by
  obtain ⟨A, c, rfl, hmc, hcx⟩ := hO.open'
  refine enter (vs := [.slice A l.length c, .int .i64 ((i : Nat) : Int), .int .i64 ((j : Nat) : Int)]) 33 Tryd.func17 rfl rfl (by simp) ?_; intro a hA
  refine wp_seq ?_
  refine wp_region_lit ?_
  refine st_run tbOk 1 hA (e' := (6, .slice none 0 0) :: _) rfl ?_; clear hA; intro a hA
  refine wpList_nil ?_
  replace hA := hA.sel [0, 1, 2] (e' := [(0, .slice A l.length c), (1, .int .i64 ((i : Nat) : Int)), (2, .int .i64 ((j : Nat) : Int))]) rfl
  refine xt_norm ?_
  refine wp_seq ?_
  refine wp_region_lit ?_
  refine st_run tbOk 5 hA (e' := (12, .int .i64 ((l.length : Nat) : Int)) :: (11, .slice A l.length c) :: (10, .int .i64 ((j : Nat) : Int)) :: (9, .int .i64 ((i : Nat) : Int)) :: (8, .slice A l.length c) :: _) rfl ?_; clear hA; intro a hA
  refine st_val hA rfl rfl (by decide) (rn_slice_lhm tbOk hA i j l.length rfl rfl rfl rfl rfl rfl rfl rfl (by rfl) (by rfl) (by rfl) (by omega) (by omega) (by omega)) ?_; clear hA; intro a hA
  refine wpList_nil ?_
  replace hA := hA.sel [0, 1, 2] (e' := [(0, .slice A l.length c), (1, .int .i64 ((i : Nat) : Int)), (2, .int .i64 ((j : Nat) : Int))]) rfl
  refine xt_norm ?_
  refine wp_seq ?_
  refine wp_seq ?_
  refine wp_region_lit ?_
  refine st_run tbOk 3 hA (e' := (16, .bool (((i : Nat) : Int) == ((j : Nat) : Int))) :: (15, .int .i64 ((j : Nat) : Int)) :: (14, .int .i64 ((i : Nat) : Int)) :: _) rfl ?_; clear hA; intro a hA
  refine wpList_nil ?_
  replace hA := hA.sel [0, 1, 2, 16] (e' := [(0, .slice A l.length c), (1, .int .i64 ((i : Nat) : Int)), (2, .int .i64 ((j : Nat) : Int)), (16, .bool (((i : Nat) : Int) == ((j : Nat) : Int)))]) rfl
  refine xt_norm ?_
  by_cases hc1 : ((i : Nat) : Int) = ((j : Nat) : Int)
  · first
    | (exfalso; omega)
    | (replace hA := hA.rw 16 (v' := .bool true) rfl (vb_eq_t hc1)
       refine cd_cond_t hA rfl ?_
       refine wp_seq ?_
       refine wp_region_lit ?_
       refine st_run tbOk 2 hA (e' := (6, .slice A l.length c) :: (17, .slice A l.length c) :: _) rfl ?_; clear hA; intro a hA
       refine wpList_nil ?_
       replace hA := hA.sel [6] (e' := [(6, .slice A l.length c)]) rfl
       refine xt_norm ?_
       refine wp_ret (xt_ret ?_)
       refine ret1 (fn := Tryd.f17) hA rfl rfl ?_
       have e0 : l.take i ++ l.drop j = l := by rw [show j = i by omega, List.take_append_drop]
       exact ⟨C, by rw [e0]; exact hO, hS⟩)
  · first
    | (exfalso; omega)
    | (replace hA := hA.rw 16 (v' := .bool false) rfl (vb_eq_f hc1)
       refine cd_cond_f hA rfl ?_
       refine wp_skip ?_
       refine xt_norm ?_
       refine wp_seq ?_
       refine wp_region_lit ?_
       refine st_run tbOk 3 hA (e' := (7, .int .i64 ((l.length : Nat) : Int)) :: (19, .int .i64 ((l.length : Nat) : Int)) :: (18, .slice A l.length c) :: _) rfl ?_; clear hA; intro a hA
       refine wpList_nil ?_
       replace hA := hA.sel [0, 1, 2, 7] (e' := [(0, .slice A l.length c), (1, .int .i64 ((i : Nat) : Int)), (2, .int .i64 ((j : Nat) : Int)), (7, .int .i64 ((l.length : Nat) : Int))]) rfl
       refine xt_norm ?_
       refine wp_seq ?_
       refine wp_draw (fun w' => St w0 w' (F)) [] [(0, true), (1, true), (2, true), (3, true), (4, true), (5, true), (6, false), (7, true)] mixed (by kernel_rfl) (by rintro c a w ⟨_, _, h, _⟩; cases h) (by rfl) (by kernel_rfl) ?_
       replace hS := hS.drew
       refine dr_run tbOk 2 hA (hS.tail 1 rfl) (e' := (21, .int .i64 ((i : Nat) : Int)) :: (20, .slice A l.length c) :: _) rfl ?_; clear hA; intro a hA
       refine dr_y hA rfl rfl rfl (by decide) (hS.tail 1 rfl) (fun w' hS' => rn_slice_h tbOk hA i rfl rfl rfl rfl rfl rfl (by rfl) (by omega)) ?_; clear hA; intro a hA
       refine dr_run tbOk 2 hA (hS.tail 1 rfl) (e' := (24, .int .i64 ((j : Nat) : Int)) :: (23, .slice A l.length c) :: _) rfl ?_; clear hA; intro a hA
       refine dr_y hA rfl rfl rfl (by decide) (hS.tail 1 rfl) (fun w' hS' => rn_slice_l tbOk hA j rfl rfl rfl rfl rfl rfl (by rfl) (by omega)) ?_; clear hA; intro a hA
       refine dr_b (o := _) rfl ?_
       refine st_append_rm tbOk hA (m := i) (q := ((l.take l.length).drop j).length) (c := c) (xs := (rows encMessage l).take (i * 11)) (news := rows encMessage ((l.take l.length).drop j)) rfl rfl rfl rfl rfl rfl rfl (hO.head i (by omega)) hS ((hO.rd (hS.own_ 0 rfl)).rslv encMessage_ok j l.length c (by omega) (by omega) (by omega) (by omega)) (rows_one encMessage_ok _) (by simp; omega) rfl rfl (by decide) ?_
       clear hA hS; intro w2 C3 a hO3 hS hA
       have e1 : i + ((l.take l.length).drop j).length = (l.take i ++ l.drop j).length := by simp; omega
       have e2 : (rows encMessage l).take (i * 11) ++ rows encMessage ((l.take l.length).drop j) = rows encMessage (l.take i ++ l.drop j) := by rw [rows_take encMessage_ok, rows_append, List.take_length]
       rw [e2, e1] at hO3
       rw [e1] at hA
       have e3 : (l.take i ++ l.drop j).length ≤ l.length := by simp; omega
       refine dr_nil (.inr (hS.tail 1 rfl)) ?_
       refine dr_run tbOk 1 hA (hS.tail 1 rfl) (e' := (0, .slice A ((l.take i ++ l.drop j).length) c) :: _) rfl ?_; clear hA; intro a hA
       refine dr_end ?_
       replace hA := hA.sel [0, 7] (e' := [(0, .slice A ((l.take i ++ l.drop j).length) c), (7, .int .i64 ((l.length : Nat) : Int))]) rfl
       refine xt_norm ?_
       refine wp_seq ?_
       refine wp_region_lit ?_
       refine st_run tbOk 4 hA (e' := (30, .int .i64 ((l.length : Nat) : Int)) :: (29, .int .i64 (((l.take i ++ l.drop j).length : Nat) : Int)) :: (28, .slice A ((l.take i ++ l.drop j).length) c) :: (27, .slice A ((l.take i ++ l.drop j).length) c) :: _) rfl ?_; clear hA; intro a hA
       refine st_val hA rfl rfl (by decide) (rn_slice_lh tbOk hA ((l.take i ++ l.drop j).length) l.length rfl rfl rfl rfl rfl rfl rfl (by rfl) (by rfl) (by omega) (by omega)) ?_; clear hA; intro a hA
       refine st_clear tbOk hA (h := (l.take i ++ l.drop j).length) (old := l.length) (c := c) rfl rfl rfl rfl rfl rfl (fun u hu => List.all_eq_true.1 (by rfl) u hu) hO3 hS (by omega) (by omega) rfl rfl ?_; clear hS; intro w4 C5 hO5 hS
       refine wpList_nil ?_
       replace hA := hA.sel [0] (e' := [(0, .slice A ((l.take i ++ l.drop j).length) c)]) rfl
       refine xt_norm ?_
       refine wp_seq ?_
       refine wp_region_lit ?_
       refine st_run tbOk 2 hA (e' := (6, .slice A ((l.take i ++ l.drop j).length) c) :: (32, .slice A ((l.take i ++ l.drop j).length) c) :: _) rfl ?_; clear hA; intro a hA
       refine wpList_nil ?_
       replace hA := hA.sel [6] (e' := [(6, .slice A ((l.take i ++ l.drop j).length) c)]) rfl
       refine xt_norm ?_
       refine wp_ret ?_
       refine ret1 (fn := Tryd.f17) hA rfl rfl ?_
       exact ⟨_, hO5, hS⟩)

theorem clonex15 {w0 w : World} {F : List Chunk} (hS : St w0 w F) {v : Value} {l : List UInt8} (hr : RdSX w0 F 1 v l.length (rows encB l)) (hb : l.length ≤ 140737488351232) :
    Ret Tryd.prog 15 #[v] w (fun v w' => ∃ A c C, Own 5 1 (.slice A l.length c) l.length (rows encB l) C ∧ v = .slice A l.length c ∧ St w0 w' (C :: F)) := by
  obtain ⟨hl0, ⟨rfl, h0⟩ | ⟨ad, c, rfl, hmc, hcx, hcells⟩⟩ := hr w hS
  all_goals clear hl0
  · obtain rfl := List.eq_nil_of_length_eq_zero h0
    refine enter (vs := [.slice none 0 0]) 8 Tryd.func15 rfl rfl (by simp) ?_; intro a hA
    refine wp_seq ?_
    refine wp_region_lit ?_
    refine st_run tbOk 1 hA (e' := (2, .slice none 0 0) :: _) rfl ?_; clear hA; intro a hA
    refine wpList_nil ?_
    replace hA := hA.sel [0] (e' := [(0, .slice none 0 0)]) rfl
    refine xt_norm ?_
    refine wp_seq ?_
    refine wp_seq ?_
    refine wp_region_lit ?_
    refine st_run tbOk 2 hA (e' := (4, .bool true) :: (3, .slice none 0 0) :: _) rfl ?_; clear hA; intro a hA
    refine wpList_nil ?_
    replace hA := hA.sel [0, 4] (e' := [(0, .slice none 0 0), (4, .bool true)]) rfl
    refine xt_norm ?_
    refine cd_cond_t hA rfl ?_
    refine wp_seq ?_
    refine wp_region_lit ?_
    refine st_run tbOk 1 hA (e' := (2, .slice none 0 0) :: _) rfl ?_; clear hA; intro a hA
    refine wpList_nil ?_
    replace hA := hA.sel [2] (e' := [(2, .slice none 0 0)]) rfl
    refine xt_norm ?_
    refine wp_ret (xt_ret ?_)
    refine ret1 (fn := Tryd.f15) hA rfl rfl ?_
    exact ⟨none, 0, [], Own.nil _ _, rfl, hS.nil⟩
  · clear hcells
    refine enter (vs := [.slice (some ad) l.length c]) 8 Tryd.func15 rfl rfl (by simp) ?_; intro a hA
    refine wp_seq ?_
    refine wp_region_lit ?_
    refine st_run tbOk 1 hA (e' := (2, .slice none 0 0) :: _) rfl ?_; clear hA; intro a hA
    refine wpList_nil ?_
    replace hA := hA.sel [0] (e' := [(0, .slice (some ad) l.length c)]) rfl
    refine xt_norm ?_
    refine wp_seq ?_
    refine wp_seq ?_
    refine wp_region_lit ?_
    refine st_run tbOk 2 hA (e' := (4, .bool false) :: (3, .slice (some ad) l.length c) :: _) rfl ?_; clear hA; intro a hA
    refine wpList_nil ?_
    replace hA := hA.sel [0, 4] (e' := [(0, .slice (some ad) l.length c), (4, .bool false)]) rfl
    refine xt_norm ?_
    refine cd_cond_f hA rfl ?_
    refine wp_skip ?_
    refine xt_norm ?_
    refine wp_seq ?_
    refine wp_region_lit ?_
    refine st_buildSlice tbOk hA hS [] rfl rfl rfl rfl rfl (by decide) (by kernel_rfl) rfl rfl (by decide) ?_; clear hA hS; intro b1 w2 a hS hA
    refine st_run tbOk 1 hA (e' := (6, .slice (some ad) l.length c) :: _) rfl ?_; clear hA; intro a hA
    refine st_append tbOk hA (m := 0) (q := l.length) (xs := rows encB ([] : List UInt8)) (news := rows encB l) rfl rfl rfl rfl rfl rfl rfl rfl (by decide) (Own.full (T := 5) (size := 1) (g := b1) (m := 0) rfl (by decide)) hS ((hr _ (hS.tail 1 rfl))) (rows_one encB_ok _) (maxLen_le (by omega)) (by show (0 + l.length) * 1 ≤ 140737488355328; omega) rfl rfl (by decide) ?_
    clear hA hS; intro v3 w4 C5 a hO5 hS hA
    replace hO5 := Own.app (l := ([] : List UInt8)) (l2 := l) hO5
    replace hO5 : Own 5 1 v3 l.length (rows encB l) C5 := hO5
    obtain ⟨A6, c7, rfl, hmc7, hxc7⟩ := hO5.open'
    refine st_run tbOk 1 hA (e' := (2, .slice A6 l.length c7) :: _) rfl ?_; clear hA; intro a hA
    refine wpList_nil ?_
    replace hA := hA.sel [2] (e' := [(2, .slice A6 l.length c7)]) rfl
    refine xt_norm ?_
    refine wp_ret ?_
    refine ret1 (fn := Tryd.f15) hA rfl rfl ?_
    exact ⟨_, _, _, hO5, rfl, hS⟩

theorem waitc13 {w0 w : World} {F : List Chunk} (hS : St w0 w F) {bx : Nat} {id : Int} (hc : ∀ w', St w0 w' F → w'.cell? ⟨bx, 0, none⟩ = some (.int .i64 id)) (x : Int × Int) :
    Ret Tryd.prog 13 #[.agg #[.int .u64 x.1, .int .i64 x.2], .pointer (some ⟨bx, 0, none⟩)] w (fun v w' => v = .bool (wth id x) ∧ St w0 w' F) := by
  refine enter (vs := [.agg #[.int .u64 x.1, .int .i64 x.2], .pointer (some ⟨bx, 0, none⟩)]) 8 Tryd.func13 rfl rfl (by simp) ?_; intro a hA
  refine wp_seq ?_
  refine wp_region_lit ?_
  refine st_box hA hS [.int .u64 x.1, .int .i64 x.2] rfl rfl rfl rfl rfl (by decide) ?_; clear hA hS; intro b1 w2 a hS hA
  refine st_run tbOk 1 hA (e' := (3, .bool false) :: _) rfl ?_; clear hA; intro a hA
  refine wpList_nil ?_
  replace hA := hA.sel [1, 2] (e' := [(1, .pointer (some ⟨bx, 0, none⟩)), (2, .pointer (some ⟨b1, 0, none⟩))]) rfl
  refine xt_norm ?_
  refine wp_seq ?_
  refine wp_region_lit ?_
  refine st_run tbOk 1 hA (e' := (4, .pointer (some ⟨b1, 1, none⟩)) :: _) rfl ?_; clear hA; intro a hA
  refine st_val hA rfl rfl (by decide) (rn_load tbOk hA rfl rfl rfl rfl (cell_row (hS.heapAt 0 rfl) rfl)) ?_; clear hA; intro a hA
  refine st_val hA rfl rfl (by decide) (rn_load tbOk hA rfl rfl rfl rfl (hc _ (hS.tail 1 rfl))) ?_; clear hA; intro a hA
  refine st_run tbOk 2 hA (e' := (3, .bool (x.2 == id)) :: (7, .bool (x.2 == id)) :: _) rfl ?_; clear hA; intro a hA
  refine wpList_nil ?_
  replace hA := hA.sel [3] (e' := [(3, .bool (x.2 == id))]) rfl
  refine xt_norm ?_
  refine wp_ret ?_
  refine ret1 (fn := Tryd.f13) hA rfl rfl ?_
  replace hS := hS.drop1
  exact ⟨rfl, hS⟩

theorem waitcP {w0 : World} {F : List Chunk} {bx : Nat} {id : Int} (hc : ∀ w', St w0 w' F → w'.cell? ⟨bx, 0, none⟩ = some (.int .i64 id)) : Pred Tryd.prog w0 F 13 #[] #[.pointer (some ⟨bx, 0, none⟩)] (fun x => .agg (encWait x).toArray) (fun x => wth id x) := by
  intro w x hS
  exact waitc13 (St.refl w) (fun w' h => h.old (hc w hS)) x

theorem cancc19 {w0 w : World} {F : List Chunk} (hS : St w0 w F) {bx : Nat} {id : Int} (hc : ∀ w', St w0 w' F → w'.cell? ⟨bx, 0, none⟩ = some (.int .i64 id)) (x : Int × Int) :
    Ret Tryd.prog 19 #[.agg #[.int .u64 x.1, .int .i64 x.2], .pointer (some ⟨bx, 0, none⟩)] w (fun v w' => v = .bool (wth id x) ∧ St w0 w' F) := by
  refine enter (vs := [.agg #[.int .u64 x.1, .int .i64 x.2], .pointer (some ⟨bx, 0, none⟩)]) 8 Tryd.func19 rfl rfl (by simp) ?_; intro a hA
  refine wp_seq ?_
  refine wp_region_lit ?_
  refine st_box hA hS [.int .u64 x.1, .int .i64 x.2] rfl rfl rfl rfl rfl (by decide) ?_; clear hA hS; intro b1 w2 a hS hA
  refine st_run tbOk 1 hA (e' := (3, .bool false) :: _) rfl ?_; clear hA; intro a hA
  refine wpList_nil ?_
  replace hA := hA.sel [1, 2] (e' := [(1, .pointer (some ⟨bx, 0, none⟩)), (2, .pointer (some ⟨b1, 0, none⟩))]) rfl
  refine xt_norm ?_
  refine wp_seq ?_
  refine wp_region_lit ?_
  refine st_run tbOk 1 hA (e' := (4, .pointer (some ⟨b1, 1, none⟩)) :: _) rfl ?_; clear hA; intro a hA
  refine st_val hA rfl rfl (by decide) (rn_load tbOk hA rfl rfl rfl rfl (cell_row (hS.heapAt 0 rfl) rfl)) ?_; clear hA; intro a hA
  refine st_val hA rfl rfl (by decide) (rn_load tbOk hA rfl rfl rfl rfl (hc _ (hS.tail 1 rfl))) ?_; clear hA; intro a hA
  refine st_run tbOk 2 hA (e' := (3, .bool (x.2 == id)) :: (7, .bool (x.2 == id)) :: _) rfl ?_; clear hA; intro a hA
  refine wpList_nil ?_
  replace hA := hA.sel [3] (e' := [(3, .bool (x.2 == id))]) rfl
  refine xt_norm ?_
  refine wp_ret ?_
  refine ret1 (fn := Tryd.f19) hA rfl rfl ?_
  replace hS := hS.drop1
  exact ⟨rfl, hS⟩

theorem canccP {w0 : World} {F : List Chunk} {bx : Nat} {id : Int} (hc : ∀ w', St w0 w' F → w'.cell? ⟨bx, 0, none⟩ = some (.int .i64 id)) : Pred Tryd.prog w0 F 19 #[] #[.pointer (some ⟨bx, 0, none⟩)] (fun x => .agg (encWait x).toArray) (fun x => wth id x) := by
  intro w x hS
  exact cancc19 (St.refl w) (fun w' h => h.old (hc w hS)) x

theorem mwaits5 {w0 w : World} {F : List Chunk} {L : Chunk} {b : Nat} {ws : List (Int × Int)} {ms : List Msg} (hS : St w0 w (L :: F)) (hM : MR b ws ms L) (id : Int) :
    Ret Tryd.prog 5 #[.pointer (some ⟨b, 0, none⟩), .int .i64 id] w (fun v w' => ∃ L', MR b ws ms L' ∧ v = .bool (ws.any (fun x => wth id x)) ∧ St w0 w' (L' :: F)) := by
  obtain ⟨v, C, v2, C2, hO, hQ, rfl⟩ := hM
  obtain ⟨A, c, rfl, hmc, hcx⟩ := hO.open'
  obtain ⟨A2, c2, rfl, hmc2, hcx2⟩ := hQ.open'
  replace hS : St w0 w ([(b, rowO [.slice A ws.length c, .slice A2 ms.length c2] 28)] :: C :: C2 :: F) := hS.split3
  refine enter (vs := [.pointer (some ⟨b, 0, none⟩), .int .i64 id]) 11 Tryd.func5 rfl rfl (by simp) ?_; intro a hA
  refine wp_seq ?_
  refine wp_region_lit ?_
  refine st_box hA hS [.int .i64 id] rfl rfl rfl rfl rfl (by decide) ?_; clear hA hS; intro b1 w2 a hS hA
  refine st_run tbOk 1 hA (e' := (4, .bool false) :: _) rfl ?_; clear hA; intro a hA
  refine wpList_nil ?_
  replace hA := hA.sel [0, 3] (e' := [(0, .pointer (some ⟨b, 0, none⟩)), (3, .pointer (some ⟨b1, 0, none⟩))]) rfl
  refine xt_norm ?_
  refine wp_seq ?_
  refine wp_region_lit ?_
  refine st_run tbOk 3 hA (e' := (7, .pointer (some ⟨b, 0, none⟩)) :: (6, .pointer (some ⟨b, 0, none⟩)) :: (5, .pointer (some ⟨b, 0, none⟩)) :: _) rfl ?_; clear hA; intro a hA
  refine st_val hA rfl rfl (by decide) (rn_load tbOk hA rfl rfl rfl rfl (cell_row (hS.heapAt 1 rfl) rfl)) ?_; clear hA; intro a hA
  refine st_run tbOk 1 hA (e' := (9, .func (.func 13) #[] #[.pointer (some ⟨b1, 0, none⟩)]) :: _) rfl ?_; clear hA; intro a hA
  refine st_call0 hA rfl rfl rfl isfn12 rfl rfl (by decide) (containsFunc12 hS (l := ws) (RdS.own hO 2 rfl) isfn13 (waitcP (bx := b1) (fun w' h => cell_row (h.heapAt 0 rfl) rfl))) ?_
  clear hA hS; rintro v w3 a ⟨rfl, hS⟩ hA
  refine st_run tbOk 1 hA (e' := (4, .bool (ws.any (fun x => wth id x))) :: _) rfl ?_; clear hA; intro a hA
  refine wpList_nil ?_
  replace hA := hA.sel [4] (e' := [(4, .bool (ws.any (fun x => wth id x)))]) rfl
  refine xt_norm ?_
  refine wp_ret ?_
  refine ret1 (fn := Tryd.f5) hA rfl rfl ?_
  replace hS := hS.drop1
  replace hS := hS.front 2 (C := C2) (L' := [(b, rowO [.slice A ws.length c, .slice A2 ms.length c2] 28)] :: C :: F) rfl rfl
  replace hS := hS.front 2 (C := C) (L' := C2 :: [(b, rowO [.slice A ws.length c, .slice A2 ms.length c2] 28)] :: F) rfl rfl
  replace hS := hS.front 2 (C := [(b, rowO [.slice A ws.length c, .slice A2 ms.length c2] 28)]) (L' := C :: C2 :: F) rfl rfl
  replace hS := hS.join3
  exact ⟨_, ⟨_, _, _, _, hO, hQ, rfl⟩, rfl, hS⟩

theorem mlen11 {w0 w : World} {F : List Chunk} {L : Chunk} {b : Nat} {ws : List (Int × Int)} {ms : List Msg} (hS : St w0 w (L :: F)) (hM : MR b ws ms L)  :
    Ret Tryd.prog 11 #[.pointer (some ⟨b, 0, none⟩)] w (fun v w' => ∃ L', MR b ws ms L' ∧ v = .tuple #[.int .i64 ((ws.length : Nat) : Int), .int .i64 ((ms.length : Nat) : Int)] ∧ St w0 w' (L' :: F)) := by
  obtain ⟨v, C, v2, C2, hO, hQ, rfl⟩ := hM
  obtain ⟨A, c, rfl, hmc, hcx⟩ := hO.open'
  obtain ⟨A2, c2, rfl, hmc2, hcx2⟩ := hQ.open'
  replace hS : St w0 w ([(b, rowO [.slice A ws.length c, .slice A2 ms.length c2] 28)] :: C :: C2 :: F) := hS.split3
  refine enter (vs := [.pointer (some ⟨b, 0, none⟩)]) 14 Tryd.func11 rfl rfl (by simp) ?_; intro a hA
  refine wp_seq ?_
  refine wp_region_lit ?_
  refine st_run tbOk 2 hA (e' := (3, .int .i64 0) :: (2, .int .i64 0) :: _) rfl ?_; clear hA; intro a hA
  refine wpList_nil ?_
  replace hA := hA.sel [0] (e' := [(0, .pointer (some ⟨b, 0, none⟩))]) rfl
  refine xt_norm ?_
  refine wp_seq ?_
  refine wp_draw (fun w' => St w0 w' ([(b, rowO [.slice A ws.length c, .slice A2 ms.length c2] 28)] :: C :: C2 :: F)) [] [(0, true), (1, true), (2, true), (3, true), (4, true), (5, true), (6, true), (7, true), (8, true), (9, true), (10, true), (11, true)] mixed (by kernel_rfl) (by rintro c a w ⟨_, _, h, _⟩; cases h) (by rfl) (by kernel_rfl) ?_
  replace hS := hS.drew
  refine dr_run tbOk 3 hA hS (e' := (6, .pointer (some ⟨b, 0, none⟩)) :: (5, .pointer (some ⟨b, 0, none⟩)) :: (4, .pointer (some ⟨b, 0, none⟩)) :: _) rfl ?_; clear hA; intro a hA
  refine dr_y hA rfl rfl rfl (by decide) hS (fun w' hS' => rn_load tbOk hA rfl rfl rfl rfl (cell_row (hS'.heapAt 0 rfl) rfl)) ?_; clear hA; intro a hA
  refine dr_run tbOk 4 hA hS (e' := (11, .pointer (some ⟨b, 1, none⟩)) :: (10, .pointer (some ⟨b, 0, none⟩)) :: (9, .pointer (some ⟨b, 0, none⟩)) :: (8, .int .i64 ((ws.length : Nat) : Int)) :: _) rfl ?_; clear hA; intro a hA
  refine dr_y hA rfl rfl rfl (by decide) hS (fun w' hS' => rn_load tbOk hA rfl rfl rfl rfl (cell_row (hS'.heapAt 0 rfl) rfl)) ?_; clear hA; intro a hA
  refine dr_run tbOk 3 hA hS (e' := (3, .int .i64 ((ms.length : Nat) : Int)) :: (2, .int .i64 ((ws.length : Nat) : Int)) :: (13, .int .i64 ((ms.length : Nat) : Int)) :: _) rfl ?_; clear hA; intro a hA
  refine dr_end ?_
  replace hA := hA.sel [2, 3] (e' := [(2, .int .i64 ((ws.length : Nat) : Int)), (3, .int .i64 ((ms.length : Nat) : Int))]) rfl
  refine xt_norm ?_
  refine wp_ret ?_
  refine ret2 (fn := Tryd.f11) hA rfl rfl rfl ?_
  replace hS := hS.front 2 (C := C2) (L' := [(b, rowO [.slice A ws.length c, .slice A2 ms.length c2] 28)] :: C :: F) rfl rfl
  replace hS := hS.front 2 (C := C) (L' := C2 :: [(b, rowO [.slice A ws.length c, .slice A2 ms.length c2] 28)] :: F) rfl rfl
  replace hS := hS.front 2 (C := [(b, rowO [.slice A ws.length c, .slice A2 ms.length c2] 28)]) (L' := C :: C2 :: F) rfl rfl
  replace hS := hS.join3
  exact ⟨_, ⟨_, _, _, _, hO, hQ, rfl⟩, rfl, hS⟩

theorem mcancel10 {w0 w : World} {F : List Chunk} {L : Chunk} {b : Nat} {ws : List (Int × Int)} {ms : List Msg} (hS : St w0 w (L :: F)) (hM : MR b ws ms L) (id : Int) :
    Ret Tryd.prog 10 #[.pointer (some ⟨b, 0, none⟩), .int .i64 id] w (fun v w' => ∃ L', MR b (ws.filter (fun x => !(wth id x))) ms L' ∧ v = .bool (ws.any (fun x => wth id x)) ∧ St w0 w' (L' :: F)) := by
  refine enter (vs := [.pointer (some ⟨b, 0, none⟩), .int .i64 id]) 19 Tryd.func10 rfl rfl (by simp) ?_; intro a hA
  refine wp_seq ?_
  refine wp_region_lit ?_
  refine st_box hA hS [.int .i64 id] rfl rfl rfl rfl rfl (by decide) ?_; clear hA hS; intro b1 w2 a hS hA
  refine st_run tbOk 1 hA (e' := (4, .bool false) :: _) rfl ?_; clear hA; intro a hA
  refine wpList_nil ?_
  replace hA := hA.sel [0, 3] (e' := [(0, .pointer (some ⟨b, 0, none⟩)), (3, .pointer (some ⟨b1, 0, none⟩))]) rfl
  refine xt_norm ?_
  refine wp_seq ?_
  refine wp_region_lit ?_
  refine st_run tbOk 1 hA (e' := (6, .pointer (some ⟨b, 0, none⟩)) :: _) rfl ?_; clear hA; intro a hA
  refine st_val hA rfl rfl (by decide) (rn_load tbOk hA rfl rfl rfl rfl (cell_row (hS.heapAt 0 rfl) rfl)) ?_; clear hA; intro a hA
  replace hS := hS.front 1 (C := L) (L' := [(b1, rowO [.int .i64 id] 3)] :: F) rfl rfl
  refine st_call0 hA rfl rfl rfl isfn5 rfl rfl (by decide) (mwaits5 hS hM id) ?_
  clear hA hS; rintro _ w4 a ⟨L3, hM5, rfl, hS⟩ hA
  refine st_run tbOk 1 hA (e' := (5, .bool (ws.any (fun x => wth id x))) :: _) rfl ?_; clear hA; intro a hA
  refine wpList_nil ?_
  replace hA := hA.sel [0, 3, 5] (e' := [(0, .pointer (some ⟨b, 0, none⟩)), (3, .pointer (some ⟨b1, 0, none⟩)), (5, .bool (ws.any (fun x => wth id x)))]) rfl
  refine xt_norm ?_
  refine wp_seq ?_
  refine wp_region_lit ?_
  obtain ⟨v, C, v2, C2, hO, hQ, rfl⟩ := hM5
  obtain ⟨A, c, rfl, hmc, hcx⟩ := hO.open'
  obtain ⟨A2, c2, rfl, hmc2, hcx2⟩ := hQ.open'
  replace hS : St w0 w4 ([(b, rowO [.slice A ws.length c, .slice A2 ms.length c2] 28)] :: C :: C2 :: [(b1, rowO [.int .i64 id] 3)] :: F) := hS.split3
  refine st_run tbOk 4 hA (e' := (12, .pointer (some ⟨b, 0, none⟩)) :: (11, .pointer (some ⟨b, 0, none⟩)) :: (10, .pointer (some ⟨b, 0, none⟩)) :: (9, .pointer (some ⟨b, 0, none⟩)) :: _) rfl ?_; clear hA; intro a hA
  refine st_val hA rfl rfl (by decide) (rn_load tbOk hA rfl rfl rfl rfl (cell_row (hS.heapAt 0 rfl) rfl)) ?_; clear hA; intro a hA
  refine st_run tbOk 1 hA (e' := (14, .func (.func 19) #[] #[.pointer (some ⟨b1, 0, none⟩)]) :: _) rfl ?_; clear hA; intro a hA
  replace hS := hS.front 1 (C := C) (L' := [(b, rowO [.slice A ws.length c, .slice A2 ms.length c2] 28)] :: C2 :: [(b1, rowO [.int .i64 id] 3)] :: F) rfl rfl
  refine st_call0 hA rfl rfl rfl isfn18 rfl rfl (by decide) (deleteFunc18 hS (l := ws) hO isfn19 (canccP (bx := b1) (fun w' h => cell_row (h.heapAt 2 rfl) rfl))) ?_
  clear hA hS; rintro v6 w7 a ⟨C8, hO8, hS⟩ hA
  obtain ⟨A9, c10, rfl, hmc10, hxc10⟩ := hO8.open'
  refine st_run tbOk 2 hA (e' := (17, .pointer (some ⟨b, 0, none⟩)) :: (16, .pointer (some ⟨b, 0, none⟩)) :: _) rfl ?_; clear hA; intro a hA
  replace hS := hS.front 1 (C := [(b, rowO [.slice A ws.length c, .slice A2 ms.length c2] 28)]) (L' := C8 :: C2 :: [(b1, rowO [.int .i64 id] 3)] :: F) rfl rfl
  refine st_store tbOk hA hS [.slice A9 ((ws.filter (fun x => !(wth id x))).length) c10] [.slice A9 ((ws.filter (fun x => !(wth id x))).length) c10, .slice A2 ms.length c2] rfl rfl rfl rfl rfl rfl (by intro u hu; rw [List.mem_singleton.1 hu]; rfl) (Nat.le_of_ble_eq_true rfl) rfl rfl rfl ?_; clear hS; intro w11 hS
  refine wpList_nil ?_
  replace hA := hA.sel [5] (e' := [(5, .bool (ws.any (fun x => wth id x)))]) rfl
  refine xt_norm ?_
  refine wp_seq ?_
  refine wp_region_lit ?_
  refine st_run tbOk 2 hA (e' := (4, .bool (ws.any (fun x => wth id x))) :: (18, .bool (ws.any (fun x => wth id x))) :: _) rfl ?_; clear hA; intro a hA
  refine wpList_nil ?_
  replace hA := hA.sel [4] (e' := [(4, .bool (ws.any (fun x => wth id x)))]) rfl
  refine xt_norm ?_
  refine wp_ret ?_
  refine ret1 (fn := Tryd.f10) hA rfl rfl ?_
  replace hS := hS.front 3 (C := [(b1, rowO [.int .i64 id] 3)]) (L' := [(b, rowO [.slice A9 ((ws.filter (fun x => !(wth id x))).length) c10, .slice A2 ms.length c2] 28)] :: C8 :: C2 :: F) rfl rfl
  replace hS := hS.drop1
  replace hS := hS.front 2 (C := C2) (L' := [(b, rowO [.slice A9 ((ws.filter (fun x => !(wth id x))).length) c10, .slice A2 ms.length c2] 28)] :: C8 :: F) rfl rfl
  replace hS := hS.front 2 (C := C8) (L' := C2 :: [(b, rowO [.slice A9 ((ws.filter (fun x => !(wth id x))).length) c10, .slice A2 ms.length c2] 28)] :: F) rfl rfl
  replace hS := hS.front 2 (C := [(b, rowO [.slice A9 ((ws.filter (fun x => !(wth id x))).length) c10, .slice A2 ms.length c2] 28)]) (L' := C8 :: C2 :: F) rfl rfl
  replace hS := hS.join3
  exact ⟨_, ⟨_, _, _, _, hO8, hQ, rfl⟩, rfl, hS⟩

theorem get_state8 {w0 w : World} {F : List Chunk} {L : Chunk} {b : Nat} {ws : List (Int × Int)} {ms : List Msg} (hS : St w0 w (L :: F)) (hM : MR b ws ms L) (port id : Int) (h1 : ws.any (fun x => wth id x) = true) :
    Ret Tryd.prog 8 #[.pointer (some ⟨b, 0, none⟩), .int .u64 port, .int .i64 id] w (fun v w' => ∃ L', MR b ws ms L' ∧ v = .tuple #[.agg #[.int .u64 0, .int .u64 0, .int .u32 0, .int .u16 0, .int .u16 0, .int .u64 0, .int .u32 0, .int .u8 0, .int .u64 0, .int .u64 0, .slice none 0 0], .bool false, .iface 47 (.int .i64 15)] ∧ St w0 w' (L' :: F)) := by
  refine enter (vs := [.pointer (some ⟨b, 0, none⟩), .int .u64 port, .int .i64 id]) 64 Tryd.func8 rfl rfl (by simp) ?_; intro a hA
  refine wp_seq ?_
  refine wp_region_lit ?_
  refine st_alloc tbOk hA hS [.int .u64 0, .int .u64 0, .int .u32 0, .int .u16 0, .int .u16 0, .int .u64 0, .int .u32 0, .int .u8 0, .int .u64 0, .int .u64 0, .slice none 0 0] rfl rfl rfl rfl rfl (by decide) ?_; clear hA hS; intro b1 w2 a hS hA
  refine st_run tbOk 2 hA (e' := (8, .nilIface) :: (7, .bool false) :: _) rfl ?_; clear hA; intro a hA
  refine wpList_nil ?_
  replace hA := hA.sel [0, 1, 2, 6] (e' := [(0, .pointer (some ⟨b, 0, none⟩)), (1, .int .u64 port), (2, .int .i64 id), (6, .pointer (some ⟨b1, 0, none⟩))]) rfl
  refine xt_norm ?_
  refine wp_seq ?_
  refine wp_seq ?_
  refine wp_region_lit ?_
  refine st_run tbOk 2 hA (e' := (12, .int .i64 id) :: (11, .pointer (some ⟨b, 0, none⟩)) :: _) rfl ?_; clear hA; intro a hA
  replace hS := hS.front 1 (C := L) (L' := [(b1, rowO [.int .u64 0, .int .u64 0, .int .u32 0, .int .u16 0, .int .u16 0, .int .u64 0, .int .u32 0, .int .u8 0, .int .u64 0, .int .u64 0, .slice none 0 0] 37)] :: F) rfl rfl
  refine st_call0 hA rfl rfl rfl isfn5 rfl rfl (by decide) (mwaits5 hS hM id) ?_
  clear hA hS; rintro _ w4 a ⟨L3, hM5, rfl, hS⟩ hA
  refine wpList_nil ?_
  replace hA := hA.sel [0, 1, 2, 6, 13] (e' := [(0, .pointer (some ⟨b, 0, none⟩)), (1, .int .u64 port), (2, .int .i64 id), (6, .pointer (some ⟨b1, 0, none⟩)), (13, .bool (ws.any (fun x => wth id x)))]) rfl
  refine xt_norm ?_
  have hc6 : (ws.any (fun x => wth id x)) = true := h1
  replace hA := hA.rw 13 (v' := .bool true) rfl (vb_t hc6)
  refine cd_cond_t hA rfl ?_
  refine wp_seq ?_
  refine wp_region_lit ?_
  refine st_run tbOk 2 hA (e' := (15, .iface 47 (.int .i64 15)) :: (14, .agg #[.int .u64 0, .int .u64 0, .int .u32 0, .int .u16 0, .int .u16 0, .int .u64 0, .int .u32 0, .int .u8 0, .int .u64 0, .int .u64 0, .slice none 0 0]) :: _) rfl ?_; clear hA; intro a hA
  replace hS := hS.front 1 (C := [(b1, rowO [.int .u64 0, .int .u64 0, .int .u32 0, .int .u16 0, .int .u16 0, .int .u64 0, .int .u32 0, .int .u8 0, .int .u64 0, .int .u64 0, .slice none 0 0] 37)]) (L' := L3 :: F) rfl rfl
  refine st_store tbOk hA hS [.int .u64 0, .int .u64 0, .int .u32 0, .int .u16 0, .int .u16 0, .int .u64 0, .int .u32 0, .int .u8 0, .int .u64 0, .int .u64 0, .slice none 0 0] [.int .u64 0, .int .u64 0, .int .u32 0, .int .u16 0, .int .u16 0, .int .u64 0, .int .u32 0, .int .u8 0, .int .u64 0, .int .u64 0, .slice none 0 0] rfl rfl rfl rfl rfl rfl (by simp [Value.oneCell']) (Nat.le_of_ble_eq_true rfl) rfl rfl rfl ?_; clear hS; intro w7 hS
  refine st_run tbOk 2 hA (e' := (8, .iface 47 (.int .i64 15)) :: (7, .bool false) :: _) rfl ?_; clear hA; intro a hA
  refine wpList_nil ?_
  replace hA := hA.sel [6, 7, 8] (e' := [(6, .pointer (some ⟨b1, 0, none⟩)), (7, .bool false), (8, .iface 47 (.int .i64 15))]) rfl
  refine xt_norm ?_
  refine wp_ret (xt_ret ?_)
  refine retc3 tbOk (fn := Tryd.f8) (cs := [.int .u64 0, .int .u64 0, .int .u32 0, .int .u16 0, .int .u16 0, .int .u64 0, .int .u32 0, .int .u8 0, .int .u64 0, .int .u64 0, .slice none 0 0]) hA rfl rfl rfl rfl rfl rfl rfl (cells_row (hS.heapAt 0 rfl) rfl) ?_
  replace hS := hS.front 1 (C := L3) (L' := [(b1, rowO [.int .u64 0, .int .u64 0, .int .u32 0, .int .u16 0, .int .u16 0, .int .u64 0, .int .u32 0, .int .u8 0, .int .u64 0, .int .u64 0, .slice none 0 0] 37)] :: F) rfl rfl
  replace hS := hS.front 1 (C := [(b1, rowO [.int .u64 0, .int .u64 0, .int .u32 0, .int .u16 0, .int .u16 0, .int .u64 0, .int .u32 0, .int .u8 0, .int .u64 0, .int .u64 0, .slice none 0 0] 37)]) (L' := L3 :: F) rfl rfl
  replace hS := hS.drop1
  exact ⟨_, hM5, rfl, hS⟩

theorem get_hit8 {w0 w : World} {F : List Chunk} {L : Chunk} {b : Nat} {ws : List (Int × Int)} {ms : List Msg} (hS : St w0 w (L :: F)) (hM : MR b ws ms L) (port id : Int) (h1 : ws.any (fun x => wth id x) = false) {k0 : Nat} {x0 : Msg} (hk0 : ms[k0]? = some x0) (hp0 : x0.1 = port) (hb : ∀ (i : Nat) (y : Msg), i < k0 → ms[i]? = some y → ¬ y.1 = port) :
    Ret Tryd.prog 8 #[.pointer (some ⟨b, 0, none⟩), .int .u64 port, .int .i64 id] w (fun v w' => ∃ L', MR b ws (ms.take k0 ++ ms.drop (k0 + 1)) L' ∧ v = .tuple #[.agg (encMessage x0).toArray, .bool true, .nilIface] ∧ St w0 w' (L' :: F)) := by
  refine enter (vs := [.pointer (some ⟨b, 0, none⟩), .int .u64 port, .int .i64 id]) 64 Tryd.func8 rfl rfl (by simp) ?_; intro a hA
  have hk0l := (List.getElem?_eq_some_iff.1 hk0).1
  refine wp_seq ?_
  refine wp_region_lit ?_
  refine st_alloc tbOk hA hS [.int .u64 0, .int .u64 0, .int .u32 0, .int .u16 0, .int .u16 0, .int .u64 0, .int .u32 0, .int .u8 0, .int .u64 0, .int .u64 0, .slice none 0 0] rfl rfl rfl rfl rfl (by decide) ?_; clear hA hS; intro b1 w2 a hS hA
  refine st_run tbOk 2 hA (e' := (8, .nilIface) :: (7, .bool false) :: _) rfl ?_; clear hA; intro a hA
  refine wpList_nil ?_
  replace hA := hA.sel [0, 1, 2, 6] (e' := [(0, .pointer (some ⟨b, 0, none⟩)), (1, .int .u64 port), (2, .int .i64 id), (6, .pointer (some ⟨b1, 0, none⟩))]) rfl
  refine xt_norm ?_
  refine wp_seq ?_
  refine wp_seq ?_
  refine wp_region_lit ?_
  refine st_run tbOk 2 hA (e' := (12, .int .i64 id) :: (11, .pointer (some ⟨b, 0, none⟩)) :: _) rfl ?_; clear hA; intro a hA
  replace hS := hS.front 1 (C := L) (L' := [(b1, rowO [.int .u64 0, .int .u64 0, .int .u32 0, .int .u16 0, .int .u16 0, .int .u64 0, .int .u32 0, .int .u8 0, .int .u64 0, .int .u64 0, .slice none 0 0] 37)] :: F) rfl rfl
  refine st_call0 hA rfl rfl rfl isfn5 rfl rfl (by decide) (mwaits5 hS hM id) ?_
  clear hA hS; rintro _ w4 a ⟨L3, hM5, rfl, hS⟩ hA
  refine wpList_nil ?_
  replace hA := hA.sel [0, 1, 2, 6, 13] (e' := [(0, .pointer (some ⟨b, 0, none⟩)), (1, .int .u64 port), (2, .int .i64 id), (6, .pointer (some ⟨b1, 0, none⟩)), (13, .bool (ws.any (fun x => wth id x)))]) rfl
  refine xt_norm ?_
  have hc6 : ¬ ((ws.any (fun x => wth id x)) = true) := (by rw [h1]; decide)
  replace hA := hA.rw 13 (v' := .bool false) rfl (vb_f hc6)
  refine cd_cond_f hA rfl ?_
  refine wp_skip ?_
  refine xt_norm ?_
  refine wp_seq ?_
  refine wp_seq ?_
  refine wp_region_lit ?_
  obtain ⟨v, C, v2, C2, hO, hQ, rfl⟩ := hM5
  obtain ⟨A, c, rfl, hmc, hcx⟩ := hO.open'
  obtain ⟨A2, c2, rfl, hmc2, hcx2⟩ := hQ.open'
  replace hS : St w0 w4 ([(b, rowO [.slice A ws.length c, .slice A2 ms.length c2] 28)] :: C :: C2 :: [(b1, rowO [.int .u64 0, .int .u64 0, .int .u32 0, .int .u16 0, .int .u16 0, .int .u64 0, .int .u32 0, .int .u8 0, .int .u64 0, .int .u64 0, .slice none 0 0] 37)] :: F) := hS.split3
  refine st_run tbOk 3 hA (e' := (18, .pointer (some ⟨b, 1, none⟩)) :: (17, .pointer (some ⟨b, 0, none⟩)) :: (16, .pointer (some ⟨b, 0, none⟩)) :: _) rfl ?_; clear hA; intro a hA
  refine st_val hA rfl rfl (by decide) (rn_load tbOk hA rfl rfl rfl rfl (cell_row (hS.heapAt 0 rfl) rfl)) ?_; clear hA; intro a hA
  refine st_run tbOk 2 hA (e' := (21, .int .i64 0) :: (20, .int .i64 ((ms.length : Nat) : Int)) :: _) rfl ?_; clear hA; intro a hA
  refine wpList_nil ?_
  replace hA := hA.sel [0, 1, 2, 6, 19, 20, 21] (e' := [(0, .pointer (some ⟨b, 0, none⟩)), (1, .int .u64 port), (2, .int .i64 id), (6, .pointer (some ⟨b1, 0, none⟩)), (19, .slice A2 ms.length c2), (20, .int .i64 ((ms.length : Nat) : Int)), (21, .int .i64 0)]) rfl
  refine xt_norm ?_
  refine wp_block ?_
  refine wp_loop_ghost (fun m a w => ∃ (k : Nat), m = ms.length - k ∧ Has a 64 [(0, .pointer (some ⟨b, 0, none⟩)), (1, .int .u64 port), (2, .int .i64 id), (6, .pointer (some ⟨b1, 0, none⟩)), (19, .slice A2 ms.length c2), (20, .int .i64 ((ms.length : Nat) : Int)), (21, .int .i64 ((k : Nat) : Int))] ∧ St w0 w ([(b, rowO [.slice A ws.length c, .slice A2 ms.length c2] 28)] :: C :: C2 :: [(b1, rowO [.int .u64 0, .int .u64 0, .int .u32 0, .int .u16 0, .int .u16 0, .int .u64 0, .int .u32 0, .int .u8 0, .int .u64 0, .int .u64 0, .slice none 0 0] 37)] :: F) ∧ (k ≤ k0)) (ms.length - 0)
    ⟨0, rfl, (hA.sel [0, 1, 2, 6, 19, 20, 21] rfl), hS, Nat.zero_le _⟩ ?_
  clear hA hS; rintro m0 a w7 ⟨k, rfl, hA, hS, hk⟩
  refine wp_seq ?_
  refine wp_region_lit ?_
  refine st_run tbOk 1 hA (e' := (22, .bool (decide (((k : Nat) : Int) < ((ms.length : Nat) : Int)))) :: _) rfl ?_; clear hA; intro a hA
  refine wpList_nil ?_
  refine xt_norm ?_
  refine wp_seq ?_
  by_cases hc8 : ((k : Nat) : Int) < ((ms.length : Nat) : Int)
  · first
    | (exfalso; omega)
    | (replace hA := hA.rw 22 (v' := .bool true) rfl (vb_true hc8)
       refine cd_cond_t hA rfl ?_
       refine wp_skip ?_
       refine xt_norm ?_
       refine wp_seq ?_
       refine wp_block ?_
       refine wp_seq ?_
       refine wp_region_lit ?_
       refine st_run tbOk 1 hA (e' := (23, .int .i64 ((k : Nat) : Int)) :: _) rfl ?_; clear hA; intro a hA
       obtain ⟨b9, o10, rfl⟩ := hQ.isSome (k := k) (by omega)
       refine st_val hA rfl rfl (by decide) (rn_indexAddr tbOk hA k (o10 + (k * 11)) rfl rfl rfl rfl rfl rfl (by rfl) (by omega) (by first | rfl | simp [Nat.mul_one, Nat.zero_add] | omega)) ?_; clear hA; intro a hA
       obtain ⟨x11, hx11⟩ := get_ex (l := ms) (k := k) (by omega)
       obtain ⟨x11f0, x11f1, x11f2, x11f3, x11f4, x11f5, x11f6, x11f7, x11f8, x11f9, x11A10, x11c10, x11b10⟩ := x11
       refine st_val hA rfl rfl (by decide) (rn_loadA tbOk hA ([.int .u64 x11f0, .int .u64 x11f1, .int .u32 x11f2, .int .u16 x11f3, .int .u16 x11f4, .int .u64 x11f5, .int .u32 x11f6, .int .u8 x11f7, .int .u64 x11f8, .int .u64 x11f9, .slice x11A10 x11b10.length x11c10]) rfl rfl rfl rfl (by rfl) ((hQ.rd (hS.own_ 2 rfl)).elem (k := k) encMessage_ok hx11)) ?_; clear hA; intro a hA
       refine st_alloc tbOk hA hS [.int .u64 0, .int .u64 0, .int .u32 0, .int .u16 0, .int .u16 0, .int .u64 0, .int .u32 0, .int .u8 0, .int .u64 0, .int .u64 0, .slice none 0 0] rfl rfl rfl rfl rfl (by decide) ?_; clear hA hS; intro b12 w13 a hS hA
       refine st_run tbOk 1 hA (e' := (9, .int .i64 ((k : Nat) : Int)) :: _) rfl ?_; clear hA; intro a hA
       refine st_store tbOk hA hS [.int .u64 x11f0, .int .u64 x11f1, .int .u32 x11f2, .int .u16 x11f3, .int .u16 x11f4, .int .u64 x11f5, .int .u32 x11f6, .int .u8 x11f7, .int .u64 x11f8, .int .u64 x11f9, .slice x11A10 x11b10.length x11c10] [.int .u64 x11f0, .int .u64 x11f1, .int .u32 x11f2, .int .u16 x11f3, .int .u16 x11f4, .int .u64 x11f5, .int .u32 x11f6, .int .u8 x11f7, .int .u64 x11f8, .int .u64 x11f9, .slice x11A10 x11b10.length x11c10] rfl rfl rfl rfl rfl rfl (by simp [Value.oneCell']) (Nat.le_of_ble_eq_true rfl) rfl rfl rfl ?_; clear hS; intro w14 hS
       refine wpList_nil ?_
       replace hA := hA.sel [0, 1, 2, 6, 9, 10, 19, 20, 21] (e' := [(0, .pointer (some ⟨b, 0, none⟩)), (1, .int .u64 port), (2, .int .i64 id), (6, .pointer (some ⟨b1, 0, none⟩)), (9, .int .i64 ((k : Nat) : Int)), (10, .pointer (some ⟨b12, 0, none⟩)), (19, .slice (some ⟨b9, o10, none⟩) ms.length c2), (20, .int .i64 ((ms.length : Nat) : Int)), (21, .int .i64 ((k : Nat) : Int))]) rfl
       refine xt_norm ?_
       refine wp_seq ?_
       refine wp_region_lit ?_
       refine st_run tbOk 1 hA (e' := (26, .pointer (some ⟨b12, 0, none⟩)) :: _) rfl ?_; clear hA; intro a hA
       refine st_val hA rfl rfl (by decide) (rn_load tbOk hA rfl rfl rfl rfl (cell_row (hS.heapAt 0 rfl) rfl)) ?_; clear hA; intro a hA
       refine st_run tbOk 2 hA (e' := (29, .bool (x11f0 == port)) :: (28, .int .u64 port) :: _) rfl ?_; clear hA; intro a hA
       refine wpList_nil ?_
       replace hA := hA.sel [0, 1, 2, 6, 9, 10, 19, 20, 21, 29] (e' := [(0, .pointer (some ⟨b, 0, none⟩)), (1, .int .u64 port), (2, .int .i64 id), (6, .pointer (some ⟨b1, 0, none⟩)), (9, .int .i64 ((k : Nat) : Int)), (10, .pointer (some ⟨b12, 0, none⟩)), (19, .slice (some ⟨b9, o10, none⟩) ms.length c2), (20, .int .i64 ((ms.length : Nat) : Int)), (21, .int .i64 ((k : Nat) : Int)), (29, .bool (x11f0 == port))]) rfl
       refine xt_norm ?_
       by_cases hc15 : x11f0 = port
       · first
         | (exfalso; omega)
         | (replace hA := hA.rw 29 (v' := .bool true) rfl (vb_eq_t hc15)
            refine cd_cond_t hA rfl ?_
            refine wp_seq ?_
            have hjk : k = k0 := by
                rcases Nat.lt_or_ge k k0 with h | h
                · exact absurd (by assumption) (hb _ _ h hx11)
                · omega
            subst hjk
            refine wp_region_lit ?_
            refine st_run tbOk 4 hA (e' := (33, .pointer (some ⟨b, 1, none⟩)) :: (32, .pointer (some ⟨b, 0, none⟩)) :: (31, .pointer (some ⟨b, 0, none⟩)) :: (30, .pointer (some ⟨b, 0, none⟩)) :: _) rfl ?_; clear hA; intro a hA
            refine st_val hA rfl rfl (by decide) (rn_load tbOk hA rfl rfl rfl rfl (cell_row (hS.heapAt 1 rfl) rfl)) ?_; clear hA; intro a hA
            refine st_run tbOk 3 hA (e' := (37, .int .i64 (IntKind.i64.wrap (((k : Nat) : Int) + 1))) :: (36, .int .i64 ((k : Nat) : Int)) :: (35, .int .i64 ((k : Nat) : Int)) :: _) rfl ?_; clear hA; intro a hA
            replace hA := hA.rw 37 (v' := .int .i64 ((k + 1 : Nat) : Int)) rfl (wr64 (by omega) (by omega) (by omega))
            replace hS := hS.front 3 (C := C2) (L' := [(b12, rowO [.int .u64 x11f0, .int .u64 x11f1, .int .u32 x11f2, .int .u16 x11f3, .int .u16 x11f4, .int .u64 x11f5, .int .u32 x11f6, .int .u8 x11f7, .int .u64 x11f8, .int .u64 x11f9, .slice x11A10 x11b10.length x11c10] 37)] :: [(b, rowO [.slice A ws.length c, .slice (some ⟨b9, o10, none⟩) ms.length c2] 28)] :: C :: [(b1, rowO [.int .u64 0, .int .u64 0, .int .u32 0, .int .u16 0, .int .u16 0, .int .u64 0, .int .u32 0, .int .u8 0, .int .u64 0, .int .u64 0, .slice none 0 0] 37)] :: F) rfl rfl
            refine st_call0 hA rfl rfl rfl isfn17 rfl rfl (by decide) (delete17 hS hQ k (k + 1) (by omega) (by omega)) ?_
            clear hA hS; rintro v16 w17 a ⟨C18, hO18, hS⟩ hA
            obtain ⟨A19, c20, rfl, hmc20, hxc20⟩ := hO18.open'
            refine st_run tbOk 2 hA (e' := (40, .pointer (some ⟨b, 1, none⟩)) :: (39, .pointer (some ⟨b, 0, none⟩)) :: _) rfl ?_; clear hA; intro a hA
            replace hS := hS.front 2 (C := [(b, rowO [.slice A ws.length c, .slice (some ⟨b9, o10, none⟩) ms.length c2] 28)]) (L' := C18 :: [(b12, rowO [.int .u64 x11f0, .int .u64 x11f1, .int .u32 x11f2, .int .u16 x11f3, .int .u16 x11f4, .int .u64 x11f5, .int .u32 x11f6, .int .u8 x11f7, .int .u64 x11f8, .int .u64 x11f9, .slice x11A10 x11b10.length x11c10] 37)] :: C :: [(b1, rowO [.int .u64 0, .int .u64 0, .int .u32 0, .int .u16 0, .int .u16 0, .int .u64 0, .int .u32 0, .int .u8 0, .int .u64 0, .int .u64 0, .slice none 0 0] 37)] :: F) rfl rfl
            refine st_store tbOk hA hS [.slice A19 ((ms.take k ++ ms.drop (k + 1)).length) c20] [.slice A ws.length c, .slice A19 ((ms.take k ++ ms.drop (k + 1)).length) c20] rfl rfl rfl rfl rfl rfl (by intro u hu; rw [List.mem_singleton.1 hu]; rfl) (Nat.le_of_ble_eq_true rfl) rfl rfl rfl ?_; clear hS; intro w21 hS
            refine wpList_nil ?_
            replace hA := hA.sel [6, 10] (e' := [(6, .pointer (some ⟨b1, 0, none⟩)), (10, .pointer (some ⟨b12, 0, none⟩))]) rfl
            refine xt_norm ?_
            refine wp_seq ?_
            refine wp_region_lit ?_
            refine st_val hA rfl rfl (by decide) (rn_loadA tbOk hA [.int .u64 x11f0, .int .u64 x11f1, .int .u32 x11f2, .int .u16 x11f3, .int .u16 x11f4, .int .u64 x11f5, .int .u32 x11f6, .int .u8 x11f7, .int .u64 x11f8, .int .u64 x11f9, .slice x11A10 x11b10.length x11c10] rfl rfl rfl rfl rfl (cells_row (hS.heapAt 2 rfl) rfl)) ?_; clear hA; intro a hA
            replace hS := hS.front 4 (C := [(b1, rowO [.int .u64 0, .int .u64 0, .int .u32 0, .int .u16 0, .int .u16 0, .int .u64 0, .int .u32 0, .int .u8 0, .int .u64 0, .int .u64 0, .slice none 0 0] 37)]) (L' := [(b, rowO [.slice A ws.length c, .slice A19 ((ms.take k ++ ms.drop (k + 1)).length) c20] 28)] :: C18 :: [(b12, rowO [.int .u64 x11f0, .int .u64 x11f1, .int .u32 x11f2, .int .u16 x11f3, .int .u16 x11f4, .int .u64 x11f5, .int .u32 x11f6, .int .u8 x11f7, .int .u64 x11f8, .int .u64 x11f9, .slice x11A10 x11b10.length x11c10] 37)] :: C :: F) rfl rfl
            refine st_store tbOk hA hS [.int .u64 x11f0, .int .u64 x11f1, .int .u32 x11f2, .int .u16 x11f3, .int .u16 x11f4, .int .u64 x11f5, .int .u32 x11f6, .int .u8 x11f7, .int .u64 x11f8, .int .u64 x11f9, .slice x11A10 x11b10.length x11c10] [.int .u64 x11f0, .int .u64 x11f1, .int .u32 x11f2, .int .u16 x11f3, .int .u16 x11f4, .int .u64 x11f5, .int .u32 x11f6, .int .u8 x11f7, .int .u64 x11f8, .int .u64 x11f9, .slice x11A10 x11b10.length x11c10] rfl rfl rfl rfl rfl rfl (by simp [Value.oneCell']) (Nat.le_of_ble_eq_true rfl) rfl rfl rfl ?_; clear hS; intro w22 hS
            refine st_run tbOk 2 hA (e' := (8, .nilIface) :: (7, .bool true) :: _) rfl ?_; clear hA; intro a hA
            refine wpList_nil ?_
            replace hA := hA.sel [6, 7, 8] (e' := [(6, .pointer (some ⟨b1, 0, none⟩)), (7, .bool true), (8, .nilIface)]) rfl
            refine xt_norm ?_
            refine wp_ret (xb_ret (xt_ret (xt_ret (xb_ret (xt_ret ?_)))))
            refine retc3 tbOk (fn := Tryd.f8) (cs := [.int .u64 x11f0, .int .u64 x11f1, .int .u32 x11f2, .int .u16 x11f3, .int .u16 x11f4, .int .u64 x11f5, .int .u32 x11f6, .int .u8 x11f7, .int .u64 x11f8, .int .u64 x11f9, .slice x11A10 x11b10.length x11c10]) hA rfl rfl rfl rfl rfl rfl rfl (cells_row (hS.heapAt 0 rfl) rfl) ?_
            replace hS := hS.drop1
            replace hS := hS.front 2 (C := [(b12, rowO [.int .u64 x11f0, .int .u64 x11f1, .int .u32 x11f2, .int .u16 x11f3, .int .u16 x11f4, .int .u64 x11f5, .int .u32 x11f6, .int .u8 x11f7, .int .u64 x11f8, .int .u64 x11f9, .slice x11A10 x11b10.length x11c10] 37)]) (L' := [(b, rowO [.slice A ws.length c, .slice A19 ((ms.take k ++ ms.drop (k + 1)).length) c20] 28)] :: C18 :: C :: F) rfl rfl
            replace hS := hS.drop1
            replace hS := hS.front 1 (C := C18) (L' := [(b, rowO [.slice A ws.length c, .slice A19 ((ms.take k ++ ms.drop (k + 1)).length) c20] 28)] :: C :: F) rfl rfl
            replace hS := hS.front 2 (C := C) (L' := C18 :: [(b, rowO [.slice A ws.length c, .slice A19 ((ms.take k ++ ms.drop (k + 1)).length) c20] 28)] :: F) rfl rfl
            replace hS := hS.front 2 (C := [(b, rowO [.slice A ws.length c, .slice A19 ((ms.take k ++ ms.drop (k + 1)).length) c20] 28)]) (L' := C :: C18 :: F) rfl rfl
            replace hS := hS.join3
            rw [hx11] at hk0; injection hk0 with hk0; subst hk0
            exact ⟨_, ⟨_, _, _, _, hO, hO18, rfl⟩, rfl, hS⟩)
       · first
         | (exfalso; omega)
         | (replace hA := hA.rw 29 (v' := .bool false) rfl (vb_eq_f hc15)
            refine cd_cond_f hA rfl ?_
            refine wp_skip ?_
            refine xb_norm ?_
            refine xt_norm ?_
            refine wp_region_lit ?_
            refine st_run tbOk 1 hA (e' := (42, .int .i64 (IntKind.i64.wrap (((k : Nat) : Int) + 1))) :: _) rfl ?_; clear hA; intro a hA
            replace hA := hA.rw 42 (v' := .int .i64 ((k + 1 : Nat) : Int)) rfl (wr64 (by omega) (by omega) (by omega))
            refine st_run tbOk 1 hA (e' := (21, .int .i64 ((k + 1 : Nat) : Int)) :: _) rfl ?_; clear hA; intro a hA
            refine wpList_nil ?_
            replace hA := hA.sel [0, 1, 2, 6, 19, 20, 21] (e' := [(0, .pointer (some ⟨b, 0, none⟩)), (1, .int .u64 port), (2, .int .i64 id), (6, .pointer (some ⟨b1, 0, none⟩)), (19, .slice (some ⟨b9, o10, none⟩) ms.length c2), (20, .int .i64 ((ms.length : Nat) : Int)), (21, .int .i64 ((k + 1 : Nat) : Int))]) rfl
            replace hS := hS.drop1
            replace hS := hS.front 3 (C := [(b1, rowO [.int .u64 0, .int .u64 0, .int .u32 0, .int .u16 0, .int .u16 0, .int .u64 0, .int .u32 0, .int .u8 0, .int .u64 0, .int .u64 0, .slice none 0 0] 37)]) (L' := [(b, rowO [.slice A ws.length c, .slice (some ⟨b9, o10, none⟩) ms.length c2] 28)] :: C :: C2 :: F) rfl rfl
            replace hS := hS.front 3 (C := C2) (L' := [(b1, rowO [.int .u64 0, .int .u64 0, .int .u32 0, .int .u16 0, .int .u16 0, .int .u64 0, .int .u32 0, .int .u8 0, .int .u64 0, .int .u64 0, .slice none 0 0] 37)] :: [(b, rowO [.slice A ws.length c, .slice (some ⟨b9, o10, none⟩) ms.length c2] 28)] :: C :: F) rfl rfl
            replace hS := hS.front 3 (C := C) (L' := C2 :: [(b1, rowO [.int .u64 0, .int .u64 0, .int .u32 0, .int .u16 0, .int .u16 0, .int .u64 0, .int .u32 0, .int .u8 0, .int .u64 0, .int .u64 0, .slice none 0 0] 37)] :: [(b, rowO [.slice A ws.length c, .slice (some ⟨b9, o10, none⟩) ms.length c2] 28)] :: F) rfl rfl
            replace hS := hS.front 3 (C := [(b, rowO [.slice A ws.length c, .slice (some ⟨b9, o10, none⟩) ms.length c2] 28)]) (L' := C :: C2 :: [(b1, rowO [.int .u64 0, .int .u64 0, .int .u32 0, .int .u16 0, .int .u16 0, .int .u64 0, .int .u32 0, .int .u8 0, .int .u64 0, .int .u64 0, .slice none 0 0] 37)] :: F) rfl rfl
            have hkk : ¬ k = k0 := fun e => by subst e; rw [hk0] at hx11; injection hx11 with e2; subst e2; omega
            exact lp_next _ (by omega) ⟨(k + 1), rfl, (hA.sel [0, 1, 2, 6, 19, 20, 21] rfl), hS, by omega⟩))
  · first
    | (exfalso; omega)
    | (replace hA := hA.rw 22 (v' := .bool false) rfl (vb_false hc8)
       refine cd_cond_f hA rfl ?_
       refine wp_exit ?_
       refine xt_exit ?_
       refine xt_exit ?_
       refine cd_exit_eq ?_
       refine xt_norm ?_
       refine wp_seq ?_
       refine wp_seq ?_
       refine wp_region_lit ?_
       refine st_run tbOk 3 hA (e' := (45, .pointer (some ⟨b, 0, none⟩)) :: (44, .pointer (some ⟨b, 0, none⟩)) :: (43, .pointer (some ⟨b, 0, none⟩)) :: _) rfl ?_; clear hA; intro a hA
       refine st_val hA rfl rfl (by decide) (rn_load tbOk hA rfl rfl rfl rfl (cell_row (hS.heapAt 0 rfl) rfl)) ?_; clear hA; intro a hA
       refine st_run tbOk 2 hA (e' := (48, .bool (decide (((ws.length : Nat) : Int) ≥ 64))) :: (47, .int .i64 ((ws.length : Nat) : Int)) :: _) rfl ?_; clear hA; intro a hA
       refine wpList_nil ?_
       replace hA := hA.sel [0, 1, 2, 6, 48] (e' := [(0, .pointer (some ⟨b, 0, none⟩)), (1, .int .u64 port), (2, .int .i64 id), (6, .pointer (some ⟨b1, 0, none⟩)), (48, .bool (decide (((ws.length : Nat) : Int) ≥ 64)))]) rfl
       refine xt_norm ?_
       have hc23 : ¬ (((ws.length : Nat) : Int) ≥ 64) := by omega
       replace hA := hA.rw 48 (v' := .bool false) rfl (vb_false hc23)
       refine cd_cond_f hA rfl ?_
       refine wp_skip ?_
       refine xt_norm ?_
       refine wp_seq ?_
       refine wp_region_lit ?_
       refine st_run tbOk 4 hA (e' := (54, .pointer (some ⟨b, 0, none⟩)) :: (53, .pointer (some ⟨b, 0, none⟩)) :: (52, .pointer (some ⟨b, 0, none⟩)) :: (51, .pointer (some ⟨b, 0, none⟩)) :: _) rfl ?_; clear hA; intro a hA
       refine st_val hA rfl rfl (by decide) (rn_load tbOk hA rfl rfl rfl rfl (cell_row (hS.heapAt 0 rfl) rfl)) ?_; clear hA; intro a hA
       refine st_run tbOk 3 hA (e' := (58, .agg #[.int .u64 port, .int .i64 id]) :: (57, .int .i64 id) :: (56, .int .u64 port) :: _) rfl ?_; clear hA; intro a hA
       refine st_buildSlice tbOk hA hS [.int .u64 port, .int .i64 id] rfl rfl rfl rfl rfl (by decide) (by kernel_rfl) rfl rfl (by decide) ?_; clear hA hS; intro b24 w25 a hS hA
       replace hS := hS.front 2 (C := C) (L' := [(b24, rowO [.int .u64 port, .int .i64 id] 57)] :: [(b, rowO [.slice A ws.length c, .slice A2 ms.length c2] 28)] :: C2 :: [(b1, rowO [.int .u64 0, .int .u64 0, .int .u32 0, .int .u16 0, .int .u16 0, .int .u64 0, .int .u32 0, .int .u8 0, .int .u64 0, .int .u64 0, .slice none 0 0] 37)] :: F) rfl rfl
       refine st_append tbOk hA (m := ws.length) (q := 1) (xs := rows encWait ws) (news := rows encWait ([(port, id)] : List (Int × Int))) rfl rfl rfl rfl rfl rfl rfl rfl (by decide) hO hS (((Own.full (T := 57) (size := 2) (g := b24) (m := 1) rfl (by decide)).rd (hS.own_ 1 rfl)).x) (rows_one encWait_ok _) (maxLen_le (by first | omega | (simp; omega))) (by show (ws.length + 1) * 16 ≤ 140737488355328; first | omega | (simp; omega)) rfl rfl (by decide) ?_
       clear hA hS; intro v26 w27 C28 a hO28 hS hA
       replace hO28 := Own.app (l := ws) (l2 := ([(port, id)] : List (Int × Int))) hO28
       obtain ⟨A29, c30, rfl, hmc30, hxc30⟩ := hO28.open'
       refine st_run tbOk 2 hA (e' := (62, .pointer (some ⟨b, 0, none⟩)) :: (61, .pointer (some ⟨b, 0, none⟩)) :: _) rfl ?_; clear hA; intro a hA
       replace hS := hS.front 2 (C := [(b, rowO [.slice A ws.length c, .slice A2 ms.length c2] 28)]) (L' := C28 :: [(b24, rowO [.int .u64 port, .int .i64 id] 57)] :: C2 :: [(b1, rowO [.int .u64 0, .int .u64 0, .int .u32 0, .int .u16 0, .int .u16 0, .int .u64 0, .int .u32 0, .int .u8 0, .int .u64 0, .int .u64 0, .slice none 0 0] 37)] :: F) rfl rfl
       refine st_store tbOk hA hS [.slice A29 ((ws ++ ([(port, id)] : List (Int × Int))).length) c30] [.slice A29 ((ws ++ ([(port, id)] : List (Int × Int))).length) c30, .slice A2 ms.length c2] rfl rfl rfl rfl rfl rfl (by intro u hu; rw [List.mem_singleton.1 hu]; rfl) (Nat.le_of_ble_eq_true rfl) rfl rfl rfl ?_; clear hS; intro w31 hS
       refine wpList_nil ?_
       replace hA := hA.sel [6] (e' := [(6, .pointer (some ⟨b1, 0, none⟩))]) rfl
       refine xt_norm ?_
       refine wp_seq ?_
       refine wp_region_lit ?_
       refine st_run tbOk 1 hA (e' := (63, .agg #[.int .u64 0, .int .u64 0, .int .u32 0, .int .u16 0, .int .u16 0, .int .u64 0, .int .u32 0, .int .u8 0, .int .u64 0, .int .u64 0, .slice none 0 0]) :: _) rfl ?_; clear hA; intro a hA
       replace hS := hS.front 4 (C := [(b1, rowO [.int .u64 0, .int .u64 0, .int .u32 0, .int .u16 0, .int .u16 0, .int .u64 0, .int .u32 0, .int .u8 0, .int .u64 0, .int .u64 0, .slice none 0 0] 37)]) (L' := [(b, rowO [.slice A29 ((ws ++ ([(port, id)] : List (Int × Int))).length) c30, .slice A2 ms.length c2] 28)] :: C28 :: [(b24, rowO [.int .u64 port, .int .i64 id] 57)] :: C2 :: F) rfl rfl
       refine st_store tbOk hA hS [.int .u64 0, .int .u64 0, .int .u32 0, .int .u16 0, .int .u16 0, .int .u64 0, .int .u32 0, .int .u8 0, .int .u64 0, .int .u64 0, .slice none 0 0] [.int .u64 0, .int .u64 0, .int .u32 0, .int .u16 0, .int .u16 0, .int .u64 0, .int .u32 0, .int .u8 0, .int .u64 0, .int .u64 0, .slice none 0 0] rfl rfl rfl rfl rfl rfl (by simp [Value.oneCell']) (Nat.le_of_ble_eq_true rfl) rfl rfl rfl ?_; clear hS; intro w32 hS
       refine st_run tbOk 2 hA (e' := (8, .nilIface) :: (7, .bool false) :: _) rfl ?_; clear hA; intro a hA
       refine wpList_nil ?_
       replace hA := hA.sel [6, 7, 8] (e' := [(6, .pointer (some ⟨b1, 0, none⟩)), (7, .bool false), (8, .nilIface)]) rfl
       refine xt_norm ?_
       refine wp_ret ?_
       refine retc3 tbOk (fn := Tryd.f8) (cs := [.int .u64 0, .int .u64 0, .int .u32 0, .int .u16 0, .int .u16 0, .int .u64 0, .int .u32 0, .int .u8 0, .int .u64 0, .int .u64 0, .slice none 0 0]) hA rfl rfl rfl rfl rfl rfl rfl (cells_row (hS.heapAt 0 rfl) rfl) ?_
       exfalso; omega)

theorem get_full8 {w0 w : World} {F : List Chunk} {L : Chunk} {b : Nat} {ws : List (Int × Int)} {ms : List Msg} (hS : St w0 w (L :: F)) (hM : MR b ws ms L) (port id : Int) (h1 : ws.any (fun x => wth id x) = false) (hno : ∀ (i : Nat) (y : Msg), ms[i]? = some y → ¬ y.1 = port) (hl : 64 ≤ ws.length) :
    Ret Tryd.prog 8 #[.pointer (some ⟨b, 0, none⟩), .int .u64 port, .int .i64 id] w (fun v w' => ∃ L', MR b ws ms L' ∧ v = .tuple #[.agg #[.int .u64 0, .int .u64 0, .int .u32 0, .int .u16 0, .int .u16 0, .int .u64 0, .int .u32 0, .int .u8 0, .int .u64 0, .int .u64 0, .slice none 0 0], .bool false, .iface 47 (.int .i64 5)] ∧ St w0 w' (L' :: F)) := by
  refine enter (vs := [.pointer (some ⟨b, 0, none⟩), .int .u64 port, .int .i64 id]) 64 Tryd.func8 rfl rfl (by simp) ?_; intro a hA
  refine wp_seq ?_
  refine wp_region_lit ?_
  refine st_alloc tbOk hA hS [.int .u64 0, .int .u64 0, .int .u32 0, .int .u16 0, .int .u16 0, .int .u64 0, .int .u32 0, .int .u8 0, .int .u64 0, .int .u64 0, .slice none 0 0] rfl rfl rfl rfl rfl (by decide) ?_; clear hA hS; intro b1 w2 a hS hA
  refine st_run tbOk 2 hA (e' := (8, .nilIface) :: (7, .bool false) :: _) rfl ?_; clear hA; intro a hA
  refine wpList_nil ?_
  replace hA := hA.sel [0, 1, 2, 6] (e' := [(0, .pointer (some ⟨b, 0, none⟩)), (1, .int .u64 port), (2, .int .i64 id), (6, .pointer (some ⟨b1, 0, none⟩))]) rfl
  refine xt_norm ?_
  refine wp_seq ?_
  refine wp_seq ?_
  refine wp_region_lit ?_
  refine st_run tbOk 2 hA (e' := (12, .int .i64 id) :: (11, .pointer (some ⟨b, 0, none⟩)) :: _) rfl ?_; clear hA; intro a hA
  replace hS := hS.front 1 (C := L) (L' := [(b1, rowO [.int .u64 0, .int .u64 0, .int .u32 0, .int .u16 0, .int .u16 0, .int .u64 0, .int .u32 0, .int .u8 0, .int .u64 0, .int .u64 0, .slice none 0 0] 37)] :: F) rfl rfl
  refine st_call0 hA rfl rfl rfl isfn5 rfl rfl (by decide) (mwaits5 hS hM id) ?_
  clear hA hS; rintro _ w4 a ⟨L3, hM5, rfl, hS⟩ hA
  refine wpList_nil ?_
  replace hA := hA.sel [0, 1, 2, 6, 13] (e' := [(0, .pointer (some ⟨b, 0, none⟩)), (1, .int .u64 port), (2, .int .i64 id), (6, .pointer (some ⟨b1, 0, none⟩)), (13, .bool (ws.any (fun x => wth id x)))]) rfl
  refine xt_norm ?_
  have hc6 : ¬ ((ws.any (fun x => wth id x)) = true) := (by rw [h1]; decide)
  replace hA := hA.rw 13 (v' := .bool false) rfl (vb_f hc6)
  refine cd_cond_f hA rfl ?_
  refine wp_skip ?_
  refine xt_norm ?_
  refine wp_seq ?_
  refine wp_seq ?_
  refine wp_region_lit ?_
  obtain ⟨v, C, v2, C2, hO, hQ, rfl⟩ := hM5
  obtain ⟨A, c, rfl, hmc, hcx⟩ := hO.open'
  obtain ⟨A2, c2, rfl, hmc2, hcx2⟩ := hQ.open'
  replace hS : St w0 w4 ([(b, rowO [.slice A ws.length c, .slice A2 ms.length c2] 28)] :: C :: C2 :: [(b1, rowO [.int .u64 0, .int .u64 0, .int .u32 0, .int .u16 0, .int .u16 0, .int .u64 0, .int .u32 0, .int .u8 0, .int .u64 0, .int .u64 0, .slice none 0 0] 37)] :: F) := hS.split3
  refine st_run tbOk 3 hA (e' := (18, .pointer (some ⟨b, 1, none⟩)) :: (17, .pointer (some ⟨b, 0, none⟩)) :: (16, .pointer (some ⟨b, 0, none⟩)) :: _) rfl ?_; clear hA; intro a hA
  refine st_val hA rfl rfl (by decide) (rn_load tbOk hA rfl rfl rfl rfl (cell_row (hS.heapAt 0 rfl) rfl)) ?_; clear hA; intro a hA
  refine st_run tbOk 2 hA (e' := (21, .int .i64 0) :: (20, .int .i64 ((ms.length : Nat) : Int)) :: _) rfl ?_; clear hA; intro a hA
  refine wpList_nil ?_
  replace hA := hA.sel [0, 1, 2, 6, 19, 20, 21] (e' := [(0, .pointer (some ⟨b, 0, none⟩)), (1, .int .u64 port), (2, .int .i64 id), (6, .pointer (some ⟨b1, 0, none⟩)), (19, .slice A2 ms.length c2), (20, .int .i64 ((ms.length : Nat) : Int)), (21, .int .i64 0)]) rfl
  refine xt_norm ?_
  refine wp_block ?_
  refine wp_loop_ghost (fun m a w => ∃ (k : Nat), m = ms.length - k ∧ Has a 64 [(0, .pointer (some ⟨b, 0, none⟩)), (1, .int .u64 port), (2, .int .i64 id), (6, .pointer (some ⟨b1, 0, none⟩)), (19, .slice A2 ms.length c2), (20, .int .i64 ((ms.length : Nat) : Int)), (21, .int .i64 ((k : Nat) : Int))] ∧ St w0 w ([(b, rowO [.slice A ws.length c, .slice A2 ms.length c2] 28)] :: C :: C2 :: [(b1, rowO [.int .u64 0, .int .u64 0, .int .u32 0, .int .u16 0, .int .u16 0, .int .u64 0, .int .u32 0, .int .u8 0, .int .u64 0, .int .u64 0, .slice none 0 0] 37)] :: F) ∧ (k ≤ ms.length)) (ms.length - 0)
    ⟨0, rfl, (hA.sel [0, 1, 2, 6, 19, 20, 21] rfl), hS, Nat.zero_le _⟩ ?_
  clear hA hS; rintro m0 a w7 ⟨k, rfl, hA, hS, hk⟩
  refine wp_seq ?_
  refine wp_region_lit ?_
  refine st_run tbOk 1 hA (e' := (22, .bool (decide (((k : Nat) : Int) < ((ms.length : Nat) : Int)))) :: _) rfl ?_; clear hA; intro a hA
  refine wpList_nil ?_
  refine xt_norm ?_
  refine wp_seq ?_
  by_cases hc8 : ((k : Nat) : Int) < ((ms.length : Nat) : Int)
  · first
    | (exfalso; omega)
    | (replace hA := hA.rw 22 (v' := .bool true) rfl (vb_true hc8)
       refine cd_cond_t hA rfl ?_
       refine wp_skip ?_
       refine xt_norm ?_
       refine wp_seq ?_
       refine wp_block ?_
       refine wp_seq ?_
       refine wp_region_lit ?_
       refine st_run tbOk 1 hA (e' := (23, .int .i64 ((k : Nat) : Int)) :: _) rfl ?_; clear hA; intro a hA
       obtain ⟨b9, o10, rfl⟩ := hQ.isSome (k := k) (by omega)
       refine st_val hA rfl rfl (by decide) (rn_indexAddr tbOk hA k (o10 + (k * 11)) rfl rfl rfl rfl rfl rfl (by rfl) (by omega) (by first | rfl | simp [Nat.mul_one, Nat.zero_add] | omega)) ?_; clear hA; intro a hA
       obtain ⟨x11, hx11⟩ := get_ex (l := ms) (k := k) (by omega)
       obtain ⟨x11f0, x11f1, x11f2, x11f3, x11f4, x11f5, x11f6, x11f7, x11f8, x11f9, x11A10, x11c10, x11b10⟩ := x11
       refine st_val hA rfl rfl (by decide) (rn_loadA tbOk hA ([.int .u64 x11f0, .int .u64 x11f1, .int .u32 x11f2, .int .u16 x11f3, .int .u16 x11f4, .int .u64 x11f5, .int .u32 x11f6, .int .u8 x11f7, .int .u64 x11f8, .int .u64 x11f9, .slice x11A10 x11b10.length x11c10]) rfl rfl rfl rfl (by rfl) ((hQ.rd (hS.own_ 2 rfl)).elem (k := k) encMessage_ok hx11)) ?_; clear hA; intro a hA
       refine st_alloc tbOk hA hS [.int .u64 0, .int .u64 0, .int .u32 0, .int .u16 0, .int .u16 0, .int .u64 0, .int .u32 0, .int .u8 0, .int .u64 0, .int .u64 0, .slice none 0 0] rfl rfl rfl rfl rfl (by decide) ?_; clear hA hS; intro b12 w13 a hS hA
       refine st_run tbOk 1 hA (e' := (9, .int .i64 ((k : Nat) : Int)) :: _) rfl ?_; clear hA; intro a hA
       refine st_store tbOk hA hS [.int .u64 x11f0, .int .u64 x11f1, .int .u32 x11f2, .int .u16 x11f3, .int .u16 x11f4, .int .u64 x11f5, .int .u32 x11f6, .int .u8 x11f7, .int .u64 x11f8, .int .u64 x11f9, .slice x11A10 x11b10.length x11c10] [.int .u64 x11f0, .int .u64 x11f1, .int .u32 x11f2, .int .u16 x11f3, .int .u16 x11f4, .int .u64 x11f5, .int .u32 x11f6, .int .u8 x11f7, .int .u64 x11f8, .int .u64 x11f9, .slice x11A10 x11b10.length x11c10] rfl rfl rfl rfl rfl rfl (by simp [Value.oneCell']) (Nat.le_of_ble_eq_true rfl) rfl rfl rfl ?_; clear hS; intro w14 hS
       refine wpList_nil ?_
       replace hA := hA.sel [0, 1, 2, 6, 9, 10, 19, 20, 21] (e' := [(0, .pointer (some ⟨b, 0, none⟩)), (1, .int .u64 port), (2, .int .i64 id), (6, .pointer (some ⟨b1, 0, none⟩)), (9, .int .i64 ((k : Nat) : Int)), (10, .pointer (some ⟨b12, 0, none⟩)), (19, .slice (some ⟨b9, o10, none⟩) ms.length c2), (20, .int .i64 ((ms.length : Nat) : Int)), (21, .int .i64 ((k : Nat) : Int))]) rfl
       refine xt_norm ?_
       refine wp_seq ?_
       refine wp_region_lit ?_
       refine st_run tbOk 1 hA (e' := (26, .pointer (some ⟨b12, 0, none⟩)) :: _) rfl ?_; clear hA; intro a hA
       refine st_val hA rfl rfl (by decide) (rn_load tbOk hA rfl rfl rfl rfl (cell_row (hS.heapAt 0 rfl) rfl)) ?_; clear hA; intro a hA
       refine st_run tbOk 2 hA (e' := (29, .bool (x11f0 == port)) :: (28, .int .u64 port) :: _) rfl ?_; clear hA; intro a hA
       refine wpList_nil ?_
       replace hA := hA.sel [0, 1, 2, 6, 9, 10, 19, 20, 21, 29] (e' := [(0, .pointer (some ⟨b, 0, none⟩)), (1, .int .u64 port), (2, .int .i64 id), (6, .pointer (some ⟨b1, 0, none⟩)), (9, .int .i64 ((k : Nat) : Int)), (10, .pointer (some ⟨b12, 0, none⟩)), (19, .slice (some ⟨b9, o10, none⟩) ms.length c2), (20, .int .i64 ((ms.length : Nat) : Int)), (21, .int .i64 ((k : Nat) : Int)), (29, .bool (x11f0 == port))]) rfl
       refine xt_norm ?_
       by_cases hc15 : x11f0 = port
       · first
         | (exfalso; omega)
         | (replace hA := hA.rw 29 (v' := .bool true) rfl (vb_eq_t hc15)
            refine cd_cond_t hA rfl ?_
            refine wp_seq ?_
            exact absurd (by assumption) (hno k _ hx11))
       · first
         | (exfalso; omega)
         | (replace hA := hA.rw 29 (v' := .bool false) rfl (vb_eq_f hc15)
            refine cd_cond_f hA rfl ?_
            refine wp_skip ?_
            refine xb_norm ?_
            refine xt_norm ?_
            refine wp_region_lit ?_
            refine st_run tbOk 1 hA (e' := (42, .int .i64 (IntKind.i64.wrap (((k : Nat) : Int) + 1))) :: _) rfl ?_; clear hA; intro a hA
            replace hA := hA.rw 42 (v' := .int .i64 ((k + 1 : Nat) : Int)) rfl (wr64 (by omega) (by omega) (by omega))
            refine st_run tbOk 1 hA (e' := (21, .int .i64 ((k + 1 : Nat) : Int)) :: _) rfl ?_; clear hA; intro a hA
            refine wpList_nil ?_
            replace hA := hA.sel [0, 1, 2, 6, 19, 20, 21] (e' := [(0, .pointer (some ⟨b, 0, none⟩)), (1, .int .u64 port), (2, .int .i64 id), (6, .pointer (some ⟨b1, 0, none⟩)), (19, .slice (some ⟨b9, o10, none⟩) ms.length c2), (20, .int .i64 ((ms.length : Nat) : Int)), (21, .int .i64 ((k + 1 : Nat) : Int))]) rfl
            replace hS := hS.drop1
            replace hS := hS.front 3 (C := [(b1, rowO [.int .u64 0, .int .u64 0, .int .u32 0, .int .u16 0, .int .u16 0, .int .u64 0, .int .u32 0, .int .u8 0, .int .u64 0, .int .u64 0, .slice none 0 0] 37)]) (L' := [(b, rowO [.slice A ws.length c, .slice (some ⟨b9, o10, none⟩) ms.length c2] 28)] :: C :: C2 :: F) rfl rfl
            replace hS := hS.front 3 (C := C2) (L' := [(b1, rowO [.int .u64 0, .int .u64 0, .int .u32 0, .int .u16 0, .int .u16 0, .int .u64 0, .int .u32 0, .int .u8 0, .int .u64 0, .int .u64 0, .slice none 0 0] 37)] :: [(b, rowO [.slice A ws.length c, .slice (some ⟨b9, o10, none⟩) ms.length c2] 28)] :: C :: F) rfl rfl
            replace hS := hS.front 3 (C := C) (L' := C2 :: [(b1, rowO [.int .u64 0, .int .u64 0, .int .u32 0, .int .u16 0, .int .u16 0, .int .u64 0, .int .u32 0, .int .u8 0, .int .u64 0, .int .u64 0, .slice none 0 0] 37)] :: [(b, rowO [.slice A ws.length c, .slice (some ⟨b9, o10, none⟩) ms.length c2] 28)] :: F) rfl rfl
            replace hS := hS.front 3 (C := [(b, rowO [.slice A ws.length c, .slice (some ⟨b9, o10, none⟩) ms.length c2] 28)]) (L' := C :: C2 :: [(b1, rowO [.int .u64 0, .int .u64 0, .int .u32 0, .int .u16 0, .int .u16 0, .int .u64 0, .int .u32 0, .int .u8 0, .int .u64 0, .int .u64 0, .slice none 0 0] 37)] :: F) rfl rfl
            exact lp_next _ (by omega) ⟨(k + 1), rfl, (hA.sel [0, 1, 2, 6, 19, 20, 21] rfl), hS, by omega⟩))
  · first
    | (exfalso; omega)
    | (replace hA := hA.rw 22 (v' := .bool false) rfl (vb_false hc8)
       refine cd_cond_f hA rfl ?_
       refine wp_exit ?_
       refine xt_exit ?_
       refine xt_exit ?_
       refine cd_exit_eq ?_
       refine xt_norm ?_
       refine wp_seq ?_
       refine wp_seq ?_
       refine wp_region_lit ?_
       refine st_run tbOk 3 hA (e' := (45, .pointer (some ⟨b, 0, none⟩)) :: (44, .pointer (some ⟨b, 0, none⟩)) :: (43, .pointer (some ⟨b, 0, none⟩)) :: _) rfl ?_; clear hA; intro a hA
       refine st_val hA rfl rfl (by decide) (rn_load tbOk hA rfl rfl rfl rfl (cell_row (hS.heapAt 0 rfl) rfl)) ?_; clear hA; intro a hA
       refine st_run tbOk 2 hA (e' := (48, .bool (decide (((ws.length : Nat) : Int) ≥ 64))) :: (47, .int .i64 ((ws.length : Nat) : Int)) :: _) rfl ?_; clear hA; intro a hA
       refine wpList_nil ?_
       replace hA := hA.sel [0, 1, 2, 6, 48] (e' := [(0, .pointer (some ⟨b, 0, none⟩)), (1, .int .u64 port), (2, .int .i64 id), (6, .pointer (some ⟨b1, 0, none⟩)), (48, .bool (decide (((ws.length : Nat) : Int) ≥ 64)))]) rfl
       refine xt_norm ?_
       have hc16 : ((ws.length : Nat) : Int) ≥ 64 := by omega
       replace hA := hA.rw 48 (v' := .bool true) rfl (vb_true hc16)
       refine cd_cond_t hA rfl ?_
       refine wp_seq ?_
       refine wp_region_lit ?_
       refine st_run tbOk 2 hA (e' := (50, .iface 47 (.int .i64 5)) :: (49, .agg #[.int .u64 0, .int .u64 0, .int .u32 0, .int .u16 0, .int .u16 0, .int .u64 0, .int .u32 0, .int .u8 0, .int .u64 0, .int .u64 0, .slice none 0 0]) :: _) rfl ?_; clear hA; intro a hA
       replace hS := hS.front 3 (C := [(b1, rowO [.int .u64 0, .int .u64 0, .int .u32 0, .int .u16 0, .int .u16 0, .int .u64 0, .int .u32 0, .int .u8 0, .int .u64 0, .int .u64 0, .slice none 0 0] 37)]) (L' := [(b, rowO [.slice A ws.length c, .slice A2 ms.length c2] 28)] :: C :: C2 :: F) rfl rfl
       refine st_store tbOk hA hS [.int .u64 0, .int .u64 0, .int .u32 0, .int .u16 0, .int .u16 0, .int .u64 0, .int .u32 0, .int .u8 0, .int .u64 0, .int .u64 0, .slice none 0 0] [.int .u64 0, .int .u64 0, .int .u32 0, .int .u16 0, .int .u16 0, .int .u64 0, .int .u32 0, .int .u8 0, .int .u64 0, .int .u64 0, .slice none 0 0] rfl rfl rfl rfl rfl rfl (by simp [Value.oneCell']) (Nat.le_of_ble_eq_true rfl) rfl rfl rfl ?_; clear hS; intro w17 hS
       refine st_run tbOk 2 hA (e' := (8, .iface 47 (.int .i64 5)) :: (7, .bool false) :: _) rfl ?_; clear hA; intro a hA
       refine wpList_nil ?_
       replace hA := hA.sel [6, 7, 8] (e' := [(6, .pointer (some ⟨b1, 0, none⟩)), (7, .bool false), (8, .iface 47 (.int .i64 5))]) rfl
       refine xt_norm ?_
       refine wp_ret (xt_ret ?_)
       refine retc3 tbOk (fn := Tryd.f8) (cs := [.int .u64 0, .int .u64 0, .int .u32 0, .int .u16 0, .int .u16 0, .int .u64 0, .int .u32 0, .int .u8 0, .int .u64 0, .int .u64 0, .slice none 0 0]) hA rfl rfl rfl rfl rfl rfl rfl (cells_row (hS.heapAt 0 rfl) rfl) ?_
       replace hS := hS.drop1
       replace hS := hS.front 2 (C := C2) (L' := [(b, rowO [.slice A ws.length c, .slice A2 ms.length c2] 28)] :: C :: F) rfl rfl
       replace hS := hS.front 2 (C := C) (L' := C2 :: [(b, rowO [.slice A ws.length c, .slice A2 ms.length c2] 28)] :: F) rfl rfl
       replace hS := hS.front 2 (C := [(b, rowO [.slice A ws.length c, .slice A2 ms.length c2] 28)]) (L' := C :: C2 :: F) rfl rfl
       replace hS := hS.join3
       exact ⟨_, ⟨_, _, _, _, hO, hQ, rfl⟩, rfl, hS⟩)

theorem get_wait8 {w0 w : World} {F : List Chunk} {L : Chunk} {b : Nat} {ws : List (Int × Int)} {ms : List Msg} (hS : St w0 w (L :: F)) (hM : MR b ws ms L) (port id : Int) (h1 : ws.any (fun x => wth id x) = false) (hno : ∀ (i : Nat) (y : Msg), ms[i]? = some y → ¬ y.1 = port) (hl : ws.length < 64) :
    Ret Tryd.prog 8 #[.pointer (some ⟨b, 0, none⟩), .int .u64 port, .int .i64 id] w (fun v w' => ∃ L', MR b (ws ++ [(port, id)]) ms L' ∧ v = .tuple #[.agg #[.int .u64 0, .int .u64 0, .int .u32 0, .int .u16 0, .int .u16 0, .int .u64 0, .int .u32 0, .int .u8 0, .int .u64 0, .int .u64 0, .slice none 0 0], .bool false, .nilIface] ∧ St w0 w' (L' :: F)) := by
  refine enter (vs := [.pointer (some ⟨b, 0, none⟩), .int .u64 port, .int .i64 id]) 64 Tryd.func8 rfl rfl (by simp) ?_; intro a hA
  refine wp_seq ?_
  refine wp_region_lit ?_
  refine st_alloc tbOk hA hS [.int .u64 0, .int .u64 0, .int .u32 0, .int .u16 0, .int .u16 0, .int .u64 0, .int .u32 0, .int .u8 0, .int .u64 0, .int .u64 0, .slice none 0 0] rfl rfl rfl rfl rfl (by decide) ?_; clear hA hS; intro b1 w2 a hS hA
  refine st_run tbOk 2 hA (e' := (8, .nilIface) :: (7, .bool false) :: _) rfl ?_; clear hA; intro a hA
  refine wpList_nil ?_
  replace hA := hA.sel [0, 1, 2, 6] (e' := [(0, .pointer (some ⟨b, 0, none⟩)), (1, .int .u64 port), (2, .int .i64 id), (6, .pointer (some ⟨b1, 0, none⟩))]) rfl
  refine xt_norm ?_
  refine wp_seq ?_
  refine wp_seq ?_
  refine wp_region_lit ?_
  refine st_run tbOk 2 hA (e' := (12, .int .i64 id) :: (11, .pointer (some ⟨b, 0, none⟩)) :: _) rfl ?_; clear hA; intro a hA
  replace hS := hS.front 1 (C := L) (L' := [(b1, rowO [.int .u64 0, .int .u64 0, .int .u32 0, .int .u16 0, .int .u16 0, .int .u64 0, .int .u32 0, .int .u8 0, .int .u64 0, .int .u64 0, .slice none 0 0] 37)] :: F) rfl rfl
  refine st_call0 hA rfl rfl rfl isfn5 rfl rfl (by decide) (mwaits5 hS hM id) ?_
  clear hA hS; rintro _ w4 a ⟨L3, hM5, rfl, hS⟩ hA
  refine wpList_nil ?_
  replace hA := hA.sel [0, 1, 2, 6, 13] (e' := [(0, .pointer (some ⟨b, 0, none⟩)), (1, .int .u64 port), (2, .int .i64 id), (6, .pointer (some ⟨b1, 0, none⟩)), (13, .bool (ws.any (fun x => wth id x)))]) rfl
  refine xt_norm ?_
  have hc6 : ¬ ((ws.any (fun x => wth id x)) = true) := (by rw [h1]; decide)
  replace hA := hA.rw 13 (v' := .bool false) rfl (vb_f hc6)
  refine cd_cond_f hA rfl ?_
  refine wp_skip ?_
  refine xt_norm ?_
  refine wp_seq ?_
  refine wp_seq ?_
  refine wp_region_lit ?_
  obtain ⟨v, C, v2, C2, hO, hQ, rfl⟩ := hM5
  obtain ⟨A, c, rfl, hmc, hcx⟩ := hO.open'
  obtain ⟨A2, c2, rfl, hmc2, hcx2⟩ := hQ.open'
  replace hS : St w0 w4 ([(b, rowO [.slice A ws.length c, .slice A2 ms.length c2] 28)] :: C :: C2 :: [(b1, rowO [.int .u64 0, .int .u64 0, .int .u32 0, .int .u16 0, .int .u16 0, .int .u64 0, .int .u32 0, .int .u8 0, .int .u64 0, .int .u64 0, .slice none 0 0] 37)] :: F) := hS.split3
  refine st_run tbOk 3 hA (e' := (18, .pointer (some ⟨b, 1, none⟩)) :: (17, .pointer (some ⟨b, 0, none⟩)) :: (16, .pointer (some ⟨b, 0, none⟩)) :: _) rfl ?_; clear hA; intro a hA
  refine st_val hA rfl rfl (by decide) (rn_load tbOk hA rfl rfl rfl rfl (cell_row (hS.heapAt 0 rfl) rfl)) ?_; clear hA; intro a hA
  refine st_run tbOk 2 hA (e' := (21, .int .i64 0) :: (20, .int .i64 ((ms.length : Nat) : Int)) :: _) rfl ?_; clear hA; intro a hA
  refine wpList_nil ?_
  replace hA := hA.sel [0, 1, 2, 6, 19, 20, 21] (e' := [(0, .pointer (some ⟨b, 0, none⟩)), (1, .int .u64 port), (2, .int .i64 id), (6, .pointer (some ⟨b1, 0, none⟩)), (19, .slice A2 ms.length c2), (20, .int .i64 ((ms.length : Nat) : Int)), (21, .int .i64 0)]) rfl
  refine xt_norm ?_
  refine wp_block ?_
  refine wp_loop_ghost (fun m a w => ∃ (k : Nat), m = ms.length - k ∧ Has a 64 [(0, .pointer (some ⟨b, 0, none⟩)), (1, .int .u64 port), (2, .int .i64 id), (6, .pointer (some ⟨b1, 0, none⟩)), (19, .slice A2 ms.length c2), (20, .int .i64 ((ms.length : Nat) : Int)), (21, .int .i64 ((k : Nat) : Int))] ∧ St w0 w ([(b, rowO [.slice A ws.length c, .slice A2 ms.length c2] 28)] :: C :: C2 :: [(b1, rowO [.int .u64 0, .int .u64 0, .int .u32 0, .int .u16 0, .int .u16 0, .int .u64 0, .int .u32 0, .int .u8 0, .int .u64 0, .int .u64 0, .slice none 0 0] 37)] :: F) ∧ (k ≤ ms.length)) (ms.length - 0)
    ⟨0, rfl, (hA.sel [0, 1, 2, 6, 19, 20, 21] rfl), hS, Nat.zero_le _⟩ ?_
  clear hA hS; rintro m0 a w7 ⟨k, rfl, hA, hS, hk⟩
  refine wp_seq ?_
  refine wp_region_lit ?_
  refine st_run tbOk 1 hA (e' := (22, .bool (decide (((k : Nat) : Int) < ((ms.length : Nat) : Int)))) :: _) rfl ?_; clear hA; intro a hA
  refine wpList_nil ?_
  refine xt_norm ?_
  refine wp_seq ?_
  by_cases hc8 : ((k : Nat) : Int) < ((ms.length : Nat) : Int)
  · first
    | (exfalso; omega)
    | (replace hA := hA.rw 22 (v' := .bool true) rfl (vb_true hc8)
       refine cd_cond_t hA rfl ?_
       refine wp_skip ?_
       refine xt_norm ?_
       refine wp_seq ?_
       refine wp_block ?_
       refine wp_seq ?_
       refine wp_region_lit ?_
       refine st_run tbOk 1 hA (e' := (23, .int .i64 ((k : Nat) : Int)) :: _) rfl ?_; clear hA; intro a hA
       obtain ⟨b9, o10, rfl⟩ := hQ.isSome (k := k) (by omega)
       refine st_val hA rfl rfl (by decide) (rn_indexAddr tbOk hA k (o10 + (k * 11)) rfl rfl rfl rfl rfl rfl (by rfl) (by omega) (by first | rfl | simp [Nat.mul_one, Nat.zero_add] | omega)) ?_; clear hA; intro a hA
       obtain ⟨x11, hx11⟩ := get_ex (l := ms) (k := k) (by omega)
       obtain ⟨x11f0, x11f1, x11f2, x11f3, x11f4, x11f5, x11f6, x11f7, x11f8, x11f9, x11A10, x11c10, x11b10⟩ := x11
       refine st_val hA rfl rfl (by decide) (rn_loadA tbOk hA ([.int .u64 x11f0, .int .u64 x11f1, .int .u32 x11f2, .int .u16 x11f3, .int .u16 x11f4, .int .u64 x11f5, .int .u32 x11f6, .int .u8 x11f7, .int .u64 x11f8, .int .u64 x11f9, .slice x11A10 x11b10.length x11c10]) rfl rfl rfl rfl (by rfl) ((hQ.rd (hS.own_ 2 rfl)).elem (k := k) encMessage_ok hx11)) ?_; clear hA; intro a hA
       refine st_alloc tbOk hA hS [.int .u64 0, .int .u64 0, .int .u32 0, .int .u16 0, .int .u16 0, .int .u64 0, .int .u32 0, .int .u8 0, .int .u64 0, .int .u64 0, .slice none 0 0] rfl rfl rfl rfl rfl (by decide) ?_; clear hA hS; intro b12 w13 a hS hA
       refine st_run tbOk 1 hA (e' := (9, .int .i64 ((k : Nat) : Int)) :: _) rfl ?_; clear hA; intro a hA
       refine st_store tbOk hA hS [.int .u64 x11f0, .int .u64 x11f1, .int .u32 x11f2, .int .u16 x11f3, .int .u16 x11f4, .int .u64 x11f5, .int .u32 x11f6, .int .u8 x11f7, .int .u64 x11f8, .int .u64 x11f9, .slice x11A10 x11b10.length x11c10] [.int .u64 x11f0, .int .u64 x11f1, .int .u32 x11f2, .int .u16 x11f3, .int .u16 x11f4, .int .u64 x11f5, .int .u32 x11f6, .int .u8 x11f7, .int .u64 x11f8, .int .u64 x11f9, .slice x11A10 x11b10.length x11c10] rfl rfl rfl rfl rfl rfl (by simp [Value.oneCell']) (Nat.le_of_ble_eq_true rfl) rfl rfl rfl ?_; clear hS; intro w14 hS
       refine wpList_nil ?_
       replace hA := hA.sel [0, 1, 2, 6, 9, 10, 19, 20, 21] (e' := [(0, .pointer (some ⟨b, 0, none⟩)), (1, .int .u64 port), (2, .int .i64 id), (6, .pointer (some ⟨b1, 0, none⟩)), (9, .int .i64 ((k : Nat) : Int)), (10, .pointer (some ⟨b12, 0, none⟩)), (19, .slice (some ⟨b9, o10, none⟩) ms.length c2), (20, .int .i64 ((ms.length : Nat) : Int)), (21, .int .i64 ((k : Nat) : Int))]) rfl
       refine xt_norm ?_
       refine wp_seq ?_
       refine wp_region_lit ?_
       refine st_run tbOk 1 hA (e' := (26, .pointer (some ⟨b12, 0, none⟩)) :: _) rfl ?_; clear hA; intro a hA
       refine st_val hA rfl rfl (by decide) (rn_load tbOk hA rfl rfl rfl rfl (cell_row (hS.heapAt 0 rfl) rfl)) ?_; clear hA; intro a hA
       refine st_run tbOk 2 hA (e' := (29, .bool (x11f0 == port)) :: (28, .int .u64 port) :: _) rfl ?_; clear hA; intro a hA
       refine wpList_nil ?_
       replace hA := hA.sel [0, 1, 2, 6, 9, 10, 19, 20, 21, 29] (e' := [(0, .pointer (some ⟨b, 0, none⟩)), (1, .int .u64 port), (2, .int .i64 id), (6, .pointer (some ⟨b1, 0, none⟩)), (9, .int .i64 ((k : Nat) : Int)), (10, .pointer (some ⟨b12, 0, none⟩)), (19, .slice (some ⟨b9, o10, none⟩) ms.length c2), (20, .int .i64 ((ms.length : Nat) : Int)), (21, .int .i64 ((k : Nat) : Int)), (29, .bool (x11f0 == port))]) rfl
       refine xt_norm ?_
       by_cases hc15 : x11f0 = port
       · first
         | (exfalso; omega)
         | (replace hA := hA.rw 29 (v' := .bool true) rfl (vb_eq_t hc15)
            refine cd_cond_t hA rfl ?_
            refine wp_seq ?_
            exact absurd (by assumption) (hno k _ hx11))
       · first
         | (exfalso; omega)
         | (replace hA := hA.rw 29 (v' := .bool false) rfl (vb_eq_f hc15)
            refine cd_cond_f hA rfl ?_
            refine wp_skip ?_
            refine xb_norm ?_
            refine xt_norm ?_
            refine wp_region_lit ?_
            refine st_run tbOk 1 hA (e' := (42, .int .i64 (IntKind.i64.wrap (((k : Nat) : Int) + 1))) :: _) rfl ?_; clear hA; intro a hA
            replace hA := hA.rw 42 (v' := .int .i64 ((k + 1 : Nat) : Int)) rfl (wr64 (by omega) (by omega) (by omega))
            refine st_run tbOk 1 hA (e' := (21, .int .i64 ((k + 1 : Nat) : Int)) :: _) rfl ?_; clear hA; intro a hA
            refine wpList_nil ?_
            replace hA := hA.sel [0, 1, 2, 6, 19, 20, 21] (e' := [(0, .pointer (some ⟨b, 0, none⟩)), (1, .int .u64 port), (2, .int .i64 id), (6, .pointer (some ⟨b1, 0, none⟩)), (19, .slice (some ⟨b9, o10, none⟩) ms.length c2), (20, .int .i64 ((ms.length : Nat) : Int)), (21, .int .i64 ((k + 1 : Nat) : Int))]) rfl
            replace hS := hS.drop1
            replace hS := hS.front 3 (C := [(b1, rowO [.int .u64 0, .int .u64 0, .int .u32 0, .int .u16 0, .int .u16 0, .int .u64 0, .int .u32 0, .int .u8 0, .int .u64 0, .int .u64 0, .slice none 0 0] 37)]) (L' := [(b, rowO [.slice A ws.length c, .slice (some ⟨b9, o10, none⟩) ms.length c2] 28)] :: C :: C2 :: F) rfl rfl
            replace hS := hS.front 3 (C := C2) (L' := [(b1, rowO [.int .u64 0, .int .u64 0, .int .u32 0, .int .u16 0, .int .u16 0, .int .u64 0, .int .u32 0, .int .u8 0, .int .u64 0, .int .u64 0, .slice none 0 0] 37)] :: [(b, rowO [.slice A ws.length c, .slice (some ⟨b9, o10, none⟩) ms.length c2] 28)] :: C :: F) rfl rfl
            replace hS := hS.front 3 (C := C) (L' := C2 :: [(b1, rowO [.int .u64 0, .int .u64 0, .int .u32 0, .int .u16 0, .int .u16 0, .int .u64 0, .int .u32 0, .int .u8 0, .int .u64 0, .int .u64 0, .slice none 0 0] 37)] :: [(b, rowO [.slice A ws.length c, .slice (some ⟨b9, o10, none⟩) ms.length c2] 28)] :: F) rfl rfl
            replace hS := hS.front 3 (C := [(b, rowO [.slice A ws.length c, .slice (some ⟨b9, o10, none⟩) ms.length c2] 28)]) (L' := C :: C2 :: [(b1, rowO [.int .u64 0, .int .u64 0, .int .u32 0, .int .u16 0, .int .u16 0, .int .u64 0, .int .u32 0, .int .u8 0, .int .u64 0, .int .u64 0, .slice none 0 0] 37)] :: F) rfl rfl
            exact lp_next _ (by omega) ⟨(k + 1), rfl, (hA.sel [0, 1, 2, 6, 19, 20, 21] rfl), hS, by omega⟩))
  · first
    | (exfalso; omega)
    | (replace hA := hA.rw 22 (v' := .bool false) rfl (vb_false hc8)
       refine cd_cond_f hA rfl ?_
       refine wp_exit ?_
       refine xt_exit ?_
       refine xt_exit ?_
       refine cd_exit_eq ?_
       refine xt_norm ?_
       refine wp_seq ?_
       refine wp_seq ?_
       refine wp_region_lit ?_
       refine st_run tbOk 3 hA (e' := (45, .pointer (some ⟨b, 0, none⟩)) :: (44, .pointer (some ⟨b, 0, none⟩)) :: (43, .pointer (some ⟨b, 0, none⟩)) :: _) rfl ?_; clear hA; intro a hA
       refine st_val hA rfl rfl (by decide) (rn_load tbOk hA rfl rfl rfl rfl (cell_row (hS.heapAt 0 rfl) rfl)) ?_; clear hA; intro a hA
       refine st_run tbOk 2 hA (e' := (48, .bool (decide (((ws.length : Nat) : Int) ≥ 64))) :: (47, .int .i64 ((ws.length : Nat) : Int)) :: _) rfl ?_; clear hA; intro a hA
       refine wpList_nil ?_
       replace hA := hA.sel [0, 1, 2, 6, 48] (e' := [(0, .pointer (some ⟨b, 0, none⟩)), (1, .int .u64 port), (2, .int .i64 id), (6, .pointer (some ⟨b1, 0, none⟩)), (48, .bool (decide (((ws.length : Nat) : Int) ≥ 64)))]) rfl
       refine xt_norm ?_
       have hc16 : ¬ (((ws.length : Nat) : Int) ≥ 64) := by omega
       replace hA := hA.rw 48 (v' := .bool false) rfl (vb_false hc16)
       refine cd_cond_f hA rfl ?_
       refine wp_skip ?_
       refine xt_norm ?_
       refine wp_seq ?_
       refine wp_region_lit ?_
       refine st_run tbOk 4 hA (e' := (54, .pointer (some ⟨b, 0, none⟩)) :: (53, .pointer (some ⟨b, 0, none⟩)) :: (52, .pointer (some ⟨b, 0, none⟩)) :: (51, .pointer (some ⟨b, 0, none⟩)) :: _) rfl ?_; clear hA; intro a hA
       refine st_val hA rfl rfl (by decide) (rn_load tbOk hA rfl rfl rfl rfl (cell_row (hS.heapAt 0 rfl) rfl)) ?_; clear hA; intro a hA
       refine st_run tbOk 3 hA (e' := (58, .agg #[.int .u64 port, .int .i64 id]) :: (57, .int .i64 id) :: (56, .int .u64 port) :: _) rfl ?_; clear hA; intro a hA
       refine st_buildSlice tbOk hA hS [.int .u64 port, .int .i64 id] rfl rfl rfl rfl rfl (by decide) (by kernel_rfl) rfl rfl (by decide) ?_; clear hA hS; intro b17 w18 a hS hA
       replace hS := hS.front 2 (C := C) (L' := [(b17, rowO [.int .u64 port, .int .i64 id] 57)] :: [(b, rowO [.slice A ws.length c, .slice A2 ms.length c2] 28)] :: C2 :: [(b1, rowO [.int .u64 0, .int .u64 0, .int .u32 0, .int .u16 0, .int .u16 0, .int .u64 0, .int .u32 0, .int .u8 0, .int .u64 0, .int .u64 0, .slice none 0 0] 37)] :: F) rfl rfl
       refine st_append tbOk hA (m := ws.length) (q := 1) (xs := rows encWait ws) (news := rows encWait ([(port, id)] : List (Int × Int))) rfl rfl rfl rfl rfl rfl rfl rfl (by decide) hO hS (((Own.full (T := 57) (size := 2) (g := b17) (m := 1) rfl (by decide)).rd (hS.own_ 1 rfl)).x) (rows_one encWait_ok _) (maxLen_le (by first | omega | (simp; omega))) (by show (ws.length + 1) * 16 ≤ 140737488355328; first | omega | (simp; omega)) rfl rfl (by decide) ?_
       clear hA hS; intro v19 w20 C21 a hO21 hS hA
       replace hO21 := Own.app (l := ws) (l2 := ([(port, id)] : List (Int × Int))) hO21
       obtain ⟨A22, c23, rfl, hmc23, hxc23⟩ := hO21.open'
       refine st_run tbOk 2 hA (e' := (62, .pointer (some ⟨b, 0, none⟩)) :: (61, .pointer (some ⟨b, 0, none⟩)) :: _) rfl ?_; clear hA; intro a hA
       replace hS := hS.front 2 (C := [(b, rowO [.slice A ws.length c, .slice A2 ms.length c2] 28)]) (L' := C21 :: [(b17, rowO [.int .u64 port, .int .i64 id] 57)] :: C2 :: [(b1, rowO [.int .u64 0, .int .u64 0, .int .u32 0, .int .u16 0, .int .u16 0, .int .u64 0, .int .u32 0, .int .u8 0, .int .u64 0, .int .u64 0, .slice none 0 0] 37)] :: F) rfl rfl
       refine st_store tbOk hA hS [.slice A22 ((ws ++ ([(port, id)] : List (Int × Int))).length) c23] [.slice A22 ((ws ++ ([(port, id)] : List (Int × Int))).length) c23, .slice A2 ms.length c2] rfl rfl rfl rfl rfl rfl (by intro u hu; rw [List.mem_singleton.1 hu]; rfl) (Nat.le_of_ble_eq_true rfl) rfl rfl rfl ?_; clear hS; intro w24 hS
       refine wpList_nil ?_
       replace hA := hA.sel [6] (e' := [(6, .pointer (some ⟨b1, 0, none⟩))]) rfl
       refine xt_norm ?_
       refine wp_seq ?_
       refine wp_region_lit ?_
       refine st_run tbOk 1 hA (e' := (63, .agg #[.int .u64 0, .int .u64 0, .int .u32 0, .int .u16 0, .int .u16 0, .int .u64 0, .int .u32 0, .int .u8 0, .int .u64 0, .int .u64 0, .slice none 0 0]) :: _) rfl ?_; clear hA; intro a hA
       replace hS := hS.front 4 (C := [(b1, rowO [.int .u64 0, .int .u64 0, .int .u32 0, .int .u16 0, .int .u16 0, .int .u64 0, .int .u32 0, .int .u8 0, .int .u64 0, .int .u64 0, .slice none 0 0] 37)]) (L' := [(b, rowO [.slice A22 ((ws ++ ([(port, id)] : List (Int × Int))).length) c23, .slice A2 ms.length c2] 28)] :: C21 :: [(b17, rowO [.int .u64 port, .int .i64 id] 57)] :: C2 :: F) rfl rfl
       refine st_store tbOk hA hS [.int .u64 0, .int .u64 0, .int .u32 0, .int .u16 0, .int .u16 0, .int .u64 0, .int .u32 0, .int .u8 0, .int .u64 0, .int .u64 0, .slice none 0 0] [.int .u64 0, .int .u64 0, .int .u32 0, .int .u16 0, .int .u16 0, .int .u64 0, .int .u32 0, .int .u8 0, .int .u64 0, .int .u64 0, .slice none 0 0] rfl rfl rfl rfl rfl rfl (by simp [Value.oneCell']) (Nat.le_of_ble_eq_true rfl) rfl rfl rfl ?_; clear hS; intro w25 hS
       refine st_run tbOk 2 hA (e' := (8, .nilIface) :: (7, .bool false) :: _) rfl ?_; clear hA; intro a hA
       refine wpList_nil ?_
       replace hA := hA.sel [6, 7, 8] (e' := [(6, .pointer (some ⟨b1, 0, none⟩)), (7, .bool false), (8, .nilIface)]) rfl
       refine xt_norm ?_
       refine wp_ret ?_
       refine retc3 tbOk (fn := Tryd.f8) (cs := [.int .u64 0, .int .u64 0, .int .u32 0, .int .u16 0, .int .u16 0, .int .u64 0, .int .u32 0, .int .u8 0, .int .u64 0, .int .u64 0, .slice none 0 0]) hA rfl rfl rfl rfl rfl rfl rfl (cells_row (hS.heapAt 0 rfl) rfl) ?_
       replace hS := hS.drop1
       replace hS := hS.front 2 (C := [(b17, rowO [.int .u64 port, .int .i64 id] 57)]) (L' := [(b, rowO [.slice A22 ((ws ++ ([(port, id)] : List (Int × Int))).length) c23, .slice A2 ms.length c2] 28)] :: C21 :: C2 :: F) rfl rfl
       replace hS := hS.drop1
       replace hS := hS.front 2 (C := C2) (L' := [(b, rowO [.slice A22 ((ws ++ ([(port, id)] : List (Int × Int))).length) c23, .slice A2 ms.length c2] 28)] :: C21 :: F) rfl rfl
       replace hS := hS.front 2 (C := C21) (L' := C2 :: [(b, rowO [.slice A22 ((ws ++ ([(port, id)] : List (Int × Int))).length) c23, .slice A2 ms.length c2] 28)] :: F) rfl rfl
       replace hS := hS.front 2 (C := [(b, rowO [.slice A22 ((ws ++ ([(port, id)] : List (Int × Int))).length) c23, .slice A2 ms.length c2] 28)]) (L' := C21 :: C2 :: F) rfl rfl
       replace hS := hS.join3
       exact ⟨_, ⟨_, _, _, _, hO21, hQ, rfl⟩, rfl, hS⟩)

theorem offer_hit6 {w0 w : World} {F : List Chunk} {L D : Chunk} {b : Nat} {ws : List (Int × Int)} {ms : List Msg} (hS : St w0 w (L :: D :: F)) (hM : MR b ws ms L) (m0 m1 m2 m3 m4 m5 m6 m7 m8 m9 : Int) {d : Value} {bs : List UInt8} (hd : RdSX w0 (D :: F) 1 d bs.length (rows encB bs)) (hbl : bs.length ≤ 140737488351232) {k0 : Nat} {x0 : Int × Int} (hk0 : ws[k0]? = some x0) (hp0 : x0.1 = m0) (hb : ∀ (i : Nat) (y : Int × Int), i < k0 → ws[i]? = some y → ¬ y.1 = m0) :
    Ret Tryd.prog 6 #[.pointer (some ⟨b, 0, none⟩), .agg #[.int .u64 m0, .int .u64 m1, .int .u32 m2, .int .u16 m3, .int .u16 m4, .int .u64 m5, .int .u32 m6, .int .u8 m7, .int .u64 m8, .int .u64 m9, d]] w (fun v w' => ∃ L', MR b (ws.take k0 ++ ws.drop (k0 + 1)) ms L' ∧ v = .tuple #[.int .i64 x0.2, .bool true, .nilIface] ∧ St w0 w' (L' :: D :: F)) := by
  obtain ⟨v, C, v2, C2, hO, hQ, rfl⟩ := hM
  obtain ⟨A, c, rfl, hmc, hcx⟩ := hO.open'
  obtain ⟨A2, c2, rfl, hmc2, hcx2⟩ := hQ.open'
  replace hS : St w0 w ([(b, rowO [.slice A ws.length c, .slice A2 ms.length c2] 28)] :: C :: C2 :: D :: F) := hS.split3
  obtain ⟨B, d', rfl, hmd, hdx⟩ := (hd _ (hS.tail 3 rfl)).open'
  refine enter (vs := [.pointer (some ⟨b, 0, none⟩), .agg #[.int .u64 m0, .int .u64 m1, .int .u32 m2, .int .u16 m3, .int .u16 m4, .int .u64 m5, .int .u32 m6, .int .u8 m7, .int .u64 m8, .int .u64 m9, .slice B bs.length d']]) 59 Tryd.func6 rfl rfl (by simp) ?_; intro a hA
  have hk0l := (List.getElem?_eq_some_iff.1 hk0).1
  refine wp_seq ?_
  refine wp_region_lit ?_
  refine st_box hA hS [.int .u64 m0, .int .u64 m1, .int .u32 m2, .int .u16 m3, .int .u16 m4, .int .u64 m5, .int .u32 m6, .int .u8 m7, .int .u64 m8, .int .u64 m9, .slice B bs.length d'] rfl rfl rfl rfl rfl (by decide) ?_; clear hA hS; intro b1 w2 a hS hA
  refine st_run tbOk 3 hA (e' := (6, .nilIface) :: (5, .bool false) :: (4, .int .i64 0) :: _) rfl ?_; clear hA; intro a hA
  refine wpList_nil ?_
  replace hA := hA.sel [0, 3] (e' := [(0, .pointer (some ⟨b, 0, none⟩)), (3, .pointer (some ⟨b1, 0, none⟩))]) rfl
  refine xt_norm ?_
  refine wp_seq ?_
  refine wp_seq ?_
  refine wp_region_lit ?_
  refine st_run tbOk 3 hA (e' := (11, .pointer (some ⟨b, 0, none⟩)) :: (10, .pointer (some ⟨b, 0, none⟩)) :: (9, .pointer (some ⟨b, 0, none⟩)) :: _) rfl ?_; clear hA; intro a hA
  refine st_val hA rfl rfl (by decide) (rn_load tbOk hA rfl rfl rfl rfl (cell_row (hS.heapAt 1 rfl) rfl)) ?_; clear hA; intro a hA
  refine st_run tbOk 2 hA (e' := (14, .int .i64 0) :: (13, .int .i64 ((ws.length : Nat) : Int)) :: _) rfl ?_; clear hA; intro a hA
  refine wpList_nil ?_
  replace hA := hA.sel [0, 3, 12, 13, 14] (e' := [(0, .pointer (some ⟨b, 0, none⟩)), (3, .pointer (some ⟨b1, 0, none⟩)), (12, .slice A ws.length c), (13, .int .i64 ((ws.length : Nat) : Int)), (14, .int .i64 0)]) rfl
  refine xt_norm ?_
  refine wp_block ?_
  refine wp_loop_ghost (fun m a w => ∃ (k : Nat), m = ws.length - k ∧ Has a 59 [(0, .pointer (some ⟨b, 0, none⟩)), (3, .pointer (some ⟨b1, 0, none⟩)), (12, .slice A ws.length c), (13, .int .i64 ((ws.length : Nat) : Int)), (14, .int .i64 ((k : Nat) : Int))] ∧ St w0 w ([(b1, rowO [.int .u64 m0, .int .u64 m1, .int .u32 m2, .int .u16 m3, .int .u16 m4, .int .u64 m5, .int .u32 m6, .int .u8 m7, .int .u64 m8, .int .u64 m9, .slice B bs.length d'] 37)] :: [(b, rowO [.slice A ws.length c, .slice A2 ms.length c2] 28)] :: C :: C2 :: D :: F) ∧ (k ≤ k0)) (ws.length - 0)
    ⟨0, rfl, (hA.sel [0, 3, 12, 13, 14] rfl), hS, Nat.zero_le _⟩ ?_
  clear hA hS; rintro m0 a w3 ⟨k, rfl, hA, hS, hk⟩
  refine wp_seq ?_
  refine wp_region_lit ?_
  refine st_run tbOk 1 hA (e' := (15, .bool (decide (((k : Nat) : Int) < ((ws.length : Nat) : Int)))) :: _) rfl ?_; clear hA; intro a hA
  refine wpList_nil ?_
  refine xt_norm ?_
  refine wp_seq ?_
  by_cases hc4 : ((k : Nat) : Int) < ((ws.length : Nat) : Int)
  · first
    | (exfalso; omega)
    | (replace hA := hA.rw 15 (v' := .bool true) rfl (vb_true hc4)
       refine cd_cond_t hA rfl ?_
       refine wp_skip ?_
       refine xt_norm ?_
       refine wp_seq ?_
       refine wp_block ?_
       refine wp_seq ?_
       refine wp_region_lit ?_
       refine st_run tbOk 1 hA (e' := (16, .int .i64 ((k : Nat) : Int)) :: _) rfl ?_; clear hA; intro a hA
       obtain ⟨b5, o6, rfl⟩ := hO.isSome (k := k) (by omega)
       refine st_val hA rfl rfl (by decide) (rn_indexAddr tbOk hA k (o6 + (k * 2)) rfl rfl rfl rfl rfl rfl (by rfl) (by omega) (by first | rfl | simp [Nat.mul_one, Nat.zero_add] | omega)) ?_; clear hA; intro a hA
       obtain ⟨x7, hx7⟩ := get_ex (l := ws) (k := k) (by omega)
       refine st_val hA rfl rfl (by decide) (rn_loadA tbOk hA ([.int .u64 x7.1, .int .i64 x7.2]) rfl rfl rfl rfl (by rfl) ((hO.rd (hS.own_ 2 rfl)).elem (k := k) encWait_ok hx7)) ?_; clear hA; intro a hA
       refine st_alloc tbOk hA hS [.int .u64 0, .int .i64 0] rfl rfl rfl rfl rfl (by decide) ?_; clear hA hS; intro b8 w9 a hS hA
       refine st_run tbOk 1 hA (e' := (7, .int .i64 ((k : Nat) : Int)) :: _) rfl ?_; clear hA; intro a hA
       refine st_store tbOk hA hS [.int .u64 x7.1, .int .i64 x7.2] [.int .u64 x7.1, .int .i64 x7.2] rfl rfl rfl rfl rfl rfl (by simp [Value.oneCell']) (Nat.le_of_ble_eq_true rfl) rfl rfl rfl ?_; clear hS; intro w10 hS
       refine wpList_nil ?_
       replace hA := hA.sel [0, 3, 7, 8, 12, 13, 14] (e' := [(0, .pointer (some ⟨b, 0, none⟩)), (3, .pointer (some ⟨b1, 0, none⟩)), (7, .int .i64 ((k : Nat) : Int)), (8, .pointer (some ⟨b8, 0, none⟩)), (12, .slice (some ⟨b5, o6, none⟩) ws.length c), (13, .int .i64 ((ws.length : Nat) : Int)), (14, .int .i64 ((k : Nat) : Int))]) rfl
       refine xt_norm ?_
       refine wp_seq ?_
       refine wp_region_lit ?_
       refine st_run tbOk 1 hA (e' := (19, .pointer (some ⟨b8, 0, none⟩)) :: _) rfl ?_; clear hA; intro a hA
       refine st_val hA rfl rfl (by decide) (rn_load tbOk hA rfl rfl rfl rfl (cell_row (hS.heapAt 0 rfl) rfl)) ?_; clear hA; intro a hA
       refine st_run tbOk 1 hA (e' := (21, .pointer (some ⟨b1, 0, none⟩)) :: _) rfl ?_; clear hA; intro a hA
       refine st_val hA rfl rfl (by decide) (rn_load tbOk hA rfl rfl rfl rfl (cell_row (hS.heapAt 1 rfl) rfl)) ?_; clear hA; intro a hA
       refine st_run tbOk 1 hA (e' := (23, .bool (x7.1 == m0)) :: _) rfl ?_; clear hA; intro a hA
       refine wpList_nil ?_
       replace hA := hA.sel [0, 3, 7, 8, 12, 13, 14, 23] (e' := [(0, .pointer (some ⟨b, 0, none⟩)), (3, .pointer (some ⟨b1, 0, none⟩)), (7, .int .i64 ((k : Nat) : Int)), (8, .pointer (some ⟨b8, 0, none⟩)), (12, .slice (some ⟨b5, o6, none⟩) ws.length c), (13, .int .i64 ((ws.length : Nat) : Int)), (14, .int .i64 ((k : Nat) : Int)), (23, .bool (x7.1 == m0))]) rfl
       refine xt_norm ?_
       by_cases hc11 : x7.1 = m0
       · first
         | (exfalso; omega)
         | (replace hA := hA.rw 23 (v' := .bool true) rfl (vb_eq_t hc11)
            refine cd_cond_t hA rfl ?_
            refine wp_seq ?_
            have hjk : k = k0 := by
                rcases Nat.lt_or_ge k k0 with h | h
                · exact absurd (by assumption) (hb _ _ h hx7)
                · omega
            subst hjk
            refine wp_region_lit ?_
            refine st_run tbOk 4 hA (e' := (27, .pointer (some ⟨b, 0, none⟩)) :: (26, .pointer (some ⟨b, 0, none⟩)) :: (25, .pointer (some ⟨b, 0, none⟩)) :: (24, .pointer (some ⟨b, 0, none⟩)) :: _) rfl ?_; clear hA; intro a hA
            refine st_val hA rfl rfl (by decide) (rn_load tbOk hA rfl rfl rfl rfl (cell_row (hS.heapAt 2 rfl) rfl)) ?_; clear hA; intro a hA
            refine st_run tbOk 3 hA (e' := (31, .int .i64 (IntKind.i64.wrap (((k : Nat) : Int) + 1))) :: (30, .int .i64 ((k : Nat) : Int)) :: (29, .int .i64 ((k : Nat) : Int)) :: _) rfl ?_; clear hA; intro a hA
            replace hA := hA.rw 31 (v' := .int .i64 ((k + 1 : Nat) : Int)) rfl (wr64 (by omega) (by omega) (by omega))
            replace hS := hS.front 3 (C := C) (L' := [(b8, rowO [.int .u64 x7.1, .int .i64 x7.2] 57)] :: [(b1, rowO [.int .u64 m0, .int .u64 m1, .int .u32 m2, .int .u16 m3, .int .u16 m4, .int .u64 m5, .int .u32 m6, .int .u8 m7, .int .u64 m8, .int .u64 m9, .slice B bs.length d'] 37)] :: [(b, rowO [.slice (some ⟨b5, o6, none⟩) ws.length c, .slice A2 ms.length c2] 28)] :: C2 :: D :: F) rfl rfl
            refine st_call0 hA rfl rfl rfl isfn14 rfl rfl (by decide) (delete14 hS hO k (k + 1) (by omega) (by omega)) ?_
            clear hA hS; rintro v12 w13 a ⟨C14, hO14, hS⟩ hA
            obtain ⟨A15, c16, rfl, hmc16, hxc16⟩ := hO14.open'
            refine st_run tbOk 2 hA (e' := (34, .pointer (some ⟨b, 0, none⟩)) :: (33, .pointer (some ⟨b, 0, none⟩)) :: _) rfl ?_; clear hA; intro a hA
            replace hS := hS.front 3 (C := [(b, rowO [.slice (some ⟨b5, o6, none⟩) ws.length c, .slice A2 ms.length c2] 28)]) (L' := C14 :: [(b8, rowO [.int .u64 x7.1, .int .i64 x7.2] 57)] :: [(b1, rowO [.int .u64 m0, .int .u64 m1, .int .u32 m2, .int .u16 m3, .int .u16 m4, .int .u64 m5, .int .u32 m6, .int .u8 m7, .int .u64 m8, .int .u64 m9, .slice B bs.length d'] 37)] :: C2 :: D :: F) rfl rfl
            refine st_store tbOk hA hS [.slice A15 ((ws.take k ++ ws.drop (k + 1)).length) c16] [.slice A15 ((ws.take k ++ ws.drop (k + 1)).length) c16, .slice A2 ms.length c2] rfl rfl rfl rfl rfl rfl (by intro u hu; rw [List.mem_singleton.1 hu]; rfl) (Nat.le_of_ble_eq_true rfl) rfl rfl rfl ?_; clear hS; intro w17 hS
            refine wpList_nil ?_
            replace hA := hA.sel [8] (e' := [(8, .pointer (some ⟨b8, 0, none⟩))]) rfl
            refine xt_norm ?_
            refine wp_seq ?_
            refine wp_region_lit ?_
            refine st_run tbOk 1 hA (e' := (35, .pointer (some ⟨b8, 1, none⟩)) :: _) rfl ?_; clear hA; intro a hA
            refine st_val hA rfl rfl (by decide) (rn_load tbOk hA rfl rfl rfl rfl (cell_row (hS.heapAt 2 rfl) rfl)) ?_; clear hA; intro a hA
            refine st_run tbOk 3 hA (e' := (6, .nilIface) :: (5, .bool true) :: (4, .int .i64 x7.2) :: _) rfl ?_; clear hA; intro a hA
            refine wpList_nil ?_
            replace hA := hA.sel [4, 5, 6] (e' := [(4, .int .i64 x7.2), (5, .bool true), (6, .nilIface)]) rfl
            refine xt_norm ?_
            refine wp_ret (xb_ret (xt_ret (xt_ret (xb_ret (xt_ret ?_)))))
            refine ret3 (fn := Tryd.f6) hA rfl rfl rfl rfl ?_
            replace hS := hS.front 2 (C := [(b8, rowO [.int .u64 x7.1, .int .i64 x7.2] 57)]) (L' := [(b, rowO [.slice A15 ((ws.take k ++ ws.drop (k + 1)).length) c16, .slice A2 ms.length c2] 28)] :: C14 :: [(b1, rowO [.int .u64 m0, .int .u64 m1, .int .u32 m2, .int .u16 m3, .int .u16 m4, .int .u64 m5, .int .u32 m6, .int .u8 m7, .int .u64 m8, .int .u64 m9, .slice B bs.length d'] 37)] :: C2 :: D :: F) rfl rfl
            replace hS := hS.drop1
            replace hS := hS.front 2 (C := [(b1, rowO [.int .u64 m0, .int .u64 m1, .int .u32 m2, .int .u16 m3, .int .u16 m4, .int .u64 m5, .int .u32 m6, .int .u8 m7, .int .u64 m8, .int .u64 m9, .slice B bs.length d'] 37)]) (L' := [(b, rowO [.slice A15 ((ws.take k ++ ws.drop (k + 1)).length) c16, .slice A2 ms.length c2] 28)] :: C14 :: C2 :: D :: F) rfl rfl
            replace hS := hS.drop1
            replace hS := hS.front 2 (C := C2) (L' := [(b, rowO [.slice A15 ((ws.take k ++ ws.drop (k + 1)).length) c16, .slice A2 ms.length c2] 28)] :: C14 :: D :: F) rfl rfl
            replace hS := hS.front 2 (C := C14) (L' := C2 :: [(b, rowO [.slice A15 ((ws.take k ++ ws.drop (k + 1)).length) c16, .slice A2 ms.length c2] 28)] :: D :: F) rfl rfl
            replace hS := hS.front 2 (C := [(b, rowO [.slice A15 ((ws.take k ++ ws.drop (k + 1)).length) c16, .slice A2 ms.length c2] 28)]) (L' := C14 :: C2 :: D :: F) rfl rfl
            replace hS := hS.front 3 (C := D) (L' := [(b, rowO [.slice A15 ((ws.take k ++ ws.drop (k + 1)).length) c16, .slice A2 ms.length c2] 28)] :: C14 :: C2 :: F) rfl rfl
            replace hS := hS.front 3 (C := C2) (L' := D :: [(b, rowO [.slice A15 ((ws.take k ++ ws.drop (k + 1)).length) c16, .slice A2 ms.length c2] 28)] :: C14 :: F) rfl rfl
            replace hS := hS.front 3 (C := C14) (L' := C2 :: D :: [(b, rowO [.slice A15 ((ws.take k ++ ws.drop (k + 1)).length) c16, .slice A2 ms.length c2] 28)] :: F) rfl rfl
            replace hS := hS.front 3 (C := [(b, rowO [.slice A15 ((ws.take k ++ ws.drop (k + 1)).length) c16, .slice A2 ms.length c2] 28)]) (L' := C14 :: C2 :: D :: F) rfl rfl
            replace hS := hS.join3
            rw [hx7] at hk0; injection hk0 with hk0; subst hk0
            exact ⟨_, ⟨_, _, _, _, hO14, hQ, rfl⟩, rfl, hS⟩)
       · first
         | (exfalso; omega)
         | (replace hA := hA.rw 23 (v' := .bool false) rfl (vb_eq_f hc11)
            refine cd_cond_f hA rfl ?_
            refine wp_skip ?_
            refine xb_norm ?_
            refine xt_norm ?_
            refine wp_region_lit ?_
            refine st_run tbOk 1 hA (e' := (37, .int .i64 (IntKind.i64.wrap (((k : Nat) : Int) + 1))) :: _) rfl ?_; clear hA; intro a hA
            replace hA := hA.rw 37 (v' := .int .i64 ((k + 1 : Nat) : Int)) rfl (wr64 (by omega) (by omega) (by omega))
            refine st_run tbOk 1 hA (e' := (14, .int .i64 ((k + 1 : Nat) : Int)) :: _) rfl ?_; clear hA; intro a hA
            refine wpList_nil ?_
            replace hA := hA.sel [0, 3, 12, 13, 14] (e' := [(0, .pointer (some ⟨b, 0, none⟩)), (3, .pointer (some ⟨b1, 0, none⟩)), (12, .slice (some ⟨b5, o6, none⟩) ws.length c), (13, .int .i64 ((ws.length : Nat) : Int)), (14, .int .i64 ((k + 1 : Nat) : Int))]) rfl
            replace hS := hS.drop1
            replace hS := hS.front 4 (C := D) (L' := [(b1, rowO [.int .u64 m0, .int .u64 m1, .int .u32 m2, .int .u16 m3, .int .u16 m4, .int .u64 m5, .int .u32 m6, .int .u8 m7, .int .u64 m8, .int .u64 m9, .slice B bs.length d'] 37)] :: [(b, rowO [.slice (some ⟨b5, o6, none⟩) ws.length c, .slice A2 ms.length c2] 28)] :: C :: C2 :: F) rfl rfl
            replace hS := hS.front 4 (C := C2) (L' := D :: [(b1, rowO [.int .u64 m0, .int .u64 m1, .int .u32 m2, .int .u16 m3, .int .u16 m4, .int .u64 m5, .int .u32 m6, .int .u8 m7, .int .u64 m8, .int .u64 m9, .slice B bs.length d'] 37)] :: [(b, rowO [.slice (some ⟨b5, o6, none⟩) ws.length c, .slice A2 ms.length c2] 28)] :: C :: F) rfl rfl
            replace hS := hS.front 4 (C := C) (L' := C2 :: D :: [(b1, rowO [.int .u64 m0, .int .u64 m1, .int .u32 m2, .int .u16 m3, .int .u16 m4, .int .u64 m5, .int .u32 m6, .int .u8 m7, .int .u64 m8, .int .u64 m9, .slice B bs.length d'] 37)] :: [(b, rowO [.slice (some ⟨b5, o6, none⟩) ws.length c, .slice A2 ms.length c2] 28)] :: F) rfl rfl
            replace hS := hS.front 4 (C := [(b, rowO [.slice (some ⟨b5, o6, none⟩) ws.length c, .slice A2 ms.length c2] 28)]) (L' := C :: C2 :: D :: [(b1, rowO [.int .u64 m0, .int .u64 m1, .int .u32 m2, .int .u16 m3, .int .u16 m4, .int .u64 m5, .int .u32 m6, .int .u8 m7, .int .u64 m8, .int .u64 m9, .slice B bs.length d'] 37)] :: F) rfl rfl
            replace hS := hS.front 4 (C := [(b1, rowO [.int .u64 m0, .int .u64 m1, .int .u32 m2, .int .u16 m3, .int .u16 m4, .int .u64 m5, .int .u32 m6, .int .u8 m7, .int .u64 m8, .int .u64 m9, .slice B bs.length d'] 37)]) (L' := [(b, rowO [.slice (some ⟨b5, o6, none⟩) ws.length c, .slice A2 ms.length c2] 28)] :: C :: C2 :: D :: F) rfl rfl
            have hkk : ¬ k = k0 := fun e => by subst e; rw [hk0] at hx7; injection hx7 with e2; subst e2; omega
            exact lp_next _ (by omega) ⟨(k + 1), rfl, (hA.sel [0, 3, 12, 13, 14] rfl), hS, by omega⟩))
  · first
    | (exfalso; omega)
    | (replace hA := hA.rw 15 (v' := .bool false) rfl (vb_false hc4)
       refine cd_cond_f hA rfl ?_
       refine wp_exit ?_
       refine xt_exit ?_
       refine xt_exit ?_
       refine cd_exit_eq ?_
       refine xt_norm ?_
       refine wp_seq ?_
       refine wp_seq ?_
       refine wp_region_lit ?_
       refine st_run tbOk 3 hA (e' := (40, .pointer (some ⟨b, 1, none⟩)) :: (39, .pointer (some ⟨b, 0, none⟩)) :: (38, .pointer (some ⟨b, 0, none⟩)) :: _) rfl ?_; clear hA; intro a hA
       refine st_val hA rfl rfl (by decide) (rn_load tbOk hA rfl rfl rfl rfl (cell_row (hS.heapAt 1 rfl) rfl)) ?_; clear hA; intro a hA
       refine st_run tbOk 2 hA (e' := (43, .bool (decide (((ms.length : Nat) : Int) ≥ 64))) :: (42, .int .i64 ((ms.length : Nat) : Int)) :: _) rfl ?_; clear hA; intro a hA
       refine wpList_nil ?_
       replace hA := hA.sel [0, 3, 43] (e' := [(0, .pointer (some ⟨b, 0, none⟩)), (3, .pointer (some ⟨b1, 0, none⟩)), (43, .bool (decide (((ms.length : Nat) : Int) ≥ 64)))]) rfl
       refine xt_norm ?_
       have hc18 : ¬ (((ms.length : Nat) : Int) ≥ 64) := by omega
       replace hA := hA.rw 43 (v' := .bool false) rfl (vb_false hc18)
       refine cd_cond_f hA rfl ?_
       refine wp_skip ?_
       refine xt_norm ?_
       refine wp_seq ?_
       refine wp_region_lit ?_
       refine st_run tbOk 1 hA (e' := (45, .pointer (some ⟨b1, 10, none⟩)) :: _) rfl ?_; clear hA; intro a hA
       refine st_val hA rfl rfl (by decide) (rn_load tbOk hA rfl rfl rfl rfl (cell_row (hS.heapAt 0 rfl) rfl)) ?_; clear hA; intro a hA
       refine st_call0 hA rfl rfl rfl isfn15 rfl rfl (by decide) (clonex15 hS (l := bs) (fun w' h => (hd _ (h.tail 4 rfl))) (by first | omega | (simp; omega))) ?_
       clear hA hS; rintro _ w22 a ⟨A19, c20, C21, hOC21, rfl, hS⟩ hA
       refine st_run tbOk 1 hA (e' := (48, .pointer (some ⟨b1, 10, none⟩)) :: _) rfl ?_; clear hA; intro a hA
       replace hS := hS.front 1 (C := [(b1, rowO [.int .u64 m0, .int .u64 m1, .int .u32 m2, .int .u16 m3, .int .u16 m4, .int .u64 m5, .int .u32 m6, .int .u8 m7, .int .u64 m8, .int .u64 m9, .slice B bs.length d'] 37)]) (L' := C21 :: [(b, rowO [.slice A ws.length c, .slice A2 ms.length c2] 28)] :: C :: C2 :: D :: F) rfl rfl
       refine st_store tbOk hA hS [.slice A19 bs.length c20] [.int .u64 m0, .int .u64 m1, .int .u32 m2, .int .u16 m3, .int .u16 m4, .int .u64 m5, .int .u32 m6, .int .u8 m7, .int .u64 m8, .int .u64 m9, .slice A19 bs.length c20] rfl rfl rfl rfl rfl rfl (by intro u hu; rw [List.mem_singleton.1 hu]; rfl) (Nat.le_of_ble_eq_true rfl) rfl rfl rfl ?_; clear hS; intro w23 hS
       refine wpList_nil ?_
       replace hA := hA.sel [0, 3] (e' := [(0, .pointer (some ⟨b, 0, none⟩)), (3, .pointer (some ⟨b1, 0, none⟩))]) rfl
       refine xt_norm ?_
       refine wp_seq ?_
       replace hS := hS.front 4 (C := C2) (L' := [(b1, rowO [.int .u64 m0, .int .u64 m1, .int .u32 m2, .int .u16 m3, .int .u16 m4, .int .u64 m5, .int .u32 m6, .int .u8 m7, .int .u64 m8, .int .u64 m9, .slice A19 bs.length c20] 37)] :: C21 :: [(b, rowO [.slice A ws.length c, .slice A2 ms.length c2] 28)] :: C :: D :: F) rfl rfl
       refine wp_draw (fun w' => St w0 w' ([(b1, rowO [.int .u64 m0, .int .u64 m1, .int .u32 m2, .int .u16 m3, .int .u16 m4, .int .u64 m5, .int .u32 m6, .int .u8 m7, .int .u64 m8, .int .u64 m9, .slice A19 bs.length c20] 37)] :: C21 :: [(b, rowO [.slice A ws.length c, .slice A2 ms.length c2] 28)] :: C :: D :: F)) [10] [(0, true), (1, true), (2, true), (3, true), (4, true), (5, true), (6, false), (7, false), (8, true), (9, true), (10, false)] mixed (by kernel_rfl) (by rintro c a w ⟨_, _, h, _⟩; cases h) (by rfl) (by kernel_rfl) ?_
       replace hS := hS.drew
       refine dr_run tbOk 4 hA (hS.tail 1 rfl) (e' := (52, .pointer (some ⟨b, 1, none⟩)) :: (51, .pointer (some ⟨b, 0, none⟩)) :: (50, .pointer (some ⟨b, 0, none⟩)) :: (49, .pointer (some ⟨b, 0, none⟩)) :: _) rfl ?_; clear hA; intro a hA
       refine dr_y hA rfl rfl rfl (by decide) (hS.tail 1 rfl) (fun w' hS' => rn_load tbOk hA rfl rfl rfl rfl (cell_row (hS'.heapAt 2 rfl) rfl)) ?_; clear hA; intro a hA
       refine dr_y hA rfl rfl rfl (by decide) (hS.tail 1 rfl) (fun w' hS' => rn_loadA tbOk hA [.int .u64 m0, .int .u64 m1, .int .u32 m2, .int .u16 m3, .int .u16 m4, .int .u64 m5, .int .u32 m6, .int .u8 m7, .int .u64 m8, .int .u64 m9, .slice A19 bs.length c20] rfl rfl rfl rfl rfl (cells_row (hS'.heapAt 0 rfl) rfl)) ?_; clear hA; intro a hA
       refine dr_b (o := _) rfl ?_
       refine st_buildSlice tbOk hA hS [.int .u64 m0, .int .u64 m1, .int .u32 m2, .int .u16 m3, .int .u16 m4, .int .u64 m5, .int .u32 m6, .int .u8 m7, .int .u64 m8, .int .u64 m9, .slice A19 bs.length c20] rfl rfl rfl rfl rfl (by decide) (by kernel_rfl) rfl rfl (by decide) ?_; clear hA hS; intro b24 w25 a hS hA
       refine dr_nil (.inr (hS.tail 2 rfl)) ?_
       refine dr_b (o := _) rfl ?_
       replace hS := hS.front 1 (C := C2) (L' := [(b24, rowO [.int .u64 m0, .int .u64 m1, .int .u32 m2, .int .u16 m3, .int .u16 m4, .int .u64 m5, .int .u32 m6, .int .u8 m7, .int .u64 m8, .int .u64 m9, .slice A19 bs.length c20] 37)] :: [(b1, rowO [.int .u64 m0, .int .u64 m1, .int .u32 m2, .int .u16 m3, .int .u16 m4, .int .u64 m5, .int .u32 m6, .int .u8 m7, .int .u64 m8, .int .u64 m9, .slice A19 bs.length c20] 37)] :: C21 :: [(b, rowO [.slice A ws.length c, .slice A2 ms.length c2] 28)] :: C :: D :: F) rfl rfl
       refine st_append tbOk hA (m := ms.length) (q := 1) (xs := rows encMessage ms) (news := rows encMessage ([(m0, m1, m2, m3, m4, m5, m6, m7, m8, m9, A19, c20, bs)] : List (Int × Int × Int × Int × Int × Int × Int × Int × Int × Int × Option Addr × Nat × List UInt8))) rfl rfl rfl rfl rfl rfl rfl rfl (by decide) hQ hS (((Own.full (T := 37) (size := 11) (g := b24) (m := 1) rfl (by decide)).rd (hS.own_ 1 rfl)).x) (rows_one encMessage_ok _) (maxLen_le (by first | omega | (simp; omega))) (by show (ms.length + 1) * 80 ≤ 140737488355328; first | omega | (simp; omega)) rfl rfl (by decide) ?_
       clear hA hS; intro v26 w27 C28 a hO28 hS hA
       replace hO28 := Own.app (l := ms) (l2 := ([(m0, m1, m2, m3, m4, m5, m6, m7, m8, m9, A19, c20, bs)] : List (Int × Int × Int × Int × Int × Int × Int × Int × Int × Int × Option Addr × Nat × List UInt8))) hO28
       obtain ⟨A29, c30, rfl, hmc30, hxc30⟩ := hO28.open'
       refine dr_nil (.inr (hS.tail 2 rfl)) ?_
       refine dr_run tbOk 2 hA (hS.tail 2 rfl) (e' := (58, .pointer (some ⟨b, 1, none⟩)) :: (57, .pointer (some ⟨b, 0, none⟩)) :: _) rfl ?_; clear hA; intro a hA
       refine dr_b (o := _) rfl ?_
       replace hS := hS.front 4 (C := [(b, rowO [.slice A ws.length c, .slice A2 ms.length c2] 28)]) (L' := C28 :: [(b24, rowO [.int .u64 m0, .int .u64 m1, .int .u32 m2, .int .u16 m3, .int .u16 m4, .int .u64 m5, .int .u32 m6, .int .u8 m7, .int .u64 m8, .int .u64 m9, .slice A19 bs.length c20] 37)] :: [(b1, rowO [.int .u64 m0, .int .u64 m1, .int .u32 m2, .int .u16 m3, .int .u16 m4, .int .u64 m5, .int .u32 m6, .int .u8 m7, .int .u64 m8, .int .u64 m9, .slice A19 bs.length c20] 37)] :: C21 :: C :: D :: F) rfl rfl
       refine st_store tbOk hA hS [.slice A29 ((ms ++ ([(m0, m1, m2, m3, m4, m5, m6, m7, m8, m9, A19, c20, bs)] : List (Int × Int × Int × Int × Int × Int × Int × Int × Int × Int × Option Addr × Nat × List UInt8))).length) c30] [.slice A ws.length c, .slice A29 ((ms ++ ([(m0, m1, m2, m3, m4, m5, m6, m7, m8, m9, A19, c20, bs)] : List (Int × Int × Int × Int × Int × Int × Int × Int × Int × Int × Option Addr × Nat × List UInt8))).length) c30] rfl rfl rfl rfl rfl rfl (by intro u hu; rw [List.mem_singleton.1 hu]; rfl) (Nat.le_of_ble_eq_true rfl) rfl rfl rfl ?_; clear hS; intro w31 hS
       refine dr_nil (.inl (by decide)) ?_
       refine dr_end ?_
       replace hA := hA.sel [] (e' := []) rfl
       refine xt_norm ?_
       refine wp_seq ?_
       refine wp_region_lit ?_
       refine st_run tbOk 3 hA (e' := (6, .nilIface) :: (5, .bool false) :: (4, .int .i64 0) :: _) rfl ?_; clear hA; intro a hA
       refine wpList_nil ?_
       refine xt_norm ?_
       refine wp_ret ?_
       refine ret3 (fn := Tryd.f6) hA rfl rfl rfl rfl ?_
       exfalso; omega)

theorem offer_full6 {w0 w : World} {F : List Chunk} {L D : Chunk} {b : Nat} {ws : List (Int × Int)} {ms : List Msg} (hS : St w0 w (L :: D :: F)) (hM : MR b ws ms L) (m0 m1 m2 m3 m4 m5 m6 m7 m8 m9 : Int) {d : Value} {bs : List UInt8} (hd : RdSX w0 (D :: F) 1 d bs.length (rows encB bs)) (hbl : bs.length ≤ 140737488351232) (hno : ∀ (i : Nat) (y : Int × Int), ws[i]? = some y → ¬ y.1 = m0) (hl : 64 ≤ ms.length) :
    Ret Tryd.prog 6 #[.pointer (some ⟨b, 0, none⟩), .agg #[.int .u64 m0, .int .u64 m1, .int .u32 m2, .int .u16 m3, .int .u16 m4, .int .u64 m5, .int .u32 m6, .int .u8 m7, .int .u64 m8, .int .u64 m9, d]] w (fun v w' => ∃ L', MR b ws ms L' ∧ v = .tuple #[.int .i64 0, .bool false, .iface 47 (.int .i64 5)] ∧ St w0 w' (L' :: D :: F)) := by
  obtain ⟨v, C, v2, C2, hO, hQ, rfl⟩ := hM
  obtain ⟨A, c, rfl, hmc, hcx⟩ := hO.open'
  obtain ⟨A2, c2, rfl, hmc2, hcx2⟩ := hQ.open'
  replace hS : St w0 w ([(b, rowO [.slice A ws.length c, .slice A2 ms.length c2] 28)] :: C :: C2 :: D :: F) := hS.split3
  obtain ⟨B, d', rfl, hmd, hdx⟩ := (hd _ (hS.tail 3 rfl)).open'
  refine enter (vs := [.pointer (some ⟨b, 0, none⟩), .agg #[.int .u64 m0, .int .u64 m1, .int .u32 m2, .int .u16 m3, .int .u16 m4, .int .u64 m5, .int .u32 m6, .int .u8 m7, .int .u64 m8, .int .u64 m9, .slice B bs.length d']]) 59 Tryd.func6 rfl rfl (by simp) ?_; intro a hA
  refine wp_seq ?_
  refine wp_region_lit ?_
  refine st_box hA hS [.int .u64 m0, .int .u64 m1, .int .u32 m2, .int .u16 m3, .int .u16 m4, .int .u64 m5, .int .u32 m6, .int .u8 m7, .int .u64 m8, .int .u64 m9, .slice B bs.length d'] rfl rfl rfl rfl rfl (by decide) ?_; clear hA hS; intro b1 w2 a hS hA
  refine st_run tbOk 3 hA (e' := (6, .nilIface) :: (5, .bool false) :: (4, .int .i64 0) :: _) rfl ?_; clear hA; intro a hA
  refine wpList_nil ?_
  replace hA := hA.sel [0, 3] (e' := [(0, .pointer (some ⟨b, 0, none⟩)), (3, .pointer (some ⟨b1, 0, none⟩))]) rfl
  refine xt_norm ?_
  refine wp_seq ?_
  refine wp_seq ?_
  refine wp_region_lit ?_
  refine st_run tbOk 3 hA (e' := (11, .pointer (some ⟨b, 0, none⟩)) :: (10, .pointer (some ⟨b, 0, none⟩)) :: (9, .pointer (some ⟨b, 0, none⟩)) :: _) rfl ?_; clear hA; intro a hA
  refine st_val hA rfl rfl (by decide) (rn_load tbOk hA rfl rfl rfl rfl (cell_row (hS.heapAt 1 rfl) rfl)) ?_; clear hA; intro a hA
  refine st_run tbOk 2 hA (e' := (14, .int .i64 0) :: (13, .int .i64 ((ws.length : Nat) : Int)) :: _) rfl ?_; clear hA; intro a hA
  refine wpList_nil ?_
  replace hA := hA.sel [0, 3, 12, 13, 14] (e' := [(0, .pointer (some ⟨b, 0, none⟩)), (3, .pointer (some ⟨b1, 0, none⟩)), (12, .slice A ws.length c), (13, .int .i64 ((ws.length : Nat) : Int)), (14, .int .i64 0)]) rfl
  refine xt_norm ?_
  refine wp_block ?_
  refine wp_loop_ghost (fun m a w => ∃ (k : Nat), m = ws.length - k ∧ Has a 59 [(0, .pointer (some ⟨b, 0, none⟩)), (3, .pointer (some ⟨b1, 0, none⟩)), (12, .slice A ws.length c), (13, .int .i64 ((ws.length : Nat) : Int)), (14, .int .i64 ((k : Nat) : Int))] ∧ St w0 w ([(b1, rowO [.int .u64 m0, .int .u64 m1, .int .u32 m2, .int .u16 m3, .int .u16 m4, .int .u64 m5, .int .u32 m6, .int .u8 m7, .int .u64 m8, .int .u64 m9, .slice B bs.length d'] 37)] :: [(b, rowO [.slice A ws.length c, .slice A2 ms.length c2] 28)] :: C :: C2 :: D :: F) ∧ (k ≤ ws.length)) (ws.length - 0)
    ⟨0, rfl, (hA.sel [0, 3, 12, 13, 14] rfl), hS, Nat.zero_le _⟩ ?_
  clear hA hS; rintro m0 a w3 ⟨k, rfl, hA, hS, hk⟩
  refine wp_seq ?_
  refine wp_region_lit ?_
  refine st_run tbOk 1 hA (e' := (15, .bool (decide (((k : Nat) : Int) < ((ws.length : Nat) : Int)))) :: _) rfl ?_; clear hA; intro a hA
  refine wpList_nil ?_
  refine xt_norm ?_
  refine wp_seq ?_
  by_cases hc4 : ((k : Nat) : Int) < ((ws.length : Nat) : Int)
  · first
    | (exfalso; omega)
    | (replace hA := hA.rw 15 (v' := .bool true) rfl (vb_true hc4)
       refine cd_cond_t hA rfl ?_
       refine wp_skip ?_
       refine xt_norm ?_
       refine wp_seq ?_
       refine wp_block ?_
       refine wp_seq ?_
       refine wp_region_lit ?_
       refine st_run tbOk 1 hA (e' := (16, .int .i64 ((k : Nat) : Int)) :: _) rfl ?_; clear hA; intro a hA
       obtain ⟨b5, o6, rfl⟩ := hO.isSome (k := k) (by omega)
       refine st_val hA rfl rfl (by decide) (rn_indexAddr tbOk hA k (o6 + (k * 2)) rfl rfl rfl rfl rfl rfl (by rfl) (by omega) (by first | rfl | simp [Nat.mul_one, Nat.zero_add] | omega)) ?_; clear hA; intro a hA
       obtain ⟨x7, hx7⟩ := get_ex (l := ws) (k := k) (by omega)
       refine st_val hA rfl rfl (by decide) (rn_loadA tbOk hA ([.int .u64 x7.1, .int .i64 x7.2]) rfl rfl rfl rfl (by rfl) ((hO.rd (hS.own_ 2 rfl)).elem (k := k) encWait_ok hx7)) ?_; clear hA; intro a hA
       refine st_alloc tbOk hA hS [.int .u64 0, .int .i64 0] rfl rfl rfl rfl rfl (by decide) ?_; clear hA hS; intro b8 w9 a hS hA
       refine st_run tbOk 1 hA (e' := (7, .int .i64 ((k : Nat) : Int)) :: _) rfl ?_; clear hA; intro a hA
       refine st_store tbOk hA hS [.int .u64 x7.1, .int .i64 x7.2] [.int .u64 x7.1, .int .i64 x7.2] rfl rfl rfl rfl rfl rfl (by simp [Value.oneCell']) (Nat.le_of_ble_eq_true rfl) rfl rfl rfl ?_; clear hS; intro w10 hS
       refine wpList_nil ?_
       replace hA := hA.sel [0, 3, 7, 8, 12, 13, 14] (e' := [(0, .pointer (some ⟨b, 0, none⟩)), (3, .pointer (some ⟨b1, 0, none⟩)), (7, .int .i64 ((k : Nat) : Int)), (8, .pointer (some ⟨b8, 0, none⟩)), (12, .slice (some ⟨b5, o6, none⟩) ws.length c), (13, .int .i64 ((ws.length : Nat) : Int)), (14, .int .i64 ((k : Nat) : Int))]) rfl
       refine xt_norm ?_
       refine wp_seq ?_
       refine wp_region_lit ?_
       refine st_run tbOk 1 hA (e' := (19, .pointer (some ⟨b8, 0, none⟩)) :: _) rfl ?_; clear hA; intro a hA
       refine st_val hA rfl rfl (by decide) (rn_load tbOk hA rfl rfl rfl rfl (cell_row (hS.heapAt 0 rfl) rfl)) ?_; clear hA; intro a hA
       refine st_run tbOk 1 hA (e' := (21, .pointer (some ⟨b1, 0, none⟩)) :: _) rfl ?_; clear hA; intro a hA
       refine st_val hA rfl rfl (by decide) (rn_load tbOk hA rfl rfl rfl rfl (cell_row (hS.heapAt 1 rfl) rfl)) ?_; clear hA; intro a hA
       refine st_run tbOk 1 hA (e' := (23, .bool (x7.1 == m0)) :: _) rfl ?_; clear hA; intro a hA
       refine wpList_nil ?_
       replace hA := hA.sel [0, 3, 7, 8, 12, 13, 14, 23] (e' := [(0, .pointer (some ⟨b, 0, none⟩)), (3, .pointer (some ⟨b1, 0, none⟩)), (7, .int .i64 ((k : Nat) : Int)), (8, .pointer (some ⟨b8, 0, none⟩)), (12, .slice (some ⟨b5, o6, none⟩) ws.length c), (13, .int .i64 ((ws.length : Nat) : Int)), (14, .int .i64 ((k : Nat) : Int)), (23, .bool (x7.1 == m0))]) rfl
       refine xt_norm ?_
       by_cases hc11 : x7.1 = m0
       · first
         | (exfalso; omega)
         | (replace hA := hA.rw 23 (v' := .bool true) rfl (vb_eq_t hc11)
            refine cd_cond_t hA rfl ?_
            refine wp_seq ?_
            exact absurd (by assumption) (hno k _ hx7))
       · first
         | (exfalso; omega)
         | (replace hA := hA.rw 23 (v' := .bool false) rfl (vb_eq_f hc11)
            refine cd_cond_f hA rfl ?_
            refine wp_skip ?_
            refine xb_norm ?_
            refine xt_norm ?_
            refine wp_region_lit ?_
            refine st_run tbOk 1 hA (e' := (37, .int .i64 (IntKind.i64.wrap (((k : Nat) : Int) + 1))) :: _) rfl ?_; clear hA; intro a hA
            replace hA := hA.rw 37 (v' := .int .i64 ((k + 1 : Nat) : Int)) rfl (wr64 (by omega) (by omega) (by omega))
            refine st_run tbOk 1 hA (e' := (14, .int .i64 ((k + 1 : Nat) : Int)) :: _) rfl ?_; clear hA; intro a hA
            refine wpList_nil ?_
            replace hA := hA.sel [0, 3, 12, 13, 14] (e' := [(0, .pointer (some ⟨b, 0, none⟩)), (3, .pointer (some ⟨b1, 0, none⟩)), (12, .slice (some ⟨b5, o6, none⟩) ws.length c), (13, .int .i64 ((ws.length : Nat) : Int)), (14, .int .i64 ((k + 1 : Nat) : Int))]) rfl
            replace hS := hS.drop1
            replace hS := hS.front 4 (C := D) (L' := [(b1, rowO [.int .u64 m0, .int .u64 m1, .int .u32 m2, .int .u16 m3, .int .u16 m4, .int .u64 m5, .int .u32 m6, .int .u8 m7, .int .u64 m8, .int .u64 m9, .slice B bs.length d'] 37)] :: [(b, rowO [.slice (some ⟨b5, o6, none⟩) ws.length c, .slice A2 ms.length c2] 28)] :: C :: C2 :: F) rfl rfl
            replace hS := hS.front 4 (C := C2) (L' := D :: [(b1, rowO [.int .u64 m0, .int .u64 m1, .int .u32 m2, .int .u16 m3, .int .u16 m4, .int .u64 m5, .int .u32 m6, .int .u8 m7, .int .u64 m8, .int .u64 m9, .slice B bs.length d'] 37)] :: [(b, rowO [.slice (some ⟨b5, o6, none⟩) ws.length c, .slice A2 ms.length c2] 28)] :: C :: F) rfl rfl
            replace hS := hS.front 4 (C := C) (L' := C2 :: D :: [(b1, rowO [.int .u64 m0, .int .u64 m1, .int .u32 m2, .int .u16 m3, .int .u16 m4, .int .u64 m5, .int .u32 m6, .int .u8 m7, .int .u64 m8, .int .u64 m9, .slice B bs.length d'] 37)] :: [(b, rowO [.slice (some ⟨b5, o6, none⟩) ws.length c, .slice A2 ms.length c2] 28)] :: F) rfl rfl
            replace hS := hS.front 4 (C := [(b, rowO [.slice (some ⟨b5, o6, none⟩) ws.length c, .slice A2 ms.length c2] 28)]) (L' := C :: C2 :: D :: [(b1, rowO [.int .u64 m0, .int .u64 m1, .int .u32 m2, .int .u16 m3, .int .u16 m4, .int .u64 m5, .int .u32 m6, .int .u8 m7, .int .u64 m8, .int .u64 m9, .slice B bs.length d'] 37)] :: F) rfl rfl
            replace hS := hS.front 4 (C := [(b1, rowO [.int .u64 m0, .int .u64 m1, .int .u32 m2, .int .u16 m3, .int .u16 m4, .int .u64 m5, .int .u32 m6, .int .u8 m7, .int .u64 m8, .int .u64 m9, .slice B bs.length d'] 37)]) (L' := [(b, rowO [.slice (some ⟨b5, o6, none⟩) ws.length c, .slice A2 ms.length c2] 28)] :: C :: C2 :: D :: F) rfl rfl
            exact lp_next _ (by omega) ⟨(k + 1), rfl, (hA.sel [0, 3, 12, 13, 14] rfl), hS, by omega⟩))
  · first
    | (exfalso; omega)
    | (replace hA := hA.rw 15 (v' := .bool false) rfl (vb_false hc4)
       refine cd_cond_f hA rfl ?_
       refine wp_exit ?_
       refine xt_exit ?_
       refine xt_exit ?_
       refine cd_exit_eq ?_
       refine xt_norm ?_
       refine wp_seq ?_
       refine wp_seq ?_
       refine wp_region_lit ?_
       refine st_run tbOk 3 hA (e' := (40, .pointer (some ⟨b, 1, none⟩)) :: (39, .pointer (some ⟨b, 0, none⟩)) :: (38, .pointer (some ⟨b, 0, none⟩)) :: _) rfl ?_; clear hA; intro a hA
       refine st_val hA rfl rfl (by decide) (rn_load tbOk hA rfl rfl rfl rfl (cell_row (hS.heapAt 1 rfl) rfl)) ?_; clear hA; intro a hA
       refine st_run tbOk 2 hA (e' := (43, .bool (decide (((ms.length : Nat) : Int) ≥ 64))) :: (42, .int .i64 ((ms.length : Nat) : Int)) :: _) rfl ?_; clear hA; intro a hA
       refine wpList_nil ?_
       replace hA := hA.sel [0, 3, 43] (e' := [(0, .pointer (some ⟨b, 0, none⟩)), (3, .pointer (some ⟨b1, 0, none⟩)), (43, .bool (decide (((ms.length : Nat) : Int) ≥ 64)))]) rfl
       refine xt_norm ?_
       have hc12 : ((ms.length : Nat) : Int) ≥ 64 := by omega
       replace hA := hA.rw 43 (v' := .bool true) rfl (vb_true hc12)
       refine cd_cond_t hA rfl ?_
       refine wp_seq ?_
       refine wp_region_lit ?_
       refine st_run tbOk 4 hA (e' := (6, .iface 47 (.int .i64 5)) :: (5, .bool false) :: (4, .int .i64 0) :: (44, .iface 47 (.int .i64 5)) :: _) rfl ?_; clear hA; intro a hA
       refine wpList_nil ?_
       replace hA := hA.sel [4, 5, 6] (e' := [(4, .int .i64 0), (5, .bool false), (6, .iface 47 (.int .i64 5))]) rfl
       refine xt_norm ?_
       refine wp_ret (xt_ret ?_)
       refine ret3 (fn := Tryd.f6) hA rfl rfl rfl rfl ?_
       replace hS := hS.drop1
       replace hS := hS.front 2 (C := C2) (L' := [(b, rowO [.slice A ws.length c, .slice A2 ms.length c2] 28)] :: C :: D :: F) rfl rfl
       replace hS := hS.front 2 (C := C) (L' := C2 :: [(b, rowO [.slice A ws.length c, .slice A2 ms.length c2] 28)] :: D :: F) rfl rfl
       replace hS := hS.front 2 (C := [(b, rowO [.slice A ws.length c, .slice A2 ms.length c2] 28)]) (L' := C :: C2 :: D :: F) rfl rfl
       replace hS := hS.front 3 (C := D) (L' := [(b, rowO [.slice A ws.length c, .slice A2 ms.length c2] 28)] :: C :: C2 :: F) rfl rfl
       replace hS := hS.front 3 (C := C2) (L' := D :: [(b, rowO [.slice A ws.length c, .slice A2 ms.length c2] 28)] :: C :: F) rfl rfl
       replace hS := hS.front 3 (C := C) (L' := C2 :: D :: [(b, rowO [.slice A ws.length c, .slice A2 ms.length c2] 28)] :: F) rfl rfl
       replace hS := hS.front 3 (C := [(b, rowO [.slice A ws.length c, .slice A2 ms.length c2] 28)]) (L' := C :: C2 :: D :: F) rfl rfl
       replace hS := hS.join3
       exact ⟨_, ⟨_, _, _, _, hO, hQ, rfl⟩, rfl, hS⟩)

theorem offer_ok6 {w0 w : World} {F : List Chunk} {L D : Chunk} {b : Nat} {ws : List (Int × Int)} {ms : List Msg} (hS : St w0 w (L :: D :: F)) (hM : MR b ws ms L) (m0 m1 m2 m3 m4 m5 m6 m7 m8 m9 : Int) {d : Value} {bs : List UInt8} (hd : RdSX w0 (D :: F) 1 d bs.length (rows encB bs)) (hbl : bs.length ≤ 140737488351232) (hno : ∀ (i : Nat) (y : Int × Int), ws[i]? = some y → ¬ y.1 = m0) (hl : ms.length < 64) :
    Ret Tryd.prog 6 #[.pointer (some ⟨b, 0, none⟩), .agg #[.int .u64 m0, .int .u64 m1, .int .u32 m2, .int .u16 m3, .int .u16 m4, .int .u64 m5, .int .u32 m6, .int .u8 m7, .int .u64 m8, .int .u64 m9, d]] w (fun v w' => ∃ L' E A c, MR b ws (ms ++ [(m0, m1, m2, m3, m4, m5, m6, m7, m8, m9, A, c, bs)]) L' ∧ DD w0 E A c bs ∧ v = .tuple #[.int .i64 0, .bool false, .nilIface] ∧ St w0 w' (L' :: (E ++ D) :: F)) := by
  obtain ⟨v, C, v2, C2, hO, hQ, rfl⟩ := hM
  obtain ⟨A, c, rfl, hmc, hcx⟩ := hO.open'
  obtain ⟨A2, c2, rfl, hmc2, hcx2⟩ := hQ.open'
  replace hS : St w0 w ([(b, rowO [.slice A ws.length c, .slice A2 ms.length c2] 28)] :: C :: C2 :: D :: F) := hS.split3
  obtain ⟨B, d', rfl, hmd, hdx⟩ := (hd _ (hS.tail 3 rfl)).open'
  refine enter (vs := [.pointer (some ⟨b, 0, none⟩), .agg #[.int .u64 m0, .int .u64 m1, .int .u32 m2, .int .u16 m3, .int .u16 m4, .int .u64 m5, .int .u32 m6, .int .u8 m7, .int .u64 m8, .int .u64 m9, .slice B bs.length d']]) 59 Tryd.func6 rfl rfl (by simp) ?_; intro a hA
  refine wp_seq ?_
  refine wp_region_lit ?_
  refine st_box hA hS [.int .u64 m0, .int .u64 m1, .int .u32 m2, .int .u16 m3, .int .u16 m4, .int .u64 m5, .int .u32 m6, .int .u8 m7, .int .u64 m8, .int .u64 m9, .slice B bs.length d'] rfl rfl rfl rfl rfl (by decide) ?_; clear hA hS; intro b1 w2 a hS hA
  refine st_run tbOk 3 hA (e' := (6, .nilIface) :: (5, .bool false) :: (4, .int .i64 0) :: _) rfl ?_; clear hA; intro a hA
  refine wpList_nil ?_
  replace hA := hA.sel [0, 3] (e' := [(0, .pointer (some ⟨b, 0, none⟩)), (3, .pointer (some ⟨b1, 0, none⟩))]) rfl
  refine xt_norm ?_
  refine wp_seq ?_
  refine wp_seq ?_
  refine wp_region_lit ?_
  refine st_run tbOk 3 hA (e' := (11, .pointer (some ⟨b, 0, none⟩)) :: (10, .pointer (some ⟨b, 0, none⟩)) :: (9, .pointer (some ⟨b, 0, none⟩)) :: _) rfl ?_; clear hA; intro a hA
  refine st_val hA rfl rfl (by decide) (rn_load tbOk hA rfl rfl rfl rfl (cell_row (hS.heapAt 1 rfl) rfl)) ?_; clear hA; intro a hA
  refine st_run tbOk 2 hA (e' := (14, .int .i64 0) :: (13, .int .i64 ((ws.length : Nat) : Int)) :: _) rfl ?_; clear hA; intro a hA
  refine wpList_nil ?_
  replace hA := hA.sel [0, 3, 12, 13, 14] (e' := [(0, .pointer (some ⟨b, 0, none⟩)), (3, .pointer (some ⟨b1, 0, none⟩)), (12, .slice A ws.length c), (13, .int .i64 ((ws.length : Nat) : Int)), (14, .int .i64 0)]) rfl
  refine xt_norm ?_
  refine wp_block ?_
  refine wp_loop_ghost (fun m a w => ∃ (k : Nat), m = ws.length - k ∧ Has a 59 [(0, .pointer (some ⟨b, 0, none⟩)), (3, .pointer (some ⟨b1, 0, none⟩)), (12, .slice A ws.length c), (13, .int .i64 ((ws.length : Nat) : Int)), (14, .int .i64 ((k : Nat) : Int))] ∧ St w0 w ([(b1, rowO [.int .u64 m0, .int .u64 m1, .int .u32 m2, .int .u16 m3, .int .u16 m4, .int .u64 m5, .int .u32 m6, .int .u8 m7, .int .u64 m8, .int .u64 m9, .slice B bs.length d'] 37)] :: [(b, rowO [.slice A ws.length c, .slice A2 ms.length c2] 28)] :: C :: C2 :: D :: F) ∧ (k ≤ ws.length)) (ws.length - 0)
    ⟨0, rfl, (hA.sel [0, 3, 12, 13, 14] rfl), hS, Nat.zero_le _⟩ ?_
  clear hA hS; rintro m0 a w3 ⟨k, rfl, hA, hS, hk⟩
  refine wp_seq ?_
  refine wp_region_lit ?_
  refine st_run tbOk 1 hA (e' := (15, .bool (decide (((k : Nat) : Int) < ((ws.length : Nat) : Int)))) :: _) rfl ?_; clear hA; intro a hA
  refine wpList_nil ?_
  refine xt_norm ?_
  refine wp_seq ?_
  by_cases hc4 : ((k : Nat) : Int) < ((ws.length : Nat) : Int)
  · first
    | (exfalso; omega)
    | (replace hA := hA.rw 15 (v' := .bool true) rfl (vb_true hc4)
       refine cd_cond_t hA rfl ?_
       refine wp_skip ?_
       refine xt_norm ?_
       refine wp_seq ?_
       refine wp_block ?_
       refine wp_seq ?_
       refine wp_region_lit ?_
       refine st_run tbOk 1 hA (e' := (16, .int .i64 ((k : Nat) : Int)) :: _) rfl ?_; clear hA; intro a hA
       obtain ⟨b5, o6, rfl⟩ := hO.isSome (k := k) (by omega)
       refine st_val hA rfl rfl (by decide) (rn_indexAddr tbOk hA k (o6 + (k * 2)) rfl rfl rfl rfl rfl rfl (by rfl) (by omega) (by first | rfl | simp [Nat.mul_one, Nat.zero_add] | omega)) ?_; clear hA; intro a hA
       obtain ⟨x7, hx7⟩ := get_ex (l := ws) (k := k) (by omega)
       refine st_val hA rfl rfl (by decide) (rn_loadA tbOk hA ([.int .u64 x7.1, .int .i64 x7.2]) rfl rfl rfl rfl (by rfl) ((hO.rd (hS.own_ 2 rfl)).elem (k := k) encWait_ok hx7)) ?_; clear hA; intro a hA
       refine st_alloc tbOk hA hS [.int .u64 0, .int .i64 0] rfl rfl rfl rfl rfl (by decide) ?_; clear hA hS; intro b8 w9 a hS hA
       refine st_run tbOk 1 hA (e' := (7, .int .i64 ((k : Nat) : Int)) :: _) rfl ?_; clear hA; intro a hA
       refine st_store tbOk hA hS [.int .u64 x7.1, .int .i64 x7.2] [.int .u64 x7.1, .int .i64 x7.2] rfl rfl rfl rfl rfl rfl (by simp [Value.oneCell']) (Nat.le_of_ble_eq_true rfl) rfl rfl rfl ?_; clear hS; intro w10 hS
       refine wpList_nil ?_
       replace hA := hA.sel [0, 3, 7, 8, 12, 13, 14] (e' := [(0, .pointer (some ⟨b, 0, none⟩)), (3, .pointer (some ⟨b1, 0, none⟩)), (7, .int .i64 ((k : Nat) : Int)), (8, .pointer (some ⟨b8, 0, none⟩)), (12, .slice (some ⟨b5, o6, none⟩) ws.length c), (13, .int .i64 ((ws.length : Nat) : Int)), (14, .int .i64 ((k : Nat) : Int))]) rfl
       refine xt_norm ?_
       refine wp_seq ?_
       refine wp_region_lit ?_
       refine st_run tbOk 1 hA (e' := (19, .pointer (some ⟨b8, 0, none⟩)) :: _) rfl ?_; clear hA; intro a hA
       refine st_val hA rfl rfl (by decide) (rn_load tbOk hA rfl rfl rfl rfl (cell_row (hS.heapAt 0 rfl) rfl)) ?_; clear hA; intro a hA
       refine st_run tbOk 1 hA (e' := (21, .pointer (some ⟨b1, 0, none⟩)) :: _) rfl ?_; clear hA; intro a hA
       refine st_val hA rfl rfl (by decide) (rn_load tbOk hA rfl rfl rfl rfl (cell_row (hS.heapAt 1 rfl) rfl)) ?_; clear hA; intro a hA
       refine st_run tbOk 1 hA (e' := (23, .bool (x7.1 == m0)) :: _) rfl ?_; clear hA; intro a hA
       refine wpList_nil ?_
       replace hA := hA.sel [0, 3, 7, 8, 12, 13, 14, 23] (e' := [(0, .pointer (some ⟨b, 0, none⟩)), (3, .pointer (some ⟨b1, 0, none⟩)), (7, .int .i64 ((k : Nat) : Int)), (8, .pointer (some ⟨b8, 0, none⟩)), (12, .slice (some ⟨b5, o6, none⟩) ws.length c), (13, .int .i64 ((ws.length : Nat) : Int)), (14, .int .i64 ((k : Nat) : Int)), (23, .bool (x7.1 == m0))]) rfl
       refine xt_norm ?_
       by_cases hc11 : x7.1 = m0
       · first
         | (exfalso; omega)
         | (replace hA := hA.rw 23 (v' := .bool true) rfl (vb_eq_t hc11)
            refine cd_cond_t hA rfl ?_
            refine wp_seq ?_
            exact absurd (by assumption) (hno k _ hx7))
       · first
         | (exfalso; omega)
         | (replace hA := hA.rw 23 (v' := .bool false) rfl (vb_eq_f hc11)
            refine cd_cond_f hA rfl ?_
            refine wp_skip ?_
            refine xb_norm ?_
            refine xt_norm ?_
            refine wp_region_lit ?_
            refine st_run tbOk 1 hA (e' := (37, .int .i64 (IntKind.i64.wrap (((k : Nat) : Int) + 1))) :: _) rfl ?_; clear hA; intro a hA
            replace hA := hA.rw 37 (v' := .int .i64 ((k + 1 : Nat) : Int)) rfl (wr64 (by omega) (by omega) (by omega))
            refine st_run tbOk 1 hA (e' := (14, .int .i64 ((k + 1 : Nat) : Int)) :: _) rfl ?_; clear hA; intro a hA
            refine wpList_nil ?_
            replace hA := hA.sel [0, 3, 12, 13, 14] (e' := [(0, .pointer (some ⟨b, 0, none⟩)), (3, .pointer (some ⟨b1, 0, none⟩)), (12, .slice (some ⟨b5, o6, none⟩) ws.length c), (13, .int .i64 ((ws.length : Nat) : Int)), (14, .int .i64 ((k + 1 : Nat) : Int))]) rfl
            replace hS := hS.drop1
            replace hS := hS.front 4 (C := D) (L' := [(b1, rowO [.int .u64 m0, .int .u64 m1, .int .u32 m2, .int .u16 m3, .int .u16 m4, .int .u64 m5, .int .u32 m6, .int .u8 m7, .int .u64 m8, .int .u64 m9, .slice B bs.length d'] 37)] :: [(b, rowO [.slice (some ⟨b5, o6, none⟩) ws.length c, .slice A2 ms.length c2] 28)] :: C :: C2 :: F) rfl rfl
            replace hS := hS.front 4 (C := C2) (L' := D :: [(b1, rowO [.int .u64 m0, .int .u64 m1, .int .u32 m2, .int .u16 m3, .int .u16 m4, .int .u64 m5, .int .u32 m6, .int .u8 m7, .int .u64 m8, .int .u64 m9, .slice B bs.length d'] 37)] :: [(b, rowO [.slice (some ⟨b5, o6, none⟩) ws.length c, .slice A2 ms.length c2] 28)] :: C :: F) rfl rfl
            replace hS := hS.front 4 (C := C) (L' := C2 :: D :: [(b1, rowO [.int .u64 m0, .int .u64 m1, .int .u32 m2, .int .u16 m3, .int .u16 m4, .int .u64 m5, .int .u32 m6, .int .u8 m7, .int .u64 m8, .int .u64 m9, .slice B bs.length d'] 37)] :: [(b, rowO [.slice (some ⟨b5, o6, none⟩) ws.length c, .slice A2 ms.length c2] 28)] :: F) rfl rfl
            replace hS := hS.front 4 (C := [(b, rowO [.slice (some ⟨b5, o6, none⟩) ws.length c, .slice A2 ms.length c2] 28)]) (L' := C :: C2 :: D :: [(b1, rowO [.int .u64 m0, .int .u64 m1, .int .u32 m2, .int .u16 m3, .int .u16 m4, .int .u64 m5, .int .u32 m6, .int .u8 m7, .int .u64 m8, .int .u64 m9, .slice B bs.length d'] 37)] :: F) rfl rfl
            replace hS := hS.front 4 (C := [(b1, rowO [.int .u64 m0, .int .u64 m1, .int .u32 m2, .int .u16 m3, .int .u16 m4, .int .u64 m5, .int .u32 m6, .int .u8 m7, .int .u64 m8, .int .u64 m9, .slice B bs.length d'] 37)]) (L' := [(b, rowO [.slice (some ⟨b5, o6, none⟩) ws.length c, .slice A2 ms.length c2] 28)] :: C :: C2 :: D :: F) rfl rfl
            exact lp_next _ (by omega) ⟨(k + 1), rfl, (hA.sel [0, 3, 12, 13, 14] rfl), hS, by omega⟩))
  · first
    | (exfalso; omega)
    | (replace hA := hA.rw 15 (v' := .bool false) rfl (vb_false hc4)
       refine cd_cond_f hA rfl ?_
       refine wp_exit ?_
       refine xt_exit ?_
       refine xt_exit ?_
       refine cd_exit_eq ?_
       refine xt_norm ?_
       refine wp_seq ?_
       refine wp_seq ?_
       refine wp_region_lit ?_
       refine st_run tbOk 3 hA (e' := (40, .pointer (some ⟨b, 1, none⟩)) :: (39, .pointer (some ⟨b, 0, none⟩)) :: (38, .pointer (some ⟨b, 0, none⟩)) :: _) rfl ?_; clear hA; intro a hA
       refine st_val hA rfl rfl (by decide) (rn_load tbOk hA rfl rfl rfl rfl (cell_row (hS.heapAt 1 rfl) rfl)) ?_; clear hA; intro a hA
       refine st_run tbOk 2 hA (e' := (43, .bool (decide (((ms.length : Nat) : Int) ≥ 64))) :: (42, .int .i64 ((ms.length : Nat) : Int)) :: _) rfl ?_; clear hA; intro a hA
       refine wpList_nil ?_
       replace hA := hA.sel [0, 3, 43] (e' := [(0, .pointer (some ⟨b, 0, none⟩)), (3, .pointer (some ⟨b1, 0, none⟩)), (43, .bool (decide (((ms.length : Nat) : Int) ≥ 64)))]) rfl
       refine xt_norm ?_
       have hc12 : ¬ (((ms.length : Nat) : Int) ≥ 64) := by omega
       replace hA := hA.rw 43 (v' := .bool false) rfl (vb_false hc12)
       refine cd_cond_f hA rfl ?_
       refine wp_skip ?_
       refine xt_norm ?_
       refine wp_seq ?_
       refine wp_region_lit ?_
       refine st_run tbOk 1 hA (e' := (45, .pointer (some ⟨b1, 10, none⟩)) :: _) rfl ?_; clear hA; intro a hA
       refine st_val hA rfl rfl (by decide) (rn_load tbOk hA rfl rfl rfl rfl (cell_row (hS.heapAt 0 rfl) rfl)) ?_; clear hA; intro a hA
       refine st_call0 hA rfl rfl rfl isfn15 rfl rfl (by decide) (clonex15 hS (l := bs) (fun w' h => (hd _ (h.tail 4 rfl))) (by first | omega | (simp; omega))) ?_
       clear hA hS; rintro _ w16 a ⟨A13, c14, C15, hOC15, rfl, hS⟩ hA
       refine st_run tbOk 1 hA (e' := (48, .pointer (some ⟨b1, 10, none⟩)) :: _) rfl ?_; clear hA; intro a hA
       replace hS := hS.front 1 (C := [(b1, rowO [.int .u64 m0, .int .u64 m1, .int .u32 m2, .int .u16 m3, .int .u16 m4, .int .u64 m5, .int .u32 m6, .int .u8 m7, .int .u64 m8, .int .u64 m9, .slice B bs.length d'] 37)]) (L' := C15 :: [(b, rowO [.slice A ws.length c, .slice A2 ms.length c2] 28)] :: C :: C2 :: D :: F) rfl rfl
       refine st_store tbOk hA hS [.slice A13 bs.length c14] [.int .u64 m0, .int .u64 m1, .int .u32 m2, .int .u16 m3, .int .u16 m4, .int .u64 m5, .int .u32 m6, .int .u8 m7, .int .u64 m8, .int .u64 m9, .slice A13 bs.length c14] rfl rfl rfl rfl rfl rfl (by intro u hu; rw [List.mem_singleton.1 hu]; rfl) (Nat.le_of_ble_eq_true rfl) rfl rfl rfl ?_; clear hS; intro w17 hS
       refine wpList_nil ?_
       replace hA := hA.sel [0, 3] (e' := [(0, .pointer (some ⟨b, 0, none⟩)), (3, .pointer (some ⟨b1, 0, none⟩))]) rfl
       refine xt_norm ?_
       refine wp_seq ?_
       replace hS := hS.front 4 (C := C2) (L' := [(b1, rowO [.int .u64 m0, .int .u64 m1, .int .u32 m2, .int .u16 m3, .int .u16 m4, .int .u64 m5, .int .u32 m6, .int .u8 m7, .int .u64 m8, .int .u64 m9, .slice A13 bs.length c14] 37)] :: C15 :: [(b, rowO [.slice A ws.length c, .slice A2 ms.length c2] 28)] :: C :: D :: F) rfl rfl
       refine wp_draw (fun w' => St w0 w' ([(b1, rowO [.int .u64 m0, .int .u64 m1, .int .u32 m2, .int .u16 m3, .int .u16 m4, .int .u64 m5, .int .u32 m6, .int .u8 m7, .int .u64 m8, .int .u64 m9, .slice A13 bs.length c14] 37)] :: C15 :: [(b, rowO [.slice A ws.length c, .slice A2 ms.length c2] 28)] :: C :: D :: F)) [10] [(0, true), (1, true), (2, true), (3, true), (4, true), (5, true), (6, false), (7, false), (8, true), (9, true), (10, false)] mixed (by kernel_rfl) (by rintro c a w ⟨_, _, h, _⟩; cases h) (by rfl) (by kernel_rfl) ?_
       replace hS := hS.drew
       refine dr_run tbOk 4 hA (hS.tail 1 rfl) (e' := (52, .pointer (some ⟨b, 1, none⟩)) :: (51, .pointer (some ⟨b, 0, none⟩)) :: (50, .pointer (some ⟨b, 0, none⟩)) :: (49, .pointer (some ⟨b, 0, none⟩)) :: _) rfl ?_; clear hA; intro a hA
       refine dr_y hA rfl rfl rfl (by decide) (hS.tail 1 rfl) (fun w' hS' => rn_load tbOk hA rfl rfl rfl rfl (cell_row (hS'.heapAt 2 rfl) rfl)) ?_; clear hA; intro a hA
       refine dr_y hA rfl rfl rfl (by decide) (hS.tail 1 rfl) (fun w' hS' => rn_loadA tbOk hA [.int .u64 m0, .int .u64 m1, .int .u32 m2, .int .u16 m3, .int .u16 m4, .int .u64 m5, .int .u32 m6, .int .u8 m7, .int .u64 m8, .int .u64 m9, .slice A13 bs.length c14] rfl rfl rfl rfl rfl (cells_row (hS'.heapAt 0 rfl) rfl)) ?_; clear hA; intro a hA
       refine dr_b (o := _) rfl ?_
       refine st_buildSlice tbOk hA hS [.int .u64 m0, .int .u64 m1, .int .u32 m2, .int .u16 m3, .int .u16 m4, .int .u64 m5, .int .u32 m6, .int .u8 m7, .int .u64 m8, .int .u64 m9, .slice A13 bs.length c14] rfl rfl rfl rfl rfl (by decide) (by kernel_rfl) rfl rfl (by decide) ?_; clear hA hS; intro b18 w19 a hS hA
       refine dr_nil (.inr (hS.tail 2 rfl)) ?_
       refine dr_b (o := _) rfl ?_
       replace hS := hS.front 1 (C := C2) (L' := [(b18, rowO [.int .u64 m0, .int .u64 m1, .int .u32 m2, .int .u16 m3, .int .u16 m4, .int .u64 m5, .int .u32 m6, .int .u8 m7, .int .u64 m8, .int .u64 m9, .slice A13 bs.length c14] 37)] :: [(b1, rowO [.int .u64 m0, .int .u64 m1, .int .u32 m2, .int .u16 m3, .int .u16 m4, .int .u64 m5, .int .u32 m6, .int .u8 m7, .int .u64 m8, .int .u64 m9, .slice A13 bs.length c14] 37)] :: C15 :: [(b, rowO [.slice A ws.length c, .slice A2 ms.length c2] 28)] :: C :: D :: F) rfl rfl
       refine st_append tbOk hA (m := ms.length) (q := 1) (xs := rows encMessage ms) (news := rows encMessage ([(m0, m1, m2, m3, m4, m5, m6, m7, m8, m9, A13, c14, bs)] : List (Int × Int × Int × Int × Int × Int × Int × Int × Int × Int × Option Addr × Nat × List UInt8))) rfl rfl rfl rfl rfl rfl rfl rfl (by decide) hQ hS (((Own.full (T := 37) (size := 11) (g := b18) (m := 1) rfl (by decide)).rd (hS.own_ 1 rfl)).x) (rows_one encMessage_ok _) (maxLen_le (by first | omega | (simp; omega))) (by show (ms.length + 1) * 80 ≤ 140737488355328; first | omega | (simp; omega)) rfl rfl (by decide) ?_
       clear hA hS; intro v20 w21 C22 a hO22 hS hA
       replace hO22 := Own.app (l := ms) (l2 := ([(m0, m1, m2, m3, m4, m5, m6, m7, m8, m9, A13, c14, bs)] : List (Int × Int × Int × Int × Int × Int × Int × Int × Int × Int × Option Addr × Nat × List UInt8))) hO22
       obtain ⟨A23, c24, rfl, hmc24, hxc24⟩ := hO22.open'
       refine dr_nil (.inr (hS.tail 2 rfl)) ?_
       refine dr_run tbOk 2 hA (hS.tail 2 rfl) (e' := (58, .pointer (some ⟨b, 1, none⟩)) :: (57, .pointer (some ⟨b, 0, none⟩)) :: _) rfl ?_; clear hA; intro a hA
       refine dr_b (o := _) rfl ?_
       replace hS := hS.front 4 (C := [(b, rowO [.slice A ws.length c, .slice A2 ms.length c2] 28)]) (L' := C22 :: [(b18, rowO [.int .u64 m0, .int .u64 m1, .int .u32 m2, .int .u16 m3, .int .u16 m4, .int .u64 m5, .int .u32 m6, .int .u8 m7, .int .u64 m8, .int .u64 m9, .slice A13 bs.length c14] 37)] :: [(b1, rowO [.int .u64 m0, .int .u64 m1, .int .u32 m2, .int .u16 m3, .int .u16 m4, .int .u64 m5, .int .u32 m6, .int .u8 m7, .int .u64 m8, .int .u64 m9, .slice A13 bs.length c14] 37)] :: C15 :: C :: D :: F) rfl rfl
       refine st_store tbOk hA hS [.slice A23 ((ms ++ ([(m0, m1, m2, m3, m4, m5, m6, m7, m8, m9, A13, c14, bs)] : List (Int × Int × Int × Int × Int × Int × Int × Int × Int × Int × Option Addr × Nat × List UInt8))).length) c24] [.slice A ws.length c, .slice A23 ((ms ++ ([(m0, m1, m2, m3, m4, m5, m6, m7, m8, m9, A13, c14, bs)] : List (Int × Int × Int × Int × Int × Int × Int × Int × Int × Int × Option Addr × Nat × List UInt8))).length) c24] rfl rfl rfl rfl rfl rfl (by intro u hu; rw [List.mem_singleton.1 hu]; rfl) (Nat.le_of_ble_eq_true rfl) rfl rfl rfl ?_; clear hS; intro w25 hS
       refine dr_nil (.inl (by decide)) ?_
       refine dr_end ?_
       replace hA := hA.sel [] (e' := []) rfl
       refine xt_norm ?_
       refine wp_seq ?_
       refine wp_region_lit ?_
       refine st_run tbOk 3 hA (e' := (6, .nilIface) :: (5, .bool false) :: (4, .int .i64 0) :: _) rfl ?_; clear hA; intro a hA
       refine wpList_nil ?_
       refine xt_norm ?_
       refine wp_ret ?_
       refine ret3 (fn := Tryd.f6) hA rfl rfl rfl rfl ?_
       replace hS := hS.front 2 (C := [(b18, rowO [.int .u64 m0, .int .u64 m1, .int .u32 m2, .int .u16 m3, .int .u16 m4, .int .u64 m5, .int .u32 m6, .int .u8 m7, .int .u64 m8, .int .u64 m9, .slice A13 bs.length c14] 37)]) (L' := [(b, rowO [.slice A ws.length c, .slice A23 ((ms ++ ([(m0, m1, m2, m3, m4, m5, m6, m7, m8, m9, A13, c14, bs)] : List (Int × Int × Int × Int × Int × Int × Int × Int × Int × Int × Option Addr × Nat × List UInt8))).length) c24] 28)] :: C22 :: [(b1, rowO [.int .u64 m0, .int .u64 m1, .int .u32 m2, .int .u16 m3, .int .u16 m4, .int .u64 m5, .int .u32 m6, .int .u8 m7, .int .u64 m8, .int .u64 m9, .slice A13 bs.length c14] 37)] :: C15 :: C :: D :: F) rfl rfl
       replace hS := hS.drop1
       replace hS := hS.front 2 (C := [(b1, rowO [.int .u64 m0, .int .u64 m1, .int .u32 m2, .int .u16 m3, .int .u16 m4, .int .u64 m5, .int .u32 m6, .int .u8 m7, .int .u64 m8, .int .u64 m9, .slice A13 bs.length c14] 37)]) (L' := [(b, rowO [.slice A ws.length c, .slice A23 ((ms ++ ([(m0, m1, m2, m3, m4, m5, m6, m7, m8, m9, A13, c14, bs)] : List (Int × Int × Int × Int × Int × Int × Int × Int × Int × Int × Option Addr × Nat × List UInt8))).length) c24] 28)] :: C22 :: C15 :: C :: D :: F) rfl rfl
       replace hS := hS.drop1
       replace hS := hS.front 1 (C := C22) (L' := [(b, rowO [.slice A ws.length c, .slice A23 ((ms ++ ([(m0, m1, m2, m3, m4, m5, m6, m7, m8, m9, A13, c14, bs)] : List (Int × Int × Int × Int × Int × Int × Int × Int × Int × Int × Option Addr × Nat × List UInt8))).length) c24] 28)] :: C15 :: C :: D :: F) rfl rfl
       replace hS := hS.front 3 (C := C) (L' := C22 :: [(b, rowO [.slice A ws.length c, .slice A23 ((ms ++ ([(m0, m1, m2, m3, m4, m5, m6, m7, m8, m9, A13, c14, bs)] : List (Int × Int × Int × Int × Int × Int × Int × Int × Int × Int × Option Addr × Nat × List UInt8))).length) c24] 28)] :: C15 :: D :: F) rfl rfl
       replace hS := hS.front 2 (C := [(b, rowO [.slice A ws.length c, .slice A23 ((ms ++ ([(m0, m1, m2, m3, m4, m5, m6, m7, m8, m9, A13, c14, bs)] : List (Int × Int × Int × Int × Int × Int × Int × Int × Int × Int × Option Addr × Nat × List UInt8))).length) c24] 28)]) (L' := C :: C22 :: C15 :: D :: F) rfl rfl
       replace hS := hS.front 4 (C := D) (L' := [(b, rowO [.slice A ws.length c, .slice A23 ((ms ++ ([(m0, m1, m2, m3, m4, m5, m6, m7, m8, m9, A13, c14, bs)] : List (Int × Int × Int × Int × Int × Int × Int × Int × Int × Int × Option Addr × Nat × List UInt8))).length) c24] 28)] :: C :: C22 :: C15 :: F) rfl rfl
       replace hS := hS.front 4 (C := C15) (L' := D :: [(b, rowO [.slice A ws.length c, .slice A23 ((ms ++ ([(m0, m1, m2, m3, m4, m5, m6, m7, m8, m9, A13, c14, bs)] : List (Int × Int × Int × Int × Int × Int × Int × Int × Int × Int × Option Addr × Nat × List UInt8))).length) c24] 28)] :: C :: C22 :: F) rfl rfl
       replace hS := hS.join
       replace hS := hS.front 3 (C := C22) (L' := (C15 ++ D) :: [(b, rowO [.slice A ws.length c, .slice A23 ((ms ++ ([(m0, m1, m2, m3, m4, m5, m6, m7, m8, m9, A13, c14, bs)] : List (Int × Int × Int × Int × Int × Int × Int × Int × Int × Int × Option Addr × Nat × List UInt8))).length) c24] 28)] :: C :: F) rfl rfl
       replace hS := hS.front 3 (C := C) (L' := C22 :: (C15 ++ D) :: [(b, rowO [.slice A ws.length c, .slice A23 ((ms ++ ([(m0, m1, m2, m3, m4, m5, m6, m7, m8, m9, A13, c14, bs)] : List (Int × Int × Int × Int × Int × Int × Int × Int × Int × Int × Option Addr × Nat × List UInt8))).length) c24] 28)] :: F) rfl rfl
       replace hS := hS.front 3 (C := [(b, rowO [.slice A ws.length c, .slice A23 ((ms ++ ([(m0, m1, m2, m3, m4, m5, m6, m7, m8, m9, A13, c14, bs)] : List (Int × Int × Int × Int × Int × Int × Int × Int × Int × Int × Option Addr × Nat × List UInt8))).length) c24] 28)]) (L' := C :: C22 :: (C15 ++ D) :: F) rfl rfl
       replace hS := hS.join3
       exact ⟨_, _, _, _, ⟨_, _, _, _, hO, hO22, rfl⟩, DD.new hOC15, rfl, hS⟩)

theorem MRany1 (port id : Int) : ([(port, id)] : List (Int × Int)).any (fun x => wth id x) = true := by simp [wth]
def wk (port : Int) (o k : Nat) : List (Int × Int) := (List.range k).map (fun i => (port, (((o + i : Nat)) : Int)))
theorem wk_len (port : Int) (o k : Nat) : (wk port o k).length = k := by simp [wk]
theorem wk_succ (port : Int) (o k : Nat) : wk port o (k + 1) = wk port o k ++ [(port, ((o + k : Nat) : Int))] := by rw [wk, List.range_succ, List.map_append]; rfl
theorem wk_no (port : Int) (o k j : Nat) (h : k ≤ j) : (wk port o k).any (fun x => wth ((o + j : Nat) : Int) x) = false := by
  rw [List.any_eq_false]; intro x hx
  obtain ⟨i, hi, rfl⟩ := List.mem_map.1 hx
  have := List.mem_range.1 hi
  simp [wth]; omega
theorem wk_get {port : Int} {o k i : Nat} (h : i < k) : (wk port o k)[i]? = some (port, ((o + i : Nat) : Int)) := by
  rw [wk, List.getElem?_map, List.getElem?_range h]; rfl
theorem drop0 {α : Type} (l : List α) (i : Nat) : (l.drop i).take 0 ++ (l.drop i).drop (0 + 1) = l.drop (i + 1) := by rw [List.take_zero, List.nil_append, List.drop_drop]
def isM (port : Int) (ms : List Msg) (k : Nat) : Prop := ms.length = k ∧ ∀ (i : Nat) (x : Msg), ms[i]? = some x → x.1 = port ∧ x.2.2.1 = ((i : Nat) : Int)
theorem isM.nil (port : Int) : isM port [] 0 := ⟨rfl, fun i x h => by simp at h⟩
theorem isM.add {port : Int} {ms : List Msg} {k : Nat} (h : isM port ms k) (x : Msg) (h1 : x.1 = port) (h2 : x.2.2.1 = ((k : Nat) : Int)) : isM port (ms ++ [x]) (k + 1) := by
  refine ⟨by simp [h.1], fun i y hy => ?_⟩
  by_cases hi : i < ms.length
  · rw [List.getElem?_append_left hi] at hy; exact h.2 i y hy
  · have h3 := (List.getElem?_eq_some_iff.1 hy).1
    have h4 : i < ms.length + 1 := by simpa using h3
    obtain rfl : i = ms.length := by omega
    rw [List.getElem?_append_right (Nat.le_refl _)] at hy
    simp at hy
    subst hy
    exact ⟨h1, by rw [h2, h.1]⟩
def rst (port : Int) (k g i : Nat) : List (Int × Int) := (((List.range k).drop i).filter (fun j => !(j == g))).map (fun j => (port, ((j : Nat) : Int)))
theorem rst_at {port : Int} {k g i : Nat} (h : i < k) (hg : ¬ i = g) : rst port k g i = (port, ((i : Nat) : Int)) :: rst port k g (i + 1) := by
  rw [rst, rst, List.drop_eq_getElem_cons (by simpa using h), List.filter_cons, List.getElem_range]
  simp [hg]
theorem rst_skip {port : Int} {k g : Nat} (h : g < k) : rst port k g g = rst port k g (g + 1) := by
  rw [rst, rst, List.drop_eq_getElem_cons (by simpa using h), List.filter_cons, List.getElem_range]
  simp
theorem rst_end (port : Int) (k g : Nat) : rst port k g k = [] := by
  rw [rst, List.drop_eq_nil_of_le (by simp)]; rfl
theorem rst_zero (port : Int) (k g : Nat) : (wk port 0 k).filter (fun x => !(wth ((g : Nat) : Int) x)) = rst port k g 0 := by
  rw [wk, rst, List.drop_zero, List.filter_map]
  have e : ((fun x => !(wth ((g : Nat) : Int) x)) ∘ fun i => (port, (((0 + i : Nat)) : Int))) = fun j : Nat => !(j == g) := by
    funext j
    simp only [Function.comp, wth, Nat.zero_add]
    congr 1
    rw [Bool.eq_iff_iff, beq_iff_eq, beq_iff_eq]; omega
  rw [e]
  apply List.map_congr_left
  intro i _; rw [Nat.zero_add]
theorem wk_any {port : Int} {k g : Nat} (h : g < k) : (wk port 0 k).any (fun x => wth ((g : Nat) : Int) x) = true := by
  rw [List.any_eq_true]
  exact ⟨(port, ((0 + g : Nat) : Int)), List.mem_map.2 ⟨g, List.mem_range.2 h, rfl⟩, by simp [wth]⟩
theorem flt_any (ws : List (Int × Int)) (id : Int) : (ws.filter (fun x => !(wth id x))).any (fun x => wth id x) = false := by
  rw [List.any_eq_false]; intro x hx
  have := (List.mem_filter.1 hx).2
  simpa using this
theorem flt_flt (ws : List (Int × Int)) (id : Int) : (ws.filter (fun x => !(wth id x))).filter (fun x => !(wth id x)) = ws.filter (fun x => !(wth id x)) := by rw [List.filter_filter]; simp

theorem same04_9 {w0 w : World} {F : List Chunk} (hS : St w0 w F) (x0 x1 x2 x3 x4 x5 x6 x7 x8 x9 y0 y1 y2 y3 y4 y5 y6 y7 y8 y9 : Int) {d1 d2 : Value} {bs cs : List UInt8} (h1 : RdSX w0 F 1 d1 bs.length (rows encB bs)) (h2 : RdSX w0 F 1 d2 cs.length (rows encB cs)) :
    Ret Tryd.prog 9 #[.agg #[.int .u64 x0, .int .u64 x1, .int .u32 x2, .int .u16 x3, .int .u16 x4, .int .u64 x5, .int .u32 x6, .int .u8 x7, .int .u64 x8, .int .u64 x9, d1], .agg #[.int .u64 y0, .int .u64 y1, .int .u32 y2, .int .u16 y3, .int .u16 y4, .int .u64 y5, .int .u32 y6, .int .u8 y7, .int .u64 y8, .int .u64 y9, d2]] w (fun v w' => v = .bool (decide (x0 = y0 ∧ x1 = y1 ∧ x2 = y2 ∧ x3 = y3 ∧ x4 = y4 ∧ (x5 = y5 ∧ x6 = y6 ∧ x7 = y7 ∧ x8 = y8) ∧ x9 = y9 ∧ bs = cs)) ∧ St w0 w' F) := by
  obtain ⟨A, c, rfl, hmc, hcx⟩ := (h1 w hS).open'
  obtain ⟨B, d, rfl, hmd, hdx⟩ := (h2 w hS).open'
  refine enter (vs := [.agg #[.int .u64 x0, .int .u64 x1, .int .u32 x2, .int .u16 x3, .int .u16 x4, .int .u64 x5, .int .u32 x6, .int .u8 x7, .int .u64 x8, .int .u64 x9, .slice A bs.length c], .agg #[.int .u64 y0, .int .u64 y1, .int .u32 y2, .int .u16 y3, .int .u16 y4, .int .u64 y5, .int .u32 y6, .int .u8 y7, .int .u64 y8, .int .u64 y9, .slice B cs.length d]]) 61 Tryd.func9 rfl rfl (by simp) ?_; intro a hA
  refine wp_seq ?_
  refine wp_region_lit ?_
  refine st_box hA hS [.int .u64 x0, .int .u64 x1, .int .u32 x2, .int .u16 x3, .int .u16 x4, .int .u64 x5, .int .u32 x6, .int .u8 x7, .int .u64 x8, .int .u64 x9, .slice A bs.length c] rfl rfl rfl rfl rfl (by decide) ?_; clear hA hS; intro b1 w2 a hS hA
  refine st_box hA hS [.int .u64 y0, .int .u64 y1, .int .u32 y2, .int .u16 y3, .int .u16 y4, .int .u64 y5, .int .u32 y6, .int .u8 y7, .int .u64 y8, .int .u64 y9, .slice B cs.length d] rfl rfl rfl rfl rfl (by decide) ?_; clear hA hS; intro b3 w4 a hS hA
  refine st_run tbOk 1 hA (e' := (4, .bool false) :: _) rfl ?_; clear hA; intro a hA
  refine wpList_nil ?_
  replace hA := hA.sel [2, 3] (e' := [(2, .pointer (some ⟨b1, 0, none⟩)), (3, .pointer (some ⟨b3, 0, none⟩))]) rfl
  refine xt_norm ?_
  refine wp_seq ?_
  refine wp_region_lit ?_
  refine st_run tbOk 1 hA (e' := (5, .pointer (some ⟨b1, 0, none⟩)) :: _) rfl ?_; clear hA; intro a hA
  refine st_val hA rfl rfl (by decide) (rn_load tbOk hA rfl rfl rfl rfl (cell_row (hS.heapAt 1 rfl) rfl)) ?_; clear hA; intro a hA
  refine st_run tbOk 1 hA (e' := (7, .pointer (some ⟨b3, 0, none⟩)) :: _) rfl ?_; clear hA; intro a hA
  refine st_val hA rfl rfl (by decide) (rn_load tbOk hA rfl rfl rfl rfl (cell_row (hS.heapAt 0 rfl) rfl)) ?_; clear hA; intro a hA
  refine st_run tbOk 2 hA (e' := (10, .bool (x0 == y0)) :: (9, .bool (x0 == y0)) :: _) rfl ?_; clear hA; intro a hA
  by_cases hc5 : x0 = y0
  · replace hA := hA.rw 9 (v' := .bool true) rfl (vb_eq_t hc5)
    replace hA := hA.rw 10 (v' := .bool true) rfl (vb_eq_t hc5)
    refine st_run tbOk 1 hA (e' := (11, .pointer (some ⟨b1, 1, none⟩)) :: _) rfl ?_; clear hA; intro a hA
    refine st_val hA rfl rfl (by decide) (rn_load tbOk hA rfl rfl rfl rfl (cell_row (hS.heapAt 1 rfl) rfl)) ?_; clear hA; intro a hA
    refine st_run tbOk 1 hA (e' := (13, .pointer (some ⟨b3, 1, none⟩)) :: _) rfl ?_; clear hA; intro a hA
    refine st_val hA rfl rfl (by decide) (rn_load tbOk hA rfl rfl rfl rfl (cell_row (hS.heapAt 0 rfl) rfl)) ?_; clear hA; intro a hA
    refine st_run tbOk 3 hA (e' := (17, .bool (x1 == y1)) :: (16, .bool (x1 == y1)) :: (15, .bool (x1 == y1)) :: _) rfl ?_; clear hA; intro a hA
    by_cases hc6 : x1 = y1
    · replace hA := hA.rw 15 (v' := .bool true) rfl (vb_eq_t hc6)
      replace hA := hA.rw 16 (v' := .bool true) rfl (vb_eq_t hc6)
      replace hA := hA.rw 17 (v' := .bool true) rfl (vb_eq_t hc6)
      refine st_run tbOk 1 hA (e' := (18, .pointer (some ⟨b1, 2, none⟩)) :: _) rfl ?_; clear hA; intro a hA
      refine st_val hA rfl rfl (by decide) (rn_load tbOk hA rfl rfl rfl rfl (cell_row (hS.heapAt 1 rfl) rfl)) ?_; clear hA; intro a hA
      refine st_run tbOk 1 hA (e' := (20, .pointer (some ⟨b3, 2, none⟩)) :: _) rfl ?_; clear hA; intro a hA
      refine st_val hA rfl rfl (by decide) (rn_load tbOk hA rfl rfl rfl rfl (cell_row (hS.heapAt 0 rfl) rfl)) ?_; clear hA; intro a hA
      refine st_run tbOk 3 hA (e' := (24, .bool (x2 == y2)) :: (23, .bool (x2 == y2)) :: (22, .bool (x2 == y2)) :: _) rfl ?_; clear hA; intro a hA
      by_cases hc7 : x2 = y2
      · replace hA := hA.rw 22 (v' := .bool true) rfl (vb_eq_t hc7)
        replace hA := hA.rw 23 (v' := .bool true) rfl (vb_eq_t hc7)
        replace hA := hA.rw 24 (v' := .bool true) rfl (vb_eq_t hc7)
        refine st_run tbOk 1 hA (e' := (25, .pointer (some ⟨b1, 3, none⟩)) :: _) rfl ?_; clear hA; intro a hA
        refine st_val hA rfl rfl (by decide) (rn_load tbOk hA rfl rfl rfl rfl (cell_row (hS.heapAt 1 rfl) rfl)) ?_; clear hA; intro a hA
        refine st_run tbOk 1 hA (e' := (27, .pointer (some ⟨b3, 3, none⟩)) :: _) rfl ?_; clear hA; intro a hA
        refine st_val hA rfl rfl (by decide) (rn_load tbOk hA rfl rfl rfl rfl (cell_row (hS.heapAt 0 rfl) rfl)) ?_; clear hA; intro a hA
        refine st_run tbOk 3 hA (e' := (31, .bool (x3 == y3)) :: (30, .bool (x3 == y3)) :: (29, .bool (x3 == y3)) :: _) rfl ?_; clear hA; intro a hA
        by_cases hc8 : x3 = y3
        · replace hA := hA.rw 29 (v' := .bool true) rfl (vb_eq_t hc8)
          replace hA := hA.rw 30 (v' := .bool true) rfl (vb_eq_t hc8)
          replace hA := hA.rw 31 (v' := .bool true) rfl (vb_eq_t hc8)
          refine st_run tbOk 1 hA (e' := (32, .pointer (some ⟨b1, 4, none⟩)) :: _) rfl ?_; clear hA; intro a hA
          refine st_val hA rfl rfl (by decide) (rn_load tbOk hA rfl rfl rfl rfl (cell_row (hS.heapAt 1 rfl) rfl)) ?_; clear hA; intro a hA
          refine st_run tbOk 1 hA (e' := (34, .pointer (some ⟨b3, 4, none⟩)) :: _) rfl ?_; clear hA; intro a hA
          refine st_val hA rfl rfl (by decide) (rn_load tbOk hA rfl rfl rfl rfl (cell_row (hS.heapAt 0 rfl) rfl)) ?_; clear hA; intro a hA
          refine st_run tbOk 3 hA (e' := (38, .bool (x4 == y4)) :: (37, .bool (x4 == y4)) :: (36, .bool (x4 == y4)) :: _) rfl ?_; clear hA; intro a hA
          by_cases hc9 : x4 = y4
          · replace hA := hA.rw 36 (v' := .bool true) rfl (vb_eq_t hc9)
            replace hA := hA.rw 37 (v' := .bool true) rfl (vb_eq_t hc9)
            replace hA := hA.rw 38 (v' := .bool true) rfl (vb_eq_t hc9)
            refine st_run tbOk 1 hA (e' := (39, .pointer (some ⟨b1, 5, none⟩)) :: _) rfl ?_; clear hA; intro a hA
            refine st_val hA rfl rfl (by decide) (rn_loadA tbOk hA [.int .u64 x5, .int .u32 x6, .int .u8 x7, .int .u64 x8] rfl rfl rfl rfl rfl (cells_row (hS.heapAt 1 rfl) rfl)) ?_; clear hA; intro a hA
            refine st_run tbOk 1 hA (e' := (41, .pointer (some ⟨b3, 5, none⟩)) :: _) rfl ?_; clear hA; intro a hA
            refine st_val hA rfl rfl (by decide) (rn_loadA tbOk hA [.int .u64 y5, .int .u32 y6, .int .u8 y7, .int .u64 y8] rfl rfl rfl rfl rfl (cells_row (hS.heapAt 0 rfl) rfl)) ?_; clear hA; intro a hA
            refine st_val hA rfl rfl (by decide) (rn_eqA tbOk hA rfl rfl rfl rfl rfl (by kernel_rfl) (by kernel_rfl) rfl) ?_; clear hA; intro a hA
            replace hA := hA.rw 43 (v' := .bool (decide (x5 = y5 ∧ x6 = y6 ∧ x7 = y7 ∧ x8 = y8))) rfl (congrArg Value.bool (by rw [Bool.eq_iff_iff]; simp))
            refine st_run tbOk 2 hA (e' := (45, .bool (decide (x5 = y5 ∧ x6 = y6 ∧ x7 = y7 ∧ x8 = y8))) :: (44, .bool (decide (x5 = y5 ∧ x6 = y6 ∧ x7 = y7 ∧ x8 = y8))) :: _) rfl ?_; clear hA; intro a hA
            by_cases hc10 : x5 = y5 ∧ x6 = y6 ∧ x7 = y7 ∧ x8 = y8
            · replace hA := hA.rw 43 (v' := .bool true) rfl (vb_true hc10)
              replace hA := hA.rw 44 (v' := .bool true) rfl (vb_true hc10)
              replace hA := hA.rw 45 (v' := .bool true) rfl (vb_true hc10)
              refine st_run tbOk 1 hA (e' := (46, .pointer (some ⟨b1, 9, none⟩)) :: _) rfl ?_; clear hA; intro a hA
              refine st_val hA rfl rfl (by decide) (rn_load tbOk hA rfl rfl rfl rfl (cell_row (hS.heapAt 1 rfl) rfl)) ?_; clear hA; intro a hA
              refine st_run tbOk 1 hA (e' := (48, .pointer (some ⟨b3, 9, none⟩)) :: _) rfl ?_; clear hA; intro a hA
              refine st_val hA rfl rfl (by decide) (rn_load tbOk hA rfl rfl rfl rfl (cell_row (hS.heapAt 0 rfl) rfl)) ?_; clear hA; intro a hA
              refine st_run tbOk 3 hA (e' := (52, .bool (x9 == y9)) :: (51, .bool (x9 == y9)) :: (50, .bool (x9 == y9)) :: _) rfl ?_; clear hA; intro a hA
              by_cases hc11 : x9 = y9
              · replace hA := hA.rw 50 (v' := .bool true) rfl (vb_eq_t hc11)
                replace hA := hA.rw 51 (v' := .bool true) rfl (vb_eq_t hc11)
                replace hA := hA.rw 52 (v' := .bool true) rfl (vb_eq_t hc11)
                refine st_run tbOk 1 hA (e' := (53, .pointer (some ⟨b1, 10, none⟩)) :: _) rfl ?_; clear hA; intro a hA
                refine st_val hA rfl rfl (by decide) (rn_load tbOk hA rfl rfl rfl rfl (cell_row (hS.heapAt 1 rfl) rfl)) ?_; clear hA; intro a hA
                refine st_val hA rfl rfl (by decide) (rn_bstr tbOk hA (bs := bs) rfl rfl rfl rfl rfl rfl rfl rfl (h1 _ (hS.tail 2 rfl))) ?_; clear hA; intro a hA
                refine st_run tbOk 1 hA (e' := (56, .pointer (some ⟨b3, 10, none⟩)) :: _) rfl ?_; clear hA; intro a hA
                refine st_val hA rfl rfl (by decide) (rn_load tbOk hA rfl rfl rfl rfl (cell_row (hS.heapAt 0 rfl) rfl)) ?_; clear hA; intro a hA
                refine st_val hA rfl rfl (by decide) (rn_bstr tbOk hA (bs := cs) rfl rfl rfl rfl rfl rfl rfl rfl (h2 _ (hS.tail 2 rfl))) ?_; clear hA; intro a hA
                refine st_run tbOk 1 hA (e' := (59, .bool ((bsv bs).toList == (bsv cs).toList)) :: _) rfl ?_; clear hA; intro a hA
                replace hA := hA.rw 59 (v' := .bool (decide (bs = cs))) rfl (congrArg Value.bool (bsv_eq _ _))
                refine st_run tbOk 2 hA (e' := (4, .bool (decide (bs = cs))) :: (60, .bool (decide (bs = cs))) :: _) rfl ?_; clear hA; intro a hA
                refine wpList_nil ?_
                replace hA := hA.sel [4] (e' := [(4, .bool (decide (bs = cs)))]) rfl
                refine xt_norm ?_
                refine wp_ret ?_
                refine ret1 (fn := Tryd.f9) hA rfl rfl ?_
                replace hS := hS.drop1
                replace hS := hS.drop1
                exact ⟨congrArg Value.bool (decide_eq_decide.2 ⟨fun h => ⟨by assumption, by assumption, by assumption, by assumption, by assumption, by assumption, by assumption, h⟩, fun h => h.2.2.2.2.2.2.2⟩), hS⟩
              · replace hA := hA.rw 50 (v' := .bool false) rfl (vb_eq_f hc11)
                replace hA := hA.rw 51 (v' := .bool false) rfl (vb_eq_f hc11)
                replace hA := hA.rw 52 (v' := .bool false) rfl (vb_eq_f hc11)
                refine st_run tbOk 7 hA (e' := (59, undef) :: (58, undef) :: (57, undef) :: (56, undef) :: (55, undef) :: (54, undef) :: (53, undef) :: _) rfl ?_; clear hA; intro a hA
                refine st_run tbOk 2 hA (e' := (4, .bool false) :: (60, .bool false) :: _) rfl ?_; clear hA; intro a hA
                refine wpList_nil ?_
                replace hA := hA.sel [4] (e' := [(4, .bool false)]) rfl
                refine xt_norm ?_
                refine wp_ret ?_
                refine ret1 (fn := Tryd.f9) hA rfl rfl ?_
                replace hS := hS.drop1
                replace hS := hS.drop1
                exact ⟨congrArg Value.bool (decide_eq_false (fun h => by first | exact absurd h.1 (by assumption) | exact absurd h.2.1 (by assumption) | exact absurd h.2.2.1 (by assumption) | exact absurd h.2.2.2.1 (by assumption) | exact absurd h.2.2.2.2.1 (by assumption) | exact absurd h.2.2.2.2.2.1 (by assumption) | exact absurd h.2.2.2.2.2.2.1 (by assumption) | exact absurd h.2.2.2.2.2.2.2 (by assumption))).symm, hS⟩
            · replace hA := hA.rw 43 (v' := .bool false) rfl (vb_false hc10)
              replace hA := hA.rw 44 (v' := .bool false) rfl (vb_false hc10)
              replace hA := hA.rw 45 (v' := .bool false) rfl (vb_false hc10)
              refine st_run tbOk 14 hA (e' := (59, undef) :: (58, undef) :: (57, undef) :: (56, undef) :: (55, undef) :: (54, undef) :: (53, undef) :: (52, .bool false) :: (51, .bool false) :: (50, undef) :: (49, undef) :: (48, undef) :: (47, undef) :: (46, undef) :: _) rfl ?_; clear hA; intro a hA
              refine st_run tbOk 2 hA (e' := (4, .bool false) :: (60, .bool false) :: _) rfl ?_; clear hA; intro a hA
              refine wpList_nil ?_
              replace hA := hA.sel [4] (e' := [(4, .bool false)]) rfl
              refine xt_norm ?_
              refine wp_ret ?_
              refine ret1 (fn := Tryd.f9) hA rfl rfl ?_
              replace hS := hS.drop1
              replace hS := hS.drop1
              exact ⟨congrArg Value.bool (decide_eq_false (fun h => by first | exact absurd h.1 (by assumption) | exact absurd h.2.1 (by assumption) | exact absurd h.2.2.1 (by assumption) | exact absurd h.2.2.2.1 (by assumption) | exact absurd h.2.2.2.2.1 (by assumption) | exact absurd h.2.2.2.2.2.1 (by assumption) | exact absurd h.2.2.2.2.2.2.1 (by assumption) | exact absurd h.2.2.2.2.2.2.2 (by assumption))).symm, hS⟩
          · replace hA := hA.rw 36 (v' := .bool false) rfl (vb_eq_f hc9)
            replace hA := hA.rw 37 (v' := .bool false) rfl (vb_eq_f hc9)
            replace hA := hA.rw 38 (v' := .bool false) rfl (vb_eq_f hc9)
            refine st_run tbOk 5 hA (e' := (43, undef) :: (42, undef) :: (41, undef) :: (40, undef) :: (39, undef) :: _) rfl ?_; clear hA; intro a hA
            refine st_run tbOk 16 hA (e' := (59, undef) :: (58, undef) :: (57, undef) :: (56, undef) :: (55, undef) :: (54, undef) :: (53, undef) :: (52, .bool false) :: (51, .bool false) :: (50, undef) :: (49, undef) :: (48, undef) :: (47, undef) :: (46, undef) :: (45, .bool false) :: (44, .bool false) :: _) rfl ?_; clear hA; intro a hA
            refine st_run tbOk 2 hA (e' := (4, .bool false) :: (60, .bool false) :: _) rfl ?_; clear hA; intro a hA
            refine wpList_nil ?_
            replace hA := hA.sel [4] (e' := [(4, .bool false)]) rfl
            refine xt_norm ?_
            refine wp_ret ?_
            refine ret1 (fn := Tryd.f9) hA rfl rfl ?_
            replace hS := hS.drop1
            replace hS := hS.drop1
            exact ⟨congrArg Value.bool (decide_eq_false (fun h => by first | exact absurd h.1 (by assumption) | exact absurd h.2.1 (by assumption) | exact absurd h.2.2.1 (by assumption) | exact absurd h.2.2.2.1 (by assumption) | exact absurd h.2.2.2.2.1 (by assumption) | exact absurd h.2.2.2.2.2.1 (by assumption) | exact absurd h.2.2.2.2.2.2.1 (by assumption) | exact absurd h.2.2.2.2.2.2.2 (by assumption))).symm, hS⟩
        · replace hA := hA.rw 29 (v' := .bool false) rfl (vb_eq_f hc8)
          replace hA := hA.rw 30 (v' := .bool false) rfl (vb_eq_f hc8)
          replace hA := hA.rw 31 (v' := .bool false) rfl (vb_eq_f hc8)
          refine st_run tbOk 12 hA (e' := (43, undef) :: (42, undef) :: (41, undef) :: (40, undef) :: (39, undef) :: (38, .bool false) :: (37, .bool false) :: (36, undef) :: (35, undef) :: (34, undef) :: (33, undef) :: (32, undef) :: _) rfl ?_; clear hA; intro a hA
          refine st_run tbOk 16 hA (e' := (59, undef) :: (58, undef) :: (57, undef) :: (56, undef) :: (55, undef) :: (54, undef) :: (53, undef) :: (52, .bool false) :: (51, .bool false) :: (50, undef) :: (49, undef) :: (48, undef) :: (47, undef) :: (46, undef) :: (45, .bool false) :: (44, .bool false) :: _) rfl ?_; clear hA; intro a hA
          refine st_run tbOk 2 hA (e' := (4, .bool false) :: (60, .bool false) :: _) rfl ?_; clear hA; intro a hA
          refine wpList_nil ?_
          replace hA := hA.sel [4] (e' := [(4, .bool false)]) rfl
          refine xt_norm ?_
          refine wp_ret ?_
          refine ret1 (fn := Tryd.f9) hA rfl rfl ?_
          replace hS := hS.drop1
          replace hS := hS.drop1
          exact ⟨congrArg Value.bool (decide_eq_false (fun h => by first | exact absurd h.1 (by assumption) | exact absurd h.2.1 (by assumption) | exact absurd h.2.2.1 (by assumption) | exact absurd h.2.2.2.1 (by assumption) | exact absurd h.2.2.2.2.1 (by assumption) | exact absurd h.2.2.2.2.2.1 (by assumption) | exact absurd h.2.2.2.2.2.2.1 (by assumption) | exact absurd h.2.2.2.2.2.2.2 (by assumption))).symm, hS⟩
      · replace hA := hA.rw 22 (v' := .bool false) rfl (vb_eq_f hc7)
        replace hA := hA.rw 23 (v' := .bool false) rfl (vb_eq_f hc7)
        replace hA := hA.rw 24 (v' := .bool false) rfl (vb_eq_f hc7)
        refine st_run tbOk 19 hA (e' := (43, undef) :: (42, undef) :: (41, undef) :: (40, undef) :: (39, undef) :: (38, .bool false) :: (37, .bool false) :: (36, undef) :: (35, undef) :: (34, undef) :: (33, undef) :: (32, undef) :: (31, .bool false) :: (30, .bool false) :: (29, undef) :: (28, undef) :: (27, undef) :: (26, undef) :: (25, undef) :: _) rfl ?_; clear hA; intro a hA
        refine st_run tbOk 16 hA (e' := (59, undef) :: (58, undef) :: (57, undef) :: (56, undef) :: (55, undef) :: (54, undef) :: (53, undef) :: (52, .bool false) :: (51, .bool false) :: (50, undef) :: (49, undef) :: (48, undef) :: (47, undef) :: (46, undef) :: (45, .bool false) :: (44, .bool false) :: _) rfl ?_; clear hA; intro a hA
        refine st_run tbOk 2 hA (e' := (4, .bool false) :: (60, .bool false) :: _) rfl ?_; clear hA; intro a hA
        refine wpList_nil ?_
        replace hA := hA.sel [4] (e' := [(4, .bool false)]) rfl
        refine xt_norm ?_
        refine wp_ret ?_
        refine ret1 (fn := Tryd.f9) hA rfl rfl ?_
        replace hS := hS.drop1
        replace hS := hS.drop1
        exact ⟨congrArg Value.bool (decide_eq_false (fun h => by first | exact absurd h.1 (by assumption) | exact absurd h.2.1 (by assumption) | exact absurd h.2.2.1 (by assumption) | exact absurd h.2.2.2.1 (by assumption) | exact absurd h.2.2.2.2.1 (by assumption) | exact absurd h.2.2.2.2.2.1 (by assumption) | exact absurd h.2.2.2.2.2.2.1 (by assumption) | exact absurd h.2.2.2.2.2.2.2 (by assumption))).symm, hS⟩
    · replace hA := hA.rw 15 (v' := .bool false) rfl (vb_eq_f hc6)
      replace hA := hA.rw 16 (v' := .bool false) rfl (vb_eq_f hc6)
      replace hA := hA.rw 17 (v' := .bool false) rfl (vb_eq_f hc6)
      refine st_run tbOk 26 hA (e' := (43, undef) :: (42, undef) :: (41, undef) :: (40, undef) :: (39, undef) :: (38, .bool false) :: (37, .bool false) :: (36, undef) :: (35, undef) :: (34, undef) :: (33, undef) :: (32, undef) :: (31, .bool false) :: (30, .bool false) :: (29, undef) :: (28, undef) :: (27, undef) :: (26, undef) :: (25, undef) :: (24, .bool false) :: (23, .bool false) :: (22, undef) :: (21, undef) :: (20, undef) :: (19, undef) :: (18, undef) :: _) rfl ?_; clear hA; intro a hA
      refine st_run tbOk 16 hA (e' := (59, undef) :: (58, undef) :: (57, undef) :: (56, undef) :: (55, undef) :: (54, undef) :: (53, undef) :: (52, .bool false) :: (51, .bool false) :: (50, undef) :: (49, undef) :: (48, undef) :: (47, undef) :: (46, undef) :: (45, .bool false) :: (44, .bool false) :: _) rfl ?_; clear hA; intro a hA
      refine st_run tbOk 2 hA (e' := (4, .bool false) :: (60, .bool false) :: _) rfl ?_; clear hA; intro a hA
      refine wpList_nil ?_
      replace hA := hA.sel [4] (e' := [(4, .bool false)]) rfl
      refine xt_norm ?_
      refine wp_ret ?_
      refine ret1 (fn := Tryd.f9) hA rfl rfl ?_
      replace hS := hS.drop1
      replace hS := hS.drop1
      exact ⟨congrArg Value.bool (decide_eq_false (fun h => by first | exact absurd h.1 (by assumption) | exact absurd h.2.1 (by assumption) | exact absurd h.2.2.1 (by assumption) | exact absurd h.2.2.2.1 (by assumption) | exact absurd h.2.2.2.2.1 (by assumption) | exact absurd h.2.2.2.2.2.1 (by assumption) | exact absurd h.2.2.2.2.2.2.1 (by assumption) | exact absurd h.2.2.2.2.2.2.2 (by assumption))).symm, hS⟩
  · replace hA := hA.rw 9 (v' := .bool false) rfl (vb_eq_f hc5)
    replace hA := hA.rw 10 (v' := .bool false) rfl (vb_eq_f hc5)
    refine st_run tbOk 33 hA (e' := (43, undef) :: (42, undef) :: (41, undef) :: (40, undef) :: (39, undef) :: (38, .bool false) :: (37, .bool false) :: (36, undef) :: (35, undef) :: (34, undef) :: (33, undef) :: (32, undef) :: (31, .bool false) :: (30, .bool false) :: (29, undef) :: (28, undef) :: (27, undef) :: (26, undef) :: (25, undef) :: (24, .bool false) :: (23, .bool false) :: (22, undef) :: (21, undef) :: (20, undef) :: (19, undef) :: (18, undef) :: (17, .bool false) :: (16, .bool false) :: (15, undef) :: (14, undef) :: (13, undef) :: (12, undef) :: (11, undef) :: _) rfl ?_; clear hA; intro a hA
    refine st_run tbOk 16 hA (e' := (59, undef) :: (58, undef) :: (57, undef) :: (56, undef) :: (55, undef) :: (54, undef) :: (53, undef) :: (52, .bool false) :: (51, .bool false) :: (50, undef) :: (49, undef) :: (48, undef) :: (47, undef) :: (46, undef) :: (45, .bool false) :: (44, .bool false) :: _) rfl ?_; clear hA; intro a hA
    refine st_run tbOk 2 hA (e' := (4, .bool false) :: (60, .bool false) :: _) rfl ?_; clear hA; intro a hA
    refine wpList_nil ?_
    replace hA := hA.sel [4] (e' := [(4, .bool false)]) rfl
    refine xt_norm ?_
    refine wp_ret ?_
    refine ret1 (fn := Tryd.f9) hA rfl rfl ?_
    replace hS := hS.drop1
    replace hS := hS.drop1
    exact ⟨congrArg Value.bool (decide_eq_false (fun h => by first | exact absurd h.1 (by assumption) | exact absurd h.2.1 (by assumption) | exact absurd h.2.2.1 (by assumption) | exact absurd h.2.2.2.1 (by assumption) | exact absurd h.2.2.2.2.1 (by assumption) | exact absurd h.2.2.2.2.2.1 (by assumption) | exact absurd h.2.2.2.2.2.2.1 (by assumption) | exact absurd h.2.2.2.2.2.2.2 (by assumption))).symm, hS⟩

theorem awake4 {w0 w : World} {F : List Chunk} (hS : St w0 w F) :
    Ret Tryd.prog 4 #[] w (fun v w' => v = .bool true ∧ St w0 w' F) := by
  refine enter (vs := []) 96 Tryd.func4 rfl rfl (by simp) ?_; intro a hA
  refine wp_seq ?_
  refine wp_region_lit ?_
  refine st_run tbOk 1 hA (e' := (0, .bool false) :: _) rfl ?_; clear hA; intro a hA
  refine wpList_nil ?_
  replace hA := hA.sel [] (e' := []) rfl
  refine xt_norm ?_
  refine wp_seq ?_
  refine wp_region_lit ?_
  refine st_run tbOk 1 hA (e' := (17, .agg #[.slice none 0 0, .slice none 0 0]) :: _) rfl ?_; clear hA; intro a hA
  refine st_box hA hS [.slice none 0 0, .slice none 0 0] rfl rfl rfl rfl rfl (by decide) ?_; clear hA hS; intro b1 w2 a hS hA
  obtain ⟨L3, hM4, hS⟩ : ∃ Z, MR b1 [] [] Z ∧ St w0 w2 (Z :: F) := ⟨_, MR.new _, hS⟩
  replace hS := hS.nil
  refine st_run tbOk 1 hA (e' := (1, .pointer (some ⟨b1, 0, none⟩)) :: _) rfl ?_; clear hA; intro a hA
  refine wpList_nil ?_
  replace hA := hA.sel [1] (e' := [(1, .pointer (some ⟨b1, 0, none⟩))]) rfl
  refine xt_norm ?_
  refine wp_seq ?_
  refine wp_region_lit ?_
  refine st_run tbOk 1 hA (e' := (20, .pointer (some ⟨b1, 0, none⟩)) :: _) rfl ?_; clear hA; intro a hA
  replace hS := hS.front 1 (C := L3) (L' := [] :: F) rfl rfl
  refine st_call0 hA rfl rfl rfl isfn8 rfl rfl (by decide) (get_wait8 hS hM4 5 1 (by decide) (fun i y h => by simp at h) (by decide)) ?_
  clear hA hS; rintro _ w5 a ⟨L6, hM7, rfl, hS⟩ hA
  have hM8 : MR b1 (([(5, 1)] : List (Int × Int))) (([] : List Msg)) L6 := hM7
  refine st_run tbOk 4 hA (e' := (24, .nilIface) :: (23, .bool false) :: (22, .agg #[.int .u64 0, .int .u64 0, .int .u32 0, .int .u16 0, .int .u16 0, .int .u64 0, .int .u32 0, .int .u8 0, .int .u64 0, .int .u64 0, .slice none 0 0]) :: (19, .tuple #[.agg #[.int .u64 0, .int .u64 0, .int .u32 0, .int .u16 0, .int .u16 0, .int .u64 0, .int .u32 0, .int .u8 0, .int .u64 0, .int .u64 0, .slice none 0 0], .bool false, .nilIface]) :: _) rfl ?_; clear hA; intro a hA
  refine st_alloc tbOk hA hS [.int .u64 0, .int .u64 0, .int .u32 0, .int .u16 0, .int .u16 0, .int .u64 0, .int .u32 0, .int .u8 0, .int .u64 0, .int .u64 0, .slice none 0 0] rfl rfl rfl rfl rfl (by decide) ?_; clear hA hS; intro b9 w10 a hS hA
  refine st_store tbOk hA hS [.int .u64 0, .int .u64 0, .int .u32 0, .int .u16 0, .int .u16 0, .int .u64 0, .int .u32 0, .int .u8 0, .int .u64 0, .int .u64 0, .slice none 0 0] [.int .u64 0, .int .u64 0, .int .u32 0, .int .u16 0, .int .u16 0, .int .u64 0, .int .u32 0, .int .u8 0, .int .u64 0, .int .u64 0, .slice none 0 0] rfl rfl rfl rfl rfl rfl (by simp [Value.oneCell']) (Nat.le_of_ble_eq_true rfl) rfl rfl rfl ?_; clear hS; intro w11 hS
  refine st_run tbOk 2 hA (e' := (4, .nilIface) :: (3, .bool false) :: _) rfl ?_; clear hA; intro a hA
  refine wpList_nil ?_
  replace hA := hA.sel [1, 3, 4] (e' := [(1, .pointer (some ⟨b1, 0, none⟩)), (3, .bool false), (4, .nilIface)]) rfl
  refine xt_norm ?_
  refine wp_seq ?_
  refine wp_region_lit ?_
  refine st_run tbOk 1 hA (e' := (26, .pointer (some ⟨b1, 0, none⟩)) :: _) rfl ?_; clear hA; intro a hA
  replace hS := hS.front 1 (C := L6) (L' := [(b9, rowO [.int .u64 0, .int .u64 0, .int .u32 0, .int .u16 0, .int .u16 0, .int .u64 0, .int .u32 0, .int .u8 0, .int .u64 0, .int .u64 0, .slice none 0 0] 37)] :: [] :: F) rfl rfl
  refine st_call0 hA rfl rfl rfl isfn8 rfl rfl (by decide) (get_wait8 hS hM8 5 2 (by decide) (fun i y h => by simp at h) (by decide)) ?_
  clear hA hS; rintro _ w12 a ⟨L13, hM14, rfl, hS⟩ hA
  have hM15 : MR b1 (([(5, 1), (5, 2)] : List (Int × Int))) (([] : List Msg)) L13 := hM14
  refine st_run tbOk 4 hA (e' := (30, .nilIface) :: (29, .bool false) :: (28, .agg #[.int .u64 0, .int .u64 0, .int .u32 0, .int .u16 0, .int .u16 0, .int .u64 0, .int .u32 0, .int .u8 0, .int .u64 0, .int .u64 0, .slice none 0 0]) :: (25, .tuple #[.agg #[.int .u64 0, .int .u64 0, .int .u32 0, .int .u16 0, .int .u16 0, .int .u64 0, .int .u32 0, .int .u8 0, .int .u64 0, .int .u64 0, .slice none 0 0], .bool false, .nilIface]) :: _) rfl ?_; clear hA; intro a hA
  refine st_alloc tbOk hA hS [.int .u64 0, .int .u64 0, .int .u32 0, .int .u16 0, .int .u16 0, .int .u64 0, .int .u32 0, .int .u8 0, .int .u64 0, .int .u64 0, .slice none 0 0] rfl rfl rfl rfl rfl (by decide) ?_; clear hA hS; intro b16 w17 a hS hA
  refine st_store tbOk hA hS [.int .u64 0, .int .u64 0, .int .u32 0, .int .u16 0, .int .u16 0, .int .u64 0, .int .u32 0, .int .u8 0, .int .u64 0, .int .u64 0, .slice none 0 0] [.int .u64 0, .int .u64 0, .int .u32 0, .int .u16 0, .int .u16 0, .int .u64 0, .int .u32 0, .int .u8 0, .int .u64 0, .int .u64 0, .slice none 0 0] rfl rfl rfl rfl rfl rfl (by simp [Value.oneCell']) (Nat.le_of_ble_eq_true rfl) rfl rfl rfl ?_; clear hS; intro w18 hS
  refine st_run tbOk 2 hA (e' := (7, .nilIface) :: (6, .bool false) :: _) rfl ?_; clear hA; intro a hA
  refine wpList_nil ?_
  replace hA := hA.sel [1, 3, 4, 6, 7] (e' := [(1, .pointer (some ⟨b1, 0, none⟩)), (3, .bool false), (4, .nilIface), (6, .bool false), (7, .nilIface)]) rfl
  refine xt_norm ?_
  refine wp_seq ?_
  refine wp_region_lit ?_
  refine st_run tbOk 2 hA (e' := (33, .agg #[.int .u64 5, .int .u64 0, .int .u32 0, .int .u16 0, .int .u16 0, .int .u64 0, .int .u32 0, .int .u8 0, .int .u64 0, .int .u64 0, .slice none 0 0]) :: (32, .pointer (some ⟨b1, 0, none⟩)) :: _) rfl ?_; clear hA; intro a hA
  replace hS := hS.front 3 (C := []) (L' := [(b16, rowO [.int .u64 0, .int .u64 0, .int .u32 0, .int .u16 0, .int .u16 0, .int .u64 0, .int .u32 0, .int .u8 0, .int .u64 0, .int .u64 0, .slice none 0 0] 37)] :: L13 :: [(b9, rowO [.int .u64 0, .int .u64 0, .int .u32 0, .int .u16 0, .int .u16 0, .int .u64 0, .int .u32 0, .int .u8 0, .int .u64 0, .int .u64 0, .slice none 0 0] 37)] :: F) rfl rfl
  replace hS := hS.front 2 (C := L13) (L' := [] :: [(b16, rowO [.int .u64 0, .int .u64 0, .int .u32 0, .int .u16 0, .int .u16 0, .int .u64 0, .int .u32 0, .int .u8 0, .int .u64 0, .int .u64 0, .slice none 0 0] 37)] :: [(b9, rowO [.int .u64 0, .int .u64 0, .int .u32 0, .int .u16 0, .int .u16 0, .int .u64 0, .int .u32 0, .int .u8 0, .int .u64 0, .int .u64 0, .slice none 0 0] 37)] :: F) rfl rfl
  refine st_call0 hA rfl rfl rfl isfn6 rfl rfl (by decide) (offer_hit6 hS hM15 5 0 0 0 0 0 0 0 0 0 (bs := ([] : List UInt8)) RdSX.nil (by first | omega | exact Nat.zero_le _) (k0 := 0) (x0 := (5, 1)) rfl rfl (fun i y h => absurd h (Nat.not_lt_zero _))) ?_
  clear hA hS; rintro _ w19 a ⟨L20, hM21, rfl, hS⟩ hA
  have hM22 : MR b1 (([(5, 2)] : List (Int × Int))) (([] : List Msg)) L20 := hM21
  refine st_run tbOk 7 hA (e' := (10, .nilIface) :: (9, .bool true) :: (8, .int .i64 1) :: (37, .nilIface) :: (36, .bool true) :: (35, .int .i64 1) :: (31, .tuple #[.int .i64 1, .bool true, .nilIface]) :: _) rfl ?_; clear hA; intro a hA
  refine wpList_nil ?_
  replace hA := hA.sel [1, 3, 4, 6, 7, 8, 9, 10] (e' := [(1, .pointer (some ⟨b1, 0, none⟩)), (3, .bool false), (4, .nilIface), (6, .bool false), (7, .nilIface), (8, .int .i64 1), (9, .bool true), (10, .nilIface)]) rfl
  refine xt_norm ?_
  refine wp_seq ?_
  refine wp_region_lit ?_
  refine st_run tbOk 2 hA (e' := (40, .agg #[.int .u64 6, .int .u64 0, .int .u32 9, .int .u16 0, .int .u16 0, .int .u64 0, .int .u32 0, .int .u8 0, .int .u64 0, .int .u64 0, .slice none 0 0]) :: (39, .pointer (some ⟨b1, 0, none⟩)) :: _) rfl ?_; clear hA; intro a hA
  replace hS := hS.front 1 (C := []) (L' := L20 :: [(b16, rowO [.int .u64 0, .int .u64 0, .int .u32 0, .int .u16 0, .int .u16 0, .int .u64 0, .int .u32 0, .int .u8 0, .int .u64 0, .int .u64 0, .slice none 0 0] 37)] :: [(b9, rowO [.int .u64 0, .int .u64 0, .int .u32 0, .int .u16 0, .int .u16 0, .int .u64 0, .int .u32 0, .int .u8 0, .int .u64 0, .int .u64 0, .slice none 0 0] 37)] :: F) rfl rfl
  replace hS := hS.front 1 (C := L20) (L' := [] :: [(b16, rowO [.int .u64 0, .int .u64 0, .int .u32 0, .int .u16 0, .int .u16 0, .int .u64 0, .int .u32 0, .int .u8 0, .int .u64 0, .int .u64 0, .slice none 0 0] 37)] :: [(b9, rowO [.int .u64 0, .int .u64 0, .int .u32 0, .int .u16 0, .int .u16 0, .int .u64 0, .int .u32 0, .int .u8 0, .int .u64 0, .int .u64 0, .slice none 0 0] 37)] :: F) rfl rfl
  refine st_call0 hA rfl rfl rfl isfn6 rfl rfl (by decide) (offer_ok6 hS hM22 6 0 9 0 0 0 0 0 0 0 (bs := ([] : List UInt8)) RdSX.nil (by first | omega | exact Nat.zero_le _) (fun i y h => by cases i with | zero => simp at h; subst h; decide | succ j => simp at h) (by decide)) ?_
  clear hA hS; rintro _ w23 a ⟨L24, E26, A27, c28, hM25, hE29, rfl, hS⟩ hA
  have hM30 : MR b1 (([(5, 2)] : List (Int × Int))) ([(6, 0, 9, 0, 0, 0, 0, 0, 0, 0, A27, c28, ([] : List UInt8))]) L24 := hM25
  refine st_run tbOk 7 hA (e' := (13, .nilIface) :: (12, .bool false) :: (11, .int .i64 0) :: (44, .nilIface) :: (43, .bool false) :: (42, .int .i64 0) :: (38, .tuple #[.int .i64 0, .bool false, .nilIface]) :: _) rfl ?_; clear hA; intro a hA
  refine wpList_nil ?_
  replace hA := hA.sel [1, 3, 4, 6, 7, 8, 9, 10, 12, 13] (e' := [(1, .pointer (some ⟨b1, 0, none⟩)), (3, .bool false), (4, .nilIface), (6, .bool false), (7, .nilIface), (8, .int .i64 1), (9, .bool true), (10, .nilIface), (12, .bool false), (13, .nilIface)]) rfl
  refine xt_norm ?_
  refine wp_seq ?_
  refine wp_region_lit ?_
  refine st_run tbOk 1 hA (e' := (46, .pointer (some ⟨b1, 0, none⟩)) :: _) rfl ?_; clear hA; intro a hA
  refine st_call0 hA rfl rfl rfl isfn8 rfl rfl (by decide) (get_hit8 hS hM30 6 1 (by decide) (k0 := 0) (x0 := (6, 0, 9, 0, 0, 0, 0, 0, 0, 0, A27, c28, ([] : List UInt8))) rfl rfl (fun i y h => absurd h (Nat.not_lt_zero _))) ?_
  clear hA hS; rintro _ w31 a ⟨L32, hM33, rfl, hS⟩ hA
  refine st_run tbOk 4 hA (e' := (50, .nilIface) :: (49, .bool true) :: (48, .agg #[.int .u64 6, .int .u64 0, .int .u32 9, .int .u16 0, .int .u16 0, .int .u64 0, .int .u32 0, .int .u8 0, .int .u64 0, .int .u64 0, .slice A27 0 c28]) :: (45, .tuple #[.agg #[.int .u64 6, .int .u64 0, .int .u32 9, .int .u16 0, .int .u16 0, .int .u64 0, .int .u32 0, .int .u8 0, .int .u64 0, .int .u64 0, .slice A27 0 c28], .bool true, .nilIface]) :: _) rfl ?_; clear hA; intro a hA
  refine st_alloc tbOk hA hS [.int .u64 0, .int .u64 0, .int .u32 0, .int .u16 0, .int .u16 0, .int .u64 0, .int .u32 0, .int .u8 0, .int .u64 0, .int .u64 0, .slice none 0 0] rfl rfl rfl rfl rfl (by decide) ?_; clear hA hS; intro b34 w35 a hS hA
  refine st_store tbOk hA hS [.int .u64 6, .int .u64 0, .int .u32 9, .int .u16 0, .int .u16 0, .int .u64 0, .int .u32 0, .int .u8 0, .int .u64 0, .int .u64 0, .slice A27 0 c28] [.int .u64 6, .int .u64 0, .int .u32 9, .int .u16 0, .int .u16 0, .int .u64 0, .int .u32 0, .int .u8 0, .int .u64 0, .int .u64 0, .slice A27 0 c28] rfl rfl rfl rfl rfl rfl (by simp [Value.oneCell']) (Nat.le_of_ble_eq_true rfl) rfl rfl rfl ?_; clear hS; intro w36 hS
  refine st_run tbOk 2 hA (e' := (16, .nilIface) :: (15, .bool true) :: _) rfl ?_; clear hA; intro a hA
  refine wpList_nil ?_
  replace hA := hA.sel [3, 4, 6, 7, 8, 9, 10, 12, 13, 14, 15, 16] (e' := [(3, .bool false), (4, .nilIface), (6, .bool false), (7, .nilIface), (8, .int .i64 1), (9, .bool true), (10, .nilIface), (12, .bool false), (13, .nilIface), (14, .pointer (some ⟨b34, 0, none⟩)), (15, .bool true), (16, .nilIface)]) rfl
  refine xt_norm ?_
  refine wp_seq ?_
  refine wp_region_lit ?_
  refine st_run tbOk 22 hA (e' := (72, .pointer (some ⟨b34, 2, none⟩)) :: (71, .bool true) :: (70, .bool true) :: (69, .bool true) :: (68, .bool true) :: (67, .bool true) :: (66, .bool true) :: (65, .bool false) :: (64, .bool true) :: (63, .bool true) :: (62, .bool true) :: (61, .bool true) :: (60, .bool true) :: (59, .bool true) :: (58, .int .i64 1) :: (57, .bool true) :: (56, .bool true) :: (55, .bool true) :: (54, .bool false) :: (53, .bool true) :: (52, .bool true) :: (51, .bool false) :: _) rfl ?_; clear hA; intro a hA
  refine st_val hA rfl rfl (by decide) (rn_load tbOk hA rfl rfl rfl rfl (cell_row (hS.heapAt 0 rfl) rfl)) ?_; clear hA; intro a hA
  refine st_run tbOk 23 hA (e' := (0, .bool true) :: (95, .bool true) :: (94, .bool true) :: (93, .nilIface) :: (92, .bool true) :: (91, .bool true) :: (90, .bool true) :: (89, .nilIface) :: (88, .bool true) :: (87, .bool true) :: (86, .bool true) :: (85, .nilIface) :: (84, .bool true) :: (83, .bool true) :: (82, .bool true) :: (81, .nilIface) :: (80, .bool true) :: (79, .bool true) :: (78, .bool true) :: (77, .nilIface) :: (76, .bool true) :: (75, .bool true) :: (74, .bool true) :: _) rfl ?_; clear hA; intro a hA
  refine wpList_nil ?_
  replace hA := hA.sel [0] (e' := [(0, .bool true)]) rfl
  refine xt_norm ?_
  refine wp_ret ?_
  refine ret1 (fn := Tryd.f4) hA rfl rfl ?_
  replace hS := hS.drop1
  replace hS := hS.drop1
  replace hS := hS.drop1
  replace hS := hS.drop1
  replace hS := hS.drop1
  exact ⟨rfl, hS⟩

theorem upd_setCell {w : World} {b : Nat} {x v : Value} {T : TypeId} (hb : w.heap[b]? = some (rowO [x] T)) : Upd w (w.setCell ⟨b, 0, none⟩ v) b (rowO [v] T) := by
  refine ⟨rfl, rfl, rfl, by simp [World.setCell], ?_, fun k _ hk => RowKit.Below.heap_setCell w _ _ k hk⟩
  simp only [World.setCell, Array.getElem?_modify, if_true, hb]
  rfl
/-- What the listed variable holds, in the world that the law begins in. -/
def HG (w : World) : Prop := w.cell? ⟨0, 0, none⟩ = some (.iface 79 (.agg #[.pointer (some ⟨1, 44, none⟩)]))
theorem asHit {w0 w : World} {F : List Chunk} {b : Nat} {x : Value} (hS : St w0 w ([(b, rowO [x] 47)] :: F)) (hg : HG w0) (n : Int) :
    Ret Tryd.prog 16 #[.iface 47 (.int .i64 n), .iface 62 (.pointer (some ⟨b, 0, none⟩))] w (fun v w' => v = .bool true ∧ St w0 w' ([(b, rowO [.int .i64 n] 47)] :: F)) := by
  have hb := hS.heapAt 0 rfl
  refine Calls.mono (as_hit n ⟨b, 0, none⟩ x w (hS.old hg) (cell_row hb rfl) (by simp [World.frozen?, hb, rowO])) fun e w' ⟨he, hw⟩ => ⟨_, he, rfl, ?_⟩
  subst hw
  have h4 := (((hS.alloc (.cells #[.pointer (some ⟨b, 0, none⟩)] 62)).alloc (.cells #[.pointer (some ⟨1, 62, none⟩), .pointer (some ⟨w.heap.size, 0, none⟩), .int .u64 150] 69)).alloc (.cells #[.pointer (some ⟨1, 62, none⟩), .pointer (some ⟨w.heap.size, 0, none⟩), .int .u64 150] 69)).alloc (.cells #[.int .i64 n] 47)
  have h5 := h4.drop1.drop1.drop1.drop1
  exact h5.upd (upd_setCell (h5.heapAt 0 rfl))
theorem asNil {w0 w : World} {F : List Chunk} (hS : St w0 w F) (t : Value) :
    Ret Tryd.prog 16 #[.nilIface, t] w (fun v w' => v = .bool false ∧ St w0 w' F) :=
  Calls.mono (as_nil t w) fun e w' ⟨he, hw⟩ => ⟨_, he, rfl, hw ▸ hS⟩

theorem number_hit7 {w0 w : World} {F : List Chunk} (hS : St w0 w F) (hg : HG w0) (n : Int) :
    Ret Tryd.prog 7 #[.iface 47 (.int .i64 n)] w (fun v w' => v = .int .i64 n ∧ St w0 w' F) := by
  refine enter (vs := [.iface 47 (.int .i64 n)]) 8 Tryd.func7 rfl rfl (by simp) ?_; intro a hA
  refine wp_seq ?_
  refine wp_region_lit ?_
  refine st_run tbOk 1 hA (e' := (2, .int .i64 0) :: _) rfl ?_; clear hA; intro a hA
  refine wpList_nil ?_
  replace hA := hA.sel [0] (e' := [(0, .iface 47 (.int .i64 n))]) rfl
  refine xt_norm ?_
  refine wp_seq ?_
  refine wp_region_lit ?_
  refine st_alloc tbOk hA hS [.int .i64 0] rfl rfl rfl rfl rfl (by decide) ?_; clear hA hS; intro b1 w2 a hS hA
  refine wpList_nil ?_
  refine xt_norm ?_
  refine wp_seq ?_
  refine wp_seq ?_
  refine wp_region_lit ?_
  refine st_run tbOk 2 hA (e' := (5, .iface 62 (.pointer (some ⟨b1, 0, none⟩))) :: (4, .iface 47 (.int .i64 n)) :: _) rfl ?_; clear hA; intro a hA
  refine st_call0 hA rfl rfl rfl isfn16 rfl rfl (by decide) (asHit hS hg n) ?_
  clear hA hS; rintro v w3 a ⟨rfl, hS⟩ hA
  refine wpList_nil ?_
  replace hA := hA.sel [3, 6] (e' := [(3, .pointer (some ⟨b1, 0, none⟩)), (6, .bool true)]) rfl
  refine xt_norm ?_
  refine cd_cond_t hA rfl ?_
  refine wp_seq ?_
  refine wp_region_lit ?_
  refine st_val hA rfl rfl (by decide) (rn_load tbOk hA rfl rfl rfl rfl (cell_row (hS.heapAt 0 rfl) rfl)) ?_; clear hA; intro a hA
  refine st_run tbOk 1 hA (e' := (2, .int .i64 n) :: _) rfl ?_; clear hA; intro a hA
  refine wpList_nil ?_
  replace hA := hA.sel [2] (e' := [(2, .int .i64 n)]) rfl
  refine xt_norm ?_
  refine wp_ret (xt_ret ?_)
  refine ret1 (fn := Tryd.f7) hA rfl rfl ?_
  replace hS := hS.drop1
  exact ⟨rfl, hS⟩

theorem number_nil7 {w0 w : World} {F : List Chunk} (hS : St w0 w F) (hg : HG w0) :
    Ret Tryd.prog 7 #[.nilIface] w (fun v w' => v = .int .i64 0 ∧ St w0 w' F) := by
  refine enter (vs := [.nilIface]) 8 Tryd.func7 rfl rfl (by simp) ?_; intro a hA
  refine wp_seq ?_
  refine wp_region_lit ?_
  refine st_run tbOk 1 hA (e' := (2, .int .i64 0) :: _) rfl ?_; clear hA; intro a hA
  refine wpList_nil ?_
  replace hA := hA.sel [0] (e' := [(0, .nilIface)]) rfl
  refine xt_norm ?_
  refine wp_seq ?_
  refine wp_region_lit ?_
  refine st_alloc tbOk hA hS [.int .i64 0] rfl rfl rfl rfl rfl (by decide) ?_; clear hA hS; intro b1 w2 a hS hA
  refine wpList_nil ?_
  refine xt_norm ?_
  refine wp_seq ?_
  refine wp_seq ?_
  refine wp_region_lit ?_
  refine st_run tbOk 2 hA (e' := (5, .iface 62 (.pointer (some ⟨b1, 0, none⟩))) :: (4, .nilIface) :: _) rfl ?_; clear hA; intro a hA
  refine st_call0 hA rfl rfl rfl isfn16 rfl rfl (by decide) (asNil hS _) ?_
  clear hA hS; rintro v w3 a ⟨rfl, hS⟩ hA
  refine wpList_nil ?_
  replace hA := hA.sel [3, 6] (e' := [(3, .pointer (some ⟨b1, 0, none⟩)), (6, .bool false)]) rfl
  refine xt_norm ?_
  refine cd_cond_f hA rfl ?_
  refine wp_skip ?_
  refine xt_norm ?_
  refine wp_seq ?_
  refine wp_region_lit ?_
  refine st_run tbOk 1 hA (e' := (2, .int .i64 0) :: _) rfl ?_; clear hA; intro a hA
  refine wpList_nil ?_
  replace hA := hA.sel [2] (e' := [(2, .int .i64 0)]) rfl
  refine xt_norm ?_
  refine wp_ret ?_
  refine ret1 (fn := Tryd.f7) hA rfl rfl ?_
  replace hS := hS.drop1
  exact ⟨rfl, hS⟩

def mst (x : Msg) : Int × Int × Int × Int × Int × Int × Int × Int × Int × Int × List UInt8 := (x.1, x.2.1, x.2.2.1, x.2.2.2.1, x.2.2.2.2.1, x.2.2.2.2.2.1, x.2.2.2.2.2.2.1, x.2.2.2.2.2.2.2.1, x.2.2.2.2.2.2.2.2.1, x.2.2.2.2.2.2.2.2.2.1, mdat x)
structure MI (ws : List (Int × Int)) (ms rs : List Msg) : Prop where
  eq : ms.map mst = rs.map mst
  nd : (ws.map (fun x => x.2)).Nodup
  rg : ∀ x ∈ ws, 0 ≤ x.2 ∧ x.2 < 8
  ln : rs.length ≤ 64
theorem MI.nil : MI [] [] [] := ⟨rfl, by simp, by simp, by simp⟩
theorem MI.len {ws : List (Int × Int)} {ms rs : List Msg} (h : MI ws ms rs) : ms.length = rs.length := by
  have := congrArg List.length h.eq; simpa using this
theorem MI.wl {ws : List (Int × Int)} {ms rs : List Msg} (h : MI ws ms rs) : ws.length ≤ 8 := by
  have := pigeon 8 (ws.map (fun x => x.2)) h.nd (fun x hx => by
    obtain ⟨y, hy, rfl⟩ := List.mem_map.1 hx
    have := h.rg y hy; omega)
  simpa using this
theorem MI.at_ {ws : List (Int × Int)} {ms rs : List Msg} (h : MI ws ms rs) {k : Nat} {x y : Msg} (hx : ms[k]? = some x) (hy : rs[k]? = some y) : mst x = mst y := by
  have h1 : (ms.map mst)[k]? = some (mst x) := by rw [List.getElem?_map, hx]; rfl
  have h2 : (rs.map mst)[k]? = some (mst y) := by rw [List.getElem?_map, hy]; rfl
  rw [h.eq, h2] at h1
  exact (Option.some.inj h1).symm
theorem rm_sub {α : Type} (l : List α) (k : Nat) : (l.take k ++ l.drop (k + 1)).Sublist l := by
  have : l.take k ++ l.drop (k + 1) = l.eraseIdx k := (List.eraseIdx_eq_take_drop_succ l k).symm
  rw [this]; exact List.eraseIdx_sublist l k
theorem MI.offer {ws : List (Int × Int)} {ms rs : List Msg} (h : MI ws ms rs) (k : Nat) : MI (ws.take k ++ ws.drop (k + 1)) ms rs :=
  ⟨h.eq, ((rm_sub ws k).map _).nodup h.nd, fun x hx => h.rg x ((rm_sub ws k).subset hx), h.ln⟩
theorem MI.req {ws : List (Int × Int)} {ms rs : List Msg} (h : MI ws ms rs) {x y : Msg} (hxy : mst x = mst y) (hl : rs.length < 64) : MI ws (ms ++ [x]) (rs ++ [y]) :=
  ⟨by rw [List.map_append, List.map_append, h.eq]; simp [hxy], h.nd, h.rg, by simp; omega⟩
theorem MI.get {ws : List (Int × Int)} {ms rs : List Msg} (h : MI ws ms rs) (k : Nat) : MI ws (ms.take k ++ ms.drop (k + 1)) (rs.take k ++ rs.drop (k + 1)) :=
  ⟨by rw [List.map_append, List.map_append, List.map_take, List.map_drop, List.map_take, List.map_drop, h.eq], h.nd, h.rg, Nat.le_trans (rm_sub rs k).length_le h.ln⟩
theorem MI.wait {ws : List (Int × Int)} {ms rs : List Msg} (h : MI ws ms rs) {p th : Int} (hn : ws.any (fun x => wth th x) = false) (h1 : 0 ≤ th) (h2 : th < 8) : MI (ws ++ [(p, th)]) ms rs := by
  refine ⟨h.eq, ?_, fun x hx => ?_, h.ln⟩
  · rw [List.map_append, List.nodup_append]
    refine ⟨h.nd, by simp, fun a ha b hb => ?_⟩
    obtain ⟨y, hy, rfl⟩ := List.mem_map.1 ha
    simp at hb; subst hb
    rw [List.any_eq_false] at hn
    have := hn y hy
    simpa [wth] using this
  · rcases List.mem_append.1 hx with hx | hx
    · exact h.rg x hx
    · rw [List.mem_singleton.1 hx]; exact ⟨h1, h2⟩
theorem MI.cancel {ws : List (Int × Int)} {ms rs : List Msg} (h : MI ws ms rs) (th : Int) : MI (ws.filter (fun x => !(wth th x))) ms rs :=
  ⟨h.eq, (List.Sublist.map _ List.filter_sublist).nodup h.nd, fun x hx => h.rg x (List.mem_filter.1 hx).1, h.ln⟩
theorem first_of {α : Type} (p : α → Prop) [DecidablePred p] (l : List α) : (∀ (i : Nat) (y : α), l[i]? = some y → ¬ p y) ∨ ∃ (k : Nat) (x : α), l[k]? = some x ∧ p x ∧ ∀ (i : Nat) (y : α), i < k → l[i]? = some y → ¬ p y := by
  rcases idx_cases (fun y => decide (p y)) l with ⟨_, h⟩ | ⟨k, x, _, hx, hp, hb⟩
  · exact .inl (fun i y hy => of_decide_eq_false (h i y hy))
  · exact .inr ⟨k, x, hx, of_decide_eq_true hp, fun i y hi hy => of_decide_eq_false (hb i y hi hy)⟩
theorem any_succ {α : Type} {p : α → Bool} {l : List α} {k : Nat} {x : α} (hx : l[k]? = some x) : (l.take (k + 1)).any p = ((l.take k).any p || p x) := by
  rw [List.take_add_one, hx, List.any_append]; simp
/-- What a loop from the end has found ahead of place j. -/
def fnd2 {α : Type} (p : α → Prop) (l : List α) (j : Nat) (av : Int) : Prop := (av = -1 ∧ ∀ (i : Nat) (y : α), j ≤ i → l[i]? = some y → ¬ p y) ∨ ∃ n : Nat, av = ((n : Nat) : Int) ∧ j ≤ n ∧ (∃ y, l[n]? = some y ∧ p y) ∧ ∀ (i : Nat) (y : α), j ≤ i → i < n → l[i]? = some y → ¬ p y
theorem fnd2.init {α : Type} {p : α → Prop} {l : List α} : fnd2 p l l.length (-1) := .inl ⟨rfl, fun i y hi hy => by have := (List.getElem?_eq_some_iff.1 hy).1; omega⟩
theorem fnd2.yes {α : Type} {p : α → Prop} {l : List α} {j : Nat} {y : α} (hy : l[j]? = some y) (hp : p y) : fnd2 p l j ((j : Nat) : Int) := .inr ⟨j, rfl, Nat.le_refl _, ⟨y, hy, hp⟩, fun i z h1 h2 => by omega⟩
theorem fnd2.no {α : Type} {p : α → Prop} {l : List α} {j : Nat} {av : Int} {y : α} (h : fnd2 p l (j + 1) av) (hy : l[j]? = some y) (hp : ¬ p y) : fnd2 p l j av := by
  have key : ∀ (i : Nat) (z : α), j ≤ i → l[i]? = some z → (j + 1 ≤ i → ¬ p z) → ¬ p z := fun i z hi hz hh => by
    by_cases e : i = j
    · subst e; rw [hy] at hz; injection hz with hz; subst hz; exact hp
    · exact hh (by omega)
  rcases h with ⟨h1, h2⟩ | ⟨n, h1, h2, h3, h4⟩
  · exact .inl ⟨h1, fun i z hi hz => key i z hi hz (fun hh => h2 i z hh hz)⟩
  · exact .inr ⟨n, h1, by omega, h3, fun i z hi hin hz => key i z hi hz (fun hh => h4 i z hh hin hz)⟩
theorem fnd2.none {α : Type} {p : α → Prop} {l : List α} {av : Int} (h : fnd2 p l 0 av) (hn : ∀ (i : Nat) (y : α), l[i]? = some y → ¬ p y) : av = -1 := by
  rcases h with ⟨h1, _⟩ | ⟨n, h1, h2, ⟨y, hy, hp⟩, h4⟩
  · exact h1
  · exact absurd hp (hn n y hy)
theorem fnd2.some {α : Type} {p : α → Prop} {l : List α} {av : Int} {k : Nat} {x : α} (h : fnd2 p l 0 av) (hx : l[k]? = some x) (hp : p x) (hb : ∀ (i : Nat) (y : α), i < k → l[i]? = some y → ¬ p y) : av = ((k : Nat) : Int) := by
  rcases h with ⟨h1, h2⟩ | ⟨n, h1, h2, ⟨y, hy, hq⟩, h4⟩
  · exact absurd hp (h2 k x (Nat.zero_le _) hx)
  · rcases Nat.lt_trichotomy n k with h | h | h
    · exact absurd hq (hb n y h hy)
    · rw [h1, h]
    · exact absurd hp (h4 k x (Nat.zero_le _) h hx)
theorem MI.hit {ws : List (Int × Int)} {ms rs : List Msg} (h : MI ws ms rs) {p : Int} {k : Nat} {y : Msg} (hy : rs[k]? = some y) (hp : y.1 = p) (hb : ∀ (i : Nat) (y : Msg), i < k → rs[i]? = some y → ¬ y.1 = p) : ∃ x, ms[k]? = some x ∧ mst x = mst y ∧ x.1 = p ∧ ∀ (i : Nat) (y : Msg), i < k → ms[i]? = some y → ¬ y.1 = p := by
  have hk := (List.getElem?_eq_some_iff.1 hy).1
  have hl := h.len
  obtain ⟨x, hx⟩ := get_ex (l := ms) (k := k) (by omega)
  have e := h.at_ hx hy
  refine ⟨x, hx, e, by have := congrArg (·.1) e; simp only [mst] at this; omega, fun i z hi hz => ?_⟩
  have hzi := (List.getElem?_eq_some_iff.1 hz).1
  obtain ⟨z2, hz2⟩ := get_ex (l := rs) (k := i) (by omega)
  have e2 := congrArg (·.1) (h.at_ hz hz2)
  have := hb i z2 hi hz2
  simp only [mst] at e2
  omega
theorem MI.miss {ws : List (Int × Int)} {ms rs : List Msg} (h : MI ws ms rs) {p : Int} (hn : ∀ (i : Nat) (y : Msg), rs[i]? = some y → ¬ y.1 = p) : ∀ (i : Nat) (y : Msg), ms[i]? = some y → ¬ y.1 = p := fun i z hz => by
  have hzi := (List.getElem?_eq_some_iff.1 hz).1
  have hl := h.len
  obtain ⟨z2, hz2⟩ := get_ex (l := rs) (k := i) (by omega)
  have e2 := congrArg (·.1) (h.at_ hz hz2)
  have := hn i z2 hz2
  simp only [mst] at e2
  omega
def sty (l : List (Int × Int)) (id : Int) (k : Nat) : List (Int × Int) := (l.take k).filter (fun x => !(wth id x))
theorem sty_yes {l : List (Int × Int)} {id : Int} {k : Nat} {x : Int × Int} (hx : l[k]? = some x) (h : ¬ x.2 = id) : sty l id k ++ [x] = sty l id (k + 1) := by
  rw [sty, sty, List.take_add_one, hx, List.filter_append]
  congr 1
  simp [wth, h]
theorem sty_no {l : List (Int × Int)} {id : Int} {k : Nat} {x : Int × Int} (hx : l[k]? = some x) (h : x.2 = id) : sty l id k = sty l id (k + 1) := by
  rw [sty, sty, List.take_add_one, hx, List.filter_append]
  simp [wth, h]
theorem sty_le (l : List (Int × Int)) (id : Int) (k : Nat) : (sty l id k).length ≤ k := by
  rw [sty]; exact Nat.le_trans (List.length_filter_le _ _) (by rw [List.length_take]; omega)
theorem sty_all (l : List (Int × Int)) (id : Int) : sty l id l.length = l.filter (fun x => !(wth id x)) := by rw [sty, List.take_length]

end Go.Proofs.YtilmbkefgifkhaaDoor
