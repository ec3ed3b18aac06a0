import Derived.Test.YtljcllaploopaaaDoorProg
import Derived.Test.YtljcllaploopaaaDoorAs
import Derived.Test.YtljcllaploopaaaDoorSK13
set_option linter.unusedVariables false
set_option linter.unusedSimpArgs false
set_option maxRecDepth 4000
namespace Go.Proofs.YtljcllaploopaaaDoor
open Go Go.SK
theorem mixed : Tryd.prog.follows .mixedOrders = true := by kernel_rfl
theorem isfn5 : IsFn Tryd.prog 5 := fun args w => by kernel_rfl
theorem isfn6 : IsFn Tryd.prog 6 := fun args w => by kernel_rfl
theorem isfn8 : IsFn Tryd.prog 8 := fun args w => by kernel_rfl
theorem isfn10 : IsFn Tryd.prog 10 := fun args w => by kernel_rfl
theorem isfn11 : IsFn Tryd.prog 11 := fun args w => by kernel_rfl
theorem isfn12 : IsFn Tryd.prog 12 := fun args w => by kernel_rfl
theorem isfn13 : IsFn Tryd.prog 13 := fun args w => by kernel_rfl
theorem isfn14 : IsFn Tryd.prog 14 := fun args w => by kernel_rfl
theorem isfn15 : IsFn Tryd.prog 15 := fun args w => by kernel_rfl
theorem isfn16 : IsFn Tryd.prog 16 := fun args w => by kernel_rfl
theorem isfn17 : IsFn Tryd.prog 17 := fun args w => by kernel_rfl
theorem isfn18 : IsFn Tryd.prog 18 := fun args w => by kernel_rfl
noncomputable def tb : List TI := [
  ⟨3, Tryd.t3.desc, 1, 8, .int .i64 0⟩,
  ⟨5, Tryd.t5.desc, 1, 1, .int .u8 0⟩,
  ⟨9, Tryd.t9.desc, 1, 16, .string (⟨#[]⟩ : ByteArray)⟩,
  ⟨25, Tryd.t25.desc, 1, 24, .slice none 0 0⟩,
  ⟨27, Tryd.t26.desc, 1, 24, .agg #[.slice none 0 0]⟩,
  ⟨29, Tryd.t29.desc, 1, 8, .int .u64 0⟩,
  ⟨30, Tryd.t30.desc, 1, 4, .int .u32 0⟩,
  ⟨31, Tryd.t31.desc, 1, 2, .int .u16 0⟩,
  ⟨33, Tryd.t32.desc, 4, 24, .agg #[.int .u64 0, .int .u32 0, .int .u8 0, .int .u64 0]⟩,
  ⟨34, Tryd.t34.desc, 1, 24, .slice none 0 0⟩,
  ⟨36, Tryd.t35.desc, 11, 80, .agg #[.int .u64 0, .int .u64 0, .int .u32 0, .int .u16 0, .int .u16 0, .int .u64 0, .int .u32 0, .int .u8 0, .int .u64 0, .int .u64 0, .slice none 0 0]⟩,
  ⟨43, Tryd.t3.desc, 1, 8, .int .i64 0⟩,
  ⟨45, Tryd.t44.desc, 1, 16, .nilIface⟩,
  ⟨48, Tryd.t3.desc, 1, 8, .int .i64 0⟩,
  ⟨55, Tryd.t54.desc, 14, 104, .agg #[.int .u64 0, .int .u32 0, .int .i64 0, .int .u64 0, .int .u64 0, .int .u32 0, .int .u16 0, .int .u16 0, .int .u64 0, .int .u32 0, .int .u8 0, .int .u64 0, .int .u64 0, .slice none 0 0]⟩,
  ⟨61, Tryd.t61.desc, 1, 8, .pointer none⟩]
theorem tbOk : TabOk Tryd.prog tb := ⟨
  ⟨by kernel_rfl, Tryd.t3, by kernel_rfl, by kernel_rfl, by kernel_rfl, by kernel_rfl⟩,
  ⟨by kernel_rfl, Tryd.t5, by kernel_rfl, by kernel_rfl, by kernel_rfl, by kernel_rfl⟩,
  ⟨by kernel_rfl, Tryd.t9, by kernel_rfl, by kernel_rfl, by kernel_rfl, by kernel_rfl⟩,
  ⟨by kernel_rfl, Tryd.t25, by kernel_rfl, by kernel_rfl, by kernel_rfl, by kernel_rfl⟩,
  ⟨by kernel_rfl, Tryd.t27, by kernel_rfl, by kernel_rfl, by kernel_rfl, by kernel_rfl⟩,
  ⟨by kernel_rfl, Tryd.t29, by kernel_rfl, by kernel_rfl, by kernel_rfl, by kernel_rfl⟩,
  ⟨by kernel_rfl, Tryd.t30, by kernel_rfl, by kernel_rfl, by kernel_rfl, by kernel_rfl⟩,
  ⟨by kernel_rfl, Tryd.t31, by kernel_rfl, by kernel_rfl, by kernel_rfl, by kernel_rfl⟩,
  ⟨by kernel_rfl, Tryd.t33, by kernel_rfl, by kernel_rfl, by kernel_rfl, by kernel_rfl⟩,
  ⟨by kernel_rfl, Tryd.t34, by kernel_rfl, by kernel_rfl, by kernel_rfl, by kernel_rfl⟩,
  ⟨by kernel_rfl, Tryd.t36, by kernel_rfl, by kernel_rfl, by kernel_rfl, by kernel_rfl⟩,
  ⟨by kernel_rfl, Tryd.t43, by kernel_rfl, by kernel_rfl, by kernel_rfl, by kernel_rfl⟩,
  ⟨by kernel_rfl, Tryd.t45, by kernel_rfl, by kernel_rfl, by kernel_rfl, by kernel_rfl⟩,
  ⟨by kernel_rfl, Tryd.t48, by kernel_rfl, by kernel_rfl, by kernel_rfl, by kernel_rfl⟩,
  ⟨by kernel_rfl, Tryd.t55, by kernel_rfl, by kernel_rfl, by kernel_rfl, by kernel_rfl⟩,
  ⟨by kernel_rfl, Tryd.t61, by kernel_rfl, by kernel_rfl, by kernel_rfl, by kernel_rfl⟩,
  trivial⟩
def encMessage (x : Int × Int × Int × Int × Int × Int × Int × Int × Int × Int × Option Addr × Nat × List UInt8) : List Value := [.int .u64 x.1, .int .u64 x.2.1, .int .u32 x.2.2.1, .int .u16 x.2.2.2.1, .int .u16 x.2.2.2.2.1, .int .u64 x.2.2.2.2.2.1, .int .u32 x.2.2.2.2.2.2.1, .int .u8 x.2.2.2.2.2.2.2.1, .int .u64 x.2.2.2.2.2.2.2.2.1, .int .u64 x.2.2.2.2.2.2.2.2.2.1, .slice x.2.2.2.2.2.2.2.2.2.2.1 x.2.2.2.2.2.2.2.2.2.2.2.2.length x.2.2.2.2.2.2.2.2.2.2.2.1]
theorem encMessage_ok : Enc encMessage 11 := ⟨fun _ => rfl, fun x u hu => by simp only [encMessage, List.mem_cons, List.not_mem_nil, or_false] at hu; rcases hu with rfl | rfl | rfl | rfl | rfl | rfl | rfl | rfl | rfl | rfl | rfl <;> rfl⟩
def encMessage_dd (w0 : World) (D : Chunk) (x : Int × Int × Int × Int × Int × Int × Int × Int × Int × Int × Option Addr × Nat × List UInt8) : Prop := DD w0 D x.2.2.2.2.2.2.2.2.2.2.1 x.2.2.2.2.2.2.2.2.2.2.2.1 x.2.2.2.2.2.2.2.2.2.2.2.2
theorem encMessage_left {w0 : World} {D E : Chunk} {x : Int × Int × Int × Int × Int × Int × Int × Int × Int × Int × Option Addr × Nat × List UInt8} (h : encMessage_dd w0 D x) : encMessage_dd w0 (E ++ D) x := DD.left h
theorem encMessage_lefts {w0 : World} {D E : Chunk} {l : List (Int × Int × Int × Int × Int × Int × Int × Int × Int × Int × Option Addr × Nat × List UInt8)} (h : ∀ x ∈ l, encMessage_dd w0 D x) : ∀ x ∈ l, encMessage_dd w0 (E ++ D) x := fun x hx => encMessage_left (h x hx)

def encEntry (x : Int × Int × Int × Int × Int × Int × Int × Int × Int × Int × Int × Int × Int × Option Addr × Nat × List UInt8) : List Value := [.int .u64 x.1, .int .u32 x.2.1, .int .i64 x.2.2.1, .int .u64 x.2.2.2.1, .int .u64 x.2.2.2.2.1, .int .u32 x.2.2.2.2.2.1, .int .u16 x.2.2.2.2.2.2.1, .int .u16 x.2.2.2.2.2.2.2.1, .int .u64 x.2.2.2.2.2.2.2.2.1, .int .u32 x.2.2.2.2.2.2.2.2.2.1, .int .u8 x.2.2.2.2.2.2.2.2.2.2.1, .int .u64 x.2.2.2.2.2.2.2.2.2.2.2.1, .int .u64 x.2.2.2.2.2.2.2.2.2.2.2.2.1, .slice x.2.2.2.2.2.2.2.2.2.2.2.2.2.1 x.2.2.2.2.2.2.2.2.2.2.2.2.2.2.2.length x.2.2.2.2.2.2.2.2.2.2.2.2.2.2.1]
theorem encEntry_ok : Enc encEntry 14 := ⟨fun _ => rfl, fun x u hu => by simp only [encEntry, List.mem_cons, List.not_mem_nil, or_false] at hu; rcases hu with rfl | rfl | rfl | rfl | rfl | rfl | rfl | rfl | rfl | rfl | rfl | rfl | rfl | rfl <;> rfl⟩
def encEntry_dd (w0 : World) (D : Chunk) (x : Int × Int × Int × Int × Int × Int × Int × Int × Int × Int × Int × Int × Int × Option Addr × Nat × List UInt8) : Prop := DD w0 D x.2.2.2.2.2.2.2.2.2.2.2.2.2.1 x.2.2.2.2.2.2.2.2.2.2.2.2.2.2.1 x.2.2.2.2.2.2.2.2.2.2.2.2.2.2.2
theorem encEntry_left {w0 : World} {D E : Chunk} {x : Int × Int × Int × Int × Int × Int × Int × Int × Int × Int × Int × Int × Int × Option Addr × Nat × List UInt8} (h : encEntry_dd w0 D x) : encEntry_dd w0 (E ++ D) x := DD.left h
theorem encEntry_lefts {w0 : World} {D E : Chunk} {l : List (Int × Int × Int × Int × Int × Int × Int × Int × Int × Int × Int × Int × Int × Option Addr × Nat × List UInt8)} (h : ∀ x ∈ l, encEntry_dd w0 D x) : ∀ x ∈ l, encEntry_dd w0 (E ++ D) x := fun x hx => encEntry_left (h x hx)

abbrev Msg := Int × Int × Int × Int × Int × Int × Int × Int × Int × Int × Option Addr × Nat × List UInt8
def mdat (x : Msg) : List UInt8 := x.2.2.2.2.2.2.2.2.2.2.2.2

abbrev Ent := Int × Int × Int × Int × Int × Int × Int × Int × Int × Int × Int × Int × Int × Option Addr × Nat × List UInt8
def fnd (rp id : Int) (x : Ent) : Bool := x.1 == rp && x.2.1 == id
def agn (x : Ent) : Bool := x.2.2.1 == 2
/-- What is remembered, at a block. -/
def SR (b : Nat) (es : List Ent) (L : Chunk) : Prop := ∃ v C, Own 55 14 v es.length (rows encEntry es) C ∧ L = (b, rowO [v] 27) :: C
theorem SR.new (b : Nat) : SR b [] [(b, rowO [.slice none 0 0] 27)] := ⟨_, [], Own.nil _ _, rfl⟩
theorem set_mem_dd {w0 : World} {D E : Chunk} {es : List Ent} {k : Nat} {x : Ent} (h : ∀ y ∈ es, encEntry_dd w0 D y) (hx : encEntry_dd w0 (E ++ D) x) : ∀ y ∈ es.set k x, encEntry_dd w0 (E ++ D) y := fun y hy => by
  rcases List.mem_or_eq_of_mem_set hy with hy | rfl
  · exact encEntry_left (h y hy)
  · exact hx
theorem add_mem_dd {w0 : World} {D : Chunk} {es : List Ent} {a0 a1 a2 a3 a4 a5 a6 a7 a8 a9 a10 a11 a12 : Int} (h : ∀ y ∈ es, encEntry_dd w0 D y) : ∀ y ∈ es ++ [(a0, a1, a2, a3, a4, a5, a6, a7, a8, a9, a10, a11, a12, none, 0, [])], encEntry_dd w0 D y := fun y hy => by
  rcases List.mem_append.1 hy with hy | hy
  · exact h y hy
  · rw [List.mem_singleton.1 hy]; exact DD.nil

theorem indexFunc14 {w0 w : World} {F : List Chunk} (hS : St w0 w F) {v : Value} {l : List (Int × Int × Int × Int × Int × Int × Int × Int × Int × Int × Int × Int × Int × Option Addr × Nat × List UInt8)} (hr : RdS w0 F 14 v l.length (rows encEntry l)) {g : Nat} {first cap : Array Value} {p : (Int × Int × Int × Int × Int × Int × Int × Int × Int × Int × Int × Int × Int × Option Addr × Nat × List UInt8) → Bool} (hg : IsFn Tryd.prog g) (hp : Pred Tryd.prog w0 F g first cap (fun x => .agg (encEntry x).toArray) p) :
    Ret Tryd.prog 14 #[v, .func (.func g) first cap] w (fun v w' => v = .int .i64 (idx p l) ∧ St w0 w' F) := by
  obtain ⟨A, c, rfl, hmc, hcx⟩ := (hr w hS).open'
  refine enter (vs := [.slice A l.length c, .func (.func g) first cap]) 19 Tryd.func14 rfl rfl (by simp) ?_; intro a hA
  refine wp_seq ?_
  refine wp_region_lit ?_
  refine st_run tbOk 1 hA (e' := (4, .int .i64 0) :: _) rfl ?_; clear hA; intro a hA
  refine wpList_nil ?_
  replace hA := hA.sel [0, 1] (e' := [(0, .slice A l.length c), (1, .func (.func g) first cap)]) rfl
  refine xt_norm ?_
  refine wp_seq ?_
  refine wp_seq ?_
  refine wp_region_lit ?_
  refine st_run tbOk 3 hA (e' := (8, .int .i64 0) :: (7, .int .i64 ((l.length : Nat) : Int)) :: (6, .slice A l.length c) :: _) rfl ?_; clear hA; intro a hA
  refine wpList_nil ?_
  replace hA := hA.sel [0, 1, 7, 8] (e' := [(0, .slice A l.length c), (1, .func (.func g) first cap), (7, .int .i64 ((l.length : Nat) : Int)), (8, .int .i64 0)]) rfl
  refine xt_norm ?_
  refine wp_block ?_
  refine wp_loop_ghost (fun m a w => ∃ (k : Nat), m = l.length - k ∧ Has a 19 [(0, .slice A l.length c), (1, .func (.func g) first cap), (7, .int .i64 ((l.length : Nat) : Int)), (8, .int .i64 ((k : Nat) : Int))] ∧ St w0 w (F) ∧ (k ≤ l.length) ∧ (∀ (i : Nat) (y : (Int × Int × Int × Int × Int × Int × Int × Int × Int × Int × Int × Int × Int × Option Addr × Nat × List UInt8)), i < k → l[i]? = some y → p y = false)) (l.length - 0)
    ⟨0, rfl, (hA.sel [0, 1, 7, 8] rfl), hS, Nat.zero_le _, fun i y hi => absurd hi (by omega)⟩ ?_
  clear hA hS; rintro m0 a w1 ⟨k, rfl, hA, hS, hk, hb⟩
  refine wp_seq ?_
  refine wp_region_lit ?_
  refine st_run tbOk 1 hA (e' := (9, .bool (decide (((k : Nat) : Int) < ((l.length : Nat) : Int)))) :: _) rfl ?_; clear hA; intro a hA
  refine wpList_nil ?_
  refine xt_norm ?_
  refine wp_seq ?_
  by_cases hc2 : ((k : Nat) : Int) < ((l.length : Nat) : Int)
  · first
    | (exfalso; omega)
    | (replace hA := hA.rw 9 (v' := .bool true) rfl (vb_true hc2)
       refine cd_cond_t hA rfl ?_
       refine wp_skip ?_
       refine xt_norm ?_
       refine wp_seq ?_
       refine wp_block ?_
       refine wp_seq ?_
       refine wp_region_lit ?_
       refine st_run tbOk 2 hA (e' := (5, .int .i64 ((k : Nat) : Int)) :: (10, .int .i64 ((k : Nat) : Int)) :: _) rfl ?_; clear hA; intro a hA
       refine wpList_nil ?_
       replace hA := hA.sel [0, 1, 5, 7, 8] (e' := [(0, .slice A l.length c), (1, .func (.func g) first cap), (5, .int .i64 ((k : Nat) : Int)), (7, .int .i64 ((l.length : Nat) : Int)), (8, .int .i64 ((k : Nat) : Int))]) rfl
       refine xt_norm ?_
       refine wp_seq ?_
       refine wp_region_lit ?_
       refine st_run tbOk 3 hA (e' := (13, .int .i64 ((k : Nat) : Int)) :: (12, .slice A l.length c) :: (11, .func (.func g) first cap) :: _) rfl ?_; clear hA; intro a hA
       obtain ⟨b3, o4, rfl⟩ := (hr _ hS).isSome (k := k) (by omega)
       refine st_val hA rfl rfl (by decide) (rn_indexAddr tbOk hA k (o4 + (k * 14)) rfl rfl rfl rfl rfl rfl (by rfl) (by omega) (by first | rfl | simp [Nat.mul_one, Nat.zero_add] | omega)) ?_; clear hA; intro a hA
       obtain ⟨x5, hx5⟩ := get_ex (l := l) (k := k) (by omega)
       obtain ⟨x5f0, x5f1, x5f2, x5f3, x5f4, x5f5, x5f6, x5f7, x5f8, x5f9, x5f10, x5f11, x5f12, x5A13, x5c13, x5b13⟩ := x5
       refine st_val hA rfl rfl (by decide) (rn_loadA tbOk hA ([.int .u64 x5f0, .int .u32 x5f1, .int .i64 x5f2, .int .u64 x5f3, .int .u64 x5f4, .int .u32 x5f5, .int .u16 x5f6, .int .u16 x5f7, .int .u64 x5f8, .int .u32 x5f9, .int .u8 x5f10, .int .u64 x5f11, .int .u64 x5f12, .slice x5A13 x5b13.length x5c13]) rfl rfl rfl rfl (by rfl) ((hr _ hS).elem (k := k) encEntry_ok hx5)) ?_; clear hA; intro a hA
       refine st_call hA rfl rfl rfl rfl hg rfl rfl (by decide) (hp _ (x5f0, x5f1, x5f2, x5f3, x5f4, x5f5, x5f6, x5f7, x5f8, x5f9, x5f10, x5f11, x5f12, x5A13, x5c13, x5b13) hS) ?_
       clear hA; rintro v w6 a ⟨rfl, hS'⟩ hA; replace hS : St w0 w6 (F) := hS.trans hS'
       refine wpList_nil ?_
       replace hA := hA.sel [0, 1, 5, 7, 8, 16] (e' := [(0, .slice (some ⟨b3, o4, none⟩) l.length c), (1, .func (.func g) first cap), (5, .int .i64 ((k : Nat) : Int)), (7, .int .i64 ((l.length : Nat) : Int)), (8, .int .i64 ((k : Nat) : Int)), (16, .bool (p (x5f0, x5f1, x5f2, x5f3, x5f4, x5f5, x5f6, x5f7, x5f8, x5f9, x5f10, x5f11, x5f12, x5A13, x5c13, x5b13)))]) rfl
       refine xt_norm ?_
       by_cases hpx : (p (x5f0, x5f1, x5f2, x5f3, x5f4, x5f5, x5f6, x5f7, x5f8, x5f9, x5f10, x5f11, x5f12, x5A13, x5c13, x5b13)) = true
       · first
         | (exfalso; omega)
         | (replace hA := hA.rw 16 (v' := .bool true) rfl (vb_t hpx)
            refine cd_cond_t hA rfl ?_
            refine wp_seq ?_
            refine wp_region_lit ?_
            refine st_run tbOk 2 hA (e' := (4, .int .i64 ((k : Nat) : Int)) :: (17, .int .i64 ((k : Nat) : Int)) :: _) rfl ?_; clear hA; intro a hA
            refine wpList_nil ?_
            replace hA := hA.sel [4] (e' := [(4, .int .i64 ((k : Nat) : Int))]) rfl
            refine xt_norm ?_
            refine wp_ret (xb_ret (xt_ret (xt_ret (xb_ret (xt_ret ?_)))))
            refine ret1 (fn := Tryd.f14) hA rfl rfl ?_
            exact ⟨vint (idx_some hx5 hpx (fun i y hi hy => hb i y hi hy)).symm, hS⟩)
       · first
         | (exfalso; omega)
         | (replace hA := hA.rw 16 (v' := .bool false) rfl (vb_f hpx)
            refine cd_cond_f hA rfl ?_
            refine wp_skip ?_
            refine xb_norm ?_
            refine xt_norm ?_
            refine wp_region_lit ?_
            refine st_run tbOk 1 hA (e' := (18, .int .i64 (IntKind.i64.wrap (((k : Nat) : Int) + 1))) :: _) rfl ?_; clear hA; intro a hA
            replace hA := hA.rw 18 (v' := .int .i64 ((k + 1 : Nat) : Int)) rfl (wr64 (by omega) (by omega) (by omega))
            refine st_run tbOk 1 hA (e' := (8, .int .i64 ((k + 1 : Nat) : Int)) :: _) rfl ?_; clear hA; intro a hA
            refine wpList_nil ?_
            replace hA := hA.sel [0, 1, 7, 8] (e' := [(0, .slice (some ⟨b3, o4, none⟩) l.length c), (1, .func (.func g) first cap), (7, .int .i64 ((l.length : Nat) : Int)), (8, .int .i64 ((k + 1 : Nat) : Int))]) rfl
            exact lp_next _ (by omega) ⟨(k + 1), rfl, (hA.sel [0, 1, 7, 8] rfl), hS, by omega, fun i y hi hy => (Nat.lt_succ_iff_lt_or_eq.1 hi).elim (fun h => hb i y h hy) (fun h => by subst h; rw [hx5] at hy; injection hy with hy; subst hy; simpa using hpx)⟩))
  · first
    | (exfalso; omega)
    | (replace hA := hA.rw 9 (v' := .bool false) rfl (vb_false hc2)
       refine cd_cond_f hA rfl ?_
       refine wp_exit ?_
       refine xt_exit ?_
       refine xt_exit ?_
       refine cd_exit_eq ?_
       refine xt_norm ?_
       refine wp_seq ?_
       refine wp_region_lit ?_
       refine st_run tbOk 1 hA (e' := (4, .int .i64 (-1)) :: _) rfl ?_; clear hA; intro a hA
       refine wpList_nil ?_
       replace hA := hA.sel [4] (e' := [(4, .int .i64 (-1))]) rfl
       refine xt_norm ?_
       refine wp_ret ?_
       refine ret1 (fn := Tryd.f14) hA rfl rfl ?_
       exact ⟨vint (idx_none (fun i y hy => hb i y (by have := (List.getElem?_eq_some_iff.1 hy).1; omega) hy)).symm, hS⟩)

theorem delete16 {w0 w : World} {F : List Chunk} {C : Chunk} (hS : St w0 w (C :: F)) {v : Value} {l : List (Int × Int × Int × Int × Int × Int × Int × Int × Int × Int × Int × Int × Int × Option Addr × Nat × List UInt8)} (hO : Own 55 14 v l.length (rows encEntry l) C) (i j : Nat) (hij : i ≤ j) (hj : j ≤ l.length) :
    Ret Tryd.prog 16 #[v, .int .i64 ((i : Nat) : Int), .int .i64 ((j : Nat) : Int)] w (fun v w' => ∃ C', Own 55 14 v (l.take i ++ l.drop j).length (rows encEntry (l.take i ++ l.drop j)) C' ∧ St w0 w' (C' :: F)) := by
  obtain ⟨A, c, rfl, hmc, hcx⟩ := hO.open'
  refine enter (vs := [.slice A l.length c, .int .i64 ((i : Nat) : Int), .int .i64 ((j : Nat) : Int)]) 33 Tryd.func16 rfl rfl (by simp) ?_; intro a hA
  refine wp_seq ?_
  refine wp_region_lit ?_
  refine st_run tbOk 1 hA (e' := (6, .slice none 0 0) :: _) rfl ?_; clear hA; intro a hA
  refine wpList_nil ?_
  replace hA := hA.sel [0, 1, 2] (e' := [(0, .slice A l.length c), (1, .int .i64 ((i : Nat) : Int)), (2, .int .i64 ((j : Nat) : Int))]) rfl
  refine xt_norm ?_
  refine wp_seq ?_
  refine wp_region_lit ?_
  refine st_run tbOk 5 hA (e' := (12, .int .i64 ((l.length : Nat) : Int)) :: (11, .slice A l.length c) :: (10, .int .i64 ((j : Nat) : Int)) :: (9, .int .i64 ((i : Nat) : Int)) :: (8, .slice A l.length c) :: _) rfl ?_; clear hA; intro a hA
  refine st_val hA rfl rfl (by decide) (rn_slice_lhm tbOk hA i j l.length rfl rfl rfl rfl rfl rfl rfl rfl (by rfl) (by rfl) (by rfl) (by omega) (by omega) (by omega)) ?_; clear hA; intro a hA
  refine wpList_nil ?_
  replace hA := hA.sel [0, 1, 2] (e' := [(0, .slice A l.length c), (1, .int .i64 ((i : Nat) : Int)), (2, .int .i64 ((j : Nat) : Int))]) rfl
  refine xt_norm ?_
  refine wp_seq ?_
  refine wp_seq ?_
  refine wp_region_lit ?_
  refine st_run tbOk 3 hA (e' := (16, .bool (((i : Nat) : Int) == ((j : Nat) : Int))) :: (15, .int .i64 ((j : Nat) : Int)) :: (14, .int .i64 ((i : Nat) : Int)) :: _) rfl ?_; clear hA; intro a hA
  refine wpList_nil ?_
  replace hA := hA.sel [0, 1, 2, 16] (e' := [(0, .slice A l.length c), (1, .int .i64 ((i : Nat) : Int)), (2, .int .i64 ((j : Nat) : Int)), (16, .bool (((i : Nat) : Int) == ((j : Nat) : Int)))]) rfl
  refine xt_norm ?_
  by_cases hc1 : ((i : Nat) : Int) = ((j : Nat) : Int)
  · first
    | (exfalso; omega)
    | (replace hA := hA.rw 16 (v' := .bool true) rfl (vb_eq_t hc1)
       refine cd_cond_t hA rfl ?_
       refine wp_seq ?_
       refine wp_region_lit ?_
       refine st_run tbOk 2 hA (e' := (6, .slice A l.length c) :: (17, .slice A l.length c) :: _) rfl ?_; clear hA; intro a hA
       refine wpList_nil ?_
       replace hA := hA.sel [6] (e' := [(6, .slice A l.length c)]) rfl
       refine xt_norm ?_
       refine wp_ret (xt_ret ?_)
       refine ret1 (fn := Tryd.f16) hA rfl rfl ?_
       have e0 : l.take i ++ l.drop j = l := by rw [show j = i by omega, List.take_append_drop]
       exact ⟨C, by rw [e0]; exact hO, hS⟩)
  · first
    | (exfalso; omega)
    | (replace hA := hA.rw 16 (v' := .bool false) rfl (vb_eq_f hc1)
       refine cd_cond_f hA rfl ?_
       refine wp_skip ?_
       refine xt_norm ?_
       refine wp_seq ?_
       refine wp_region_lit ?_
       refine st_run tbOk 3 hA (e' := (7, .int .i64 ((l.length : Nat) : Int)) :: (19, .int .i64 ((l.length : Nat) : Int)) :: (18, .slice A l.length c) :: _) rfl ?_; clear hA; intro a hA
       refine wpList_nil ?_
       replace hA := hA.sel [0, 1, 2, 7] (e' := [(0, .slice A l.length c), (1, .int .i64 ((i : Nat) : Int)), (2, .int .i64 ((j : Nat) : Int)), (7, .int .i64 ((l.length : Nat) : Int))]) rfl
       refine xt_norm ?_
       refine wp_seq ?_
       refine wp_draw (fun w' => St w0 w' (F)) [] [(0, true), (1, true), (2, true), (3, true), (4, true), (5, true), (6, false), (7, true)] mixed (by kernel_rfl) (by rintro c a w ⟨_, _, h, _⟩; cases h) (by rfl) (by kernel_rfl) ?_
       replace hS := hS.drew
       refine dr_run tbOk 2 hA (hS.tail 1 rfl) (e' := (21, .int .i64 ((i : Nat) : Int)) :: (20, .slice A l.length c) :: _) rfl ?_; clear hA; intro a hA
       refine dr_y hA rfl rfl rfl (by decide) (hS.tail 1 rfl) (fun w' hS' => rn_slice_h tbOk hA i rfl rfl rfl rfl rfl rfl (by rfl) (by omega)) ?_; clear hA; intro a hA
       refine dr_run tbOk 2 hA (hS.tail 1 rfl) (e' := (24, .int .i64 ((j : Nat) : Int)) :: (23, .slice A l.length c) :: _) rfl ?_; clear hA; intro a hA
       refine dr_y hA rfl rfl rfl (by decide) (hS.tail 1 rfl) (fun w' hS' => rn_slice_l tbOk hA j rfl rfl rfl rfl rfl rfl (by rfl) (by omega)) ?_; clear hA; intro a hA
       refine dr_b (o := _) rfl ?_
       refine st_append_rm tbOk hA (m := i) (q := ((l.take l.length).drop j).length) (c := c) (xs := (rows encEntry l).take (i * 14)) (news := rows encEntry ((l.take l.length).drop j)) rfl rfl rfl rfl rfl rfl rfl (hO.head i (by omega)) hS ((hO.rd (hS.own_ 0 rfl)).rslv encEntry_ok j l.length c (by omega) (by omega) (by omega) (by omega)) (rows_one encEntry_ok _) (by simp; omega) rfl rfl (by decide) ?_
       clear hA hS; intro w2 C3 a hO3 hS hA
       have e1 : i + ((l.take l.length).drop j).length = (l.take i ++ l.drop j).length := by simp; omega
       have e2 : (rows encEntry l).take (i * 14) ++ rows encEntry ((l.take l.length).drop j) = rows encEntry (l.take i ++ l.drop j) := by rw [rows_take encEntry_ok, rows_append, List.take_length]
       rw [e2, e1] at hO3
       rw [e1] at hA
       have e3 : (l.take i ++ l.drop j).length ≤ l.length := by simp; omega
       refine dr_nil (.inr (hS.tail 1 rfl)) ?_
       refine dr_run tbOk 1 hA (hS.tail 1 rfl) (e' := (0, .slice A ((l.take i ++ l.drop j).length) c) :: _) rfl ?_; clear hA; intro a hA
       refine dr_end ?_
       replace hA := hA.sel [0, 7] (e' := [(0, .slice A ((l.take i ++ l.drop j).length) c), (7, .int .i64 ((l.length : Nat) : Int))]) rfl
       refine xt_norm ?_
       refine wp_seq ?_
       refine wp_region_lit ?_
       refine st_run tbOk 4 hA (e' := (30, .int .i64 ((l.length : Nat) : Int)) :: (29, .int .i64 (((l.take i ++ l.drop j).length : Nat) : Int)) :: (28, .slice A ((l.take i ++ l.drop j).length) c) :: (27, .slice A ((l.take i ++ l.drop j).length) c) :: _) rfl ?_; clear hA; intro a hA
       refine st_val hA rfl rfl (by decide) (rn_slice_lh tbOk hA ((l.take i ++ l.drop j).length) l.length rfl rfl rfl rfl rfl rfl rfl (by rfl) (by rfl) (by omega) (by omega)) ?_; clear hA; intro a hA
       refine st_clear tbOk hA (h := (l.take i ++ l.drop j).length) (old := l.length) (c := c) rfl rfl rfl rfl rfl rfl (fun u hu => List.all_eq_true.1 (by rfl) u hu) hO3 hS (by omega) (by omega) rfl rfl ?_; clear hS; intro w4 C5 hO5 hS
       refine wpList_nil ?_
       replace hA := hA.sel [0] (e' := [(0, .slice A ((l.take i ++ l.drop j).length) c)]) rfl
       refine xt_norm ?_
       refine wp_seq ?_
       refine wp_region_lit ?_
       refine st_run tbOk 2 hA (e' := (6, .slice A ((l.take i ++ l.drop j).length) c) :: (32, .slice A ((l.take i ++ l.drop j).length) c) :: _) rfl ?_; clear hA; intro a hA
       refine wpList_nil ?_
       replace hA := hA.sel [6] (e' := [(6, .slice A ((l.take i ++ l.drop j).length) c)]) rfl
       refine xt_norm ?_
       refine wp_ret ?_
       refine ret1 (fn := Tryd.f16) hA rfl rfl ?_
       exact ⟨_, hO5, hS⟩)

theorem clonex13 {w0 w : World} {F : List Chunk} (hS : St w0 w F) {v : Value} {l : List UInt8} (hr : RdSX w0 F 1 v l.length (rows encB l)) (hb : l.length ≤ 140737488351232) :
    Ret Tryd.prog 13 #[v] w (fun v w' => ∃ A c C, Own 5 1 (.slice A l.length c) l.length (rows encB l) C ∧ v = .slice A l.length c ∧ St w0 w' (C :: F)) := by
  obtain ⟨hl0, ⟨rfl, h0⟩ | ⟨ad, c, rfl, hmc, hcx, hcells⟩⟩ := hr w hS
  all_goals clear hl0
  · obtain rfl := List.eq_nil_of_length_eq_zero h0
    refine enter (vs := [.slice none 0 0]) 8 Tryd.func13 rfl rfl (by simp) ?_; intro a hA
    refine wp_seq ?_
    refine wp_region_lit ?_
    refine st_run tbOk 1 hA (e' := (2, .slice none 0 0) :: _) rfl ?_; clear hA; intro a hA
    refine wpList_nil ?_
    replace hA := hA.sel [0] (e' := [(0, .slice none 0 0)]) rfl
    refine xt_norm ?_
    refine wp_seq ?_
    refine wp_seq ?_
    refine wp_region_lit ?_
    refine st_run tbOk 2 hA (e' := (4, .bool true) :: (3, .slice none 0 0) :: _) rfl ?_; clear hA; intro a hA
    refine wpList_nil ?_
    replace hA := hA.sel [0, 4] (e' := [(0, .slice none 0 0), (4, .bool true)]) rfl
    refine xt_norm ?_
    refine cd_cond_t hA rfl ?_
    refine wp_seq ?_
    refine wp_region_lit ?_
    refine st_run tbOk 1 hA (e' := (2, .slice none 0 0) :: _) rfl ?_; clear hA; intro a hA
    refine wpList_nil ?_
    replace hA := hA.sel [2] (e' := [(2, .slice none 0 0)]) rfl
    refine xt_norm ?_
    refine wp_ret (xt_ret ?_)
    refine ret1 (fn := Tryd.f13) hA rfl rfl ?_
    exact ⟨none, 0, [], Own.nil _ _, rfl, hS.nil⟩
  · clear hcells
    refine enter (vs := [.slice (some ad) l.length c]) 8 Tryd.func13 rfl rfl (by simp) ?_; intro a hA
    refine wp_seq ?_
    refine wp_region_lit ?_
    refine st_run tbOk 1 hA (e' := (2, .slice none 0 0) :: _) rfl ?_; clear hA; intro a hA
    refine wpList_nil ?_
    replace hA := hA.sel [0] (e' := [(0, .slice (some ad) l.length c)]) rfl
    refine xt_norm ?_
    refine wp_seq ?_
    refine wp_seq ?_
    refine wp_region_lit ?_
    refine st_run tbOk 2 hA (e' := (4, .bool false) :: (3, .slice (some ad) l.length c) :: _) rfl ?_; clear hA; intro a hA
    refine wpList_nil ?_
    replace hA := hA.sel [0, 4] (e' := [(0, .slice (some ad) l.length c), (4, .bool false)]) rfl
    refine xt_norm ?_
    refine cd_cond_f hA rfl ?_
    refine wp_skip ?_
    refine xt_norm ?_
    refine wp_seq ?_
    refine wp_region_lit ?_
    refine st_buildSlice tbOk hA hS [] rfl rfl rfl rfl rfl (by decide) (by kernel_rfl) rfl rfl (by decide) ?_; clear hA hS; intro b1 w2 a hS hA
    refine st_run tbOk 1 hA (e' := (6, .slice (some ad) l.length c) :: _) rfl ?_; clear hA; intro a hA
    refine st_append tbOk hA (m := 0) (q := l.length) (xs := rows encB ([] : List UInt8)) (news := rows encB l) rfl rfl rfl rfl rfl rfl rfl rfl (by decide) (Own.full (T := 5) (size := 1) (g := b1) (m := 0) rfl (by decide)) hS ((hr _ (hS.tail 1 rfl))) (rows_one encB_ok _) (maxLen_le (by omega)) (by show (0 + l.length) * 1 ≤ 140737488355328; omega) rfl rfl (by decide) ?_
    clear hA hS; intro v3 w4 C5 a hO5 hS hA
    replace hO5 := Own.app (l := ([] : List UInt8)) (l2 := l) hO5
    replace hO5 : Own 5 1 v3 l.length (rows encB l) C5 := hO5
    obtain ⟨A6, c7, rfl, hmc7, hxc7⟩ := hO5.open'
    refine st_run tbOk 1 hA (e' := (2, .slice A6 l.length c7) :: _) rfl ?_; clear hA; intro a hA
    refine wpList_nil ?_
    replace hA := hA.sel [2] (e' := [(2, .slice A6 l.length c7)]) rfl
    refine xt_norm ?_
    refine wp_ret ?_
    refine ret1 (fn := Tryd.f13) hA rfl rfl ?_
    exact ⟨_, _, _, hO5, rfl, hS⟩

theorem fndc18 {w0 w : World} {F : List Chunk} (hS : St w0 w F) {bx : Nat} {rp id : Int} (hc1 : ∀ w', St w0 w' F → w'.cell? ⟨bx, 1, none⟩ = some (.int .u64 rp)) (hc2 : ∀ w', St w0 w' F → w'.cell? ⟨bx, 2, none⟩ = some (.int .u32 id)) (x : Ent) :
    Ret Tryd.prog 18 #[.agg #[.int .u64 x.1, .int .u32 x.2.1, .int .i64 x.2.2.1, .int .u64 x.2.2.2.1, .int .u64 x.2.2.2.2.1, .int .u32 x.2.2.2.2.2.1, .int .u16 x.2.2.2.2.2.2.1, .int .u16 x.2.2.2.2.2.2.2.1, .int .u64 x.2.2.2.2.2.2.2.2.1, .int .u32 x.2.2.2.2.2.2.2.2.2.1, .int .u8 x.2.2.2.2.2.2.2.2.2.2.1, .int .u64 x.2.2.2.2.2.2.2.2.2.2.2.1, .int .u64 x.2.2.2.2.2.2.2.2.2.2.2.2.1, .slice x.2.2.2.2.2.2.2.2.2.2.2.2.2.1 x.2.2.2.2.2.2.2.2.2.2.2.2.2.2.2.length x.2.2.2.2.2.2.2.2.2.2.2.2.2.2.1], .pointer (some ⟨bx, 0, none⟩)] w (fun v w' => v = .bool (fnd rp id x) ∧ St w0 w' F) := by
  refine enter (vs := [.agg #[.int .u64 x.1, .int .u32 x.2.1, .int .i64 x.2.2.1, .int .u64 x.2.2.2.1, .int .u64 x.2.2.2.2.1, .int .u32 x.2.2.2.2.2.1, .int .u16 x.2.2.2.2.2.2.1, .int .u16 x.2.2.2.2.2.2.2.1, .int .u64 x.2.2.2.2.2.2.2.2.1, .int .u32 x.2.2.2.2.2.2.2.2.2.1, .int .u8 x.2.2.2.2.2.2.2.2.2.2.1, .int .u64 x.2.2.2.2.2.2.2.2.2.2.2.1, .int .u64 x.2.2.2.2.2.2.2.2.2.2.2.2.1, .slice x.2.2.2.2.2.2.2.2.2.2.2.2.2.1 x.2.2.2.2.2.2.2.2.2.2.2.2.2.2.2.length x.2.2.2.2.2.2.2.2.2.2.2.2.2.2.1], .pointer (some ⟨bx, 0, none⟩)]) 16 Tryd.func18 rfl rfl (by simp) ?_; intro a hA
  refine wp_seq ?_
  refine wp_region_lit ?_
  refine st_box hA hS [.int .u64 x.1, .int .u32 x.2.1, .int .i64 x.2.2.1, .int .u64 x.2.2.2.1, .int .u64 x.2.2.2.2.1, .int .u32 x.2.2.2.2.2.1, .int .u16 x.2.2.2.2.2.2.1, .int .u16 x.2.2.2.2.2.2.2.1, .int .u64 x.2.2.2.2.2.2.2.2.1, .int .u32 x.2.2.2.2.2.2.2.2.2.1, .int .u8 x.2.2.2.2.2.2.2.2.2.2.1, .int .u64 x.2.2.2.2.2.2.2.2.2.2.2.1, .int .u64 x.2.2.2.2.2.2.2.2.2.2.2.2.1, .slice x.2.2.2.2.2.2.2.2.2.2.2.2.2.1 x.2.2.2.2.2.2.2.2.2.2.2.2.2.2.2.length x.2.2.2.2.2.2.2.2.2.2.2.2.2.2.1] rfl rfl rfl rfl rfl (by decide) ?_; clear hA hS; intro b1 w2 a hS hA
  refine st_run tbOk 1 hA (e' := (3, .bool false) :: _) rfl ?_; clear hA; intro a hA
  refine wpList_nil ?_
  replace hA := hA.sel [1, 2] (e' := [(1, .pointer (some ⟨bx, 0, none⟩)), (2, .pointer (some ⟨b1, 0, none⟩))]) rfl
  refine xt_norm ?_
  refine wp_seq ?_
  refine wp_region_lit ?_
  refine st_run tbOk 1 hA (e' := (4, .pointer (some ⟨b1, 0, none⟩)) :: _) rfl ?_; clear hA; intro a hA
  refine st_val hA rfl rfl (by decide) (rn_load tbOk hA rfl rfl rfl rfl (cell_row (hS.heapAt 0 rfl) rfl)) ?_; clear hA; intro a hA
  refine st_run tbOk 1 hA (e' := (6, .pointer (some ⟨bx, 1, none⟩)) :: _) rfl ?_; clear hA; intro a hA
  refine st_val hA rfl rfl (by decide) (rn_load tbOk hA rfl rfl rfl rfl (hc1 _ (hS.tail 1 rfl))) ?_; clear hA; intro a hA
  refine st_run tbOk 2 hA (e' := (9, .bool (x.1 == rp)) :: (8, .bool (x.1 == rp)) :: _) rfl ?_; clear hA; intro a hA
  by_cases hc3 : x.1 = rp
  · replace hA := hA.rw 8 (v' := .bool true) rfl (vb_eq_t hc3)
    replace hA := hA.rw 9 (v' := .bool true) rfl (vb_eq_t hc3)
    refine st_run tbOk 1 hA (e' := (10, .pointer (some ⟨b1, 1, none⟩)) :: _) rfl ?_; clear hA; intro a hA
    refine st_val hA rfl rfl (by decide) (rn_load tbOk hA rfl rfl rfl rfl (cell_row (hS.heapAt 0 rfl) rfl)) ?_; clear hA; intro a hA
    refine st_run tbOk 1 hA (e' := (12, .pointer (some ⟨bx, 2, none⟩)) :: _) rfl ?_; clear hA; intro a hA
    refine st_val hA rfl rfl (by decide) (rn_load tbOk hA rfl rfl rfl rfl (hc2 _ (hS.tail 1 rfl))) ?_; clear hA; intro a hA
    refine st_run tbOk 3 hA (e' := (3, .bool (x.2.1 == id)) :: (15, .bool (x.2.1 == id)) :: (14, .bool (x.2.1 == id)) :: _) rfl ?_; clear hA; intro a hA
    refine wpList_nil ?_
    replace hA := hA.sel [3] (e' := [(3, .bool (x.2.1 == id))]) rfl
    refine xt_norm ?_
    refine wp_ret ?_
    refine ret1 (fn := Tryd.f18) hA rfl rfl ?_
    replace hS := hS.drop1
    exact ⟨congrArg Value.bool (by have hq : (x.1 == rp) = true := beq_iff_eq.2 (by assumption); simp [fnd, hq]), hS⟩
  · replace hA := hA.rw 8 (v' := .bool false) rfl (vb_eq_f hc3)
    replace hA := hA.rw 9 (v' := .bool false) rfl (vb_eq_f hc3)
    refine st_run tbOk 7 hA (e' := (3, .bool false) :: (15, .bool false) :: (14, undef) :: (13, undef) :: (12, undef) :: (11, undef) :: (10, undef) :: _) rfl ?_; clear hA; intro a hA
    refine wpList_nil ?_
    replace hA := hA.sel [3] (e' := [(3, .bool false)]) rfl
    refine xt_norm ?_
    refine wp_ret ?_
    refine ret1 (fn := Tryd.f18) hA rfl rfl ?_
    replace hS := hS.drop1
    exact ⟨congrArg Value.bool (by simp [fnd]; intros; omega), hS⟩

theorem fndcP {w0 : World} {F : List Chunk} {bx : Nat} {rp id : Int} (hc1 : ∀ w', St w0 w' F → w'.cell? ⟨bx, 1, none⟩ = some (.int .u64 rp)) (hc2 : ∀ w', St w0 w' F → w'.cell? ⟨bx, 2, none⟩ = some (.int .u32 id)) : Pred Tryd.prog w0 F 18 #[] #[.pointer (some ⟨bx, 0, none⟩)] (fun x => .agg (encEntry x).toArray) (fun x => fnd rp id x) := by
  intro w x hS
  exact fndc18 (St.refl w) (fun w' h => h.old (hc1 w hS)) (fun w' h => h.old (hc2 w hS)) x

theorem agnc15 {w0 w : World} {F : List Chunk} (hS : St w0 w F) (x : Ent) :
    Ret Tryd.prog 15 #[.agg #[.int .u64 x.1, .int .u32 x.2.1, .int .i64 x.2.2.1, .int .u64 x.2.2.2.1, .int .u64 x.2.2.2.2.1, .int .u32 x.2.2.2.2.2.1, .int .u16 x.2.2.2.2.2.2.1, .int .u16 x.2.2.2.2.2.2.2.1, .int .u64 x.2.2.2.2.2.2.2.2.1, .int .u32 x.2.2.2.2.2.2.2.2.2.1, .int .u8 x.2.2.2.2.2.2.2.2.2.2.1, .int .u64 x.2.2.2.2.2.2.2.2.2.2.2.1, .int .u64 x.2.2.2.2.2.2.2.2.2.2.2.2.1, .slice x.2.2.2.2.2.2.2.2.2.2.2.2.2.1 x.2.2.2.2.2.2.2.2.2.2.2.2.2.2.2.length x.2.2.2.2.2.2.2.2.2.2.2.2.2.2.1]] w (fun v w' => v = .bool (agn x) ∧ St w0 w' F) := by
  refine enter (vs := [.agg #[.int .u64 x.1, .int .u32 x.2.1, .int .i64 x.2.2.1, .int .u64 x.2.2.2.1, .int .u64 x.2.2.2.2.1, .int .u32 x.2.2.2.2.2.1, .int .u16 x.2.2.2.2.2.2.1, .int .u16 x.2.2.2.2.2.2.2.1, .int .u64 x.2.2.2.2.2.2.2.2.1, .int .u32 x.2.2.2.2.2.2.2.2.2.1, .int .u8 x.2.2.2.2.2.2.2.2.2.2.1, .int .u64 x.2.2.2.2.2.2.2.2.2.2.2.1, .int .u64 x.2.2.2.2.2.2.2.2.2.2.2.2.1, .slice x.2.2.2.2.2.2.2.2.2.2.2.2.2.1 x.2.2.2.2.2.2.2.2.2.2.2.2.2.2.2.length x.2.2.2.2.2.2.2.2.2.2.2.2.2.2.1]]) 6 Tryd.func15 rfl rfl (by simp) ?_; intro a hA
  refine wp_seq ?_
  refine wp_region_lit ?_
  refine st_box hA hS [.int .u64 x.1, .int .u32 x.2.1, .int .i64 x.2.2.1, .int .u64 x.2.2.2.1, .int .u64 x.2.2.2.2.1, .int .u32 x.2.2.2.2.2.1, .int .u16 x.2.2.2.2.2.2.1, .int .u16 x.2.2.2.2.2.2.2.1, .int .u64 x.2.2.2.2.2.2.2.2.1, .int .u32 x.2.2.2.2.2.2.2.2.2.1, .int .u8 x.2.2.2.2.2.2.2.2.2.2.1, .int .u64 x.2.2.2.2.2.2.2.2.2.2.2.1, .int .u64 x.2.2.2.2.2.2.2.2.2.2.2.2.1, .slice x.2.2.2.2.2.2.2.2.2.2.2.2.2.1 x.2.2.2.2.2.2.2.2.2.2.2.2.2.2.2.length x.2.2.2.2.2.2.2.2.2.2.2.2.2.2.1] rfl rfl rfl rfl rfl (by decide) ?_; clear hA hS; intro b1 w2 a hS hA
  refine st_run tbOk 1 hA (e' := (2, .bool false) :: _) rfl ?_; clear hA; intro a hA
  refine wpList_nil ?_
  replace hA := hA.sel [1] (e' := [(1, .pointer (some ⟨b1, 0, none⟩))]) rfl
  refine xt_norm ?_
  refine wp_seq ?_
  refine wp_region_lit ?_
  refine st_run tbOk 1 hA (e' := (3, .pointer (some ⟨b1, 2, none⟩)) :: _) rfl ?_; clear hA; intro a hA
  refine st_val hA rfl rfl (by decide) (rn_load tbOk hA rfl rfl rfl rfl (cell_row (hS.heapAt 0 rfl) rfl)) ?_; clear hA; intro a hA
  refine st_run tbOk 2 hA (e' := (2, .bool (x.2.2.1 == 2)) :: (5, .bool (x.2.2.1 == 2)) :: _) rfl ?_; clear hA; intro a hA
  refine wpList_nil ?_
  replace hA := hA.sel [2] (e' := [(2, .bool (x.2.2.1 == 2))]) rfl
  refine xt_norm ?_
  refine wp_ret ?_
  refine ret1 (fn := Tryd.f15) hA rfl rfl ?_
  replace hS := hS.drop1
  exact ⟨rfl, hS⟩

theorem agncP {w0 : World} {F : List Chunk} : Pred Tryd.prog w0 F 15 #[] #[] (fun x => .agg (encEntry x).toArray) (fun x => agn x) := by
  intro w x hS
  exact agnc15 (St.refl w) x

theorem find12 {w0 w : World} {F : List Chunk} {L : Chunk} {b : Nat} {es : List Ent} (hS : St w0 w (L :: F)) (hM : SR b es L) (m0 m1 m2 m3 m4 m5 m6 m7 m8 m9 : Int) (d : Value) :
    Ret Tryd.prog 12 #[.pointer (some ⟨b, 0, none⟩), .agg #[.int .u64 m0, .int .u64 m1, .int .u32 m2, .int .u16 m3, .int .u16 m4, .int .u64 m5, .int .u32 m6, .int .u8 m7, .int .u64 m8, .int .u64 m9, d]] w (fun v w' => ∃ L', SR b es L' ∧ v = .int .i64 (idx (fun x => fnd m1 m2 x) es) ∧ St w0 w' (L' :: F)) := by
  obtain ⟨v, C, hO, rfl⟩ := hM
  obtain ⟨A, c, rfl, hmc, hcx⟩ := hO.open'
  replace hS : St w0 w ([(b, rowO [.slice A es.length c] 27)] :: C :: F) := hS.split
  refine enter (vs := [.pointer (some ⟨b, 0, none⟩), .agg #[.int .u64 m0, .int .u64 m1, .int .u32 m2, .int .u16 m3, .int .u16 m4, .int .u64 m5, .int .u32 m6, .int .u8 m7, .int .u64 m8, .int .u64 m9, d]]) 11 Tryd.func12 rfl rfl (by simp) ?_; intro a hA
  refine wp_seq ?_
  refine wp_region_lit ?_
  refine st_box hA hS [.int .u64 m0, .int .u64 m1, .int .u32 m2, .int .u16 m3, .int .u16 m4, .int .u64 m5, .int .u32 m6, .int .u8 m7, .int .u64 m8, .int .u64 m9, d] rfl rfl rfl rfl rfl (by decide) ?_; clear hA hS; intro b1 w2 a hS hA
  refine st_run tbOk 1 hA (e' := (4, .int .i64 0) :: _) rfl ?_; clear hA; intro a hA
  refine wpList_nil ?_
  replace hA := hA.sel [0, 3] (e' := [(0, .pointer (some ⟨b, 0, none⟩)), (3, .pointer (some ⟨b1, 0, none⟩))]) rfl
  refine xt_norm ?_
  refine wp_seq ?_
  refine wp_region_lit ?_
  refine st_run tbOk 3 hA (e' := (7, .pointer (some ⟨b, 0, none⟩)) :: (6, .pointer (some ⟨b, 0, none⟩)) :: (5, .pointer (some ⟨b, 0, none⟩)) :: _) rfl ?_; clear hA; intro a hA
  refine st_val hA rfl rfl (by decide) (rn_load tbOk hA rfl rfl rfl rfl (cell_row (hS.heapAt 1 rfl) rfl)) ?_; clear hA; intro a hA
  refine st_run tbOk 1 hA (e' := (9, .func (.func 18) #[] #[.pointer (some ⟨b1, 0, none⟩)]) :: _) rfl ?_; clear hA; intro a hA
  refine st_call0 hA rfl rfl rfl isfn14 rfl rfl (by decide) (indexFunc14 hS (l := es) (RdS.own hO 2 rfl) isfn18 (fndcP (bx := b1) (fun w' h => cell_row (h.heapAt 0 rfl) rfl) (fun w' h => cell_row (h.heapAt 0 rfl) rfl))) ?_
  clear hA hS; rintro v w3 a ⟨rfl, hS⟩ hA
  refine st_run tbOk 1 hA (e' := (4, .int .i64 (idx (fun x => fnd m1 m2 x) es)) :: _) rfl ?_; clear hA; intro a hA
  refine wpList_nil ?_
  replace hA := hA.sel [4] (e' := [(4, .int .i64 (idx (fun x => fnd m1 m2 x) es))]) rfl
  refine xt_norm ?_
  refine wp_ret ?_
  refine ret1 (fn := Tryd.f12) hA rfl rfl ?_
  replace hS := hS.drop1
  replace hS := hS.front 1 (C := C) (L' := [(b, rowO [.slice A es.length c] 27)] :: F) rfl rfl
  replace hS := hS.front 1 (C := [(b, rowO [.slice A es.length c] 27)]) (L' := C :: F) rfl rfl
  replace hS := hS.join
  exact ⟨_, ⟨_, _, hO, rfl⟩, rfl, hS⟩

theorem take_known8 {w0 w : World} {F : List Chunk} {L D : Chunk} {b : Nat} {es : List Ent} (hS : St w0 w (L :: D :: F)) (hM : SR b es L) (m0 m1 m2 m3 m4 m5 m6 m7 m8 m9 : Int) (d : Value) {k : Nat} {x : Ent} (hk : es[k]? = some x) (hkf : fnd m1 m2 x = true) (hkb : ∀ (i : Nat) (y : Ent), i < k → es[i]? = some y → fnd m1 m2 y = false) (hdd : ∀ x ∈ es, encEntry_dd w0 D x) (hbd : ∀ x ∈ es, (x.2.2.2.2.2.2.2.2.2.2.2.2.2.2.2).length ≤ 140737488351232) (hl : es.length ≤ 1048576) :
    Ret Tryd.prog 8 #[.pointer (some ⟨b, 0, none⟩), .agg #[.int .u64 m0, .int .u64 m1, .int .u32 m2, .int .u16 m3, .int .u16 m4, .int .u64 m5, .int .u32 m6, .int .u8 m7, .int .u64 m8, .int .u64 m9, d]] w (fun v w' => ∃ L' E A c, SR b es L' ∧ DD w0 E A c x.2.2.2.2.2.2.2.2.2.2.2.2.2.2.2 ∧ v = .tuple #[.int .i64 x.2.2.1, .agg #[.int .u64 x.2.2.2.1, .int .u64 x.2.2.2.2.1, .int .u32 x.2.2.2.2.2.1, .int .u16 x.2.2.2.2.2.2.1, .int .u16 x.2.2.2.2.2.2.2.1, .int .u64 x.2.2.2.2.2.2.2.2.1, .int .u32 x.2.2.2.2.2.2.2.2.2.1, .int .u8 x.2.2.2.2.2.2.2.2.2.2.1, .int .u64 x.2.2.2.2.2.2.2.2.2.2.2.1, .int .u64 x.2.2.2.2.2.2.2.2.2.2.2.2.1, .slice A x.2.2.2.2.2.2.2.2.2.2.2.2.2.2.2.length c], .nilIface] ∧ St w0 w' (L' :: (E ++ D) :: F)) := by
  refine enter (vs := [.pointer (some ⟨b, 0, none⟩), .agg #[.int .u64 m0, .int .u64 m1, .int .u32 m2, .int .u16 m3, .int .u16 m4, .int .u64 m5, .int .u32 m6, .int .u8 m7, .int .u64 m8, .int .u64 m9, d]]) 73 Tryd.func8 rfl rfl (by simp) ?_; intro a hA
  have hkl := (List.getElem?_eq_some_iff.1 hk).1
  refine wp_seq ?_
  refine wp_region_lit ?_
  refine st_box hA hS [.int .u64 m0, .int .u64 m1, .int .u32 m2, .int .u16 m3, .int .u16 m4, .int .u64 m5, .int .u32 m6, .int .u8 m7, .int .u64 m8, .int .u64 m9, d] rfl rfl rfl rfl rfl (by decide) ?_; clear hA hS; intro b1 w2 a hS hA
  refine st_run tbOk 1 hA (e' := (4, .int .i64 0) :: _) rfl ?_; clear hA; intro a hA
  refine st_alloc tbOk hA hS [.int .u64 0, .int .u64 0, .int .u32 0, .int .u16 0, .int .u16 0, .int .u64 0, .int .u32 0, .int .u8 0, .int .u64 0, .int .u64 0, .slice none 0 0] rfl rfl rfl rfl rfl (by decide) ?_; clear hA hS; intro b3 w4 a hS hA
  refine st_run tbOk 1 hA (e' := (6, .nilIface) :: _) rfl ?_; clear hA; intro a hA
  refine wpList_nil ?_
  replace hA := hA.sel [0, 3, 5] (e' := [(0, .pointer (some ⟨b, 0, none⟩)), (3, .pointer (some ⟨b1, 0, none⟩)), (5, .pointer (some ⟨b3, 0, none⟩))]) rfl
  refine xt_norm ?_
  refine wp_seq ?_
  refine wp_seq ?_
  refine wp_region_lit ?_
  refine st_run tbOk 1 hA (e' := (10, .pointer (some ⟨b, 0, none⟩)) :: _) rfl ?_; clear hA; intro a hA
  refine st_val hA rfl rfl (by decide) (rn_loadA tbOk hA [.int .u64 m0, .int .u64 m1, .int .u32 m2, .int .u16 m3, .int .u16 m4, .int .u64 m5, .int .u32 m6, .int .u8 m7, .int .u64 m8, .int .u64 m9, d] rfl rfl rfl rfl rfl (cells_row (hS.heapAt 1 rfl) rfl)) ?_; clear hA; intro a hA
  replace hS := hS.front 2 (C := L) (L' := [(b3, rowO [.int .u64 0, .int .u64 0, .int .u32 0, .int .u16 0, .int .u16 0, .int .u64 0, .int .u32 0, .int .u8 0, .int .u64 0, .int .u64 0, .slice none 0 0] 36)] :: [(b1, rowO [.int .u64 m0, .int .u64 m1, .int .u32 m2, .int .u16 m3, .int .u16 m4, .int .u64 m5, .int .u32 m6, .int .u8 m7, .int .u64 m8, .int .u64 m9, d] 36)] :: D :: F) rfl rfl
  refine st_call0 hA rfl rfl rfl isfn12 rfl rfl (by decide) (find12 hS hM m0 m1 m2 m3 m4 m5 m6 m7 m8 m9 _) ?_
  clear hA hS; rintro _ w5 a ⟨L9, hM9, rfl, hS⟩ hA
  have hix := idx_some hk hkf hkb
  replace hA := hA.rw 12 (v' := .int .i64 ((k : Nat) : Int)) rfl (vint hix)
  obtain ⟨v, C, hO, rfl⟩ := hM9
  obtain ⟨A, c, rfl, hmc, hcx⟩ := hO.open'
  replace hS : St w0 w5 ([(b, rowO [.slice A es.length c] 27)] :: C :: [(b3, rowO [.int .u64 0, .int .u64 0, .int .u32 0, .int .u16 0, .int .u16 0, .int .u64 0, .int .u32 0, .int .u8 0, .int .u64 0, .int .u64 0, .slice none 0 0] 36)] :: [(b1, rowO [.int .u64 m0, .int .u64 m1, .int .u32 m2, .int .u16 m3, .int .u16 m4, .int .u64 m5, .int .u32 m6, .int .u8 m7, .int .u64 m8, .int .u64 m9, d] 36)] :: D :: F) := hS.split
  refine st_run tbOk 1 hA (e' := (7, .int .i64 ((k : Nat) : Int)) :: _) rfl ?_; clear hA; intro a hA
  refine wpList_nil ?_
  replace hA := hA.sel [0, 3, 5, 7] (e' := [(0, .pointer (some ⟨b, 0, none⟩)), (3, .pointer (some ⟨b1, 0, none⟩)), (5, .pointer (some ⟨b3, 0, none⟩)), (7, .int .i64 ((k : Nat) : Int))]) rfl
  refine xt_norm ?_
  refine wp_seq ?_
  refine wp_region_lit ?_
  refine st_run tbOk 2 hA (e' := (14, .bool (decide (((k : Nat) : Int) ≥ 0))) :: (13, .int .i64 ((k : Nat) : Int)) :: _) rfl ?_; clear hA; intro a hA
  refine wpList_nil ?_
  replace hA := hA.sel [0, 3, 5, 7, 14] (e' := [(0, .pointer (some ⟨b, 0, none⟩)), (3, .pointer (some ⟨b1, 0, none⟩)), (5, .pointer (some ⟨b3, 0, none⟩)), (7, .int .i64 ((k : Nat) : Int)), (14, .bool (decide (((k : Nat) : Int) ≥ 0)))]) rfl
  refine xt_norm ?_
  have hc6 : ((k : Nat) : Int) ≥ 0 := by omega
  replace hA := hA.rw 14 (v' := .bool true) rfl (vb_true hc6)
  refine cd_cond_t hA rfl ?_
  refine wp_seq ?_
  refine wp_region_lit ?_
  obtain ⟨xf0, xf1, xf2, xf3, xf4, xf5, xf6, xf7, xf8, xf9, xf10, xf11, xf12, xA13, xc13, xb13⟩ := x
  have hdx := hdd _ (List.mem_of_getElem? hk)
  have hbx := hbd _ (List.mem_of_getElem? hk); dsimp only at hbx
  refine st_run tbOk 3 hA (e' := (17, .pointer (some ⟨b, 0, none⟩)) :: (16, .pointer (some ⟨b, 0, none⟩)) :: (15, .pointer (some ⟨b, 0, none⟩)) :: _) rfl ?_; clear hA; intro a hA
  refine st_val hA rfl rfl (by decide) (rn_load tbOk hA rfl rfl rfl rfl (cell_row (hS.heapAt 0 rfl) rfl)) ?_; clear hA; intro a hA
  refine st_run tbOk 1 hA (e' := (19, .int .i64 ((k : Nat) : Int)) :: _) rfl ?_; clear hA; intro a hA
  obtain ⟨b7, o8, rfl⟩ := hO.isSome (k := k) (by omega)
  refine st_val hA rfl rfl (by decide) (rn_indexAddr tbOk hA k (o8 + (k * 14)) rfl rfl rfl rfl rfl rfl (by rfl) (by omega) (by first | rfl | simp [Nat.mul_one, Nat.zero_add] | omega)) ?_; clear hA; intro a hA
  refine st_val hA rfl rfl (by decide) (rn_loadA tbOk hA ([.int .u64 xf0, .int .u32 xf1, .int .i64 xf2, .int .u64 xf3, .int .u64 xf4, .int .u32 xf5, .int .u16 xf6, .int .u16 xf7, .int .u64 xf8, .int .u32 xf9, .int .u8 xf10, .int .u64 xf11, .int .u64 xf12, .slice xA13 xb13.length xc13]) rfl rfl rfl rfl (by rfl) ((hO.rd (hS.own_ 1 rfl)).elem (k := k) encEntry_ok hk)) ?_; clear hA; intro a hA
  refine st_alloc tbOk hA hS [.int .u64 0, .int .u32 0, .int .i64 0, .int .u64 0, .int .u64 0, .int .u32 0, .int .u16 0, .int .u16 0, .int .u64 0, .int .u32 0, .int .u8 0, .int .u64 0, .int .u64 0, .slice none 0 0] rfl rfl rfl rfl rfl (by decide) ?_; clear hA hS; intro b9 w10 a hS hA
  refine st_store tbOk hA hS [.int .u64 xf0, .int .u32 xf1, .int .i64 xf2, .int .u64 xf3, .int .u64 xf4, .int .u32 xf5, .int .u16 xf6, .int .u16 xf7, .int .u64 xf8, .int .u32 xf9, .int .u8 xf10, .int .u64 xf11, .int .u64 xf12, .slice xA13 xb13.length xc13] [.int .u64 xf0, .int .u32 xf1, .int .i64 xf2, .int .u64 xf3, .int .u64 xf4, .int .u32 xf5, .int .u16 xf6, .int .u16 xf7, .int .u64 xf8, .int .u32 xf9, .int .u8 xf10, .int .u64 xf11, .int .u64 xf12, .slice xA13 xb13.length xc13] rfl rfl rfl rfl rfl rfl (by simp [Value.oneCell']) (Nat.le_of_ble_eq_true rfl) rfl rfl rfl ?_; clear hS; intro w11 hS
  refine wpList_nil ?_
  replace hA := hA.sel [5, 8] (e' := [(5, .pointer (some ⟨b3, 0, none⟩)), (8, .pointer (some ⟨b9, 0, none⟩))]) rfl
  refine xt_norm ?_
  refine wp_seq ?_
  refine wp_region_lit ?_
  refine st_run tbOk 2 hA (e' := (23, .pointer (some ⟨b9, 13, none⟩)) :: (22, .pointer (some ⟨b9, 3, none⟩)) :: _) rfl ?_; clear hA; intro a hA
  refine st_val hA rfl rfl (by decide) (rn_load tbOk hA rfl rfl rfl rfl (cell_row (hS.heapAt 0 rfl) rfl)) ?_; clear hA; intro a hA
  refine st_call0 hA rfl rfl rfl isfn13 rfl rfl (by decide) (clonex13 hS (l := xb13) (fun w' h => (hdx _ (h.only 5 rfl))) (by first | omega | (show _ ≤ _; omega))) ?_
  clear hA hS; rintro _ w15 a ⟨A12, c13, C14, hOC14, rfl, hS⟩ hA
  refine st_run tbOk 2 hA (e' := (27, .pointer (some ⟨b9, 13, none⟩)) :: (26, .pointer (some ⟨b9, 3, none⟩)) :: _) rfl ?_; clear hA; intro a hA
  replace hS := hS.front 1 (C := [(b9, rowO [.int .u64 xf0, .int .u32 xf1, .int .i64 xf2, .int .u64 xf3, .int .u64 xf4, .int .u32 xf5, .int .u16 xf6, .int .u16 xf7, .int .u64 xf8, .int .u32 xf9, .int .u8 xf10, .int .u64 xf11, .int .u64 xf12, .slice xA13 xb13.length xc13] 55)]) (L' := C14 :: [(b, rowO [.slice (some ⟨b7, o8, none⟩) es.length c] 27)] :: C :: [(b3, rowO [.int .u64 0, .int .u64 0, .int .u32 0, .int .u16 0, .int .u16 0, .int .u64 0, .int .u32 0, .int .u8 0, .int .u64 0, .int .u64 0, .slice none 0 0] 36)] :: [(b1, rowO [.int .u64 m0, .int .u64 m1, .int .u32 m2, .int .u16 m3, .int .u16 m4, .int .u64 m5, .int .u32 m6, .int .u8 m7, .int .u64 m8, .int .u64 m9, d] 36)] :: D :: F) rfl rfl
  refine st_store tbOk hA hS [.slice A12 xb13.length c13] [.int .u64 xf0, .int .u32 xf1, .int .i64 xf2, .int .u64 xf3, .int .u64 xf4, .int .u32 xf5, .int .u16 xf6, .int .u16 xf7, .int .u64 xf8, .int .u32 xf9, .int .u8 xf10, .int .u64 xf11, .int .u64 xf12, .slice A12 xb13.length c13] rfl rfl rfl rfl rfl rfl (by intro u hu; rw [List.mem_singleton.1 hu]; rfl) (Nat.le_of_ble_eq_true rfl) rfl rfl rfl ?_; clear hS; intro w16 hS
  refine wpList_nil ?_
  replace hA := hA.sel [5, 8] (e' := [(5, .pointer (some ⟨b3, 0, none⟩)), (8, .pointer (some ⟨b9, 0, none⟩))]) rfl
  refine xt_norm ?_
  refine wp_seq ?_
  replace hS := hS.front 4 (C := [(b3, rowO [.int .u64 0, .int .u64 0, .int .u32 0, .int .u16 0, .int .u16 0, .int .u64 0, .int .u32 0, .int .u8 0, .int .u64 0, .int .u64 0, .slice none 0 0] 36)]) (L' := [(b9, rowO [.int .u64 xf0, .int .u32 xf1, .int .i64 xf2, .int .u64 xf3, .int .u64 xf4, .int .u32 xf5, .int .u16 xf6, .int .u16 xf7, .int .u64 xf8, .int .u32 xf9, .int .u8 xf10, .int .u64 xf11, .int .u64 xf12, .slice A12 xb13.length c13] 55)] :: C14 :: [(b, rowO [.slice (some ⟨b7, o8, none⟩) es.length c] 27)] :: C :: [(b1, rowO [.int .u64 m0, .int .u64 m1, .int .u32 m2, .int .u16 m3, .int .u16 m4, .int .u64 m5, .int .u32 m6, .int .u8 m7, .int .u64 m8, .int .u64 m9, d] 36)] :: D :: F) rfl rfl
  refine wp_draw (fun w' => St w0 w' ([(b9, rowO [.int .u64 xf0, .int .u32 xf1, .int .i64 xf2, .int .u64 xf3, .int .u64 xf4, .int .u32 xf5, .int .u16 xf6, .int .u16 xf7, .int .u64 xf8, .int .u32 xf9, .int .u8 xf10, .int .u64 xf11, .int .u64 xf12, .slice A12 xb13.length c13] 55)] :: C14 :: [(b, rowO [.slice (some ⟨b7, o8, none⟩) es.length c] 27)] :: C :: [(b1, rowO [.int .u64 m0, .int .u64 m1, .int .u32 m2, .int .u16 m3, .int .u16 m4, .int .u64 m5, .int .u32 m6, .int .u8 m7, .int .u64 m8, .int .u64 m9, d] 36)] :: D :: F)) [] [(0, true), (1, true), (2, true), (3, true), (4, true), (5, false), (6, true)] mixed (by kernel_rfl) (by rintro c a w ⟨_, _, h, _⟩; cases h) (by rfl) (by kernel_rfl) ?_
  replace hS := hS.drew
  refine dr_run tbOk 1 hA (hS.tail 1 rfl) (e' := (28, .pointer (some ⟨b9, 2, none⟩)) :: _) rfl ?_; clear hA; intro a hA
  refine dr_y hA rfl rfl rfl (by decide) (hS.tail 1 rfl) (fun w' hS' => rn_load tbOk hA rfl rfl rfl rfl (cell_row (hS'.heapAt 0 rfl) rfl)) ?_; clear hA; intro a hA
  refine dr_run tbOk 1 hA (hS.tail 1 rfl) (e' := (30, .pointer (some ⟨b9, 3, none⟩)) :: _) rfl ?_; clear hA; intro a hA
  refine dr_y hA rfl rfl rfl (by decide) (hS.tail 1 rfl) (fun w' hS' => rn_loadA tbOk hA [.int .u64 xf3, .int .u64 xf4, .int .u32 xf5, .int .u16 xf6, .int .u16 xf7, .int .u64 xf8, .int .u32 xf9, .int .u8 xf10, .int .u64 xf11, .int .u64 xf12, .slice A12 xb13.length c13] rfl rfl rfl rfl rfl (cells_row (hS'.heapAt 0 rfl) rfl)) ?_; clear hA; intro a hA
  refine dr_run tbOk 1 hA (hS.tail 1 rfl) (e' := (4, .int .i64 xf2) :: _) rfl ?_; clear hA; intro a hA
  refine dr_b (o := _) rfl ?_
  refine st_store tbOk hA hS [.int .u64 xf3, .int .u64 xf4, .int .u32 xf5, .int .u16 xf6, .int .u16 xf7, .int .u64 xf8, .int .u32 xf9, .int .u8 xf10, .int .u64 xf11, .int .u64 xf12, .slice A12 xb13.length c13] [.int .u64 xf3, .int .u64 xf4, .int .u32 xf5, .int .u16 xf6, .int .u16 xf7, .int .u64 xf8, .int .u32 xf9, .int .u8 xf10, .int .u64 xf11, .int .u64 xf12, .slice A12 xb13.length c13] rfl rfl rfl rfl rfl rfl (by simp [Value.oneCell']) (Nat.le_of_ble_eq_true rfl) rfl rfl rfl ?_; clear hS; intro w17 hS
  refine dr_nil (.inr (hS.tail 1 rfl)) ?_
  refine dr_run tbOk 1 hA (hS.tail 1 rfl) (e' := (6, .nilIface) :: _) rfl ?_; clear hA; intro a hA
  refine dr_end ?_
  replace hA := hA.sel [4, 5, 6] (e' := [(4, .int .i64 xf2), (5, .pointer (some ⟨b3, 0, none⟩)), (6, .nilIface)]) rfl
  refine xt_norm ?_
  refine wp_ret (xt_ret ?_)
  refine rettct tbOk (fn := Tryd.f8) (cs := [.int .u64 xf3, .int .u64 xf4, .int .u32 xf5, .int .u16 xf6, .int .u16 xf7, .int .u64 xf8, .int .u32 xf9, .int .u8 xf10, .int .u64 xf11, .int .u64 xf12, .slice A12 xb13.length c13]) hA rfl rfl rfl rfl rfl rfl rfl (cells_row (hS.heapAt 0 rfl) rfl) ?_
  replace hS := hS.drop1
  replace hS := hS.drop1
  replace hS := hS.front 3 (C := [(b1, rowO [.int .u64 m0, .int .u64 m1, .int .u32 m2, .int .u16 m3, .int .u16 m4, .int .u64 m5, .int .u32 m6, .int .u8 m7, .int .u64 m8, .int .u64 m9, d] 36)]) (L' := C14 :: [(b, rowO [.slice (some ⟨b7, o8, none⟩) es.length c] 27)] :: C :: D :: F) rfl rfl
  replace hS := hS.drop1
  replace hS := hS.front 2 (C := C) (L' := C14 :: [(b, rowO [.slice (some ⟨b7, o8, none⟩) es.length c] 27)] :: D :: F) rfl rfl
  replace hS := hS.front 2 (C := [(b, rowO [.slice (some ⟨b7, o8, none⟩) es.length c] 27)]) (L' := C :: C14 :: D :: F) rfl rfl
  replace hS := hS.front 3 (C := D) (L' := [(b, rowO [.slice (some ⟨b7, o8, none⟩) es.length c] 27)] :: C :: C14 :: F) rfl rfl
  replace hS := hS.front 3 (C := C14) (L' := D :: [(b, rowO [.slice (some ⟨b7, o8, none⟩) es.length c] 27)] :: C :: F) rfl rfl
  replace hS := hS.join
  replace hS := hS.front 2 (C := C) (L' := (C14 ++ D) :: [(b, rowO [.slice (some ⟨b7, o8, none⟩) es.length c] 27)] :: F) rfl rfl
  replace hS := hS.front 2 (C := [(b, rowO [.slice (some ⟨b7, o8, none⟩) es.length c] 27)]) (L' := C :: (C14 ++ D) :: F) rfl rfl
  replace hS := hS.join
  exact ⟨_, _, _, _, ⟨_, _, hO, rfl⟩, DD.new hOC14, rfl, hS⟩

theorem take_new8 {w0 w : World} {F : List Chunk} {L D : Chunk} {b : Nat} {es : List Ent} (hS : St w0 w (L :: D :: F)) (hM : SR b es L) (m0 m1 m2 m3 m4 m5 m6 m7 m8 m9 : Int) (d : Value) (hno : ∀ (i : Nat) (y : Ent), es[i]? = some y → fnd m1 m2 y = false) (hl : es.length < 32) :
    Ret Tryd.prog 8 #[.pointer (some ⟨b, 0, none⟩), .agg #[.int .u64 m0, .int .u64 m1, .int .u32 m2, .int .u16 m3, .int .u16 m4, .int .u64 m5, .int .u32 m6, .int .u8 m7, .int .u64 m8, .int .u64 m9, d]] w (fun v w' => ∃ L', SR b (es ++ [(m1, m2, 1, 0, 0, 0, 0, 0, 0, 0, 0, 0, 0, none, 0, ([] : List UInt8))]) L' ∧ v = .tuple #[.int .i64 0, .agg #[.int .u64 0, .int .u64 0, .int .u32 0, .int .u16 0, .int .u16 0, .int .u64 0, .int .u32 0, .int .u8 0, .int .u64 0, .int .u64 0, .slice none 0 0], .nilIface] ∧ St w0 w' (L' :: D :: F)) := by
  refine enter (vs := [.pointer (some ⟨b, 0, none⟩), .agg #[.int .u64 m0, .int .u64 m1, .int .u32 m2, .int .u16 m3, .int .u16 m4, .int .u64 m5, .int .u32 m6, .int .u8 m7, .int .u64 m8, .int .u64 m9, d]]) 73 Tryd.func8 rfl rfl (by simp) ?_; intro a hA
  refine wp_seq ?_
  refine wp_region_lit ?_
  refine st_box hA hS [.int .u64 m0, .int .u64 m1, .int .u32 m2, .int .u16 m3, .int .u16 m4, .int .u64 m5, .int .u32 m6, .int .u8 m7, .int .u64 m8, .int .u64 m9, d] rfl rfl rfl rfl rfl (by decide) ?_; clear hA hS; intro b1 w2 a hS hA
  refine st_run tbOk 1 hA (e' := (4, .int .i64 0) :: _) rfl ?_; clear hA; intro a hA
  refine st_alloc tbOk hA hS [.int .u64 0, .int .u64 0, .int .u32 0, .int .u16 0, .int .u16 0, .int .u64 0, .int .u32 0, .int .u8 0, .int .u64 0, .int .u64 0, .slice none 0 0] rfl rfl rfl rfl rfl (by decide) ?_; clear hA hS; intro b3 w4 a hS hA
  refine st_run tbOk 1 hA (e' := (6, .nilIface) :: _) rfl ?_; clear hA; intro a hA
  refine wpList_nil ?_
  replace hA := hA.sel [0, 3, 5] (e' := [(0, .pointer (some ⟨b, 0, none⟩)), (3, .pointer (some ⟨b1, 0, none⟩)), (5, .pointer (some ⟨b3, 0, none⟩))]) rfl
  refine xt_norm ?_
  refine wp_seq ?_
  refine wp_seq ?_
  refine wp_region_lit ?_
  refine st_run tbOk 1 hA (e' := (10, .pointer (some ⟨b, 0, none⟩)) :: _) rfl ?_; clear hA; intro a hA
  refine st_val hA rfl rfl (by decide) (rn_loadA tbOk hA [.int .u64 m0, .int .u64 m1, .int .u32 m2, .int .u16 m3, .int .u16 m4, .int .u64 m5, .int .u32 m6, .int .u8 m7, .int .u64 m8, .int .u64 m9, d] rfl rfl rfl rfl rfl (cells_row (hS.heapAt 1 rfl) rfl)) ?_; clear hA; intro a hA
  replace hS := hS.front 2 (C := L) (L' := [(b3, rowO [.int .u64 0, .int .u64 0, .int .u32 0, .int .u16 0, .int .u16 0, .int .u64 0, .int .u32 0, .int .u8 0, .int .u64 0, .int .u64 0, .slice none 0 0] 36)] :: [(b1, rowO [.int .u64 m0, .int .u64 m1, .int .u32 m2, .int .u16 m3, .int .u16 m4, .int .u64 m5, .int .u32 m6, .int .u8 m7, .int .u64 m8, .int .u64 m9, d] 36)] :: D :: F) rfl rfl
  refine st_call0 hA rfl rfl rfl isfn12 rfl rfl (by decide) (find12 hS hM m0 m1 m2 m3 m4 m5 m6 m7 m8 m9 _) ?_
  clear hA hS; rintro _ w5 a ⟨L9, hM9, rfl, hS⟩ hA
  have hix := idx_none hno
  replace hA := hA.rw 12 (v' := .int .i64 (-1)) rfl (vint hix)
  obtain ⟨v, C, hO, rfl⟩ := hM9
  obtain ⟨A, c, rfl, hmc, hcx⟩ := hO.open'
  replace hS : St w0 w5 ([(b, rowO [.slice A es.length c] 27)] :: C :: [(b3, rowO [.int .u64 0, .int .u64 0, .int .u32 0, .int .u16 0, .int .u16 0, .int .u64 0, .int .u32 0, .int .u8 0, .int .u64 0, .int .u64 0, .slice none 0 0] 36)] :: [(b1, rowO [.int .u64 m0, .int .u64 m1, .int .u32 m2, .int .u16 m3, .int .u16 m4, .int .u64 m5, .int .u32 m6, .int .u8 m7, .int .u64 m8, .int .u64 m9, d] 36)] :: D :: F) := hS.split
  refine st_run tbOk 1 hA (e' := (7, .int .i64 (-1)) :: _) rfl ?_; clear hA; intro a hA
  refine wpList_nil ?_
  replace hA := hA.sel [0, 3, 5, 7] (e' := [(0, .pointer (some ⟨b, 0, none⟩)), (3, .pointer (some ⟨b1, 0, none⟩)), (5, .pointer (some ⟨b3, 0, none⟩)), (7, .int .i64 (-1))]) rfl
  refine xt_norm ?_
  refine wp_seq ?_
  refine wp_region_lit ?_
  refine st_run tbOk 2 hA (e' := (14, .bool false) :: (13, .int .i64 (-1)) :: _) rfl ?_; clear hA; intro a hA
  refine wpList_nil ?_
  replace hA := hA.sel [0, 3, 5, 7, 14] (e' := [(0, .pointer (some ⟨b, 0, none⟩)), (3, .pointer (some ⟨b1, 0, none⟩)), (5, .pointer (some ⟨b3, 0, none⟩)), (7, .int .i64 (-1)), (14, .bool false)]) rfl
  refine xt_norm ?_
  refine cd_cond_f hA rfl ?_
  refine wp_skip ?_
  refine xt_norm ?_
  refine wp_seq ?_
  refine wp_seq ?_
  refine wp_region_lit ?_
  refine st_run tbOk 3 hA (e' := (34, .pointer (some ⟨b, 0, none⟩)) :: (33, .pointer (some ⟨b, 0, none⟩)) :: (32, .pointer (some ⟨b, 0, none⟩)) :: _) rfl ?_; clear hA; intro a hA
  refine st_val hA rfl rfl (by decide) (rn_load tbOk hA rfl rfl rfl rfl (cell_row (hS.heapAt 0 rfl) rfl)) ?_; clear hA; intro a hA
  refine st_run tbOk 2 hA (e' := (37, .bool (((es.length : Nat) : Int) == 32)) :: (36, .int .i64 ((es.length : Nat) : Int)) :: _) rfl ?_; clear hA; intro a hA
  refine wpList_nil ?_
  replace hA := hA.sel [0, 3, 5, 37] (e' := [(0, .pointer (some ⟨b, 0, none⟩)), (3, .pointer (some ⟨b1, 0, none⟩)), (5, .pointer (some ⟨b3, 0, none⟩)), (37, .bool (((es.length : Nat) : Int) == 32))]) rfl
  refine xt_norm ?_
  have hc6 : ¬ (((es.length : Nat) : Int) = 32) := by omega
  replace hA := hA.rw 37 (v' := .bool false) rfl (vb_eq_f hc6)
  refine cd_cond_f hA rfl ?_
  refine wp_skip ?_
  refine xt_norm ?_
  refine wp_seq ?_
  replace hS := hS.front 1 (C := C) (L' := [(b, rowO [.slice A es.length c] 27)] :: [(b3, rowO [.int .u64 0, .int .u64 0, .int .u32 0, .int .u16 0, .int .u16 0, .int .u64 0, .int .u32 0, .int .u8 0, .int .u64 0, .int .u64 0, .slice none 0 0] 36)] :: [(b1, rowO [.int .u64 m0, .int .u64 m1, .int .u32 m2, .int .u16 m3, .int .u16 m4, .int .u64 m5, .int .u32 m6, .int .u8 m7, .int .u64 m8, .int .u64 m9, d] 36)] :: D :: F) rfl rfl
  refine wp_draw (fun w' => St w0 w' ([(b, rowO [.slice A es.length c] 27)] :: [(b3, rowO [.int .u64 0, .int .u64 0, .int .u32 0, .int .u16 0, .int .u16 0, .int .u64 0, .int .u32 0, .int .u8 0, .int .u64 0, .int .u64 0, .slice none 0 0] 36)] :: [(b1, rowO [.int .u64 m0, .int .u64 m1, .int .u32 m2, .int .u16 m3, .int .u16 m4, .int .u64 m5, .int .u32 m6, .int .u8 m7, .int .u64 m8, .int .u64 m9, d] 36)] :: D :: F)) [14] [(0, true), (1, true), (2, true), (3, true), (4, true), (5, true), (6, true), (7, true), (8, true), (9, true), (10, false), (11, false), (12, true), (13, true), (14, false)] mixed (by kernel_rfl) (by rintro c a w ⟨_, _, h, _⟩; cases h) (by rfl) (by kernel_rfl) ?_
  replace hS := hS.drew
  refine dr_run tbOk 4 hA (hS.tail 1 rfl) (e' := (61, .pointer (some ⟨b, 0, none⟩)) :: (60, .pointer (some ⟨b, 0, none⟩)) :: (59, .pointer (some ⟨b, 0, none⟩)) :: (58, .pointer (some ⟨b, 0, none⟩)) :: _) rfl ?_; clear hA; intro a hA
  refine dr_y hA rfl rfl rfl (by decide) (hS.tail 1 rfl) (fun w' hS' => rn_load tbOk hA rfl rfl rfl rfl (cell_row (hS'.heapAt 0 rfl) rfl)) ?_; clear hA; intro a hA
  refine dr_run tbOk 1 hA (hS.tail 1 rfl) (e' := (63, .pointer (some ⟨b1, 1, none⟩)) :: _) rfl ?_; clear hA; intro a hA
  refine dr_y hA rfl rfl rfl (by decide) (hS.tail 1 rfl) (fun w' hS' => rn_load tbOk hA rfl rfl rfl rfl (cell_row (hS'.heapAt 2 rfl) rfl)) ?_; clear hA; intro a hA
  refine dr_run tbOk 1 hA (hS.tail 1 rfl) (e' := (65, .pointer (some ⟨b1, 2, none⟩)) :: _) rfl ?_; clear hA; intro a hA
  refine dr_y hA rfl rfl rfl (by decide) (hS.tail 1 rfl) (fun w' hS' => rn_load tbOk hA rfl rfl rfl rfl (cell_row (hS'.heapAt 2 rfl) rfl)) ?_; clear hA; intro a hA
  refine dr_run tbOk 1 hA (hS.tail 1 rfl) (e' := (67, .agg #[.int .u64 m1, .int .u32 m2, .int .i64 1, .int .u64 0, .int .u64 0, .int .u32 0, .int .u16 0, .int .u16 0, .int .u64 0, .int .u32 0, .int .u8 0, .int .u64 0, .int .u64 0, .slice none 0 0]) :: _) rfl ?_; clear hA; intro a hA
  refine dr_b (o := _) rfl ?_
  refine st_buildSlice tbOk hA hS [.int .u64 m1, .int .u32 m2, .int .i64 1, .int .u64 0, .int .u64 0, .int .u32 0, .int .u16 0, .int .u16 0, .int .u64 0, .int .u32 0, .int .u8 0, .int .u64 0, .int .u64 0, .slice none 0 0] rfl rfl rfl rfl rfl (by decide) (by kernel_rfl) rfl rfl (by decide) ?_; clear hA hS; intro b7 w8 a hS hA
  refine dr_nil (.inr (hS.tail 2 rfl)) ?_
  refine dr_b (o := _) rfl ?_
  replace hS := hS.front 1 (C := C) (L' := [(b7, rowO [.int .u64 m1, .int .u32 m2, .int .i64 1, .int .u64 0, .int .u64 0, .int .u32 0, .int .u16 0, .int .u16 0, .int .u64 0, .int .u32 0, .int .u8 0, .int .u64 0, .int .u64 0, .slice none 0 0] 55)] :: [(b, rowO [.slice A es.length c] 27)] :: [(b3, rowO [.int .u64 0, .int .u64 0, .int .u32 0, .int .u16 0, .int .u16 0, .int .u64 0, .int .u32 0, .int .u8 0, .int .u64 0, .int .u64 0, .slice none 0 0] 36)] :: [(b1, rowO [.int .u64 m0, .int .u64 m1, .int .u32 m2, .int .u16 m3, .int .u16 m4, .int .u64 m5, .int .u32 m6, .int .u8 m7, .int .u64 m8, .int .u64 m9, d] 36)] :: D :: F) rfl rfl
  refine st_append tbOk hA (m := es.length) (q := 1) (xs := rows encEntry es) (news := rows encEntry ([(m1, m2, 1, 0, 0, 0, 0, 0, 0, 0, 0, 0, 0, none, 0, ([] : List UInt8))] : List (Int × Int × Int × Int × Int × Int × Int × Int × Int × Int × Int × Int × Int × Option Addr × Nat × List UInt8))) rfl rfl rfl rfl rfl rfl rfl rfl (by decide) hO hS (((Own.full (T := 55) (size := 14) (g := b7) (m := 1) rfl (by decide)).rd (hS.own_ 1 rfl)).x) (rows_one encEntry_ok _) (maxLen_le (by first | omega | (simp; omega))) (by show (es.length + 1) * 104 ≤ 140737488355328; first | omega | (simp; omega)) rfl rfl (by decide) ?_
  clear hA hS; intro v9 w10 C11 a hO11 hS hA
  replace hO11 := Own.app (l := es) (l2 := ([(m1, m2, 1, 0, 0, 0, 0, 0, 0, 0, 0, 0, 0, none, 0, ([] : List UInt8))] : List (Int × Int × Int × Int × Int × Int × Int × Int × Int × Int × Int × Int × Int × Option Addr × Nat × List UInt8))) hO11
  obtain ⟨A12, c13, rfl, hmc13, hxc13⟩ := hO11.open'
  refine dr_nil (.inr (hS.tail 2 rfl)) ?_
  refine dr_run tbOk 2 hA (hS.tail 2 rfl) (e' := (71, .pointer (some ⟨b, 0, none⟩)) :: (70, .pointer (some ⟨b, 0, none⟩)) :: _) rfl ?_; clear hA; intro a hA
  refine dr_b (o := _) rfl ?_
  replace hS := hS.front 2 (C := [(b, rowO [.slice A es.length c] 27)]) (L' := C11 :: [(b7, rowO [.int .u64 m1, .int .u32 m2, .int .i64 1, .int .u64 0, .int .u64 0, .int .u32 0, .int .u16 0, .int .u16 0, .int .u64 0, .int .u32 0, .int .u8 0, .int .u64 0, .int .u64 0, .slice none 0 0] 55)] :: [(b3, rowO [.int .u64 0, .int .u64 0, .int .u32 0, .int .u16 0, .int .u16 0, .int .u64 0, .int .u32 0, .int .u8 0, .int .u64 0, .int .u64 0, .slice none 0 0] 36)] :: [(b1, rowO [.int .u64 m0, .int .u64 m1, .int .u32 m2, .int .u16 m3, .int .u16 m4, .int .u64 m5, .int .u32 m6, .int .u8 m7, .int .u64 m8, .int .u64 m9, d] 36)] :: D :: F) rfl rfl
  refine st_store tbOk hA hS [.slice A12 ((es ++ ([(m1, m2, 1, 0, 0, 0, 0, 0, 0, 0, 0, 0, 0, none, 0, ([] : List UInt8))] : List (Int × Int × Int × Int × Int × Int × Int × Int × Int × Int × Int × Int × Int × Option Addr × Nat × List UInt8))).length) c13] [.slice A12 ((es ++ ([(m1, m2, 1, 0, 0, 0, 0, 0, 0, 0, 0, 0, 0, none, 0, ([] : List UInt8))] : List (Int × Int × Int × Int × Int × Int × Int × Int × Int × Int × Int × Int × Int × Option Addr × Nat × List UInt8))).length) c13] rfl rfl rfl rfl rfl rfl (by intro u hu; rw [List.mem_singleton.1 hu]; rfl) (Nat.le_of_ble_eq_true rfl) rfl rfl rfl ?_; clear hS; intro w14 hS
  refine dr_nil (.inl (by decide)) ?_
  refine dr_end ?_
  replace hA := hA.sel [5] (e' := [(5, .pointer (some ⟨b3, 0, none⟩))]) rfl
  refine xt_norm ?_
  refine wp_seq ?_
  refine wp_region_lit ?_
  refine st_run tbOk 2 hA (e' := (4, .int .i64 0) :: (72, .agg #[.int .u64 0, .int .u64 0, .int .u32 0, .int .u16 0, .int .u16 0, .int .u64 0, .int .u32 0, .int .u8 0, .int .u64 0, .int .u64 0, .slice none 0 0]) :: _) rfl ?_; clear hA; intro a hA
  replace hS := hS.front 3 (C := [(b3, rowO [.int .u64 0, .int .u64 0, .int .u32 0, .int .u16 0, .int .u16 0, .int .u64 0, .int .u32 0, .int .u8 0, .int .u64 0, .int .u64 0, .slice none 0 0] 36)]) (L' := [(b, rowO [.slice A12 ((es ++ ([(m1, m2, 1, 0, 0, 0, 0, 0, 0, 0, 0, 0, 0, none, 0, ([] : List UInt8))] : List (Int × Int × Int × Int × Int × Int × Int × Int × Int × Int × Int × Int × Int × Option Addr × Nat × List UInt8))).length) c13] 27)] :: C11 :: [(b7, rowO [.int .u64 m1, .int .u32 m2, .int .i64 1, .int .u64 0, .int .u64 0, .int .u32 0, .int .u16 0, .int .u16 0, .int .u64 0, .int .u32 0, .int .u8 0, .int .u64 0, .int .u64 0, .slice none 0 0] 55)] :: [(b1, rowO [.int .u64 m0, .int .u64 m1, .int .u32 m2, .int .u16 m3, .int .u16 m4, .int .u64 m5, .int .u32 m6, .int .u8 m7, .int .u64 m8, .int .u64 m9, d] 36)] :: D :: F) rfl rfl
  refine st_store tbOk hA hS [.int .u64 0, .int .u64 0, .int .u32 0, .int .u16 0, .int .u16 0, .int .u64 0, .int .u32 0, .int .u8 0, .int .u64 0, .int .u64 0, .slice none 0 0] [.int .u64 0, .int .u64 0, .int .u32 0, .int .u16 0, .int .u16 0, .int .u64 0, .int .u32 0, .int .u8 0, .int .u64 0, .int .u64 0, .slice none 0 0] rfl rfl rfl rfl rfl rfl (by simp [Value.oneCell']) (Nat.le_of_ble_eq_true rfl) rfl rfl rfl ?_; clear hS; intro w15 hS
  refine st_run tbOk 1 hA (e' := (6, .nilIface) :: _) rfl ?_; clear hA; intro a hA
  refine wpList_nil ?_
  replace hA := hA.sel [4, 5, 6] (e' := [(4, .int .i64 0), (5, .pointer (some ⟨b3, 0, none⟩)), (6, .nilIface)]) rfl
  refine xt_norm ?_
  refine wp_ret ?_
  refine rettct tbOk (fn := Tryd.f8) (cs := [.int .u64 0, .int .u64 0, .int .u32 0, .int .u16 0, .int .u16 0, .int .u64 0, .int .u32 0, .int .u8 0, .int .u64 0, .int .u64 0, .slice none 0 0]) hA rfl rfl rfl rfl rfl rfl rfl (cells_row (hS.heapAt 0 rfl) rfl) ?_
  replace hS := hS.drop1
  replace hS := hS.front 2 (C := [(b7, rowO [.int .u64 m1, .int .u32 m2, .int .i64 1, .int .u64 0, .int .u64 0, .int .u32 0, .int .u16 0, .int .u16 0, .int .u64 0, .int .u32 0, .int .u8 0, .int .u64 0, .int .u64 0, .slice none 0 0] 55)]) (L' := [(b, rowO [.slice A12 ((es ++ ([(m1, m2, 1, 0, 0, 0, 0, 0, 0, 0, 0, 0, 0, none, 0, ([] : List UInt8))] : List (Int × Int × Int × Int × Int × Int × Int × Int × Int × Int × Int × Int × Int × Option Addr × Nat × List UInt8))).length) c13] 27)] :: C11 :: [(b1, rowO [.int .u64 m0, .int .u64 m1, .int .u32 m2, .int .u16 m3, .int .u16 m4, .int .u64 m5, .int .u32 m6, .int .u8 m7, .int .u64 m8, .int .u64 m9, d] 36)] :: D :: F) rfl rfl
  replace hS := hS.drop1
  replace hS := hS.front 2 (C := [(b1, rowO [.int .u64 m0, .int .u64 m1, .int .u32 m2, .int .u16 m3, .int .u16 m4, .int .u64 m5, .int .u32 m6, .int .u8 m7, .int .u64 m8, .int .u64 m9, d] 36)]) (L' := [(b, rowO [.slice A12 ((es ++ ([(m1, m2, 1, 0, 0, 0, 0, 0, 0, 0, 0, 0, 0, none, 0, ([] : List UInt8))] : List (Int × Int × Int × Int × Int × Int × Int × Int × Int × Int × Int × Int × Int × Option Addr × Nat × List UInt8))).length) c13] 27)] :: C11 :: D :: F) rfl rfl
  replace hS := hS.drop1
  replace hS := hS.front 1 (C := C11) (L' := [(b, rowO [.slice A12 ((es ++ ([(m1, m2, 1, 0, 0, 0, 0, 0, 0, 0, 0, 0, 0, none, 0, ([] : List UInt8))] : List (Int × Int × Int × Int × Int × Int × Int × Int × Int × Int × Int × Int × Int × Option Addr × Nat × List UInt8))).length) c13] 27)] :: D :: F) rfl rfl
  replace hS := hS.front 1 (C := [(b, rowO [.slice A12 ((es ++ ([(m1, m2, 1, 0, 0, 0, 0, 0, 0, 0, 0, 0, 0, none, 0, ([] : List UInt8))] : List (Int × Int × Int × Int × Int × Int × Int × Int × Int × Int × Int × Int × Int × Option Addr × Nat × List UInt8))).length) c13] 27)]) (L' := C11 :: D :: F) rfl rfl
  replace hS := hS.front 2 (C := D) (L' := [(b, rowO [.slice A12 ((es ++ ([(m1, m2, 1, 0, 0, 0, 0, 0, 0, 0, 0, 0, 0, none, 0, ([] : List UInt8))] : List (Int × Int × Int × Int × Int × Int × Int × Int × Int × Int × Int × Int × Int × Option Addr × Nat × List UInt8))).length) c13] 27)] :: C11 :: F) rfl rfl
  replace hS := hS.front 2 (C := C11) (L' := D :: [(b, rowO [.slice A12 ((es ++ ([(m1, m2, 1, 0, 0, 0, 0, 0, 0, 0, 0, 0, 0, none, 0, ([] : List UInt8))] : List (Int × Int × Int × Int × Int × Int × Int × Int × Int × Int × Int × Int × Int × Option Addr × Nat × List UInt8))).length) c13] 27)] :: F) rfl rfl
  replace hS := hS.front 2 (C := [(b, rowO [.slice A12 ((es ++ ([(m1, m2, 1, 0, 0, 0, 0, 0, 0, 0, 0, 0, 0, none, 0, ([] : List UInt8))] : List (Int × Int × Int × Int × Int × Int × Int × Int × Int × Int × Int × Int × Int × Option Addr × Nat × List UInt8))).length) c13] 27)]) (L' := C11 :: D :: F) rfl rfl
  replace hS := hS.join
  exact ⟨_, ⟨_, _, hO11, rfl⟩, rfl, hS⟩

theorem take_full8 {w0 w : World} {F : List Chunk} {L D : Chunk} {b : Nat} {es : List Ent} (hS : St w0 w (L :: D :: F)) (hM : SR b es L) (m0 m1 m2 m3 m4 m5 m6 m7 m8 m9 : Int) (d : Value) (hno : ∀ (i : Nat) (y : Ent), es[i]? = some y → fnd m1 m2 y = false) (hl : es.length = 32) (hna : ∀ (i : Nat) (y : Ent), es[i]? = some y → agn y = false) :
    Ret Tryd.prog 8 #[.pointer (some ⟨b, 0, none⟩), .agg #[.int .u64 m0, .int .u64 m1, .int .u32 m2, .int .u16 m3, .int .u16 m4, .int .u64 m5, .int .u32 m6, .int .u8 m7, .int .u64 m8, .int .u64 m9, d]] w (fun v w' => ∃ L', SR b es L' ∧ v = .tuple #[.int .i64 0, .agg #[.int .u64 0, .int .u64 0, .int .u32 0, .int .u16 0, .int .u16 0, .int .u64 0, .int .u32 0, .int .u8 0, .int .u64 0, .int .u64 0, .slice none 0 0], .iface 48 (.int .i64 5)] ∧ St w0 w' (L' :: D :: F)) := by
  refine enter (vs := [.pointer (some ⟨b, 0, none⟩), .agg #[.int .u64 m0, .int .u64 m1, .int .u32 m2, .int .u16 m3, .int .u16 m4, .int .u64 m5, .int .u32 m6, .int .u8 m7, .int .u64 m8, .int .u64 m9, d]]) 73 Tryd.func8 rfl rfl (by simp) ?_; intro a hA
  refine wp_seq ?_
  refine wp_region_lit ?_
  refine st_box hA hS [.int .u64 m0, .int .u64 m1, .int .u32 m2, .int .u16 m3, .int .u16 m4, .int .u64 m5, .int .u32 m6, .int .u8 m7, .int .u64 m8, .int .u64 m9, d] rfl rfl rfl rfl rfl (by decide) ?_; clear hA hS; intro b1 w2 a hS hA
  refine st_run tbOk 1 hA (e' := (4, .int .i64 0) :: _) rfl ?_; clear hA; intro a hA
  refine st_alloc tbOk hA hS [.int .u64 0, .int .u64 0, .int .u32 0, .int .u16 0, .int .u16 0, .int .u64 0, .int .u32 0, .int .u8 0, .int .u64 0, .int .u64 0, .slice none 0 0] rfl rfl rfl rfl rfl (by decide) ?_; clear hA hS; intro b3 w4 a hS hA
  refine st_run tbOk 1 hA (e' := (6, .nilIface) :: _) rfl ?_; clear hA; intro a hA
  refine wpList_nil ?_
  replace hA := hA.sel [0, 3, 5] (e' := [(0, .pointer (some ⟨b, 0, none⟩)), (3, .pointer (some ⟨b1, 0, none⟩)), (5, .pointer (some ⟨b3, 0, none⟩))]) rfl
  refine xt_norm ?_
  refine wp_seq ?_
  refine wp_seq ?_
  refine wp_region_lit ?_
  refine st_run tbOk 1 hA (e' := (10, .pointer (some ⟨b, 0, none⟩)) :: _) rfl ?_; clear hA; intro a hA
  refine st_val hA rfl rfl (by decide) (rn_loadA tbOk hA [.int .u64 m0, .int .u64 m1, .int .u32 m2, .int .u16 m3, .int .u16 m4, .int .u64 m5, .int .u32 m6, .int .u8 m7, .int .u64 m8, .int .u64 m9, d] rfl rfl rfl rfl rfl (cells_row (hS.heapAt 1 rfl) rfl)) ?_; clear hA; intro a hA
  replace hS := hS.front 2 (C := L) (L' := [(b3, rowO [.int .u64 0, .int .u64 0, .int .u32 0, .int .u16 0, .int .u16 0, .int .u64 0, .int .u32 0, .int .u8 0, .int .u64 0, .int .u64 0, .slice none 0 0] 36)] :: [(b1, rowO [.int .u64 m0, .int .u64 m1, .int .u32 m2, .int .u16 m3, .int .u16 m4, .int .u64 m5, .int .u32 m6, .int .u8 m7, .int .u64 m8, .int .u64 m9, d] 36)] :: D :: F) rfl rfl
  refine st_call0 hA rfl rfl rfl isfn12 rfl rfl (by decide) (find12 hS hM m0 m1 m2 m3 m4 m5 m6 m7 m8 m9 _) ?_
  clear hA hS; rintro _ w5 a ⟨L9, hM9, rfl, hS⟩ hA
  have hix := idx_none hno
  replace hA := hA.rw 12 (v' := .int .i64 (-1)) rfl (vint hix)
  obtain ⟨v, C, hO, rfl⟩ := hM9
  obtain ⟨A, c, rfl, hmc, hcx⟩ := hO.open'
  replace hS : St w0 w5 ([(b, rowO [.slice A es.length c] 27)] :: C :: [(b3, rowO [.int .u64 0, .int .u64 0, .int .u32 0, .int .u16 0, .int .u16 0, .int .u64 0, .int .u32 0, .int .u8 0, .int .u64 0, .int .u64 0, .slice none 0 0] 36)] :: [(b1, rowO [.int .u64 m0, .int .u64 m1, .int .u32 m2, .int .u16 m3, .int .u16 m4, .int .u64 m5, .int .u32 m6, .int .u8 m7, .int .u64 m8, .int .u64 m9, d] 36)] :: D :: F) := hS.split
  refine st_run tbOk 1 hA (e' := (7, .int .i64 (-1)) :: _) rfl ?_; clear hA; intro a hA
  refine wpList_nil ?_
  replace hA := hA.sel [0, 3, 5, 7] (e' := [(0, .pointer (some ⟨b, 0, none⟩)), (3, .pointer (some ⟨b1, 0, none⟩)), (5, .pointer (some ⟨b3, 0, none⟩)), (7, .int .i64 (-1))]) rfl
  refine xt_norm ?_
  refine wp_seq ?_
  refine wp_region_lit ?_
  refine st_run tbOk 2 hA (e' := (14, .bool false) :: (13, .int .i64 (-1)) :: _) rfl ?_; clear hA; intro a hA
  refine wpList_nil ?_
  replace hA := hA.sel [0, 3, 5, 7, 14] (e' := [(0, .pointer (some ⟨b, 0, none⟩)), (3, .pointer (some ⟨b1, 0, none⟩)), (5, .pointer (some ⟨b3, 0, none⟩)), (7, .int .i64 (-1)), (14, .bool false)]) rfl
  refine xt_norm ?_
  refine cd_cond_f hA rfl ?_
  refine wp_skip ?_
  refine xt_norm ?_
  refine wp_seq ?_
  refine wp_seq ?_
  refine wp_region_lit ?_
  refine st_run tbOk 3 hA (e' := (34, .pointer (some ⟨b, 0, none⟩)) :: (33, .pointer (some ⟨b, 0, none⟩)) :: (32, .pointer (some ⟨b, 0, none⟩)) :: _) rfl ?_; clear hA; intro a hA
  refine st_val hA rfl rfl (by decide) (rn_load tbOk hA rfl rfl rfl rfl (cell_row (hS.heapAt 0 rfl) rfl)) ?_; clear hA; intro a hA
  refine st_run tbOk 2 hA (e' := (37, .bool (((es.length : Nat) : Int) == 32)) :: (36, .int .i64 ((es.length : Nat) : Int)) :: _) rfl ?_; clear hA; intro a hA
  refine wpList_nil ?_
  replace hA := hA.sel [0, 3, 5, 37] (e' := [(0, .pointer (some ⟨b, 0, none⟩)), (3, .pointer (some ⟨b1, 0, none⟩)), (5, .pointer (some ⟨b3, 0, none⟩)), (37, .bool (((es.length : Nat) : Int) == 32))]) rfl
  refine xt_norm ?_
  have hc6 : ((es.length : Nat) : Int) = 32 := by omega
  replace hA := hA.rw 37 (v' := .bool true) rfl (vb_eq_t hc6)
  refine cd_cond_t hA rfl ?_
  refine wp_seq ?_
  refine wp_region_lit ?_
  refine st_run tbOk 3 hA (e' := (40, .pointer (some ⟨b, 0, none⟩)) :: (39, .pointer (some ⟨b, 0, none⟩)) :: (38, .pointer (some ⟨b, 0, none⟩)) :: _) rfl ?_; clear hA; intro a hA
  refine st_val hA rfl rfl (by decide) (rn_load tbOk hA rfl rfl rfl rfl (cell_row (hS.heapAt 0 rfl) rfl)) ?_; clear hA; intro a hA
  refine st_call0 hA rfl rfl rfl isfn14 rfl rfl (by decide) (indexFunc14 hS (l := es) (RdS.own hO 1 rfl) isfn15 agncP) ?_
  clear hA hS; rintro v w7 a ⟨rfl, hS⟩ hA
  have hjx := idx_none hna
  replace hA := hA.rw 42 (v' := .int .i64 (-1)) rfl (vint hjx)
  refine st_run tbOk 1 hA (e' := (9, .int .i64 (-1)) :: _) rfl ?_; clear hA; intro a hA
  refine wpList_nil ?_
  replace hA := hA.sel [0, 3, 5, 9] (e' := [(0, .pointer (some ⟨b, 0, none⟩)), (3, .pointer (some ⟨b1, 0, none⟩)), (5, .pointer (some ⟨b3, 0, none⟩)), (9, .int .i64 (-1))]) rfl
  refine xt_norm ?_
  refine wp_seq ?_
  refine wp_seq ?_
  refine wp_region_lit ?_
  refine st_run tbOk 2 hA (e' := (44, .bool true) :: (43, .int .i64 (-1)) :: _) rfl ?_; clear hA; intro a hA
  refine wpList_nil ?_
  replace hA := hA.sel [0, 3, 5, 9, 44] (e' := [(0, .pointer (some ⟨b, 0, none⟩)), (3, .pointer (some ⟨b1, 0, none⟩)), (5, .pointer (some ⟨b3, 0, none⟩)), (9, .int .i64 (-1)), (44, .bool true)]) rfl
  refine xt_norm ?_
  refine cd_cond_t hA rfl ?_
  refine wp_seq ?_
  refine wp_region_lit ?_
  refine st_run tbOk 3 hA (e' := (4, .int .i64 0) :: (46, .iface 48 (.int .i64 5)) :: (45, .agg #[.int .u64 0, .int .u64 0, .int .u32 0, .int .u16 0, .int .u16 0, .int .u64 0, .int .u32 0, .int .u8 0, .int .u64 0, .int .u64 0, .slice none 0 0]) :: _) rfl ?_; clear hA; intro a hA
  replace hS := hS.front 2 (C := [(b3, rowO [.int .u64 0, .int .u64 0, .int .u32 0, .int .u16 0, .int .u16 0, .int .u64 0, .int .u32 0, .int .u8 0, .int .u64 0, .int .u64 0, .slice none 0 0] 36)]) (L' := [(b, rowO [.slice A es.length c] 27)] :: C :: [(b1, rowO [.int .u64 m0, .int .u64 m1, .int .u32 m2, .int .u16 m3, .int .u16 m4, .int .u64 m5, .int .u32 m6, .int .u8 m7, .int .u64 m8, .int .u64 m9, d] 36)] :: D :: F) rfl rfl
  refine st_store tbOk hA hS [.int .u64 0, .int .u64 0, .int .u32 0, .int .u16 0, .int .u16 0, .int .u64 0, .int .u32 0, .int .u8 0, .int .u64 0, .int .u64 0, .slice none 0 0] [.int .u64 0, .int .u64 0, .int .u32 0, .int .u16 0, .int .u16 0, .int .u64 0, .int .u32 0, .int .u8 0, .int .u64 0, .int .u64 0, .slice none 0 0] rfl rfl rfl rfl rfl rfl (by simp [Value.oneCell']) (Nat.le_of_ble_eq_true rfl) rfl rfl rfl ?_; clear hS; intro w8 hS
  refine st_run tbOk 1 hA (e' := (6, .iface 48 (.int .i64 5)) :: _) rfl ?_; clear hA; intro a hA
  refine wpList_nil ?_
  replace hA := hA.sel [4, 5, 6] (e' := [(4, .int .i64 0), (5, .pointer (some ⟨b3, 0, none⟩)), (6, .iface 48 (.int .i64 5))]) rfl
  refine xt_norm ?_
  refine wp_ret (xt_ret (xt_ret ?_))
  refine rettct tbOk (fn := Tryd.f8) (cs := [.int .u64 0, .int .u64 0, .int .u32 0, .int .u16 0, .int .u16 0, .int .u64 0, .int .u32 0, .int .u8 0, .int .u64 0, .int .u64 0, .slice none 0 0]) hA rfl rfl rfl rfl rfl rfl rfl (cells_row (hS.heapAt 0 rfl) rfl) ?_
  replace hS := hS.drop1
  replace hS := hS.front 2 (C := [(b1, rowO [.int .u64 m0, .int .u64 m1, .int .u32 m2, .int .u16 m3, .int .u16 m4, .int .u64 m5, .int .u32 m6, .int .u8 m7, .int .u64 m8, .int .u64 m9, d] 36)]) (L' := [(b, rowO [.slice A es.length c] 27)] :: C :: D :: F) rfl rfl
  replace hS := hS.drop1
  replace hS := hS.front 1 (C := C) (L' := [(b, rowO [.slice A es.length c] 27)] :: D :: F) rfl rfl
  replace hS := hS.front 1 (C := [(b, rowO [.slice A es.length c] 27)]) (L' := C :: D :: F) rfl rfl
  replace hS := hS.front 2 (C := D) (L' := [(b, rowO [.slice A es.length c] 27)] :: C :: F) rfl rfl
  replace hS := hS.front 2 (C := C) (L' := D :: [(b, rowO [.slice A es.length c] 27)] :: F) rfl rfl
  replace hS := hS.front 2 (C := [(b, rowO [.slice A es.length c] 27)]) (L' := C :: D :: F) rfl rfl
  replace hS := hS.join
  exact ⟨_, ⟨_, _, hO, rfl⟩, rfl, hS⟩

theorem take_out8 {w0 w : World} {F : List Chunk} {L D : Chunk} {b : Nat} {es : List Ent} (hS : St w0 w (L :: D :: F)) (hM : SR b es L) (m0 m1 m2 m3 m4 m5 m6 m7 m8 m9 : Int) (d : Value) (hno : ∀ (i : Nat) (y : Ent), es[i]? = some y → fnd m1 m2 y = false) (hl : es.length = 32) {j : Nat} {z : Ent} (hj : es[j]? = some z) (hja : agn z = true) (hjb : ∀ (i : Nat) (y : Ent), i < j → es[i]? = some y → agn y = false) :
    Ret Tryd.prog 8 #[.pointer (some ⟨b, 0, none⟩), .agg #[.int .u64 m0, .int .u64 m1, .int .u32 m2, .int .u16 m3, .int .u16 m4, .int .u64 m5, .int .u32 m6, .int .u8 m7, .int .u64 m8, .int .u64 m9, d]] w (fun v w' => ∃ L', SR b (es.take j ++ es.drop (j + 1) ++ [(m1, m2, 1, 0, 0, 0, 0, 0, 0, 0, 0, 0, 0, none, 0, ([] : List UInt8))]) L' ∧ v = .tuple #[.int .i64 0, .agg #[.int .u64 0, .int .u64 0, .int .u32 0, .int .u16 0, .int .u16 0, .int .u64 0, .int .u32 0, .int .u8 0, .int .u64 0, .int .u64 0, .slice none 0 0], .nilIface] ∧ St w0 w' (L' :: D :: F)) := by
  refine enter (vs := [.pointer (some ⟨b, 0, none⟩), .agg #[.int .u64 m0, .int .u64 m1, .int .u32 m2, .int .u16 m3, .int .u16 m4, .int .u64 m5, .int .u32 m6, .int .u8 m7, .int .u64 m8, .int .u64 m9, d]]) 73 Tryd.func8 rfl rfl (by simp) ?_; intro a hA
  refine wp_seq ?_
  refine wp_region_lit ?_
  refine st_box hA hS [.int .u64 m0, .int .u64 m1, .int .u32 m2, .int .u16 m3, .int .u16 m4, .int .u64 m5, .int .u32 m6, .int .u8 m7, .int .u64 m8, .int .u64 m9, d] rfl rfl rfl rfl rfl (by decide) ?_; clear hA hS; intro b1 w2 a hS hA
  refine st_run tbOk 1 hA (e' := (4, .int .i64 0) :: _) rfl ?_; clear hA; intro a hA
  refine st_alloc tbOk hA hS [.int .u64 0, .int .u64 0, .int .u32 0, .int .u16 0, .int .u16 0, .int .u64 0, .int .u32 0, .int .u8 0, .int .u64 0, .int .u64 0, .slice none 0 0] rfl rfl rfl rfl rfl (by decide) ?_; clear hA hS; intro b3 w4 a hS hA
  refine st_run tbOk 1 hA (e' := (6, .nilIface) :: _) rfl ?_; clear hA; intro a hA
  refine wpList_nil ?_
  replace hA := hA.sel [0, 3, 5] (e' := [(0, .pointer (some ⟨b, 0, none⟩)), (3, .pointer (some ⟨b1, 0, none⟩)), (5, .pointer (some ⟨b3, 0, none⟩))]) rfl
  refine xt_norm ?_
  refine wp_seq ?_
  refine wp_seq ?_
  refine wp_region_lit ?_
  refine st_run tbOk 1 hA (e' := (10, .pointer (some ⟨b, 0, none⟩)) :: _) rfl ?_; clear hA; intro a hA
  refine st_val hA rfl rfl (by decide) (rn_loadA tbOk hA [.int .u64 m0, .int .u64 m1, .int .u32 m2, .int .u16 m3, .int .u16 m4, .int .u64 m5, .int .u32 m6, .int .u8 m7, .int .u64 m8, .int .u64 m9, d] rfl rfl rfl rfl rfl (cells_row (hS.heapAt 1 rfl) rfl)) ?_; clear hA; intro a hA
  replace hS := hS.front 2 (C := L) (L' := [(b3, rowO [.int .u64 0, .int .u64 0, .int .u32 0, .int .u16 0, .int .u16 0, .int .u64 0, .int .u32 0, .int .u8 0, .int .u64 0, .int .u64 0, .slice none 0 0] 36)] :: [(b1, rowO [.int .u64 m0, .int .u64 m1, .int .u32 m2, .int .u16 m3, .int .u16 m4, .int .u64 m5, .int .u32 m6, .int .u8 m7, .int .u64 m8, .int .u64 m9, d] 36)] :: D :: F) rfl rfl
  refine st_call0 hA rfl rfl rfl isfn12 rfl rfl (by decide) (find12 hS hM m0 m1 m2 m3 m4 m5 m6 m7 m8 m9 _) ?_
  clear hA hS; rintro _ w5 a ⟨L9, hM9, rfl, hS⟩ hA
  have hix := idx_none hno
  replace hA := hA.rw 12 (v' := .int .i64 (-1)) rfl (vint hix)
  obtain ⟨v, C, hO, rfl⟩ := hM9
  obtain ⟨A, c, rfl, hmc, hcx⟩ := hO.open'
  replace hS : St w0 w5 ([(b, rowO [.slice A es.length c] 27)] :: C :: [(b3, rowO [.int .u64 0, .int .u64 0, .int .u32 0, .int .u16 0, .int .u16 0, .int .u64 0, .int .u32 0, .int .u8 0, .int .u64 0, .int .u64 0, .slice none 0 0] 36)] :: [(b1, rowO [.int .u64 m0, .int .u64 m1, .int .u32 m2, .int .u16 m3, .int .u16 m4, .int .u64 m5, .int .u32 m6, .int .u8 m7, .int .u64 m8, .int .u64 m9, d] 36)] :: D :: F) := hS.split
  refine st_run tbOk 1 hA (e' := (7, .int .i64 (-1)) :: _) rfl ?_; clear hA; intro a hA
  refine wpList_nil ?_
  replace hA := hA.sel [0, 3, 5, 7] (e' := [(0, .pointer (some ⟨b, 0, none⟩)), (3, .pointer (some ⟨b1, 0, none⟩)), (5, .pointer (some ⟨b3, 0, none⟩)), (7, .int .i64 (-1))]) rfl
  refine xt_norm ?_
  refine wp_seq ?_
  refine wp_region_lit ?_
  refine st_run tbOk 2 hA (e' := (14, .bool false) :: (13, .int .i64 (-1)) :: _) rfl ?_; clear hA; intro a hA
  refine wpList_nil ?_
  replace hA := hA.sel [0, 3, 5, 7, 14] (e' := [(0, .pointer (some ⟨b, 0, none⟩)), (3, .pointer (some ⟨b1, 0, none⟩)), (5, .pointer (some ⟨b3, 0, none⟩)), (7, .int .i64 (-1)), (14, .bool false)]) rfl
  refine xt_norm ?_
  refine cd_cond_f hA rfl ?_
  refine wp_skip ?_
  refine xt_norm ?_
  refine wp_seq ?_
  refine wp_seq ?_
  refine wp_region_lit ?_
  refine st_run tbOk 3 hA (e' := (34, .pointer (some ⟨b, 0, none⟩)) :: (33, .pointer (some ⟨b, 0, none⟩)) :: (32, .pointer (some ⟨b, 0, none⟩)) :: _) rfl ?_; clear hA; intro a hA
  refine st_val hA rfl rfl (by decide) (rn_load tbOk hA rfl rfl rfl rfl (cell_row (hS.heapAt 0 rfl) rfl)) ?_; clear hA; intro a hA
  refine st_run tbOk 2 hA (e' := (37, .bool (((es.length : Nat) : Int) == 32)) :: (36, .int .i64 ((es.length : Nat) : Int)) :: _) rfl ?_; clear hA; intro a hA
  refine wpList_nil ?_
  replace hA := hA.sel [0, 3, 5, 37] (e' := [(0, .pointer (some ⟨b, 0, none⟩)), (3, .pointer (some ⟨b1, 0, none⟩)), (5, .pointer (some ⟨b3, 0, none⟩)), (37, .bool (((es.length : Nat) : Int) == 32))]) rfl
  refine xt_norm ?_
  have hc6 : ((es.length : Nat) : Int) = 32 := by omega
  replace hA := hA.rw 37 (v' := .bool true) rfl (vb_eq_t hc6)
  refine cd_cond_t hA rfl ?_
  refine wp_seq ?_
  refine wp_region_lit ?_
  refine st_run tbOk 3 hA (e' := (40, .pointer (some ⟨b, 0, none⟩)) :: (39, .pointer (some ⟨b, 0, none⟩)) :: (38, .pointer (some ⟨b, 0, none⟩)) :: _) rfl ?_; clear hA; intro a hA
  refine st_val hA rfl rfl (by decide) (rn_load tbOk hA rfl rfl rfl rfl (cell_row (hS.heapAt 0 rfl) rfl)) ?_; clear hA; intro a hA
  refine st_call0 hA rfl rfl rfl isfn14 rfl rfl (by decide) (indexFunc14 hS (l := es) (RdS.own hO 1 rfl) isfn15 agncP) ?_
  clear hA hS; rintro v w7 a ⟨rfl, hS⟩ hA
  have hjx := idx_some hj hja hjb
  have hjl := (List.getElem?_eq_some_iff.1 hj).1
  replace hA := hA.rw 42 (v' := .int .i64 ((j : Nat) : Int)) rfl (vint hjx)
  refine st_run tbOk 1 hA (e' := (9, .int .i64 ((j : Nat) : Int)) :: _) rfl ?_; clear hA; intro a hA
  refine wpList_nil ?_
  replace hA := hA.sel [0, 3, 5, 9] (e' := [(0, .pointer (some ⟨b, 0, none⟩)), (3, .pointer (some ⟨b1, 0, none⟩)), (5, .pointer (some ⟨b3, 0, none⟩)), (9, .int .i64 ((j : Nat) : Int))]) rfl
  refine xt_norm ?_
  refine wp_seq ?_
  refine wp_seq ?_
  refine wp_region_lit ?_
  refine st_run tbOk 2 hA (e' := (44, .bool (decide (((j : Nat) : Int) < 0))) :: (43, .int .i64 ((j : Nat) : Int)) :: _) rfl ?_; clear hA; intro a hA
  refine wpList_nil ?_
  replace hA := hA.sel [0, 3, 5, 9, 44] (e' := [(0, .pointer (some ⟨b, 0, none⟩)), (3, .pointer (some ⟨b1, 0, none⟩)), (5, .pointer (some ⟨b3, 0, none⟩)), (9, .int .i64 ((j : Nat) : Int)), (44, .bool (decide (((j : Nat) : Int) < 0)))]) rfl
  refine xt_norm ?_
  by_cases hc8 : ((j : Nat) : Int) < 0
  · first
    | (exfalso; omega)
    | (replace hA := hA.rw 44 (v' := .bool true) rfl (vb_true hc8)
       refine cd_cond_t hA rfl ?_
       refine wp_seq ?_
       refine wp_region_lit ?_
       refine st_run tbOk 3 hA (e' := (4, .int .i64 0) :: (46, .iface 48 (.int .i64 5)) :: (45, .agg #[.int .u64 0, .int .u64 0, .int .u32 0, .int .u16 0, .int .u16 0, .int .u64 0, .int .u32 0, .int .u8 0, .int .u64 0, .int .u64 0, .slice none 0 0]) :: _) rfl ?_; clear hA; intro a hA
       replace hS := hS.front 2 (C := [(b3, rowO [.int .u64 0, .int .u64 0, .int .u32 0, .int .u16 0, .int .u16 0, .int .u64 0, .int .u32 0, .int .u8 0, .int .u64 0, .int .u64 0, .slice none 0 0] 36)]) (L' := [(b, rowO [.slice A es.length c] 27)] :: C :: [(b1, rowO [.int .u64 m0, .int .u64 m1, .int .u32 m2, .int .u16 m3, .int .u16 m4, .int .u64 m5, .int .u32 m6, .int .u8 m7, .int .u64 m8, .int .u64 m9, d] 36)] :: D :: F) rfl rfl
       refine st_store tbOk hA hS [.int .u64 0, .int .u64 0, .int .u32 0, .int .u16 0, .int .u16 0, .int .u64 0, .int .u32 0, .int .u8 0, .int .u64 0, .int .u64 0, .slice none 0 0] [.int .u64 0, .int .u64 0, .int .u32 0, .int .u16 0, .int .u16 0, .int .u64 0, .int .u32 0, .int .u8 0, .int .u64 0, .int .u64 0, .slice none 0 0] rfl rfl rfl rfl rfl rfl (by simp [Value.oneCell']) (Nat.le_of_ble_eq_true rfl) rfl rfl rfl ?_; clear hS; intro w9 hS
       refine st_run tbOk 1 hA (e' := (6, .iface 48 (.int .i64 5)) :: _) rfl ?_; clear hA; intro a hA
       refine wpList_nil ?_
       replace hA := hA.sel [4, 5, 6] (e' := [(4, .int .i64 0), (5, .pointer (some ⟨b3, 0, none⟩)), (6, .iface 48 (.int .i64 5))]) rfl
       refine xt_norm ?_
       refine wp_ret (xt_ret (xt_ret ?_))
       refine rettct tbOk (fn := Tryd.f8) (cs := [.int .u64 0, .int .u64 0, .int .u32 0, .int .u16 0, .int .u16 0, .int .u64 0, .int .u32 0, .int .u8 0, .int .u64 0, .int .u64 0, .slice none 0 0]) hA rfl rfl rfl rfl rfl rfl rfl (cells_row (hS.heapAt 0 rfl) rfl) ?_
       replace hS := hS.drop1
       replace hS := hS.front 2 (C := [(b1, rowO [.int .u64 m0, .int .u64 m1, .int .u32 m2, .int .u16 m3, .int .u16 m4, .int .u64 m5, .int .u32 m6, .int .u8 m7, .int .u64 m8, .int .u64 m9, d] 36)]) (L' := [(b, rowO [.slice A es.length c] 27)] :: C :: D :: F) rfl rfl
       replace hS := hS.drop1
       replace hS := hS.front 1 (C := C) (L' := [(b, rowO [.slice A es.length c] 27)] :: D :: F) rfl rfl
       replace hS := hS.front 1 (C := [(b, rowO [.slice A es.length c] 27)]) (L' := C :: D :: F) rfl rfl
       replace hS := hS.front 2 (C := D) (L' := [(b, rowO [.slice A es.length c] 27)] :: C :: F) rfl rfl
       replace hS := hS.front 2 (C := C) (L' := D :: [(b, rowO [.slice A es.length c] 27)] :: F) rfl rfl
       replace hS := hS.front 2 (C := [(b, rowO [.slice A es.length c] 27)]) (L' := C :: D :: F) rfl rfl
       replace hS := hS.join
       exact ⟨_, ⟨_, _, hO, rfl⟩, rfl, hS⟩)
  · first
    | (exfalso; omega)
    | (replace hA := hA.rw 44 (v' := .bool false) rfl (vb_false hc8)
       refine cd_cond_f hA rfl ?_
       refine wp_skip ?_
       refine xt_norm ?_
       refine wp_region_lit ?_
       refine st_run tbOk 4 hA (e' := (50, .pointer (some ⟨b, 0, none⟩)) :: (49, .pointer (some ⟨b, 0, none⟩)) :: (48, .pointer (some ⟨b, 0, none⟩)) :: (47, .pointer (some ⟨b, 0, none⟩)) :: _) rfl ?_; clear hA; intro a hA
       refine st_val hA rfl rfl (by decide) (rn_load tbOk hA rfl rfl rfl rfl (cell_row (hS.heapAt 0 rfl) rfl)) ?_; clear hA; intro a hA
       refine st_run tbOk 3 hA (e' := (54, .int .i64 (IntKind.i64.wrap (((j : Nat) : Int) + 1))) :: (53, .int .i64 ((j : Nat) : Int)) :: (52, .int .i64 ((j : Nat) : Int)) :: _) rfl ?_; clear hA; intro a hA
       replace hA := hA.rw 54 (v' := .int .i64 ((j + 1 : Nat) : Int)) rfl (wr64 (by omega) (by omega) (by omega))
       replace hS := hS.front 1 (C := C) (L' := [(b, rowO [.slice A es.length c] 27)] :: [(b3, rowO [.int .u64 0, .int .u64 0, .int .u32 0, .int .u16 0, .int .u16 0, .int .u64 0, .int .u32 0, .int .u8 0, .int .u64 0, .int .u64 0, .slice none 0 0] 36)] :: [(b1, rowO [.int .u64 m0, .int .u64 m1, .int .u32 m2, .int .u16 m3, .int .u16 m4, .int .u64 m5, .int .u32 m6, .int .u8 m7, .int .u64 m8, .int .u64 m9, d] 36)] :: D :: F) rfl rfl
       refine st_call0 hA rfl rfl rfl isfn16 rfl rfl (by decide) (delete16 hS hO j (j + 1) (by omega) (by omega)) ?_
       clear hA hS; rintro v10 w11 a ⟨C12, hO12, hS⟩ hA
       obtain ⟨A13, c14, rfl, hmc14, hxc14⟩ := hO12.open'
       refine st_run tbOk 2 hA (e' := (57, .pointer (some ⟨b, 0, none⟩)) :: (56, .pointer (some ⟨b, 0, none⟩)) :: _) rfl ?_; clear hA; intro a hA
       replace hS := hS.front 1 (C := [(b, rowO [.slice A es.length c] 27)]) (L' := C12 :: [(b3, rowO [.int .u64 0, .int .u64 0, .int .u32 0, .int .u16 0, .int .u16 0, .int .u64 0, .int .u32 0, .int .u8 0, .int .u64 0, .int .u64 0, .slice none 0 0] 36)] :: [(b1, rowO [.int .u64 m0, .int .u64 m1, .int .u32 m2, .int .u16 m3, .int .u16 m4, .int .u64 m5, .int .u32 m6, .int .u8 m7, .int .u64 m8, .int .u64 m9, d] 36)] :: D :: F) rfl rfl
       refine st_store tbOk hA hS [.slice A13 ((es.take j ++ es.drop (j + 1)).length) c14] [.slice A13 ((es.take j ++ es.drop (j + 1)).length) c14] rfl rfl rfl rfl rfl rfl (by intro u hu; rw [List.mem_singleton.1 hu]; rfl) (Nat.le_of_ble_eq_true rfl) rfl rfl rfl ?_; clear hS; intro w15 hS
       refine wpList_nil ?_
       replace hA := hA.sel [0, 3, 5] (e' := [(0, .pointer (some ⟨b, 0, none⟩)), (3, .pointer (some ⟨b1, 0, none⟩)), (5, .pointer (some ⟨b3, 0, none⟩))]) rfl
       refine xt_norm ?_
       refine wp_seq ?_
       replace hS := hS.front 1 (C := C12) (L' := [(b, rowO [.slice A13 ((es.take j ++ es.drop (j + 1)).length) c14] 27)] :: [(b3, rowO [.int .u64 0, .int .u64 0, .int .u32 0, .int .u16 0, .int .u16 0, .int .u64 0, .int .u32 0, .int .u8 0, .int .u64 0, .int .u64 0, .slice none 0 0] 36)] :: [(b1, rowO [.int .u64 m0, .int .u64 m1, .int .u32 m2, .int .u16 m3, .int .u16 m4, .int .u64 m5, .int .u32 m6, .int .u8 m7, .int .u64 m8, .int .u64 m9, d] 36)] :: D :: F) rfl rfl
       refine wp_draw (fun w' => St w0 w' ([(b, rowO [.slice A13 ((es.take j ++ es.drop (j + 1)).length) c14] 27)] :: [(b3, rowO [.int .u64 0, .int .u64 0, .int .u32 0, .int .u16 0, .int .u16 0, .int .u64 0, .int .u32 0, .int .u8 0, .int .u64 0, .int .u64 0, .slice none 0 0] 36)] :: [(b1, rowO [.int .u64 m0, .int .u64 m1, .int .u32 m2, .int .u16 m3, .int .u16 m4, .int .u64 m5, .int .u32 m6, .int .u8 m7, .int .u64 m8, .int .u64 m9, d] 36)] :: D :: F)) [14] [(0, true), (1, true), (2, true), (3, true), (4, true), (5, true), (6, true), (7, true), (8, true), (9, true), (10, false), (11, false), (12, true), (13, true), (14, false)] mixed (by kernel_rfl) (by rintro c a w ⟨_, _, h, _⟩; cases h) (by rfl) (by kernel_rfl) ?_
       replace hS := hS.drew
       refine dr_run tbOk 4 hA (hS.tail 1 rfl) (e' := (61, .pointer (some ⟨b, 0, none⟩)) :: (60, .pointer (some ⟨b, 0, none⟩)) :: (59, .pointer (some ⟨b, 0, none⟩)) :: (58, .pointer (some ⟨b, 0, none⟩)) :: _) rfl ?_; clear hA; intro a hA
       refine dr_y hA rfl rfl rfl (by decide) (hS.tail 1 rfl) (fun w' hS' => rn_load tbOk hA rfl rfl rfl rfl (cell_row (hS'.heapAt 0 rfl) rfl)) ?_; clear hA; intro a hA
       refine dr_run tbOk 1 hA (hS.tail 1 rfl) (e' := (63, .pointer (some ⟨b1, 1, none⟩)) :: _) rfl ?_; clear hA; intro a hA
       refine dr_y hA rfl rfl rfl (by decide) (hS.tail 1 rfl) (fun w' hS' => rn_load tbOk hA rfl rfl rfl rfl (cell_row (hS'.heapAt 2 rfl) rfl)) ?_; clear hA; intro a hA
       refine dr_run tbOk 1 hA (hS.tail 1 rfl) (e' := (65, .pointer (some ⟨b1, 2, none⟩)) :: _) rfl ?_; clear hA; intro a hA
       refine dr_y hA rfl rfl rfl (by decide) (hS.tail 1 rfl) (fun w' hS' => rn_load tbOk hA rfl rfl rfl rfl (cell_row (hS'.heapAt 2 rfl) rfl)) ?_; clear hA; intro a hA
       refine dr_run tbOk 1 hA (hS.tail 1 rfl) (e' := (67, .agg #[.int .u64 m1, .int .u32 m2, .int .i64 1, .int .u64 0, .int .u64 0, .int .u32 0, .int .u16 0, .int .u16 0, .int .u64 0, .int .u32 0, .int .u8 0, .int .u64 0, .int .u64 0, .slice none 0 0]) :: _) rfl ?_; clear hA; intro a hA
       refine dr_b (o := _) rfl ?_
       refine st_buildSlice tbOk hA hS [.int .u64 m1, .int .u32 m2, .int .i64 1, .int .u64 0, .int .u64 0, .int .u32 0, .int .u16 0, .int .u16 0, .int .u64 0, .int .u32 0, .int .u8 0, .int .u64 0, .int .u64 0, .slice none 0 0] rfl rfl rfl rfl rfl (by decide) (by kernel_rfl) rfl rfl (by decide) ?_; clear hA hS; intro b16 w17 a hS hA
       refine dr_nil (.inr (hS.tail 2 rfl)) ?_
       refine dr_b (o := _) rfl ?_
       replace hS := hS.front 1 (C := C12) (L' := [(b16, rowO [.int .u64 m1, .int .u32 m2, .int .i64 1, .int .u64 0, .int .u64 0, .int .u32 0, .int .u16 0, .int .u16 0, .int .u64 0, .int .u32 0, .int .u8 0, .int .u64 0, .int .u64 0, .slice none 0 0] 55)] :: [(b, rowO [.slice A13 ((es.take j ++ es.drop (j + 1)).length) c14] 27)] :: [(b3, rowO [.int .u64 0, .int .u64 0, .int .u32 0, .int .u16 0, .int .u16 0, .int .u64 0, .int .u32 0, .int .u8 0, .int .u64 0, .int .u64 0, .slice none 0 0] 36)] :: [(b1, rowO [.int .u64 m0, .int .u64 m1, .int .u32 m2, .int .u16 m3, .int .u16 m4, .int .u64 m5, .int .u32 m6, .int .u8 m7, .int .u64 m8, .int .u64 m9, d] 36)] :: D :: F) rfl rfl
       refine st_append tbOk hA (m := (es.take j ++ es.drop (j + 1)).length) (q := 1) (xs := rows encEntry (es.take j ++ es.drop (j + 1))) (news := rows encEntry ([(m1, m2, 1, 0, 0, 0, 0, 0, 0, 0, 0, 0, 0, none, 0, ([] : List UInt8))] : List (Int × Int × Int × Int × Int × Int × Int × Int × Int × Int × Int × Int × Int × Option Addr × Nat × List UInt8))) rfl rfl rfl rfl rfl rfl rfl rfl (by decide) hO12 hS (((Own.full (T := 55) (size := 14) (g := b16) (m := 1) rfl (by decide)).rd (hS.own_ 1 rfl)).x) (rows_one encEntry_ok _) (maxLen_le (by first | omega | (simp; omega))) (by show ((es.take j ++ es.drop (j + 1)).length + 1) * 104 ≤ 140737488355328; first | omega | (simp; omega)) rfl rfl (by decide) ?_
       clear hA hS; intro v18 w19 C20 a hO20 hS hA
       replace hO20 := Own.app (l := es.take j ++ es.drop (j + 1)) (l2 := ([(m1, m2, 1, 0, 0, 0, 0, 0, 0, 0, 0, 0, 0, none, 0, ([] : List UInt8))] : List (Int × Int × Int × Int × Int × Int × Int × Int × Int × Int × Int × Int × Int × Option Addr × Nat × List UInt8))) hO20
       obtain ⟨A21, c22, rfl, hmc22, hxc22⟩ := hO20.open'
       refine dr_nil (.inr (hS.tail 2 rfl)) ?_
       refine dr_run tbOk 2 hA (hS.tail 2 rfl) (e' := (71, .pointer (some ⟨b, 0, none⟩)) :: (70, .pointer (some ⟨b, 0, none⟩)) :: _) rfl ?_; clear hA; intro a hA
       refine dr_b (o := _) rfl ?_
       replace hS := hS.front 2 (C := [(b, rowO [.slice A13 ((es.take j ++ es.drop (j + 1)).length) c14] 27)]) (L' := C20 :: [(b16, rowO [.int .u64 m1, .int .u32 m2, .int .i64 1, .int .u64 0, .int .u64 0, .int .u32 0, .int .u16 0, .int .u16 0, .int .u64 0, .int .u32 0, .int .u8 0, .int .u64 0, .int .u64 0, .slice none 0 0] 55)] :: [(b3, rowO [.int .u64 0, .int .u64 0, .int .u32 0, .int .u16 0, .int .u16 0, .int .u64 0, .int .u32 0, .int .u8 0, .int .u64 0, .int .u64 0, .slice none 0 0] 36)] :: [(b1, rowO [.int .u64 m0, .int .u64 m1, .int .u32 m2, .int .u16 m3, .int .u16 m4, .int .u64 m5, .int .u32 m6, .int .u8 m7, .int .u64 m8, .int .u64 m9, d] 36)] :: D :: F) rfl rfl
       refine st_store tbOk hA hS [.slice A21 (((es.take j ++ es.drop (j + 1)) ++ ([(m1, m2, 1, 0, 0, 0, 0, 0, 0, 0, 0, 0, 0, none, 0, ([] : List UInt8))] : List (Int × Int × Int × Int × Int × Int × Int × Int × Int × Int × Int × Int × Int × Option Addr × Nat × List UInt8))).length) c22] [.slice A21 (((es.take j ++ es.drop (j + 1)) ++ ([(m1, m2, 1, 0, 0, 0, 0, 0, 0, 0, 0, 0, 0, none, 0, ([] : List UInt8))] : List (Int × Int × Int × Int × Int × Int × Int × Int × Int × Int × Int × Int × Int × Option Addr × Nat × List UInt8))).length) c22] rfl rfl rfl rfl rfl rfl (by intro u hu; rw [List.mem_singleton.1 hu]; rfl) (Nat.le_of_ble_eq_true rfl) rfl rfl rfl ?_; clear hS; intro w23 hS
       refine dr_nil (.inl (by decide)) ?_
       refine dr_end ?_
       replace hA := hA.sel [5] (e' := [(5, .pointer (some ⟨b3, 0, none⟩))]) rfl
       refine xt_norm ?_
       refine wp_seq ?_
       refine wp_region_lit ?_
       refine st_run tbOk 2 hA (e' := (4, .int .i64 0) :: (72, .agg #[.int .u64 0, .int .u64 0, .int .u32 0, .int .u16 0, .int .u16 0, .int .u64 0, .int .u32 0, .int .u8 0, .int .u64 0, .int .u64 0, .slice none 0 0]) :: _) rfl ?_; clear hA; intro a hA
       replace hS := hS.front 3 (C := [(b3, rowO [.int .u64 0, .int .u64 0, .int .u32 0, .int .u16 0, .int .u16 0, .int .u64 0, .int .u32 0, .int .u8 0, .int .u64 0, .int .u64 0, .slice none 0 0] 36)]) (L' := [(b, rowO [.slice A21 (((es.take j ++ es.drop (j + 1)) ++ ([(m1, m2, 1, 0, 0, 0, 0, 0, 0, 0, 0, 0, 0, none, 0, ([] : List UInt8))] : List (Int × Int × Int × Int × Int × Int × Int × Int × Int × Int × Int × Int × Int × Option Addr × Nat × List UInt8))).length) c22] 27)] :: C20 :: [(b16, rowO [.int .u64 m1, .int .u32 m2, .int .i64 1, .int .u64 0, .int .u64 0, .int .u32 0, .int .u16 0, .int .u16 0, .int .u64 0, .int .u32 0, .int .u8 0, .int .u64 0, .int .u64 0, .slice none 0 0] 55)] :: [(b1, rowO [.int .u64 m0, .int .u64 m1, .int .u32 m2, .int .u16 m3, .int .u16 m4, .int .u64 m5, .int .u32 m6, .int .u8 m7, .int .u64 m8, .int .u64 m9, d] 36)] :: D :: F) rfl rfl
       refine st_store tbOk hA hS [.int .u64 0, .int .u64 0, .int .u32 0, .int .u16 0, .int .u16 0, .int .u64 0, .int .u32 0, .int .u8 0, .int .u64 0, .int .u64 0, .slice none 0 0] [.int .u64 0, .int .u64 0, .int .u32 0, .int .u16 0, .int .u16 0, .int .u64 0, .int .u32 0, .int .u8 0, .int .u64 0, .int .u64 0, .slice none 0 0] rfl rfl rfl rfl rfl rfl (by simp [Value.oneCell']) (Nat.le_of_ble_eq_true rfl) rfl rfl rfl ?_; clear hS; intro w24 hS
       refine st_run tbOk 1 hA (e' := (6, .nilIface) :: _) rfl ?_; clear hA; intro a hA
       refine wpList_nil ?_
       replace hA := hA.sel [4, 5, 6] (e' := [(4, .int .i64 0), (5, .pointer (some ⟨b3, 0, none⟩)), (6, .nilIface)]) rfl
       refine xt_norm ?_
       refine wp_ret ?_
       refine rettct tbOk (fn := Tryd.f8) (cs := [.int .u64 0, .int .u64 0, .int .u32 0, .int .u16 0, .int .u16 0, .int .u64 0, .int .u32 0, .int .u8 0, .int .u64 0, .int .u64 0, .slice none 0 0]) hA rfl rfl rfl rfl rfl rfl rfl (cells_row (hS.heapAt 0 rfl) rfl) ?_
       replace hS := hS.drop1
       replace hS := hS.front 2 (C := [(b16, rowO [.int .u64 m1, .int .u32 m2, .int .i64 1, .int .u64 0, .int .u64 0, .int .u32 0, .int .u16 0, .int .u16 0, .int .u64 0, .int .u32 0, .int .u8 0, .int .u64 0, .int .u64 0, .slice none 0 0] 55)]) (L' := [(b, rowO [.slice A21 (((es.take j ++ es.drop (j + 1)) ++ ([(m1, m2, 1, 0, 0, 0, 0, 0, 0, 0, 0, 0, 0, none, 0, ([] : List UInt8))] : List (Int × Int × Int × Int × Int × Int × Int × Int × Int × Int × Int × Int × Int × Option Addr × Nat × List UInt8))).length) c22] 27)] :: C20 :: [(b1, rowO [.int .u64 m0, .int .u64 m1, .int .u32 m2, .int .u16 m3, .int .u16 m4, .int .u64 m5, .int .u32 m6, .int .u8 m7, .int .u64 m8, .int .u64 m9, d] 36)] :: D :: F) rfl rfl
       replace hS := hS.drop1
       replace hS := hS.front 2 (C := [(b1, rowO [.int .u64 m0, .int .u64 m1, .int .u32 m2, .int .u16 m3, .int .u16 m4, .int .u64 m5, .int .u32 m6, .int .u8 m7, .int .u64 m8, .int .u64 m9, d] 36)]) (L' := [(b, rowO [.slice A21 (((es.take j ++ es.drop (j + 1)) ++ ([(m1, m2, 1, 0, 0, 0, 0, 0, 0, 0, 0, 0, 0, none, 0, ([] : List UInt8))] : List (Int × Int × Int × Int × Int × Int × Int × Int × Int × Int × Int × Int × Int × Option Addr × Nat × List UInt8))).length) c22] 27)] :: C20 :: D :: F) rfl rfl
       replace hS := hS.drop1
       replace hS := hS.front 1 (C := C20) (L' := [(b, rowO [.slice A21 (((es.take j ++ es.drop (j + 1)) ++ ([(m1, m2, 1, 0, 0, 0, 0, 0, 0, 0, 0, 0, 0, none, 0, ([] : List UInt8))] : List (Int × Int × Int × Int × Int × Int × Int × Int × Int × Int × Int × Int × Int × Option Addr × Nat × List UInt8))).length) c22] 27)] :: D :: F) rfl rfl
       replace hS := hS.front 1 (C := [(b, rowO [.slice A21 (((es.take j ++ es.drop (j + 1)) ++ ([(m1, m2, 1, 0, 0, 0, 0, 0, 0, 0, 0, 0, 0, none, 0, ([] : List UInt8))] : List (Int × Int × Int × Int × Int × Int × Int × Int × Int × Int × Int × Int × Int × Option Addr × Nat × List UInt8))).length) c22] 27)]) (L' := C20 :: D :: F) rfl rfl
       replace hS := hS.front 2 (C := D) (L' := [(b, rowO [.slice A21 (((es.take j ++ es.drop (j + 1)) ++ ([(m1, m2, 1, 0, 0, 0, 0, 0, 0, 0, 0, 0, 0, none, 0, ([] : List UInt8))] : List (Int × Int × Int × Int × Int × Int × Int × Int × Int × Int × Int × Int × Int × Option Addr × Nat × List UInt8))).length) c22] 27)] :: C20 :: F) rfl rfl
       replace hS := hS.front 2 (C := C20) (L' := D :: [(b, rowO [.slice A21 (((es.take j ++ es.drop (j + 1)) ++ ([(m1, m2, 1, 0, 0, 0, 0, 0, 0, 0, 0, 0, 0, none, 0, ([] : List UInt8))] : List (Int × Int × Int × Int × Int × Int × Int × Int × Int × Int × Int × Int × Int × Option Addr × Nat × List UInt8))).length) c22] 27)] :: F) rfl rfl
       replace hS := hS.front 2 (C := [(b, rowO [.slice A21 (((es.take j ++ es.drop (j + 1)) ++ ([(m1, m2, 1, 0, 0, 0, 0, 0, 0, 0, 0, 0, 0, none, 0, ([] : List UInt8))] : List (Int × Int × Int × Int × Int × Int × Int × Int × Int × Int × Int × Int × Int × Option Addr × Nat × List UInt8))).length) c22] 27)]) (L' := C20 :: D :: F) rfl rfl
       replace hS := hS.join
       exact ⟨_, ⟨_, _, hO20, rfl⟩, rfl, hS⟩)

theorem reply_ok6 {w0 w : World} {F : List Chunk} {L D : Chunk} {b : Nat} {es : List Ent} (hS : St w0 w (L :: D :: F)) (hM : SR b es L) (m0 m1 m2 m3 m4 m5 m6 m7 m8 m9 : Int) (d : Value) (r0 r1 r2 r3 r4 r5 r6 r7 r8 r9 : Int) {d2 : Value} {bs : List UInt8} (hd : RdSX w0 (D :: F) 1 d2 bs.length (rows encB bs)) (hbl : bs.length ≤ 140737488351232) {k : Nat} {x : Ent} (hk : es[k]? = some x) (hkf : fnd m1 m2 x = true) (hkb : ∀ (i : Nat) (y : Ent), i < k → es[i]? = some y → fnd m1 m2 y = false) (hst : x.2.2.1 = 1) (hl : es.length ≤ 1048576) :
    Ret Tryd.prog 6 #[.pointer (some ⟨b, 0, none⟩), .agg #[.int .u64 m0, .int .u64 m1, .int .u32 m2, .int .u16 m3, .int .u16 m4, .int .u64 m5, .int .u32 m6, .int .u8 m7, .int .u64 m8, .int .u64 m9, d], .agg #[.int .u64 r0, .int .u64 r1, .int .u32 r2, .int .u16 r3, .int .u16 r4, .int .u64 r5, .int .u32 r6, .int .u8 r7, .int .u64 r8, .int .u64 r9, d2]] w (fun v w' => ∃ L' E A c, SR b (es.set k (x.1, x.2.1, 2, r0, r1, r2, r3, r4, r5, r6, r7, r8, r9, A, c, bs)) L' ∧ DD w0 E A c bs ∧ v = .bool true ∧ St w0 w' (L' :: (E ++ D) :: F)) := by
  obtain ⟨B, d', rfl, hmd, hdx⟩ := (hd _ (hS.tail 1 rfl)).open'
  have hkl := (List.getElem?_eq_some_iff.1 hk).1
  refine enter (vs := [.pointer (some ⟨b, 0, none⟩), .agg #[.int .u64 m0, .int .u64 m1, .int .u32 m2, .int .u16 m3, .int .u16 m4, .int .u64 m5, .int .u32 m6, .int .u8 m7, .int .u64 m8, .int .u64 m9, d], .agg #[.int .u64 r0, .int .u64 r1, .int .u32 r2, .int .u16 r3, .int .u16 r4, .int .u64 r5, .int .u32 r6, .int .u8 r7, .int .u64 r8, .int .u64 r9, .slice B bs.length d']]) 43 Tryd.func6 rfl rfl (by simp) ?_; intro a hA
  refine wp_seq ?_
  refine wp_region_lit ?_
  refine st_box hA hS [.int .u64 m0, .int .u64 m1, .int .u32 m2, .int .u16 m3, .int .u16 m4, .int .u64 m5, .int .u32 m6, .int .u8 m7, .int .u64 m8, .int .u64 m9, d] rfl rfl rfl rfl rfl (by decide) ?_; clear hA hS; intro b1 w2 a hS hA
  refine st_box hA hS [.int .u64 r0, .int .u64 r1, .int .u32 r2, .int .u16 r3, .int .u16 r4, .int .u64 r5, .int .u32 r6, .int .u8 r7, .int .u64 r8, .int .u64 r9, .slice B bs.length d'] rfl rfl rfl rfl rfl (by decide) ?_; clear hA hS; intro b3 w4 a hS hA
  refine st_run tbOk 1 hA (e' := (6, .bool false) :: _) rfl ?_; clear hA; intro a hA
  refine wpList_nil ?_
  replace hA := hA.sel [0, 4, 5] (e' := [(0, .pointer (some ⟨b, 0, none⟩)), (4, .pointer (some ⟨b1, 0, none⟩)), (5, .pointer (some ⟨b3, 0, none⟩))]) rfl
  refine xt_norm ?_
  refine wp_seq ?_
  refine wp_region_lit ?_
  refine st_run tbOk 1 hA (e' := (8, .pointer (some ⟨b, 0, none⟩)) :: _) rfl ?_; clear hA; intro a hA
  refine st_val hA rfl rfl (by decide) (rn_loadA tbOk hA [.int .u64 m0, .int .u64 m1, .int .u32 m2, .int .u16 m3, .int .u16 m4, .int .u64 m5, .int .u32 m6, .int .u8 m7, .int .u64 m8, .int .u64 m9, d] rfl rfl rfl rfl rfl (cells_row (hS.heapAt 1 rfl) rfl)) ?_; clear hA; intro a hA
  replace hS := hS.front 2 (C := L) (L' := [(b3, rowO [.int .u64 r0, .int .u64 r1, .int .u32 r2, .int .u16 r3, .int .u16 r4, .int .u64 r5, .int .u32 r6, .int .u8 r7, .int .u64 r8, .int .u64 r9, .slice B bs.length d'] 36)] :: [(b1, rowO [.int .u64 m0, .int .u64 m1, .int .u32 m2, .int .u16 m3, .int .u16 m4, .int .u64 m5, .int .u32 m6, .int .u8 m7, .int .u64 m8, .int .u64 m9, d] 36)] :: D :: F) rfl rfl
  refine st_call0 hA rfl rfl rfl isfn12 rfl rfl (by decide) (find12 hS hM m0 m1 m2 m3 m4 m5 m6 m7 m8 m9 _) ?_
  clear hA hS; rintro _ w5 a ⟨L9, hM9, rfl, hS⟩ hA
  have hix := idx_some hk hkf hkb
  replace hA := hA.rw 10 (v' := .int .i64 ((k : Nat) : Int)) rfl (vint hix)
  obtain ⟨v, C, hO, rfl⟩ := hM9
  obtain ⟨A, c, rfl, hmc, hcx⟩ := hO.open'
  replace hS : St w0 w5 ([(b, rowO [.slice A es.length c] 27)] :: C :: [(b3, rowO [.int .u64 r0, .int .u64 r1, .int .u32 r2, .int .u16 r3, .int .u16 r4, .int .u64 r5, .int .u32 r6, .int .u8 r7, .int .u64 r8, .int .u64 r9, .slice B bs.length d'] 36)] :: [(b1, rowO [.int .u64 m0, .int .u64 m1, .int .u32 m2, .int .u16 m3, .int .u16 m4, .int .u64 m5, .int .u32 m6, .int .u8 m7, .int .u64 m8, .int .u64 m9, d] 36)] :: D :: F) := hS.split
  refine st_run tbOk 1 hA (e' := (7, .int .i64 ((k : Nat) : Int)) :: _) rfl ?_; clear hA; intro a hA
  refine wpList_nil ?_
  replace hA := hA.sel [0, 5, 7] (e' := [(0, .pointer (some ⟨b, 0, none⟩)), (5, .pointer (some ⟨b3, 0, none⟩)), (7, .int .i64 ((k : Nat) : Int))]) rfl
  refine xt_norm ?_
  refine wp_seq ?_
  refine wp_seq ?_
  refine wp_region_lit ?_
  obtain ⟨xf0, xf1, xf2, xf3, xf4, xf5, xf6, xf7, xf8, xf9, xf10, xf11, xf12, xA13, xc13, xb13⟩ := x
  refine st_run tbOk 3 hA (e' := (13, .bool (decide (((k : Nat) : Int) < 0))) :: (12, .bool (decide (((k : Nat) : Int) < 0))) :: (11, .int .i64 ((k : Nat) : Int)) :: _) rfl ?_; clear hA; intro a hA
  have hc6 : ¬ (((k : Nat) : Int) < 0) := by omega
  replace hA := hA.rw 12 (v' := .bool false) rfl (vb_false hc6)
  replace hA := hA.rw 13 (v' := .bool false) rfl (vb_false hc6)
  refine st_run tbOk 3 hA (e' := (16, .pointer (some ⟨b, 0, none⟩)) :: (15, .pointer (some ⟨b, 0, none⟩)) :: (14, .pointer (some ⟨b, 0, none⟩)) :: _) rfl ?_; clear hA; intro a hA
  refine st_val hA rfl rfl (by decide) (rn_load tbOk hA rfl rfl rfl rfl (cell_row (hS.heapAt 0 rfl) rfl)) ?_; clear hA; intro a hA
  refine st_run tbOk 1 hA (e' := (18, .int .i64 ((k : Nat) : Int)) :: _) rfl ?_; clear hA; intro a hA
  obtain ⟨b7, o8, rfl⟩ := hO.isSome (k := k) (by omega)
  refine st_val hA rfl rfl (by decide) (rn_indexAddr tbOk hA k (o8 + (k * 14)) rfl rfl rfl rfl rfl rfl (by rfl) (by omega) (by first | rfl | simp [Nat.mul_one, Nat.zero_add] | omega)) ?_; clear hA; intro a hA
  refine st_run tbOk 1 hA (e' := (20, .pointer (some ⟨b7, o8 + (k * 14) + 2, none⟩)) :: _) rfl ?_; clear hA; intro a hA
  refine st_val hA rfl rfl (by decide) (rn_load tbOk hA rfl rfl rfl rfl ((hO.rd (hS.own_ 1 rfl)).elemf (k := k) encEntry_ok hk (j := 2) rfl)) ?_; clear hA; intro a hA
  refine st_run tbOk 2 hA (e' := (23, .bool (xf2 != 1)) :: (22, .bool (xf2 != 1)) :: _) rfl ?_; clear hA; intro a hA
  refine wpList_nil ?_
  replace hA := hA.sel [0, 5, 7, 23] (e' := [(0, .pointer (some ⟨b, 0, none⟩)), (5, .pointer (some ⟨b3, 0, none⟩)), (7, .int .i64 ((k : Nat) : Int)), (23, .bool (xf2 != 1))]) rfl
  refine xt_norm ?_
  have hc9 : xf2 = 1 := hst
  replace hA := hA.rw 23 (v' := .bool false) rfl (vb_ne_f hc9)
  refine cd_cond_f hA rfl ?_
  refine wp_skip ?_
  refine xt_norm ?_
  refine wp_seq ?_
  refine wp_region_lit ?_
  refine st_run tbOk 1 hA (e' := (24, .pointer (some ⟨b3, 10, none⟩)) :: _) rfl ?_; clear hA; intro a hA
  refine st_val hA rfl rfl (by decide) (rn_load tbOk hA rfl rfl rfl rfl (cell_row (hS.heapAt 2 rfl) rfl)) ?_; clear hA; intro a hA
  refine st_call0 hA rfl rfl rfl isfn13 rfl rfl (by decide) (clonex13 hS (l := bs) (fun w' h => (hd _ (h.tail 4 rfl))) (by first | omega | (simp; omega))) ?_
  clear hA hS; rintro _ w13 a ⟨A10, c11, C12, hOC12, rfl, hS⟩ hA
  refine st_run tbOk 1 hA (e' := (27, .pointer (some ⟨b3, 10, none⟩)) :: _) rfl ?_; clear hA; intro a hA
  replace hS := hS.front 3 (C := [(b3, rowO [.int .u64 r0, .int .u64 r1, .int .u32 r2, .int .u16 r3, .int .u16 r4, .int .u64 r5, .int .u32 r6, .int .u8 r7, .int .u64 r8, .int .u64 r9, .slice B bs.length d'] 36)]) (L' := C12 :: [(b, rowO [.slice (some ⟨b7, o8, none⟩) es.length c] 27)] :: C :: [(b1, rowO [.int .u64 m0, .int .u64 m1, .int .u32 m2, .int .u16 m3, .int .u16 m4, .int .u64 m5, .int .u32 m6, .int .u8 m7, .int .u64 m8, .int .u64 m9, d] 36)] :: D :: F) rfl rfl
  refine st_store tbOk hA hS [.slice A10 bs.length c11] [.int .u64 r0, .int .u64 r1, .int .u32 r2, .int .u16 r3, .int .u16 r4, .int .u64 r5, .int .u32 r6, .int .u8 r7, .int .u64 r8, .int .u64 r9, .slice A10 bs.length c11] rfl rfl rfl rfl rfl rfl (by intro u hu; rw [List.mem_singleton.1 hu]; rfl) (Nat.le_of_ble_eq_true rfl) rfl rfl rfl ?_; clear hS; intro w14 hS
  refine wpList_nil ?_
  replace hA := hA.sel [0, 5, 7] (e' := [(0, .pointer (some ⟨b, 0, none⟩)), (5, .pointer (some ⟨b3, 0, none⟩)), (7, .int .i64 ((k : Nat) : Int))]) rfl
  refine xt_norm ?_
  refine wp_seq ?_
  replace hS := hS.front 3 (C := C) (L' := [(b3, rowO [.int .u64 r0, .int .u64 r1, .int .u32 r2, .int .u16 r3, .int .u16 r4, .int .u64 r5, .int .u32 r6, .int .u8 r7, .int .u64 r8, .int .u64 r9, .slice A10 bs.length c11] 36)] :: C12 :: [(b, rowO [.slice (some ⟨b7, o8, none⟩) es.length c] 27)] :: [(b1, rowO [.int .u64 m0, .int .u64 m1, .int .u32 m2, .int .u16 m3, .int .u16 m4, .int .u64 m5, .int .u32 m6, .int .u8 m7, .int .u64 m8, .int .u64 m9, d] 36)] :: D :: F) rfl rfl
  refine wp_draw (fun w' => St w0 w' ([(b3, rowO [.int .u64 r0, .int .u64 r1, .int .u32 r2, .int .u16 r3, .int .u16 r4, .int .u64 r5, .int .u32 r6, .int .u8 r7, .int .u64 r8, .int .u64 r9, .slice A10 bs.length c11] 36)] :: C12 :: [(b, rowO [.slice (some ⟨b7, o8, none⟩) es.length c] 27)] :: [(b1, rowO [.int .u64 m0, .int .u64 m1, .int .u32 m2, .int .u16 m3, .int .u16 m4, .int .u64 m5, .int .u32 m6, .int .u8 m7, .int .u64 m8, .int .u64 m9, d] 36)] :: D :: F)) [] [(0, true), (1, true), (2, true), (3, true), (4, true), (5, true), (6, true), (7, true), (8, true), (9, true), (10, true), (11, true), (12, true), (13, false), (14, true), (15, true), (16, false)] mixed (by kernel_rfl) (by rintro c a w ⟨_, _, h, _⟩; cases h) (by rfl) (by kernel_rfl) ?_
  replace hS := hS.drew
  refine dr_run tbOk 3 hA (hS.tail 1 rfl) (e' := (30, .pointer (some ⟨b, 0, none⟩)) :: (29, .pointer (some ⟨b, 0, none⟩)) :: (28, .pointer (some ⟨b, 0, none⟩)) :: _) rfl ?_; clear hA; intro a hA
  refine dr_y hA rfl rfl rfl (by decide) (hS.tail 1 rfl) (fun w' hS' => rn_load tbOk hA rfl rfl rfl rfl (cell_row (hS'.heapAt 2 rfl) rfl)) ?_; clear hA; intro a hA
  refine dr_run tbOk 4 hA (hS.tail 1 rfl) (e' := (35, .pointer (some ⟨b, 0, none⟩)) :: (34, .pointer (some ⟨b, 0, none⟩)) :: (33, .pointer (some ⟨b, 0, none⟩)) :: (32, .int .i64 ((k : Nat) : Int)) :: _) rfl ?_; clear hA; intro a hA
  refine dr_y hA rfl rfl rfl (by decide) (hS.tail 1 rfl) (fun w' hS' => rn_load tbOk hA rfl rfl rfl rfl (cell_row (hS'.heapAt 2 rfl) rfl)) ?_; clear hA; intro a hA
  refine dr_run tbOk 1 hA (hS.tail 1 rfl) (e' := (37, .int .i64 ((k : Nat) : Int)) :: _) rfl ?_; clear hA; intro a hA
  refine dr_y hA rfl rfl rfl (by decide) (hS.tail 1 rfl) (fun w' hS' => rn_loadA tbOk hA [.int .u64 r0, .int .u64 r1, .int .u32 r2, .int .u16 r3, .int .u16 r4, .int .u64 r5, .int .u32 r6, .int .u8 r7, .int .u64 r8, .int .u64 r9, .slice A10 bs.length c11] rfl rfl rfl rfl rfl (cells_row (hS'.heapAt 0 rfl) rfl)) ?_; clear hA; intro a hA
  refine dr_y hA rfl rfl rfl (by decide) (hS.tail 1 rfl) (fun w' hS' => rn_indexAddr tbOk hA k (o8 + (k * 14)) rfl rfl rfl rfl rfl rfl (by rfl) (by omega) (by first | rfl | simp [Nat.mul_one, Nat.zero_add] | omega)) ?_; clear hA; intro a hA
  refine dr_run tbOk 1 hA (hS.tail 1 rfl) (e' := (40, .pointer (some ⟨b7, o8 + (k * 14) + 2, none⟩)) :: _) rfl ?_; clear hA; intro a hA
  refine dr_b (o := _) rfl ?_
  refine st_store_own tbOk hA hO hS ((k * 14) + 2) (o8 + (k * 14) + 2) [.int .i64 2] (rows encEntry (es.set k (xf0, xf1, 2, xf3, xf4, xf5, xf6, xf7, xf8, xf9, xf10, xf11, xf12, xA13, xc13, xb13))) rfl rfl rfl rfl (by rfl) rfl rfl (by intro u hu; first | (rw [List.mem_singleton.1 hu]; rfl) | (simp only [List.mem_cons, List.not_mem_nil, or_false] at hu; rcases hu with rfl <;> rfl)) (by simp only [rows_length encEntry_ok]; simp; omega) (rows_setf encEntry_ok (xf0, xf1, 2, xf3, xf4, xf5, xf6, xf7, xf8, xf9, xf10, xf11, xf12, xA13, xc13, xb13) (hk) 2 [.int .i64 2] (Nat.le_of_ble_eq_true rfl) rfl) rfl rfl ?_; clear hS; intro w15 C16 hO16 hS
  refine dr_nil (.inr (hS.tail 1 rfl)) ?_
  refine dr_y hA rfl rfl rfl (by decide) (hS.tail 1 rfl) (fun w' hS' => rn_indexAddr tbOk hA k (o8 + (k * 14)) rfl rfl rfl rfl rfl rfl (by rfl) (by omega) (by first | rfl | simp [Nat.mul_one, Nat.zero_add] | omega)) ?_; clear hA; intro a hA
  refine dr_run tbOk 1 hA (hS.tail 1 rfl) (e' := (42, .pointer (some ⟨b7, o8 + (k * 14) + 3, none⟩)) :: _) rfl ?_; clear hA; intro a hA
  refine dr_b (o := _) rfl ?_
  refine st_store_own tbOk hA hO16 hS ((k * 14) + 3) (o8 + (k * 14) + 3) [.int .u64 r0, .int .u64 r1, .int .u32 r2, .int .u16 r3, .int .u16 r4, .int .u64 r5, .int .u32 r6, .int .u8 r7, .int .u64 r8, .int .u64 r9, .slice A10 bs.length c11] (rows encEntry ((es.set k (xf0, xf1, 2, xf3, xf4, xf5, xf6, xf7, xf8, xf9, xf10, xf11, xf12, xA13, xc13, xb13)).set k (xf0, xf1, 2, r0, r1, r2, r3, r4, r5, r6, r7, r8, r9, A10, c11, bs))) rfl rfl rfl rfl (by rfl) rfl rfl (by intro u hu; first | (rw [List.mem_singleton.1 hu]; rfl) | (simp only [List.mem_cons, List.not_mem_nil, or_false] at hu; rcases hu with rfl | rfl | rfl | rfl | rfl | rfl | rfl | rfl | rfl | rfl | rfl <;> rfl)) (by simp only [rows_length encEntry_ok]; simp; omega) (rows_setf encEntry_ok (xf0, xf1, 2, r0, r1, r2, r3, r4, r5, r6, r7, r8, r9, A10, c11, bs) ((List.getElem?_set_self hkl)) 3 [.int .u64 r0, .int .u64 r1, .int .u32 r2, .int .u16 r3, .int .u16 r4, .int .u64 r5, .int .u32 r6, .int .u8 r7, .int .u64 r8, .int .u64 r9, .slice A10 bs.length c11] (Nat.le_of_ble_eq_true rfl) rfl) rfl rfl ?_; clear hS; intro w17 C18 hO18 hS
  refine dr_nil (.inr (hS.tail 1 rfl)) ?_
  refine dr_end ?_
  replace hA := hA.sel [] (e' := []) rfl
  refine xt_norm ?_
  refine wp_seq ?_
  refine wp_region_lit ?_
  refine st_run tbOk 1 hA (e' := (6, .bool true) :: _) rfl ?_; clear hA; intro a hA
  refine wpList_nil ?_
  refine xt_norm ?_
  refine wp_ret ?_
  refine ret1 (fn := Tryd.f6) hA rfl rfl ?_
  have hss : (es.set k (xf0, xf1, 2, xf3, xf4, xf5, xf6, xf7, xf8, xf9, xf10, xf11, xf12, xA13, xc13, xb13)).set k (xf0, xf1, 2, r0, r1, r2, r3, r4, r5, r6, r7, r8, r9, A10, c11, bs) = es.set k (xf0, xf1, 2, r0, r1, r2, r3, r4, r5, r6, r7, r8, r9, A10, c11, bs) := by rw [List.set_set]
  rw [hss] at hO18
  replace hS := hS.front 1 (C := [(b3, rowO [.int .u64 r0, .int .u64 r1, .int .u32 r2, .int .u16 r3, .int .u16 r4, .int .u64 r5, .int .u32 r6, .int .u8 r7, .int .u64 r8, .int .u64 r9, .slice A10 bs.length c11] 36)]) (L' := C18 :: C12 :: [(b, rowO [.slice (some ⟨b7, o8, none⟩) es.length c] 27)] :: [(b1, rowO [.int .u64 m0, .int .u64 m1, .int .u32 m2, .int .u16 m3, .int .u16 m4, .int .u64 m5, .int .u32 m6, .int .u8 m7, .int .u64 m8, .int .u64 m9, d] 36)] :: D :: F) rfl rfl
  replace hS := hS.drop1
  replace hS := hS.front 3 (C := [(b1, rowO [.int .u64 m0, .int .u64 m1, .int .u32 m2, .int .u16 m3, .int .u16 m4, .int .u64 m5, .int .u32 m6, .int .u8 m7, .int .u64 m8, .int .u64 m9, d] 36)]) (L' := C18 :: C12 :: [(b, rowO [.slice (some ⟨b7, o8, none⟩) es.length c] 27)] :: D :: F) rfl rfl
  replace hS := hS.drop1
  replace hS := hS.front 2 (C := [(b, rowO [.slice (some ⟨b7, o8, none⟩) es.length c] 27)]) (L' := C18 :: C12 :: D :: F) rfl rfl
  replace hS := hS.front 3 (C := D) (L' := [(b, rowO [.slice (some ⟨b7, o8, none⟩) es.length c] 27)] :: C18 :: C12 :: F) rfl rfl
  replace hS := hS.front 3 (C := C12) (L' := D :: [(b, rowO [.slice (some ⟨b7, o8, none⟩) es.length c] 27)] :: C18 :: F) rfl rfl
  replace hS := hS.join
  replace hS := hS.front 2 (C := C18) (L' := (C12 ++ D) :: [(b, rowO [.slice (some ⟨b7, o8, none⟩) es.length c] 27)] :: F) rfl rfl
  replace hS := hS.front 2 (C := [(b, rowO [.slice (some ⟨b7, o8, none⟩) es.length c] 27)]) (L' := C18 :: (C12 ++ D) :: F) rfl rfl
  replace hS := hS.join
  exact ⟨_, _, _, _, ⟨_, _, (by rw [List.length_set]; exact hO18), rfl⟩, DD.new hOC12, rfl, hS⟩

theorem reply_state6 {w0 w : World} {F : List Chunk} {L D : Chunk} {b : Nat} {es : List Ent} (hS : St w0 w (L :: D :: F)) (hM : SR b es L) (m0 m1 m2 m3 m4 m5 m6 m7 m8 m9 : Int) (d : Value) (r0 r1 r2 r3 r4 r5 r6 r7 r8 r9 : Int) (d2 : Value) {k : Nat} {x : Ent} (hk : es[k]? = some x) (hkf : fnd m1 m2 x = true) (hkb : ∀ (i : Nat) (y : Ent), i < k → es[i]? = some y → fnd m1 m2 y = false) (hst : ¬ x.2.2.1 = 1) (hl : es.length ≤ 1048576) :
    Ret Tryd.prog 6 #[.pointer (some ⟨b, 0, none⟩), .agg #[.int .u64 m0, .int .u64 m1, .int .u32 m2, .int .u16 m3, .int .u16 m4, .int .u64 m5, .int .u32 m6, .int .u8 m7, .int .u64 m8, .int .u64 m9, d], .agg #[.int .u64 r0, .int .u64 r1, .int .u32 r2, .int .u16 r3, .int .u16 r4, .int .u64 r5, .int .u32 r6, .int .u8 r7, .int .u64 r8, .int .u64 r9, d2]] w (fun v w' => ∃ L', SR b es L' ∧ v = .bool false ∧ St w0 w' (L' :: D :: F)) := by
  have hkl := (List.getElem?_eq_some_iff.1 hk).1
  refine enter (vs := [.pointer (some ⟨b, 0, none⟩), .agg #[.int .u64 m0, .int .u64 m1, .int .u32 m2, .int .u16 m3, .int .u16 m4, .int .u64 m5, .int .u32 m6, .int .u8 m7, .int .u64 m8, .int .u64 m9, d], .agg #[.int .u64 r0, .int .u64 r1, .int .u32 r2, .int .u16 r3, .int .u16 r4, .int .u64 r5, .int .u32 r6, .int .u8 r7, .int .u64 r8, .int .u64 r9, d2]]) 43 Tryd.func6 rfl rfl (by simp) ?_; intro a hA
  refine wp_seq ?_
  refine wp_region_lit ?_
  refine st_box hA hS [.int .u64 m0, .int .u64 m1, .int .u32 m2, .int .u16 m3, .int .u16 m4, .int .u64 m5, .int .u32 m6, .int .u8 m7, .int .u64 m8, .int .u64 m9, d] rfl rfl rfl rfl rfl (by decide) ?_; clear hA hS; intro b1 w2 a hS hA
  refine st_box hA hS [.int .u64 r0, .int .u64 r1, .int .u32 r2, .int .u16 r3, .int .u16 r4, .int .u64 r5, .int .u32 r6, .int .u8 r7, .int .u64 r8, .int .u64 r9, d2] rfl rfl rfl rfl rfl (by decide) ?_; clear hA hS; intro b3 w4 a hS hA
  refine st_run tbOk 1 hA (e' := (6, .bool false) :: _) rfl ?_; clear hA; intro a hA
  refine wpList_nil ?_
  replace hA := hA.sel [0, 4, 5] (e' := [(0, .pointer (some ⟨b, 0, none⟩)), (4, .pointer (some ⟨b1, 0, none⟩)), (5, .pointer (some ⟨b3, 0, none⟩))]) rfl
  refine xt_norm ?_
  refine wp_seq ?_
  refine wp_region_lit ?_
  refine st_run tbOk 1 hA (e' := (8, .pointer (some ⟨b, 0, none⟩)) :: _) rfl ?_; clear hA; intro a hA
  refine st_val hA rfl rfl (by decide) (rn_loadA tbOk hA [.int .u64 m0, .int .u64 m1, .int .u32 m2, .int .u16 m3, .int .u16 m4, .int .u64 m5, .int .u32 m6, .int .u8 m7, .int .u64 m8, .int .u64 m9, d] rfl rfl rfl rfl rfl (cells_row (hS.heapAt 1 rfl) rfl)) ?_; clear hA; intro a hA
  replace hS := hS.front 2 (C := L) (L' := [(b3, rowO [.int .u64 r0, .int .u64 r1, .int .u32 r2, .int .u16 r3, .int .u16 r4, .int .u64 r5, .int .u32 r6, .int .u8 r7, .int .u64 r8, .int .u64 r9, d2] 36)] :: [(b1, rowO [.int .u64 m0, .int .u64 m1, .int .u32 m2, .int .u16 m3, .int .u16 m4, .int .u64 m5, .int .u32 m6, .int .u8 m7, .int .u64 m8, .int .u64 m9, d] 36)] :: D :: F) rfl rfl
  refine st_call0 hA rfl rfl rfl isfn12 rfl rfl (by decide) (find12 hS hM m0 m1 m2 m3 m4 m5 m6 m7 m8 m9 _) ?_
  clear hA hS; rintro _ w5 a ⟨L9, hM9, rfl, hS⟩ hA
  have hix := idx_some hk hkf hkb
  replace hA := hA.rw 10 (v' := .int .i64 ((k : Nat) : Int)) rfl (vint hix)
  obtain ⟨v, C, hO, rfl⟩ := hM9
  obtain ⟨A, c, rfl, hmc, hcx⟩ := hO.open'
  replace hS : St w0 w5 ([(b, rowO [.slice A es.length c] 27)] :: C :: [(b3, rowO [.int .u64 r0, .int .u64 r1, .int .u32 r2, .int .u16 r3, .int .u16 r4, .int .u64 r5, .int .u32 r6, .int .u8 r7, .int .u64 r8, .int .u64 r9, d2] 36)] :: [(b1, rowO [.int .u64 m0, .int .u64 m1, .int .u32 m2, .int .u16 m3, .int .u16 m4, .int .u64 m5, .int .u32 m6, .int .u8 m7, .int .u64 m8, .int .u64 m9, d] 36)] :: D :: F) := hS.split
  refine st_run tbOk 1 hA (e' := (7, .int .i64 ((k : Nat) : Int)) :: _) rfl ?_; clear hA; intro a hA
  refine wpList_nil ?_
  replace hA := hA.sel [0, 5, 7] (e' := [(0, .pointer (some ⟨b, 0, none⟩)), (5, .pointer (some ⟨b3, 0, none⟩)), (7, .int .i64 ((k : Nat) : Int))]) rfl
  refine xt_norm ?_
  refine wp_seq ?_
  refine wp_seq ?_
  refine wp_region_lit ?_
  obtain ⟨xf0, xf1, xf2, xf3, xf4, xf5, xf6, xf7, xf8, xf9, xf10, xf11, xf12, xA13, xc13, xb13⟩ := x
  refine st_run tbOk 3 hA (e' := (13, .bool (decide (((k : Nat) : Int) < 0))) :: (12, .bool (decide (((k : Nat) : Int) < 0))) :: (11, .int .i64 ((k : Nat) : Int)) :: _) rfl ?_; clear hA; intro a hA
  have hc6 : ¬ (((k : Nat) : Int) < 0) := by omega
  replace hA := hA.rw 12 (v' := .bool false) rfl (vb_false hc6)
  replace hA := hA.rw 13 (v' := .bool false) rfl (vb_false hc6)
  refine st_run tbOk 3 hA (e' := (16, .pointer (some ⟨b, 0, none⟩)) :: (15, .pointer (some ⟨b, 0, none⟩)) :: (14, .pointer (some ⟨b, 0, none⟩)) :: _) rfl ?_; clear hA; intro a hA
  refine st_val hA rfl rfl (by decide) (rn_load tbOk hA rfl rfl rfl rfl (cell_row (hS.heapAt 0 rfl) rfl)) ?_; clear hA; intro a hA
  refine st_run tbOk 1 hA (e' := (18, .int .i64 ((k : Nat) : Int)) :: _) rfl ?_; clear hA; intro a hA
  obtain ⟨b7, o8, rfl⟩ := hO.isSome (k := k) (by omega)
  refine st_val hA rfl rfl (by decide) (rn_indexAddr tbOk hA k (o8 + (k * 14)) rfl rfl rfl rfl rfl rfl (by rfl) (by omega) (by first | rfl | simp [Nat.mul_one, Nat.zero_add] | omega)) ?_; clear hA; intro a hA
  refine st_run tbOk 1 hA (e' := (20, .pointer (some ⟨b7, o8 + (k * 14) + 2, none⟩)) :: _) rfl ?_; clear hA; intro a hA
  refine st_val hA rfl rfl (by decide) (rn_load tbOk hA rfl rfl rfl rfl ((hO.rd (hS.own_ 1 rfl)).elemf (k := k) encEntry_ok hk (j := 2) rfl)) ?_; clear hA; intro a hA
  refine st_run tbOk 2 hA (e' := (23, .bool (xf2 != 1)) :: (22, .bool (xf2 != 1)) :: _) rfl ?_; clear hA; intro a hA
  refine wpList_nil ?_
  replace hA := hA.sel [0, 5, 7, 23] (e' := [(0, .pointer (some ⟨b, 0, none⟩)), (5, .pointer (some ⟨b3, 0, none⟩)), (7, .int .i64 ((k : Nat) : Int)), (23, .bool (xf2 != 1))]) rfl
  refine xt_norm ?_
  have hc9 : ¬ (xf2 = 1) := hst
  replace hA := hA.rw 23 (v' := .bool true) rfl (vb_ne_t hc9)
  refine cd_cond_t hA rfl ?_
  refine wp_seq ?_
  refine wp_region_lit ?_
  refine st_run tbOk 1 hA (e' := (6, .bool false) :: _) rfl ?_; clear hA; intro a hA
  refine wpList_nil ?_
  replace hA := hA.sel [6] (e' := [(6, .bool false)]) rfl
  refine xt_norm ?_
  refine wp_ret (xt_ret ?_)
  refine ret1 (fn := Tryd.f6) hA rfl rfl ?_
  replace hS := hS.front 2 (C := [(b3, rowO [.int .u64 r0, .int .u64 r1, .int .u32 r2, .int .u16 r3, .int .u16 r4, .int .u64 r5, .int .u32 r6, .int .u8 r7, .int .u64 r8, .int .u64 r9, d2] 36)]) (L' := [(b, rowO [.slice (some ⟨b7, o8, none⟩) es.length c] 27)] :: C :: [(b1, rowO [.int .u64 m0, .int .u64 m1, .int .u32 m2, .int .u16 m3, .int .u16 m4, .int .u64 m5, .int .u32 m6, .int .u8 m7, .int .u64 m8, .int .u64 m9, d] 36)] :: D :: F) rfl rfl
  replace hS := hS.drop1
  replace hS := hS.front 2 (C := [(b1, rowO [.int .u64 m0, .int .u64 m1, .int .u32 m2, .int .u16 m3, .int .u16 m4, .int .u64 m5, .int .u32 m6, .int .u8 m7, .int .u64 m8, .int .u64 m9, d] 36)]) (L' := [(b, rowO [.slice (some ⟨b7, o8, none⟩) es.length c] 27)] :: C :: D :: F) rfl rfl
  replace hS := hS.drop1
  replace hS := hS.front 1 (C := C) (L' := [(b, rowO [.slice (some ⟨b7, o8, none⟩) es.length c] 27)] :: D :: F) rfl rfl
  replace hS := hS.front 1 (C := [(b, rowO [.slice (some ⟨b7, o8, none⟩) es.length c] 27)]) (L' := C :: D :: F) rfl rfl
  replace hS := hS.front 2 (C := D) (L' := [(b, rowO [.slice (some ⟨b7, o8, none⟩) es.length c] 27)] :: C :: F) rfl rfl
  replace hS := hS.front 2 (C := C) (L' := D :: [(b, rowO [.slice (some ⟨b7, o8, none⟩) es.length c] 27)] :: F) rfl rfl
  replace hS := hS.front 2 (C := [(b, rowO [.slice (some ⟨b7, o8, none⟩) es.length c] 27)]) (L' := C :: D :: F) rfl rfl
  replace hS := hS.join
  exact ⟨_, ⟨_, _, hO, rfl⟩, rfl, hS⟩

theorem reply_none6 {w0 w : World} {F : List Chunk} {L D : Chunk} {b : Nat} {es : List Ent} (hS : St w0 w (L :: D :: F)) (hM : SR b es L) (m0 m1 m2 m3 m4 m5 m6 m7 m8 m9 : Int) (d : Value) (r0 r1 r2 r3 r4 r5 r6 r7 r8 r9 : Int) (d2 : Value) (hno : ∀ (i : Nat) (y : Ent), es[i]? = some y → fnd m1 m2 y = false) :
    Ret Tryd.prog 6 #[.pointer (some ⟨b, 0, none⟩), .agg #[.int .u64 m0, .int .u64 m1, .int .u32 m2, .int .u16 m3, .int .u16 m4, .int .u64 m5, .int .u32 m6, .int .u8 m7, .int .u64 m8, .int .u64 m9, d], .agg #[.int .u64 r0, .int .u64 r1, .int .u32 r2, .int .u16 r3, .int .u16 r4, .int .u64 r5, .int .u32 r6, .int .u8 r7, .int .u64 r8, .int .u64 r9, d2]] w (fun v w' => ∃ L', SR b es L' ∧ v = .bool false ∧ St w0 w' (L' :: D :: F)) := by
  refine enter (vs := [.pointer (some ⟨b, 0, none⟩), .agg #[.int .u64 m0, .int .u64 m1, .int .u32 m2, .int .u16 m3, .int .u16 m4, .int .u64 m5, .int .u32 m6, .int .u8 m7, .int .u64 m8, .int .u64 m9, d], .agg #[.int .u64 r0, .int .u64 r1, .int .u32 r2, .int .u16 r3, .int .u16 r4, .int .u64 r5, .int .u32 r6, .int .u8 r7, .int .u64 r8, .int .u64 r9, d2]]) 43 Tryd.func6 rfl rfl (by simp) ?_; intro a hA
  refine wp_seq ?_
  refine wp_region_lit ?_
  refine st_box hA hS [.int .u64 m0, .int .u64 m1, .int .u32 m2, .int .u16 m3, .int .u16 m4, .int .u64 m5, .int .u32 m6, .int .u8 m7, .int .u64 m8, .int .u64 m9, d] rfl rfl rfl rfl rfl (by decide) ?_; clear hA hS; intro b1 w2 a hS hA
  refine st_box hA hS [.int .u64 r0, .int .u64 r1, .int .u32 r2, .int .u16 r3, .int .u16 r4, .int .u64 r5, .int .u32 r6, .int .u8 r7, .int .u64 r8, .int .u64 r9, d2] rfl rfl rfl rfl rfl (by decide) ?_; clear hA hS; intro b3 w4 a hS hA
  refine st_run tbOk 1 hA (e' := (6, .bool false) :: _) rfl ?_; clear hA; intro a hA
  refine wpList_nil ?_
  replace hA := hA.sel [0, 4, 5] (e' := [(0, .pointer (some ⟨b, 0, none⟩)), (4, .pointer (some ⟨b1, 0, none⟩)), (5, .pointer (some ⟨b3, 0, none⟩))]) rfl
  refine xt_norm ?_
  refine wp_seq ?_
  refine wp_region_lit ?_
  refine st_run tbOk 1 hA (e' := (8, .pointer (some ⟨b, 0, none⟩)) :: _) rfl ?_; clear hA; intro a hA
  refine st_val hA rfl rfl (by decide) (rn_loadA tbOk hA [.int .u64 m0, .int .u64 m1, .int .u32 m2, .int .u16 m3, .int .u16 m4, .int .u64 m5, .int .u32 m6, .int .u8 m7, .int .u64 m8, .int .u64 m9, d] rfl rfl rfl rfl rfl (cells_row (hS.heapAt 1 rfl) rfl)) ?_; clear hA; intro a hA
  replace hS := hS.front 2 (C := L) (L' := [(b3, rowO [.int .u64 r0, .int .u64 r1, .int .u32 r2, .int .u16 r3, .int .u16 r4, .int .u64 r5, .int .u32 r6, .int .u8 r7, .int .u64 r8, .int .u64 r9, d2] 36)] :: [(b1, rowO [.int .u64 m0, .int .u64 m1, .int .u32 m2, .int .u16 m3, .int .u16 m4, .int .u64 m5, .int .u32 m6, .int .u8 m7, .int .u64 m8, .int .u64 m9, d] 36)] :: D :: F) rfl rfl
  refine st_call0 hA rfl rfl rfl isfn12 rfl rfl (by decide) (find12 hS hM m0 m1 m2 m3 m4 m5 m6 m7 m8 m9 _) ?_
  clear hA hS; rintro _ w5 a ⟨L9, hM9, rfl, hS⟩ hA
  have hix := idx_none hno
  replace hA := hA.rw 10 (v' := .int .i64 (-1)) rfl (vint hix)
  obtain ⟨v, C, hO, rfl⟩ := hM9
  obtain ⟨A, c, rfl, hmc, hcx⟩ := hO.open'
  replace hS : St w0 w5 ([(b, rowO [.slice A es.length c] 27)] :: C :: [(b3, rowO [.int .u64 r0, .int .u64 r1, .int .u32 r2, .int .u16 r3, .int .u16 r4, .int .u64 r5, .int .u32 r6, .int .u8 r7, .int .u64 r8, .int .u64 r9, d2] 36)] :: [(b1, rowO [.int .u64 m0, .int .u64 m1, .int .u32 m2, .int .u16 m3, .int .u16 m4, .int .u64 m5, .int .u32 m6, .int .u8 m7, .int .u64 m8, .int .u64 m9, d] 36)] :: D :: F) := hS.split
  refine st_run tbOk 1 hA (e' := (7, .int .i64 (-1)) :: _) rfl ?_; clear hA; intro a hA
  refine wpList_nil ?_
  replace hA := hA.sel [0, 5, 7] (e' := [(0, .pointer (some ⟨b, 0, none⟩)), (5, .pointer (some ⟨b3, 0, none⟩)), (7, .int .i64 (-1))]) rfl
  refine xt_norm ?_
  refine wp_seq ?_
  refine wp_seq ?_
  refine wp_region_lit ?_
  refine st_run tbOk 13 hA (e' := (23, .bool true) :: (22, undef) :: (21, undef) :: (20, undef) :: (19, undef) :: (18, undef) :: (17, undef) :: (16, undef) :: (15, undef) :: (14, undef) :: (13, .bool true) :: (12, .bool true) :: (11, .int .i64 (-1)) :: _) rfl ?_; clear hA; intro a hA
  refine wpList_nil ?_
  replace hA := hA.sel [0, 5, 7, 23] (e' := [(0, .pointer (some ⟨b, 0, none⟩)), (5, .pointer (some ⟨b3, 0, none⟩)), (7, .int .i64 (-1)), (23, .bool true)]) rfl
  refine xt_norm ?_
  refine cd_cond_t hA rfl ?_
  refine wp_seq ?_
  refine wp_region_lit ?_
  refine st_run tbOk 1 hA (e' := (6, .bool false) :: _) rfl ?_; clear hA; intro a hA
  refine wpList_nil ?_
  replace hA := hA.sel [6] (e' := [(6, .bool false)]) rfl
  refine xt_norm ?_
  refine wp_ret (xt_ret ?_)
  refine ret1 (fn := Tryd.f6) hA rfl rfl ?_
  replace hS := hS.front 2 (C := [(b3, rowO [.int .u64 r0, .int .u64 r1, .int .u32 r2, .int .u16 r3, .int .u16 r4, .int .u64 r5, .int .u32 r6, .int .u8 r7, .int .u64 r8, .int .u64 r9, d2] 36)]) (L' := [(b, rowO [.slice A es.length c] 27)] :: C :: [(b1, rowO [.int .u64 m0, .int .u64 m1, .int .u32 m2, .int .u16 m3, .int .u16 m4, .int .u64 m5, .int .u32 m6, .int .u8 m7, .int .u64 m8, .int .u64 m9, d] 36)] :: D :: F) rfl rfl
  replace hS := hS.drop1
  replace hS := hS.front 2 (C := [(b1, rowO [.int .u64 m0, .int .u64 m1, .int .u32 m2, .int .u16 m3, .int .u16 m4, .int .u64 m5, .int .u32 m6, .int .u8 m7, .int .u64 m8, .int .u64 m9, d] 36)]) (L' := [(b, rowO [.slice A es.length c] 27)] :: C :: D :: F) rfl rfl
  replace hS := hS.drop1
  replace hS := hS.front 1 (C := C) (L' := [(b, rowO [.slice A es.length c] 27)] :: D :: F) rfl rfl
  replace hS := hS.front 1 (C := [(b, rowO [.slice A es.length c] 27)]) (L' := C :: D :: F) rfl rfl
  replace hS := hS.front 2 (C := D) (L' := [(b, rowO [.slice A es.length c] 27)] :: C :: F) rfl rfl
  replace hS := hS.front 2 (C := C) (L' := D :: [(b, rowO [.slice A es.length c] 27)] :: F) rfl rfl
  replace hS := hS.front 2 (C := [(b, rowO [.slice A es.length c] 27)]) (L' := C :: D :: F) rfl rfl
  replace hS := hS.join
  exact ⟨_, ⟨_, _, hO, rfl⟩, rfl, hS⟩

theorem slen11 {w0 w : World} {F : List Chunk} {L D : Chunk} {b : Nat} {es : List Ent} (hS : St w0 w (L :: D :: F)) (hM : SR b es L)  :
    Ret Tryd.prog 11 #[.pointer (some ⟨b, 0, none⟩)] w (fun v w' => ∃ L', SR b es L' ∧ v = .int .i64 ((es.length : Nat) : Int) ∧ St w0 w' (L' :: D :: F)) := by
  obtain ⟨v, C, hO, rfl⟩ := hM
  obtain ⟨A, c, rfl, hmc, hcx⟩ := hO.open'
  replace hS : St w0 w ([(b, rowO [.slice A es.length c] 27)] :: C :: D :: F) := hS.split
  refine enter (vs := [.pointer (some ⟨b, 0, none⟩)]) 8 Tryd.func11 rfl rfl (by simp) ?_; intro a hA
  refine wp_seq ?_
  refine wp_region_lit ?_
  refine st_run tbOk 1 hA (e' := (2, .int .i64 0) :: _) rfl ?_; clear hA; intro a hA
  refine wpList_nil ?_
  replace hA := hA.sel [0] (e' := [(0, .pointer (some ⟨b, 0, none⟩))]) rfl
  refine xt_norm ?_
  refine wp_seq ?_
  refine wp_region_lit ?_
  refine st_run tbOk 3 hA (e' := (5, .pointer (some ⟨b, 0, none⟩)) :: (4, .pointer (some ⟨b, 0, none⟩)) :: (3, .pointer (some ⟨b, 0, none⟩)) :: _) rfl ?_; clear hA; intro a hA
  refine st_val hA rfl rfl (by decide) (rn_load tbOk hA rfl rfl rfl rfl (cell_row (hS.heapAt 0 rfl) rfl)) ?_; clear hA; intro a hA
  refine st_run tbOk 2 hA (e' := (2, .int .i64 ((es.length : Nat) : Int)) :: (7, .int .i64 ((es.length : Nat) : Int)) :: _) rfl ?_; clear hA; intro a hA
  refine wpList_nil ?_
  replace hA := hA.sel [2] (e' := [(2, .int .i64 ((es.length : Nat) : Int))]) rfl
  refine xt_norm ?_
  refine wp_ret ?_
  refine ret1 (fn := Tryd.f11) hA rfl rfl ?_
  replace hS := hS.front 1 (C := C) (L' := [(b, rowO [.slice A es.length c] 27)] :: D :: F) rfl rfl
  replace hS := hS.front 1 (C := [(b, rowO [.slice A es.length c] 27)]) (L' := C :: D :: F) rfl rfl
  replace hS := hS.front 2 (C := D) (L' := [(b, rowO [.slice A es.length c] 27)] :: C :: F) rfl rfl
  replace hS := hS.front 2 (C := C) (L' := D :: [(b, rowO [.slice A es.length c] 27)] :: F) rfl rfl
  replace hS := hS.front 2 (C := [(b, rowO [.slice A es.length c] 27)]) (L' := C :: D :: F) rfl rfl
  replace hS := hS.join
  exact ⟨_, ⟨_, _, hO, rfl⟩, rfl, hS⟩

def sbd (es : List Ent) : Prop := ∀ x ∈ es, (x.2.2.2.2.2.2.2.2.2.2.2.2.2.2.2).length ≤ 140737488351232
theorem sbd.nil : sbd [] := fun x h => by simp at h
theorem sbd.add {es : List Ent} (h : sbd es) {a0 a1 a2 a3 a4 a5 a6 a7 a8 a9 a10 a11 a12 : Int} {A : Option Addr} {c : Nat} : sbd (es ++ [(a0, a1, a2, a3, a4, a5, a6, a7, a8, a9, a10, a11, a12, A, c, [])]) := fun y hy => by
  rcases List.mem_append.1 hy with hy | hy
  · exact h y hy
  · rw [List.mem_singleton.1 hy]; exact Nat.zero_le _
theorem sbd.set {es : List Ent} (h : sbd es) {k : Nat} {x : Ent} (hx : (x.2.2.2.2.2.2.2.2.2.2.2.2.2.2.2).length ≤ 140737488351232) : sbd (es.set k x) := fun y hy => by
  rcases List.mem_or_eq_of_mem_set hy with hy | rfl
  · exact h y hy
  · exact hx
theorem nodd {w0 : World} {D : Chunk} : ∀ x ∈ ([] : List Ent), encEntry_dd w0 D x := fun x h => by simp at h
theorem wrap_u64_ne (x : Int) (h0 : 0 ≤ x) (h1 : x < 18446744073709551616) : ¬ IntKind.u64.wrap (x + 1) = x ∧ 0 ≤ IntKind.u64.wrap (x + 1) := by
  have : IntKind.u64.wrap (x + 1) = (x + 1) % 18446744073709551616 := by unfold IntKind.wrap; simp [IntKind.min, IntKind.max, IntKind.bits, IntKind.signed]
  omega
theorem wrap_u32_ne (x : Int) (h0 : 0 ≤ x) (h1 : x < 4294967296) : ¬ IntKind.u32.wrap (x + 1) = x := by
  have : IntKind.u32.wrap (x + 1) = (x + 1) % 4294967296 := by unfold IntKind.wrap; simp [IntKind.min, IntKind.max, IntKind.bits, IntKind.signed]
  omega
theorem fnd_yes {rp id : Int} {x : Ent} (h1 : x.1 = rp) (h2 : x.2.1 = id) : fnd rp id x = true := by simp [fnd, h1, h2]
theorem fnd_no {rp id : Int} {x : Ent} (h : ¬ (x.1 = rp ∧ x.2.1 = id)) : fnd rp id x = false := by
  rw [Bool.eq_false_iff]; intro e; simp [fnd] at e; exact h e
theorem one_no {rp id : Int} {e : Ent} (h : ¬ (e.1 = rp ∧ e.2.1 = id)) : ∀ (i : Nat) (y : Ent), [e][i]? = some y → fnd rp id y = false := fun i y hy => by
  have hm := List.mem_of_getElem? hy
  rw [List.mem_singleton.1 hm]; exact fnd_no h
theorem fst_no {rp id : Int} {e f : Ent} (h : ¬ (e.1 = rp ∧ e.2.1 = id)) : ∀ (i : Nat) (y : Ent), i < 1 → [e, f][i]? = some y → fnd rp id y = false := fun i y hi hy => by
  obtain rfl : i = 0 := by omega
  have hy2 : some e = some y := hy
  injection hy2 with hy3; subst hy3; exact fnd_no h

theorem same04_9 {w0 w : World} {F : List Chunk} (hS : St w0 w F) (x0 x1 x2 x3 x4 x5 x6 x7 x8 x9 y0 y1 y2 y3 y4 y5 y6 y7 y8 y9 : Int) {d1 d2 : Value} {bs cs : List UInt8} (h1 : RdSX w0 F 1 d1 bs.length (rows encB bs)) (h2 : RdSX w0 F 1 d2 cs.length (rows encB cs)) :
    Ret Tryd.prog 9 #[.agg #[.int .u64 x0, .int .u64 x1, .int .u32 x2, .int .u16 x3, .int .u16 x4, .int .u64 x5, .int .u32 x6, .int .u8 x7, .int .u64 x8, .int .u64 x9, d1], .agg #[.int .u64 y0, .int .u64 y1, .int .u32 y2, .int .u16 y3, .int .u16 y4, .int .u64 y5, .int .u32 y6, .int .u8 y7, .int .u64 y8, .int .u64 y9, d2]] w (fun v w' => v = .bool (decide (x0 = y0 ∧ x1 = y1 ∧ x2 = y2 ∧ x3 = y3 ∧ x4 = y4 ∧ (x5 = y5 ∧ x6 = y6 ∧ x7 = y7 ∧ x8 = y8) ∧ x9 = y9 ∧ bs = cs)) ∧ St w0 w' F) := by
  obtain ⟨A, c, rfl, hmc, hcx⟩ := (h1 w hS).open'
  obtain ⟨B, d, rfl, hmd, hdx⟩ := (h2 w hS).open'
  refine enter (vs := [.agg #[.int .u64 x0, .int .u64 x1, .int .u32 x2, .int .u16 x3, .int .u16 x4, .int .u64 x5, .int .u32 x6, .int .u8 x7, .int .u64 x8, .int .u64 x9, .slice A bs.length c], .agg #[.int .u64 y0, .int .u64 y1, .int .u32 y2, .int .u16 y3, .int .u16 y4, .int .u64 y5, .int .u32 y6, .int .u8 y7, .int .u64 y8, .int .u64 y9, .slice B cs.length d]]) 61 Tryd.func9 rfl rfl (by simp) ?_; intro a hA
  refine wp_seq ?_
  refine wp_region_lit ?_
  refine st_box hA hS [.int .u64 x0, .int .u64 x1, .int .u32 x2, .int .u16 x3, .int .u16 x4, .int .u64 x5, .int .u32 x6, .int .u8 x7, .int .u64 x8, .int .u64 x9, .slice A bs.length c] rfl rfl rfl rfl rfl (by decide) ?_; clear hA hS; intro b1 w2 a hS hA
  refine st_box hA hS [.int .u64 y0, .int .u64 y1, .int .u32 y2, .int .u16 y3, .int .u16 y4, .int .u64 y5, .int .u32 y6, .int .u8 y7, .int .u64 y8, .int .u64 y9, .slice B cs.length d] rfl rfl rfl rfl rfl (by decide) ?_; clear hA hS; intro b3 w4 a hS hA
  refine st_run tbOk 1 hA (e' := (4, .bool false) :: _) rfl ?_; clear hA; intro a hA
  refine wpList_nil ?_
  replace hA := hA.sel [2, 3] (e' := [(2, .pointer (some ⟨b1, 0, none⟩)), (3, .pointer (some ⟨b3, 0, none⟩))]) rfl
  refine xt_norm ?_
  refine wp_seq ?_
  refine wp_region_lit ?_
  refine st_run tbOk 1 hA (e' := (5, .pointer (some ⟨b1, 0, none⟩)) :: _) rfl ?_; clear hA; intro a hA
  refine st_val hA rfl rfl (by decide) (rn_load tbOk hA rfl rfl rfl rfl (cell_row (hS.heapAt 1 rfl) rfl)) ?_; clear hA; intro a hA
  refine st_run tbOk 1 hA (e' := (7, .pointer (some ⟨b3, 0, none⟩)) :: _) rfl ?_; clear hA; intro a hA
  refine st_val hA rfl rfl (by decide) (rn_load tbOk hA rfl rfl rfl rfl (cell_row (hS.heapAt 0 rfl) rfl)) ?_; clear hA; intro a hA
  refine st_run tbOk 2 hA (e' := (10, .bool (x0 == y0)) :: (9, .bool (x0 == y0)) :: _) rfl ?_; clear hA; intro a hA
  by_cases hc5 : x0 = y0
  · replace hA := hA.rw 9 (v' := .bool true) rfl (vb_eq_t hc5)
    replace hA := hA.rw 10 (v' := .bool true) rfl (vb_eq_t hc5)
    refine st_run tbOk 1 hA (e' := (11, .pointer (some ⟨b1, 1, none⟩)) :: _) rfl ?_; clear hA; intro a hA
    refine st_val hA rfl rfl (by decide) (rn_load tbOk hA rfl rfl rfl rfl (cell_row (hS.heapAt 1 rfl) rfl)) ?_; clear hA; intro a hA
    refine st_run tbOk 1 hA (e' := (13, .pointer (some ⟨b3, 1, none⟩)) :: _) rfl ?_; clear hA; intro a hA
    refine st_val hA rfl rfl (by decide) (rn_load tbOk hA rfl rfl rfl rfl (cell_row (hS.heapAt 0 rfl) rfl)) ?_; clear hA; intro a hA
    refine st_run tbOk 3 hA (e' := (17, .bool (x1 == y1)) :: (16, .bool (x1 == y1)) :: (15, .bool (x1 == y1)) :: _) rfl ?_; clear hA; intro a hA
    by_cases hc6 : x1 = y1
    · replace hA := hA.rw 15 (v' := .bool true) rfl (vb_eq_t hc6)
      replace hA := hA.rw 16 (v' := .bool true) rfl (vb_eq_t hc6)
      replace hA := hA.rw 17 (v' := .bool true) rfl (vb_eq_t hc6)
      refine st_run tbOk 1 hA (e' := (18, .pointer (some ⟨b1, 2, none⟩)) :: _) rfl ?_; clear hA; intro a hA
      refine st_val hA rfl rfl (by decide) (rn_load tbOk hA rfl rfl rfl rfl (cell_row (hS.heapAt 1 rfl) rfl)) ?_; clear hA; intro a hA
      refine st_run tbOk 1 hA (e' := (20, .pointer (some ⟨b3, 2, none⟩)) :: _) rfl ?_; clear hA; intro a hA
      refine st_val hA rfl rfl (by decide) (rn_load tbOk hA rfl rfl rfl rfl (cell_row (hS.heapAt 0 rfl) rfl)) ?_; clear hA; intro a hA
      refine st_run tbOk 3 hA (e' := (24, .bool (x2 == y2)) :: (23, .bool (x2 == y2)) :: (22, .bool (x2 == y2)) :: _) rfl ?_; clear hA; intro a hA
      by_cases hc7 : x2 = y2
      · replace hA := hA.rw 22 (v' := .bool true) rfl (vb_eq_t hc7)
        replace hA := hA.rw 23 (v' := .bool true) rfl (vb_eq_t hc7)
        replace hA := hA.rw 24 (v' := .bool true) rfl (vb_eq_t hc7)
        refine st_run tbOk 1 hA (e' := (25, .pointer (some ⟨b1, 3, none⟩)) :: _) rfl ?_; clear hA; intro a hA
        refine st_val hA rfl rfl (by decide) (rn_load tbOk hA rfl rfl rfl rfl (cell_row (hS.heapAt 1 rfl) rfl)) ?_; clear hA; intro a hA
        refine st_run tbOk 1 hA (e' := (27, .pointer (some ⟨b3, 3, none⟩)) :: _) rfl ?_; clear hA; intro a hA
        refine st_val hA rfl rfl (by decide) (rn_load tbOk hA rfl rfl rfl rfl (cell_row (hS.heapAt 0 rfl) rfl)) ?_; clear hA; intro a hA
        refine st_run tbOk 3 hA (e' := (31, .bool (x3 == y3)) :: (30, .bool (x3 == y3)) :: (29, .bool (x3 == y3)) :: _) rfl ?_; clear hA; intro a hA
        by_cases hc8 : x3 = y3
        · replace hA := hA.rw 29 (v' := .bool true) rfl (vb_eq_t hc8)
          replace hA := hA.rw 30 (v' := .bool true) rfl (vb_eq_t hc8)
          replace hA := hA.rw 31 (v' := .bool true) rfl (vb_eq_t hc8)
          refine st_run tbOk 1 hA (e' := (32, .pointer (some ⟨b1, 4, none⟩)) :: _) rfl ?_; clear hA; intro a hA
          refine st_val hA rfl rfl (by decide) (rn_load tbOk hA rfl rfl rfl rfl (cell_row (hS.heapAt 1 rfl) rfl)) ?_; clear hA; intro a hA
          refine st_run tbOk 1 hA (e' := (34, .pointer (some ⟨b3, 4, none⟩)) :: _) rfl ?_; clear hA; intro a hA
          refine st_val hA rfl rfl (by decide) (rn_load tbOk hA rfl rfl rfl rfl (cell_row (hS.heapAt 0 rfl) rfl)) ?_; clear hA; intro a hA
          refine st_run tbOk 3 hA (e' := (38, .bool (x4 == y4)) :: (37, .bool (x4 == y4)) :: (36, .bool (x4 == y4)) :: _) rfl ?_; clear hA; intro a hA
          by_cases hc9 : x4 = y4
          · replace hA := hA.rw 36 (v' := .bool true) rfl (vb_eq_t hc9)
            replace hA := hA.rw 37 (v' := .bool true) rfl (vb_eq_t hc9)
            replace hA := hA.rw 38 (v' := .bool true) rfl (vb_eq_t hc9)
            refine st_run tbOk 1 hA (e' := (39, .pointer (some ⟨b1, 5, none⟩)) :: _) rfl ?_; clear hA; intro a hA
            refine st_val hA rfl rfl (by decide) (rn_loadA tbOk hA [.int .u64 x5, .int .u32 x6, .int .u8 x7, .int .u64 x8] rfl rfl rfl rfl rfl (cells_row (hS.heapAt 1 rfl) rfl)) ?_; clear hA; intro a hA
            refine st_run tbOk 1 hA (e' := (41, .pointer (some ⟨b3, 5, none⟩)) :: _) rfl ?_; clear hA; intro a hA
            refine st_val hA rfl rfl (by decide) (rn_loadA tbOk hA [.int .u64 y5, .int .u32 y6, .int .u8 y7, .int .u64 y8] rfl rfl rfl rfl rfl (cells_row (hS.heapAt 0 rfl) rfl)) ?_; clear hA; intro a hA
            refine st_val hA rfl rfl (by decide) (rn_eqA tbOk hA rfl rfl rfl rfl rfl (by kernel_rfl) (by kernel_rfl) rfl) ?_; clear hA; intro a hA
            replace hA := hA.rw 43 (v' := .bool (decide (x5 = y5 ∧ x6 = y6 ∧ x7 = y7 ∧ x8 = y8))) rfl (congrArg Value.bool (by rw [Bool.eq_iff_iff]; simp))
            refine st_run tbOk 2 hA (e' := (45, .bool (decide (x5 = y5 ∧ x6 = y6 ∧ x7 = y7 ∧ x8 = y8))) :: (44, .bool (decide (x5 = y5 ∧ x6 = y6 ∧ x7 = y7 ∧ x8 = y8))) :: _) rfl ?_; clear hA; intro a hA
            by_cases hc10 : x5 = y5 ∧ x6 = y6 ∧ x7 = y7 ∧ x8 = y8
            · replace hA := hA.rw 43 (v' := .bool true) rfl (vb_true hc10)
              replace hA := hA.rw 44 (v' := .bool true) rfl (vb_true hc10)
              replace hA := hA.rw 45 (v' := .bool true) rfl (vb_true hc10)
              refine st_run tbOk 1 hA (e' := (46, .pointer (some ⟨b1, 9, none⟩)) :: _) rfl ?_; clear hA; intro a hA
              refine st_val hA rfl rfl (by decide) (rn_load tbOk hA rfl rfl rfl rfl (cell_row (hS.heapAt 1 rfl) rfl)) ?_; clear hA; intro a hA
              refine st_run tbOk 1 hA (e' := (48, .pointer (some ⟨b3, 9, none⟩)) :: _) rfl ?_; clear hA; intro a hA
              refine st_val hA rfl rfl (by decide) (rn_load tbOk hA rfl rfl rfl rfl (cell_row (hS.heapAt 0 rfl) rfl)) ?_; clear hA; intro a hA
              refine st_run tbOk 3 hA (e' := (52, .bool (x9 == y9)) :: (51, .bool (x9 == y9)) :: (50, .bool (x9 == y9)) :: _) rfl ?_; clear hA; intro a hA
              by_cases hc11 : x9 = y9
              · replace hA := hA.rw 50 (v' := .bool true) rfl (vb_eq_t hc11)
                replace hA := hA.rw 51 (v' := .bool true) rfl (vb_eq_t hc11)
                replace hA := hA.rw 52 (v' := .bool true) rfl (vb_eq_t hc11)
                refine st_run tbOk 1 hA (e' := (53, .pointer (some ⟨b1, 10, none⟩)) :: _) rfl ?_; clear hA; intro a hA
                refine st_val hA rfl rfl (by decide) (rn_load tbOk hA rfl rfl rfl rfl (cell_row (hS.heapAt 1 rfl) rfl)) ?_; clear hA; intro a hA
                refine st_val hA rfl rfl (by decide) (rn_bstr tbOk hA (bs := bs) rfl rfl rfl rfl rfl rfl rfl rfl (h1 _ (hS.tail 2 rfl))) ?_; clear hA; intro a hA
                refine st_run tbOk 1 hA (e' := (56, .pointer (some ⟨b3, 10, none⟩)) :: _) rfl ?_; clear hA; intro a hA
                refine st_val hA rfl rfl (by decide) (rn_load tbOk hA rfl rfl rfl rfl (cell_row (hS.heapAt 0 rfl) rfl)) ?_; clear hA; intro a hA
                refine st_val hA rfl rfl (by decide) (rn_bstr tbOk hA (bs := cs) rfl rfl rfl rfl rfl rfl rfl rfl (h2 _ (hS.tail 2 rfl))) ?_; clear hA; intro a hA
                refine st_run tbOk 1 hA (e' := (59, .bool ((bsv bs).toList == (bsv cs).toList)) :: _) rfl ?_; clear hA; intro a hA
                replace hA := hA.rw 59 (v' := .bool (decide (bs = cs))) rfl (congrArg Value.bool (bsv_eq _ _))
                refine st_run tbOk 2 hA (e' := (4, .bool (decide (bs = cs))) :: (60, .bool (decide (bs = cs))) :: _) rfl ?_; clear hA; intro a hA
                refine wpList_nil ?_
                replace hA := hA.sel [4] (e' := [(4, .bool (decide (bs = cs)))]) rfl
                refine xt_norm ?_
                refine wp_ret ?_
                refine ret1 (fn := Tryd.f9) hA rfl rfl ?_
                replace hS := hS.drop1
                replace hS := hS.drop1
                exact ⟨congrArg Value.bool (decide_eq_decide.2 ⟨fun h => ⟨by assumption, by assumption, by assumption, by assumption, by assumption, by assumption, by assumption, h⟩, fun h => h.2.2.2.2.2.2.2⟩), hS⟩
              · replace hA := hA.rw 50 (v' := .bool false) rfl (vb_eq_f hc11)
                replace hA := hA.rw 51 (v' := .bool false) rfl (vb_eq_f hc11)
                replace hA := hA.rw 52 (v' := .bool false) rfl (vb_eq_f hc11)
                refine st_run tbOk 7 hA (e' := (59, undef) :: (58, undef) :: (57, undef) :: (56, undef) :: (55, undef) :: (54, undef) :: (53, undef) :: _) rfl ?_; clear hA; intro a hA
                refine st_run tbOk 2 hA (e' := (4, .bool false) :: (60, .bool false) :: _) rfl ?_; clear hA; intro a hA
                refine wpList_nil ?_
                replace hA := hA.sel [4] (e' := [(4, .bool false)]) rfl
                refine xt_norm ?_
                refine wp_ret ?_
                refine ret1 (fn := Tryd.f9) hA rfl rfl ?_
                replace hS := hS.drop1
                replace hS := hS.drop1
                exact ⟨congrArg Value.bool (decide_eq_false (fun h => by first | exact absurd h.1 (by assumption) | exact absurd h.2.1 (by assumption) | exact absurd h.2.2.1 (by assumption) | exact absurd h.2.2.2.1 (by assumption) | exact absurd h.2.2.2.2.1 (by assumption) | exact absurd h.2.2.2.2.2.1 (by assumption) | exact absurd h.2.2.2.2.2.2.1 (by assumption) | exact absurd h.2.2.2.2.2.2.2 (by assumption))).symm, hS⟩
            · replace hA := hA.rw 43 (v' := .bool false) rfl (vb_false hc10)
              replace hA := hA.rw 44 (v' := .bool false) rfl (vb_false hc10)
              replace hA := hA.rw 45 (v' := .bool false) rfl (vb_false hc10)
              refine st_run tbOk 14 hA (e' := (59, undef) :: (58, undef) :: (57, undef) :: (56, undef) :: (55, undef) :: (54, undef) :: (53, undef) :: (52, .bool false) :: (51, .bool false) :: (50, undef) :: (49, undef) :: (48, undef) :: (47, undef) :: (46, undef) :: _) rfl ?_; clear hA; intro a hA
              refine st_run tbOk 2 hA (e' := (4, .bool false) :: (60, .bool false) :: _) rfl ?_; clear hA; intro a hA
              refine wpList_nil ?_
              replace hA := hA.sel [4] (e' := [(4, .bool false)]) rfl
              refine xt_norm ?_
              refine wp_ret ?_
              refine ret1 (fn := Tryd.f9) hA rfl rfl ?_
              replace hS := hS.drop1
              replace hS := hS.drop1
              exact ⟨congrArg Value.bool (decide_eq_false (fun h => by first | exact absurd h.1 (by assumption) | exact absurd h.2.1 (by assumption) | exact absurd h.2.2.1 (by assumption) | exact absurd h.2.2.2.1 (by assumption) | exact absurd h.2.2.2.2.1 (by assumption) | exact absurd h.2.2.2.2.2.1 (by assumption) | exact absurd h.2.2.2.2.2.2.1 (by assumption) | exact absurd h.2.2.2.2.2.2.2 (by assumption))).symm, hS⟩
          · replace hA := hA.rw 36 (v' := .bool false) rfl (vb_eq_f hc9)
            replace hA := hA.rw 37 (v' := .bool false) rfl (vb_eq_f hc9)
            replace hA := hA.rw 38 (v' := .bool false) rfl (vb_eq_f hc9)
            refine st_run tbOk 5 hA (e' := (43, undef) :: (42, undef) :: (41, undef) :: (40, undef) :: (39, undef) :: _) rfl ?_; clear hA; intro a hA
            refine st_run tbOk 16 hA (e' := (59, undef) :: (58, undef) :: (57, undef) :: (56, undef) :: (55, undef) :: (54, undef) :: (53, undef) :: (52, .bool false) :: (51, .bool false) :: (50, undef) :: (49, undef) :: (48, undef) :: (47, undef) :: (46, undef) :: (45, .bool false) :: (44, .bool false) :: _) rfl ?_; clear hA; intro a hA
            refine st_run tbOk 2 hA (e' := (4, .bool false) :: (60, .bool false) :: _) rfl ?_; clear hA; intro a hA
            refine wpList_nil ?_
            replace hA := hA.sel [4] (e' := [(4, .bool false)]) rfl
            refine xt_norm ?_
            refine wp_ret ?_
            refine ret1 (fn := Tryd.f9) hA rfl rfl ?_
            replace hS := hS.drop1
            replace hS := hS.drop1
            exact ⟨congrArg Value.bool (decide_eq_false (fun h => by first | exact absurd h.1 (by assumption) | exact absurd h.2.1 (by assumption) | exact absurd h.2.2.1 (by assumption) | exact absurd h.2.2.2.1 (by assumption) | exact absurd h.2.2.2.2.1 (by assumption) | exact absurd h.2.2.2.2.2.1 (by assumption) | exact absurd h.2.2.2.2.2.2.1 (by assumption) | exact absurd h.2.2.2.2.2.2.2 (by assumption))).symm, hS⟩
        · replace hA := hA.rw 29 (v' := .bool false) rfl (vb_eq_f hc8)
          replace hA := hA.rw 30 (v' := .bool false) rfl (vb_eq_f hc8)
          replace hA := hA.rw 31 (v' := .bool false) rfl (vb_eq_f hc8)
          refine st_run tbOk 12 hA (e' := (43, undef) :: (42, undef) :: (41, undef) :: (40, undef) :: (39, undef) :: (38, .bool false) :: (37, .bool false) :: (36, undef) :: (35, undef) :: (34, undef) :: (33, undef) :: (32, undef) :: _) rfl ?_; clear hA; intro a hA
          refine st_run tbOk 16 hA (e' := (59, undef) :: (58, undef) :: (57, undef) :: (56, undef) :: (55, undef) :: (54, undef) :: (53, undef) :: (52, .bool false) :: (51, .bool false) :: (50, undef) :: (49, undef) :: (48, undef) :: (47, undef) :: (46, undef) :: (45, .bool false) :: (44, .bool false) :: _) rfl ?_; clear hA; intro a hA
          refine st_run tbOk 2 hA (e' := (4, .bool false) :: (60, .bool false) :: _) rfl ?_; clear hA; intro a hA
          refine wpList_nil ?_
          replace hA := hA.sel [4] (e' := [(4, .bool false)]) rfl
          refine xt_norm ?_
          refine wp_ret ?_
          refine ret1 (fn := Tryd.f9) hA rfl rfl ?_
          replace hS := hS.drop1
          replace hS := hS.drop1
          exact ⟨congrArg Value.bool (decide_eq_false (fun h => by first | exact absurd h.1 (by assumption) | exact absurd h.2.1 (by assumption) | exact absurd h.2.2.1 (by assumption) | exact absurd h.2.2.2.1 (by assumption) | exact absurd h.2.2.2.2.1 (by assumption) | exact absurd h.2.2.2.2.2.1 (by assumption) | exact absurd h.2.2.2.2.2.2.1 (by assumption) | exact absurd h.2.2.2.2.2.2.2 (by assumption))).symm, hS⟩
      · replace hA := hA.rw 22 (v' := .bool false) rfl (vb_eq_f hc7)
        replace hA := hA.rw 23 (v' := .bool false) rfl (vb_eq_f hc7)
        replace hA := hA.rw 24 (v' := .bool false) rfl (vb_eq_f hc7)
        refine st_run tbOk 19 hA (e' := (43, undef) :: (42, undef) :: (41, undef) :: (40, undef) :: (39, undef) :: (38, .bool false) :: (37, .bool false) :: (36, undef) :: (35, undef) :: (34, undef) :: (33, undef) :: (32, undef) :: (31, .bool false) :: (30, .bool false) :: (29, undef) :: (28, undef) :: (27, undef) :: (26, undef) :: (25, undef) :: _) rfl ?_; clear hA; intro a hA
        refine st_run tbOk 16 hA (e' := (59, undef) :: (58, undef) :: (57, undef) :: (56, undef) :: (55, undef) :: (54, undef) :: (53, undef) :: (52, .bool false) :: (51, .bool false) :: (50, undef) :: (49, undef) :: (48, undef) :: (47, undef) :: (46, undef) :: (45, .bool false) :: (44, .bool false) :: _) rfl ?_; clear hA; intro a hA
        refine st_run tbOk 2 hA (e' := (4, .bool false) :: (60, .bool false) :: _) rfl ?_; clear hA; intro a hA
        refine wpList_nil ?_
        replace hA := hA.sel [4] (e' := [(4, .bool false)]) rfl
        refine xt_norm ?_
        refine wp_ret ?_
        refine ret1 (fn := Tryd.f9) hA rfl rfl ?_
        replace hS := hS.drop1
        replace hS := hS.drop1
        exact ⟨congrArg Value.bool (decide_eq_false (fun h => by first | exact absurd h.1 (by assumption) | exact absurd h.2.1 (by assumption) | exact absurd h.2.2.1 (by assumption) | exact absurd h.2.2.2.1 (by assumption) | exact absurd h.2.2.2.2.1 (by assumption) | exact absurd h.2.2.2.2.2.1 (by assumption) | exact absurd h.2.2.2.2.2.2.1 (by assumption) | exact absurd h.2.2.2.2.2.2.2 (by assumption))).symm, hS⟩
    · replace hA := hA.rw 15 (v' := .bool false) rfl (vb_eq_f hc6)
      replace hA := hA.rw 16 (v' := .bool false) rfl (vb_eq_f hc6)
      replace hA := hA.rw 17 (v' := .bool false) rfl (vb_eq_f hc6)
      refine st_run tbOk 26 hA (e' := (43, undef) :: (42, undef) :: (41, undef) :: (40, undef) :: (39, undef) :: (38, .bool false) :: (37, .bool false) :: (36, undef) :: (35, undef) :: (34, undef) :: (33, undef) :: (32, undef) :: (31, .bool false) :: (30, .bool false) :: (29, undef) :: (28, undef) :: (27, undef) :: (26, undef) :: (25, undef) :: (24, .bool false) :: (23, .bool false) :: (22, undef) :: (21, undef) :: (20, undef) :: (19, undef) :: (18, undef) :: _) rfl ?_; clear hA; intro a hA
      refine st_run tbOk 16 hA (e' := (59, undef) :: (58, undef) :: (57, undef) :: (56, undef) :: (55, undef) :: (54, undef) :: (53, undef) :: (52, .bool false) :: (51, .bool false) :: (50, undef) :: (49, undef) :: (48, undef) :: (47, undef) :: (46, undef) :: (45, .bool false) :: (44, .bool false) :: _) rfl ?_; clear hA; intro a hA
      refine st_run tbOk 2 hA (e' := (4, .bool false) :: (60, .bool false) :: _) rfl ?_; clear hA; intro a hA
      refine wpList_nil ?_
      replace hA := hA.sel [4] (e' := [(4, .bool false)]) rfl
      refine xt_norm ?_
      refine wp_ret ?_
      refine ret1 (fn := Tryd.f9) hA rfl rfl ?_
      replace hS := hS.drop1
      replace hS := hS.drop1
      exact ⟨congrArg Value.bool (decide_eq_false (fun h => by first | exact absurd h.1 (by assumption) | exact absurd h.2.1 (by assumption) | exact absurd h.2.2.1 (by assumption) | exact absurd h.2.2.2.1 (by assumption) | exact absurd h.2.2.2.2.1 (by assumption) | exact absurd h.2.2.2.2.2.1 (by assumption) | exact absurd h.2.2.2.2.2.2.1 (by assumption) | exact absurd h.2.2.2.2.2.2.2 (by assumption))).symm, hS⟩
  · replace hA := hA.rw 9 (v' := .bool false) rfl (vb_eq_f hc5)
    replace hA := hA.rw 10 (v' := .bool false) rfl (vb_eq_f hc5)
    refine st_run tbOk 33 hA (e' := (43, undef) :: (42, undef) :: (41, undef) :: (40, undef) :: (39, undef) :: (38, .bool false) :: (37, .bool false) :: (36, undef) :: (35, undef) :: (34, undef) :: (33, undef) :: (32, undef) :: (31, .bool false) :: (30, .bool false) :: (29, undef) :: (28, undef) :: (27, undef) :: (26, undef) :: (25, undef) :: (24, .bool false) :: (23, .bool false) :: (22, undef) :: (21, undef) :: (20, undef) :: (19, undef) :: (18, undef) :: (17, .bool false) :: (16, .bool false) :: (15, undef) :: (14, undef) :: (13, undef) :: (12, undef) :: (11, undef) :: _) rfl ?_; clear hA; intro a hA
    refine st_run tbOk 16 hA (e' := (59, undef) :: (58, undef) :: (57, undef) :: (56, undef) :: (55, undef) :: (54, undef) :: (53, undef) :: (52, .bool false) :: (51, .bool false) :: (50, undef) :: (49, undef) :: (48, undef) :: (47, undef) :: (46, undef) :: (45, .bool false) :: (44, .bool false) :: _) rfl ?_; clear hA; intro a hA
    refine st_run tbOk 2 hA (e' := (4, .bool false) :: (60, .bool false) :: _) rfl ?_; clear hA; intro a hA
    refine wpList_nil ?_
    replace hA := hA.sel [4] (e' := [(4, .bool false)]) rfl
    refine xt_norm ?_
    refine wp_ret ?_
    refine ret1 (fn := Tryd.f9) hA rfl rfl ?_
    replace hS := hS.drop1
    replace hS := hS.drop1
    exact ⟨congrArg Value.bool (decide_eq_false (fun h => by first | exact absurd h.1 (by assumption) | exact absurd h.2.1 (by assumption) | exact absurd h.2.2.1 (by assumption) | exact absurd h.2.2.2.1 (by assumption) | exact absurd h.2.2.2.2.1 (by assumption) | exact absurd h.2.2.2.2.2.1 (by assumption) | exact absurd h.2.2.2.2.2.2.1 (by assumption) | exact absurd h.2.2.2.2.2.2.2 (by assumption))).symm, hS⟩

theorem awake5 {w0 w : World} {F : List Chunk} (hS : St w0 w F) :
    Ret Tryd.prog 5 #[] w (fun v w' => v = .bool true ∧ St w0 w' F) := by
  refine enter (vs := []) 72 Tryd.func5 rfl rfl (by simp) ?_; intro a hA
  refine wp_seq ?_
  refine wp_region_lit ?_
  refine st_run tbOk 1 hA (e' := (0, .bool false) :: _) rfl ?_; clear hA; intro a hA
  refine wpList_nil ?_
  replace hA := hA.sel [] (e' := []) rfl
  refine xt_norm ?_
  refine wp_seq ?_
  refine wp_region_lit ?_
  refine st_run tbOk 1 hA (e' := (14, .agg #[.slice none 0 0]) :: _) rfl ?_; clear hA; intro a hA
  refine st_box hA hS [.slice none 0 0] rfl rfl rfl rfl rfl (by decide) ?_; clear hA hS; intro b1 w2 a hS hA
  obtain ⟨L3, hM4, hS⟩ : ∃ Z, SR b1 [] Z ∧ St w0 w2 (Z :: F) := ⟨_, SR.new _, hS⟩
  replace hS := hS.nil
  refine st_run tbOk 1 hA (e' := (1, .pointer (some ⟨b1, 0, none⟩)) :: _) rfl ?_; clear hA; intro a hA
  refine wpList_nil ?_
  replace hA := hA.sel [1] (e' := [(1, .pointer (some ⟨b1, 0, none⟩))]) rfl
  refine xt_norm ?_
  refine wp_seq ?_
  refine wp_region_lit ?_
  refine st_run tbOk 2 hA (e' := (17, .agg #[.int .u64 0, .int .u64 0, .int .u32 0, .int .u16 0, .int .u16 0, .int .u64 0, .int .u32 0, .int .u8 0, .int .u64 0, .int .u64 3, .slice none 0 0]) :: (16, .agg #[.int .u64 0, .int .u64 1, .int .u32 2, .int .u16 0, .int .u16 0, .int .u64 0, .int .u32 0, .int .u8 0, .int .u64 0, .int .u64 0, .slice none 0 0]) :: _) rfl ?_; clear hA; intro a hA
  refine st_alloc tbOk hA hS [.int .u64 0, .int .u64 0, .int .u32 0, .int .u16 0, .int .u16 0, .int .u64 0, .int .u32 0, .int .u8 0, .int .u64 0, .int .u64 0, .slice none 0 0] rfl rfl rfl rfl rfl (by decide) ?_; clear hA hS; intro b5 w6 a hS hA
  refine st_alloc tbOk hA hS [.int .u64 0, .int .u64 0, .int .u32 0, .int .u16 0, .int .u16 0, .int .u64 0, .int .u32 0, .int .u8 0, .int .u64 0, .int .u64 0, .slice none 0 0] rfl rfl rfl rfl rfl (by decide) ?_; clear hA hS; intro b7 w8 a hS hA
  replace hS := hS.front 1 (C := [(b5, rowO [.int .u64 0, .int .u64 0, .int .u32 0, .int .u16 0, .int .u16 0, .int .u64 0, .int .u32 0, .int .u8 0, .int .u64 0, .int .u64 0, .slice none 0 0] 36)]) (L' := [(b7, rowO [.int .u64 0, .int .u64 0, .int .u32 0, .int .u16 0, .int .u16 0, .int .u64 0, .int .u32 0, .int .u8 0, .int .u64 0, .int .u64 0, .slice none 0 0] 36)] :: [] :: L3 :: F) rfl rfl
  refine st_store tbOk hA hS [.int .u64 0, .int .u64 1, .int .u32 2, .int .u16 0, .int .u16 0, .int .u64 0, .int .u32 0, .int .u8 0, .int .u64 0, .int .u64 0, .slice none 0 0] [.int .u64 0, .int .u64 1, .int .u32 2, .int .u16 0, .int .u16 0, .int .u64 0, .int .u32 0, .int .u8 0, .int .u64 0, .int .u64 0, .slice none 0 0] rfl rfl rfl rfl rfl rfl (by simp [Value.oneCell']) (Nat.le_of_ble_eq_true rfl) rfl rfl rfl ?_; clear hS; intro w9 hS
  replace hS := hS.front 1 (C := [(b7, rowO [.int .u64 0, .int .u64 0, .int .u32 0, .int .u16 0, .int .u16 0, .int .u64 0, .int .u32 0, .int .u8 0, .int .u64 0, .int .u64 0, .slice none 0 0] 36)]) (L' := [(b5, rowO [.int .u64 0, .int .u64 1, .int .u32 2, .int .u16 0, .int .u16 0, .int .u64 0, .int .u32 0, .int .u8 0, .int .u64 0, .int .u64 0, .slice none 0 0] 36)] :: [] :: L3 :: F) rfl rfl
  refine st_store tbOk hA hS [.int .u64 0, .int .u64 0, .int .u32 0, .int .u16 0, .int .u16 0, .int .u64 0, .int .u32 0, .int .u8 0, .int .u64 0, .int .u64 3, .slice none 0 0] [.int .u64 0, .int .u64 0, .int .u32 0, .int .u16 0, .int .u16 0, .int .u64 0, .int .u32 0, .int .u8 0, .int .u64 0, .int .u64 3, .slice none 0 0] rfl rfl rfl rfl rfl rfl (by simp [Value.oneCell']) (Nat.le_of_ble_eq_true rfl) rfl rfl rfl ?_; clear hS; intro w10 hS
  refine wpList_nil ?_
  replace hA := hA.sel [1, 2, 3] (e' := [(1, .pointer (some ⟨b1, 0, none⟩)), (2, .pointer (some ⟨b5, 0, none⟩)), (3, .pointer (some ⟨b7, 0, none⟩))]) rfl
  refine xt_norm ?_
  refine wp_seq ?_
  refine wp_region_lit ?_
  refine st_run tbOk 1 hA (e' := (19, .pointer (some ⟨b1, 0, none⟩)) :: _) rfl ?_; clear hA; intro a hA
  refine st_val hA rfl rfl (by decide) (rn_loadA tbOk hA [.int .u64 0, .int .u64 1, .int .u32 2, .int .u16 0, .int .u16 0, .int .u64 0, .int .u32 0, .int .u8 0, .int .u64 0, .int .u64 0, .slice none 0 0] rfl rfl rfl rfl rfl (cells_row (hS.heapAt 1 rfl) rfl)) ?_; clear hA; intro a hA
  replace hS := hS.front 2 (C := []) (L' := [(b7, rowO [.int .u64 0, .int .u64 0, .int .u32 0, .int .u16 0, .int .u16 0, .int .u64 0, .int .u32 0, .int .u8 0, .int .u64 0, .int .u64 3, .slice none 0 0] 36)] :: [(b5, rowO [.int .u64 0, .int .u64 1, .int .u32 2, .int .u16 0, .int .u16 0, .int .u64 0, .int .u32 0, .int .u8 0, .int .u64 0, .int .u64 0, .slice none 0 0] 36)] :: L3 :: F) rfl rfl
  replace hS := hS.front 3 (C := L3) (L' := [] :: [(b7, rowO [.int .u64 0, .int .u64 0, .int .u32 0, .int .u16 0, .int .u16 0, .int .u64 0, .int .u32 0, .int .u8 0, .int .u64 0, .int .u64 3, .slice none 0 0] 36)] :: [(b5, rowO [.int .u64 0, .int .u64 1, .int .u32 2, .int .u16 0, .int .u16 0, .int .u64 0, .int .u32 0, .int .u8 0, .int .u64 0, .int .u64 0, .slice none 0 0] 36)] :: F) rfl rfl
  refine st_call0 hA rfl rfl rfl isfn8 rfl rfl (by decide) (take_new8 hS hM4 0 1 2 0 0 0 0 0 0 0 _ (fun i y h => by simp at h) (by decide)) ?_
  clear hA hS; rintro _ w11 a ⟨L12, hM13, rfl, hS⟩ hA
  have dd14 := add_mem_dd (a0 := 1) (a1 := 2) (a2 := 1) (a3 := 0) (a4 := 0) (a5 := 0) (a6 := 0) (a7 := 0) (a8 := 0) (a9 := 0) (a10 := 0) (a11 := 0) (a12 := 0) (w0 := w0) (D := []) nodd
  have bd15 := sbd.add (a0 := 1) (a1 := 2) (a2 := 1) (a3 := 0) (a4 := 0) (a5 := 0) (a6 := 0) (a7 := 0) (a8 := 0) (a9 := 0) (a10 := 0) (a11 := 0) (a12 := 0) (A := none) (c := 0) sbd.nil
  have hM16 : SR b1 ([(1, 2, 1, 0, 0, 0, 0, 0, 0, 0, 0, 0, 0, none, 0, ([] : List UInt8))]) L12 := hM13
  have dd17 : ∀ x ∈ ([(1, 2, 1, 0, 0, 0, 0, 0, 0, 0, 0, 0, 0, none, 0, ([] : List UInt8))] : List Ent), encEntry_dd w0 [] x := dd14
  have bd18 : sbd ([(1, 2, 1, 0, 0, 0, 0, 0, 0, 0, 0, 0, 0, none, 0, ([] : List UInt8))]) := bd15
  refine st_run tbOk 4 hA (e' := (24, .nilIface) :: (23, .agg #[.int .u64 0, .int .u64 0, .int .u32 0, .int .u16 0, .int .u16 0, .int .u64 0, .int .u32 0, .int .u8 0, .int .u64 0, .int .u64 0, .slice none 0 0]) :: (22, .int .i64 0) :: (18, .tuple #[.int .i64 0, .agg #[.int .u64 0, .int .u64 0, .int .u32 0, .int .u16 0, .int .u16 0, .int .u64 0, .int .u32 0, .int .u8 0, .int .u64 0, .int .u64 0, .slice none 0 0], .nilIface]) :: _) rfl ?_; clear hA; intro a hA
  refine st_alloc tbOk hA hS [.int .u64 0, .int .u64 0, .int .u32 0, .int .u16 0, .int .u16 0, .int .u64 0, .int .u32 0, .int .u8 0, .int .u64 0, .int .u64 0, .slice none 0 0] rfl rfl rfl rfl rfl (by decide) ?_; clear hA hS; intro b19 w20 a hS hA
  refine st_run tbOk 1 hA (e' := (4, .int .i64 0) :: _) rfl ?_; clear hA; intro a hA
  refine st_store tbOk hA hS [.int .u64 0, .int .u64 0, .int .u32 0, .int .u16 0, .int .u16 0, .int .u64 0, .int .u32 0, .int .u8 0, .int .u64 0, .int .u64 0, .slice none 0 0] [.int .u64 0, .int .u64 0, .int .u32 0, .int .u16 0, .int .u16 0, .int .u64 0, .int .u32 0, .int .u8 0, .int .u64 0, .int .u64 0, .slice none 0 0] rfl rfl rfl rfl rfl rfl (by simp [Value.oneCell']) (Nat.le_of_ble_eq_true rfl) rfl rfl rfl ?_; clear hS; intro w21 hS
  refine st_run tbOk 1 hA (e' := (6, .nilIface) :: _) rfl ?_; clear hA; intro a hA
  refine wpList_nil ?_
  replace hA := hA.sel [1, 2, 3, 4] (e' := [(1, .pointer (some ⟨b1, 0, none⟩)), (2, .pointer (some ⟨b5, 0, none⟩)), (3, .pointer (some ⟨b7, 0, none⟩)), (4, .int .i64 0)]) rfl
  refine xt_norm ?_
  refine wp_seq ?_
  refine wp_region_lit ?_
  refine st_run tbOk 1 hA (e' := (26, .pointer (some ⟨b1, 0, none⟩)) :: _) rfl ?_; clear hA; intro a hA
  refine st_val hA rfl rfl (by decide) (rn_loadA tbOk hA [.int .u64 0, .int .u64 1, .int .u32 2, .int .u16 0, .int .u16 0, .int .u64 0, .int .u32 0, .int .u8 0, .int .u64 0, .int .u64 0, .slice none 0 0] rfl rfl rfl rfl rfl (cells_row (hS.heapAt 4 rfl) rfl)) ?_; clear hA; intro a hA
  replace hS := hS.front 2 (C := []) (L' := [(b19, rowO [.int .u64 0, .int .u64 0, .int .u32 0, .int .u16 0, .int .u16 0, .int .u64 0, .int .u32 0, .int .u8 0, .int .u64 0, .int .u64 0, .slice none 0 0] 36)] :: L12 :: [(b7, rowO [.int .u64 0, .int .u64 0, .int .u32 0, .int .u16 0, .int .u16 0, .int .u64 0, .int .u32 0, .int .u8 0, .int .u64 0, .int .u64 3, .slice none 0 0] 36)] :: [(b5, rowO [.int .u64 0, .int .u64 1, .int .u32 2, .int .u16 0, .int .u16 0, .int .u64 0, .int .u32 0, .int .u8 0, .int .u64 0, .int .u64 0, .slice none 0 0] 36)] :: F) rfl rfl
  replace hS := hS.front 2 (C := L12) (L' := [] :: [(b19, rowO [.int .u64 0, .int .u64 0, .int .u32 0, .int .u16 0, .int .u16 0, .int .u64 0, .int .u32 0, .int .u8 0, .int .u64 0, .int .u64 0, .slice none 0 0] 36)] :: [(b7, rowO [.int .u64 0, .int .u64 0, .int .u32 0, .int .u16 0, .int .u16 0, .int .u64 0, .int .u32 0, .int .u8 0, .int .u64 0, .int .u64 3, .slice none 0 0] 36)] :: [(b5, rowO [.int .u64 0, .int .u64 1, .int .u32 2, .int .u16 0, .int .u16 0, .int .u64 0, .int .u32 0, .int .u8 0, .int .u64 0, .int .u64 0, .slice none 0 0] 36)] :: F) rfl rfl
  refine st_call0 hA rfl rfl rfl isfn8 rfl rfl (by decide) (take_known8 hS hM16 0 1 2 0 0 0 0 0 0 0 _ (k := 0) (x := (1, 2, 1, 0, 0, 0, 0, 0, 0, 0, 0, 0, 0, none, 0, ([] : List UInt8))) rfl (fnd_yes rfl rfl) (fun i y h => absurd h (Nat.not_lt_zero _)) dd17 bd18 (by first | omega | exact Nat.le_of_ble_eq_true rfl)) ?_
  clear hA hS; rintro _ w22 a ⟨L23, E25, A26, c27, hM24, hE28, rfl, hS⟩ hA
  have dd29 := encEntry_lefts (E := E25) dd17
  refine st_run tbOk 4 hA (e' := (31, .nilIface) :: (30, .agg #[.int .u64 0, .int .u64 0, .int .u32 0, .int .u16 0, .int .u16 0, .int .u64 0, .int .u32 0, .int .u8 0, .int .u64 0, .int .u64 0, .slice A26 0 c27]) :: (29, .int .i64 1) :: (25, .tuple #[.int .i64 1, .agg #[.int .u64 0, .int .u64 0, .int .u32 0, .int .u16 0, .int .u16 0, .int .u64 0, .int .u32 0, .int .u8 0, .int .u64 0, .int .u64 0, .slice A26 0 c27], .nilIface]) :: _) rfl ?_; clear hA; intro a hA
  refine st_alloc tbOk hA hS [.int .u64 0, .int .u64 0, .int .u32 0, .int .u16 0, .int .u16 0, .int .u64 0, .int .u32 0, .int .u8 0, .int .u64 0, .int .u64 0, .slice none 0 0] rfl rfl rfl rfl rfl (by decide) ?_; clear hA hS; intro b30 w31 a hS hA
  refine st_run tbOk 1 hA (e' := (7, .int .i64 1) :: _) rfl ?_; clear hA; intro a hA
  refine st_store tbOk hA hS [.int .u64 0, .int .u64 0, .int .u32 0, .int .u16 0, .int .u16 0, .int .u64 0, .int .u32 0, .int .u8 0, .int .u64 0, .int .u64 0, .slice A26 0 c27] [.int .u64 0, .int .u64 0, .int .u32 0, .int .u16 0, .int .u16 0, .int .u64 0, .int .u32 0, .int .u8 0, .int .u64 0, .int .u64 0, .slice A26 0 c27] rfl rfl rfl rfl rfl rfl (by simp [Value.oneCell']) (Nat.le_of_ble_eq_true rfl) rfl rfl rfl ?_; clear hS; intro w32 hS
  refine st_run tbOk 1 hA (e' := (9, .nilIface) :: _) rfl ?_; clear hA; intro a hA
  refine wpList_nil ?_
  replace hA := hA.sel [1, 2, 3, 4, 7] (e' := [(1, .pointer (some ⟨b1, 0, none⟩)), (2, .pointer (some ⟨b5, 0, none⟩)), (3, .pointer (some ⟨b7, 0, none⟩)), (4, .int .i64 0), (7, .int .i64 1)]) rfl
  refine xt_norm ?_
  refine wp_seq ?_
  refine wp_region_lit ?_
  refine st_run tbOk 1 hA (e' := (32, .pointer (some ⟨b1, 0, none⟩)) :: _) rfl ?_; clear hA; intro a hA
  refine st_val hA rfl rfl (by decide) (rn_loadA tbOk hA [.int .u64 0, .int .u64 1, .int .u32 2, .int .u16 0, .int .u16 0, .int .u64 0, .int .u32 0, .int .u8 0, .int .u64 0, .int .u64 0, .slice none 0 0] rfl rfl rfl rfl rfl (cells_row (hS.heapAt 5 rfl) rfl)) ?_; clear hA; intro a hA
  refine st_val hA rfl rfl (by decide) (rn_loadA tbOk hA [.int .u64 0, .int .u64 0, .int .u32 0, .int .u16 0, .int .u16 0, .int .u64 0, .int .u32 0, .int .u8 0, .int .u64 0, .int .u64 3, .slice none 0 0] rfl rfl rfl rfl rfl (cells_row (hS.heapAt 4 rfl) rfl)) ?_; clear hA; intro a hA
  replace hS := hS.front 2 (C := (E25 ++ [])) (L' := [(b30, rowO [.int .u64 0, .int .u64 0, .int .u32 0, .int .u16 0, .int .u16 0, .int .u64 0, .int .u32 0, .int .u8 0, .int .u64 0, .int .u64 0, .slice A26 0 c27] 36)] :: L23 :: [(b19, rowO [.int .u64 0, .int .u64 0, .int .u32 0, .int .u16 0, .int .u16 0, .int .u64 0, .int .u32 0, .int .u8 0, .int .u64 0, .int .u64 0, .slice none 0 0] 36)] :: [(b7, rowO [.int .u64 0, .int .u64 0, .int .u32 0, .int .u16 0, .int .u16 0, .int .u64 0, .int .u32 0, .int .u8 0, .int .u64 0, .int .u64 3, .slice none 0 0] 36)] :: [(b5, rowO [.int .u64 0, .int .u64 1, .int .u32 2, .int .u16 0, .int .u16 0, .int .u64 0, .int .u32 0, .int .u8 0, .int .u64 0, .int .u64 0, .slice none 0 0] 36)] :: F) rfl rfl
  replace hS := hS.front 2 (C := L23) (L' := (E25 ++ []) :: [(b30, rowO [.int .u64 0, .int .u64 0, .int .u32 0, .int .u16 0, .int .u16 0, .int .u64 0, .int .u32 0, .int .u8 0, .int .u64 0, .int .u64 0, .slice A26 0 c27] 36)] :: [(b19, rowO [.int .u64 0, .int .u64 0, .int .u32 0, .int .u16 0, .int .u16 0, .int .u64 0, .int .u32 0, .int .u8 0, .int .u64 0, .int .u64 0, .slice none 0 0] 36)] :: [(b7, rowO [.int .u64 0, .int .u64 0, .int .u32 0, .int .u16 0, .int .u16 0, .int .u64 0, .int .u32 0, .int .u8 0, .int .u64 0, .int .u64 3, .slice none 0 0] 36)] :: [(b5, rowO [.int .u64 0, .int .u64 1, .int .u32 2, .int .u16 0, .int .u16 0, .int .u64 0, .int .u32 0, .int .u8 0, .int .u64 0, .int .u64 0, .slice none 0 0] 36)] :: F) rfl rfl
  refine st_call0 hA rfl rfl rfl isfn6 rfl rfl (by decide) (reply_ok6 hS hM24 0 1 2 0 0 0 0 0 0 0 _ 0 0 0 0 0 0 0 0 0 3 (bs := ([] : List UInt8)) RdSX.nil (by first | omega | exact Nat.zero_le _) (k := 0) (x := (1, 2, 1, 0, 0, 0, 0, 0, 0, 0, 0, 0, 0, none, 0, ([] : List UInt8))) rfl (fnd_yes rfl rfl) (fun i y h => absurd h (Nat.not_lt_zero _)) rfl (by exact Nat.le_of_ble_eq_true rfl)) ?_
  clear hA hS; rintro _ w33 a ⟨L34, E36, A37, c38, hM35, hE39, rfl, hS⟩ hA
  have dd40 := set_mem_dd (k := 0) (x := (1, 2, 2, 0, 0, 0, 0, 0, 0, 0, 0, 0, 3, A37, c38, ([] : List UInt8))) dd29 (hE39.right)
  have bd41 := sbd.set (k := 0) (x := (1, 2, 2, 0, 0, 0, 0, 0, 0, 0, 0, 0, 3, A37, c38, ([] : List UInt8))) bd18 (by first | omega | exact Nat.zero_le _)
  have hM42 : SR b1 ([(1, 2, 2, 0, 0, 0, 0, 0, 0, 0, 0, 0, 3, A37, c38, ([] : List UInt8))]) L34 := hM35
  have dd43 : ∀ x ∈ ([(1, 2, 2, 0, 0, 0, 0, 0, 0, 0, 0, 0, 3, A37, c38, ([] : List UInt8))] : List Ent), encEntry_dd w0 (E36 ++ (E25 ++ [])) x := dd40
  have bd44 : sbd ([(1, 2, 2, 0, 0, 0, 0, 0, 0, 0, 0, 0, 3, A37, c38, ([] : List UInt8))]) := bd41
  refine st_run tbOk 1 hA (e' := (10, .bool true) :: _) rfl ?_; clear hA; intro a hA
  refine wpList_nil ?_
  replace hA := hA.sel [1, 2, 3, 4, 7, 10] (e' := [(1, .pointer (some ⟨b1, 0, none⟩)), (2, .pointer (some ⟨b5, 0, none⟩)), (3, .pointer (some ⟨b7, 0, none⟩)), (4, .int .i64 0), (7, .int .i64 1), (10, .bool true)]) rfl
  refine xt_norm ?_
  refine wp_seq ?_
  refine wp_region_lit ?_
  refine st_run tbOk 1 hA (e' := (37, .pointer (some ⟨b1, 0, none⟩)) :: _) rfl ?_; clear hA; intro a hA
  refine st_val hA rfl rfl (by decide) (rn_loadA tbOk hA [.int .u64 0, .int .u64 1, .int .u32 2, .int .u16 0, .int .u16 0, .int .u64 0, .int .u32 0, .int .u8 0, .int .u64 0, .int .u64 0, .slice none 0 0] rfl rfl rfl rfl rfl (cells_row (hS.heapAt 5 rfl) rfl)) ?_; clear hA; intro a hA
  replace hS := hS.front 1 (C := (E36 ++ (E25 ++ []))) (L' := L34 :: [(b30, rowO [.int .u64 0, .int .u64 0, .int .u32 0, .int .u16 0, .int .u16 0, .int .u64 0, .int .u32 0, .int .u8 0, .int .u64 0, .int .u64 0, .slice A26 0 c27] 36)] :: [(b19, rowO [.int .u64 0, .int .u64 0, .int .u32 0, .int .u16 0, .int .u16 0, .int .u64 0, .int .u32 0, .int .u8 0, .int .u64 0, .int .u64 0, .slice none 0 0] 36)] :: [(b7, rowO [.int .u64 0, .int .u64 0, .int .u32 0, .int .u16 0, .int .u16 0, .int .u64 0, .int .u32 0, .int .u8 0, .int .u64 0, .int .u64 3, .slice none 0 0] 36)] :: [(b5, rowO [.int .u64 0, .int .u64 1, .int .u32 2, .int .u16 0, .int .u16 0, .int .u64 0, .int .u32 0, .int .u8 0, .int .u64 0, .int .u64 0, .slice none 0 0] 36)] :: F) rfl rfl
  replace hS := hS.front 1 (C := L34) (L' := (E36 ++ (E25 ++ [])) :: [(b30, rowO [.int .u64 0, .int .u64 0, .int .u32 0, .int .u16 0, .int .u16 0, .int .u64 0, .int .u32 0, .int .u8 0, .int .u64 0, .int .u64 0, .slice A26 0 c27] 36)] :: [(b19, rowO [.int .u64 0, .int .u64 0, .int .u32 0, .int .u16 0, .int .u16 0, .int .u64 0, .int .u32 0, .int .u8 0, .int .u64 0, .int .u64 0, .slice none 0 0] 36)] :: [(b7, rowO [.int .u64 0, .int .u64 0, .int .u32 0, .int .u16 0, .int .u16 0, .int .u64 0, .int .u32 0, .int .u8 0, .int .u64 0, .int .u64 3, .slice none 0 0] 36)] :: [(b5, rowO [.int .u64 0, .int .u64 1, .int .u32 2, .int .u16 0, .int .u16 0, .int .u64 0, .int .u32 0, .int .u8 0, .int .u64 0, .int .u64 0, .slice none 0 0] 36)] :: F) rfl rfl
  refine st_call0 hA rfl rfl rfl isfn8 rfl rfl (by decide) (take_known8 hS hM42 0 1 2 0 0 0 0 0 0 0 _ (k := 0) (x := (1, 2, 2, 0, 0, 0, 0, 0, 0, 0, 0, 0, 3, A37, c38, ([] : List UInt8))) rfl (fnd_yes rfl rfl) (fun i y h => absurd h (Nat.not_lt_zero _)) dd43 bd44 (by first | omega | exact Nat.le_of_ble_eq_true rfl)) ?_
  clear hA hS; rintro _ w45 a ⟨L46, E48, A49, c50, hM47, hE51, rfl, hS⟩ hA
  have dd52 := encEntry_lefts (E := E48) dd43
  refine st_run tbOk 4 hA (e' := (42, .nilIface) :: (41, .agg #[.int .u64 0, .int .u64 0, .int .u32 0, .int .u16 0, .int .u16 0, .int .u64 0, .int .u32 0, .int .u8 0, .int .u64 0, .int .u64 3, .slice A49 0 c50]) :: (40, .int .i64 2) :: (36, .tuple #[.int .i64 2, .agg #[.int .u64 0, .int .u64 0, .int .u32 0, .int .u16 0, .int .u16 0, .int .u64 0, .int .u32 0, .int .u8 0, .int .u64 0, .int .u64 3, .slice A49 0 c50], .nilIface]) :: _) rfl ?_; clear hA; intro a hA
  refine st_alloc tbOk hA hS [.int .u64 0, .int .u64 0, .int .u32 0, .int .u16 0, .int .u16 0, .int .u64 0, .int .u32 0, .int .u8 0, .int .u64 0, .int .u64 0, .slice none 0 0] rfl rfl rfl rfl rfl (by decide) ?_; clear hA hS; intro b53 w54 a hS hA
  refine st_run tbOk 1 hA (e' := (11, .int .i64 2) :: _) rfl ?_; clear hA; intro a hA
  refine st_store tbOk hA hS [.int .u64 0, .int .u64 0, .int .u32 0, .int .u16 0, .int .u16 0, .int .u64 0, .int .u32 0, .int .u8 0, .int .u64 0, .int .u64 3, .slice A49 0 c50] [.int .u64 0, .int .u64 0, .int .u32 0, .int .u16 0, .int .u16 0, .int .u64 0, .int .u32 0, .int .u8 0, .int .u64 0, .int .u64 3, .slice A49 0 c50] rfl rfl rfl rfl rfl rfl (by simp [Value.oneCell']) (Nat.le_of_ble_eq_true rfl) rfl rfl rfl ?_; clear hS; intro w55 hS
  refine st_run tbOk 1 hA (e' := (13, .nilIface) :: _) rfl ?_; clear hA; intro a hA
  refine wpList_nil ?_
  replace hA := hA.sel [1, 2, 3, 4, 7, 10, 11, 12, 13] (e' := [(1, .pointer (some ⟨b1, 0, none⟩)), (2, .pointer (some ⟨b5, 0, none⟩)), (3, .pointer (some ⟨b7, 0, none⟩)), (4, .int .i64 0), (7, .int .i64 1), (10, .bool true), (11, .int .i64 2), (12, .pointer (some ⟨b53, 0, none⟩)), (13, .nilIface)]) rfl
  refine xt_norm ?_
  refine wp_seq ?_
  refine wp_region_lit ?_
  refine st_run tbOk 15 hA (e' := (57, .pointer (some ⟨b53, 9, none⟩)) :: (56, .bool true) :: (55, .bool true) :: (54, .bool true) :: (53, .int .i64 2) :: (52, .bool true) :: (51, .bool true) :: (50, .bool true) :: (49, .bool true) :: (48, .bool true) :: (47, .bool true) :: (46, .int .i64 1) :: (45, .bool true) :: (44, .bool true) :: (43, .int .i64 0) :: _) rfl ?_; clear hA; intro a hA
  refine st_val hA rfl rfl (by decide) (rn_load tbOk hA rfl rfl rfl rfl (cell_row (hS.heapAt 0 rfl) rfl)) ?_; clear hA; intro a hA
  refine st_run tbOk 8 hA (e' := (66, .pointer (some ⟨b1, 0, none⟩)) :: (65, .bool true) :: (64, .bool true) :: (63, .bool true) :: (62, .nilIface) :: (61, .bool true) :: (60, .bool true) :: (59, .bool true) :: _) rfl ?_; clear hA; intro a hA
  refine st_val hA rfl rfl (by decide) (rn_loadA tbOk hA [.int .u64 0, .int .u64 1, .int .u32 2, .int .u16 0, .int .u16 0, .int .u64 0, .int .u32 0, .int .u8 0, .int .u64 0, .int .u64 0, .slice none 0 0] rfl rfl rfl rfl rfl (cells_row (hS.heapAt 6 rfl) rfl)) ?_; clear hA; intro a hA
  refine st_val hA rfl rfl (by decide) (rn_loadA tbOk hA [.int .u64 0, .int .u64 0, .int .u32 0, .int .u16 0, .int .u16 0, .int .u64 0, .int .u32 0, .int .u8 0, .int .u64 0, .int .u64 3, .slice none 0 0] rfl rfl rfl rfl rfl (cells_row (hS.heapAt 5 rfl) rfl)) ?_; clear hA; intro a hA
  replace hS := hS.front 2 (C := (E48 ++ (E36 ++ (E25 ++ [])))) (L' := [(b53, rowO [.int .u64 0, .int .u64 0, .int .u32 0, .int .u16 0, .int .u16 0, .int .u64 0, .int .u32 0, .int .u8 0, .int .u64 0, .int .u64 3, .slice A49 0 c50] 36)] :: L46 :: [(b30, rowO [.int .u64 0, .int .u64 0, .int .u32 0, .int .u16 0, .int .u16 0, .int .u64 0, .int .u32 0, .int .u8 0, .int .u64 0, .int .u64 0, .slice A26 0 c27] 36)] :: [(b19, rowO [.int .u64 0, .int .u64 0, .int .u32 0, .int .u16 0, .int .u16 0, .int .u64 0, .int .u32 0, .int .u8 0, .int .u64 0, .int .u64 0, .slice none 0 0] 36)] :: [(b7, rowO [.int .u64 0, .int .u64 0, .int .u32 0, .int .u16 0, .int .u16 0, .int .u64 0, .int .u32 0, .int .u8 0, .int .u64 0, .int .u64 3, .slice none 0 0] 36)] :: [(b5, rowO [.int .u64 0, .int .u64 1, .int .u32 2, .int .u16 0, .int .u16 0, .int .u64 0, .int .u32 0, .int .u8 0, .int .u64 0, .int .u64 0, .slice none 0 0] 36)] :: F) rfl rfl
  replace hS := hS.front 2 (C := L46) (L' := (E48 ++ (E36 ++ (E25 ++ []))) :: [(b53, rowO [.int .u64 0, .int .u64 0, .int .u32 0, .int .u16 0, .int .u16 0, .int .u64 0, .int .u32 0, .int .u8 0, .int .u64 0, .int .u64 3, .slice A49 0 c50] 36)] :: [(b30, rowO [.int .u64 0, .int .u64 0, .int .u32 0, .int .u16 0, .int .u16 0, .int .u64 0, .int .u32 0, .int .u8 0, .int .u64 0, .int .u64 0, .slice A26 0 c27] 36)] :: [(b19, rowO [.int .u64 0, .int .u64 0, .int .u32 0, .int .u16 0, .int .u16 0, .int .u64 0, .int .u32 0, .int .u8 0, .int .u64 0, .int .u64 0, .slice none 0 0] 36)] :: [(b7, rowO [.int .u64 0, .int .u64 0, .int .u32 0, .int .u16 0, .int .u16 0, .int .u64 0, .int .u32 0, .int .u8 0, .int .u64 0, .int .u64 3, .slice none 0 0] 36)] :: [(b5, rowO [.int .u64 0, .int .u64 1, .int .u32 2, .int .u16 0, .int .u16 0, .int .u64 0, .int .u32 0, .int .u8 0, .int .u64 0, .int .u64 0, .slice none 0 0] 36)] :: F) rfl rfl
  refine st_call0 hA rfl rfl rfl isfn6 rfl rfl (by decide) (reply_state6 hS hM47 0 1 2 0 0 0 0 0 0 0 _ 0 0 0 0 0 0 0 0 0 3 _ (k := 0) (x := (1, 2, 2, 0, 0, 0, 0, 0, 0, 0, 0, 0, 3, A37, c38, ([] : List UInt8))) rfl (fnd_yes rfl rfl) (fun i y h => absurd h (Nat.not_lt_zero _)) (by show ¬ (2 : Int) = 1; decide) (by exact Nat.le_of_ble_eq_true rfl)) ?_
  clear hA hS; rintro _ w56 a ⟨L57, hM58, rfl, hS⟩ hA
  refine st_run tbOk 3 hA (e' := (0, .bool true) :: (71, .bool true) :: (70, .bool true) :: _) rfl ?_; clear hA; intro a hA
  refine wpList_nil ?_
  replace hA := hA.sel [0] (e' := [(0, .bool true)]) rfl
  refine xt_norm ?_
  refine wp_ret ?_
  refine ret1 (fn := Tryd.f5) hA rfl rfl ?_
  replace hS := hS.drop1
  replace hS := hS.drop1
  replace hS := hS.drop1
  replace hS := hS.drop1
  replace hS := hS.drop1
  replace hS := hS.drop1
  replace hS := hS.drop1
  exact ⟨rfl, hS⟩

theorem upd_setCell {w : World} {b : Nat} {x v : Value} {T : TypeId} (hb : w.heap[b]? = some (rowO [x] T)) : Upd w (w.setCell ⟨b, 0, none⟩ v) b (rowO [v] T) := by
  refine ⟨rfl, rfl, rfl, by simp [World.setCell], ?_, fun k _ hk => RowKit.Below.heap_setCell w _ _ k hk⟩
  simp only [World.setCell, Array.getElem?_modify, if_true, hb]
  rfl
/-- What the listed variable holds, in the world that the law begins in. -/
def HG (w : World) : Prop := w.cell? ⟨0, 0, none⟩ = some (.iface 75 (.agg #[.pointer (some ⟨1, 45, none⟩)]))
theorem asHit {w0 w : World} {F : List Chunk} {b : Nat} {x : Value} (hS : St w0 w ([(b, rowO [x] 48)] :: F)) (hg : HG w0) (n : Int) :
    Ret Tryd.prog 17 #[.iface 48 (.int .i64 n), .iface 61 (.pointer (some ⟨b, 0, none⟩))] w (fun v w' => v = .bool true ∧ St w0 w' ([(b, rowO [.int .i64 n] 48)] :: F)) := by
  have hb := hS.heapAt 0 rfl
  refine Calls.mono (as_hit n ⟨b, 0, none⟩ x w (hS.old hg) (cell_row hb rfl) (by simp [World.frozen?, hb, rowO])) fun e w' ⟨he, hw⟩ => ⟨_, he, rfl, ?_⟩
  subst hw
  have h4 := (((hS.alloc (.cells #[.pointer (some ⟨b, 0, none⟩)] 61)).alloc (.cells #[.pointer (some ⟨1, 61, none⟩), .pointer (some ⟨w.heap.size, 0, none⟩), .int .u64 150] 65)).alloc (.cells #[.pointer (some ⟨1, 61, none⟩), .pointer (some ⟨w.heap.size, 0, none⟩), .int .u64 150] 65)).alloc (.cells #[.int .i64 n] 48)
  have h5 := h4.drop1.drop1.drop1.drop1
  exact h5.upd (upd_setCell (h5.heapAt 0 rfl))
theorem asNil {w0 w : World} {F : List Chunk} (hS : St w0 w F) (t : Value) :
    Ret Tryd.prog 17 #[.nilIface, t] w (fun v w' => v = .bool false ∧ St w0 w' F) :=
  Calls.mono (as_nil t w) fun e w' ⟨he, hw⟩ => ⟨_, he, rfl, hw ▸ hS⟩

theorem number_hit10 {w0 w : World} {F : List Chunk} (hS : St w0 w F) (hg : HG w0) (n : Int) :
    Ret Tryd.prog 10 #[.iface 48 (.int .i64 n)] w (fun v w' => v = .int .i64 n ∧ St w0 w' F) := by
  refine enter (vs := [.iface 48 (.int .i64 n)]) 8 Tryd.func10 rfl rfl (by simp) ?_; intro a hA
  refine wp_seq ?_
  refine wp_region_lit ?_
  refine st_run tbOk 1 hA (e' := (2, .int .i64 0) :: _) rfl ?_; clear hA; intro a hA
  refine wpList_nil ?_
  replace hA := hA.sel [0] (e' := [(0, .iface 48 (.int .i64 n))]) rfl
  refine xt_norm ?_
  refine wp_seq ?_
  refine wp_region_lit ?_
  refine st_alloc tbOk hA hS [.int .i64 0] rfl rfl rfl rfl rfl (by decide) ?_; clear hA hS; intro b1 w2 a hS hA
  refine wpList_nil ?_
  refine xt_norm ?_
  refine wp_seq ?_
  refine wp_seq ?_
  refine wp_region_lit ?_
  refine st_run tbOk 2 hA (e' := (5, .iface 61 (.pointer (some ⟨b1, 0, none⟩))) :: (4, .iface 48 (.int .i64 n)) :: _) rfl ?_; clear hA; intro a hA
  refine st_call0 hA rfl rfl rfl isfn17 rfl rfl (by decide) (asHit hS hg n) ?_
  clear hA hS; rintro v w3 a ⟨rfl, hS⟩ hA
  refine wpList_nil ?_
  replace hA := hA.sel [3, 6] (e' := [(3, .pointer (some ⟨b1, 0, none⟩)), (6, .bool true)]) rfl
  refine xt_norm ?_
  refine cd_cond_t hA rfl ?_
  refine wp_seq ?_
  refine wp_region_lit ?_
  refine st_val hA rfl rfl (by decide) (rn_load tbOk hA rfl rfl rfl rfl (cell_row (hS.heapAt 0 rfl) rfl)) ?_; clear hA; intro a hA
  refine st_run tbOk 1 hA (e' := (2, .int .i64 n) :: _) rfl ?_; clear hA; intro a hA
  refine wpList_nil ?_
  replace hA := hA.sel [2] (e' := [(2, .int .i64 n)]) rfl
  refine xt_norm ?_
  refine wp_ret (xt_ret ?_)
  refine ret1 (fn := Tryd.f10) hA rfl rfl ?_
  replace hS := hS.drop1
  exact ⟨rfl, hS⟩

theorem number_nil10 {w0 w : World} {F : List Chunk} (hS : St w0 w F) (hg : HG w0) :
    Ret Tryd.prog 10 #[.nilIface] w (fun v w' => v = .int .i64 0 ∧ St w0 w' F) := by
  refine enter (vs := [.nilIface]) 8 Tryd.func10 rfl rfl (by simp) ?_; intro a hA
  refine wp_seq ?_
  refine wp_region_lit ?_
  refine st_run tbOk 1 hA (e' := (2, .int .i64 0) :: _) rfl ?_; clear hA; intro a hA
  refine wpList_nil ?_
  replace hA := hA.sel [0] (e' := [(0, .nilIface)]) rfl
  refine xt_norm ?_
  refine wp_seq ?_
  refine wp_region_lit ?_
  refine st_alloc tbOk hA hS [.int .i64 0] rfl rfl rfl rfl rfl (by decide) ?_; clear hA hS; intro b1 w2 a hS hA
  refine wpList_nil ?_
  refine xt_norm ?_
  refine wp_seq ?_
  refine wp_seq ?_
  refine wp_region_lit ?_
  refine st_run tbOk 2 hA (e' := (5, .iface 61 (.pointer (some ⟨b1, 0, none⟩))) :: (4, .nilIface) :: _) rfl ?_; clear hA; intro a hA
  refine st_call0 hA rfl rfl rfl isfn17 rfl rfl (by decide) (asNil hS _) ?_
  clear hA hS; rintro v w3 a ⟨rfl, hS⟩ hA
  refine wpList_nil ?_
  replace hA := hA.sel [3, 6] (e' := [(3, .pointer (some ⟨b1, 0, none⟩)), (6, .bool false)]) rfl
  refine xt_norm ?_
  refine cd_cond_f hA rfl ?_
  refine wp_skip ?_
  refine xt_norm ?_
  refine wp_seq ?_
  refine wp_region_lit ?_
  refine st_run tbOk 1 hA (e' := (2, .int .i64 0) :: _) rfl ?_; clear hA; intro a hA
  refine wpList_nil ?_
  replace hA := hA.sel [2] (e' := [(2, .int .i64 0)]) rfl
  refine xt_norm ?_
  refine wp_ret ?_
  refine ret1 (fn := Tryd.f10) hA rfl rfl ?_
  replace hS := hS.drop1
  exact ⟨rfl, hS⟩

def oth (rp : Int) (k : Nat) : List Ent := (List.range k).map (fun j => (rp, ((j : Nat) : Int), 1, 0, 0, 0, 0, 0, 0, 0, 0, 0, 0, none, 0, []))
theorem oth_succ (rp : Int) (k : Nat) : oth rp (k + 1) = oth rp k ++ [(rp, ((k : Nat) : Int), 1, 0, 0, 0, 0, 0, 0, 0, 0, 0, 0, none, 0, [])] := by rw [oth, List.range_succ, List.map_append]; rfl
theorem oth_len (rp : Int) (k : Nat) : (oth rp k).length = k := by simp [oth]
theorem oth_no {rp q : Int} {e : Ent} {k : Nat} (he : ¬ e.1 = rp) : ∀ (i : Nat) (y : Ent), (e :: oth rp k)[i]? = some y → fnd rp ((k : Nat) : Int) y = false := fun i y hy => by
  cases i with
  | zero => simp at hy; subst hy; exact fnd_no (fun h => he h.1)
  | succ j =>
    simp only [List.getElem?_cons_succ] at hy
    obtain ⟨t, ht, rfl⟩ := List.mem_map.1 (List.mem_of_getElem? hy)
    have := List.mem_range.1 ht
    exact fnd_no (fun h => by have h2 := h.2; simp only at h2; omega)
theorem oth_get {rp : Int} {k i : Nat} (h : i < k) : (oth rp k)[i]? = some (rp, ((i : Nat) : Int), 1, 0, 0, 0, 0, 0, 0, 0, 0, 0, 0, none, 0, []) := by
  rw [oth, List.getElem?_map, List.getElem?_range h]; rfl
theorem oth_mem {rp : Int} {k : Nat} {y : Ent} (h : y ∈ oth rp k) : ∃ i : Nat, i < k ∧ y = (rp, ((i : Nat) : Int), 1, 0, 0, 0, 0, 0, 0, 0, 0, 0, 0, none, 0, []) := by
  obtain ⟨i, hi, rfl⟩ := List.mem_map.1 h
  exact ⟨i, List.mem_range.1 hi, rfl⟩
theorem oth_no1 {rp q : Int} {k : Nat} (hq : ∀ j : Nat, j < k → ¬ ((j : Nat) : Int) = q) : ∀ (i : Nat) (y : Ent), (oth rp k)[i]? = some y → fnd rp q y = false := fun i y hy => by
  obtain ⟨j, hj, rfl⟩ := oth_mem (List.mem_of_getElem? hy)
  exact fnd_no (fun h => hq j hj h.2)
theorem oth_agn {rp : Int} {k : Nat} : ∀ (i : Nat) (y : Ent), (oth rp k)[i]? = some y → agn y = false := fun i y hy => by
  obtain ⟨j, hj, rfl⟩ := oth_mem (List.mem_of_getElem? hy)
  rfl
theorem oth_yes {rp : Int} {k q : Nat} : ∀ (i : Nat) (y : Ent), i < q → (oth rp k)[i]? = some y → fnd rp ((q : Nat) : Int) y = false := fun i y hi hy => by
  have hk := (List.getElem?_eq_some_iff.1 hy).1
  rw [oth_len] at hk
  rw [oth_get hk] at hy; injection hy with hy; subst hy
  exact fnd_no (fun h => by have h2 := h.2; simp only at h2; omega)
theorem set_no {rp q : Int} {es : List Ent} {k : Nat} {x : Ent} (h : ∀ (i : Nat) (y : Ent), es[i]? = some y → fnd rp q y = false) (hx : fnd rp q x = false) : ∀ (i : Nat) (y : Ent), (es.set k x)[i]? = some y → fnd rp q y = false := fun i y hy => by
  rcases List.mem_or_eq_of_mem_set (List.mem_of_getElem? hy) with hm | rfl
  · obtain ⟨j, hj⟩ := List.mem_iff_getElem?.1 hm; exact h j y hj
  · exact hx
theorem set_agn {es : List Ent} {k : Nat} {x : Ent} (h : ∀ (i : Nat) (y : Ent), es[i]? = some y → agn y = false) : ∀ (i : Nat) (y : Ent), i < k → (es.set k x)[i]? = some y → agn y = false := fun i y hi hy => by
  rw [List.getElem?_set_ne (by omega)] at hy; exact h i y hy
theorem rest_set {es : List Ent} {q : Nat} {x : Ent} : (es.set q x).take q ++ (es.set q x).drop (q + 1) = es.take q ++ es.drop (q + 1) := by
  rw [List.take_set_of_le (Nat.le_refl _), List.drop_set_of_lt (by omega)]
theorem rest_oth {rp : Int} {n q : Nat} {y : Ent} (h : y ∈ (oth rp n).take q ++ (oth rp n).drop (q + 1)) : ∃ i : Nat, i < n ∧ ¬ i = q ∧ y = (rp, ((i : Nat) : Int), 1, 0, 0, 0, 0, 0, 0, 0, 0, 0, 0, none, 0, []) := by
  rcases List.mem_append.1 h with h | h
  · obtain ⟨i, hi⟩ := List.mem_iff_getElem?.1 h
    rw [List.getElem?_take] at hi
    split at hi
    · rename_i hq
      have hk := (List.getElem?_eq_some_iff.1 hi).1
      rw [oth_len] at hk
      rw [oth_get hk] at hi; injection hi with hi
      exact ⟨i, hk, by omega, hi.symm⟩
    · cases hi
  · obtain ⟨i, hi⟩ := List.mem_iff_getElem?.1 h
    rw [List.getElem?_drop] at hi
    have hk := (List.getElem?_eq_some_iff.1 hi).1
    rw [oth_len] at hk
    rw [oth_get hk] at hi; injection hi with hi
    exact ⟨q + 1 + i, hk, by omega, hi.symm⟩
theorem full_no {q : Nat} (hq : q < 32) : ∀ (i : Nat) (y : Ent), ((oth 0 32).take q ++ (oth 0 32).drop (q + 1) ++ [(0, 99, 1, 0, 0, 0, 0, 0, 0, 0, 0, 0, 0, none, 0, [])])[i]? = some y → fnd 0 ((q : Nat) : Int) y = false := fun i y hy => by
  rcases List.mem_append.1 (List.mem_of_getElem? hy) with h | h
  · obtain ⟨j, hj, hne, rfl⟩ := rest_oth h
    exact fnd_no (fun h => by have h2 := h.2; simp only at h2; omega)
  · rw [List.mem_singleton.1 h]; exact fnd_no (fun h => by have h2 := h.2; simp only at h2; omega)
theorem full_agn {q : Nat} : ∀ (i : Nat) (y : Ent), ((oth 0 32).take q ++ (oth 0 32).drop (q + 1) ++ [(0, 99, 1, 0, 0, 0, 0, 0, 0, 0, 0, 0, 0, none, 0, [])])[i]? = some y → agn y = false := fun i y hy => by
  rcases List.mem_append.1 (List.mem_of_getElem? hy) with h | h
  · obtain ⟨j, hj, hne, rfl⟩ := rest_oth h; rfl
  · rw [List.mem_singleton.1 h]; rfl
theorem full_len {q : Nat} (hq : q < 32) : ((oth 0 32).take q ++ (oth 0 32).drop (q + 1) ++ [((0, 99, 1, 0, 0, 0, 0, 0, 0, 0, 0, 0, 0, none, 0, []) : Ent)]).length = 32 := by
  simp only [List.length_append, List.length_take, List.length_drop, oth_len, List.length_cons, List.length_nil]; omega
theorem full22_4 {w0 w : World} {F : List Chunk} (hS : St w0 w F) (hg : HG w0) (a0 : Int) (h0 : 0 ≤ a0) (hb0 : a0 < 256) :
    Ret Tryd.prog 4 #[.int .u8 a0] w (fun v w' => v = .bool true ∧ St w0 w' F) := by
  obtain ⟨g, rfl⟩ := Int.eq_ofNat_of_zero_le h0
  refine enter (vs := [.int .u8 ((g : Nat) : Int)]) 100 Tryd.func4 rfl rfl (by simp) ?_; intro a hA
  obtain ⟨q, hq⟩ : ∃ q, q = g % 32 := ⟨_, rfl⟩
  have hq2 : q < 32 := by omega
  refine wp_seq ?_
  refine wp_region_lit ?_
  refine st_run tbOk 1 hA (e' := (2, .bool false) :: _) rfl ?_; clear hA; intro a hA
  refine wpList_nil ?_
  replace hA := hA.sel [0] (e' := [(0, .int .u8 ((g : Nat) : Int))]) rfl
  refine xt_norm ?_
  refine wp_seq ?_
  refine wp_seq ?_
  refine wp_region_lit ?_
  refine st_call0 hA rfl rfl rfl isfn5 rfl rfl (by decide) (awake5 hS) ?_
  clear hA hS; rintro v w1 a ⟨rfl, hS⟩ hA
  refine st_run tbOk 1 hA (e' := (19, .bool false) :: _) rfl ?_; clear hA; intro a hA
  refine wpList_nil ?_
  replace hA := hA.sel [0, 19] (e' := [(0, .int .u8 ((g : Nat) : Int)), (19, .bool false)]) rfl
  refine xt_norm ?_
  refine cd_cond_f hA rfl ?_
  refine wp_skip ?_
  refine xt_norm ?_
  refine wp_seq ?_
  refine wp_region_lit ?_
  refine st_run tbOk 1 hA (e' := (20, .agg #[.slice none 0 0]) :: _) rfl ?_; clear hA; intro a hA
  refine st_box hA hS [.slice none 0 0] rfl rfl rfl rfl rfl (by decide) ?_; clear hA hS; intro b2 w3 a hS hA
  obtain ⟨L4, hM5, hS⟩ : ∃ Z, SR b2 [] Z ∧ St w0 w3 (Z :: F) := ⟨_, SR.new _, hS⟩
  replace hS := hS.nil
  refine st_run tbOk 1 hA (e' := (3, .pointer (some ⟨b2, 0, none⟩)) :: _) rfl ?_; clear hA; intro a hA
  refine wpList_nil ?_
  replace hA := hA.sel [0, 3] (e' := [(0, .int .u8 ((g : Nat) : Int)), (3, .pointer (some ⟨b2, 0, none⟩))]) rfl
  refine xt_norm ?_
  refine wp_seq ?_
  refine wp_seq ?_
  refine wp_region_lit ?_
  refine st_run tbOk 1 hA (e' := (4, .int .i64 0) :: _) rfl ?_; clear hA; intro a hA
  refine wpList_nil ?_
  refine xt_norm ?_
  refine wp_block ?_
  have hM6 : SR b2 (oth 0 0) L4 := hM5
  replace hS := hS.front 1 (C := L4) (L' := [] :: F) rfl rfl
  refine wp_loop_ghost (fun m a w => ∃ (k : Nat) (L : Chunk), m = 32 - k ∧ Has a 100 [(0, .int .u8 ((g : Nat) : Int)), (3, .pointer (some ⟨b2, 0, none⟩)), (4, .int .i64 ((k : Nat) : Int))] ∧ St w0 w (L :: [] :: F) ∧ (k ≤ 32) ∧ (SR b2 (oth 0 k) L)) (32 - 0)
    ⟨0, L4, rfl, (hA.sel [0, 3, 4] rfl), hS, Nat.zero_le _, hM6⟩ ?_
  clear hA hS; rintro m0 a w9 ⟨k, L, rfl, hA, hS, hk, hM⟩
  have hol := oth_len 0 k
  refine wp_seq ?_
  refine wp_seq ?_
  refine wp_region_lit ?_
  refine st_run tbOk 2 hA (e' := (23, .bool (decide (((k : Nat) : Int) < 32))) :: (22, .int .i64 ((k : Nat) : Int)) :: _) rfl ?_; clear hA; intro a hA
  refine wpList_nil ?_
  replace hA := hA.sel [0, 3, 4, 23] (e' := [(0, .int .u8 ((g : Nat) : Int)), (3, .pointer (some ⟨b2, 0, none⟩)), (4, .int .i64 ((k : Nat) : Int)), (23, .bool (decide (((k : Nat) : Int) < 32)))]) rfl
  refine xt_norm ?_
  by_cases hc10 : ((k : Nat) : Int) < 32
  · first
    | (exfalso; omega)
    | (replace hA := hA.rw 23 (v' := .bool true) rfl (vb_true hc10)
       refine cd_cond_t hA rfl ?_
       refine wp_skip ?_
       refine xt_norm ?_
       refine wp_seq ?_
       refine wp_block ?_
       refine wp_seq ?_
       refine wp_region_lit ?_
       refine st_run tbOk 3 hA (e' := (29, .int .u32 (IntKind.u32.wrap ((k : Nat) : Int))) :: (28, .int .i64 ((k : Nat) : Int)) :: (27, .pointer (some ⟨b2, 0, none⟩)) :: _) rfl ?_; clear hA; intro a hA
       replace hA := hA.rw 29 (v' := .int .u32 ((k : Nat) : Int)) rfl (vint (wrap_u32 (by omega) (by omega)))
       refine st_run tbOk 1 hA (e' := (30, .agg #[.int .u64 0, .int .u64 0, .int .u32 ((k : Nat) : Int), .int .u16 0, .int .u16 0, .int .u64 0, .int .u32 0, .int .u8 0, .int .u64 0, .int .u64 0, .slice none 0 0]) :: _) rfl ?_; clear hA; intro a hA
       replace hS := hS.front 1 (C := []) (L' := L :: F) rfl rfl
       replace hS := hS.front 1 (C := L) (L' := [] :: F) rfl rfl
       refine st_call0 hA rfl rfl rfl isfn8 rfl rfl (by decide) (take_new8 hS hM 0 0 ((k : Nat) : Int) 0 0 0 0 0 0 0 _ (oth_no1 (fun j hj => by omega)) (by omega)) ?_
       clear hA hS; rintro _ w11 a ⟨L12, hM13, rfl, hS⟩ hA
       refine st_run tbOk 4 hA (e' := (34, .nilIface) :: (33, .agg #[.int .u64 0, .int .u64 0, .int .u32 0, .int .u16 0, .int .u16 0, .int .u64 0, .int .u32 0, .int .u8 0, .int .u64 0, .int .u64 0, .slice none 0 0]) :: (32, .int .i64 0) :: (26, .tuple #[.int .i64 0, .agg #[.int .u64 0, .int .u64 0, .int .u32 0, .int .u16 0, .int .u16 0, .int .u64 0, .int .u32 0, .int .u8 0, .int .u64 0, .int .u64 0, .slice none 0 0], .nilIface]) :: _) rfl ?_; clear hA; intro a hA
       refine st_alloc tbOk hA hS [.int .u64 0, .int .u64 0, .int .u32 0, .int .u16 0, .int .u16 0, .int .u64 0, .int .u32 0, .int .u8 0, .int .u64 0, .int .u64 0, .slice none 0 0] rfl rfl rfl rfl rfl (by decide) ?_; clear hA hS; intro b14 w15 a hS hA
       refine st_run tbOk 1 hA (e' := (5, .int .i64 0) :: _) rfl ?_; clear hA; intro a hA
       refine st_store tbOk hA hS [.int .u64 0, .int .u64 0, .int .u32 0, .int .u16 0, .int .u16 0, .int .u64 0, .int .u32 0, .int .u8 0, .int .u64 0, .int .u64 0, .slice none 0 0] [.int .u64 0, .int .u64 0, .int .u32 0, .int .u16 0, .int .u16 0, .int .u64 0, .int .u32 0, .int .u8 0, .int .u64 0, .int .u64 0, .slice none 0 0] rfl rfl rfl rfl rfl rfl (by simp [Value.oneCell']) (Nat.le_of_ble_eq_true rfl) rfl rfl rfl ?_; clear hS; intro w16 hS
       refine st_run tbOk 1 hA (e' := (7, .nilIface) :: _) rfl ?_; clear hA; intro a hA
       refine wpList_nil ?_
       replace hA := hA.sel [0, 3, 4, 5, 7] (e' := [(0, .int .u8 ((g : Nat) : Int)), (3, .pointer (some ⟨b2, 0, none⟩)), (4, .int .i64 ((k : Nat) : Int)), (5, .int .i64 0), (7, .nilIface)]) rfl
       refine xt_norm ?_
       refine wp_seq ?_
       refine wp_region_lit ?_
       refine st_run tbOk 6 hA (e' := (40, .bool false) :: (39, .bool false) :: (38, .nilIface) :: (37, .bool false) :: (36, .bool false) :: (35, .int .i64 0) :: _) rfl ?_; clear hA; intro a hA
       refine wpList_nil ?_
       replace hA := hA.sel [0, 3, 4, 40] (e' := [(0, .int .u8 ((g : Nat) : Int)), (3, .pointer (some ⟨b2, 0, none⟩)), (4, .int .i64 ((k : Nat) : Int)), (40, .bool false)]) rfl
       refine xt_norm ?_
       refine cd_cond_f hA rfl ?_
       refine wp_skip ?_
       refine xb_norm ?_
       refine xt_norm ?_
       refine wp_region_lit ?_
       refine st_run tbOk 2 hA (e' := (25, .int .i64 (IntKind.i64.wrap (((k : Nat) : Int) + 1))) :: (24, .int .i64 ((k : Nat) : Int)) :: _) rfl ?_; clear hA; intro a hA
       replace hA := hA.rw 25 (v' := .int .i64 ((k + 1 : Nat) : Int)) rfl (wr64 (by omega) (by omega) (by omega))
       refine st_run tbOk 1 hA (e' := (4, .int .i64 ((k + 1 : Nat) : Int)) :: _) rfl ?_; clear hA; intro a hA
       refine wpList_nil ?_
       replace hA := hA.sel [0, 3, 4] (e' := [(0, .int .u8 ((g : Nat) : Int)), (3, .pointer (some ⟨b2, 0, none⟩)), (4, .int .i64 ((k + 1 : Nat) : Int))]) rfl
       have hM17 : SR b2 (oth 0 (k + 1)) L12 := (by rw [oth_succ]; exact hM13)
       replace hS := hS.drop1
       replace hS := hS.front 1 (C := []) (L' := L12 :: F) rfl rfl
       replace hS := hS.front 1 (C := L12) (L' := [] :: F) rfl rfl
       exact lp_next _ (by omega) ⟨(k + 1), L12, rfl, (hA.sel [0, 3, 4] rfl), hS, by omega, hM17⟩)
  · first
    | (exfalso; omega)
    | (replace hA := hA.rw 23 (v' := .bool false) rfl (vb_false hc10)
       refine cd_cond_f hA rfl ?_
       refine wp_exit ?_
       refine xt_exit ?_
       refine xt_exit ?_
       refine cd_exit_eq ?_
       refine xt_norm ?_
       refine wp_seq ?_
       refine wp_region_lit ?_
       have hk32 : k = 32 := by omega
       subst hk32
       refine st_run tbOk 2 hA (e' := (43, .agg #[.int .u64 0, .int .u64 0, .int .u32 99, .int .u16 0, .int .u16 0, .int .u64 0, .int .u32 0, .int .u8 0, .int .u64 0, .int .u64 0, .slice none 0 0]) :: (42, .pointer (some ⟨b2, 0, none⟩)) :: _) rfl ?_; clear hA; intro a hA
       replace hS := hS.front 1 (C := []) (L' := L :: F) rfl rfl
       replace hS := hS.front 1 (C := L) (L' := [] :: F) rfl rfl
       refine st_call0 hA rfl rfl rfl isfn8 rfl rfl (by decide) (take_full8 hS hM 0 0 99 0 0 0 0 0 0 0 _ (oth_no1 (fun j hj => by omega)) (oth_len 0 32) oth_agn) ?_
       clear hA hS; rintro _ w20 a ⟨L21, hM22, rfl, hS⟩ hA
       refine st_run tbOk 4 hA (e' := (47, .iface 48 (.int .i64 5)) :: (46, .agg #[.int .u64 0, .int .u64 0, .int .u32 0, .int .u16 0, .int .u16 0, .int .u64 0, .int .u32 0, .int .u8 0, .int .u64 0, .int .u64 0, .slice none 0 0]) :: (45, .int .i64 0) :: (41, .tuple #[.int .i64 0, .agg #[.int .u64 0, .int .u64 0, .int .u32 0, .int .u16 0, .int .u16 0, .int .u64 0, .int .u32 0, .int .u8 0, .int .u64 0, .int .u64 0, .slice none 0 0], .iface 48 (.int .i64 5)]) :: _) rfl ?_; clear hA; intro a hA
       refine st_alloc tbOk hA hS [.int .u64 0, .int .u64 0, .int .u32 0, .int .u16 0, .int .u16 0, .int .u64 0, .int .u32 0, .int .u8 0, .int .u64 0, .int .u64 0, .slice none 0 0] rfl rfl rfl rfl rfl (by decide) ?_; clear hA hS; intro b23 w24 a hS hA
       refine st_run tbOk 1 hA (e' := (8, .int .i64 0) :: _) rfl ?_; clear hA; intro a hA
       refine st_store tbOk hA hS [.int .u64 0, .int .u64 0, .int .u32 0, .int .u16 0, .int .u16 0, .int .u64 0, .int .u32 0, .int .u8 0, .int .u64 0, .int .u64 0, .slice none 0 0] [.int .u64 0, .int .u64 0, .int .u32 0, .int .u16 0, .int .u16 0, .int .u64 0, .int .u32 0, .int .u8 0, .int .u64 0, .int .u64 0, .slice none 0 0] rfl rfl rfl rfl rfl rfl (by simp [Value.oneCell']) (Nat.le_of_ble_eq_true rfl) rfl rfl rfl ?_; clear hS; intro w25 hS
       refine st_run tbOk 1 hA (e' := (10, .iface 48 (.int .i64 5)) :: _) rfl ?_; clear hA; intro a hA
       refine wpList_nil ?_
       replace hA := hA.sel [0, 3, 10] (e' := [(0, .int .u8 ((g : Nat) : Int)), (3, .pointer (some ⟨b2, 0, none⟩)), (10, .iface 48 (.int .i64 5))]) rfl
       refine xt_norm ?_
       refine wp_seq ?_
       refine wp_region_lit ?_
       refine st_run tbOk 3 hA (e' := (50, .int .u8 (((g : Nat) : Int).tmod 32)) :: (49, .int .u8 ((g : Nat) : Int)) :: (48, .pointer (some ⟨b2, 0, none⟩)) :: _) rfl ?_; clear hA; intro a hA
       replace hA := hA.rw 50 (v' := .int .u8 ((g % 32 : Nat) : Int)) rfl (vint (Int.ofNat_tmod _ _).symm)
       replace hA := hA.rw 50 (v' := .int .u8 ((q : Nat) : Int)) rfl (by rw [hq])
       refine st_run tbOk 1 hA (e' := (51, .int .u32 (IntKind.u32.wrap ((q : Nat) : Int))) :: _) rfl ?_; clear hA; intro a hA
       replace hA := hA.rw 51 (v' := .int .u32 ((q : Nat) : Int)) rfl (vint (wrap_u32 (by omega) (by omega)))
       refine st_run tbOk 2 hA (e' := (53, .agg #[.int .u64 0, .int .u64 0, .int .u32 0, .int .u16 0, .int .u16 0, .int .u64 0, .int .u32 0, .int .u8 0, .int .u64 0, .int .u64 0, .slice none 0 0]) :: (52, .agg #[.int .u64 0, .int .u64 0, .int .u32 ((q : Nat) : Int), .int .u16 0, .int .u16 0, .int .u64 0, .int .u32 0, .int .u8 0, .int .u64 0, .int .u64 0, .slice none 0 0]) :: _) rfl ?_; clear hA; intro a hA
       replace hS := hS.front 2 (C := []) (L' := [(b23, rowO [.int .u64 0, .int .u64 0, .int .u32 0, .int .u16 0, .int .u16 0, .int .u64 0, .int .u32 0, .int .u8 0, .int .u64 0, .int .u64 0, .slice none 0 0] 36)] :: L21 :: F) rfl rfl
       replace hS := hS.front 2 (C := L21) (L' := [] :: [(b23, rowO [.int .u64 0, .int .u64 0, .int .u32 0, .int .u16 0, .int .u16 0, .int .u64 0, .int .u32 0, .int .u8 0, .int .u64 0, .int .u64 0, .slice none 0 0] 36)] :: F) rfl rfl
       refine st_call0 hA rfl rfl rfl isfn6 rfl rfl (by decide) (reply_ok6 hS hM22 0 0 ((q : Nat) : Int) 0 0 0 0 0 0 0 _ 0 0 0 0 0 0 0 0 0 0 (bs := ([] : List UInt8)) RdSX.nil (by first | omega | exact Nat.zero_le _) (k := q) (x := (0, ((q : Nat) : Int), 1, 0, 0, 0, 0, 0, 0, 0, 0, 0, 0, none, 0, [])) (oth_get hq2) (fnd_yes rfl rfl) oth_yes rfl (by rw [oth_len]; decide)) ?_
       clear hA hS; rintro _ w26 a ⟨L27, E29, A30, c31, hM28, hE32, rfl, hS⟩ hA
       refine st_run tbOk 1 hA (e' := (11, .bool true) :: _) rfl ?_; clear hA; intro a hA
       refine wpList_nil ?_
       replace hA := hA.sel [0, 3, 10, 11] (e' := [(0, .int .u8 ((g : Nat) : Int)), (3, .pointer (some ⟨b2, 0, none⟩)), (10, .iface 48 (.int .i64 5)), (11, .bool true)]) rfl
       refine xt_norm ?_
       refine wp_seq ?_
       refine wp_region_lit ?_
       refine st_run tbOk 2 hA (e' := (57, .agg #[.int .u64 0, .int .u64 0, .int .u32 99, .int .u16 0, .int .u16 0, .int .u64 0, .int .u32 0, .int .u8 0, .int .u64 0, .int .u64 0, .slice none 0 0]) :: (56, .pointer (some ⟨b2, 0, none⟩)) :: _) rfl ?_; clear hA; intro a hA
       replace hS := hS.front 1 (C := (E29 ++ [])) (L' := L27 :: [(b23, rowO [.int .u64 0, .int .u64 0, .int .u32 0, .int .u16 0, .int .u16 0, .int .u64 0, .int .u32 0, .int .u8 0, .int .u64 0, .int .u64 0, .slice none 0 0] 36)] :: F) rfl rfl
       replace hS := hS.front 1 (C := L27) (L' := (E29 ++ []) :: [(b23, rowO [.int .u64 0, .int .u64 0, .int .u32 0, .int .u16 0, .int .u16 0, .int .u64 0, .int .u32 0, .int .u8 0, .int .u64 0, .int .u64 0, .slice none 0 0] 36)] :: F) rfl rfl
       refine st_call0 hA rfl rfl rfl isfn8 rfl rfl (by decide) (take_out8 hS hM28 0 0 99 0 0 0 0 0 0 0 _ (set_no (oth_no1 (fun j hj => by omega)) (fnd_no (fun h => by have h2 := h.2; simp only at h2; omega))) (by rw [List.length_set, oth_len]) (j := q) (z := (0, ((q : Nat) : Int), 2, 0, 0, 0, 0, 0, 0, 0, 0, 0, 0, A30, c31, ([] : List UInt8))) (List.getElem?_set_self (by rw [oth_len]; omega)) rfl (set_agn oth_agn)) ?_
       clear hA hS; rintro _ w35 a ⟨L36, hM37, rfl, hS⟩ hA
       have hM38 : SR b2 ((oth 0 32).take q ++ (oth 0 32).drop (q + 1) ++ [(0, 99, 1, 0, 0, 0, 0, 0, 0, 0, 0, 0, 0, none, 0, ([] : List UInt8))]) L36 := (by have h := hM37; rw [rest_set] at h; exact h)
       refine st_run tbOk 4 hA (e' := (61, .nilIface) :: (60, .agg #[.int .u64 0, .int .u64 0, .int .u32 0, .int .u16 0, .int .u16 0, .int .u64 0, .int .u32 0, .int .u8 0, .int .u64 0, .int .u64 0, .slice none 0 0]) :: (59, .int .i64 0) :: (55, .tuple #[.int .i64 0, .agg #[.int .u64 0, .int .u64 0, .int .u32 0, .int .u16 0, .int .u16 0, .int .u64 0, .int .u32 0, .int .u8 0, .int .u64 0, .int .u64 0, .slice none 0 0], .nilIface]) :: _) rfl ?_; clear hA; intro a hA
       refine st_alloc tbOk hA hS [.int .u64 0, .int .u64 0, .int .u32 0, .int .u16 0, .int .u16 0, .int .u64 0, .int .u32 0, .int .u8 0, .int .u64 0, .int .u64 0, .slice none 0 0] rfl rfl rfl rfl rfl (by decide) ?_; clear hA hS; intro b41 w42 a hS hA
       refine st_run tbOk 1 hA (e' := (12, .int .i64 0) :: _) rfl ?_; clear hA; intro a hA
       refine st_store tbOk hA hS [.int .u64 0, .int .u64 0, .int .u32 0, .int .u16 0, .int .u16 0, .int .u64 0, .int .u32 0, .int .u8 0, .int .u64 0, .int .u64 0, .slice none 0 0] [.int .u64 0, .int .u64 0, .int .u32 0, .int .u16 0, .int .u16 0, .int .u64 0, .int .u32 0, .int .u8 0, .int .u64 0, .int .u64 0, .slice none 0 0] rfl rfl rfl rfl rfl rfl (by simp [Value.oneCell']) (Nat.le_of_ble_eq_true rfl) rfl rfl rfl ?_; clear hS; intro w43 hS
       refine st_run tbOk 1 hA (e' := (14, .nilIface) :: _) rfl ?_; clear hA; intro a hA
       refine wpList_nil ?_
       replace hA := hA.sel [0, 3, 10, 11, 12, 14] (e' := [(0, .int .u8 ((g : Nat) : Int)), (3, .pointer (some ⟨b2, 0, none⟩)), (10, .iface 48 (.int .i64 5)), (11, .bool true), (12, .int .i64 0), (14, .nilIface)]) rfl
       refine xt_norm ?_
       refine wp_seq ?_
       refine wp_region_lit ?_
       refine st_run tbOk 3 hA (e' := (65, .int .u8 (((g : Nat) : Int).tmod 32)) :: (64, .int .u8 ((g : Nat) : Int)) :: (63, .pointer (some ⟨b2, 0, none⟩)) :: _) rfl ?_; clear hA; intro a hA
       replace hA := hA.rw 65 (v' := .int .u8 ((g % 32 : Nat) : Int)) rfl (vint (Int.ofNat_tmod _ _).symm)
       replace hA := hA.rw 65 (v' := .int .u8 ((q : Nat) : Int)) rfl (by rw [hq])
       refine st_run tbOk 1 hA (e' := (66, .int .u32 (IntKind.u32.wrap ((q : Nat) : Int))) :: _) rfl ?_; clear hA; intro a hA
       replace hA := hA.rw 66 (v' := .int .u32 ((q : Nat) : Int)) rfl (vint (wrap_u32 (by omega) (by omega)))
       refine st_run tbOk 1 hA (e' := (67, .agg #[.int .u64 0, .int .u64 0, .int .u32 ((q : Nat) : Int), .int .u16 0, .int .u16 0, .int .u64 0, .int .u32 0, .int .u8 0, .int .u64 0, .int .u64 0, .slice none 0 0]) :: _) rfl ?_; clear hA; intro a hA
       replace hS := hS.front 2 (C := (E29 ++ [])) (L' := [(b41, rowO [.int .u64 0, .int .u64 0, .int .u32 0, .int .u16 0, .int .u16 0, .int .u64 0, .int .u32 0, .int .u8 0, .int .u64 0, .int .u64 0, .slice none 0 0] 36)] :: L36 :: [(b23, rowO [.int .u64 0, .int .u64 0, .int .u32 0, .int .u16 0, .int .u16 0, .int .u64 0, .int .u32 0, .int .u8 0, .int .u64 0, .int .u64 0, .slice none 0 0] 36)] :: F) rfl rfl
       replace hS := hS.front 2 (C := L36) (L' := (E29 ++ []) :: [(b41, rowO [.int .u64 0, .int .u64 0, .int .u32 0, .int .u16 0, .int .u16 0, .int .u64 0, .int .u32 0, .int .u8 0, .int .u64 0, .int .u64 0, .slice none 0 0] 36)] :: [(b23, rowO [.int .u64 0, .int .u64 0, .int .u32 0, .int .u16 0, .int .u16 0, .int .u64 0, .int .u32 0, .int .u8 0, .int .u64 0, .int .u64 0, .slice none 0 0] 36)] :: F) rfl rfl
       refine st_call0 hA rfl rfl rfl isfn8 rfl rfl (by decide) (take_full8 hS hM38 0 0 ((q : Nat) : Int) 0 0 0 0 0 0 0 _ (full_no hq2) (full_len hq2) full_agn) ?_
       clear hA hS; rintro _ w44 a ⟨L45, hM46, rfl, hS⟩ hA
       refine st_run tbOk 4 hA (e' := (71, .iface 48 (.int .i64 5)) :: (70, .agg #[.int .u64 0, .int .u64 0, .int .u32 0, .int .u16 0, .int .u16 0, .int .u64 0, .int .u32 0, .int .u8 0, .int .u64 0, .int .u64 0, .slice none 0 0]) :: (69, .int .i64 0) :: (62, .tuple #[.int .i64 0, .agg #[.int .u64 0, .int .u64 0, .int .u32 0, .int .u16 0, .int .u16 0, .int .u64 0, .int .u32 0, .int .u8 0, .int .u64 0, .int .u64 0, .slice none 0 0], .iface 48 (.int .i64 5)]) :: _) rfl ?_; clear hA; intro a hA
       refine st_alloc tbOk hA hS [.int .u64 0, .int .u64 0, .int .u32 0, .int .u16 0, .int .u16 0, .int .u64 0, .int .u32 0, .int .u8 0, .int .u64 0, .int .u64 0, .slice none 0 0] rfl rfl rfl rfl rfl (by decide) ?_; clear hA hS; intro b47 w48 a hS hA
       refine st_run tbOk 1 hA (e' := (15, .int .i64 0) :: _) rfl ?_; clear hA; intro a hA
       refine st_store tbOk hA hS [.int .u64 0, .int .u64 0, .int .u32 0, .int .u16 0, .int .u16 0, .int .u64 0, .int .u32 0, .int .u8 0, .int .u64 0, .int .u64 0, .slice none 0 0] [.int .u64 0, .int .u64 0, .int .u32 0, .int .u16 0, .int .u16 0, .int .u64 0, .int .u32 0, .int .u8 0, .int .u64 0, .int .u64 0, .slice none 0 0] rfl rfl rfl rfl rfl rfl (by simp [Value.oneCell']) (Nat.le_of_ble_eq_true rfl) rfl rfl rfl ?_; clear hS; intro w49 hS
       refine st_run tbOk 1 hA (e' := (17, .iface 48 (.int .i64 5)) :: _) rfl ?_; clear hA; intro a hA
       refine wpList_nil ?_
       replace hA := hA.sel [3, 10, 11, 12, 14, 15, 17] (e' := [(3, .pointer (some ⟨b2, 0, none⟩)), (10, .iface 48 (.int .i64 5)), (11, .bool true), (12, .int .i64 0), (14, .nilIface), (15, .int .i64 0), (17, .iface 48 (.int .i64 5))]) rfl
       refine xt_norm ?_
       refine wp_seq ?_
       refine wp_region_lit ?_
       refine st_run tbOk 1 hA (e' := (72, .iface 48 (.int .i64 5)) :: _) rfl ?_; clear hA; intro a hA
       refine st_call0 hA rfl rfl rfl isfn10 rfl rfl (by decide) (number_hit10 hS hg 5) ?_
       clear hA hS; rintro v w50 a ⟨rfl, hS⟩ hA
       refine st_run tbOk 18 hA (e' := (91, .iface 48 (.int .i64 5)) :: (90, .bool true) :: (89, .bool true) :: (88, .bool true) :: (87, .int .i64 0) :: (86, .bool true) :: (85, .bool true) :: (84, .bool true) :: (83, .nilIface) :: (82, .bool true) :: (81, .bool true) :: (80, .bool true) :: (79, .int .i64 0) :: (78, .bool true) :: (77, .bool true) :: (76, .bool true) :: (75, .bool true) :: (74, .bool true) :: _) rfl ?_; clear hA; intro a hA
       refine st_call0 hA rfl rfl rfl isfn10 rfl rfl (by decide) (number_hit10 hS hg 5) ?_
       clear hA hS; rintro v w51 a ⟨rfl, hS⟩ hA
       refine st_run tbOk 4 hA (e' := (96, .pointer (some ⟨b2, 0, none⟩)) :: (95, .bool true) :: (94, .bool true) :: (93, .bool true) :: _) rfl ?_; clear hA; intro a hA
       replace hS := hS.front 2 (C := (E29 ++ [])) (L' := [(b47, rowO [.int .u64 0, .int .u64 0, .int .u32 0, .int .u16 0, .int .u16 0, .int .u64 0, .int .u32 0, .int .u8 0, .int .u64 0, .int .u64 0, .slice none 0 0] 36)] :: L45 :: [(b41, rowO [.int .u64 0, .int .u64 0, .int .u32 0, .int .u16 0, .int .u16 0, .int .u64 0, .int .u32 0, .int .u8 0, .int .u64 0, .int .u64 0, .slice none 0 0] 36)] :: [(b23, rowO [.int .u64 0, .int .u64 0, .int .u32 0, .int .u16 0, .int .u16 0, .int .u64 0, .int .u32 0, .int .u8 0, .int .u64 0, .int .u64 0, .slice none 0 0] 36)] :: F) rfl rfl
       replace hS := hS.front 2 (C := L45) (L' := (E29 ++ []) :: [(b47, rowO [.int .u64 0, .int .u64 0, .int .u32 0, .int .u16 0, .int .u16 0, .int .u64 0, .int .u32 0, .int .u8 0, .int .u64 0, .int .u64 0, .slice none 0 0] 36)] :: [(b41, rowO [.int .u64 0, .int .u64 0, .int .u32 0, .int .u16 0, .int .u16 0, .int .u64 0, .int .u32 0, .int .u8 0, .int .u64 0, .int .u64 0, .slice none 0 0] 36)] :: [(b23, rowO [.int .u64 0, .int .u64 0, .int .u32 0, .int .u16 0, .int .u16 0, .int .u64 0, .int .u32 0, .int .u8 0, .int .u64 0, .int .u64 0, .slice none 0 0] 36)] :: F) rfl rfl
       refine st_call0 hA rfl rfl rfl isfn11 rfl rfl (by decide) (slen11 hS hM46) ?_
       clear hA hS; rintro _ w52 a ⟨L53, hM54, rfl, hS⟩ hA
       replace hA := hA.rw 97 (v' := .int .i64 32) rfl (by rw [full_len hq2]; rfl)
       refine st_run tbOk 3 hA (e' := (2, .bool true) :: (99, .bool true) :: (98, .bool true) :: _) rfl ?_; clear hA; intro a hA
       refine wpList_nil ?_
       replace hA := hA.sel [2] (e' := [(2, .bool true)]) rfl
       refine xt_norm ?_
       refine wp_ret ?_
       refine ret1 (fn := Tryd.f4) hA rfl rfl ?_
       replace hS := hS.drop1
       replace hS := hS.drop1
       replace hS := hS.drop1
       replace hS := hS.drop1
       replace hS := hS.drop1
       exact ⟨rfl, hS⟩)

end Go.Proofs.YtljcllaploopaaaDoor
