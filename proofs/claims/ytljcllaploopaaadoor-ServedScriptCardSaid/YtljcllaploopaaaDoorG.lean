import Derived.Test.YtljcllaploopaaaDoorProg
import Derived.Test.YtljcllaploopaaaDoorAs
import Derived.Test.YtljcllaploopaaaDoorSK13
set_option linter.unusedVariables false
set_option linter.unusedSimpArgs false
set_option maxRecDepth 4000
namespace Go.Proofs.YtljcllaploopaaaDoor
open Go Go.SK
theorem mixed : Tryd.prog.follows .mixedOrders = true := by kernel_rfl
theorem isfn5 : IsFn Tryd.prog 5 := fun args w => by kernel_rfl
theorem isfn6 : IsFn Tryd.prog 6 := fun args w => by kernel_rfl
theorem isfn7 : IsFn Tryd.prog 7 := fun args w => by kernel_rfl
theorem isfn8 : IsFn Tryd.prog 8 := fun args w => by kernel_rfl
theorem isfn9 : IsFn Tryd.prog 9 := fun args w => by kernel_rfl
theorem isfn10 : IsFn Tryd.prog 10 := fun args w => by kernel_rfl
theorem isfn11 : IsFn Tryd.prog 11 := fun args w => by kernel_rfl
theorem isfn12 : IsFn Tryd.prog 12 := fun args w => by kernel_rfl
theorem isfn13 : IsFn Tryd.prog 13 := fun args w => by kernel_rfl
theorem isfn14 : IsFn Tryd.prog 14 := fun args w => by kernel_rfl
theorem isfn15 : IsFn Tryd.prog 15 := fun args w => by kernel_rfl
theorem isfn16 : IsFn Tryd.prog 16 := fun args w => by kernel_rfl
theorem isfn17 : IsFn Tryd.prog 17 := fun args w => by kernel_rfl
theorem isfn18 : IsFn Tryd.prog 18 := fun args w => by kernel_rfl
noncomputable def tb : List TI := [
  ⟨4, Tryd.t4.desc, 1, 1, .bool false⟩,
  ⟨5, Tryd.t5.desc, 1, 1, .int .u8 0⟩,
  ⟨9, Tryd.t9.desc, 1, 16, .string (⟨#[]⟩ : ByteArray)⟩,
  ⟨22, Tryd.t22.desc, 1, 24, .slice none 0 0⟩,
  ⟨25, Tryd.t25.desc, 1, 24, .slice none 0 0⟩,
  ⟨27, Tryd.t26.desc, 1, 24, .agg #[.slice none 0 0]⟩,
  ⟨28, Tryd.t28.desc, 1, 24, .slice none 0 0⟩,
  ⟨29, Tryd.t29.desc, 1, 8, .int .u64 0⟩,
  ⟨30, Tryd.t30.desc, 1, 4, .int .u32 0⟩,
  ⟨31, Tryd.t31.desc, 1, 2, .int .u16 0⟩,
  ⟨33, Tryd.t32.desc, 4, 24, .agg #[.int .u64 0, .int .u32 0, .int .u8 0, .int .u64 0]⟩,
  ⟨34, Tryd.t34.desc, 1, 24, .slice none 0 0⟩,
  ⟨36, Tryd.t35.desc, 11, 80, .agg #[.int .u64 0, .int .u64 0, .int .u32 0, .int .u16 0, .int .u16 0, .int .u64 0, .int .u32 0, .int .u8 0, .int .u64 0, .int .u64 0, .slice none 0 0]⟩,
  ⟨38, Tryd.t37.desc, 13, 88, .agg #[.int .u8 0, .int .u8 0, .int .u64 0, .int .u64 0, .int .u32 0, .int .u16 0, .int .u16 0, .int .u64 0, .int .u32 0, .int .u8 0, .int .u64 0, .int .u64 0, .slice none 0 0]⟩,
  ⟨40, Tryd.t39.desc, 13, 88, .agg #[.int .u8 0, .bool false, .int .u64 0, .int .u64 0, .int .u32 0, .int .u16 0, .int .u16 0, .int .u64 0, .int .u32 0, .int .u8 0, .int .u64 0, .int .u64 0, .slice none 0 0]⟩,
  ⟨43, Tryd.t3.desc, 1, 8, .int .i64 0⟩,
  ⟨45, Tryd.t44.desc, 1, 16, .nilIface⟩,
  ⟨48, Tryd.t3.desc, 1, 8, .int .i64 0⟩,
  ⟨55, Tryd.t54.desc, 14, 104, .agg #[.int .u64 0, .int .u32 0, .int .i64 0, .int .u64 0, .int .u64 0, .int .u32 0, .int .u16 0, .int .u16 0, .int .u64 0, .int .u32 0, .int .u8 0, .int .u64 0, .int .u64 0, .slice none 0 0]⟩,
  ⟨61, Tryd.t61.desc, 1, 8, .pointer none⟩]
theorem tbOk : TabOk Tryd.prog tb := ⟨
  ⟨by kernel_rfl, Tryd.t4, by kernel_rfl, by kernel_rfl, by kernel_rfl, by kernel_rfl⟩,
  ⟨by kernel_rfl, Tryd.t5, by kernel_rfl, by kernel_rfl, by kernel_rfl, by kernel_rfl⟩,
  ⟨by kernel_rfl, Tryd.t9, by kernel_rfl, by kernel_rfl, by kernel_rfl, by kernel_rfl⟩,
  ⟨by kernel_rfl, Tryd.t22, by kernel_rfl, by kernel_rfl, by kernel_rfl, by kernel_rfl⟩,
  ⟨by kernel_rfl, Tryd.t25, by kernel_rfl, by kernel_rfl, by kernel_rfl, by kernel_rfl⟩,
  ⟨by kernel_rfl, Tryd.t27, by kernel_rfl, by kernel_rfl, by kernel_rfl, by kernel_rfl⟩,
  ⟨by kernel_rfl, Tryd.t28, by kernel_rfl, by kernel_rfl, by kernel_rfl, by kernel_rfl⟩,
  ⟨by kernel_rfl, Tryd.t29, by kernel_rfl, by kernel_rfl, by kernel_rfl, by kernel_rfl⟩,
  ⟨by kernel_rfl, Tryd.t30, by kernel_rfl, by kernel_rfl, by kernel_rfl, by kernel_rfl⟩,
  ⟨by kernel_rfl, Tryd.t31, by kernel_rfl, by kernel_rfl, by kernel_rfl, by kernel_rfl⟩,
  ⟨by kernel_rfl, Tryd.t33, by kernel_rfl, by kernel_rfl, by kernel_rfl, by kernel_rfl⟩,
  ⟨by kernel_rfl, Tryd.t34, by kernel_rfl, by kernel_rfl, by kernel_rfl, by kernel_rfl⟩,
  ⟨by kernel_rfl, Tryd.t36, by kernel_rfl, by kernel_rfl, by kernel_rfl, by kernel_rfl⟩,
  ⟨by kernel_rfl, Tryd.t38, by kernel_rfl, by kernel_rfl, by kernel_rfl, by kernel_rfl⟩,
  ⟨by kernel_rfl, Tryd.t40, by kernel_rfl, by kernel_rfl, by kernel_rfl, by kernel_rfl⟩,
  ⟨by kernel_rfl, Tryd.t43, by kernel_rfl, by kernel_rfl, by kernel_rfl, by kernel_rfl⟩,
  ⟨by kernel_rfl, Tryd.t45, by kernel_rfl, by kernel_rfl, by kernel_rfl, by kernel_rfl⟩,
  ⟨by kernel_rfl, Tryd.t48, by kernel_rfl, by kernel_rfl, by kernel_rfl, by kernel_rfl⟩,
  ⟨by kernel_rfl, Tryd.t55, by kernel_rfl, by kernel_rfl, by kernel_rfl, by kernel_rfl⟩,
  ⟨by kernel_rfl, Tryd.t61, by kernel_rfl, by kernel_rfl, by kernel_rfl, by kernel_rfl⟩,
  trivial⟩
def encMessage (x : Int × Int × Int × Int × Int × Int × Int × Int × Int × Int × Option Addr × Nat × List UInt8) : List Value := [.int .u64 x.1, .int .u64 x.2.1, .int .u32 x.2.2.1, .int .u16 x.2.2.2.1, .int .u16 x.2.2.2.2.1, .int .u64 x.2.2.2.2.2.1, .int .u32 x.2.2.2.2.2.2.1, .int .u8 x.2.2.2.2.2.2.2.1, .int .u64 x.2.2.2.2.2.2.2.2.1, .int .u64 x.2.2.2.2.2.2.2.2.2.1, .slice x.2.2.2.2.2.2.2.2.2.2.1 x.2.2.2.2.2.2.2.2.2.2.2.2.length x.2.2.2.2.2.2.2.2.2.2.2.1]
theorem encMessage_ok : Enc encMessage 11 := ⟨fun _ => rfl, fun x u hu => by simp only [encMessage, List.mem_cons, List.not_mem_nil, or_false] at hu; rcases hu with rfl | rfl | rfl | rfl | rfl | rfl | rfl | rfl | rfl | rfl | rfl <;> rfl⟩
def encMessage_dd (w0 : World) (D : Chunk) (x : Int × Int × Int × Int × Int × Int × Int × Int × Int × Int × Option Addr × Nat × List UInt8) : Prop := DD w0 D x.2.2.2.2.2.2.2.2.2.2.1 x.2.2.2.2.2.2.2.2.2.2.2.1 x.2.2.2.2.2.2.2.2.2.2.2.2
theorem encMessage_left {w0 : World} {D E : Chunk} {x : Int × Int × Int × Int × Int × Int × Int × Int × Int × Int × Option Addr × Nat × List UInt8} (h : encMessage_dd w0 D x) : encMessage_dd w0 (E ++ D) x := DD.left h
theorem encMessage_lefts {w0 : World} {D E : Chunk} {l : List (Int × Int × Int × Int × Int × Int × Int × Int × Int × Int × Option Addr × Nat × List UInt8)} (h : ∀ x ∈ l, encMessage_dd w0 D x) : ∀ x ∈ l, encMessage_dd w0 (E ++ D) x := fun x hx => encMessage_left (h x hx)

def encEntry (x : Int × Int × Int × Int × Int × Int × Int × Int × Int × Int × Int × Int × Int × Option Addr × Nat × List UInt8) : List Value := [.int .u64 x.1, .int .u32 x.2.1, .int .i64 x.2.2.1, .int .u64 x.2.2.2.1, .int .u64 x.2.2.2.2.1, .int .u32 x.2.2.2.2.2.1, .int .u16 x.2.2.2.2.2.2.1, .int .u16 x.2.2.2.2.2.2.2.1, .int .u64 x.2.2.2.2.2.2.2.2.1, .int .u32 x.2.2.2.2.2.2.2.2.2.1, .int .u8 x.2.2.2.2.2.2.2.2.2.2.1, .int .u64 x.2.2.2.2.2.2.2.2.2.2.2.1, .int .u64 x.2.2.2.2.2.2.2.2.2.2.2.2.1, .slice x.2.2.2.2.2.2.2.2.2.2.2.2.2.1 x.2.2.2.2.2.2.2.2.2.2.2.2.2.2.2.length x.2.2.2.2.2.2.2.2.2.2.2.2.2.2.1]
theorem encEntry_ok : Enc encEntry 14 := ⟨fun _ => rfl, fun x u hu => by simp only [encEntry, List.mem_cons, List.not_mem_nil, or_false] at hu; rcases hu with rfl | rfl | rfl | rfl | rfl | rfl | rfl | rfl | rfl | rfl | rfl | rfl | rfl | rfl <;> rfl⟩
def encEntry_dd (w0 : World) (D : Chunk) (x : Int × Int × Int × Int × Int × Int × Int × Int × Int × Int × Int × Int × Int × Option Addr × Nat × List UInt8) : Prop := DD w0 D x.2.2.2.2.2.2.2.2.2.2.2.2.2.1 x.2.2.2.2.2.2.2.2.2.2.2.2.2.2.1 x.2.2.2.2.2.2.2.2.2.2.2.2.2.2.2
theorem encEntry_left {w0 : World} {D E : Chunk} {x : Int × Int × Int × Int × Int × Int × Int × Int × Int × Int × Int × Int × Int × Option Addr × Nat × List UInt8} (h : encEntry_dd w0 D x) : encEntry_dd w0 (E ++ D) x := DD.left h
theorem encEntry_lefts {w0 : World} {D E : Chunk} {l : List (Int × Int × Int × Int × Int × Int × Int × Int × Int × Int × Int × Int × Int × Option Addr × Nat × List UInt8)} (h : ∀ x ∈ l, encEntry_dd w0 D x) : ∀ x ∈ l, encEntry_dd w0 (E ++ D) x := fun x hx => encEntry_left (h x hx)

def encLEnt (x : Int × Bool × Int × Int × Int × Int × Int × Int × Int × Int × Int × Int × Option Addr × Nat × List UInt8) : List Value := [.int .u8 x.1, .bool x.2.1, .int .u64 x.2.2.1, .int .u64 x.2.2.2.1, .int .u32 x.2.2.2.2.1, .int .u16 x.2.2.2.2.2.1, .int .u16 x.2.2.2.2.2.2.1, .int .u64 x.2.2.2.2.2.2.2.1, .int .u32 x.2.2.2.2.2.2.2.2.1, .int .u8 x.2.2.2.2.2.2.2.2.2.1, .int .u64 x.2.2.2.2.2.2.2.2.2.2.1, .int .u64 x.2.2.2.2.2.2.2.2.2.2.2.1, .slice x.2.2.2.2.2.2.2.2.2.2.2.2.1 x.2.2.2.2.2.2.2.2.2.2.2.2.2.2.length x.2.2.2.2.2.2.2.2.2.2.2.2.2.1]
theorem encLEnt_ok : Enc encLEnt 13 := ⟨fun _ => rfl, fun x u hu => by simp only [encLEnt, List.mem_cons, List.not_mem_nil, or_false] at hu; rcases hu with rfl | rfl | rfl | rfl | rfl | rfl | rfl | rfl | rfl | rfl | rfl | rfl | rfl <;> rfl⟩
def encLEnt_dd (w0 : World) (D : Chunk) (x : Int × Bool × Int × Int × Int × Int × Int × Int × Int × Int × Int × Int × Option Addr × Nat × List UInt8) : Prop := DD w0 D x.2.2.2.2.2.2.2.2.2.2.2.2.1 x.2.2.2.2.2.2.2.2.2.2.2.2.2.1 x.2.2.2.2.2.2.2.2.2.2.2.2.2.2
theorem encLEnt_left {w0 : World} {D E : Chunk} {x : Int × Bool × Int × Int × Int × Int × Int × Int × Int × Int × Int × Int × Option Addr × Nat × List UInt8} (h : encLEnt_dd w0 D x) : encLEnt_dd w0 (E ++ D) x := DD.left h
theorem encLEnt_lefts {w0 : World} {D E : Chunk} {l : List (Int × Bool × Int × Int × Int × Int × Int × Int × Int × Int × Int × Int × Option Addr × Nat × List UInt8)} (h : ∀ x ∈ l, encLEnt_dd w0 D x) : ∀ x ∈ l, encLEnt_dd w0 (E ++ D) x := fun x hx => encLEnt_left (h x hx)

abbrev Msg := Int × Int × Int × Int × Int × Int × Int × Int × Int × Int × Option Addr × Nat × List UInt8
def mdat (x : Msg) : List UInt8 := x.2.2.2.2.2.2.2.2.2.2.2.2

abbrev Ent := Int × Int × Int × Int × Int × Int × Int × Int × Int × Int × Int × Int × Int × Option Addr × Nat × List UInt8
def fnd (rp id : Int) (x : Ent) : Bool := x.1 == rp && x.2.1 == id
def agn (x : Ent) : Bool := x.2.2.1 == 2
/-- What is remembered, at a block. -/
def SR (b : Nat) (es : List Ent) (L : Chunk) : Prop := ∃ v C, Own 55 14 v es.length (rows encEntry es) C ∧ L = (b, rowO [v] 27) :: C
theorem SR.new (b : Nat) : SR b [] [(b, rowO [.slice none 0 0] 27)] := ⟨_, [], Own.nil _ _, rfl⟩
theorem set_mem_dd {w0 : World} {D E : Chunk} {es : List Ent} {k : Nat} {x : Ent} (h : ∀ y ∈ es, encEntry_dd w0 D y) (hx : encEntry_dd w0 (E ++ D) x) : ∀ y ∈ es.set k x, encEntry_dd w0 (E ++ D) y := fun y hy => by
  rcases List.mem_or_eq_of_mem_set hy with hy | rfl
  · exact encEntry_left (h y hy)
  · exact hx
theorem add_mem_dd {w0 : World} {D : Chunk} {es : List Ent} {a0 a1 a2 a3 a4 a5 a6 a7 a8 a9 a10 a11 a12 : Int} (h : ∀ y ∈ es, encEntry_dd w0 D y) : ∀ y ∈ es ++ [(a0, a1, a2, a3, a4, a5, a6, a7, a8, a9, a10, a11, a12, none, 0, [])], encEntry_dd w0 D y := fun y hy => by
  rcases List.mem_append.1 hy with hy | hy
  · exact h y hy
  · rw [List.mem_singleton.1 hy]; exact DD.nil

theorem indexFunc14 {w0 w : World} {F : List Chunk} (hS : St w0 w F) {v : Value} {l : List (Int × Int × Int × Int × Int × Int × Int × Int × Int × Int × Int × Int × Int × Option Addr × Nat × List UInt8)} (hr : RdS w0 F 14 v l.length (rows encEntry l)) {g : Nat} {first cap : Array Value} {p : (Int × Int × Int × Int × Int × Int × Int × Int × Int × Int × Int × Int × Int × Option Addr × Nat × List UInt8) → Bool} (hg : IsFn Tryd.prog g) (hp : Pred Tryd.prog w0 F g first cap (fun x => .agg (encEntry x).toArray) p) :
    Ret Tryd.prog 14 #[v, .func (.func g) first cap] w (fun v w' => v = .int .i64 (idx p l) ∧ St w0 w' F) := by
  obtain ⟨A, c, rfl, hmc, hcx⟩ := (hr w hS).open'
  refine enter (vs := [.slice A l.length c, .func (.func g) first cap]) 19 Tryd.func14 rfl rfl (by simp) ?_; intro a hA
  refine wp_seq ?_
  refine wp_region_lit ?_
  refine st_run tbOk 1 hA (e' := (4, .int .i64 0) :: _) rfl ?_; clear hA; intro a hA
  refine wpList_nil ?_
  replace hA := hA.sel [0, 1] (e' := [(0, .slice A l.length c), (1, .func (.func g) first cap)]) rfl
  refine xt_norm ?_
  refine wp_seq ?_
  refine wp_seq ?_
  refine wp_region_lit ?_
  refine st_run tbOk 3 hA (e' := (8, .int .i64 0) :: (7, .int .i64 ((l.length : Nat) : Int)) :: (6, .slice A l.length c) :: _) rfl ?_; clear hA; intro a hA
  refine wpList_nil ?_
  replace hA := hA.sel [0, 1, 7, 8] (e' := [(0, .slice A l.length c), (1, .func (.func g) first cap), (7, .int .i64 ((l.length : Nat) : Int)), (8, .int .i64 0)]) rfl
  refine xt_norm ?_
  refine wp_block ?_
  refine wp_loop_ghost (fun m a w => ∃ (k : Nat), m = l.length - k ∧ Has a 19 [(0, .slice A l.length c), (1, .func (.func g) first cap), (7, .int .i64 ((l.length : Nat) : Int)), (8, .int .i64 ((k : Nat) : Int))] ∧ St w0 w (F) ∧ (k ≤ l.length) ∧ (∀ (i : Nat) (y : (Int × Int × Int × Int × Int × Int × Int × Int × Int × Int × Int × Int × Int × Option Addr × Nat × List UInt8)), i < k → l[i]? = some y → p y = false)) (l.length - 0)
    ⟨0, rfl, (hA.sel [0, 1, 7, 8] rfl), hS, Nat.zero_le _, fun i y hi => absurd hi (by omega)⟩ ?_
  clear hA hS; rintro m0 a w1 ⟨k, rfl, hA, hS, hk, hb⟩
  refine wp_seq ?_
  refine wp_region_lit ?_
  refine st_run tbOk 1 hA (e' := (9, .bool (decide (((k : Nat) : Int) < ((l.length : Nat) : Int)))) :: _) rfl ?_; clear hA; intro a hA
  refine wpList_nil ?_
  refine xt_norm ?_
  refine wp_seq ?_
  by_cases hc2 : ((k : Nat) : Int) < ((l.length : Nat) : Int)
  · first
    | (exfalso; omega)
    | (replace hA := hA.rw 9 (v' := .bool true) rfl (vb_true hc2)
       refine cd_cond_t hA rfl ?_
       refine wp_skip ?_
       refine xt_norm ?_
       refine wp_seq ?_
       refine wp_block ?_
       refine wp_seq ?_
       refine wp_region_lit ?_
       refine st_run tbOk 2 hA (e' := (5, .int .i64 ((k : Nat) : Int)) :: (10, .int .i64 ((k : Nat) : Int)) :: _) rfl ?_; clear hA; intro a hA
       refine wpList_nil ?_
       replace hA := hA.sel [0, 1, 5, 7, 8] (e' := [(0, .slice A l.length c), (1, .func (.func g) first cap), (5, .int .i64 ((k : Nat) : Int)), (7, .int .i64 ((l.length : Nat) : Int)), (8, .int .i64 ((k : Nat) : Int))]) rfl
       refine xt_norm ?_
       refine wp_seq ?_
       refine wp_region_lit ?_
       refine st_run tbOk 3 hA (e' := (13, .int .i64 ((k : Nat) : Int)) :: (12, .slice A l.length c) :: (11, .func (.func g) first cap) :: _) rfl ?_; clear hA; intro a hA
       obtain ⟨b3, o4, rfl⟩ := (hr _ hS).isSome (k := k) (by omega)
       refine st_val hA rfl rfl (by decide) (rn_indexAddr tbOk hA k (o4 + (k * 14)) rfl rfl rfl rfl rfl rfl (by rfl) (by omega) (by first | rfl | simp [Nat.mul_one, Nat.zero_add] | omega)) ?_; clear hA; intro a hA
       obtain ⟨x5, hx5⟩ := get_ex (l := l) (k := k) (by omega)
       obtain ⟨x5f0, x5f1, x5f2, x5f3, x5f4, x5f5, x5f6, x5f7, x5f8, x5f9, x5f10, x5f11, x5f12, x5A13, x5c13, x5b13⟩ := x5
       refine st_val hA rfl rfl (by decide) (rn_loadA tbOk hA ([.int .u64 x5f0, .int .u32 x5f1, .int .i64 x5f2, .int .u64 x5f3, .int .u64 x5f4, .int .u32 x5f5, .int .u16 x5f6, .int .u16 x5f7, .int .u64 x5f8, .int .u32 x5f9, .int .u8 x5f10, .int .u64 x5f11, .int .u64 x5f12, .slice x5A13 x5b13.length x5c13]) rfl rfl rfl rfl (by rfl) ((hr _ hS).elem (k := k) encEntry_ok hx5)) ?_; clear hA; intro a hA
       refine st_call hA rfl rfl rfl rfl hg rfl rfl (by decide) (hp _ (x5f0, x5f1, x5f2, x5f3, x5f4, x5f5, x5f6, x5f7, x5f8, x5f9, x5f10, x5f11, x5f12, x5A13, x5c13, x5b13) hS) ?_
       clear hA; rintro v w6 a ⟨rfl, hS'⟩ hA; replace hS : St w0 w6 (F) := hS.trans hS'
       refine wpList_nil ?_
       replace hA := hA.sel [0, 1, 5, 7, 8, 16] (e' := [(0, .slice (some ⟨b3, o4, none⟩) l.length c), (1, .func (.func g) first cap), (5, .int .i64 ((k : Nat) : Int)), (7, .int .i64 ((l.length : Nat) : Int)), (8, .int .i64 ((k : Nat) : Int)), (16, .bool (p (x5f0, x5f1, x5f2, x5f3, x5f4, x5f5, x5f6, x5f7, x5f8, x5f9, x5f10, x5f11, x5f12, x5A13, x5c13, x5b13)))]) rfl
       refine xt_norm ?_
       by_cases hpx : (p (x5f0, x5f1, x5f2, x5f3, x5f4, x5f5, x5f6, x5f7, x5f8, x5f9, x5f10, x5f11, x5f12, x5A13, x5c13, x5b13)) = true
       · first
         | (exfalso; omega)
         | (replace hA := hA.rw 16 (v' := .bool true) rfl (vb_t hpx)
            refine cd_cond_t hA rfl ?_
            refine wp_seq ?_
            refine wp_region_lit ?_
            refine st_run tbOk 2 hA (e' := (4, .int .i64 ((k : Nat) : Int)) :: (17, .int .i64 ((k : Nat) : Int)) :: _) rfl ?_; clear hA; intro a hA
            refine wpList_nil ?_
            replace hA := hA.sel [4] (e' := [(4, .int .i64 ((k : Nat) : Int))]) rfl
            refine xt_norm ?_
            refine wp_ret (xb_ret (xt_ret (xt_ret (xb_ret (xt_ret ?_)))))
            refine ret1 (fn := Tryd.f14) hA rfl rfl ?_
            exact ⟨vint (idx_some hx5 hpx (fun i y hi hy => hb i y hi hy)).symm, hS⟩)
       · first
         | (exfalso; omega)
         | (replace hA := hA.rw 16 (v' := .bool false) rfl (vb_f hpx)
            refine cd_cond_f hA rfl ?_
            refine wp_skip ?_
            refine xb_norm ?_
            refine xt_norm ?_
            refine wp_region_lit ?_
            refine st_run tbOk 1 hA (e' := (18, .int .i64 (IntKind.i64.wrap (((k : Nat) : Int) + 1))) :: _) rfl ?_; clear hA; intro a hA
            replace hA := hA.rw 18 (v' := .int .i64 ((k + 1 : Nat) : Int)) rfl (wr64 (by omega) (by omega) (by omega))
            refine st_run tbOk 1 hA (e' := (8, .int .i64 ((k + 1 : Nat) : Int)) :: _) rfl ?_; clear hA; intro a hA
            refine wpList_nil ?_
            replace hA := hA.sel [0, 1, 7, 8] (e' := [(0, .slice (some ⟨b3, o4, none⟩) l.length c), (1, .func (.func g) first cap), (7, .int .i64 ((l.length : Nat) : Int)), (8, .int .i64 ((k + 1 : Nat) : Int))]) rfl
            exact lp_next _ (by omega) ⟨(k + 1), rfl, (hA.sel [0, 1, 7, 8] rfl), hS, by omega, fun i y hi hy => (Nat.lt_succ_iff_lt_or_eq.1 hi).elim (fun h => hb i y h hy) (fun h => by subst h; rw [hx5] at hy; injection hy with hy; subst hy; simpa using hpx)⟩))
  · first
    | (exfalso; omega)
    | (replace hA := hA.rw 9 (v' := .bool false) rfl (vb_false hc2)
       refine cd_cond_f hA rfl ?_
       refine wp_exit ?_
       refine xt_exit ?_
       refine xt_exit ?_
       refine cd_exit_eq ?_
       refine xt_norm ?_
       refine wp_seq ?_
       refine wp_region_lit ?_
       refine st_run tbOk 1 hA (e' := (4, .int .i64 (-1)) :: _) rfl ?_; clear hA; intro a hA
       refine wpList_nil ?_
       replace hA := hA.sel [4] (e' := [(4, .int .i64 (-1))]) rfl
       refine xt_norm ?_
       refine wp_ret ?_
       refine ret1 (fn := Tryd.f14) hA rfl rfl ?_
       exact ⟨vint (idx_none (fun i y hy => hb i y (by have := (List.getElem?_eq_some_iff.1 hy).1; omega) hy)).symm, hS⟩)

theorem delete16 {w0 w : World} {F : List Chunk} {C : Chunk} (hS : St w0 w (C :: F)) {v : Value} {l : List (Int × Int × Int × Int × Int × Int × Int × Int × Int × Int × Int × Int × Int × Option Addr × Nat × List UInt8)} (hO : Own 55 14 v l.length (rows encEntry l) C) (i j : Nat) (hij : i ≤ j) (hj : j ≤ l.length) :
    Ret Tryd.prog 16 #[v, .int .i64 ((i : Nat) : Int), .int .i64 ((j : Nat) : Int)] w (fun v w' => ∃ C', Own 55 14 v (l.take i ++ l.drop j).length (rows encEntry (l.take i ++ l.drop j)) C' ∧ St w0 w' (C' :: F)) := by
  obtain ⟨A, c, rfl, hmc, hcx⟩ := hO.open'
  refine enter (vs := [.slice A l.length c, .int .i64 ((i : Nat) : Int), .int .i64 ((j : Nat) : Int)]) 33 Tryd.func16 rfl rfl (by simp) ?_; intro a hA
  refine wp_seq ?_
  refine wp_region_lit ?_
  refine st_run tbOk 1 hA (e' := (6, .slice none 0 0) :: _) rfl ?_; clear hA; intro a hA
  refine wpList_nil ?_
  replace hA := hA.sel [0, 1, 2] (e' := [(0, .slice A l.length c), (1, .int .i64 ((i : Nat) : Int)), (2, .int .i64 ((j : Nat) : Int))]) rfl
  refine xt_norm ?_
  refine wp_seq ?_
  refine wp_region_lit ?_
  refine st_run tbOk 5 hA (e' := (12, .int .i64 ((l.length : Nat) : Int)) :: (11, .slice A l.length c) :: (10, .int .i64 ((j : Nat) : Int)) :: (9, .int .i64 ((i : Nat) : Int)) :: (8, .slice A l.length c) :: _) rfl ?_; clear hA; intro a hA
  refine st_val hA rfl rfl (by decide) (rn_slice_lhm tbOk hA i j l.length rfl rfl rfl rfl rfl rfl rfl rfl (by rfl) (by rfl) (by rfl) (by omega) (by omega) (by omega)) ?_; clear hA; intro a hA
  refine wpList_nil ?_
  replace hA := hA.sel [0, 1, 2] (e' := [(0, .slice A l.length c), (1, .int .i64 ((i : Nat) : Int)), (2, .int .i64 ((j : Nat) : Int))]) rfl
  refine xt_norm ?_
  refine wp_seq ?_
  refine wp_seq ?_
  refine wp_region_lit ?_
  refine st_run tbOk 3 hA (e' := (16, .bool (((i : Nat) : Int) == ((j : Nat) : Int))) :: (15, .int .i64 ((j : Nat) : Int)) :: (14, .int .i64 ((i : Nat) : Int)) :: _) rfl ?_; clear hA; intro a hA
  refine wpList_nil ?_
  replace hA := hA.sel [0, 1, 2, 16] (e' := [(0, .slice A l.length c), (1, .int .i64 ((i : Nat) : Int)), (2, .int .i64 ((j : Nat) : Int)), (16, .bool (((i : Nat) : Int) == ((j : Nat) : Int)))]) rfl
  refine xt_norm ?_
  by_cases hc1 : ((i : Nat) : Int) = ((j : Nat) : Int)
  · first
    | (exfalso; omega)
    | (replace hA := hA.rw 16 (v' := .bool true) rfl (vb_eq_t hc1)
       refine cd_cond_t hA rfl ?_
       refine wp_seq ?_
       refine wp_region_lit ?_
       refine st_run tbOk 2 hA (e' := (6, .slice A l.length c) :: (17, .slice A l.length c) :: _) rfl ?_; clear hA; intro a hA
       refine wpList_nil ?_
       replace hA := hA.sel [6] (e' := [(6, .slice A l.length c)]) rfl
       refine xt_norm ?_
       refine wp_ret (xt_ret ?_)
       refine ret1 (fn := Tryd.f16) hA rfl rfl ?_
       have e0 : l.take i ++ l.drop j = l := by rw [show j = i by omega, List.take_append_drop]
       exact ⟨C, by rw [e0]; exact hO, hS⟩)
  · first
    | (exfalso; omega)
    | (replace hA := hA.rw 16 (v' := .bool false) rfl (vb_eq_f hc1)
       refine cd_cond_f hA rfl ?_
       refine wp_skip ?_
       refine xt_norm ?_
       refine wp_seq ?_
       refine wp_region_lit ?_
       refine st_run tbOk 3 hA (e' := (7, .int .i64 ((l.length : Nat) : Int)) :: (19, .int .i64 ((l.length : Nat) : Int)) :: (18, .slice A l.length c) :: _) rfl ?_; clear hA; intro a hA
       refine wpList_nil ?_
       replace hA := hA.sel [0, 1, 2, 7] (e' := [(0, .slice A l.length c), (1, .int .i64 ((i : Nat) : Int)), (2, .int .i64 ((j : Nat) : Int)), (7, .int .i64 ((l.length : Nat) : Int))]) rfl
       refine xt_norm ?_
       refine wp_seq ?_
       refine wp_draw (fun w' => St w0 w' (F)) [] [(0, true), (1, true), (2, true), (3, true), (4, true), (5, true), (6, false), (7, true)] mixed (by kernel_rfl) (by rintro c a w ⟨_, _, h, _⟩; cases h) (by rfl) (by kernel_rfl) ?_
       replace hS := hS.drew
       refine dr_run tbOk 2 hA (hS.tail 1 rfl) (e' := (21, .int .i64 ((i : Nat) : Int)) :: (20, .slice A l.length c) :: _) rfl ?_; clear hA; intro a hA
       refine dr_y hA rfl rfl rfl (by decide) (hS.tail 1 rfl) (fun w' hS' => rn_slice_h tbOk hA i rfl rfl rfl rfl rfl rfl (by rfl) (by omega)) ?_; clear hA; intro a hA
       refine dr_run tbOk 2 hA (hS.tail 1 rfl) (e' := (24, .int .i64 ((j : Nat) : Int)) :: (23, .slice A l.length c) :: _) rfl ?_; clear hA; intro a hA
       refine dr_y hA rfl rfl rfl (by decide) (hS.tail 1 rfl) (fun w' hS' => rn_slice_l tbOk hA j rfl rfl rfl rfl rfl rfl (by rfl) (by omega)) ?_; clear hA; intro a hA
       refine dr_b (o := _) rfl ?_
       refine st_append_rm tbOk hA (m := i) (q := ((l.take l.length).drop j).length) (c := c) (xs := (rows encEntry l).take (i * 14)) (news := rows encEntry ((l.take l.length).drop j)) rfl rfl rfl rfl rfl rfl rfl (hO.head i (by omega)) hS ((hO.rd (hS.own_ 0 rfl)).rslv encEntry_ok j l.length c (by omega) (by omega) (by omega) (by omega)) (rows_one encEntry_ok _) (by simp; omega) rfl rfl (by decide) ?_
       clear hA hS; intro w2 C3 a hO3 hS hA
       have e1 : i + ((l.take l.length).drop j).length = (l.take i ++ l.drop j).length := by simp; omega
       have e2 : (rows encEntry l).take (i * 14) ++ rows encEntry ((l.take l.length).drop j) = rows encEntry (l.take i ++ l.drop j) := by rw [rows_take encEntry_ok, rows_append, List.take_length]
       rw [e2, e1] at hO3
       rw [e1] at hA
       have e3 : (l.take i ++ l.drop j).length ≤ l.length := by simp; omega
       refine dr_nil (.inr (hS.tail 1 rfl)) ?_
       refine dr_run tbOk 1 hA (hS.tail 1 rfl) (e' := (0, .slice A ((l.take i ++ l.drop j).length) c) :: _) rfl ?_; clear hA; intro a hA
       refine dr_end ?_
       replace hA := hA.sel [0, 7] (e' := [(0, .slice A ((l.take i ++ l.drop j).length) c), (7, .int .i64 ((l.length : Nat) : Int))]) rfl
       refine xt_norm ?_
       refine wp_seq ?_
       refine wp_region_lit ?_
       refine st_run tbOk 4 hA (e' := (30, .int .i64 ((l.length : Nat) : Int)) :: (29, .int .i64 (((l.take i ++ l.drop j).length : Nat) : Int)) :: (28, .slice A ((l.take i ++ l.drop j).length) c) :: (27, .slice A ((l.take i ++ l.drop j).length) c) :: _) rfl ?_; clear hA; intro a hA
       refine st_val hA rfl rfl (by decide) (rn_slice_lh tbOk hA ((l.take i ++ l.drop j).length) l.length rfl rfl rfl rfl rfl rfl rfl (by rfl) (by rfl) (by omega) (by omega)) ?_; clear hA; intro a hA
       refine st_clear tbOk hA (h := (l.take i ++ l.drop j).length) (old := l.length) (c := c) rfl rfl rfl rfl rfl rfl (fun u hu => List.all_eq_true.1 (by rfl) u hu) hO3 hS (by omega) (by omega) rfl rfl ?_; clear hS; intro w4 C5 hO5 hS
       refine wpList_nil ?_
       replace hA := hA.sel [0] (e' := [(0, .slice A ((l.take i ++ l.drop j).length) c)]) rfl
       refine xt_norm ?_
       refine wp_seq ?_
       refine wp_region_lit ?_
       refine st_run tbOk 2 hA (e' := (6, .slice A ((l.take i ++ l.drop j).length) c) :: (32, .slice A ((l.take i ++ l.drop j).length) c) :: _) rfl ?_; clear hA; intro a hA
       refine wpList_nil ?_
       replace hA := hA.sel [6] (e' := [(6, .slice A ((l.take i ++ l.drop j).length) c)]) rfl
       refine xt_norm ?_
       refine wp_ret ?_
       refine ret1 (fn := Tryd.f16) hA rfl rfl ?_
       exact ⟨_, hO5, hS⟩)

theorem clonex13 {w0 w : World} {F : List Chunk} (hS : St w0 w F) {v : Value} {l : List UInt8} (hr : RdSX w0 F 1 v l.length (rows encB l)) (hb : l.length ≤ 140737488351232) :
    Ret Tryd.prog 13 #[v] w (fun v w' => ∃ A c C, Own 5 1 (.slice A l.length c) l.length (rows encB l) C ∧ v = .slice A l.length c ∧ St w0 w' (C :: F)) := by
  obtain ⟨hl0, ⟨rfl, h0⟩ | ⟨ad, c, rfl, hmc, hcx, hcells⟩⟩ := hr w hS
  all_goals clear hl0
  · obtain rfl := List.eq_nil_of_length_eq_zero h0
    refine enter (vs := [.slice none 0 0]) 8 Tryd.func13 rfl rfl (by simp) ?_; intro a hA
    refine wp_seq ?_
    refine wp_region_lit ?_
    refine st_run tbOk 1 hA (e' := (2, .slice none 0 0) :: _) rfl ?_; clear hA; intro a hA
    refine wpList_nil ?_
    replace hA := hA.sel [0] (e' := [(0, .slice none 0 0)]) rfl
    refine xt_norm ?_
    refine wp_seq ?_
    refine wp_seq ?_
    refine wp_region_lit ?_
    refine st_run tbOk 2 hA (e' := (4, .bool true) :: (3, .slice none 0 0) :: _) rfl ?_; clear hA; intro a hA
    refine wpList_nil ?_
    replace hA := hA.sel [0, 4] (e' := [(0, .slice none 0 0), (4, .bool true)]) rfl
    refine xt_norm ?_
    refine cd_cond_t hA rfl ?_
    refine wp_seq ?_
    refine wp_region_lit ?_
    refine st_run tbOk 1 hA (e' := (2, .slice none 0 0) :: _) rfl ?_; clear hA; intro a hA
    refine wpList_nil ?_
    replace hA := hA.sel [2] (e' := [(2, .slice none 0 0)]) rfl
    refine xt_norm ?_
    refine wp_ret (xt_ret ?_)
    refine ret1 (fn := Tryd.f13) hA rfl rfl ?_
    exact ⟨none, 0, [], Own.nil _ _, rfl, hS.nil⟩
  · clear hcells
    refine enter (vs := [.slice (some ad) l.length c]) 8 Tryd.func13 rfl rfl (by simp) ?_; intro a hA
    refine wp_seq ?_
    refine wp_region_lit ?_
    refine st_run tbOk 1 hA (e' := (2, .slice none 0 0) :: _) rfl ?_; clear hA; intro a hA
    refine wpList_nil ?_
    replace hA := hA.sel [0] (e' := [(0, .slice (some ad) l.length c)]) rfl
    refine xt_norm ?_
    refine wp_seq ?_
    refine wp_seq ?_
    refine wp_region_lit ?_
    refine st_run tbOk 2 hA (e' := (4, .bool false) :: (3, .slice (some ad) l.length c) :: _) rfl ?_; clear hA; intro a hA
    refine wpList_nil ?_
    replace hA := hA.sel [0, 4] (e' := [(0, .slice (some ad) l.length c), (4, .bool false)]) rfl
    refine xt_norm ?_
    refine cd_cond_f hA rfl ?_
    refine wp_skip ?_
    refine xt_norm ?_
    refine wp_seq ?_
    refine wp_region_lit ?_
    refine st_buildSlice tbOk hA hS [] rfl rfl rfl rfl rfl (by decide) (by kernel_rfl) rfl rfl (by decide) ?_; clear hA hS; intro b1 w2 a hS hA
    refine st_run tbOk 1 hA (e' := (6, .slice (some ad) l.length c) :: _) rfl ?_; clear hA; intro a hA
    refine st_append tbOk hA (m := 0) (q := l.length) (xs := rows encB ([] : List UInt8)) (news := rows encB l) rfl rfl rfl rfl rfl rfl rfl rfl (by decide) (Own.full (T := 5) (size := 1) (g := b1) (m := 0) rfl (by decide)) hS ((hr _ (hS.tail 1 rfl))) (rows_one encB_ok _) (maxLen_le (by omega)) (by show (0 + l.length) * 1 ≤ 140737488355328; omega) rfl rfl (by decide) ?_
    clear hA hS; intro v3 w4 C5 a hO5 hS hA
    replace hO5 := Own.app (l := ([] : List UInt8)) (l2 := l) hO5
    replace hO5 : Own 5 1 v3 l.length (rows encB l) C5 := hO5
    obtain ⟨A6, c7, rfl, hmc7, hxc7⟩ := hO5.open'
    refine st_run tbOk 1 hA (e' := (2, .slice A6 l.length c7) :: _) rfl ?_; clear hA; intro a hA
    refine wpList_nil ?_
    replace hA := hA.sel [2] (e' := [(2, .slice A6 l.length c7)]) rfl
    refine xt_norm ?_
    refine wp_ret ?_
    refine ret1 (fn := Tryd.f13) hA rfl rfl ?_
    exact ⟨_, _, _, hO5, rfl, hS⟩

theorem fndc18 {w0 w : World} {F : List Chunk} (hS : St w0 w F) {bx : Nat} {rp id : Int} (hc1 : ∀ w', St w0 w' F → w'.cell? ⟨bx, 1, none⟩ = some (.int .u64 rp)) (hc2 : ∀ w', St w0 w' F → w'.cell? ⟨bx, 2, none⟩ = some (.int .u32 id)) (x : Ent) :
    Ret Tryd.prog 18 #[.agg #[.int .u64 x.1, .int .u32 x.2.1, .int .i64 x.2.2.1, .int .u64 x.2.2.2.1, .int .u64 x.2.2.2.2.1, .int .u32 x.2.2.2.2.2.1, .int .u16 x.2.2.2.2.2.2.1, .int .u16 x.2.2.2.2.2.2.2.1, .int .u64 x.2.2.2.2.2.2.2.2.1, .int .u32 x.2.2.2.2.2.2.2.2.2.1, .int .u8 x.2.2.2.2.2.2.2.2.2.2.1, .int .u64 x.2.2.2.2.2.2.2.2.2.2.2.1, .int .u64 x.2.2.2.2.2.2.2.2.2.2.2.2.1, .slice x.2.2.2.2.2.2.2.2.2.2.2.2.2.1 x.2.2.2.2.2.2.2.2.2.2.2.2.2.2.2.length x.2.2.2.2.2.2.2.2.2.2.2.2.2.2.1], .pointer (some ⟨bx, 0, none⟩)] w (fun v w' => v = .bool (fnd rp id x) ∧ St w0 w' F) := by
  refine enter (vs := [.agg #[.int .u64 x.1, .int .u32 x.2.1, .int .i64 x.2.2.1, .int .u64 x.2.2.2.1, .int .u64 x.2.2.2.2.1, .int .u32 x.2.2.2.2.2.1, .int .u16 x.2.2.2.2.2.2.1, .int .u16 x.2.2.2.2.2.2.2.1, .int .u64 x.2.2.2.2.2.2.2.2.1, .int .u32 x.2.2.2.2.2.2.2.2.2.1, .int .u8 x.2.2.2.2.2.2.2.2.2.2.1, .int .u64 x.2.2.2.2.2.2.2.2.2.2.2.1, .int .u64 x.2.2.2.2.2.2.2.2.2.2.2.2.1, .slice x.2.2.2.2.2.2.2.2.2.2.2.2.2.1 x.2.2.2.2.2.2.2.2.2.2.2.2.2.2.2.length x.2.2.2.2.2.2.2.2.2.2.2.2.2.2.1], .pointer (some ⟨bx, 0, none⟩)]) 16 Tryd.func18 rfl rfl (by simp) ?_; intro a hA
  refine wp_seq ?_
  refine wp_region_lit ?_
  refine st_box hA hS [.int .u64 x.1, .int .u32 x.2.1, .int .i64 x.2.2.1, .int .u64 x.2.2.2.1, .int .u64 x.2.2.2.2.1, .int .u32 x.2.2.2.2.2.1, .int .u16 x.2.2.2.2.2.2.1, .int .u16 x.2.2.2.2.2.2.2.1, .int .u64 x.2.2.2.2.2.2.2.2.1, .int .u32 x.2.2.2.2.2.2.2.2.2.1, .int .u8 x.2.2.2.2.2.2.2.2.2.2.1, .int .u64 x.2.2.2.2.2.2.2.2.2.2.2.1, .int .u64 x.2.2.2.2.2.2.2.2.2.2.2.2.1, .slice x.2.2.2.2.2.2.2.2.2.2.2.2.2.1 x.2.2.2.2.2.2.2.2.2.2.2.2.2.2.2.length x.2.2.2.2.2.2.2.2.2.2.2.2.2.2.1] rfl rfl rfl rfl rfl (by decide) ?_; clear hA hS; intro b1 w2 a hS hA
  refine st_run tbOk 1 hA (e' := (3, .bool false) :: _) rfl ?_; clear hA; intro a hA
  refine wpList_nil ?_
  replace hA := hA.sel [1, 2] (e' := [(1, .pointer (some ⟨bx, 0, none⟩)), (2, .pointer (some ⟨b1, 0, none⟩))]) rfl
  refine xt_norm ?_
  refine wp_seq ?_
  refine wp_region_lit ?_
  refine st_run tbOk 1 hA (e' := (4, .pointer (some ⟨b1, 0, none⟩)) :: _) rfl ?_; clear hA; intro a hA
  refine st_val hA rfl rfl (by decide) (rn_load tbOk hA rfl rfl rfl rfl (cell_row (hS.heapAt 0 rfl) rfl)) ?_; clear hA; intro a hA
  refine st_run tbOk 1 hA (e' := (6, .pointer (some ⟨bx, 1, none⟩)) :: _) rfl ?_; clear hA; intro a hA
  refine st_val hA rfl rfl (by decide) (rn_load tbOk hA rfl rfl rfl rfl (hc1 _ (hS.tail 1 rfl))) ?_; clear hA; intro a hA
  refine st_run tbOk 2 hA (e' := (9, .bool (x.1 == rp)) :: (8, .bool (x.1 == rp)) :: _) rfl ?_; clear hA; intro a hA
  by_cases hc3 : x.1 = rp
  · replace hA := hA.rw 8 (v' := .bool true) rfl (vb_eq_t hc3)
    replace hA := hA.rw 9 (v' := .bool true) rfl (vb_eq_t hc3)
    refine st_run tbOk 1 hA (e' := (10, .pointer (some ⟨b1, 1, none⟩)) :: _) rfl ?_; clear hA; intro a hA
    refine st_val hA rfl rfl (by decide) (rn_load tbOk hA rfl rfl rfl rfl (cell_row (hS.heapAt 0 rfl) rfl)) ?_; clear hA; intro a hA
    refine st_run tbOk 1 hA (e' := (12, .pointer (some ⟨bx, 2, none⟩)) :: _) rfl ?_; clear hA; intro a hA
    refine st_val hA rfl rfl (by decide) (rn_load tbOk hA rfl rfl rfl rfl (hc2 _ (hS.tail 1 rfl))) ?_; clear hA; intro a hA
    refine st_run tbOk 3 hA (e' := (3, .bool (x.2.1 == id)) :: (15, .bool (x.2.1 == id)) :: (14, .bool (x.2.1 == id)) :: _) rfl ?_; clear hA; intro a hA
    refine wpList_nil ?_
    replace hA := hA.sel [3] (e' := [(3, .bool (x.2.1 == id))]) rfl
    refine xt_norm ?_
    refine wp_ret ?_
    refine ret1 (fn := Tryd.f18) hA rfl rfl ?_
    replace hS := hS.drop1
    exact ⟨congrArg Value.bool (by have hq : (x.1 == rp) = true := beq_iff_eq.2 (by assumption); simp [fnd, hq]), hS⟩
  · replace hA := hA.rw 8 (v' := .bool false) rfl (vb_eq_f hc3)
    replace hA := hA.rw 9 (v' := .bool false) rfl (vb_eq_f hc3)
    refine st_run tbOk 7 hA (e' := (3, .bool false) :: (15, .bool false) :: (14, undef) :: (13, undef) :: (12, undef) :: (11, undef) :: (10, undef) :: _) rfl ?_; clear hA; intro a hA
    refine wpList_nil ?_
    replace hA := hA.sel [3] (e' := [(3, .bool false)]) rfl
    refine xt_norm ?_
    refine wp_ret ?_
    refine ret1 (fn := Tryd.f18) hA rfl rfl ?_
    replace hS := hS.drop1
    exact ⟨congrArg Value.bool (by simp [fnd]; intros; omega), hS⟩

theorem fndcP {w0 : World} {F : List Chunk} {bx : Nat} {rp id : Int} (hc1 : ∀ w', St w0 w' F → w'.cell? ⟨bx, 1, none⟩ = some (.int .u64 rp)) (hc2 : ∀ w', St w0 w' F → w'.cell? ⟨bx, 2, none⟩ = some (.int .u32 id)) : Pred Tryd.prog w0 F 18 #[] #[.pointer (some ⟨bx, 0, none⟩)] (fun x => .agg (encEntry x).toArray) (fun x => fnd rp id x) := by
  intro w x hS
  exact fndc18 (St.refl w) (fun w' h => h.old (hc1 w hS)) (fun w' h => h.old (hc2 w hS)) x

theorem agnc15 {w0 w : World} {F : List Chunk} (hS : St w0 w F) (x : Ent) :
    Ret Tryd.prog 15 #[.agg #[.int .u64 x.1, .int .u32 x.2.1, .int .i64 x.2.2.1, .int .u64 x.2.2.2.1, .int .u64 x.2.2.2.2.1, .int .u32 x.2.2.2.2.2.1, .int .u16 x.2.2.2.2.2.2.1, .int .u16 x.2.2.2.2.2.2.2.1, .int .u64 x.2.2.2.2.2.2.2.2.1, .int .u32 x.2.2.2.2.2.2.2.2.2.1, .int .u8 x.2.2.2.2.2.2.2.2.2.2.1, .int .u64 x.2.2.2.2.2.2.2.2.2.2.2.1, .int .u64 x.2.2.2.2.2.2.2.2.2.2.2.2.1, .slice x.2.2.2.2.2.2.2.2.2.2.2.2.2.1 x.2.2.2.2.2.2.2.2.2.2.2.2.2.2.2.length x.2.2.2.2.2.2.2.2.2.2.2.2.2.2.1]] w (fun v w' => v = .bool (agn x) ∧ St w0 w' F) := by
  refine enter (vs := [.agg #[.int .u64 x.1, .int .u32 x.2.1, .int .i64 x.2.2.1, .int .u64 x.2.2.2.1, .int .u64 x.2.2.2.2.1, .int .u32 x.2.2.2.2.2.1, .int .u16 x.2.2.2.2.2.2.1, .int .u16 x.2.2.2.2.2.2.2.1, .int .u64 x.2.2.2.2.2.2.2.2.1, .int .u32 x.2.2.2.2.2.2.2.2.2.1, .int .u8 x.2.2.2.2.2.2.2.2.2.2.1, .int .u64 x.2.2.2.2.2.2.2.2.2.2.2.1, .int .u64 x.2.2.2.2.2.2.2.2.2.2.2.2.1, .slice x.2.2.2.2.2.2.2.2.2.2.2.2.2.1 x.2.2.2.2.2.2.2.2.2.2.2.2.2.2.2.length x.2.2.2.2.2.2.2.2.2.2.2.2.2.2.1]]) 6 Tryd.func15 rfl rfl (by simp) ?_; intro a hA
  refine wp_seq ?_
  refine wp_region_lit ?_
  refine st_box hA hS [.int .u64 x.1, .int .u32 x.2.1, .int .i64 x.2.2.1, .int .u64 x.2.2.2.1, .int .u64 x.2.2.2.2.1, .int .u32 x.2.2.2.2.2.1, .int .u16 x.2.2.2.2.2.2.1, .int .u16 x.2.2.2.2.2.2.2.1, .int .u64 x.2.2.2.2.2.2.2.2.1, .int .u32 x.2.2.2.2.2.2.2.2.2.1, .int .u8 x.2.2.2.2.2.2.2.2.2.2.1, .int .u64 x.2.2.2.2.2.2.2.2.2.2.2.1, .int .u64 x.2.2.2.2.2.2.2.2.2.2.2.2.1, .slice x.2.2.2.2.2.2.2.2.2.2.2.2.2.1 x.2.2.2.2.2.2.2.2.2.2.2.2.2.2.2.length x.2.2.2.2.2.2.2.2.2.2.2.2.2.2.1] rfl rfl rfl rfl rfl (by decide) ?_; clear hA hS; intro b1 w2 a hS hA
  refine st_run tbOk 1 hA (e' := (2, .bool false) :: _) rfl ?_; clear hA; intro a hA
  refine wpList_nil ?_
  replace hA := hA.sel [1] (e' := [(1, .pointer (some ⟨b1, 0, none⟩))]) rfl
  refine xt_norm ?_
  refine wp_seq ?_
  refine wp_region_lit ?_
  refine st_run tbOk 1 hA (e' := (3, .pointer (some ⟨b1, 2, none⟩)) :: _) rfl ?_; clear hA; intro a hA
  refine st_val hA rfl rfl (by decide) (rn_load tbOk hA rfl rfl rfl rfl (cell_row (hS.heapAt 0 rfl) rfl)) ?_; clear hA; intro a hA
  refine st_run tbOk 2 hA (e' := (2, .bool (x.2.2.1 == 2)) :: (5, .bool (x.2.2.1 == 2)) :: _) rfl ?_; clear hA; intro a hA
  refine wpList_nil ?_
  replace hA := hA.sel [2] (e' := [(2, .bool (x.2.2.1 == 2))]) rfl
  refine xt_norm ?_
  refine wp_ret ?_
  refine ret1 (fn := Tryd.f15) hA rfl rfl ?_
  replace hS := hS.drop1
  exact ⟨rfl, hS⟩

theorem agncP {w0 : World} {F : List Chunk} : Pred Tryd.prog w0 F 15 #[] #[] (fun x => .agg (encEntry x).toArray) (fun x => agn x) := by
  intro w x hS
  exact agnc15 (St.refl w) x

theorem find12 {w0 w : World} {F : List Chunk} {L : Chunk} {b : Nat} {es : List Ent} (hS : St w0 w (L :: F)) (hM : SR b es L) (m0 m1 m2 m3 m4 m5 m6 m7 m8 m9 : Int) (d : Value) :
    Ret Tryd.prog 12 #[.pointer (some ⟨b, 0, none⟩), .agg #[.int .u64 m0, .int .u64 m1, .int .u32 m2, .int .u16 m3, .int .u16 m4, .int .u64 m5, .int .u32 m6, .int .u8 m7, .int .u64 m8, .int .u64 m9, d]] w (fun v w' => ∃ L', SR b es L' ∧ v = .int .i64 (idx (fun x => fnd m1 m2 x) es) ∧ St w0 w' (L' :: F)) := by
  obtain ⟨v, C, hO, rfl⟩ := hM
  obtain ⟨A, c, rfl, hmc, hcx⟩ := hO.open'
  replace hS : St w0 w ([(b, rowO [.slice A es.length c] 27)] :: C :: F) := hS.split
  refine enter (vs := [.pointer (some ⟨b, 0, none⟩), .agg #[.int .u64 m0, .int .u64 m1, .int .u32 m2, .int .u16 m3, .int .u16 m4, .int .u64 m5, .int .u32 m6, .int .u8 m7, .int .u64 m8, .int .u64 m9, d]]) 11 Tryd.func12 rfl rfl (by simp) ?_; intro a hA
  refine wp_seq ?_
  refine wp_region_lit ?_
  refine st_box hA hS [.int .u64 m0, .int .u64 m1, .int .u32 m2, .int .u16 m3, .int .u16 m4, .int .u64 m5, .int .u32 m6, .int .u8 m7, .int .u64 m8, .int .u64 m9, d] rfl rfl rfl rfl rfl (by decide) ?_; clear hA hS; intro b1 w2 a hS hA
  refine st_run tbOk 1 hA (e' := (4, .int .i64 0) :: _) rfl ?_; clear hA; intro a hA
  refine wpList_nil ?_
  replace hA := hA.sel [0, 3] (e' := [(0, .pointer (some ⟨b, 0, none⟩)), (3, .pointer (some ⟨b1, 0, none⟩))]) rfl
  refine xt_norm ?_
  refine wp_seq ?_
  refine wp_region_lit ?_
  refine st_run tbOk 3 hA (e' := (7, .pointer (some ⟨b, 0, none⟩)) :: (6, .pointer (some ⟨b, 0, none⟩)) :: (5, .pointer (some ⟨b, 0, none⟩)) :: _) rfl ?_; clear hA; intro a hA
  refine st_val hA rfl rfl (by decide) (rn_load tbOk hA rfl rfl rfl rfl (cell_row (hS.heapAt 1 rfl) rfl)) ?_; clear hA; intro a hA
  refine st_run tbOk 1 hA (e' := (9, .func (.func 18) #[] #[.pointer (some ⟨b1, 0, none⟩)]) :: _) rfl ?_; clear hA; intro a hA
  refine st_call0 hA rfl rfl rfl isfn14 rfl rfl (by decide) (indexFunc14 hS (l := es) (RdS.own hO 2 rfl) isfn18 (fndcP (bx := b1) (fun w' h => cell_row (h.heapAt 0 rfl) rfl) (fun w' h => cell_row (h.heapAt 0 rfl) rfl))) ?_
  clear hA hS; rintro v w3 a ⟨rfl, hS⟩ hA
  refine st_run tbOk 1 hA (e' := (4, .int .i64 (idx (fun x => fnd m1 m2 x) es)) :: _) rfl ?_; clear hA; intro a hA
  refine wpList_nil ?_
  replace hA := hA.sel [4] (e' := [(4, .int .i64 (idx (fun x => fnd m1 m2 x) es))]) rfl
  refine xt_norm ?_
  refine wp_ret ?_
  refine ret1 (fn := Tryd.f12) hA rfl rfl ?_
  replace hS := hS.drop1
  replace hS := hS.front 1 (C := C) (L' := [(b, rowO [.slice A es.length c] 27)] :: F) rfl rfl
  replace hS := hS.front 1 (C := [(b, rowO [.slice A es.length c] 27)]) (L' := C :: F) rfl rfl
  replace hS := hS.join
  exact ⟨_, ⟨_, _, hO, rfl⟩, rfl, hS⟩

theorem take_known8 {w0 w : World} {F : List Chunk} {L D : Chunk} {b : Nat} {es : List Ent} (hS : St w0 w (L :: D :: F)) (hM : SR b es L) (m0 m1 m2 m3 m4 m5 m6 m7 m8 m9 : Int) (d : Value) {k : Nat} {x : Ent} (hk : es[k]? = some x) (hkf : fnd m1 m2 x = true) (hkb : ∀ (i : Nat) (y : Ent), i < k → es[i]? = some y → fnd m1 m2 y = false) (hdd : ∀ x ∈ es, encEntry_dd w0 D x) (hbd : ∀ x ∈ es, (x.2.2.2.2.2.2.2.2.2.2.2.2.2.2.2).length ≤ 140737488351232) (hl : es.length ≤ 1048576) :
    Ret Tryd.prog 8 #[.pointer (some ⟨b, 0, none⟩), .agg #[.int .u64 m0, .int .u64 m1, .int .u32 m2, .int .u16 m3, .int .u16 m4, .int .u64 m5, .int .u32 m6, .int .u8 m7, .int .u64 m8, .int .u64 m9, d]] w (fun v w' => ∃ L' E A c, SR b es L' ∧ DD w0 E A c x.2.2.2.2.2.2.2.2.2.2.2.2.2.2.2 ∧ v = .tuple #[.int .i64 x.2.2.1, .agg #[.int .u64 x.2.2.2.1, .int .u64 x.2.2.2.2.1, .int .u32 x.2.2.2.2.2.1, .int .u16 x.2.2.2.2.2.2.1, .int .u16 x.2.2.2.2.2.2.2.1, .int .u64 x.2.2.2.2.2.2.2.2.1, .int .u32 x.2.2.2.2.2.2.2.2.2.1, .int .u8 x.2.2.2.2.2.2.2.2.2.2.1, .int .u64 x.2.2.2.2.2.2.2.2.2.2.2.1, .int .u64 x.2.2.2.2.2.2.2.2.2.2.2.2.1, .slice A x.2.2.2.2.2.2.2.2.2.2.2.2.2.2.2.length c], .nilIface] ∧ St w0 w' (L' :: (E ++ D) :: F)) := by
  refine enter (vs := [.pointer (some ⟨b, 0, none⟩), .agg #[.int .u64 m0, .int .u64 m1, .int .u32 m2, .int .u16 m3, .int .u16 m4, .int .u64 m5, .int .u32 m6, .int .u8 m7, .int .u64 m8, .int .u64 m9, d]]) 73 Tryd.func8 rfl rfl (by simp) ?_; intro a hA
  have hkl := (List.getElem?_eq_some_iff.1 hk).1
  refine wp_seq ?_
  refine wp_region_lit ?_
  refine st_box hA hS [.int .u64 m0, .int .u64 m1, .int .u32 m2, .int .u16 m3, .int .u16 m4, .int .u64 m5, .int .u32 m6, .int .u8 m7, .int .u64 m8, .int .u64 m9, d] rfl rfl rfl rfl rfl (by decide) ?_; clear hA hS; intro b1 w2 a hS hA
  refine st_run tbOk 1 hA (e' := (4, .int .i64 0) :: _) rfl ?_; clear hA; intro a hA
  refine st_alloc tbOk hA hS [.int .u64 0, .int .u64 0, .int .u32 0, .int .u16 0, .int .u16 0, .int .u64 0, .int .u32 0, .int .u8 0, .int .u64 0, .int .u64 0, .slice none 0 0] rfl rfl rfl rfl rfl (by decide) ?_; clear hA hS; intro b3 w4 a hS hA
  refine st_run tbOk 1 hA (e' := (6, .nilIface) :: _) rfl ?_; clear hA; intro a hA
  refine wpList_nil ?_
  replace hA := hA.sel [0, 3, 5] (e' := [(0, .pointer (some ⟨b, 0, none⟩)), (3, .pointer (some ⟨b1, 0, none⟩)), (5, .pointer (some ⟨b3, 0, none⟩))]) rfl
  refine xt_norm ?_
  refine wp_seq ?_
  refine wp_seq ?_
  refine wp_region_lit ?_
  refine st_run tbOk 1 hA (e' := (10, .pointer (some ⟨b, 0, none⟩)) :: _) rfl ?_; clear hA; intro a hA
  refine st_val hA rfl rfl (by decide) (rn_loadA tbOk hA [.int .u64 m0, .int .u64 m1, .int .u32 m2, .int .u16 m3, .int .u16 m4, .int .u64 m5, .int .u32 m6, .int .u8 m7, .int .u64 m8, .int .u64 m9, d] rfl rfl rfl rfl rfl (cells_row (hS.heapAt 1 rfl) rfl)) ?_; clear hA; intro a hA
  replace hS := hS.front 2 (C := L) (L' := [(b3, rowO [.int .u64 0, .int .u64 0, .int .u32 0, .int .u16 0, .int .u16 0, .int .u64 0, .int .u32 0, .int .u8 0, .int .u64 0, .int .u64 0, .slice none 0 0] 36)] :: [(b1, rowO [.int .u64 m0, .int .u64 m1, .int .u32 m2, .int .u16 m3, .int .u16 m4, .int .u64 m5, .int .u32 m6, .int .u8 m7, .int .u64 m8, .int .u64 m9, d] 36)] :: D :: F) rfl rfl
  refine st_call0 hA rfl rfl rfl isfn12 rfl rfl (by decide) (find12 hS hM m0 m1 m2 m3 m4 m5 m6 m7 m8 m9 _) ?_
  clear hA hS; rintro _ w5 a ⟨L9, hM9, rfl, hS⟩ hA
  have hix := idx_some hk hkf hkb
  replace hA := hA.rw 12 (v' := .int .i64 ((k : Nat) : Int)) rfl (vint hix)
  obtain ⟨v, C, hO, rfl⟩ := hM9
  obtain ⟨A, c, rfl, hmc, hcx⟩ := hO.open'
  replace hS : St w0 w5 ([(b, rowO [.slice A es.length c] 27)] :: C :: [(b3, rowO [.int .u64 0, .int .u64 0, .int .u32 0, .int .u16 0, .int .u16 0, .int .u64 0, .int .u32 0, .int .u8 0, .int .u64 0, .int .u64 0, .slice none 0 0] 36)] :: [(b1, rowO [.int .u64 m0, .int .u64 m1, .int .u32 m2, .int .u16 m3, .int .u16 m4, .int .u64 m5, .int .u32 m6, .int .u8 m7, .int .u64 m8, .int .u64 m9, d] 36)] :: D :: F) := hS.split
  refine st_run tbOk 1 hA (e' := (7, .int .i64 ((k : Nat) : Int)) :: _) rfl ?_; clear hA; intro a hA
  refine wpList_nil ?_
  replace hA := hA.sel [0, 3, 5, 7] (e' := [(0, .pointer (some ⟨b, 0, none⟩)), (3, .pointer (some ⟨b1, 0, none⟩)), (5, .pointer (some ⟨b3, 0, none⟩)), (7, .int .i64 ((k : Nat) : Int))]) rfl
  refine xt_norm ?_
  refine wp_seq ?_
  refine wp_region_lit ?_
  refine st_run tbOk 2 hA (e' := (14, .bool (decide (((k : Nat) : Int) ≥ 0))) :: (13, .int .i64 ((k : Nat) : Int)) :: _) rfl ?_; clear hA; intro a hA
  refine wpList_nil ?_
  replace hA := hA.sel [0, 3, 5, 7, 14] (e' := [(0, .pointer (some ⟨b, 0, none⟩)), (3, .pointer (some ⟨b1, 0, none⟩)), (5, .pointer (some ⟨b3, 0, none⟩)), (7, .int .i64 ((k : Nat) : Int)), (14, .bool (decide (((k : Nat) : Int) ≥ 0)))]) rfl
  refine xt_norm ?_
  have hc6 : ((k : Nat) : Int) ≥ 0 := by omega
  replace hA := hA.rw 14 (v' := .bool true) rfl (vb_true hc6)
  refine cd_cond_t hA rfl ?_
  refine wp_seq ?_
  refine wp_region_lit ?_
  obtain ⟨xf0, xf1, xf2, xf3, xf4, xf5, xf6, xf7, xf8, xf9, xf10, xf11, xf12, xA13, xc13, xb13⟩ := x
  have hdx := hdd _ (List.mem_of_getElem? hk)
  have hbx := hbd _ (List.mem_of_getElem? hk); dsimp only at hbx
  refine st_run tbOk 3 hA (e' := (17, .pointer (some ⟨b, 0, none⟩)) :: (16, .pointer (some ⟨b, 0, none⟩)) :: (15, .pointer (some ⟨b, 0, none⟩)) :: _) rfl ?_; clear hA; intro a hA
  refine st_val hA rfl rfl (by decide) (rn_load tbOk hA rfl rfl rfl rfl (cell_row (hS.heapAt 0 rfl) rfl)) ?_; clear hA; intro a hA
  refine st_run tbOk 1 hA (e' := (19, .int .i64 ((k : Nat) : Int)) :: _) rfl ?_; clear hA; intro a hA
  obtain ⟨b7, o8, rfl⟩ := hO.isSome (k := k) (by omega)
  refine st_val hA rfl rfl (by decide) (rn_indexAddr tbOk hA k (o8 + (k * 14)) rfl rfl rfl rfl rfl rfl (by rfl) (by omega) (by first | rfl | simp [Nat.mul_one, Nat.zero_add] | omega)) ?_; clear hA; intro a hA
  refine st_val hA rfl rfl (by decide) (rn_loadA tbOk hA ([.int .u64 xf0, .int .u32 xf1, .int .i64 xf2, .int .u64 xf3, .int .u64 xf4, .int .u32 xf5, .int .u16 xf6, .int .u16 xf7, .int .u64 xf8, .int .u32 xf9, .int .u8 xf10, .int .u64 xf11, .int .u64 xf12, .slice xA13 xb13.length xc13]) rfl rfl rfl rfl (by rfl) ((hO.rd (hS.own_ 1 rfl)).elem (k := k) encEntry_ok hk)) ?_; clear hA; intro a hA
  refine st_alloc tbOk hA hS [.int .u64 0, .int .u32 0, .int .i64 0, .int .u64 0, .int .u64 0, .int .u32 0, .int .u16 0, .int .u16 0, .int .u64 0, .int .u32 0, .int .u8 0, .int .u64 0, .int .u64 0, .slice none 0 0] rfl rfl rfl rfl rfl (by decide) ?_; clear hA hS; intro b9 w10 a hS hA
  refine st_store tbOk hA hS [.int .u64 xf0, .int .u32 xf1, .int .i64 xf2, .int .u64 xf3, .int .u64 xf4, .int .u32 xf5, .int .u16 xf6, .int .u16 xf7, .int .u64 xf8, .int .u32 xf9, .int .u8 xf10, .int .u64 xf11, .int .u64 xf12, .slice xA13 xb13.length xc13] [.int .u64 xf0, .int .u32 xf1, .int .i64 xf2, .int .u64 xf3, .int .u64 xf4, .int .u32 xf5, .int .u16 xf6, .int .u16 xf7, .int .u64 xf8, .int .u32 xf9, .int .u8 xf10, .int .u64 xf11, .int .u64 xf12, .slice xA13 xb13.length xc13] rfl rfl rfl rfl rfl rfl (by simp [Value.oneCell']) (Nat.le_of_ble_eq_true rfl) rfl rfl rfl ?_; clear hS; intro w11 hS
  refine wpList_nil ?_
  replace hA := hA.sel [5, 8] (e' := [(5, .pointer (some ⟨b3, 0, none⟩)), (8, .pointer (some ⟨b9, 0, none⟩))]) rfl
  refine xt_norm ?_
  refine wp_seq ?_
  refine wp_region_lit ?_
  refine st_run tbOk 2 hA (e' := (23, .pointer (some ⟨b9, 13, none⟩)) :: (22, .pointer (some ⟨b9, 3, none⟩)) :: _) rfl ?_; clear hA; intro a hA
  refine st_val hA rfl rfl (by decide) (rn_load tbOk hA rfl rfl rfl rfl (cell_row (hS.heapAt 0 rfl) rfl)) ?_; clear hA; intro a hA
  refine st_call0 hA rfl rfl rfl isfn13 rfl rfl (by decide) (clonex13 hS (l := xb13) (fun w' h => (hdx _ (h.only 5 rfl))) (by first | omega | (show _ ≤ _; omega))) ?_
  clear hA hS; rintro _ w15 a ⟨A12, c13, C14, hOC14, rfl, hS⟩ hA
  refine st_run tbOk 2 hA (e' := (27, .pointer (some ⟨b9, 13, none⟩)) :: (26, .pointer (some ⟨b9, 3, none⟩)) :: _) rfl ?_; clear hA; intro a hA
  replace hS := hS.front 1 (C := [(b9, rowO [.int .u64 xf0, .int .u32 xf1, .int .i64 xf2, .int .u64 xf3, .int .u64 xf4, .int .u32 xf5, .int .u16 xf6, .int .u16 xf7, .int .u64 xf8, .int .u32 xf9, .int .u8 xf10, .int .u64 xf11, .int .u64 xf12, .slice xA13 xb13.length xc13] 55)]) (L' := C14 :: [(b, rowO [.slice (some ⟨b7, o8, none⟩) es.length c] 27)] :: C :: [(b3, rowO [.int .u64 0, .int .u64 0, .int .u32 0, .int .u16 0, .int .u16 0, .int .u64 0, .int .u32 0, .int .u8 0, .int .u64 0, .int .u64 0, .slice none 0 0] 36)] :: [(b1, rowO [.int .u64 m0, .int .u64 m1, .int .u32 m2, .int .u16 m3, .int .u16 m4, .int .u64 m5, .int .u32 m6, .int .u8 m7, .int .u64 m8, .int .u64 m9, d] 36)] :: D :: F) rfl rfl
  refine st_store tbOk hA hS [.slice A12 xb13.length c13] [.int .u64 xf0, .int .u32 xf1, .int .i64 xf2, .int .u64 xf3, .int .u64 xf4, .int .u32 xf5, .int .u16 xf6, .int .u16 xf7, .int .u64 xf8, .int .u32 xf9, .int .u8 xf10, .int .u64 xf11, .int .u64 xf12, .slice A12 xb13.length c13] rfl rfl rfl rfl rfl rfl (by intro u hu; rw [List.mem_singleton.1 hu]; rfl) (Nat.le_of_ble_eq_true rfl) rfl rfl rfl ?_; clear hS; intro w16 hS
  refine wpList_nil ?_
  replace hA := hA.sel [5, 8] (e' := [(5, .pointer (some ⟨b3, 0, none⟩)), (8, .pointer (some ⟨b9, 0, none⟩))]) rfl
  refine xt_norm ?_
  refine wp_seq ?_
  replace hS := hS.front 4 (C := [(b3, rowO [.int .u64 0, .int .u64 0, .int .u32 0, .int .u16 0, .int .u16 0, .int .u64 0, .int .u32 0, .int .u8 0, .int .u64 0, .int .u64 0, .slice none 0 0] 36)]) (L' := [(b9, rowO [.int .u64 xf0, .int .u32 xf1, .int .i64 xf2, .int .u64 xf3, .int .u64 xf4, .int .u32 xf5, .int .u16 xf6, .int .u16 xf7, .int .u64 xf8, .int .u32 xf9, .int .u8 xf10, .int .u64 xf11, .int .u64 xf12, .slice A12 xb13.length c13] 55)] :: C14 :: [(b, rowO [.slice (some ⟨b7, o8, none⟩) es.length c] 27)] :: C :: [(b1, rowO [.int .u64 m0, .int .u64 m1, .int .u32 m2, .int .u16 m3, .int .u16 m4, .int .u64 m5, .int .u32 m6, .int .u8 m7, .int .u64 m8, .int .u64 m9, d] 36)] :: D :: F) rfl rfl
  refine wp_draw (fun w' => St w0 w' ([(b9, rowO [.int .u64 xf0, .int .u32 xf1, .int .i64 xf2, .int .u64 xf3, .int .u64 xf4, .int .u32 xf5, .int .u16 xf6, .int .u16 xf7, .int .u64 xf8, .int .u32 xf9, .int .u8 xf10, .int .u64 xf11, .int .u64 xf12, .slice A12 xb13.length c13] 55)] :: C14 :: [(b, rowO [.slice (some ⟨b7, o8, none⟩) es.length c] 27)] :: C :: [(b1, rowO [.int .u64 m0, .int .u64 m1, .int .u32 m2, .int .u16 m3, .int .u16 m4, .int .u64 m5, .int .u32 m6, .int .u8 m7, .int .u64 m8, .int .u64 m9, d] 36)] :: D :: F)) [] [(0, true), (1, true), (2, true), (3, true), (4, true), (5, false), (6, true)] mixed (by kernel_rfl) (by rintro c a w ⟨_, _, h, _⟩; cases h) (by rfl) (by kernel_rfl) ?_
  replace hS := hS.drew
  refine dr_run tbOk 1 hA (hS.tail 1 rfl) (e' := (28, .pointer (some ⟨b9, 2, none⟩)) :: _) rfl ?_; clear hA; intro a hA
  refine dr_y hA rfl rfl rfl (by decide) (hS.tail 1 rfl) (fun w' hS' => rn_load tbOk hA rfl rfl rfl rfl (cell_row (hS'.heapAt 0 rfl) rfl)) ?_; clear hA; intro a hA
  refine dr_run tbOk 1 hA (hS.tail 1 rfl) (e' := (30, .pointer (some ⟨b9, 3, none⟩)) :: _) rfl ?_; clear hA; intro a hA
  refine dr_y hA rfl rfl rfl (by decide) (hS.tail 1 rfl) (fun w' hS' => rn_loadA tbOk hA [.int .u64 xf3, .int .u64 xf4, .int .u32 xf5, .int .u16 xf6, .int .u16 xf7, .int .u64 xf8, .int .u32 xf9, .int .u8 xf10, .int .u64 xf11, .int .u64 xf12, .slice A12 xb13.length c13] rfl rfl rfl rfl rfl (cells_row (hS'.heapAt 0 rfl) rfl)) ?_; clear hA; intro a hA
  refine dr_run tbOk 1 hA (hS.tail 1 rfl) (e' := (4, .int .i64 xf2) :: _) rfl ?_; clear hA; intro a hA
  refine dr_b (o := _) rfl ?_
  refine st_store tbOk hA hS [.int .u64 xf3, .int .u64 xf4, .int .u32 xf5, .int .u16 xf6, .int .u16 xf7, .int .u64 xf8, .int .u32 xf9, .int .u8 xf10, .int .u64 xf11, .int .u64 xf12, .slice A12 xb13.length c13] [.int .u64 xf3, .int .u64 xf4, .int .u32 xf5, .int .u16 xf6, .int .u16 xf7, .int .u64 xf8, .int .u32 xf9, .int .u8 xf10, .int .u64 xf11, .int .u64 xf12, .slice A12 xb13.length c13] rfl rfl rfl rfl rfl rfl (by simp [Value.oneCell']) (Nat.le_of_ble_eq_true rfl) rfl rfl rfl ?_; clear hS; intro w17 hS
  refine dr_nil (.inr (hS.tail 1 rfl)) ?_
  refine dr_run tbOk 1 hA (hS.tail 1 rfl) (e' := (6, .nilIface) :: _) rfl ?_; clear hA; intro a hA
  refine dr_end ?_
  replace hA := hA.sel [4, 5, 6] (e' := [(4, .int .i64 xf2), (5, .pointer (some ⟨b3, 0, none⟩)), (6, .nilIface)]) rfl
  refine xt_norm ?_
  refine wp_ret (xt_ret ?_)
  refine rettct tbOk (fn := Tryd.f8) (cs := [.int .u64 xf3, .int .u64 xf4, .int .u32 xf5, .int .u16 xf6, .int .u16 xf7, .int .u64 xf8, .int .u32 xf9, .int .u8 xf10, .int .u64 xf11, .int .u64 xf12, .slice A12 xb13.length c13]) hA rfl rfl rfl rfl rfl rfl rfl (cells_row (hS.heapAt 0 rfl) rfl) ?_
  replace hS := hS.drop1
  replace hS := hS.drop1
  replace hS := hS.front 3 (C := [(b1, rowO [.int .u64 m0, .int .u64 m1, .int .u32 m2, .int .u16 m3, .int .u16 m4, .int .u64 m5, .int .u32 m6, .int .u8 m7, .int .u64 m8, .int .u64 m9, d] 36)]) (L' := C14 :: [(b, rowO [.slice (some ⟨b7, o8, none⟩) es.length c] 27)] :: C :: D :: F) rfl rfl
  replace hS := hS.drop1
  replace hS := hS.front 2 (C := C) (L' := C14 :: [(b, rowO [.slice (some ⟨b7, o8, none⟩) es.length c] 27)] :: D :: F) rfl rfl
  replace hS := hS.front 2 (C := [(b, rowO [.slice (some ⟨b7, o8, none⟩) es.length c] 27)]) (L' := C :: C14 :: D :: F) rfl rfl
  replace hS := hS.front 3 (C := D) (L' := [(b, rowO [.slice (some ⟨b7, o8, none⟩) es.length c] 27)] :: C :: C14 :: F) rfl rfl
  replace hS := hS.front 3 (C := C14) (L' := D :: [(b, rowO [.slice (some ⟨b7, o8, none⟩) es.length c] 27)] :: C :: F) rfl rfl
  replace hS := hS.join
  replace hS := hS.front 2 (C := C) (L' := (C14 ++ D) :: [(b, rowO [.slice (some ⟨b7, o8, none⟩) es.length c] 27)] :: F) rfl rfl
  replace hS := hS.front 2 (C := [(b, rowO [.slice (some ⟨b7, o8, none⟩) es.length c] 27)]) (L' := C :: (C14 ++ D) :: F) rfl rfl
  replace hS := hS.join
  exact ⟨_, _, _, _, ⟨_, _, hO, rfl⟩, DD.new hOC14, rfl, hS⟩

theorem take_new8 {w0 w : World} {F : List Chunk} {L D : Chunk} {b : Nat} {es : List Ent} (hS : St w0 w (L :: D :: F)) (hM : SR b es L) (m0 m1 m2 m3 m4 m5 m6 m7 m8 m9 : Int) (d : Value) (hno : ∀ (i : Nat) (y : Ent), es[i]? = some y → fnd m1 m2 y = false) (hl : es.length < 32) :
    Ret Tryd.prog 8 #[.pointer (some ⟨b, 0, none⟩), .agg #[.int .u64 m0, .int .u64 m1, .int .u32 m2, .int .u16 m3, .int .u16 m4, .int .u64 m5, .int .u32 m6, .int .u8 m7, .int .u64 m8, .int .u64 m9, d]] w (fun v w' => ∃ L', SR b (es ++ [(m1, m2, 1, 0, 0, 0, 0, 0, 0, 0, 0, 0, 0, none, 0, ([] : List UInt8))]) L' ∧ v = .tuple #[.int .i64 0, .agg #[.int .u64 0, .int .u64 0, .int .u32 0, .int .u16 0, .int .u16 0, .int .u64 0, .int .u32 0, .int .u8 0, .int .u64 0, .int .u64 0, .slice none 0 0], .nilIface] ∧ St w0 w' (L' :: D :: F)) := by
  refine enter (vs := [.pointer (some ⟨b, 0, none⟩), .agg #[.int .u64 m0, .int .u64 m1, .int .u32 m2, .int .u16 m3, .int .u16 m4, .int .u64 m5, .int .u32 m6, .int .u8 m7, .int .u64 m8, .int .u64 m9, d]]) 73 Tryd.func8 rfl rfl (by simp) ?_; intro a hA
  refine wp_seq ?_
  refine wp_region_lit ?_
  refine st_box hA hS [.int .u64 m0, .int .u64 m1, .int .u32 m2, .int .u16 m3, .int .u16 m4, .int .u64 m5, .int .u32 m6, .int .u8 m7, .int .u64 m8, .int .u64 m9, d] rfl rfl rfl rfl rfl (by decide) ?_; clear hA hS; intro b1 w2 a hS hA
  refine st_run tbOk 1 hA (e' := (4, .int .i64 0) :: _) rfl ?_; clear hA; intro a hA
  refine st_alloc tbOk hA hS [.int .u64 0, .int .u64 0, .int .u32 0, .int .u16 0, .int .u16 0, .int .u64 0, .int .u32 0, .int .u8 0, .int .u64 0, .int .u64 0, .slice none 0 0] rfl rfl rfl rfl rfl (by decide) ?_; clear hA hS; intro b3 w4 a hS hA
  refine st_run tbOk 1 hA (e' := (6, .nilIface) :: _) rfl ?_; clear hA; intro a hA
  refine wpList_nil ?_
  replace hA := hA.sel [0, 3, 5] (e' := [(0, .pointer (some ⟨b, 0, none⟩)), (3, .pointer (some ⟨b1, 0, none⟩)), (5, .pointer (some ⟨b3, 0, none⟩))]) rfl
  refine xt_norm ?_
  refine wp_seq ?_
  refine wp_seq ?_
  refine wp_region_lit ?_
  refine st_run tbOk 1 hA (e' := (10, .pointer (some ⟨b, 0, none⟩)) :: _) rfl ?_; clear hA; intro a hA
  refine st_val hA rfl rfl (by decide) (rn_loadA tbOk hA [.int .u64 m0, .int .u64 m1, .int .u32 m2, .int .u16 m3, .int .u16 m4, .int .u64 m5, .int .u32 m6, .int .u8 m7, .int .u64 m8, .int .u64 m9, d] rfl rfl rfl rfl rfl (cells_row (hS.heapAt 1 rfl) rfl)) ?_; clear hA; intro a hA
  replace hS := hS.front 2 (C := L) (L' := [(b3, rowO [.int .u64 0, .int .u64 0, .int .u32 0, .int .u16 0, .int .u16 0, .int .u64 0, .int .u32 0, .int .u8 0, .int .u64 0, .int .u64 0, .slice none 0 0] 36)] :: [(b1, rowO [.int .u64 m0, .int .u64 m1, .int .u32 m2, .int .u16 m3, .int .u16 m4, .int .u64 m5, .int .u32 m6, .int .u8 m7, .int .u64 m8, .int .u64 m9, d] 36)] :: D :: F) rfl rfl
  refine st_call0 hA rfl rfl rfl isfn12 rfl rfl (by decide) (find12 hS hM m0 m1 m2 m3 m4 m5 m6 m7 m8 m9 _) ?_
  clear hA hS; rintro _ w5 a ⟨L9, hM9, rfl, hS⟩ hA
  have hix := idx_none hno
  replace hA := hA.rw 12 (v' := .int .i64 (-1)) rfl (vint hix)
  obtain ⟨v, C, hO, rfl⟩ := hM9
  obtain ⟨A, c, rfl, hmc, hcx⟩ := hO.open'
  replace hS : St w0 w5 ([(b, rowO [.slice A es.length c] 27)] :: C :: [(b3, rowO [.int .u64 0, .int .u64 0, .int .u32 0, .int .u16 0, .int .u16 0, .int .u64 0, .int .u32 0, .int .u8 0, .int .u64 0, .int .u64 0, .slice none 0 0] 36)] :: [(b1, rowO [.int .u64 m0, .int .u64 m1, .int .u32 m2, .int .u16 m3, .int .u16 m4, .int .u64 m5, .int .u32 m6, .int .u8 m7, .int .u64 m8, .int .u64 m9, d] 36)] :: D :: F) := hS.split
  refine st_run tbOk 1 hA (e' := (7, .int .i64 (-1)) :: _) rfl ?_; clear hA; intro a hA
  refine wpList_nil ?_
  replace hA := hA.sel [0, 3, 5, 7] (e' := [(0, .pointer (some ⟨b, 0, none⟩)), (3, .pointer (some ⟨b1, 0, none⟩)), (5, .pointer (some ⟨b3, 0, none⟩)), (7, .int .i64 (-1))]) rfl
  refine xt_norm ?_
  refine wp_seq ?_
  refine wp_region_lit ?_
  refine st_run tbOk 2 hA (e' := (14, .bool false) :: (13, .int .i64 (-1)) :: _) rfl ?_; clear hA; intro a hA
  refine wpList_nil ?_
  replace hA := hA.sel [0, 3, 5, 7, 14] (e' := [(0, .pointer (some ⟨b, 0, none⟩)), (3, .pointer (some ⟨b1, 0, none⟩)), (5, .pointer (some ⟨b3, 0, none⟩)), (7, .int .i64 (-1)), (14, .bool false)]) rfl
  refine xt_norm ?_
  refine cd_cond_f hA rfl ?_
  refine wp_skip ?_
  refine xt_norm ?_
  refine wp_seq ?_
  refine wp_seq ?_
  refine wp_region_lit ?_
  refine st_run tbOk 3 hA (e' := (34, .pointer (some ⟨b, 0, none⟩)) :: (33, .pointer (some ⟨b, 0, none⟩)) :: (32, .pointer (some ⟨b, 0, none⟩)) :: _) rfl ?_; clear hA; intro a hA
  refine st_val hA rfl rfl (by decide) (rn_load tbOk hA rfl rfl rfl rfl (cell_row (hS.heapAt 0 rfl) rfl)) ?_; clear hA; intro a hA
  refine st_run tbOk 2 hA (e' := (37, .bool (((es.length : Nat) : Int) == 32)) :: (36, .int .i64 ((es.length : Nat) : Int)) :: _) rfl ?_; clear hA; intro a hA
  refine wpList_nil ?_
  replace hA := hA.sel [0, 3, 5, 37] (e' := [(0, .pointer (some ⟨b, 0, none⟩)), (3, .pointer (some ⟨b1, 0, none⟩)), (5, .pointer (some ⟨b3, 0, none⟩)), (37, .bool (((es.length : Nat) : Int) == 32))]) rfl
  refine xt_norm ?_
  have hc6 : ¬ (((es.length : Nat) : Int) = 32) := by omega
  replace hA := hA.rw 37 (v' := .bool false) rfl (vb_eq_f hc6)
  refine cd_cond_f hA rfl ?_
  refine wp_skip ?_
  refine xt_norm ?_
  refine wp_seq ?_
  replace hS := hS.front 1 (C := C) (L' := [(b, rowO [.slice A es.length c] 27)] :: [(b3, rowO [.int .u64 0, .int .u64 0, .int .u32 0, .int .u16 0, .int .u16 0, .int .u64 0, .int .u32 0, .int .u8 0, .int .u64 0, .int .u64 0, .slice none 0 0] 36)] :: [(b1, rowO [.int .u64 m0, .int .u64 m1, .int .u32 m2, .int .u16 m3, .int .u16 m4, .int .u64 m5, .int .u32 m6, .int .u8 m7, .int .u64 m8, .int .u64 m9, d] 36)] :: D :: F) rfl rfl
  refine wp_draw (fun w' => St w0 w' ([(b, rowO [.slice A es.length c] 27)] :: [(b3, rowO [.int .u64 0, .int .u64 0, .int .u32 0, .int .u16 0, .int .u16 0, .int .u64 0, .int .u32 0, .int .u8 0, .int .u64 0, .int .u64 0, .slice none 0 0] 36)] :: [(b1, rowO [.int .u64 m0, .int .u64 m1, .int .u32 m2, .int .u16 m3, .int .u16 m4, .int .u64 m5, .int .u32 m6, .int .u8 m7, .int .u64 m8, .int .u64 m9, d] 36)] :: D :: F)) [14] [(0, true), (1, true), (2, true), (3, true), (4, true), (5, true), (6, true), (7, true), (8, true), (9, true), (10, false), (11, false), (12, true), (13, true), (14, false)] mixed (by kernel_rfl) (by rintro c a w ⟨_, _, h, _⟩; cases h) (by rfl) (by kernel_rfl) ?_
  replace hS := hS.drew
  refine dr_run tbOk 4 hA (hS.tail 1 rfl) (e' := (61, .pointer (some ⟨b, 0, none⟩)) :: (60, .pointer (some ⟨b, 0, none⟩)) :: (59, .pointer (some ⟨b, 0, none⟩)) :: (58, .pointer (some ⟨b, 0, none⟩)) :: _) rfl ?_; clear hA; intro a hA
  refine dr_y hA rfl rfl rfl (by decide) (hS.tail 1 rfl) (fun w' hS' => rn_load tbOk hA rfl rfl rfl rfl (cell_row (hS'.heapAt 0 rfl) rfl)) ?_; clear hA; intro a hA
  refine dr_run tbOk 1 hA (hS.tail 1 rfl) (e' := (63, .pointer (some ⟨b1, 1, none⟩)) :: _) rfl ?_; clear hA; intro a hA
  refine dr_y hA rfl rfl rfl (by decide) (hS.tail 1 rfl) (fun w' hS' => rn_load tbOk hA rfl rfl rfl rfl (cell_row (hS'.heapAt 2 rfl) rfl)) ?_; clear hA; intro a hA
  refine dr_run tbOk 1 hA (hS.tail 1 rfl) (e' := (65, .pointer (some ⟨b1, 2, none⟩)) :: _) rfl ?_; clear hA; intro a hA
  refine dr_y hA rfl rfl rfl (by decide) (hS.tail 1 rfl) (fun w' hS' => rn_load tbOk hA rfl rfl rfl rfl (cell_row (hS'.heapAt 2 rfl) rfl)) ?_; clear hA; intro a hA
  refine dr_run tbOk 1 hA (hS.tail 1 rfl) (e' := (67, .agg #[.int .u64 m1, .int .u32 m2, .int .i64 1, .int .u64 0, .int .u64 0, .int .u32 0, .int .u16 0, .int .u16 0, .int .u64 0, .int .u32 0, .int .u8 0, .int .u64 0, .int .u64 0, .slice none 0 0]) :: _) rfl ?_; clear hA; intro a hA
  refine dr_b (o := _) rfl ?_
  refine st_buildSlice tbOk hA hS [.int .u64 m1, .int .u32 m2, .int .i64 1, .int .u64 0, .int .u64 0, .int .u32 0, .int .u16 0, .int .u16 0, .int .u64 0, .int .u32 0, .int .u8 0, .int .u64 0, .int .u64 0, .slice none 0 0] rfl rfl rfl rfl rfl (by decide) (by kernel_rfl) rfl rfl (by decide) ?_; clear hA hS; intro b7 w8 a hS hA
  refine dr_nil (.inr (hS.tail 2 rfl)) ?_
  refine dr_b (o := _) rfl ?_
  replace hS := hS.front 1 (C := C) (L' := [(b7, rowO [.int .u64 m1, .int .u32 m2, .int .i64 1, .int .u64 0, .int .u64 0, .int .u32 0, .int .u16 0, .int .u16 0, .int .u64 0, .int .u32 0, .int .u8 0, .int .u64 0, .int .u64 0, .slice none 0 0] 55)] :: [(b, rowO [.slice A es.length c] 27)] :: [(b3, rowO [.int .u64 0, .int .u64 0, .int .u32 0, .int .u16 0, .int .u16 0, .int .u64 0, .int .u32 0, .int .u8 0, .int .u64 0, .int .u64 0, .slice none 0 0] 36)] :: [(b1, rowO [.int .u64 m0, .int .u64 m1, .int .u32 m2, .int .u16 m3, .int .u16 m4, .int .u64 m5, .int .u32 m6, .int .u8 m7, .int .u64 m8, .int .u64 m9, d] 36)] :: D :: F) rfl rfl
  refine st_append tbOk hA (m := es.length) (q := 1) (xs := rows encEntry es) (news := rows encEntry ([(m1, m2, 1, 0, 0, 0, 0, 0, 0, 0, 0, 0, 0, none, 0, ([] : List UInt8))] : List (Int × Int × Int × Int × Int × Int × Int × Int × Int × Int × Int × Int × Int × Option Addr × Nat × List UInt8))) rfl rfl rfl rfl rfl rfl rfl rfl (by decide) hO hS (((Own.full (T := 55) (size := 14) (g := b7) (m := 1) rfl (by decide)).rd (hS.own_ 1 rfl)).x) (rows_one encEntry_ok _) (maxLen_le (by first | omega | (simp; omega))) (by show (es.length + 1) * 104 ≤ 140737488355328; first | omega | (simp; omega)) rfl rfl (by decide) ?_
  clear hA hS; intro v9 w10 C11 a hO11 hS hA
  replace hO11 := Own.app (l := es) (l2 := ([(m1, m2, 1, 0, 0, 0, 0, 0, 0, 0, 0, 0, 0, none, 0, ([] : List UInt8))] : List (Int × Int × Int × Int × Int × Int × Int × Int × Int × Int × Int × Int × Int × Option Addr × Nat × List UInt8))) hO11
  obtain ⟨A12, c13, rfl, hmc13, hxc13⟩ := hO11.open'
  refine dr_nil (.inr (hS.tail 2 rfl)) ?_
  refine dr_run tbOk 2 hA (hS.tail 2 rfl) (e' := (71, .pointer (some ⟨b, 0, none⟩)) :: (70, .pointer (some ⟨b, 0, none⟩)) :: _) rfl ?_; clear hA; intro a hA
  refine dr_b (o := _) rfl ?_
  replace hS := hS.front 2 (C := [(b, rowO [.slice A es.length c] 27)]) (L' := C11 :: [(b7, rowO [.int .u64 m1, .int .u32 m2, .int .i64 1, .int .u64 0, .int .u64 0, .int .u32 0, .int .u16 0, .int .u16 0, .int .u64 0, .int .u32 0, .int .u8 0, .int .u64 0, .int .u64 0, .slice none 0 0] 55)] :: [(b3, rowO [.int .u64 0, .int .u64 0, .int .u32 0, .int .u16 0, .int .u16 0, .int .u64 0, .int .u32 0, .int .u8 0, .int .u64 0, .int .u64 0, .slice none 0 0] 36)] :: [(b1, rowO [.int .u64 m0, .int .u64 m1, .int .u32 m2, .int .u16 m3, .int .u16 m4, .int .u64 m5, .int .u32 m6, .int .u8 m7, .int .u64 m8, .int .u64 m9, d] 36)] :: D :: F) rfl rfl
  refine st_store tbOk hA hS [.slice A12 ((es ++ ([(m1, m2, 1, 0, 0, 0, 0, 0, 0, 0, 0, 0, 0, none, 0, ([] : List UInt8))] : List (Int × Int × Int × Int × Int × Int × Int × Int × Int × Int × Int × Int × Int × Option Addr × Nat × List UInt8))).length) c13] [.slice A12 ((es ++ ([(m1, m2, 1, 0, 0, 0, 0, 0, 0, 0, 0, 0, 0, none, 0, ([] : List UInt8))] : List (Int × Int × Int × Int × Int × Int × Int × Int × Int × Int × Int × Int × Int × Option Addr × Nat × List UInt8))).length) c13] rfl rfl rfl rfl rfl rfl (by intro u hu; rw [List.mem_singleton.1 hu]; rfl) (Nat.le_of_ble_eq_true rfl) rfl rfl rfl ?_; clear hS; intro w14 hS
  refine dr_nil (.inl (by decide)) ?_
  refine dr_end ?_
  replace hA := hA.sel [5] (e' := [(5, .pointer (some ⟨b3, 0, none⟩))]) rfl
  refine xt_norm ?_
  refine wp_seq ?_
  refine wp_region_lit ?_
  refine st_run tbOk 2 hA (e' := (4, .int .i64 0) :: (72, .agg #[.int .u64 0, .int .u64 0, .int .u32 0, .int .u16 0, .int .u16 0, .int .u64 0, .int .u32 0, .int .u8 0, .int .u64 0, .int .u64 0, .slice none 0 0]) :: _) rfl ?_; clear hA; intro a hA
  replace hS := hS.front 3 (C := [(b3, rowO [.int .u64 0, .int .u64 0, .int .u32 0, .int .u16 0, .int .u16 0, .int .u64 0, .int .u32 0, .int .u8 0, .int .u64 0, .int .u64 0, .slice none 0 0] 36)]) (L' := [(b, rowO [.slice A12 ((es ++ ([(m1, m2, 1, 0, 0, 0, 0, 0, 0, 0, 0, 0, 0, none, 0, ([] : List UInt8))] : List (Int × Int × Int × Int × Int × Int × Int × Int × Int × Int × Int × Int × Int × Option Addr × Nat × List UInt8))).length) c13] 27)] :: C11 :: [(b7, rowO [.int .u64 m1, .int .u32 m2, .int .i64 1, .int .u64 0, .int .u64 0, .int .u32 0, .int .u16 0, .int .u16 0, .int .u64 0, .int .u32 0, .int .u8 0, .int .u64 0, .int .u64 0, .slice none 0 0] 55)] :: [(b1, rowO [.int .u64 m0, .int .u64 m1, .int .u32 m2, .int .u16 m3, .int .u16 m4, .int .u64 m5, .int .u32 m6, .int .u8 m7, .int .u64 m8, .int .u64 m9, d] 36)] :: D :: F) rfl rfl
  refine st_store tbOk hA hS [.int .u64 0, .int .u64 0, .int .u32 0, .int .u16 0, .int .u16 0, .int .u64 0, .int .u32 0, .int .u8 0, .int .u64 0, .int .u64 0, .slice none 0 0] [.int .u64 0, .int .u64 0, .int .u32 0, .int .u16 0, .int .u16 0, .int .u64 0, .int .u32 0, .int .u8 0, .int .u64 0, .int .u64 0, .slice none 0 0] rfl rfl rfl rfl rfl rfl (by simp [Value.oneCell']) (Nat.le_of_ble_eq_true rfl) rfl rfl rfl ?_; clear hS; intro w15 hS
  refine st_run tbOk 1 hA (e' := (6, .nilIface) :: _) rfl ?_; clear hA; intro a hA
  refine wpList_nil ?_
  replace hA := hA.sel [4, 5, 6] (e' := [(4, .int .i64 0), (5, .pointer (some ⟨b3, 0, none⟩)), (6, .nilIface)]) rfl
  refine xt_norm ?_
  refine wp_ret ?_
  refine rettct tbOk (fn := Tryd.f8) (cs := [.int .u64 0, .int .u64 0, .int .u32 0, .int .u16 0, .int .u16 0, .int .u64 0, .int .u32 0, .int .u8 0, .int .u64 0, .int .u64 0, .slice none 0 0]) hA rfl rfl rfl rfl rfl rfl rfl (cells_row (hS.heapAt 0 rfl) rfl) ?_
  replace hS := hS.drop1
  replace hS := hS.front 2 (C := [(b7, rowO [.int .u64 m1, .int .u32 m2, .int .i64 1, .int .u64 0, .int .u64 0, .int .u32 0, .int .u16 0, .int .u16 0, .int .u64 0, .int .u32 0, .int .u8 0, .int .u64 0, .int .u64 0, .slice none 0 0] 55)]) (L' := [(b, rowO [.slice A12 ((es ++ ([(m1, m2, 1, 0, 0, 0, 0, 0, 0, 0, 0, 0, 0, none, 0, ([] : List UInt8))] : List (Int × Int × Int × Int × Int × Int × Int × Int × Int × Int × Int × Int × Int × Option Addr × Nat × List UInt8))).length) c13] 27)] :: C11 :: [(b1, rowO [.int .u64 m0, .int .u64 m1, .int .u32 m2, .int .u16 m3, .int .u16 m4, .int .u64 m5, .int .u32 m6, .int .u8 m7, .int .u64 m8, .int .u64 m9, d] 36)] :: D :: F) rfl rfl
  replace hS := hS.drop1
  replace hS := hS.front 2 (C := [(b1, rowO [.int .u64 m0, .int .u64 m1, .int .u32 m2, .int .u16 m3, .int .u16 m4, .int .u64 m5, .int .u32 m6, .int .u8 m7, .int .u64 m8, .int .u64 m9, d] 36)]) (L' := [(b, rowO [.slice A12 ((es ++ ([(m1, m2, 1, 0, 0, 0, 0, 0, 0, 0, 0, 0, 0, none, 0, ([] : List UInt8))] : List (Int × Int × Int × Int × Int × Int × Int × Int × Int × Int × Int × Int × Int × Option Addr × Nat × List UInt8))).length) c13] 27)] :: C11 :: D :: F) rfl rfl
  replace hS := hS.drop1
  replace hS := hS.front 1 (C := C11) (L' := [(b, rowO [.slice A12 ((es ++ ([(m1, m2, 1, 0, 0, 0, 0, 0, 0, 0, 0, 0, 0, none, 0, ([] : List UInt8))] : List (Int × Int × Int × Int × Int × Int × Int × Int × Int × Int × Int × Int × Int × Option Addr × Nat × List UInt8))).length) c13] 27)] :: D :: F) rfl rfl
  replace hS := hS.front 1 (C := [(b, rowO [.slice A12 ((es ++ ([(m1, m2, 1, 0, 0, 0, 0, 0, 0, 0, 0, 0, 0, none, 0, ([] : List UInt8))] : List (Int × Int × Int × Int × Int × Int × Int × Int × Int × Int × Int × Int × Int × Option Addr × Nat × List UInt8))).length) c13] 27)]) (L' := C11 :: D :: F) rfl rfl
  replace hS := hS.front 2 (C := D) (L' := [(b, rowO [.slice A12 ((es ++ ([(m1, m2, 1, 0, 0, 0, 0, 0, 0, 0, 0, 0, 0, none, 0, ([] : List UInt8))] : List (Int × Int × Int × Int × Int × Int × Int × Int × Int × Int × Int × Int × Int × Option Addr × Nat × List UInt8))).length) c13] 27)] :: C11 :: F) rfl rfl
  replace hS := hS.front 2 (C := C11) (L' := D :: [(b, rowO [.slice A12 ((es ++ ([(m1, m2, 1, 0, 0, 0, 0, 0, 0, 0, 0, 0, 0, none, 0, ([] : List UInt8))] : List (Int × Int × Int × Int × Int × Int × Int × Int × Int × Int × Int × Int × Int × Option Addr × Nat × List UInt8))).length) c13] 27)] :: F) rfl rfl
  replace hS := hS.front 2 (C := [(b, rowO [.slice A12 ((es ++ ([(m1, m2, 1, 0, 0, 0, 0, 0, 0, 0, 0, 0, 0, none, 0, ([] : List UInt8))] : List (Int × Int × Int × Int × Int × Int × Int × Int × Int × Int × Int × Int × Int × Option Addr × Nat × List UInt8))).length) c13] 27)]) (L' := C11 :: D :: F) rfl rfl
  replace hS := hS.join
  exact ⟨_, ⟨_, _, hO11, rfl⟩, rfl, hS⟩

theorem take_full8 {w0 w : World} {F : List Chunk} {L D : Chunk} {b : Nat} {es : List Ent} (hS : St w0 w (L :: D :: F)) (hM : SR b es L) (m0 m1 m2 m3 m4 m5 m6 m7 m8 m9 : Int) (d : Value) (hno : ∀ (i : Nat) (y : Ent), es[i]? = some y → fnd m1 m2 y = false) (hl : es.length = 32) (hna : ∀ (i : Nat) (y : Ent), es[i]? = some y → agn y = false) :
    Ret Tryd.prog 8 #[.pointer (some ⟨b, 0, none⟩), .agg #[.int .u64 m0, .int .u64 m1, .int .u32 m2, .int .u16 m3, .int .u16 m4, .int .u64 m5, .int .u32 m6, .int .u8 m7, .int .u64 m8, .int .u64 m9, d]] w (fun v w' => ∃ L', SR b es L' ∧ v = .tuple #[.int .i64 0, .agg #[.int .u64 0, .int .u64 0, .int .u32 0, .int .u16 0, .int .u16 0, .int .u64 0, .int .u32 0, .int .u8 0, .int .u64 0, .int .u64 0, .slice none 0 0], .iface 48 (.int .i64 5)] ∧ St w0 w' (L' :: D :: F)) := by
  refine enter (vs := [.pointer (some ⟨b, 0, none⟩), .agg #[.int .u64 m0, .int .u64 m1, .int .u32 m2, .int .u16 m3, .int .u16 m4, .int .u64 m5, .int .u32 m6, .int .u8 m7, .int .u64 m8, .int .u64 m9, d]]) 73 Tryd.func8 rfl rfl (by simp) ?_; intro a hA
  refine wp_seq ?_
  refine wp_region_lit ?_
  refine st_box hA hS [.int .u64 m0, .int .u64 m1, .int .u32 m2, .int .u16 m3, .int .u16 m4, .int .u64 m5, .int .u32 m6, .int .u8 m7, .int .u64 m8, .int .u64 m9, d] rfl rfl rfl rfl rfl (by decide) ?_; clear hA hS; intro b1 w2 a hS hA
  refine st_run tbOk 1 hA (e' := (4, .int .i64 0) :: _) rfl ?_; clear hA; intro a hA
  refine st_alloc tbOk hA hS [.int .u64 0, .int .u64 0, .int .u32 0, .int .u16 0, .int .u16 0, .int .u64 0, .int .u32 0, .int .u8 0, .int .u64 0, .int .u64 0, .slice none 0 0] rfl rfl rfl rfl rfl (by decide) ?_; clear hA hS; intro b3 w4 a hS hA
  refine st_run tbOk 1 hA (e' := (6, .nilIface) :: _) rfl ?_; clear hA; intro a hA
  refine wpList_nil ?_
  replace hA := hA.sel [0, 3, 5] (e' := [(0, .pointer (some ⟨b, 0, none⟩)), (3, .pointer (some ⟨b1, 0, none⟩)), (5, .pointer (some ⟨b3, 0, none⟩))]) rfl
  refine xt_norm ?_
  refine wp_seq ?_
  refine wp_seq ?_
  refine wp_region_lit ?_
  refine st_run tbOk 1 hA (e' := (10, .pointer (some ⟨b, 0, none⟩)) :: _) rfl ?_; clear hA; intro a hA
  refine st_val hA rfl rfl (by decide) (rn_loadA tbOk hA [.int .u64 m0, .int .u64 m1, .int .u32 m2, .int .u16 m3, .int .u16 m4, .int .u64 m5, .int .u32 m6, .int .u8 m7, .int .u64 m8, .int .u64 m9, d] rfl rfl rfl rfl rfl (cells_row (hS.heapAt 1 rfl) rfl)) ?_; clear hA; intro a hA
  replace hS := hS.front 2 (C := L) (L' := [(b3, rowO [.int .u64 0, .int .u64 0, .int .u32 0, .int .u16 0, .int .u16 0, .int .u64 0, .int .u32 0, .int .u8 0, .int .u64 0, .int .u64 0, .slice none 0 0] 36)] :: [(b1, rowO [.int .u64 m0, .int .u64 m1, .int .u32 m2, .int .u16 m3, .int .u16 m4, .int .u64 m5, .int .u32 m6, .int .u8 m7, .int .u64 m8, .int .u64 m9, d] 36)] :: D :: F) rfl rfl
  refine st_call0 hA rfl rfl rfl isfn12 rfl rfl (by decide) (find12 hS hM m0 m1 m2 m3 m4 m5 m6 m7 m8 m9 _) ?_
  clear hA hS; rintro _ w5 a ⟨L9, hM9, rfl, hS⟩ hA
  have hix := idx_none hno
  replace hA := hA.rw 12 (v' := .int .i64 (-1)) rfl (vint hix)
  obtain ⟨v, C, hO, rfl⟩ := hM9
  obtain ⟨A, c, rfl, hmc, hcx⟩ := hO.open'
  replace hS : St w0 w5 ([(b, rowO [.slice A es.length c] 27)] :: C :: [(b3, rowO [.int .u64 0, .int .u64 0, .int .u32 0, .int .u16 0, .int .u16 0, .int .u64 0, .int .u32 0, .int .u8 0, .int .u64 0, .int .u64 0, .slice none 0 0] 36)] :: [(b1, rowO [.int .u64 m0, .int .u64 m1, .int .u32 m2, .int .u16 m3, .int .u16 m4, .int .u64 m5, .int .u32 m6, .int .u8 m7, .int .u64 m8, .int .u64 m9, d] 36)] :: D :: F) := hS.split
  refine st_run tbOk 1 hA (e' := (7, .int .i64 (-1)) :: _) rfl ?_; clear hA; intro a hA
  refine wpList_nil ?_
  replace hA := hA.sel [0, 3, 5, 7] (e' := [(0, .pointer (some ⟨b, 0, none⟩)), (3, .pointer (some ⟨b1, 0, none⟩)), (5, .pointer (some ⟨b3, 0, none⟩)), (7, .int .i64 (-1))]) rfl
  refine xt_norm ?_
  refine wp_seq ?_
  refine wp_region_lit ?_
  refine st_run tbOk 2 hA (e' := (14, .bool false) :: (13, .int .i64 (-1)) :: _) rfl ?_; clear hA; intro a hA
  refine wpList_nil ?_
  replace hA := hA.sel [0, 3, 5, 7, 14] (e' := [(0, .pointer (some ⟨b, 0, none⟩)), (3, .pointer (some ⟨b1, 0, none⟩)), (5, .pointer (some ⟨b3, 0, none⟩)), (7, .int .i64 (-1)), (14, .bool false)]) rfl
  refine xt_norm ?_
  refine cd_cond_f hA rfl ?_
  refine wp_skip ?_
  refine xt_norm ?_
  refine wp_seq ?_
  refine wp_seq ?_
  refine wp_region_lit ?_
  refine st_run tbOk 3 hA (e' := (34, .pointer (some ⟨b, 0, none⟩)) :: (33, .pointer (some ⟨b, 0, none⟩)) :: (32, .pointer (some ⟨b, 0, none⟩)) :: _) rfl ?_; clear hA; intro a hA
  refine st_val hA rfl rfl (by decide) (rn_load tbOk hA rfl rfl rfl rfl (cell_row (hS.heapAt 0 rfl) rfl)) ?_; clear hA; intro a hA
  refine st_run tbOk 2 hA (e' := (37, .bool (((es.length : Nat) : Int) == 32)) :: (36, .int .i64 ((es.length : Nat) : Int)) :: _) rfl ?_; clear hA; intro a hA
  refine wpList_nil ?_
  replace hA := hA.sel [0, 3, 5, 37] (e' := [(0, .pointer (some ⟨b, 0, none⟩)), (3, .pointer (some ⟨b1, 0, none⟩)), (5, .pointer (some ⟨b3, 0, none⟩)), (37, .bool (((es.length : Nat) : Int) == 32))]) rfl
  refine xt_norm ?_
  have hc6 : ((es.length : Nat) : Int) = 32 := by omega
  replace hA := hA.rw 37 (v' := .bool true) rfl (vb_eq_t hc6)
  refine cd_cond_t hA rfl ?_
  refine wp_seq ?_
  refine wp_region_lit ?_
  refine st_run tbOk 3 hA (e' := (40, .pointer (some ⟨b, 0, none⟩)) :: (39, .pointer (some ⟨b, 0, none⟩)) :: (38, .pointer (some ⟨b, 0, none⟩)) :: _) rfl ?_; clear hA; intro a hA
  refine st_val hA rfl rfl (by decide) (rn_load tbOk hA rfl rfl rfl rfl (cell_row (hS.heapAt 0 rfl) rfl)) ?_; clear hA; intro a hA
  refine st_call0 hA rfl rfl rfl isfn14 rfl rfl (by decide) (indexFunc14 hS (l := es) (RdS.own hO 1 rfl) isfn15 agncP) ?_
  clear hA hS; rintro v w7 a ⟨rfl, hS⟩ hA
  have hjx := idx_none hna
  replace hA := hA.rw 42 (v' := .int .i64 (-1)) rfl (vint hjx)
  refine st_run tbOk 1 hA (e' := (9, .int .i64 (-1)) :: _) rfl ?_; clear hA; intro a hA
  refine wpList_nil ?_
  replace hA := hA.sel [0, 3, 5, 9] (e' := [(0, .pointer (some ⟨b, 0, none⟩)), (3, .pointer (some ⟨b1, 0, none⟩)), (5, .pointer (some ⟨b3, 0, none⟩)), (9, .int .i64 (-1))]) rfl
  refine xt_norm ?_
  refine wp_seq ?_
  refine wp_seq ?_
  refine wp_region_lit ?_
  refine st_run tbOk 2 hA (e' := (44, .bool true) :: (43, .int .i64 (-1)) :: _) rfl ?_; clear hA; intro a hA
  refine wpList_nil ?_
  replace hA := hA.sel [0, 3, 5, 9, 44] (e' := [(0, .pointer (some ⟨b, 0, none⟩)), (3, .pointer (some ⟨b1, 0, none⟩)), (5, .pointer (some ⟨b3, 0, none⟩)), (9, .int .i64 (-1)), (44, .bool true)]) rfl
  refine xt_norm ?_
  refine cd_cond_t hA rfl ?_
  refine wp_seq ?_
  refine wp_region_lit ?_
  refine st_run tbOk 3 hA (e' := (4, .int .i64 0) :: (46, .iface 48 (.int .i64 5)) :: (45, .agg #[.int .u64 0, .int .u64 0, .int .u32 0, .int .u16 0, .int .u16 0, .int .u64 0, .int .u32 0, .int .u8 0, .int .u64 0, .int .u64 0, .slice none 0 0]) :: _) rfl ?_; clear hA; intro a hA
  replace hS := hS.front 2 (C := [(b3, rowO [.int .u64 0, .int .u64 0, .int .u32 0, .int .u16 0, .int .u16 0, .int .u64 0, .int .u32 0, .int .u8 0, .int .u64 0, .int .u64 0, .slice none 0 0] 36)]) (L' := [(b, rowO [.slice A es.length c] 27)] :: C :: [(b1, rowO [.int .u64 m0, .int .u64 m1, .int .u32 m2, .int .u16 m3, .int .u16 m4, .int .u64 m5, .int .u32 m6, .int .u8 m7, .int .u64 m8, .int .u64 m9, d] 36)] :: D :: F) rfl rfl
  refine st_store tbOk hA hS [.int .u64 0, .int .u64 0, .int .u32 0, .int .u16 0, .int .u16 0, .int .u64 0, .int .u32 0, .int .u8 0, .int .u64 0, .int .u64 0, .slice none 0 0] [.int .u64 0, .int .u64 0, .int .u32 0, .int .u16 0, .int .u16 0, .int .u64 0, .int .u32 0, .int .u8 0, .int .u64 0, .int .u64 0, .slice none 0 0] rfl rfl rfl rfl rfl rfl (by simp [Value.oneCell']) (Nat.le_of_ble_eq_true rfl) rfl rfl rfl ?_; clear hS; intro w8 hS
  refine st_run tbOk 1 hA (e' := (6, .iface 48 (.int .i64 5)) :: _) rfl ?_; clear hA; intro a hA
  refine wpList_nil ?_
  replace hA := hA.sel [4, 5, 6] (e' := [(4, .int .i64 0), (5, .pointer (some ⟨b3, 0, none⟩)), (6, .iface 48 (.int .i64 5))]) rfl
  refine xt_norm ?_
  refine wp_ret (xt_ret (xt_ret ?_))
  refine rettct tbOk (fn := Tryd.f8) (cs := [.int .u64 0, .int .u64 0, .int .u32 0, .int .u16 0, .int .u16 0, .int .u64 0, .int .u32 0, .int .u8 0, .int .u64 0, .int .u64 0, .slice none 0 0]) hA rfl rfl rfl rfl rfl rfl rfl (cells_row (hS.heapAt 0 rfl) rfl) ?_
  replace hS := hS.drop1
  replace hS := hS.front 2 (C := [(b1, rowO [.int .u64 m0, .int .u64 m1, .int .u32 m2, .int .u16 m3, .int .u16 m4, .int .u64 m5, .int .u32 m6, .int .u8 m7, .int .u64 m8, .int .u64 m9, d] 36)]) (L' := [(b, rowO [.slice A es.length c] 27)] :: C :: D :: F) rfl rfl
  replace hS := hS.drop1
  replace hS := hS.front 1 (C := C) (L' := [(b, rowO [.slice A es.length c] 27)] :: D :: F) rfl rfl
  replace hS := hS.front 1 (C := [(b, rowO [.slice A es.length c] 27)]) (L' := C :: D :: F) rfl rfl
  replace hS := hS.front 2 (C := D) (L' := [(b, rowO [.slice A es.length c] 27)] :: C :: F) rfl rfl
  replace hS := hS.front 2 (C := C) (L' := D :: [(b, rowO [.slice A es.length c] 27)] :: F) rfl rfl
  replace hS := hS.front 2 (C := [(b, rowO [.slice A es.length c] 27)]) (L' := C :: D :: F) rfl rfl
  replace hS := hS.join
  exact ⟨_, ⟨_, _, hO, rfl⟩, rfl, hS⟩

theorem take_out8 {w0 w : World} {F : List Chunk} {L D : Chunk} {b : Nat} {es : List Ent} (hS : St w0 w (L :: D :: F)) (hM : SR b es L) (m0 m1 m2 m3 m4 m5 m6 m7 m8 m9 : Int) (d : Value) (hno : ∀ (i : Nat) (y : Ent), es[i]? = some y → fnd m1 m2 y = false) (hl : es.length = 32) {j : Nat} {z : Ent} (hj : es[j]? = some z) (hja : agn z = true) (hjb : ∀ (i : Nat) (y : Ent), i < j → es[i]? = some y → agn y = false) :
    Ret Tryd.prog 8 #[.pointer (some ⟨b, 0, none⟩), .agg #[.int .u64 m0, .int .u64 m1, .int .u32 m2, .int .u16 m3, .int .u16 m4, .int .u64 m5, .int .u32 m6, .int .u8 m7, .int .u64 m8, .int .u64 m9, d]] w (fun v w' => ∃ L', SR b (es.take j ++ es.drop (j + 1) ++ [(m1, m2, 1, 0, 0, 0, 0, 0, 0, 0, 0, 0, 0, none, 0, ([] : List UInt8))]) L' ∧ v = .tuple #[.int .i64 0, .agg #[.int .u64 0, .int .u64 0, .int .u32 0, .int .u16 0, .int .u16 0, .int .u64 0, .int .u32 0, .int .u8 0, .int .u64 0, .int .u64 0, .slice none 0 0], .nilIface] ∧ St w0 w' (L' :: D :: F)) := by
  refine enter (vs := [.pointer (some ⟨b, 0, none⟩), .agg #[.int .u64 m0, .int .u64 m1, .int .u32 m2, .int .u16 m3, .int .u16 m4, .int .u64 m5, .int .u32 m6, .int .u8 m7, .int .u64 m8, .int .u64 m9, d]]) 73 Tryd.func8 rfl rfl (by simp) ?_; intro a hA
  refine wp_seq ?_
  refine wp_region_lit ?_
  refine st_box hA hS [.int .u64 m0, .int .u64 m1, .int .u32 m2, .int .u16 m3, .int .u16 m4, .int .u64 m5, .int .u32 m6, .int .u8 m7, .int .u64 m8, .int .u64 m9, d] rfl rfl rfl rfl rfl (by decide) ?_; clear hA hS; intro b1 w2 a hS hA
  refine st_run tbOk 1 hA (e' := (4, .int .i64 0) :: _) rfl ?_; clear hA; intro a hA
  refine st_alloc tbOk hA hS [.int .u64 0, .int .u64 0, .int .u32 0, .int .u16 0, .int .u16 0, .int .u64 0, .int .u32 0, .int .u8 0, .int .u64 0, .int .u64 0, .slice none 0 0] rfl rfl rfl rfl rfl (by decide) ?_; clear hA hS; intro b3 w4 a hS hA
  refine st_run tbOk 1 hA (e' := (6, .nilIface) :: _) rfl ?_; clear hA; intro a hA
  refine wpList_nil ?_
  replace hA := hA.sel [0, 3, 5] (e' := [(0, .pointer (some ⟨b, 0, none⟩)), (3, .pointer (some ⟨b1, 0, none⟩)), (5, .pointer (some ⟨b3, 0, none⟩))]) rfl
  refine xt_norm ?_
  refine wp_seq ?_
  refine wp_seq ?_
  refine wp_region_lit ?_
  refine st_run tbOk 1 hA (e' := (10, .pointer (some ⟨b, 0, none⟩)) :: _) rfl ?_; clear hA; intro a hA
  refine st_val hA rfl rfl (by decide) (rn_loadA tbOk hA [.int .u64 m0, .int .u64 m1, .int .u32 m2, .int .u16 m3, .int .u16 m4, .int .u64 m5, .int .u32 m6, .int .u8 m7, .int .u64 m8, .int .u64 m9, d] rfl rfl rfl rfl rfl (cells_row (hS.heapAt 1 rfl) rfl)) ?_; clear hA; intro a hA
  replace hS := hS.front 2 (C := L) (L' := [(b3, rowO [.int .u64 0, .int .u64 0, .int .u32 0, .int .u16 0, .int .u16 0, .int .u64 0, .int .u32 0, .int .u8 0, .int .u64 0, .int .u64 0, .slice none 0 0] 36)] :: [(b1, rowO [.int .u64 m0, .int .u64 m1, .int .u32 m2, .int .u16 m3, .int .u16 m4, .int .u64 m5, .int .u32 m6, .int .u8 m7, .int .u64 m8, .int .u64 m9, d] 36)] :: D :: F) rfl rfl
  refine st_call0 hA rfl rfl rfl isfn12 rfl rfl (by decide) (find12 hS hM m0 m1 m2 m3 m4 m5 m6 m7 m8 m9 _) ?_
  clear hA hS; rintro _ w5 a ⟨L9, hM9, rfl, hS⟩ hA
  have hix := idx_none hno
  replace hA := hA.rw 12 (v' := .int .i64 (-1)) rfl (vint hix)
  obtain ⟨v, C, hO, rfl⟩ := hM9
  obtain ⟨A, c, rfl, hmc, hcx⟩ := hO.open'
  replace hS : St w0 w5 ([(b, rowO [.slice A es.length c] 27)] :: C :: [(b3, rowO [.int .u64 0, .int .u64 0, .int .u32 0, .int .u16 0, .int .u16 0, .int .u64 0, .int .u32 0, .int .u8 0, .int .u64 0, .int .u64 0, .slice none 0 0] 36)] :: [(b1, rowO [.int .u64 m0, .int .u64 m1, .int .u32 m2, .int .u16 m3, .int .u16 m4, .int .u64 m5, .int .u32 m6, .int .u8 m7, .int .u64 m8, .int .u64 m9, d] 36)] :: D :: F) := hS.split
  refine st_run tbOk 1 hA (e' := (7, .int .i64 (-1)) :: _) rfl ?_; clear hA; intro a hA
  refine wpList_nil ?_
  replace hA := hA.sel [0, 3, 5, 7] (e' := [(0, .pointer (some ⟨b, 0, none⟩)), (3, .pointer (some ⟨b1, 0, none⟩)), (5, .pointer (some ⟨b3, 0, none⟩)), (7, .int .i64 (-1))]) rfl
  refine xt_norm ?_
  refine wp_seq ?_
  refine wp_region_lit ?_
  refine st_run tbOk 2 hA (e' := (14, .bool false) :: (13, .int .i64 (-1)) :: _) rfl ?_; clear hA; intro a hA
  refine wpList_nil ?_
  replace hA := hA.sel [0, 3, 5, 7, 14] (e' := [(0, .pointer (some ⟨b, 0, none⟩)), (3, .pointer (some ⟨b1, 0, none⟩)), (5, .pointer (some ⟨b3, 0, none⟩)), (7, .int .i64 (-1)), (14, .bool false)]) rfl
  refine xt_norm ?_
  refine cd_cond_f hA rfl ?_
  refine wp_skip ?_
  refine xt_norm ?_
  refine wp_seq ?_
  refine wp_seq ?_
  refine wp_region_lit ?_
  refine st_run tbOk 3 hA (e' := (34, .pointer (some ⟨b, 0, none⟩)) :: (33, .pointer (some ⟨b, 0, none⟩)) :: (32, .pointer (some ⟨b, 0, none⟩)) :: _) rfl ?_; clear hA; intro a hA
  refine st_val hA rfl rfl (by decide) (rn_load tbOk hA rfl rfl rfl rfl (cell_row (hS.heapAt 0 rfl) rfl)) ?_; clear hA; intro a hA
  refine st_run tbOk 2 hA (e' := (37, .bool (((es.length : Nat) : Int) == 32)) :: (36, .int .i64 ((es.length : Nat) : Int)) :: _) rfl ?_; clear hA; intro a hA
  refine wpList_nil ?_
  replace hA := hA.sel [0, 3, 5, 37] (e' := [(0, .pointer (some ⟨b, 0, none⟩)), (3, .pointer (some ⟨b1, 0, none⟩)), (5, .pointer (some ⟨b3, 0, none⟩)), (37, .bool (((es.length : Nat) : Int) == 32))]) rfl
  refine xt_norm ?_
  have hc6 : ((es.length : Nat) : Int) = 32 := by omega
  replace hA := hA.rw 37 (v' := .bool true) rfl (vb_eq_t hc6)
  refine cd_cond_t hA rfl ?_
  refine wp_seq ?_
  refine wp_region_lit ?_
  refine st_run tbOk 3 hA (e' := (40, .pointer (some ⟨b, 0, none⟩)) :: (39, .pointer (some ⟨b, 0, none⟩)) :: (38, .pointer (some ⟨b, 0, none⟩)) :: _) rfl ?_; clear hA; intro a hA
  refine st_val hA rfl rfl (by decide) (rn_load tbOk hA rfl rfl rfl rfl (cell_row (hS.heapAt 0 rfl) rfl)) ?_; clear hA; intro a hA
  refine st_call0 hA rfl rfl rfl isfn14 rfl rfl (by decide) (indexFunc14 hS (l := es) (RdS.own hO 1 rfl) isfn15 agncP) ?_
  clear hA hS; rintro v w7 a ⟨rfl, hS⟩ hA
  have hjx := idx_some hj hja hjb
  have hjl := (List.getElem?_eq_some_iff.1 hj).1
  replace hA := hA.rw 42 (v' := .int .i64 ((j : Nat) : Int)) rfl (vint hjx)
  refine st_run tbOk 1 hA (e' := (9, .int .i64 ((j : Nat) : Int)) :: _) rfl ?_; clear hA; intro a hA
  refine wpList_nil ?_
  replace hA := hA.sel [0, 3, 5, 9] (e' := [(0, .pointer (some ⟨b, 0, none⟩)), (3, .pointer (some ⟨b1, 0, none⟩)), (5, .pointer (some ⟨b3, 0, none⟩)), (9, .int .i64 ((j : Nat) : Int))]) rfl
  refine xt_norm ?_
  refine wp_seq ?_
  refine wp_seq ?_
  refine wp_region_lit ?_
  refine st_run tbOk 2 hA (e' := (44, .bool (decide (((j : Nat) : Int) < 0))) :: (43, .int .i64 ((j : Nat) : Int)) :: _) rfl ?_; clear hA; intro a hA
  refine wpList_nil ?_
  replace hA := hA.sel [0, 3, 5, 9, 44] (e' := [(0, .pointer (some ⟨b, 0, none⟩)), (3, .pointer (some ⟨b1, 0, none⟩)), (5, .pointer (some ⟨b3, 0, none⟩)), (9, .int .i64 ((j : Nat) : Int)), (44, .bool (decide (((j : Nat) : Int) < 0)))]) rfl
  refine xt_norm ?_
  by_cases hc8 : ((j : Nat) : Int) < 0
  · first
    | (exfalso; omega)
    | (replace hA := hA.rw 44 (v' := .bool true) rfl (vb_true hc8)
       refine cd_cond_t hA rfl ?_
       refine wp_seq ?_
       refine wp_region_lit ?_
       refine st_run tbOk 3 hA (e' := (4, .int .i64 0) :: (46, .iface 48 (.int .i64 5)) :: (45, .agg #[.int .u64 0, .int .u64 0, .int .u32 0, .int .u16 0, .int .u16 0, .int .u64 0, .int .u32 0, .int .u8 0, .int .u64 0, .int .u64 0, .slice none 0 0]) :: _) rfl ?_; clear hA; intro a hA
       replace hS := hS.front 2 (C := [(b3, rowO [.int .u64 0, .int .u64 0, .int .u32 0, .int .u16 0, .int .u16 0, .int .u64 0, .int .u32 0, .int .u8 0, .int .u64 0, .int .u64 0, .slice none 0 0] 36)]) (L' := [(b, rowO [.slice A es.length c] 27)] :: C :: [(b1, rowO [.int .u64 m0, .int .u64 m1, .int .u32 m2, .int .u16 m3, .int .u16 m4, .int .u64 m5, .int .u32 m6, .int .u8 m7, .int .u64 m8, .int .u64 m9, d] 36)] :: D :: F) rfl rfl
       refine st_store tbOk hA hS [.int .u64 0, .int .u64 0, .int .u32 0, .int .u16 0, .int .u16 0, .int .u64 0, .int .u32 0, .int .u8 0, .int .u64 0, .int .u64 0, .slice none 0 0] [.int .u64 0, .int .u64 0, .int .u32 0, .int .u16 0, .int .u16 0, .int .u64 0, .int .u32 0, .int .u8 0, .int .u64 0, .int .u64 0, .slice none 0 0] rfl rfl rfl rfl rfl rfl (by simp [Value.oneCell']) (Nat.le_of_ble_eq_true rfl) rfl rfl rfl ?_; clear hS; intro w9 hS
       refine st_run tbOk 1 hA (e' := (6, .iface 48 (.int .i64 5)) :: _) rfl ?_; clear hA; intro a hA
       refine wpList_nil ?_
       replace hA := hA.sel [4, 5, 6] (e' := [(4, .int .i64 0), (5, .pointer (some ⟨b3, 0, none⟩)), (6, .iface 48 (.int .i64 5))]) rfl
       refine xt_norm ?_
       refine wp_ret (xt_ret (xt_ret ?_))
       refine rettct tbOk (fn := Tryd.f8) (cs := [.int .u64 0, .int .u64 0, .int .u32 0, .int .u16 0, .int .u16 0, .int .u64 0, .int .u32 0, .int .u8 0, .int .u64 0, .int .u64 0, .slice none 0 0]) hA rfl rfl rfl rfl rfl rfl rfl (cells_row (hS.heapAt 0 rfl) rfl) ?_
       replace hS := hS.drop1
       replace hS := hS.front 2 (C := [(b1, rowO [.int .u64 m0, .int .u64 m1, .int .u32 m2, .int .u16 m3, .int .u16 m4, .int .u64 m5, .int .u32 m6, .int .u8 m7, .int .u64 m8, .int .u64 m9, d] 36)]) (L' := [(b, rowO [.slice A es.length c] 27)] :: C :: D :: F) rfl rfl
       replace hS := hS.drop1
       replace hS := hS.front 1 (C := C) (L' := [(b, rowO [.slice A es.length c] 27)] :: D :: F) rfl rfl
       replace hS := hS.front 1 (C := [(b, rowO [.slice A es.length c] 27)]) (L' := C :: D :: F) rfl rfl
       replace hS := hS.front 2 (C := D) (L' := [(b, rowO [.slice A es.length c] 27)] :: C :: F) rfl rfl
       replace hS := hS.front 2 (C := C) (L' := D :: [(b, rowO [.slice A es.length c] 27)] :: F) rfl rfl
       replace hS := hS.front 2 (C := [(b, rowO [.slice A es.length c] 27)]) (L' := C :: D :: F) rfl rfl
       replace hS := hS.join
       exact ⟨_, ⟨_, _, hO, rfl⟩, rfl, hS⟩)
  · first
    | (exfalso; omega)
    | (replace hA := hA.rw 44 (v' := .bool false) rfl (vb_false hc8)
       refine cd_cond_f hA rfl ?_
       refine wp_skip ?_
       refine xt_norm ?_
       refine wp_region_lit ?_
       refine st_run tbOk 4 hA (e' := (50, .pointer (some ⟨b, 0, none⟩)) :: (49, .pointer (some ⟨b, 0, none⟩)) :: (48, .pointer (some ⟨b, 0, none⟩)) :: (47, .pointer (some ⟨b, 0, none⟩)) :: _) rfl ?_; clear hA; intro a hA
       refine st_val hA rfl rfl (by decide) (rn_load tbOk hA rfl rfl rfl rfl (cell_row (hS.heapAt 0 rfl) rfl)) ?_; clear hA; intro a hA
       refine st_run tbOk 3 hA (e' := (54, .int .i64 (IntKind.i64.wrap (((j : Nat) : Int) + 1))) :: (53, .int .i64 ((j : Nat) : Int)) :: (52, .int .i64 ((j : Nat) : Int)) :: _) rfl ?_; clear hA; intro a hA
       replace hA := hA.rw 54 (v' := .int .i64 ((j + 1 : Nat) : Int)) rfl (wr64 (by omega) (by omega) (by omega))
       replace hS := hS.front 1 (C := C) (L' := [(b, rowO [.slice A es.length c] 27)] :: [(b3, rowO [.int .u64 0, .int .u64 0, .int .u32 0, .int .u16 0, .int .u16 0, .int .u64 0, .int .u32 0, .int .u8 0, .int .u64 0, .int .u64 0, .slice none 0 0] 36)] :: [(b1, rowO [.int .u64 m0, .int .u64 m1, .int .u32 m2, .int .u16 m3, .int .u16 m4, .int .u64 m5, .int .u32 m6, .int .u8 m7, .int .u64 m8, .int .u64 m9, d] 36)] :: D :: F) rfl rfl
       refine st_call0 hA rfl rfl rfl isfn16 rfl rfl (by decide) (delete16 hS hO j (j + 1) (by omega) (by omega)) ?_
       clear hA hS; rintro v10 w11 a ⟨C12, hO12, hS⟩ hA
       obtain ⟨A13, c14, rfl, hmc14, hxc14⟩ := hO12.open'
       refine st_run tbOk 2 hA (e' := (57, .pointer (some ⟨b, 0, none⟩)) :: (56, .pointer (some ⟨b, 0, none⟩)) :: _) rfl ?_; clear hA; intro a hA
       replace hS := hS.front 1 (C := [(b, rowO [.slice A es.length c] 27)]) (L' := C12 :: [(b3, rowO [.int .u64 0, .int .u64 0, .int .u32 0, .int .u16 0, .int .u16 0, .int .u64 0, .int .u32 0, .int .u8 0, .int .u64 0, .int .u64 0, .slice none 0 0] 36)] :: [(b1, rowO [.int .u64 m0, .int .u64 m1, .int .u32 m2, .int .u16 m3, .int .u16 m4, .int .u64 m5, .int .u32 m6, .int .u8 m7, .int .u64 m8, .int .u64 m9, d] 36)] :: D :: F) rfl rfl
       refine st_store tbOk hA hS [.slice A13 ((es.take j ++ es.drop (j + 1)).length) c14] [.slice A13 ((es.take j ++ es.drop (j + 1)).length) c14] rfl rfl rfl rfl rfl rfl (by intro u hu; rw [List.mem_singleton.1 hu]; rfl) (Nat.le_of_ble_eq_true rfl) rfl rfl rfl ?_; clear hS; intro w15 hS
       refine wpList_nil ?_
       replace hA := hA.sel [0, 3, 5] (e' := [(0, .pointer (some ⟨b, 0, none⟩)), (3, .pointer (some ⟨b1, 0, none⟩)), (5, .pointer (some ⟨b3, 0, none⟩))]) rfl
       refine xt_norm ?_
       refine wp_seq ?_
       replace hS := hS.front 1 (C := C12) (L' := [(b, rowO [.slice A13 ((es.take j ++ es.drop (j + 1)).length) c14] 27)] :: [(b3, rowO [.int .u64 0, .int .u64 0, .int .u32 0, .int .u16 0, .int .u16 0, .int .u64 0, .int .u32 0, .int .u8 0, .int .u64 0, .int .u64 0, .slice none 0 0] 36)] :: [(b1, rowO [.int .u64 m0, .int .u64 m1, .int .u32 m2, .int .u16 m3, .int .u16 m4, .int .u64 m5, .int .u32 m6, .int .u8 m7, .int .u64 m8, .int .u64 m9, d] 36)] :: D :: F) rfl rfl
       refine wp_draw (fun w' => St w0 w' ([(b, rowO [.slice A13 ((es.take j ++ es.drop (j + 1)).length) c14] 27)] :: [(b3, rowO [.int .u64 0, .int .u64 0, .int .u32 0, .int .u16 0, .int .u16 0, .int .u64 0, .int .u32 0, .int .u8 0, .int .u64 0, .int .u64 0, .slice none 0 0] 36)] :: [(b1, rowO [.int .u64 m0, .int .u64 m1, .int .u32 m2, .int .u16 m3, .int .u16 m4, .int .u64 m5, .int .u32 m6, .int .u8 m7, .int .u64 m8, .int .u64 m9, d] 36)] :: D :: F)) [14] [(0, true), (1, true), (2, true), (3, true), (4, true), (5, true), (6, true), (7, true), (8, true), (9, true), (10, false), (11, false), (12, true), (13, true), (14, false)] mixed (by kernel_rfl) (by rintro c a w ⟨_, _, h, _⟩; cases h) (by rfl) (by kernel_rfl) ?_
       replace hS := hS.drew
       refine dr_run tbOk 4 hA (hS.tail 1 rfl) (e' := (61, .pointer (some ⟨b, 0, none⟩)) :: (60, .pointer (some ⟨b, 0, none⟩)) :: (59, .pointer (some ⟨b, 0, none⟩)) :: (58, .pointer (some ⟨b, 0, none⟩)) :: _) rfl ?_; clear hA; intro a hA
       refine dr_y hA rfl rfl rfl (by decide) (hS.tail 1 rfl) (fun w' hS' => rn_load tbOk hA rfl rfl rfl rfl (cell_row (hS'.heapAt 0 rfl) rfl)) ?_; clear hA; intro a hA
       refine dr_run tbOk 1 hA (hS.tail 1 rfl) (e' := (63, .pointer (some ⟨b1, 1, none⟩)) :: _) rfl ?_; clear hA; intro a hA
       refine dr_y hA rfl rfl rfl (by decide) (hS.tail 1 rfl) (fun w' hS' => rn_load tbOk hA rfl rfl rfl rfl (cell_row (hS'.heapAt 2 rfl) rfl)) ?_; clear hA; intro a hA
       refine dr_run tbOk 1 hA (hS.tail 1 rfl) (e' := (65, .pointer (some ⟨b1, 2, none⟩)) :: _) rfl ?_; clear hA; intro a hA
       refine dr_y hA rfl rfl rfl (by decide) (hS.tail 1 rfl) (fun w' hS' => rn_load tbOk hA rfl rfl rfl rfl (cell_row (hS'.heapAt 2 rfl) rfl)) ?_; clear hA; intro a hA
       refine dr_run tbOk 1 hA (hS.tail 1 rfl) (e' := (67, .agg #[.int .u64 m1, .int .u32 m2, .int .i64 1, .int .u64 0, .int .u64 0, .int .u32 0, .int .u16 0, .int .u16 0, .int .u64 0, .int .u32 0, .int .u8 0, .int .u64 0, .int .u64 0, .slice none 0 0]) :: _) rfl ?_; clear hA; intro a hA
       refine dr_b (o := _) rfl ?_
       refine st_buildSlice tbOk hA hS [.int .u64 m1, .int .u32 m2, .int .i64 1, .int .u64 0, .int .u64 0, .int .u32 0, .int .u16 0, .int .u16 0, .int .u64 0, .int .u32 0, .int .u8 0, .int .u64 0, .int .u64 0, .slice none 0 0] rfl rfl rfl rfl rfl (by decide) (by kernel_rfl) rfl rfl (by decide) ?_; clear hA hS; intro b16 w17 a hS hA
       refine dr_nil (.inr (hS.tail 2 rfl)) ?_
       refine dr_b (o := _) rfl ?_
       replace hS := hS.front 1 (C := C12) (L' := [(b16, rowO [.int .u64 m1, .int .u32 m2, .int .i64 1, .int .u64 0, .int .u64 0, .int .u32 0, .int .u16 0, .int .u16 0, .int .u64 0, .int .u32 0, .int .u8 0, .int .u64 0, .int .u64 0, .slice none 0 0] 55)] :: [(b, rowO [.slice A13 ((es.take j ++ es.drop (j + 1)).length) c14] 27)] :: [(b3, rowO [.int .u64 0, .int .u64 0, .int .u32 0, .int .u16 0, .int .u16 0, .int .u64 0, .int .u32 0, .int .u8 0, .int .u64 0, .int .u64 0, .slice none 0 0] 36)] :: [(b1, rowO [.int .u64 m0, .int .u64 m1, .int .u32 m2, .int .u16 m3, .int .u16 m4, .int .u64 m5, .int .u32 m6, .int .u8 m7, .int .u64 m8, .int .u64 m9, d] 36)] :: D :: F) rfl rfl
       refine st_append tbOk hA (m := (es.take j ++ es.drop (j + 1)).length) (q := 1) (xs := rows encEntry (es.take j ++ es.drop (j + 1))) (news := rows encEntry ([(m1, m2, 1, 0, 0, 0, 0, 0, 0, 0, 0, 0, 0, none, 0, ([] : List UInt8))] : List (Int × Int × Int × Int × Int × Int × Int × Int × Int × Int × Int × Int × Int × Option Addr × Nat × List UInt8))) rfl rfl rfl rfl rfl rfl rfl rfl (by decide) hO12 hS (((Own.full (T := 55) (size := 14) (g := b16) (m := 1) rfl (by decide)).rd (hS.own_ 1 rfl)).x) (rows_one encEntry_ok _) (maxLen_le (by first | omega | (simp; omega))) (by show ((es.take j ++ es.drop (j + 1)).length + 1) * 104 ≤ 140737488355328; first | omega | (simp; omega)) rfl rfl (by decide) ?_
       clear hA hS; intro v18 w19 C20 a hO20 hS hA
       replace hO20 := Own.app (l := es.take j ++ es.drop (j + 1)) (l2 := ([(m1, m2, 1, 0, 0, 0, 0, 0, 0, 0, 0, 0, 0, none, 0, ([] : List UInt8))] : List (Int × Int × Int × Int × Int × Int × Int × Int × Int × Int × Int × Int × Int × Option Addr × Nat × List UInt8))) hO20
       obtain ⟨A21, c22, rfl, hmc22, hxc22⟩ := hO20.open'
       refine dr_nil (.inr (hS.tail 2 rfl)) ?_
       refine dr_run tbOk 2 hA (hS.tail 2 rfl) (e' := (71, .pointer (some ⟨b, 0, none⟩)) :: (70, .pointer (some ⟨b, 0, none⟩)) :: _) rfl ?_; clear hA; intro a hA
       refine dr_b (o := _) rfl ?_
       replace hS := hS.front 2 (C := [(b, rowO [.slice A13 ((es.take j ++ es.drop (j + 1)).length) c14] 27)]) (L' := C20 :: [(b16, rowO [.int .u64 m1, .int .u32 m2, .int .i64 1, .int .u64 0, .int .u64 0, .int .u32 0, .int .u16 0, .int .u16 0, .int .u64 0, .int .u32 0, .int .u8 0, .int .u64 0, .int .u64 0, .slice none 0 0] 55)] :: [(b3, rowO [.int .u64 0, .int .u64 0, .int .u32 0, .int .u16 0, .int .u16 0, .int .u64 0, .int .u32 0, .int .u8 0, .int .u64 0, .int .u64 0, .slice none 0 0] 36)] :: [(b1, rowO [.int .u64 m0, .int .u64 m1, .int .u32 m2, .int .u16 m3, .int .u16 m4, .int .u64 m5, .int .u32 m6, .int .u8 m7, .int .u64 m8, .int .u64 m9, d] 36)] :: D :: F) rfl rfl
       refine st_store tbOk hA hS [.slice A21 (((es.take j ++ es.drop (j + 1)) ++ ([(m1, m2, 1, 0, 0, 0, 0, 0, 0, 0, 0, 0, 0, none, 0, ([] : List UInt8))] : List (Int × Int × Int × Int × Int × Int × Int × Int × Int × Int × Int × Int × Int × Option Addr × Nat × List UInt8))).length) c22] [.slice A21 (((es.take j ++ es.drop (j + 1)) ++ ([(m1, m2, 1, 0, 0, 0, 0, 0, 0, 0, 0, 0, 0, none, 0, ([] : List UInt8))] : List (Int × Int × Int × Int × Int × Int × Int × Int × Int × Int × Int × Int × Int × Option Addr × Nat × List UInt8))).length) c22] rfl rfl rfl rfl rfl rfl (by intro u hu; rw [List.mem_singleton.1 hu]; rfl) (Nat.le_of_ble_eq_true rfl) rfl rfl rfl ?_; clear hS; intro w23 hS
       refine dr_nil (.inl (by decide)) ?_
       refine dr_end ?_
       replace hA := hA.sel [5] (e' := [(5, .pointer (some ⟨b3, 0, none⟩))]) rfl
       refine xt_norm ?_
       refine wp_seq ?_
       refine wp_region_lit ?_
       refine st_run tbOk 2 hA (e' := (4, .int .i64 0) :: (72, .agg #[.int .u64 0, .int .u64 0, .int .u32 0, .int .u16 0, .int .u16 0, .int .u64 0, .int .u32 0, .int .u8 0, .int .u64 0, .int .u64 0, .slice none 0 0]) :: _) rfl ?_; clear hA; intro a hA
       replace hS := hS.front 3 (C := [(b3, rowO [.int .u64 0, .int .u64 0, .int .u32 0, .int .u16 0, .int .u16 0, .int .u64 0, .int .u32 0, .int .u8 0, .int .u64 0, .int .u64 0, .slice none 0 0] 36)]) (L' := [(b, rowO [.slice A21 (((es.take j ++ es.drop (j + 1)) ++ ([(m1, m2, 1, 0, 0, 0, 0, 0, 0, 0, 0, 0, 0, none, 0, ([] : List UInt8))] : List (Int × Int × Int × Int × Int × Int × Int × Int × Int × Int × Int × Int × Int × Option Addr × Nat × List UInt8))).length) c22] 27)] :: C20 :: [(b16, rowO [.int .u64 m1, .int .u32 m2, .int .i64 1, .int .u64 0, .int .u64 0, .int .u32 0, .int .u16 0, .int .u16 0, .int .u64 0, .int .u32 0, .int .u8 0, .int .u64 0, .int .u64 0, .slice none 0 0] 55)] :: [(b1, rowO [.int .u64 m0, .int .u64 m1, .int .u32 m2, .int .u16 m3, .int .u16 m4, .int .u64 m5, .int .u32 m6, .int .u8 m7, .int .u64 m8, .int .u64 m9, d] 36)] :: D :: F) rfl rfl
       refine st_store tbOk hA hS [.int .u64 0, .int .u64 0, .int .u32 0, .int .u16 0, .int .u16 0, .int .u64 0, .int .u32 0, .int .u8 0, .int .u64 0, .int .u64 0, .slice none 0 0] [.int .u64 0, .int .u64 0, .int .u32 0, .int .u16 0, .int .u16 0, .int .u64 0, .int .u32 0, .int .u8 0, .int .u64 0, .int .u64 0, .slice none 0 0] rfl rfl rfl rfl rfl rfl (by simp [Value.oneCell']) (Nat.le_of_ble_eq_true rfl) rfl rfl rfl ?_; clear hS; intro w24 hS
       refine st_run tbOk 1 hA (e' := (6, .nilIface) :: _) rfl ?_; clear hA; intro a hA
       refine wpList_nil ?_
       replace hA := hA.sel [4, 5, 6] (e' := [(4, .int .i64 0), (5, .pointer (some ⟨b3, 0, none⟩)), (6, .nilIface)]) rfl
       refine xt_norm ?_
       refine wp_ret ?_
       refine rettct tbOk (fn := Tryd.f8) (cs := [.int .u64 0, .int .u64 0, .int .u32 0, .int .u16 0, .int .u16 0, .int .u64 0, .int .u32 0, .int .u8 0, .int .u64 0, .int .u64 0, .slice none 0 0]) hA rfl rfl rfl rfl rfl rfl rfl (cells_row (hS.heapAt 0 rfl) rfl) ?_
       replace hS := hS.drop1
       replace hS := hS.front 2 (C := [(b16, rowO [.int .u64 m1, .int .u32 m2, .int .i64 1, .int .u64 0, .int .u64 0, .int .u32 0, .int .u16 0, .int .u16 0, .int .u64 0, .int .u32 0, .int .u8 0, .int .u64 0, .int .u64 0, .slice none 0 0] 55)]) (L' := [(b, rowO [.slice A21 (((es.take j ++ es.drop (j + 1)) ++ ([(m1, m2, 1, 0, 0, 0, 0, 0, 0, 0, 0, 0, 0, none, 0, ([] : List UInt8))] : List (Int × Int × Int × Int × Int × Int × Int × Int × Int × Int × Int × Int × Int × Option Addr × Nat × List UInt8))).length) c22] 27)] :: C20 :: [(b1, rowO [.int .u64 m0, .int .u64 m1, .int .u32 m2, .int .u16 m3, .int .u16 m4, .int .u64 m5, .int .u32 m6, .int .u8 m7, .int .u64 m8, .int .u64 m9, d] 36)] :: D :: F) rfl rfl
       replace hS := hS.drop1
       replace hS := hS.front 2 (C := [(b1, rowO [.int .u64 m0, .int .u64 m1, .int .u32 m2, .int .u16 m3, .int .u16 m4, .int .u64 m5, .int .u32 m6, .int .u8 m7, .int .u64 m8, .int .u64 m9, d] 36)]) (L' := [(b, rowO [.slice A21 (((es.take j ++ es.drop (j + 1)) ++ ([(m1, m2, 1, 0, 0, 0, 0, 0, 0, 0, 0, 0, 0, none, 0, ([] : List UInt8))] : List (Int × Int × Int × Int × Int × Int × Int × Int × Int × Int × Int × Int × Int × Option Addr × Nat × List UInt8))).length) c22] 27)] :: C20 :: D :: F) rfl rfl
       replace hS := hS.drop1
       replace hS := hS.front 1 (C := C20) (L' := [(b, rowO [.slice A21 (((es.take j ++ es.drop (j + 1)) ++ ([(m1, m2, 1, 0, 0, 0, 0, 0, 0, 0, 0, 0, 0, none, 0, ([] : List UInt8))] : List (Int × Int × Int × Int × Int × Int × Int × Int × Int × Int × Int × Int × Int × Option Addr × Nat × List UInt8))).length) c22] 27)] :: D :: F) rfl rfl
       replace hS := hS.front 1 (C := [(b, rowO [.slice A21 (((es.take j ++ es.drop (j + 1)) ++ ([(m1, m2, 1, 0, 0, 0, 0, 0, 0, 0, 0, 0, 0, none, 0, ([] : List UInt8))] : List (Int × Int × Int × Int × Int × Int × Int × Int × Int × Int × Int × Int × Int × Option Addr × Nat × List UInt8))).length) c22] 27)]) (L' := C20 :: D :: F) rfl rfl
       replace hS := hS.front 2 (C := D) (L' := [(b, rowO [.slice A21 (((es.take j ++ es.drop (j + 1)) ++ ([(m1, m2, 1, 0, 0, 0, 0, 0, 0, 0, 0, 0, 0, none, 0, ([] : List UInt8))] : List (Int × Int × Int × Int × Int × Int × Int × Int × Int × Int × Int × Int × Int × Option Addr × Nat × List UInt8))).length) c22] 27)] :: C20 :: F) rfl rfl
       replace hS := hS.front 2 (C := C20) (L' := D :: [(b, rowO [.slice A21 (((es.take j ++ es.drop (j + 1)) ++ ([(m1, m2, 1, 0, 0, 0, 0, 0, 0, 0, 0, 0, 0, none, 0, ([] : List UInt8))] : List (Int × Int × Int × Int × Int × Int × Int × Int × Int × Int × Int × Int × Int × Option Addr × Nat × List UInt8))).length) c22] 27)] :: F) rfl rfl
       replace hS := hS.front 2 (C := [(b, rowO [.slice A21 (((es.take j ++ es.drop (j + 1)) ++ ([(m1, m2, 1, 0, 0, 0, 0, 0, 0, 0, 0, 0, 0, none, 0, ([] : List UInt8))] : List (Int × Int × Int × Int × Int × Int × Int × Int × Int × Int × Int × Int × Int × Option Addr × Nat × List UInt8))).length) c22] 27)]) (L' := C20 :: D :: F) rfl rfl
       replace hS := hS.join
       exact ⟨_, ⟨_, _, hO20, rfl⟩, rfl, hS⟩)

theorem reply_ok6 {w0 w : World} {F : List Chunk} {L D : Chunk} {b : Nat} {es : List Ent} (hS : St w0 w (L :: D :: F)) (hM : SR b es L) (m0 m1 m2 m3 m4 m5 m6 m7 m8 m9 : Int) (d : Value) (r0 r1 r2 r3 r4 r5 r6 r7 r8 r9 : Int) {d2 : Value} {bs : List UInt8} (hd : RdSX w0 (D :: F) 1 d2 bs.length (rows encB bs)) (hbl : bs.length ≤ 140737488351232) {k : Nat} {x : Ent} (hk : es[k]? = some x) (hkf : fnd m1 m2 x = true) (hkb : ∀ (i : Nat) (y : Ent), i < k → es[i]? = some y → fnd m1 m2 y = false) (hst : x.2.2.1 = 1) (hl : es.length ≤ 1048576) :
    Ret Tryd.prog 6 #[.pointer (some ⟨b, 0, none⟩), .agg #[.int .u64 m0, .int .u64 m1, .int .u32 m2, .int .u16 m3, .int .u16 m4, .int .u64 m5, .int .u32 m6, .int .u8 m7, .int .u64 m8, .int .u64 m9, d], .agg #[.int .u64 r0, .int .u64 r1, .int .u32 r2, .int .u16 r3, .int .u16 r4, .int .u64 r5, .int .u32 r6, .int .u8 r7, .int .u64 r8, .int .u64 r9, d2]] w (fun v w' => ∃ L' E A c, SR b (es.set k (x.1, x.2.1, 2, r0, r1, r2, r3, r4, r5, r6, r7, r8, r9, A, c, bs)) L' ∧ DD w0 E A c bs ∧ v = .bool true ∧ St w0 w' (L' :: (E ++ D) :: F)) := by
  obtain ⟨B, d', rfl, hmd, hdx⟩ := (hd _ (hS.tail 1 rfl)).open'
  have hkl := (List.getElem?_eq_some_iff.1 hk).1
  refine enter (vs := [.pointer (some ⟨b, 0, none⟩), .agg #[.int .u64 m0, .int .u64 m1, .int .u32 m2, .int .u16 m3, .int .u16 m4, .int .u64 m5, .int .u32 m6, .int .u8 m7, .int .u64 m8, .int .u64 m9, d], .agg #[.int .u64 r0, .int .u64 r1, .int .u32 r2, .int .u16 r3, .int .u16 r4, .int .u64 r5, .int .u32 r6, .int .u8 r7, .int .u64 r8, .int .u64 r9, .slice B bs.length d']]) 43 Tryd.func6 rfl rfl (by simp) ?_; intro a hA
  refine wp_seq ?_
  refine wp_region_lit ?_
  refine st_box hA hS [.int .u64 m0, .int .u64 m1, .int .u32 m2, .int .u16 m3, .int .u16 m4, .int .u64 m5, .int .u32 m6, .int .u8 m7, .int .u64 m8, .int .u64 m9, d] rfl rfl rfl rfl rfl (by decide) ?_; clear hA hS; intro b1 w2 a hS hA
  refine st_box hA hS [.int .u64 r0, .int .u64 r1, .int .u32 r2, .int .u16 r3, .int .u16 r4, .int .u64 r5, .int .u32 r6, .int .u8 r7, .int .u64 r8, .int .u64 r9, .slice B bs.length d'] rfl rfl rfl rfl rfl (by decide) ?_; clear hA hS; intro b3 w4 a hS hA
  refine st_run tbOk 1 hA (e' := (6, .bool false) :: _) rfl ?_; clear hA; intro a hA
  refine wpList_nil ?_
  replace hA := hA.sel [0, 4, 5] (e' := [(0, .pointer (some ⟨b, 0, none⟩)), (4, .pointer (some ⟨b1, 0, none⟩)), (5, .pointer (some ⟨b3, 0, none⟩))]) rfl
  refine xt_norm ?_
  refine wp_seq ?_
  refine wp_region_lit ?_
  refine st_run tbOk 1 hA (e' := (8, .pointer (some ⟨b, 0, none⟩)) :: _) rfl ?_; clear hA; intro a hA
  refine st_val hA rfl rfl (by decide) (rn_loadA tbOk hA [.int .u64 m0, .int .u64 m1, .int .u32 m2, .int .u16 m3, .int .u16 m4, .int .u64 m5, .int .u32 m6, .int .u8 m7, .int .u64 m8, .int .u64 m9, d] rfl rfl rfl rfl rfl (cells_row (hS.heapAt 1 rfl) rfl)) ?_; clear hA; intro a hA
  replace hS := hS.front 2 (C := L) (L' := [(b3, rowO [.int .u64 r0, .int .u64 r1, .int .u32 r2, .int .u16 r3, .int .u16 r4, .int .u64 r5, .int .u32 r6, .int .u8 r7, .int .u64 r8, .int .u64 r9, .slice B bs.length d'] 36)] :: [(b1, rowO [.int .u64 m0, .int .u64 m1, .int .u32 m2, .int .u16 m3, .int .u16 m4, .int .u64 m5, .int .u32 m6, .int .u8 m7, .int .u64 m8, .int .u64 m9, d] 36)] :: D :: F) rfl rfl
  refine st_call0 hA rfl rfl rfl isfn12 rfl rfl (by decide) (find12 hS hM m0 m1 m2 m3 m4 m5 m6 m7 m8 m9 _) ?_
  clear hA hS; rintro _ w5 a ⟨L9, hM9, rfl, hS⟩ hA
  have hix := idx_some hk hkf hkb
  replace hA := hA.rw 10 (v' := .int .i64 ((k : Nat) : Int)) rfl (vint hix)
  obtain ⟨v, C, hO, rfl⟩ := hM9
  obtain ⟨A, c, rfl, hmc, hcx⟩ := hO.open'
  replace hS : St w0 w5 ([(b, rowO [.slice A es.length c] 27)] :: C :: [(b3, rowO [.int .u64 r0, .int .u64 r1, .int .u32 r2, .int .u16 r3, .int .u16 r4, .int .u64 r5, .int .u32 r6, .int .u8 r7, .int .u64 r8, .int .u64 r9, .slice B bs.length d'] 36)] :: [(b1, rowO [.int .u64 m0, .int .u64 m1, .int .u32 m2, .int .u16 m3, .int .u16 m4, .int .u64 m5, .int .u32 m6, .int .u8 m7, .int .u64 m8, .int .u64 m9, d] 36)] :: D :: F) := hS.split
  refine st_run tbOk 1 hA (e' := (7, .int .i64 ((k : Nat) : Int)) :: _) rfl ?_; clear hA; intro a hA
  refine wpList_nil ?_
  replace hA := hA.sel [0, 5, 7] (e' := [(0, .pointer (some ⟨b, 0, none⟩)), (5, .pointer (some ⟨b3, 0, none⟩)), (7, .int .i64 ((k : Nat) : Int))]) rfl
  refine xt_norm ?_
  refine wp_seq ?_
  refine wp_seq ?_
  refine wp_region_lit ?_
  obtain ⟨xf0, xf1, xf2, xf3, xf4, xf5, xf6, xf7, xf8, xf9, xf10, xf11, xf12, xA13, xc13, xb13⟩ := x
  refine st_run tbOk 3 hA (e' := (13, .bool (decide (((k : Nat) : Int) < 0))) :: (12, .bool (decide (((k : Nat) : Int) < 0))) :: (11, .int .i64 ((k : Nat) : Int)) :: _) rfl ?_; clear hA; intro a hA
  have hc6 : ¬ (((k : Nat) : Int) < 0) := by omega
  replace hA := hA.rw 12 (v' := .bool false) rfl (vb_false hc6)
  replace hA := hA.rw 13 (v' := .bool false) rfl (vb_false hc6)
  refine st_run tbOk 3 hA (e' := (16, .pointer (some ⟨b, 0, none⟩)) :: (15, .pointer (some ⟨b, 0, none⟩)) :: (14, .pointer (some ⟨b, 0, none⟩)) :: _) rfl ?_; clear hA; intro a hA
  refine st_val hA rfl rfl (by decide) (rn_load tbOk hA rfl rfl rfl rfl (cell_row (hS.heapAt 0 rfl) rfl)) ?_; clear hA; intro a hA
  refine st_run tbOk 1 hA (e' := (18, .int .i64 ((k : Nat) : Int)) :: _) rfl ?_; clear hA; intro a hA
  obtain ⟨b7, o8, rfl⟩ := hO.isSome (k := k) (by omega)
  refine st_val hA rfl rfl (by decide) (rn_indexAddr tbOk hA k (o8 + (k * 14)) rfl rfl rfl rfl rfl rfl (by rfl) (by omega) (by first | rfl | simp [Nat.mul_one, Nat.zero_add] | omega)) ?_; clear hA; intro a hA
  refine st_run tbOk 1 hA (e' := (20, .pointer (some ⟨b7, o8 + (k * 14) + 2, none⟩)) :: _) rfl ?_; clear hA; intro a hA
  refine st_val hA rfl rfl (by decide) (rn_load tbOk hA rfl rfl rfl rfl ((hO.rd (hS.own_ 1 rfl)).elemf (k := k) encEntry_ok hk (j := 2) rfl)) ?_; clear hA; intro a hA
  refine st_run tbOk 2 hA (e' := (23, .bool (xf2 != 1)) :: (22, .bool (xf2 != 1)) :: _) rfl ?_; clear hA; intro a hA
  refine wpList_nil ?_
  replace hA := hA.sel [0, 5, 7, 23] (e' := [(0, .pointer (some ⟨b, 0, none⟩)), (5, .pointer (some ⟨b3, 0, none⟩)), (7, .int .i64 ((k : Nat) : Int)), (23, .bool (xf2 != 1))]) rfl
  refine xt_norm ?_
  have hc9 : xf2 = 1 := hst
  replace hA := hA.rw 23 (v' := .bool false) rfl (vb_ne_f hc9)
  refine cd_cond_f hA rfl ?_
  refine wp_skip ?_
  refine xt_norm ?_
  refine wp_seq ?_
  refine wp_region_lit ?_
  refine st_run tbOk 1 hA (e' := (24, .pointer (some ⟨b3, 10, none⟩)) :: _) rfl ?_; clear hA; intro a hA
  refine st_val hA rfl rfl (by decide) (rn_load tbOk hA rfl rfl rfl rfl (cell_row (hS.heapAt 2 rfl) rfl)) ?_; clear hA; intro a hA
  refine st_call0 hA rfl rfl rfl isfn13 rfl rfl (by decide) (clonex13 hS (l := bs) (fun w' h => (hd _ (h.tail 4 rfl))) (by first | omega | (simp; omega))) ?_
  clear hA hS; rintro _ w13 a ⟨A10, c11, C12, hOC12, rfl, hS⟩ hA
  refine st_run tbOk 1 hA (e' := (27, .pointer (some ⟨b3, 10, none⟩)) :: _) rfl ?_; clear hA; intro a hA
  replace hS := hS.front 3 (C := [(b3, rowO [.int .u64 r0, .int .u64 r1, .int .u32 r2, .int .u16 r3, .int .u16 r4, .int .u64 r5, .int .u32 r6, .int .u8 r7, .int .u64 r8, .int .u64 r9, .slice B bs.length d'] 36)]) (L' := C12 :: [(b, rowO [.slice (some ⟨b7, o8, none⟩) es.length c] 27)] :: C :: [(b1, rowO [.int .u64 m0, .int .u64 m1, .int .u32 m2, .int .u16 m3, .int .u16 m4, .int .u64 m5, .int .u32 m6, .int .u8 m7, .int .u64 m8, .int .u64 m9, d] 36)] :: D :: F) rfl rfl
  refine st_store tbOk hA hS [.slice A10 bs.length c11] [.int .u64 r0, .int .u64 r1, .int .u32 r2, .int .u16 r3, .int .u16 r4, .int .u64 r5, .int .u32 r6, .int .u8 r7, .int .u64 r8, .int .u64 r9, .slice A10 bs.length c11] rfl rfl rfl rfl rfl rfl (by intro u hu; rw [List.mem_singleton.1 hu]; rfl) (Nat.le_of_ble_eq_true rfl) rfl rfl rfl ?_; clear hS; intro w14 hS
  refine wpList_nil ?_
  replace hA := hA.sel [0, 5, 7] (e' := [(0, .pointer (some ⟨b, 0, none⟩)), (5, .pointer (some ⟨b3, 0, none⟩)), (7, .int .i64 ((k : Nat) : Int))]) rfl
  refine xt_norm ?_
  refine wp_seq ?_
  replace hS := hS.front 3 (C := C) (L' := [(b3, rowO [.int .u64 r0, .int .u64 r1, .int .u32 r2, .int .u16 r3, .int .u16 r4, .int .u64 r5, .int .u32 r6, .int .u8 r7, .int .u64 r8, .int .u64 r9, .slice A10 bs.length c11] 36)] :: C12 :: [(b, rowO [.slice (some ⟨b7, o8, none⟩) es.length c] 27)] :: [(b1, rowO [.int .u64 m0, .int .u64 m1, .int .u32 m2, .int .u16 m3, .int .u16 m4, .int .u64 m5, .int .u32 m6, .int .u8 m7, .int .u64 m8, .int .u64 m9, d] 36)] :: D :: F) rfl rfl
  refine wp_draw (fun w' => St w0 w' ([(b3, rowO [.int .u64 r0, .int .u64 r1, .int .u32 r2, .int .u16 r3, .int .u16 r4, .int .u64 r5, .int .u32 r6, .int .u8 r7, .int .u64 r8, .int .u64 r9, .slice A10 bs.length c11] 36)] :: C12 :: [(b, rowO [.slice (some ⟨b7, o8, none⟩) es.length c] 27)] :: [(b1, rowO [.int .u64 m0, .int .u64 m1, .int .u32 m2, .int .u16 m3, .int .u16 m4, .int .u64 m5, .int .u32 m6, .int .u8 m7, .int .u64 m8, .int .u64 m9, d] 36)] :: D :: F)) [] [(0, true), (1, true), (2, true), (3, true), (4, true), (5, true), (6, true), (7, true), (8, true), (9, true), (10, true), (11, true), (12, true), (13, false), (14, true), (15, true), (16, false)] mixed (by kernel_rfl) (by rintro c a w ⟨_, _, h, _⟩; cases h) (by rfl) (by kernel_rfl) ?_
  replace hS := hS.drew
  refine dr_run tbOk 3 hA (hS.tail 1 rfl) (e' := (30, .pointer (some ⟨b, 0, none⟩)) :: (29, .pointer (some ⟨b, 0, none⟩)) :: (28, .pointer (some ⟨b, 0, none⟩)) :: _) rfl ?_; clear hA; intro a hA
  refine dr_y hA rfl rfl rfl (by decide) (hS.tail 1 rfl) (fun w' hS' => rn_load tbOk hA rfl rfl rfl rfl (cell_row (hS'.heapAt 2 rfl) rfl)) ?_; clear hA; intro a hA
  refine dr_run tbOk 4 hA (hS.tail 1 rfl) (e' := (35, .pointer (some ⟨b, 0, none⟩)) :: (34, .pointer (some ⟨b, 0, none⟩)) :: (33, .pointer (some ⟨b, 0, none⟩)) :: (32, .int .i64 ((k : Nat) : Int)) :: _) rfl ?_; clear hA; intro a hA
  refine dr_y hA rfl rfl rfl (by decide) (hS.tail 1 rfl) (fun w' hS' => rn_load tbOk hA rfl rfl rfl rfl (cell_row (hS'.heapAt 2 rfl) rfl)) ?_; clear hA; intro a hA
  refine dr_run tbOk 1 hA (hS.tail 1 rfl) (e' := (37, .int .i64 ((k : Nat) : Int)) :: _) rfl ?_; clear hA; intro a hA
  refine dr_y hA rfl rfl rfl (by decide) (hS.tail 1 rfl) (fun w' hS' => rn_loadA tbOk hA [.int .u64 r0, .int .u64 r1, .int .u32 r2, .int .u16 r3, .int .u16 r4, .int .u64 r5, .int .u32 r6, .int .u8 r7, .int .u64 r8, .int .u64 r9, .slice A10 bs.length c11] rfl rfl rfl rfl rfl (cells_row (hS'.heapAt 0 rfl) rfl)) ?_; clear hA; intro a hA
  refine dr_y hA rfl rfl rfl (by decide) (hS.tail 1 rfl) (fun w' hS' => rn_indexAddr tbOk hA k (o8 + (k * 14)) rfl rfl rfl rfl rfl rfl (by rfl) (by omega) (by first | rfl | simp [Nat.mul_one, Nat.zero_add] | omega)) ?_; clear hA; intro a hA
  refine dr_run tbOk 1 hA (hS.tail 1 rfl) (e' := (40, .pointer (some ⟨b7, o8 + (k * 14) + 2, none⟩)) :: _) rfl ?_; clear hA; intro a hA
  refine dr_b (o := _) rfl ?_
  refine st_store_own tbOk hA hO hS ((k * 14) + 2) (o8 + (k * 14) + 2) [.int .i64 2] (rows encEntry (es.set k (xf0, xf1, 2, xf3, xf4, xf5, xf6, xf7, xf8, xf9, xf10, xf11, xf12, xA13, xc13, xb13))) rfl rfl rfl rfl (by rfl) rfl rfl (by intro u hu; first | (rw [List.mem_singleton.1 hu]; rfl) | (simp only [List.mem_cons, List.not_mem_nil, or_false] at hu; rcases hu with rfl <;> rfl)) (by simp only [rows_length encEntry_ok]; simp; omega) (rows_setf encEntry_ok (xf0, xf1, 2, xf3, xf4, xf5, xf6, xf7, xf8, xf9, xf10, xf11, xf12, xA13, xc13, xb13) (hk) 2 [.int .i64 2] (Nat.le_of_ble_eq_true rfl) rfl) rfl rfl ?_; clear hS; intro w15 C16 hO16 hS
  refine dr_nil (.inr (hS.tail 1 rfl)) ?_
  refine dr_y hA rfl rfl rfl (by decide) (hS.tail 1 rfl) (fun w' hS' => rn_indexAddr tbOk hA k (o8 + (k * 14)) rfl rfl rfl rfl rfl rfl (by rfl) (by omega) (by first | rfl | simp [Nat.mul_one, Nat.zero_add] | omega)) ?_; clear hA; intro a hA
  refine dr_run tbOk 1 hA (hS.tail 1 rfl) (e' := (42, .pointer (some ⟨b7, o8 + (k * 14) + 3, none⟩)) :: _) rfl ?_; clear hA; intro a hA
  refine dr_b (o := _) rfl ?_
  refine st_store_own tbOk hA hO16 hS ((k * 14) + 3) (o8 + (k * 14) + 3) [.int .u64 r0, .int .u64 r1, .int .u32 r2, .int .u16 r3, .int .u16 r4, .int .u64 r5, .int .u32 r6, .int .u8 r7, .int .u64 r8, .int .u64 r9, .slice A10 bs.length c11] (rows encEntry ((es.set k (xf0, xf1, 2, xf3, xf4, xf5, xf6, xf7, xf8, xf9, xf10, xf11, xf12, xA13, xc13, xb13)).set k (xf0, xf1, 2, r0, r1, r2, r3, r4, r5, r6, r7, r8, r9, A10, c11, bs))) rfl rfl rfl rfl (by rfl) rfl rfl (by intro u hu; first | (rw [List.mem_singleton.1 hu]; rfl) | (simp only [List.mem_cons, List.not_mem_nil, or_false] at hu; rcases hu with rfl | rfl | rfl | rfl | rfl | rfl | rfl | rfl | rfl | rfl | rfl <;> rfl)) (by simp only [rows_length encEntry_ok]; simp; omega) (rows_setf encEntry_ok (xf0, xf1, 2, r0, r1, r2, r3, r4, r5, r6, r7, r8, r9, A10, c11, bs) ((List.getElem?_set_self hkl)) 3 [.int .u64 r0, .int .u64 r1, .int .u32 r2, .int .u16 r3, .int .u16 r4, .int .u64 r5, .int .u32 r6, .int .u8 r7, .int .u64 r8, .int .u64 r9, .slice A10 bs.length c11] (Nat.le_of_ble_eq_true rfl) rfl) rfl rfl ?_; clear hS; intro w17 C18 hO18 hS
  refine dr_nil (.inr (hS.tail 1 rfl)) ?_
  refine dr_end ?_
  replace hA := hA.sel [] (e' := []) rfl
  refine xt_norm ?_
  refine wp_seq ?_
  refine wp_region_lit ?_
  refine st_run tbOk 1 hA (e' := (6, .bool true) :: _) rfl ?_; clear hA; intro a hA
  refine wpList_nil ?_
  refine xt_norm ?_
  refine wp_ret ?_
  refine ret1 (fn := Tryd.f6) hA rfl rfl ?_
  have hss : (es.set k (xf0, xf1, 2, xf3, xf4, xf5, xf6, xf7, xf8, xf9, xf10, xf11, xf12, xA13, xc13, xb13)).set k (xf0, xf1, 2, r0, r1, r2, r3, r4, r5, r6, r7, r8, r9, A10, c11, bs) = es.set k (xf0, xf1, 2, r0, r1, r2, r3, r4, r5, r6, r7, r8, r9, A10, c11, bs) := by rw [List.set_set]
  rw [hss] at hO18
  replace hS := hS.front 1 (C := [(b3, rowO [.int .u64 r0, .int .u64 r1, .int .u32 r2, .int .u16 r3, .int .u16 r4, .int .u64 r5, .int .u32 r6, .int .u8 r7, .int .u64 r8, .int .u64 r9, .slice A10 bs.length c11] 36)]) (L' := C18 :: C12 :: [(b, rowO [.slice (some ⟨b7, o8, none⟩) es.length c] 27)] :: [(b1, rowO [.int .u64 m0, .int .u64 m1, .int .u32 m2, .int .u16 m3, .int .u16 m4, .int .u64 m5, .int .u32 m6, .int .u8 m7, .int .u64 m8, .int .u64 m9, d] 36)] :: D :: F) rfl rfl
  replace hS := hS.drop1
  replace hS := hS.front 3 (C := [(b1, rowO [.int .u64 m0, .int .u64 m1, .int .u32 m2, .int .u16 m3, .int .u16 m4, .int .u64 m5, .int .u32 m6, .int .u8 m7, .int .u64 m8, .int .u64 m9, d] 36)]) (L' := C18 :: C12 :: [(b, rowO [.slice (some ⟨b7, o8, none⟩) es.length c] 27)] :: D :: F) rfl rfl
  replace hS := hS.drop1
  replace hS := hS.front 2 (C := [(b, rowO [.slice (some ⟨b7, o8, none⟩) es.length c] 27)]) (L' := C18 :: C12 :: D :: F) rfl rfl
  replace hS := hS.front 3 (C := D) (L' := [(b, rowO [.slice (some ⟨b7, o8, none⟩) es.length c] 27)] :: C18 :: C12 :: F) rfl rfl
  replace hS := hS.front 3 (C := C12) (L' := D :: [(b, rowO [.slice (some ⟨b7, o8, none⟩) es.length c] 27)] :: C18 :: F) rfl rfl
  replace hS := hS.join
  replace hS := hS.front 2 (C := C18) (L' := (C12 ++ D) :: [(b, rowO [.slice (some ⟨b7, o8, none⟩) es.length c] 27)] :: F) rfl rfl
  replace hS := hS.front 2 (C := [(b, rowO [.slice (some ⟨b7, o8, none⟩) es.length c] 27)]) (L' := C18 :: (C12 ++ D) :: F) rfl rfl
  replace hS := hS.join
  exact ⟨_, _, _, _, ⟨_, _, (by rw [List.length_set]; exact hO18), rfl⟩, DD.new hOC12, rfl, hS⟩

theorem reply_state6 {w0 w : World} {F : List Chunk} {L D : Chunk} {b : Nat} {es : List Ent} (hS : St w0 w (L :: D :: F)) (hM : SR b es L) (m0 m1 m2 m3 m4 m5 m6 m7 m8 m9 : Int) (d : Value) (r0 r1 r2 r3 r4 r5 r6 r7 r8 r9 : Int) (d2 : Value) {k : Nat} {x : Ent} (hk : es[k]? = some x) (hkf : fnd m1 m2 x = true) (hkb : ∀ (i : Nat) (y : Ent), i < k → es[i]? = some y → fnd m1 m2 y = false) (hst : ¬ x.2.2.1 = 1) (hl : es.length ≤ 1048576) :
    Ret Tryd.prog 6 #[.pointer (some ⟨b, 0, none⟩), .agg #[.int .u64 m0, .int .u64 m1, .int .u32 m2, .int .u16 m3, .int .u16 m4, .int .u64 m5, .int .u32 m6, .int .u8 m7, .int .u64 m8, .int .u64 m9, d], .agg #[.int .u64 r0, .int .u64 r1, .int .u32 r2, .int .u16 r3, .int .u16 r4, .int .u64 r5, .int .u32 r6, .int .u8 r7, .int .u64 r8, .int .u64 r9, d2]] w (fun v w' => ∃ L', SR b es L' ∧ v = .bool false ∧ St w0 w' (L' :: D :: F)) := by
  have hkl := (List.getElem?_eq_some_iff.1 hk).1
  refine enter (vs := [.pointer (some ⟨b, 0, none⟩), .agg #[.int .u64 m0, .int .u64 m1, .int .u32 m2, .int .u16 m3, .int .u16 m4, .int .u64 m5, .int .u32 m6, .int .u8 m7, .int .u64 m8, .int .u64 m9, d], .agg #[.int .u64 r0, .int .u64 r1, .int .u32 r2, .int .u16 r3, .int .u16 r4, .int .u64 r5, .int .u32 r6, .int .u8 r7, .int .u64 r8, .int .u64 r9, d2]]) 43 Tryd.func6 rfl rfl (by simp) ?_; intro a hA
  refine wp_seq ?_
  refine wp_region_lit ?_
  refine st_box hA hS [.int .u64 m0, .int .u64 m1, .int .u32 m2, .int .u16 m3, .int .u16 m4, .int .u64 m5, .int .u32 m6, .int .u8 m7, .int .u64 m8, .int .u64 m9, d] rfl rfl rfl rfl rfl (by decide) ?_; clear hA hS; intro b1 w2 a hS hA
  refine st_box hA hS [.int .u64 r0, .int .u64 r1, .int .u32 r2, .int .u16 r3, .int .u16 r4, .int .u64 r5, .int .u32 r6, .int .u8 r7, .int .u64 r8, .int .u64 r9, d2] rfl rfl rfl rfl rfl (by decide) ?_; clear hA hS; intro b3 w4 a hS hA
  refine st_run tbOk 1 hA (e' := (6, .bool false) :: _) rfl ?_; clear hA; intro a hA
  refine wpList_nil ?_
  replace hA := hA.sel [0, 4, 5] (e' := [(0, .pointer (some ⟨b, 0, none⟩)), (4, .pointer (some ⟨b1, 0, none⟩)), (5, .pointer (some ⟨b3, 0, none⟩))]) rfl
  refine xt_norm ?_
  refine wp_seq ?_
  refine wp_region_lit ?_
  refine st_run tbOk 1 hA (e' := (8, .pointer (some ⟨b, 0, none⟩)) :: _) rfl ?_; clear hA; intro a hA
  refine st_val hA rfl rfl (by decide) (rn_loadA tbOk hA [.int .u64 m0, .int .u64 m1, .int .u32 m2, .int .u16 m3, .int .u16 m4, .int .u64 m5, .int .u32 m6, .int .u8 m7, .int .u64 m8, .int .u64 m9, d] rfl rfl rfl rfl rfl (cells_row (hS.heapAt 1 rfl) rfl)) ?_; clear hA; intro a hA
  replace hS := hS.front 2 (C := L) (L' := [(b3, rowO [.int .u64 r0, .int .u64 r1, .int .u32 r2, .int .u16 r3, .int .u16 r4, .int .u64 r5, .int .u32 r6, .int .u8 r7, .int .u64 r8, .int .u64 r9, d2] 36)] :: [(b1, rowO [.int .u64 m0, .int .u64 m1, .int .u32 m2, .int .u16 m3, .int .u16 m4, .int .u64 m5, .int .u32 m6, .int .u8 m7, .int .u64 m8, .int .u64 m9, d] 36)] :: D :: F) rfl rfl
  refine st_call0 hA rfl rfl rfl isfn12 rfl rfl (by decide) (find12 hS hM m0 m1 m2 m3 m4 m5 m6 m7 m8 m9 _) ?_
  clear hA hS; rintro _ w5 a ⟨L9, hM9, rfl, hS⟩ hA
  have hix := idx_some hk hkf hkb
  replace hA := hA.rw 10 (v' := .int .i64 ((k : Nat) : Int)) rfl (vint hix)
  obtain ⟨v, C, hO, rfl⟩ := hM9
  obtain ⟨A, c, rfl, hmc, hcx⟩ := hO.open'
  replace hS : St w0 w5 ([(b, rowO [.slice A es.length c] 27)] :: C :: [(b3, rowO [.int .u64 r0, .int .u64 r1, .int .u32 r2, .int .u16 r3, .int .u16 r4, .int .u64 r5, .int .u32 r6, .int .u8 r7, .int .u64 r8, .int .u64 r9, d2] 36)] :: [(b1, rowO [.int .u64 m0, .int .u64 m1, .int .u32 m2, .int .u16 m3, .int .u16 m4, .int .u64 m5, .int .u32 m6, .int .u8 m7, .int .u64 m8, .int .u64 m9, d] 36)] :: D :: F) := hS.split
  refine st_run tbOk 1 hA (e' := (7, .int .i64 ((k : Nat) : Int)) :: _) rfl ?_; clear hA; intro a hA
  refine wpList_nil ?_
  replace hA := hA.sel [0, 5, 7] (e' := [(0, .pointer (some ⟨b, 0, none⟩)), (5, .pointer (some ⟨b3, 0, none⟩)), (7, .int .i64 ((k : Nat) : Int))]) rfl
  refine xt_norm ?_
  refine wp_seq ?_
  refine wp_seq ?_
  refine wp_region_lit ?_
  obtain ⟨xf0, xf1, xf2, xf3, xf4, xf5, xf6, xf7, xf8, xf9, xf10, xf11, xf12, xA13, xc13, xb13⟩ := x
  refine st_run tbOk 3 hA (e' := (13, .bool (decide (((k : Nat) : Int) < 0))) :: (12, .bool (decide (((k : Nat) : Int) < 0))) :: (11, .int .i64 ((k : Nat) : Int)) :: _) rfl ?_; clear hA; intro a hA
  have hc6 : ¬ (((k : Nat) : Int) < 0) := by omega
  replace hA := hA.rw 12 (v' := .bool false) rfl (vb_false hc6)
  replace hA := hA.rw 13 (v' := .bool false) rfl (vb_false hc6)
  refine st_run tbOk 3 hA (e' := (16, .pointer (some ⟨b, 0, none⟩)) :: (15, .pointer (some ⟨b, 0, none⟩)) :: (14, .pointer (some ⟨b, 0, none⟩)) :: _) rfl ?_; clear hA; intro a hA
  refine st_val hA rfl rfl (by decide) (rn_load tbOk hA rfl rfl rfl rfl (cell_row (hS.heapAt 0 rfl) rfl)) ?_; clear hA; intro a hA
  refine st_run tbOk 1 hA (e' := (18, .int .i64 ((k : Nat) : Int)) :: _) rfl ?_; clear hA; intro a hA
  obtain ⟨b7, o8, rfl⟩ := hO.isSome (k := k) (by omega)
  refine st_val hA rfl rfl (by decide) (rn_indexAddr tbOk hA k (o8 + (k * 14)) rfl rfl rfl rfl rfl rfl (by rfl) (by omega) (by first | rfl | simp [Nat.mul_one, Nat.zero_add] | omega)) ?_; clear hA; intro a hA
  refine st_run tbOk 1 hA (e' := (20, .pointer (some ⟨b7, o8 + (k * 14) + 2, none⟩)) :: _) rfl ?_; clear hA; intro a hA
  refine st_val hA rfl rfl (by decide) (rn_load tbOk hA rfl rfl rfl rfl ((hO.rd (hS.own_ 1 rfl)).elemf (k := k) encEntry_ok hk (j := 2) rfl)) ?_; clear hA; intro a hA
  refine st_run tbOk 2 hA (e' := (23, .bool (xf2 != 1)) :: (22, .bool (xf2 != 1)) :: _) rfl ?_; clear hA; intro a hA
  refine wpList_nil ?_
  replace hA := hA.sel [0, 5, 7, 23] (e' := [(0, .pointer (some ⟨b, 0, none⟩)), (5, .pointer (some ⟨b3, 0, none⟩)), (7, .int .i64 ((k : Nat) : Int)), (23, .bool (xf2 != 1))]) rfl
  refine xt_norm ?_
  have hc9 : ¬ (xf2 = 1) := hst
  replace hA := hA.rw 23 (v' := .bool true) rfl (vb_ne_t hc9)
  refine cd_cond_t hA rfl ?_
  refine wp_seq ?_
  refine wp_region_lit ?_
  refine st_run tbOk 1 hA (e' := (6, .bool false) :: _) rfl ?_; clear hA; intro a hA
  refine wpList_nil ?_
  replace hA := hA.sel [6] (e' := [(6, .bool false)]) rfl
  refine xt_norm ?_
  refine wp_ret (xt_ret ?_)
  refine ret1 (fn := Tryd.f6) hA rfl rfl ?_
  replace hS := hS.front 2 (C := [(b3, rowO [.int .u64 r0, .int .u64 r1, .int .u32 r2, .int .u16 r3, .int .u16 r4, .int .u64 r5, .int .u32 r6, .int .u8 r7, .int .u64 r8, .int .u64 r9, d2] 36)]) (L' := [(b, rowO [.slice (some ⟨b7, o8, none⟩) es.length c] 27)] :: C :: [(b1, rowO [.int .u64 m0, .int .u64 m1, .int .u32 m2, .int .u16 m3, .int .u16 m4, .int .u64 m5, .int .u32 m6, .int .u8 m7, .int .u64 m8, .int .u64 m9, d] 36)] :: D :: F) rfl rfl
  replace hS := hS.drop1
  replace hS := hS.front 2 (C := [(b1, rowO [.int .u64 m0, .int .u64 m1, .int .u32 m2, .int .u16 m3, .int .u16 m4, .int .u64 m5, .int .u32 m6, .int .u8 m7, .int .u64 m8, .int .u64 m9, d] 36)]) (L' := [(b, rowO [.slice (some ⟨b7, o8, none⟩) es.length c] 27)] :: C :: D :: F) rfl rfl
  replace hS := hS.drop1
  replace hS := hS.front 1 (C := C) (L' := [(b, rowO [.slice (some ⟨b7, o8, none⟩) es.length c] 27)] :: D :: F) rfl rfl
  replace hS := hS.front 1 (C := [(b, rowO [.slice (some ⟨b7, o8, none⟩) es.length c] 27)]) (L' := C :: D :: F) rfl rfl
  replace hS := hS.front 2 (C := D) (L' := [(b, rowO [.slice (some ⟨b7, o8, none⟩) es.length c] 27)] :: C :: F) rfl rfl
  replace hS := hS.front 2 (C := C) (L' := D :: [(b, rowO [.slice (some ⟨b7, o8, none⟩) es.length c] 27)] :: F) rfl rfl
  replace hS := hS.front 2 (C := [(b, rowO [.slice (some ⟨b7, o8, none⟩) es.length c] 27)]) (L' := C :: D :: F) rfl rfl
  replace hS := hS.join
  exact ⟨_, ⟨_, _, hO, rfl⟩, rfl, hS⟩

theorem reply_none6 {w0 w : World} {F : List Chunk} {L D : Chunk} {b : Nat} {es : List Ent} (hS : St w0 w (L :: D :: F)) (hM : SR b es L) (m0 m1 m2 m3 m4 m5 m6 m7 m8 m9 : Int) (d : Value) (r0 r1 r2 r3 r4 r5 r6 r7 r8 r9 : Int) (d2 : Value) (hno : ∀ (i : Nat) (y : Ent), es[i]? = some y → fnd m1 m2 y = false) :
    Ret Tryd.prog 6 #[.pointer (some ⟨b, 0, none⟩), .agg #[.int .u64 m0, .int .u64 m1, .int .u32 m2, .int .u16 m3, .int .u16 m4, .int .u64 m5, .int .u32 m6, .int .u8 m7, .int .u64 m8, .int .u64 m9, d], .agg #[.int .u64 r0, .int .u64 r1, .int .u32 r2, .int .u16 r3, .int .u16 r4, .int .u64 r5, .int .u32 r6, .int .u8 r7, .int .u64 r8, .int .u64 r9, d2]] w (fun v w' => ∃ L', SR b es L' ∧ v = .bool false ∧ St w0 w' (L' :: D :: F)) := by
  refine enter (vs := [.pointer (some ⟨b, 0, none⟩), .agg #[.int .u64 m0, .int .u64 m1, .int .u32 m2, .int .u16 m3, .int .u16 m4, .int .u64 m5, .int .u32 m6, .int .u8 m7, .int .u64 m8, .int .u64 m9, d], .agg #[.int .u64 r0, .int .u64 r1, .int .u32 r2, .int .u16 r3, .int .u16 r4, .int .u64 r5, .int .u32 r6, .int .u8 r7, .int .u64 r8, .int .u64 r9, d2]]) 43 Tryd.func6 rfl rfl (by simp) ?_; intro a hA
  refine wp_seq ?_
  refine wp_region_lit ?_
  refine st_box hA hS [.int .u64 m0, .int .u64 m1, .int .u32 m2, .int .u16 m3, .int .u16 m4, .int .u64 m5, .int .u32 m6, .int .u8 m7, .int .u64 m8, .int .u64 m9, d] rfl rfl rfl rfl rfl (by decide) ?_; clear hA hS; intro b1 w2 a hS hA
  refine st_box hA hS [.int .u64 r0, .int .u64 r1, .int .u32 r2, .int .u16 r3, .int .u16 r4, .int .u64 r5, .int .u32 r6, .int .u8 r7, .int .u64 r8, .int .u64 r9, d2] rfl rfl rfl rfl rfl (by decide) ?_; clear hA hS; intro b3 w4 a hS hA
  refine st_run tbOk 1 hA (e' := (6, .bool false) :: _) rfl ?_; clear hA; intro a hA
  refine wpList_nil ?_
  replace hA := hA.sel [0, 4, 5] (e' := [(0, .pointer (some ⟨b, 0, none⟩)), (4, .pointer (some ⟨b1, 0, none⟩)), (5, .pointer (some ⟨b3, 0, none⟩))]) rfl
  refine xt_norm ?_
  refine wp_seq ?_
  refine wp_region_lit ?_
  refine st_run tbOk 1 hA (e' := (8, .pointer (some ⟨b, 0, none⟩)) :: _) rfl ?_; clear hA; intro a hA
  refine st_val hA rfl rfl (by decide) (rn_loadA tbOk hA [.int .u64 m0, .int .u64 m1, .int .u32 m2, .int .u16 m3, .int .u16 m4, .int .u64 m5, .int .u32 m6, .int .u8 m7, .int .u64 m8, .int .u64 m9, d] rfl rfl rfl rfl rfl (cells_row (hS.heapAt 1 rfl) rfl)) ?_; clear hA; intro a hA
  replace hS := hS.front 2 (C := L) (L' := [(b3, rowO [.int .u64 r0, .int .u64 r1, .int .u32 r2, .int .u16 r3, .int .u16 r4, .int .u64 r5, .int .u32 r6, .int .u8 r7, .int .u64 r8, .int .u64 r9, d2] 36)] :: [(b1, rowO [.int .u64 m0, .int .u64 m1, .int .u32 m2, .int .u16 m3, .int .u16 m4, .int .u64 m5, .int .u32 m6, .int .u8 m7, .int .u64 m8, .int .u64 m9, d] 36)] :: D :: F) rfl rfl
  refine st_call0 hA rfl rfl rfl isfn12 rfl rfl (by decide) (find12 hS hM m0 m1 m2 m3 m4 m5 m6 m7 m8 m9 _) ?_
  clear hA hS; rintro _ w5 a ⟨L9, hM9, rfl, hS⟩ hA
  have hix := idx_none hno
  replace hA := hA.rw 10 (v' := .int .i64 (-1)) rfl (vint hix)
  obtain ⟨v, C, hO, rfl⟩ := hM9
  obtain ⟨A, c, rfl, hmc, hcx⟩ := hO.open'
  replace hS : St w0 w5 ([(b, rowO [.slice A es.length c] 27)] :: C :: [(b3, rowO [.int .u64 r0, .int .u64 r1, .int .u32 r2, .int .u16 r3, .int .u16 r4, .int .u64 r5, .int .u32 r6, .int .u8 r7, .int .u64 r8, .int .u64 r9, d2] 36)] :: [(b1, rowO [.int .u64 m0, .int .u64 m1, .int .u32 m2, .int .u16 m3, .int .u16 m4, .int .u64 m5, .int .u32 m6, .int .u8 m7, .int .u64 m8, .int .u64 m9, d] 36)] :: D :: F) := hS.split
  refine st_run tbOk 1 hA (e' := (7, .int .i64 (-1)) :: _) rfl ?_; clear hA; intro a hA
  refine wpList_nil ?_
  replace hA := hA.sel [0, 5, 7] (e' := [(0, .pointer (some ⟨b, 0, none⟩)), (5, .pointer (some ⟨b3, 0, none⟩)), (7, .int .i64 (-1))]) rfl
  refine xt_norm ?_
  refine wp_seq ?_
  refine wp_seq ?_
  refine wp_region_lit ?_
  refine st_run tbOk 13 hA (e' := (23, .bool true) :: (22, undef) :: (21, undef) :: (20, undef) :: (19, undef) :: (18, undef) :: (17, undef) :: (16, undef) :: (15, undef) :: (14, undef) :: (13, .bool true) :: (12, .bool true) :: (11, .int .i64 (-1)) :: _) rfl ?_; clear hA; intro a hA
  refine wpList_nil ?_
  replace hA := hA.sel [0, 5, 7, 23] (e' := [(0, .pointer (some ⟨b, 0, none⟩)), (5, .pointer (some ⟨b3, 0, none⟩)), (7, .int .i64 (-1)), (23, .bool true)]) rfl
  refine xt_norm ?_
  refine cd_cond_t hA rfl ?_
  refine wp_seq ?_
  refine wp_region_lit ?_
  refine st_run tbOk 1 hA (e' := (6, .bool false) :: _) rfl ?_; clear hA; intro a hA
  refine wpList_nil ?_
  replace hA := hA.sel [6] (e' := [(6, .bool false)]) rfl
  refine xt_norm ?_
  refine wp_ret (xt_ret ?_)
  refine ret1 (fn := Tryd.f6) hA rfl rfl ?_
  replace hS := hS.front 2 (C := [(b3, rowO [.int .u64 r0, .int .u64 r1, .int .u32 r2, .int .u16 r3, .int .u16 r4, .int .u64 r5, .int .u32 r6, .int .u8 r7, .int .u64 r8, .int .u64 r9, d2] 36)]) (L' := [(b, rowO [.slice A es.length c] 27)] :: C :: [(b1, rowO [.int .u64 m0, .int .u64 m1, .int .u32 m2, .int .u16 m3, .int .u16 m4, .int .u64 m5, .int .u32 m6, .int .u8 m7, .int .u64 m8, .int .u64 m9, d] 36)] :: D :: F) rfl rfl
  replace hS := hS.drop1
  replace hS := hS.front 2 (C := [(b1, rowO [.int .u64 m0, .int .u64 m1, .int .u32 m2, .int .u16 m3, .int .u16 m4, .int .u64 m5, .int .u32 m6, .int .u8 m7, .int .u64 m8, .int .u64 m9, d] 36)]) (L' := [(b, rowO [.slice A es.length c] 27)] :: C :: D :: F) rfl rfl
  replace hS := hS.drop1
  replace hS := hS.front 1 (C := C) (L' := [(b, rowO [.slice A es.length c] 27)] :: D :: F) rfl rfl
  replace hS := hS.front 1 (C := [(b, rowO [.slice A es.length c] 27)]) (L' := C :: D :: F) rfl rfl
  replace hS := hS.front 2 (C := D) (L' := [(b, rowO [.slice A es.length c] 27)] :: C :: F) rfl rfl
  replace hS := hS.front 2 (C := C) (L' := D :: [(b, rowO [.slice A es.length c] 27)] :: F) rfl rfl
  replace hS := hS.front 2 (C := [(b, rowO [.slice A es.length c] 27)]) (L' := C :: D :: F) rfl rfl
  replace hS := hS.join
  exact ⟨_, ⟨_, _, hO, rfl⟩, rfl, hS⟩

theorem slen11 {w0 w : World} {F : List Chunk} {L D : Chunk} {b : Nat} {es : List Ent} (hS : St w0 w (L :: D :: F)) (hM : SR b es L)  :
    Ret Tryd.prog 11 #[.pointer (some ⟨b, 0, none⟩)] w (fun v w' => ∃ L', SR b es L' ∧ v = .int .i64 ((es.length : Nat) : Int) ∧ St w0 w' (L' :: D :: F)) := by
  obtain ⟨v, C, hO, rfl⟩ := hM
  obtain ⟨A, c, rfl, hmc, hcx⟩ := hO.open'
  replace hS : St w0 w ([(b, rowO [.slice A es.length c] 27)] :: C :: D :: F) := hS.split
  refine enter (vs := [.pointer (some ⟨b, 0, none⟩)]) 8 Tryd.func11 rfl rfl (by simp) ?_; intro a hA
  refine wp_seq ?_
  refine wp_region_lit ?_
  refine st_run tbOk 1 hA (e' := (2, .int .i64 0) :: _) rfl ?_; clear hA; intro a hA
  refine wpList_nil ?_
  replace hA := hA.sel [0] (e' := [(0, .pointer (some ⟨b, 0, none⟩))]) rfl
  refine xt_norm ?_
  refine wp_seq ?_
  refine wp_region_lit ?_
  refine st_run tbOk 3 hA (e' := (5, .pointer (some ⟨b, 0, none⟩)) :: (4, .pointer (some ⟨b, 0, none⟩)) :: (3, .pointer (some ⟨b, 0, none⟩)) :: _) rfl ?_; clear hA; intro a hA
  refine st_val hA rfl rfl (by decide) (rn_load tbOk hA rfl rfl rfl rfl (cell_row (hS.heapAt 0 rfl) rfl)) ?_; clear hA; intro a hA
  refine st_run tbOk 2 hA (e' := (2, .int .i64 ((es.length : Nat) : Int)) :: (7, .int .i64 ((es.length : Nat) : Int)) :: _) rfl ?_; clear hA; intro a hA
  refine wpList_nil ?_
  replace hA := hA.sel [2] (e' := [(2, .int .i64 ((es.length : Nat) : Int))]) rfl
  refine xt_norm ?_
  refine wp_ret ?_
  refine ret1 (fn := Tryd.f11) hA rfl rfl ?_
  replace hS := hS.front 1 (C := C) (L' := [(b, rowO [.slice A es.length c] 27)] :: D :: F) rfl rfl
  replace hS := hS.front 1 (C := [(b, rowO [.slice A es.length c] 27)]) (L' := C :: D :: F) rfl rfl
  replace hS := hS.front 2 (C := D) (L' := [(b, rowO [.slice A es.length c] 27)] :: C :: F) rfl rfl
  replace hS := hS.front 2 (C := C) (L' := D :: [(b, rowO [.slice A es.length c] 27)] :: F) rfl rfl
  replace hS := hS.front 2 (C := [(b, rowO [.slice A es.length c] 27)]) (L' := C :: D :: F) rfl rfl
  replace hS := hS.join
  exact ⟨_, ⟨_, _, hO, rfl⟩, rfl, hS⟩

def sbd (es : List Ent) : Prop := ∀ x ∈ es, (x.2.2.2.2.2.2.2.2.2.2.2.2.2.2.2).length ≤ 140737488351232
theorem sbd.nil : sbd [] := fun x h => by simp at h
theorem sbd.add {es : List Ent} (h : sbd es) {a0 a1 a2 a3 a4 a5 a6 a7 a8 a9 a10 a11 a12 : Int} {A : Option Addr} {c : Nat} : sbd (es ++ [(a0, a1, a2, a3, a4, a5, a6, a7, a8, a9, a10, a11, a12, A, c, [])]) := fun y hy => by
  rcases List.mem_append.1 hy with hy | hy
  · exact h y hy
  · rw [List.mem_singleton.1 hy]; exact Nat.zero_le _
theorem sbd.set {es : List Ent} (h : sbd es) {k : Nat} {x : Ent} (hx : (x.2.2.2.2.2.2.2.2.2.2.2.2.2.2.2).length ≤ 140737488351232) : sbd (es.set k x) := fun y hy => by
  rcases List.mem_or_eq_of_mem_set hy with hy | rfl
  · exact h y hy
  · exact hx
theorem nodd {w0 : World} {D : Chunk} : ∀ x ∈ ([] : List Ent), encEntry_dd w0 D x := fun x h => by simp at h
theorem wrap_u64_ne (x : Int) (h0 : 0 ≤ x) (h1 : x < 18446744073709551616) : ¬ IntKind.u64.wrap (x + 1) = x ∧ 0 ≤ IntKind.u64.wrap (x + 1) := by
  have : IntKind.u64.wrap (x + 1) = (x + 1) % 18446744073709551616 := by unfold IntKind.wrap; simp [IntKind.min, IntKind.max, IntKind.bits, IntKind.signed]
  omega
theorem wrap_u32_ne (x : Int) (h0 : 0 ≤ x) (h1 : x < 4294967296) : ¬ IntKind.u32.wrap (x + 1) = x := by
  have : IntKind.u32.wrap (x + 1) = (x + 1) % 4294967296 := by unfold IntKind.wrap; simp [IntKind.min, IntKind.max, IntKind.bits, IntKind.signed]
  omega
theorem fnd_yes {rp id : Int} {x : Ent} (h1 : x.1 = rp) (h2 : x.2.1 = id) : fnd rp id x = true := by simp [fnd, h1, h2]
theorem fnd_no {rp id : Int} {x : Ent} (h : ¬ (x.1 = rp ∧ x.2.1 = id)) : fnd rp id x = false := by
  rw [Bool.eq_false_iff]; intro e; simp [fnd] at e; exact h e
theorem one_no {rp id : Int} {e : Ent} (h : ¬ (e.1 = rp ∧ e.2.1 = id)) : ∀ (i : Nat) (y : Ent), [e][i]? = some y → fnd rp id y = false := fun i y hy => by
  have hm := List.mem_of_getElem? hy
  rw [List.mem_singleton.1 hm]; exact fnd_no h
theorem fst_no {rp id : Int} {e f : Ent} (h : ¬ (e.1 = rp ∧ e.2.1 = id)) : ∀ (i : Nat) (y : Ent), i < 1 → [e, f][i]? = some y → fnd rp id y = false := fun i y hi hy => by
  obtain rfl : i = 0 := by omega
  have hy2 : some e = some y := hy
  injection hy2 with hy3; subst hy3; exact fnd_no h

theorem same04_9 {w0 w : World} {F : List Chunk} (hS : St w0 w F) (x0 x1 x2 x3 x4 x5 x6 x7 x8 x9 y0 y1 y2 y3 y4 y5 y6 y7 y8 y9 : Int) {d1 d2 : Value} {bs cs : List UInt8} (h1 : RdSX w0 F 1 d1 bs.length (rows encB bs)) (h2 : RdSX w0 F 1 d2 cs.length (rows encB cs)) :
    Ret Tryd.prog 9 #[.agg #[.int .u64 x0, .int .u64 x1, .int .u32 x2, .int .u16 x3, .int .u16 x4, .int .u64 x5, .int .u32 x6, .int .u8 x7, .int .u64 x8, .int .u64 x9, d1], .agg #[.int .u64 y0, .int .u64 y1, .int .u32 y2, .int .u16 y3, .int .u16 y4, .int .u64 y5, .int .u32 y6, .int .u8 y7, .int .u64 y8, .int .u64 y9, d2]] w (fun v w' => v = .bool (decide (x0 = y0 ∧ x1 = y1 ∧ x2 = y2 ∧ x3 = y3 ∧ x4 = y4 ∧ (x5 = y5 ∧ x6 = y6 ∧ x7 = y7 ∧ x8 = y8) ∧ x9 = y9 ∧ bs = cs)) ∧ St w0 w' F) := by
  obtain ⟨A, c, rfl, hmc, hcx⟩ := (h1 w hS).open'
  obtain ⟨B, d, rfl, hmd, hdx⟩ := (h2 w hS).open'
  refine enter (vs := [.agg #[.int .u64 x0, .int .u64 x1, .int .u32 x2, .int .u16 x3, .int .u16 x4, .int .u64 x5, .int .u32 x6, .int .u8 x7, .int .u64 x8, .int .u64 x9, .slice A bs.length c], .agg #[.int .u64 y0, .int .u64 y1, .int .u32 y2, .int .u16 y3, .int .u16 y4, .int .u64 y5, .int .u32 y6, .int .u8 y7, .int .u64 y8, .int .u64 y9, .slice B cs.length d]]) 61 Tryd.func9 rfl rfl (by simp) ?_; intro a hA
  refine wp_seq ?_
  refine wp_region_lit ?_
  refine st_box hA hS [.int .u64 x0, .int .u64 x1, .int .u32 x2, .int .u16 x3, .int .u16 x4, .int .u64 x5, .int .u32 x6, .int .u8 x7, .int .u64 x8, .int .u64 x9, .slice A bs.length c] rfl rfl rfl rfl rfl (by decide) ?_; clear hA hS; intro b1 w2 a hS hA
  refine st_box hA hS [.int .u64 y0, .int .u64 y1, .int .u32 y2, .int .u16 y3, .int .u16 y4, .int .u64 y5, .int .u32 y6, .int .u8 y7, .int .u64 y8, .int .u64 y9, .slice B cs.length d] rfl rfl rfl rfl rfl (by decide) ?_; clear hA hS; intro b3 w4 a hS hA
  refine st_run tbOk 1 hA (e' := (4, .bool false) :: _) rfl ?_; clear hA; intro a hA
  refine wpList_nil ?_
  replace hA := hA.sel [2, 3] (e' := [(2, .pointer (some ⟨b1, 0, none⟩)), (3, .pointer (some ⟨b3, 0, none⟩))]) rfl
  refine xt_norm ?_
  refine wp_seq ?_
  refine wp_region_lit ?_
  refine st_run tbOk 1 hA (e' := (5, .pointer (some ⟨b1, 0, none⟩)) :: _) rfl ?_; clear hA; intro a hA
  refine st_val hA rfl rfl (by decide) (rn_load tbOk hA rfl rfl rfl rfl (cell_row (hS.heapAt 1 rfl) rfl)) ?_; clear hA; intro a hA
  refine st_run tbOk 1 hA (e' := (7, .pointer (some ⟨b3, 0, none⟩)) :: _) rfl ?_; clear hA; intro a hA
  refine st_val hA rfl rfl (by decide) (rn_load tbOk hA rfl rfl rfl rfl (cell_row (hS.heapAt 0 rfl) rfl)) ?_; clear hA; intro a hA
  refine st_run tbOk 2 hA (e' := (10, .bool (x0 == y0)) :: (9, .bool (x0 == y0)) :: _) rfl ?_; clear hA; intro a hA
  by_cases hc5 : x0 = y0
  · replace hA := hA.rw 9 (v' := .bool true) rfl (vb_eq_t hc5)
    replace hA := hA.rw 10 (v' := .bool true) rfl (vb_eq_t hc5)
    refine st_run tbOk 1 hA (e' := (11, .pointer (some ⟨b1, 1, none⟩)) :: _) rfl ?_; clear hA; intro a hA
    refine st_val hA rfl rfl (by decide) (rn_load tbOk hA rfl rfl rfl rfl (cell_row (hS.heapAt 1 rfl) rfl)) ?_; clear hA; intro a hA
    refine st_run tbOk 1 hA (e' := (13, .pointer (some ⟨b3, 1, none⟩)) :: _) rfl ?_; clear hA; intro a hA
    refine st_val hA rfl rfl (by decide) (rn_load tbOk hA rfl rfl rfl rfl (cell_row (hS.heapAt 0 rfl) rfl)) ?_; clear hA; intro a hA
    refine st_run tbOk 3 hA (e' := (17, .bool (x1 == y1)) :: (16, .bool (x1 == y1)) :: (15, .bool (x1 == y1)) :: _) rfl ?_; clear hA; intro a hA
    by_cases hc6 : x1 = y1
    · replace hA := hA.rw 15 (v' := .bool true) rfl (vb_eq_t hc6)
      replace hA := hA.rw 16 (v' := .bool true) rfl (vb_eq_t hc6)
      replace hA := hA.rw 17 (v' := .bool true) rfl (vb_eq_t hc6)
      refine st_run tbOk 1 hA (e' := (18, .pointer (some ⟨b1, 2, none⟩)) :: _) rfl ?_; clear hA; intro a hA
      refine st_val hA rfl rfl (by decide) (rn_load tbOk hA rfl rfl rfl rfl (cell_row (hS.heapAt 1 rfl) rfl)) ?_; clear hA; intro a hA
      refine st_run tbOk 1 hA (e' := (20, .pointer (some ⟨b3, 2, none⟩)) :: _) rfl ?_; clear hA; intro a hA
      refine st_val hA rfl rfl (by decide) (rn_load tbOk hA rfl rfl rfl rfl (cell_row (hS.heapAt 0 rfl) rfl)) ?_; clear hA; intro a hA
      refine st_run tbOk 3 hA (e' := (24, .bool (x2 == y2)) :: (23, .bool (x2 == y2)) :: (22, .bool (x2 == y2)) :: _) rfl ?_; clear hA; intro a hA
      by_cases hc7 : x2 = y2
      · replace hA := hA.rw 22 (v' := .bool true) rfl (vb_eq_t hc7)
        replace hA := hA.rw 23 (v' := .bool true) rfl (vb_eq_t hc7)
        replace hA := hA.rw 24 (v' := .bool true) rfl (vb_eq_t hc7)
        refine st_run tbOk 1 hA (e' := (25, .pointer (some ⟨b1, 3, none⟩)) :: _) rfl ?_; clear hA; intro a hA
        refine st_val hA rfl rfl (by decide) (rn_load tbOk hA rfl rfl rfl rfl (cell_row (hS.heapAt 1 rfl) rfl)) ?_; clear hA; intro a hA
        refine st_run tbOk 1 hA (e' := (27, .pointer (some ⟨b3, 3, none⟩)) :: _) rfl ?_; clear hA; intro a hA
        refine st_val hA rfl rfl (by decide) (rn_load tbOk hA rfl rfl rfl rfl (cell_row (hS.heapAt 0 rfl) rfl)) ?_; clear hA; intro a hA
        refine st_run tbOk 3 hA (e' := (31, .bool (x3 == y3)) :: (30, .bool (x3 == y3)) :: (29, .bool (x3 == y3)) :: _) rfl ?_; clear hA; intro a hA
        by_cases hc8 : x3 = y3
        · replace hA := hA.rw 29 (v' := .bool true) rfl (vb_eq_t hc8)
          replace hA := hA.rw 30 (v' := .bool true) rfl (vb_eq_t hc8)
          replace hA := hA.rw 31 (v' := .bool true) rfl (vb_eq_t hc8)
          refine st_run tbOk 1 hA (e' := (32, .pointer (some ⟨b1, 4, none⟩)) :: _) rfl ?_; clear hA; intro a hA
          refine st_val hA rfl rfl (by decide) (rn_load tbOk hA rfl rfl rfl rfl (cell_row (hS.heapAt 1 rfl) rfl)) ?_; clear hA; intro a hA
          refine st_run tbOk 1 hA (e' := (34, .pointer (some ⟨b3, 4, none⟩)) :: _) rfl ?_; clear hA; intro a hA
          refine st_val hA rfl rfl (by decide) (rn_load tbOk hA rfl rfl rfl rfl (cell_row (hS.heapAt 0 rfl) rfl)) ?_; clear hA; intro a hA
          refine st_run tbOk 3 hA (e' := (38, .bool (x4 == y4)) :: (37, .bool (x4 == y4)) :: (36, .bool (x4 == y4)) :: _) rfl ?_; clear hA; intro a hA
          by_cases hc9 : x4 = y4
          · replace hA := hA.rw 36 (v' := .bool true) rfl (vb_eq_t hc9)
            replace hA := hA.rw 37 (v' := .bool true) rfl (vb_eq_t hc9)
            replace hA := hA.rw 38 (v' := .bool true) rfl (vb_eq_t hc9)
            refine st_run tbOk 1 hA (e' := (39, .pointer (some ⟨b1, 5, none⟩)) :: _) rfl ?_; clear hA; intro a hA
            refine st_val hA rfl rfl (by decide) (rn_loadA tbOk hA [.int .u64 x5, .int .u32 x6, .int .u8 x7, .int .u64 x8] rfl rfl rfl rfl rfl (cells_row (hS.heapAt 1 rfl) rfl)) ?_; clear hA; intro a hA
            refine st_run tbOk 1 hA (e' := (41, .pointer (some ⟨b3, 5, none⟩)) :: _) rfl ?_; clear hA; intro a hA
            refine st_val hA rfl rfl (by decide) (rn_loadA tbOk hA [.int .u64 y5, .int .u32 y6, .int .u8 y7, .int .u64 y8] rfl rfl rfl rfl rfl (cells_row (hS.heapAt 0 rfl) rfl)) ?_; clear hA; intro a hA
            refine st_val hA rfl rfl (by decide) (rn_eqA tbOk hA rfl rfl rfl rfl rfl (by kernel_rfl) (by kernel_rfl) rfl) ?_; clear hA; intro a hA
            replace hA := hA.rw 43 (v' := .bool (decide (x5 = y5 ∧ x6 = y6 ∧ x7 = y7 ∧ x8 = y8))) rfl (congrArg Value.bool (by rw [Bool.eq_iff_iff]; simp))
            refine st_run tbOk 2 hA (e' := (45, .bool (decide (x5 = y5 ∧ x6 = y6 ∧ x7 = y7 ∧ x8 = y8))) :: (44, .bool (decide (x5 = y5 ∧ x6 = y6 ∧ x7 = y7 ∧ x8 = y8))) :: _) rfl ?_; clear hA; intro a hA
            by_cases hc10 : x5 = y5 ∧ x6 = y6 ∧ x7 = y7 ∧ x8 = y8
            · replace hA := hA.rw 43 (v' := .bool true) rfl (vb_true hc10)
              replace hA := hA.rw 44 (v' := .bool true) rfl (vb_true hc10)
              replace hA := hA.rw 45 (v' := .bool true) rfl (vb_true hc10)
              refine st_run tbOk 1 hA (e' := (46, .pointer (some ⟨b1, 9, none⟩)) :: _) rfl ?_; clear hA; intro a hA
              refine st_val hA rfl rfl (by decide) (rn_load tbOk hA rfl rfl rfl rfl (cell_row (hS.heapAt 1 rfl) rfl)) ?_; clear hA; intro a hA
              refine st_run tbOk 1 hA (e' := (48, .pointer (some ⟨b3, 9, none⟩)) :: _) rfl ?_; clear hA; intro a hA
              refine st_val hA rfl rfl (by decide) (rn_load tbOk hA rfl rfl rfl rfl (cell_row (hS.heapAt 0 rfl) rfl)) ?_; clear hA; intro a hA
              refine st_run tbOk 3 hA (e' := (52, .bool (x9 == y9)) :: (51, .bool (x9 == y9)) :: (50, .bool (x9 == y9)) :: _) rfl ?_; clear hA; intro a hA
              by_cases hc11 : x9 = y9
              · replace hA := hA.rw 50 (v' := .bool true) rfl (vb_eq_t hc11)
                replace hA := hA.rw 51 (v' := .bool true) rfl (vb_eq_t hc11)
                replace hA := hA.rw 52 (v' := .bool true) rfl (vb_eq_t hc11)
                refine st_run tbOk 1 hA (e' := (53, .pointer (some ⟨b1, 10, none⟩)) :: _) rfl ?_; clear hA; intro a hA
                refine st_val hA rfl rfl (by decide) (rn_load tbOk hA rfl rfl rfl rfl (cell_row (hS.heapAt 1 rfl) rfl)) ?_; clear hA; intro a hA
                refine st_val hA rfl rfl (by decide) (rn_bstr tbOk hA (bs := bs) rfl rfl rfl rfl rfl rfl rfl rfl (h1 _ (hS.tail 2 rfl))) ?_; clear hA; intro a hA
                refine st_run tbOk 1 hA (e' := (56, .pointer (some ⟨b3, 10, none⟩)) :: _) rfl ?_; clear hA; intro a hA
                refine st_val hA rfl rfl (by decide) (rn_load tbOk hA rfl rfl rfl rfl (cell_row (hS.heapAt 0 rfl) rfl)) ?_; clear hA; intro a hA
                refine st_val hA rfl rfl (by decide) (rn_bstr tbOk hA (bs := cs) rfl rfl rfl rfl rfl rfl rfl rfl (h2 _ (hS.tail 2 rfl))) ?_; clear hA; intro a hA
                refine st_run tbOk 1 hA (e' := (59, .bool ((bsv bs).toList == (bsv cs).toList)) :: _) rfl ?_; clear hA; intro a hA
                replace hA := hA.rw 59 (v' := .bool (decide (bs = cs))) rfl (congrArg Value.bool (bsv_eq _ _))
                refine st_run tbOk 2 hA (e' := (4, .bool (decide (bs = cs))) :: (60, .bool (decide (bs = cs))) :: _) rfl ?_; clear hA; intro a hA
                refine wpList_nil ?_
                replace hA := hA.sel [4] (e' := [(4, .bool (decide (bs = cs)))]) rfl
                refine xt_norm ?_
                refine wp_ret ?_
                refine ret1 (fn := Tryd.f9) hA rfl rfl ?_
                replace hS := hS.drop1
                replace hS := hS.drop1
                exact ⟨congrArg Value.bool (decide_eq_decide.2 ⟨fun h => ⟨by assumption, by assumption, by assumption, by assumption, by assumption, by assumption, by assumption, h⟩, fun h => h.2.2.2.2.2.2.2⟩), hS⟩
              · replace hA := hA.rw 50 (v' := .bool false) rfl (vb_eq_f hc11)
                replace hA := hA.rw 51 (v' := .bool false) rfl (vb_eq_f hc11)
                replace hA := hA.rw 52 (v' := .bool false) rfl (vb_eq_f hc11)
                refine st_run tbOk 7 hA (e' := (59, undef) :: (58, undef) :: (57, undef) :: (56, undef) :: (55, undef) :: (54, undef) :: (53, undef) :: _) rfl ?_; clear hA; intro a hA
                refine st_run tbOk 2 hA (e' := (4, .bool false) :: (60, .bool false) :: _) rfl ?_; clear hA; intro a hA
                refine wpList_nil ?_
                replace hA := hA.sel [4] (e' := [(4, .bool false)]) rfl
                refine xt_norm ?_
                refine wp_ret ?_
                refine ret1 (fn := Tryd.f9) hA rfl rfl ?_
                replace hS := hS.drop1
                replace hS := hS.drop1
                exact ⟨congrArg Value.bool (decide_eq_false (fun h => by first | exact absurd h.1 (by assumption) | exact absurd h.2.1 (by assumption) | exact absurd h.2.2.1 (by assumption) | exact absurd h.2.2.2.1 (by assumption) | exact absurd h.2.2.2.2.1 (by assumption) | exact absurd h.2.2.2.2.2.1 (by assumption) | exact absurd h.2.2.2.2.2.2.1 (by assumption) | exact absurd h.2.2.2.2.2.2.2 (by assumption))).symm, hS⟩
            · replace hA := hA.rw 43 (v' := .bool false) rfl (vb_false hc10)
              replace hA := hA.rw 44 (v' := .bool false) rfl (vb_false hc10)
              replace hA := hA.rw 45 (v' := .bool false) rfl (vb_false hc10)
              refine st_run tbOk 14 hA (e' := (59, undef) :: (58, undef) :: (57, undef) :: (56, undef) :: (55, undef) :: (54, undef) :: (53, undef) :: (52, .bool false) :: (51, .bool false) :: (50, undef) :: (49, undef) :: (48, undef) :: (47, undef) :: (46, undef) :: _) rfl ?_; clear hA; intro a hA
              refine st_run tbOk 2 hA (e' := (4, .bool false) :: (60, .bool false) :: _) rfl ?_; clear hA; intro a hA
              refine wpList_nil ?_
              replace hA := hA.sel [4] (e' := [(4, .bool false)]) rfl
              refine xt_norm ?_
              refine wp_ret ?_
              refine ret1 (fn := Tryd.f9) hA rfl rfl ?_
              replace hS := hS.drop1
              replace hS := hS.drop1
              exact ⟨congrArg Value.bool (decide_eq_false (fun h => by first | exact absurd h.1 (by assumption) | exact absurd h.2.1 (by assumption) | exact absurd h.2.2.1 (by assumption) | exact absurd h.2.2.2.1 (by assumption) | exact absurd h.2.2.2.2.1 (by assumption) | exact absurd h.2.2.2.2.2.1 (by assumption) | exact absurd h.2.2.2.2.2.2.1 (by assumption) | exact absurd h.2.2.2.2.2.2.2 (by assumption))).symm, hS⟩
          · replace hA := hA.rw 36 (v' := .bool false) rfl (vb_eq_f hc9)
            replace hA := hA.rw 37 (v' := .bool false) rfl (vb_eq_f hc9)
            replace hA := hA.rw 38 (v' := .bool false) rfl (vb_eq_f hc9)
            refine st_run tbOk 5 hA (e' := (43, undef) :: (42, undef) :: (41, undef) :: (40, undef) :: (39, undef) :: _) rfl ?_; clear hA; intro a hA
            refine st_run tbOk 16 hA (e' := (59, undef) :: (58, undef) :: (57, undef) :: (56, undef) :: (55, undef) :: (54, undef) :: (53, undef) :: (52, .bool false) :: (51, .bool false) :: (50, undef) :: (49, undef) :: (48, undef) :: (47, undef) :: (46, undef) :: (45, .bool false) :: (44, .bool false) :: _) rfl ?_; clear hA; intro a hA
            refine st_run tbOk 2 hA (e' := (4, .bool false) :: (60, .bool false) :: _) rfl ?_; clear hA; intro a hA
            refine wpList_nil ?_
            replace hA := hA.sel [4] (e' := [(4, .bool false)]) rfl
            refine xt_norm ?_
            refine wp_ret ?_
            refine ret1 (fn := Tryd.f9) hA rfl rfl ?_
            replace hS := hS.drop1
            replace hS := hS.drop1
            exact ⟨congrArg Value.bool (decide_eq_false (fun h => by first | exact absurd h.1 (by assumption) | exact absurd h.2.1 (by assumption) | exact absurd h.2.2.1 (by assumption) | exact absurd h.2.2.2.1 (by assumption) | exact absurd h.2.2.2.2.1 (by assumption) | exact absurd h.2.2.2.2.2.1 (by assumption) | exact absurd h.2.2.2.2.2.2.1 (by assumption) | exact absurd h.2.2.2.2.2.2.2 (by assumption))).symm, hS⟩
        · replace hA := hA.rw 29 (v' := .bool false) rfl (vb_eq_f hc8)
          replace hA := hA.rw 30 (v' := .bool false) rfl (vb_eq_f hc8)
          replace hA := hA.rw 31 (v' := .bool false) rfl (vb_eq_f hc8)
          refine st_run tbOk 12 hA (e' := (43, undef) :: (42, undef) :: (41, undef) :: (40, undef) :: (39, undef) :: (38, .bool false) :: (37, .bool false) :: (36, undef) :: (35, undef) :: (34, undef) :: (33, undef) :: (32, undef) :: _) rfl ?_; clear hA; intro a hA
          refine st_run tbOk 16 hA (e' := (59, undef) :: (58, undef) :: (57, undef) :: (56, undef) :: (55, undef) :: (54, undef) :: (53, undef) :: (52, .bool false) :: (51, .bool false) :: (50, undef) :: (49, undef) :: (48, undef) :: (47, undef) :: (46, undef) :: (45, .bool false) :: (44, .bool false) :: _) rfl ?_; clear hA; intro a hA
          refine st_run tbOk 2 hA (e' := (4, .bool false) :: (60, .bool false) :: _) rfl ?_; clear hA; intro a hA
          refine wpList_nil ?_
          replace hA := hA.sel [4] (e' := [(4, .bool false)]) rfl
          refine xt_norm ?_
          refine wp_ret ?_
          refine ret1 (fn := Tryd.f9) hA rfl rfl ?_
          replace hS := hS.drop1
          replace hS := hS.drop1
          exact ⟨congrArg Value.bool (decide_eq_false (fun h => by first | exact absurd h.1 (by assumption) | exact absurd h.2.1 (by assumption) | exact absurd h.2.2.1 (by assumption) | exact absurd h.2.2.2.1 (by assumption) | exact absurd h.2.2.2.2.1 (by assumption) | exact absurd h.2.2.2.2.2.1 (by assumption) | exact absurd h.2.2.2.2.2.2.1 (by assumption) | exact absurd h.2.2.2.2.2.2.2 (by assumption))).symm, hS⟩
      · replace hA := hA.rw 22 (v' := .bool false) rfl (vb_eq_f hc7)
        replace hA := hA.rw 23 (v' := .bool false) rfl (vb_eq_f hc7)
        replace hA := hA.rw 24 (v' := .bool false) rfl (vb_eq_f hc7)
        refine st_run tbOk 19 hA (e' := (43, undef) :: (42, undef) :: (41, undef) :: (40, undef) :: (39, undef) :: (38, .bool false) :: (37, .bool false) :: (36, undef) :: (35, undef) :: (34, undef) :: (33, undef) :: (32, undef) :: (31, .bool false) :: (30, .bool false) :: (29, undef) :: (28, undef) :: (27, undef) :: (26, undef) :: (25, undef) :: _) rfl ?_; clear hA; intro a hA
        refine st_run tbOk 16 hA (e' := (59, undef) :: (58, undef) :: (57, undef) :: (56, undef) :: (55, undef) :: (54, undef) :: (53, undef) :: (52, .bool false) :: (51, .bool false) :: (50, undef) :: (49, undef) :: (48, undef) :: (47, undef) :: (46, undef) :: (45, .bool false) :: (44, .bool false) :: _) rfl ?_; clear hA; intro a hA
        refine st_run tbOk 2 hA (e' := (4, .bool false) :: (60, .bool false) :: _) rfl ?_; clear hA; intro a hA
        refine wpList_nil ?_
        replace hA := hA.sel [4] (e' := [(4, .bool false)]) rfl
        refine xt_norm ?_
        refine wp_ret ?_
        refine ret1 (fn := Tryd.f9) hA rfl rfl ?_
        replace hS := hS.drop1
        replace hS := hS.drop1
        exact ⟨congrArg Value.bool (decide_eq_false (fun h => by first | exact absurd h.1 (by assumption) | exact absurd h.2.1 (by assumption) | exact absurd h.2.2.1 (by assumption) | exact absurd h.2.2.2.1 (by assumption) | exact absurd h.2.2.2.2.1 (by assumption) | exact absurd h.2.2.2.2.2.1 (by assumption) | exact absurd h.2.2.2.2.2.2.1 (by assumption) | exact absurd h.2.2.2.2.2.2.2 (by assumption))).symm, hS⟩
    · replace hA := hA.rw 15 (v' := .bool false) rfl (vb_eq_f hc6)
      replace hA := hA.rw 16 (v' := .bool false) rfl (vb_eq_f hc6)
      replace hA := hA.rw 17 (v' := .bool false) rfl (vb_eq_f hc6)
      refine st_run tbOk 26 hA (e' := (43, undef) :: (42, undef) :: (41, undef) :: (40, undef) :: (39, undef) :: (38, .bool false) :: (37, .bool false) :: (36, undef) :: (35, undef) :: (34, undef) :: (33, undef) :: (32, undef) :: (31, .bool false) :: (30, .bool false) :: (29, undef) :: (28, undef) :: (27, undef) :: (26, undef) :: (25, undef) :: (24, .bool false) :: (23, .bool false) :: (22, undef) :: (21, undef) :: (20, undef) :: (19, undef) :: (18, undef) :: _) rfl ?_; clear hA; intro a hA
      refine st_run tbOk 16 hA (e' := (59, undef) :: (58, undef) :: (57, undef) :: (56, undef) :: (55, undef) :: (54, undef) :: (53, undef) :: (52, .bool false) :: (51, .bool false) :: (50, undef) :: (49, undef) :: (48, undef) :: (47, undef) :: (46, undef) :: (45, .bool false) :: (44, .bool false) :: _) rfl ?_; clear hA; intro a hA
      refine st_run tbOk 2 hA (e' := (4, .bool false) :: (60, .bool false) :: _) rfl ?_; clear hA; intro a hA
      refine wpList_nil ?_
      replace hA := hA.sel [4] (e' := [(4, .bool false)]) rfl
      refine xt_norm ?_
      refine wp_ret ?_
      refine ret1 (fn := Tryd.f9) hA rfl rfl ?_
      replace hS := hS.drop1
      replace hS := hS.drop1
      exact ⟨congrArg Value.bool (decide_eq_false (fun h => by first | exact absurd h.1 (by assumption) | exact absurd h.2.1 (by assumption) | exact absurd h.2.2.1 (by assumption) | exact absurd h.2.2.2.1 (by assumption) | exact absurd h.2.2.2.2.1 (by assumption) | exact absurd h.2.2.2.2.2.1 (by assumption) | exact absurd h.2.2.2.2.2.2.1 (by assumption) | exact absurd h.2.2.2.2.2.2.2 (by assumption))).symm, hS⟩
  · replace hA := hA.rw 9 (v' := .bool false) rfl (vb_eq_f hc5)
    replace hA := hA.rw 10 (v' := .bool false) rfl (vb_eq_f hc5)
    refine st_run tbOk 33 hA (e' := (43, undef) :: (42, undef) :: (41, undef) :: (40, undef) :: (39, undef) :: (38, .bool false) :: (37, .bool false) :: (36, undef) :: (35, undef) :: (34, undef) :: (33, undef) :: (32, undef) :: (31, .bool false) :: (30, .bool false) :: (29, undef) :: (28, undef) :: (27, undef) :: (26, undef) :: (25, undef) :: (24, .bool false) :: (23, .bool false) :: (22, undef) :: (21, undef) :: (20, undef) :: (19, undef) :: (18, undef) :: (17, .bool false) :: (16, .bool false) :: (15, undef) :: (14, undef) :: (13, undef) :: (12, undef) :: (11, undef) :: _) rfl ?_; clear hA; intro a hA
    refine st_run tbOk 16 hA (e' := (59, undef) :: (58, undef) :: (57, undef) :: (56, undef) :: (55, undef) :: (54, undef) :: (53, undef) :: (52, .bool false) :: (51, .bool false) :: (50, undef) :: (49, undef) :: (48, undef) :: (47, undef) :: (46, undef) :: (45, .bool false) :: (44, .bool false) :: _) rfl ?_; clear hA; intro a hA
    refine st_run tbOk 2 hA (e' := (4, .bool false) :: (60, .bool false) :: _) rfl ?_; clear hA; intro a hA
    refine wpList_nil ?_
    replace hA := hA.sel [4] (e' := [(4, .bool false)]) rfl
    refine xt_norm ?_
    refine wp_ret ?_
    refine ret1 (fn := Tryd.f9) hA rfl rfl ?_
    replace hS := hS.drop1
    replace hS := hS.drop1
    exact ⟨congrArg Value.bool (decide_eq_false (fun h => by first | exact absurd h.1 (by assumption) | exact absurd h.2.1 (by assumption) | exact absurd h.2.2.1 (by assumption) | exact absurd h.2.2.2.1 (by assumption) | exact absurd h.2.2.2.2.1 (by assumption) | exact absurd h.2.2.2.2.2.1 (by assumption) | exact absurd h.2.2.2.2.2.2.1 (by assumption) | exact absurd h.2.2.2.2.2.2.2 (by assumption))).symm, hS⟩

theorem awake5 {w0 w : World} {F : List Chunk} (hS : St w0 w F) :
    Ret Tryd.prog 5 #[] w (fun v w' => v = .bool true ∧ St w0 w' F) := by
  refine enter (vs := []) 72 Tryd.func5 rfl rfl (by simp) ?_; intro a hA
  refine wp_seq ?_
  refine wp_region_lit ?_
  refine st_run tbOk 1 hA (e' := (0, .bool false) :: _) rfl ?_; clear hA; intro a hA
  refine wpList_nil ?_
  replace hA := hA.sel [] (e' := []) rfl
  refine xt_norm ?_
  refine wp_seq ?_
  refine wp_region_lit ?_
  refine st_run tbOk 1 hA (e' := (14, .agg #[.slice none 0 0]) :: _) rfl ?_; clear hA; intro a hA
  refine st_box hA hS [.slice none 0 0] rfl rfl rfl rfl rfl (by decide) ?_; clear hA hS; intro b1 w2 a hS hA
  obtain ⟨L3, hM4, hS⟩ : ∃ Z, SR b1 [] Z ∧ St w0 w2 (Z :: F) := ⟨_, SR.new _, hS⟩
  replace hS := hS.nil
  refine st_run tbOk 1 hA (e' := (1, .pointer (some ⟨b1, 0, none⟩)) :: _) rfl ?_; clear hA; intro a hA
  refine wpList_nil ?_
  replace hA := hA.sel [1] (e' := [(1, .pointer (some ⟨b1, 0, none⟩))]) rfl
  refine xt_norm ?_
  refine wp_seq ?_
  refine wp_region_lit ?_
  refine st_run tbOk 2 hA (e' := (17, .agg #[.int .u64 0, .int .u64 0, .int .u32 0, .int .u16 0, .int .u16 0, .int .u64 0, .int .u32 0, .int .u8 0, .int .u64 0, .int .u64 3, .slice none 0 0]) :: (16, .agg #[.int .u64 0, .int .u64 1, .int .u32 2, .int .u16 0, .int .u16 0, .int .u64 0, .int .u32 0, .int .u8 0, .int .u64 0, .int .u64 0, .slice none 0 0]) :: _) rfl ?_; clear hA; intro a hA
  refine st_alloc tbOk hA hS [.int .u64 0, .int .u64 0, .int .u32 0, .int .u16 0, .int .u16 0, .int .u64 0, .int .u32 0, .int .u8 0, .int .u64 0, .int .u64 0, .slice none 0 0] rfl rfl rfl rfl rfl (by decide) ?_; clear hA hS; intro b5 w6 a hS hA
  refine st_alloc tbOk hA hS [.int .u64 0, .int .u64 0, .int .u32 0, .int .u16 0, .int .u16 0, .int .u64 0, .int .u32 0, .int .u8 0, .int .u64 0, .int .u64 0, .slice none 0 0] rfl rfl rfl rfl rfl (by decide) ?_; clear hA hS; intro b7 w8 a hS hA
  replace hS := hS.front 1 (C := [(b5, rowO [.int .u64 0, .int .u64 0, .int .u32 0, .int .u16 0, .int .u16 0, .int .u64 0, .int .u32 0, .int .u8 0, .int .u64 0, .int .u64 0, .slice none 0 0] 36)]) (L' := [(b7, rowO [.int .u64 0, .int .u64 0, .int .u32 0, .int .u16 0, .int .u16 0, .int .u64 0, .int .u32 0, .int .u8 0, .int .u64 0, .int .u64 0, .slice none 0 0] 36)] :: [] :: L3 :: F) rfl rfl
  refine st_store tbOk hA hS [.int .u64 0, .int .u64 1, .int .u32 2, .int .u16 0, .int .u16 0, .int .u64 0, .int .u32 0, .int .u8 0, .int .u64 0, .int .u64 0, .slice none 0 0] [.int .u64 0, .int .u64 1, .int .u32 2, .int .u16 0, .int .u16 0, .int .u64 0, .int .u32 0, .int .u8 0, .int .u64 0, .int .u64 0, .slice none 0 0] rfl rfl rfl rfl rfl rfl (by simp [Value.oneCell']) (Nat.le_of_ble_eq_true rfl) rfl rfl rfl ?_; clear hS; intro w9 hS
  replace hS := hS.front 1 (C := [(b7, rowO [.int .u64 0, .int .u64 0, .int .u32 0, .int .u16 0, .int .u16 0, .int .u64 0, .int .u32 0, .int .u8 0, .int .u64 0, .int .u64 0, .slice none 0 0] 36)]) (L' := [(b5, rowO [.int .u64 0, .int .u64 1, .int .u32 2, .int .u16 0, .int .u16 0, .int .u64 0, .int .u32 0, .int .u8 0, .int .u64 0, .int .u64 0, .slice none 0 0] 36)] :: [] :: L3 :: F) rfl rfl
  refine st_store tbOk hA hS [.int .u64 0, .int .u64 0, .int .u32 0, .int .u16 0, .int .u16 0, .int .u64 0, .int .u32 0, .int .u8 0, .int .u64 0, .int .u64 3, .slice none 0 0] [.int .u64 0, .int .u64 0, .int .u32 0, .int .u16 0, .int .u16 0, .int .u64 0, .int .u32 0, .int .u8 0, .int .u64 0, .int .u64 3, .slice none 0 0] rfl rfl rfl rfl rfl rfl (by simp [Value.oneCell']) (Nat.le_of_ble_eq_true rfl) rfl rfl rfl ?_; clear hS; intro w10 hS
  refine wpList_nil ?_
  replace hA := hA.sel [1, 2, 3] (e' := [(1, .pointer (some ⟨b1, 0, none⟩)), (2, .pointer (some ⟨b5, 0, none⟩)), (3, .pointer (some ⟨b7, 0, none⟩))]) rfl
  refine xt_norm ?_
  refine wp_seq ?_
  refine wp_region_lit ?_
  refine st_run tbOk 1 hA (e' := (19, .pointer (some ⟨b1, 0, none⟩)) :: _) rfl ?_; clear hA; intro a hA
  refine st_val hA rfl rfl (by decide) (rn_loadA tbOk hA [.int .u64 0, .int .u64 1, .int .u32 2, .int .u16 0, .int .u16 0, .int .u64 0, .int .u32 0, .int .u8 0, .int .u64 0, .int .u64 0, .slice none 0 0] rfl rfl rfl rfl rfl (cells_row (hS.heapAt 1 rfl) rfl)) ?_; clear hA; intro a hA
  replace hS := hS.front 2 (C := []) (L' := [(b7, rowO [.int .u64 0, .int .u64 0, .int .u32 0, .int .u16 0, .int .u16 0, .int .u64 0, .int .u32 0, .int .u8 0, .int .u64 0, .int .u64 3, .slice none 0 0] 36)] :: [(b5, rowO [.int .u64 0, .int .u64 1, .int .u32 2, .int .u16 0, .int .u16 0, .int .u64 0, .int .u32 0, .int .u8 0, .int .u64 0, .int .u64 0, .slice none 0 0] 36)] :: L3 :: F) rfl rfl
  replace hS := hS.front 3 (C := L3) (L' := [] :: [(b7, rowO [.int .u64 0, .int .u64 0, .int .u32 0, .int .u16 0, .int .u16 0, .int .u64 0, .int .u32 0, .int .u8 0, .int .u64 0, .int .u64 3, .slice none 0 0] 36)] :: [(b5, rowO [.int .u64 0, .int .u64 1, .int .u32 2, .int .u16 0, .int .u16 0, .int .u64 0, .int .u32 0, .int .u8 0, .int .u64 0, .int .u64 0, .slice none 0 0] 36)] :: F) rfl rfl
  refine st_call0 hA rfl rfl rfl isfn8 rfl rfl (by decide) (take_new8 hS hM4 0 1 2 0 0 0 0 0 0 0 _ (fun i y h => by simp at h) (by decide)) ?_
  clear hA hS; rintro _ w11 a ⟨L12, hM13, rfl, hS⟩ hA
  have dd14 := add_mem_dd (a0 := 1) (a1 := 2) (a2 := 1) (a3 := 0) (a4 := 0) (a5 := 0) (a6 := 0) (a7 := 0) (a8 := 0) (a9 := 0) (a10 := 0) (a11 := 0) (a12 := 0) (w0 := w0) (D := []) nodd
  have bd15 := sbd.add (a0 := 1) (a1 := 2) (a2 := 1) (a3 := 0) (a4 := 0) (a5 := 0) (a6 := 0) (a7 := 0) (a8 := 0) (a9 := 0) (a10 := 0) (a11 := 0) (a12 := 0) (A := none) (c := 0) sbd.nil
  have hM16 : SR b1 ([(1, 2, 1, 0, 0, 0, 0, 0, 0, 0, 0, 0, 0, none, 0, ([] : List UInt8))]) L12 := hM13
  have dd17 : ∀ x ∈ ([(1, 2, 1, 0, 0, 0, 0, 0, 0, 0, 0, 0, 0, none, 0, ([] : List UInt8))] : List Ent), encEntry_dd w0 [] x := dd14
  have bd18 : sbd ([(1, 2, 1, 0, 0, 0, 0, 0, 0, 0, 0, 0, 0, none, 0, ([] : List UInt8))]) := bd15
  refine st_run tbOk 4 hA (e' := (24, .nilIface) :: (23, .agg #[.int .u64 0, .int .u64 0, .int .u32 0, .int .u16 0, .int .u16 0, .int .u64 0, .int .u32 0, .int .u8 0, .int .u64 0, .int .u64 0, .slice none 0 0]) :: (22, .int .i64 0) :: (18, .tuple #[.int .i64 0, .agg #[.int .u64 0, .int .u64 0, .int .u32 0, .int .u16 0, .int .u16 0, .int .u64 0, .int .u32 0, .int .u8 0, .int .u64 0, .int .u64 0, .slice none 0 0], .nilIface]) :: _) rfl ?_; clear hA; intro a hA
  refine st_alloc tbOk hA hS [.int .u64 0, .int .u64 0, .int .u32 0, .int .u16 0, .int .u16 0, .int .u64 0, .int .u32 0, .int .u8 0, .int .u64 0, .int .u64 0, .slice none 0 0] rfl rfl rfl rfl rfl (by decide) ?_; clear hA hS; intro b19 w20 a hS hA
  refine st_run tbOk 1 hA (e' := (4, .int .i64 0) :: _) rfl ?_; clear hA; intro a hA
  refine st_store tbOk hA hS [.int .u64 0, .int .u64 0, .int .u32 0, .int .u16 0, .int .u16 0, .int .u64 0, .int .u32 0, .int .u8 0, .int .u64 0, .int .u64 0, .slice none 0 0] [.int .u64 0, .int .u64 0, .int .u32 0, .int .u16 0, .int .u16 0, .int .u64 0, .int .u32 0, .int .u8 0, .int .u64 0, .int .u64 0, .slice none 0 0] rfl rfl rfl rfl rfl rfl (by simp [Value.oneCell']) (Nat.le_of_ble_eq_true rfl) rfl rfl rfl ?_; clear hS; intro w21 hS
  refine st_run tbOk 1 hA (e' := (6, .nilIface) :: _) rfl ?_; clear hA; intro a hA
  refine wpList_nil ?_
  replace hA := hA.sel [1, 2, 3, 4] (e' := [(1, .pointer (some ⟨b1, 0, none⟩)), (2, .pointer (some ⟨b5, 0, none⟩)), (3, .pointer (some ⟨b7, 0, none⟩)), (4, .int .i64 0)]) rfl
  refine xt_norm ?_
  refine wp_seq ?_
  refine wp_region_lit ?_
  refine st_run tbOk 1 hA (e' := (26, .pointer (some ⟨b1, 0, none⟩)) :: _) rfl ?_; clear hA; intro a hA
  refine st_val hA rfl rfl (by decide) (rn_loadA tbOk hA [.int .u64 0, .int .u64 1, .int .u32 2, .int .u16 0, .int .u16 0, .int .u64 0, .int .u32 0, .int .u8 0, .int .u64 0, .int .u64 0, .slice none 0 0] rfl rfl rfl rfl rfl (cells_row (hS.heapAt 4 rfl) rfl)) ?_; clear hA; intro a hA
  replace hS := hS.front 2 (C := []) (L' := [(b19, rowO [.int .u64 0, .int .u64 0, .int .u32 0, .int .u16 0, .int .u16 0, .int .u64 0, .int .u32 0, .int .u8 0, .int .u64 0, .int .u64 0, .slice none 0 0] 36)] :: L12 :: [(b7, rowO [.int .u64 0, .int .u64 0, .int .u32 0, .int .u16 0, .int .u16 0, .int .u64 0, .int .u32 0, .int .u8 0, .int .u64 0, .int .u64 3, .slice none 0 0] 36)] :: [(b5, rowO [.int .u64 0, .int .u64 1, .int .u32 2, .int .u16 0, .int .u16 0, .int .u64 0, .int .u32 0, .int .u8 0, .int .u64 0, .int .u64 0, .slice none 0 0] 36)] :: F) rfl rfl
  replace hS := hS.front 2 (C := L12) (L' := [] :: [(b19, rowO [.int .u64 0, .int .u64 0, .int .u32 0, .int .u16 0, .int .u16 0, .int .u64 0, .int .u32 0, .int .u8 0, .int .u64 0, .int .u64 0, .slice none 0 0] 36)] :: [(b7, rowO [.int .u64 0, .int .u64 0, .int .u32 0, .int .u16 0, .int .u16 0, .int .u64 0, .int .u32 0, .int .u8 0, .int .u64 0, .int .u64 3, .slice none 0 0] 36)] :: [(b5, rowO [.int .u64 0, .int .u64 1, .int .u32 2, .int .u16 0, .int .u16 0, .int .u64 0, .int .u32 0, .int .u8 0, .int .u64 0, .int .u64 0, .slice none 0 0] 36)] :: F) rfl rfl
  refine st_call0 hA rfl rfl rfl isfn8 rfl rfl (by decide) (take_known8 hS hM16 0 1 2 0 0 0 0 0 0 0 _ (k := 0) (x := (1, 2, 1, 0, 0, 0, 0, 0, 0, 0, 0, 0, 0, none, 0, ([] : List UInt8))) rfl (fnd_yes rfl rfl) (fun i y h => absurd h (Nat.not_lt_zero _)) dd17 bd18 (by first | omega | exact Nat.le_of_ble_eq_true rfl)) ?_
  clear hA hS; rintro _ w22 a ⟨L23, E25, A26, c27, hM24, hE28, rfl, hS⟩ hA
  have dd29 := encEntry_lefts (E := E25) dd17
  refine st_run tbOk 4 hA (e' := (31, .nilIface) :: (30, .agg #[.int .u64 0, .int .u64 0, .int .u32 0, .int .u16 0, .int .u16 0, .int .u64 0, .int .u32 0, .int .u8 0, .int .u64 0, .int .u64 0, .slice A26 0 c27]) :: (29, .int .i64 1) :: (25, .tuple #[.int .i64 1, .agg #[.int .u64 0, .int .u64 0, .int .u32 0, .int .u16 0, .int .u16 0, .int .u64 0, .int .u32 0, .int .u8 0, .int .u64 0, .int .u64 0, .slice A26 0 c27], .nilIface]) :: _) rfl ?_; clear hA; intro a hA
  refine st_alloc tbOk hA hS [.int .u64 0, .int .u64 0, .int .u32 0, .int .u16 0, .int .u16 0, .int .u64 0, .int .u32 0, .int .u8 0, .int .u64 0, .int .u64 0, .slice none 0 0] rfl rfl rfl rfl rfl (by decide) ?_; clear hA hS; intro b30 w31 a hS hA
  refine st_run tbOk 1 hA (e' := (7, .int .i64 1) :: _) rfl ?_; clear hA; intro a hA
  refine st_store tbOk hA hS [.int .u64 0, .int .u64 0, .int .u32 0, .int .u16 0, .int .u16 0, .int .u64 0, .int .u32 0, .int .u8 0, .int .u64 0, .int .u64 0, .slice A26 0 c27] [.int .u64 0, .int .u64 0, .int .u32 0, .int .u16 0, .int .u16 0, .int .u64 0, .int .u32 0, .int .u8 0, .int .u64 0, .int .u64 0, .slice A26 0 c27] rfl rfl rfl rfl rfl rfl (by simp [Value.oneCell']) (Nat.le_of_ble_eq_true rfl) rfl rfl rfl ?_; clear hS; intro w32 hS
  refine st_run tbOk 1 hA (e' := (9, .nilIface) :: _) rfl ?_; clear hA; intro a hA
  refine wpList_nil ?_
  replace hA := hA.sel [1, 2, 3, 4, 7] (e' := [(1, .pointer (some ⟨b1, 0, none⟩)), (2, .pointer (some ⟨b5, 0, none⟩)), (3, .pointer (some ⟨b7, 0, none⟩)), (4, .int .i64 0), (7, .int .i64 1)]) rfl
  refine xt_norm ?_
  refine wp_seq ?_
  refine wp_region_lit ?_
  refine st_run tbOk 1 hA (e' := (32, .pointer (some ⟨b1, 0, none⟩)) :: _) rfl ?_; clear hA; intro a hA
  refine st_val hA rfl rfl (by decide) (rn_loadA tbOk hA [.int .u64 0, .int .u64 1, .int .u32 2, .int .u16 0, .int .u16 0, .int .u64 0, .int .u32 0, .int .u8 0, .int .u64 0, .int .u64 0, .slice none 0 0] rfl rfl rfl rfl rfl (cells_row (hS.heapAt 5 rfl) rfl)) ?_; clear hA; intro a hA
  refine st_val hA rfl rfl (by decide) (rn_loadA tbOk hA [.int .u64 0, .int .u64 0, .int .u32 0, .int .u16 0, .int .u16 0, .int .u64 0, .int .u32 0, .int .u8 0, .int .u64 0, .int .u64 3, .slice none 0 0] rfl rfl rfl rfl rfl (cells_row (hS.heapAt 4 rfl) rfl)) ?_; clear hA; intro a hA
  replace hS := hS.front 2 (C := (E25 ++ [])) (L' := [(b30, rowO [.int .u64 0, .int .u64 0, .int .u32 0, .int .u16 0, .int .u16 0, .int .u64 0, .int .u32 0, .int .u8 0, .int .u64 0, .int .u64 0, .slice A26 0 c27] 36)] :: L23 :: [(b19, rowO [.int .u64 0, .int .u64 0, .int .u32 0, .int .u16 0, .int .u16 0, .int .u64 0, .int .u32 0, .int .u8 0, .int .u64 0, .int .u64 0, .slice none 0 0] 36)] :: [(b7, rowO [.int .u64 0, .int .u64 0, .int .u32 0, .int .u16 0, .int .u16 0, .int .u64 0, .int .u32 0, .int .u8 0, .int .u64 0, .int .u64 3, .slice none 0 0] 36)] :: [(b5, rowO [.int .u64 0, .int .u64 1, .int .u32 2, .int .u16 0, .int .u16 0, .int .u64 0, .int .u32 0, .int .u8 0, .int .u64 0, .int .u64 0, .slice none 0 0] 36)] :: F) rfl rfl
  replace hS := hS.front 2 (C := L23) (L' := (E25 ++ []) :: [(b30, rowO [.int .u64 0, .int .u64 0, .int .u32 0, .int .u16 0, .int .u16 0, .int .u64 0, .int .u32 0, .int .u8 0, .int .u64 0, .int .u64 0, .slice A26 0 c27] 36)] :: [(b19, rowO [.int .u64 0, .int .u64 0, .int .u32 0, .int .u16 0, .int .u16 0, .int .u64 0, .int .u32 0, .int .u8 0, .int .u64 0, .int .u64 0, .slice none 0 0] 36)] :: [(b7, rowO [.int .u64 0, .int .u64 0, .int .u32 0, .int .u16 0, .int .u16 0, .int .u64 0, .int .u32 0, .int .u8 0, .int .u64 0, .int .u64 3, .slice none 0 0] 36)] :: [(b5, rowO [.int .u64 0, .int .u64 1, .int .u32 2, .int .u16 0, .int .u16 0, .int .u64 0, .int .u32 0, .int .u8 0, .int .u64 0, .int .u64 0, .slice none 0 0] 36)] :: F) rfl rfl
  refine st_call0 hA rfl rfl rfl isfn6 rfl rfl (by decide) (reply_ok6 hS hM24 0 1 2 0 0 0 0 0 0 0 _ 0 0 0 0 0 0 0 0 0 3 (bs := ([] : List UInt8)) RdSX.nil (by first | omega | exact Nat.zero_le _) (k := 0) (x := (1, 2, 1, 0, 0, 0, 0, 0, 0, 0, 0, 0, 0, none, 0, ([] : List UInt8))) rfl (fnd_yes rfl rfl) (fun i y h => absurd h (Nat.not_lt_zero _)) rfl (by exact Nat.le_of_ble_eq_true rfl)) ?_
  clear hA hS; rintro _ w33 a ⟨L34, E36, A37, c38, hM35, hE39, rfl, hS⟩ hA
  have dd40 := set_mem_dd (k := 0) (x := (1, 2, 2, 0, 0, 0, 0, 0, 0, 0, 0, 0, 3, A37, c38, ([] : List UInt8))) dd29 (hE39.right)
  have bd41 := sbd.set (k := 0) (x := (1, 2, 2, 0, 0, 0, 0, 0, 0, 0, 0, 0, 3, A37, c38, ([] : List UInt8))) bd18 (by first | omega | exact Nat.zero_le _)
  have hM42 : SR b1 ([(1, 2, 2, 0, 0, 0, 0, 0, 0, 0, 0, 0, 3, A37, c38, ([] : List UInt8))]) L34 := hM35
  have dd43 : ∀ x ∈ ([(1, 2, 2, 0, 0, 0, 0, 0, 0, 0, 0, 0, 3, A37, c38, ([] : List UInt8))] : List Ent), encEntry_dd w0 (E36 ++ (E25 ++ [])) x := dd40
  have bd44 : sbd ([(1, 2, 2, 0, 0, 0, 0, 0, 0, 0, 0, 0, 3, A37, c38, ([] : List UInt8))]) := bd41
  refine st_run tbOk 1 hA (e' := (10, .bool true) :: _) rfl ?_; clear hA; intro a hA
  refine wpList_nil ?_
  replace hA := hA.sel [1, 2, 3, 4, 7, 10] (e' := [(1, .pointer (some ⟨b1, 0, none⟩)), (2, .pointer (some ⟨b5, 0, none⟩)), (3, .pointer (some ⟨b7, 0, none⟩)), (4, .int .i64 0), (7, .int .i64 1), (10, .bool true)]) rfl
  refine xt_norm ?_
  refine wp_seq ?_
  refine wp_region_lit ?_
  refine st_run tbOk 1 hA (e' := (37, .pointer (some ⟨b1, 0, none⟩)) :: _) rfl ?_; clear hA; intro a hA
  refine st_val hA rfl rfl (by decide) (rn_loadA tbOk hA [.int .u64 0, .int .u64 1, .int .u32 2, .int .u16 0, .int .u16 0, .int .u64 0, .int .u32 0, .int .u8 0, .int .u64 0, .int .u64 0, .slice none 0 0] rfl rfl rfl rfl rfl (cells_row (hS.heapAt 5 rfl) rfl)) ?_; clear hA; intro a hA
  replace hS := hS.front 1 (C := (E36 ++ (E25 ++ []))) (L' := L34 :: [(b30, rowO [.int .u64 0, .int .u64 0, .int .u32 0, .int .u16 0, .int .u16 0, .int .u64 0, .int .u32 0, .int .u8 0, .int .u64 0, .int .u64 0, .slice A26 0 c27] 36)] :: [(b19, rowO [.int .u64 0, .int .u64 0, .int .u32 0, .int .u16 0, .int .u16 0, .int .u64 0, .int .u32 0, .int .u8 0, .int .u64 0, .int .u64 0, .slice none 0 0] 36)] :: [(b7, rowO [.int .u64 0, .int .u64 0, .int .u32 0, .int .u16 0, .int .u16 0, .int .u64 0, .int .u32 0, .int .u8 0, .int .u64 0, .int .u64 3, .slice none 0 0] 36)] :: [(b5, rowO [.int .u64 0, .int .u64 1, .int .u32 2, .int .u16 0, .int .u16 0, .int .u64 0, .int .u32 0, .int .u8 0, .int .u64 0, .int .u64 0, .slice none 0 0] 36)] :: F) rfl rfl
  replace hS := hS.front 1 (C := L34) (L' := (E36 ++ (E25 ++ [])) :: [(b30, rowO [.int .u64 0, .int .u64 0, .int .u32 0, .int .u16 0, .int .u16 0, .int .u64 0, .int .u32 0, .int .u8 0, .int .u64 0, .int .u64 0, .slice A26 0 c27] 36)] :: [(b19, rowO [.int .u64 0, .int .u64 0, .int .u32 0, .int .u16 0, .int .u16 0, .int .u64 0, .int .u32 0, .int .u8 0, .int .u64 0, .int .u64 0, .slice none 0 0] 36)] :: [(b7, rowO [.int .u64 0, .int .u64 0, .int .u32 0, .int .u16 0, .int .u16 0, .int .u64 0, .int .u32 0, .int .u8 0, .int .u64 0, .int .u64 3, .slice none 0 0] 36)] :: [(b5, rowO [.int .u64 0, .int .u64 1, .int .u32 2, .int .u16 0, .int .u16 0, .int .u64 0, .int .u32 0, .int .u8 0, .int .u64 0, .int .u64 0, .slice none 0 0] 36)] :: F) rfl rfl
  refine st_call0 hA rfl rfl rfl isfn8 rfl rfl (by decide) (take_known8 hS hM42 0 1 2 0 0 0 0 0 0 0 _ (k := 0) (x := (1, 2, 2, 0, 0, 0, 0, 0, 0, 0, 0, 0, 3, A37, c38, ([] : List UInt8))) rfl (fnd_yes rfl rfl) (fun i y h => absurd h (Nat.not_lt_zero _)) dd43 bd44 (by first | omega | exact Nat.le_of_ble_eq_true rfl)) ?_
  clear hA hS; rintro _ w45 a ⟨L46, E48, A49, c50, hM47, hE51, rfl, hS⟩ hA
  have dd52 := encEntry_lefts (E := E48) dd43
  refine st_run tbOk 4 hA (e' := (42, .nilIface) :: (41, .agg #[.int .u64 0, .int .u64 0, .int .u32 0, .int .u16 0, .int .u16 0, .int .u64 0, .int .u32 0, .int .u8 0, .int .u64 0, .int .u64 3, .slice A49 0 c50]) :: (40, .int .i64 2) :: (36, .tuple #[.int .i64 2, .agg #[.int .u64 0, .int .u64 0, .int .u32 0, .int .u16 0, .int .u16 0, .int .u64 0, .int .u32 0, .int .u8 0, .int .u64 0, .int .u64 3, .slice A49 0 c50], .nilIface]) :: _) rfl ?_; clear hA; intro a hA
  refine st_alloc tbOk hA hS [.int .u64 0, .int .u64 0, .int .u32 0, .int .u16 0, .int .u16 0, .int .u64 0, .int .u32 0, .int .u8 0, .int .u64 0, .int .u64 0, .slice none 0 0] rfl rfl rfl rfl rfl (by decide) ?_; clear hA hS; intro b53 w54 a hS hA
  refine st_run tbOk 1 hA (e' := (11, .int .i64 2) :: _) rfl ?_; clear hA; intro a hA
  refine st_store tbOk hA hS [.int .u64 0, .int .u64 0, .int .u32 0, .int .u16 0, .int .u16 0, .int .u64 0, .int .u32 0, .int .u8 0, .int .u64 0, .int .u64 3, .slice A49 0 c50] [.int .u64 0, .int .u64 0, .int .u32 0, .int .u16 0, .int .u16 0, .int .u64 0, .int .u32 0, .int .u8 0, .int .u64 0, .int .u64 3, .slice A49 0 c50] rfl rfl rfl rfl rfl rfl (by simp [Value.oneCell']) (Nat.le_of_ble_eq_true rfl) rfl rfl rfl ?_; clear hS; intro w55 hS
  refine st_run tbOk 1 hA (e' := (13, .nilIface) :: _) rfl ?_; clear hA; intro a hA
  refine wpList_nil ?_
  replace hA := hA.sel [1, 2, 3, 4, 7, 10, 11, 12, 13] (e' := [(1, .pointer (some ⟨b1, 0, none⟩)), (2, .pointer (some ⟨b5, 0, none⟩)), (3, .pointer (some ⟨b7, 0, none⟩)), (4, .int .i64 0), (7, .int .i64 1), (10, .bool true), (11, .int .i64 2), (12, .pointer (some ⟨b53, 0, none⟩)), (13, .nilIface)]) rfl
  refine xt_norm ?_
  refine wp_seq ?_
  refine wp_region_lit ?_
  refine st_run tbOk 15 hA (e' := (57, .pointer (some ⟨b53, 9, none⟩)) :: (56, .bool true) :: (55, .bool true) :: (54, .bool true) :: (53, .int .i64 2) :: (52, .bool true) :: (51, .bool true) :: (50, .bool true) :: (49, .bool true) :: (48, .bool true) :: (47, .bool true) :: (46, .int .i64 1) :: (45, .bool true) :: (44, .bool true) :: (43, .int .i64 0) :: _) rfl ?_; clear hA; intro a hA
  refine st_val hA rfl rfl (by decide) (rn_load tbOk hA rfl rfl rfl rfl (cell_row (hS.heapAt 0 rfl) rfl)) ?_; clear hA; intro a hA
  refine st_run tbOk 8 hA (e' := (66, .pointer (some ⟨b1, 0, none⟩)) :: (65, .bool true) :: (64, .bool true) :: (63, .bool true) :: (62, .nilIface) :: (61, .bool true) :: (60, .bool true) :: (59, .bool true) :: _) rfl ?_; clear hA; intro a hA
  refine st_val hA rfl rfl (by decide) (rn_loadA tbOk hA [.int .u64 0, .int .u64 1, .int .u32 2, .int .u16 0, .int .u16 0, .int .u64 0, .int .u32 0, .int .u8 0, .int .u64 0, .int .u64 0, .slice none 0 0] rfl rfl rfl rfl rfl (cells_row (hS.heapAt 6 rfl) rfl)) ?_; clear hA; intro a hA
  refine st_val hA rfl rfl (by decide) (rn_loadA tbOk hA [.int .u64 0, .int .u64 0, .int .u32 0, .int .u16 0, .int .u16 0, .int .u64 0, .int .u32 0, .int .u8 0, .int .u64 0, .int .u64 3, .slice none 0 0] rfl rfl rfl rfl rfl (cells_row (hS.heapAt 5 rfl) rfl)) ?_; clear hA; intro a hA
  replace hS := hS.front 2 (C := (E48 ++ (E36 ++ (E25 ++ [])))) (L' := [(b53, rowO [.int .u64 0, .int .u64 0, .int .u32 0, .int .u16 0, .int .u16 0, .int .u64 0, .int .u32 0, .int .u8 0, .int .u64 0, .int .u64 3, .slice A49 0 c50] 36)] :: L46 :: [(b30, rowO [.int .u64 0, .int .u64 0, .int .u32 0, .int .u16 0, .int .u16 0, .int .u64 0, .int .u32 0, .int .u8 0, .int .u64 0, .int .u64 0, .slice A26 0 c27] 36)] :: [(b19, rowO [.int .u64 0, .int .u64 0, .int .u32 0, .int .u16 0, .int .u16 0, .int .u64 0, .int .u32 0, .int .u8 0, .int .u64 0, .int .u64 0, .slice none 0 0] 36)] :: [(b7, rowO [.int .u64 0, .int .u64 0, .int .u32 0, .int .u16 0, .int .u16 0, .int .u64 0, .int .u32 0, .int .u8 0, .int .u64 0, .int .u64 3, .slice none 0 0] 36)] :: [(b5, rowO [.int .u64 0, .int .u64 1, .int .u32 2, .int .u16 0, .int .u16 0, .int .u64 0, .int .u32 0, .int .u8 0, .int .u64 0, .int .u64 0, .slice none 0 0] 36)] :: F) rfl rfl
  replace hS := hS.front 2 (C := L46) (L' := (E48 ++ (E36 ++ (E25 ++ []))) :: [(b53, rowO [.int .u64 0, .int .u64 0, .int .u32 0, .int .u16 0, .int .u16 0, .int .u64 0, .int .u32 0, .int .u8 0, .int .u64 0, .int .u64 3, .slice A49 0 c50] 36)] :: [(b30, rowO [.int .u64 0, .int .u64 0, .int .u32 0, .int .u16 0, .int .u16 0, .int .u64 0, .int .u32 0, .int .u8 0, .int .u64 0, .int .u64 0, .slice A26 0 c27] 36)] :: [(b19, rowO [.int .u64 0, .int .u64 0, .int .u32 0, .int .u16 0, .int .u16 0, .int .u64 0, .int .u32 0, .int .u8 0, .int .u64 0, .int .u64 0, .slice none 0 0] 36)] :: [(b7, rowO [.int .u64 0, .int .u64 0, .int .u32 0, .int .u16 0, .int .u16 0, .int .u64 0, .int .u32 0, .int .u8 0, .int .u64 0, .int .u64 3, .slice none 0 0] 36)] :: [(b5, rowO [.int .u64 0, .int .u64 1, .int .u32 2, .int .u16 0, .int .u16 0, .int .u64 0, .int .u32 0, .int .u8 0, .int .u64 0, .int .u64 0, .slice none 0 0] 36)] :: F) rfl rfl
  refine st_call0 hA rfl rfl rfl isfn6 rfl rfl (by decide) (reply_state6 hS hM47 0 1 2 0 0 0 0 0 0 0 _ 0 0 0 0 0 0 0 0 0 3 _ (k := 0) (x := (1, 2, 2, 0, 0, 0, 0, 0, 0, 0, 0, 0, 3, A37, c38, ([] : List UInt8))) rfl (fnd_yes rfl rfl) (fun i y h => absurd h (Nat.not_lt_zero _)) (by show ¬ (2 : Int) = 1; decide) (by exact Nat.le_of_ble_eq_true rfl)) ?_
  clear hA hS; rintro _ w56 a ⟨L57, hM58, rfl, hS⟩ hA
  refine st_run tbOk 3 hA (e' := (0, .bool true) :: (71, .bool true) :: (70, .bool true) :: _) rfl ?_; clear hA; intro a hA
  refine wpList_nil ?_
  replace hA := hA.sel [0] (e' := [(0, .bool true)]) rfl
  refine xt_norm ?_
  refine wp_ret ?_
  refine ret1 (fn := Tryd.f5) hA rfl rfl ?_
  replace hS := hS.drop1
  replace hS := hS.drop1
  replace hS := hS.drop1
  replace hS := hS.drop1
  replace hS := hS.drop1
  replace hS := hS.drop1
  replace hS := hS.drop1
  exact ⟨rfl, hS⟩

theorem upd_setCell {w : World} {b : Nat} {x v : Value} {T : TypeId} (hb : w.heap[b]? = some (rowO [x] T)) : Upd w (w.setCell ⟨b, 0, none⟩ v) b (rowO [v] T) := by
  refine ⟨rfl, rfl, rfl, by simp [World.setCell], ?_, fun k _ hk => RowKit.Below.heap_setCell w _ _ k hk⟩
  simp only [World.setCell, Array.getElem?_modify, if_true, hb]
  rfl
/-- What the listed variable holds, in the world that the law begins in. -/
def HG (w : World) : Prop := w.cell? ⟨0, 0, none⟩ = some (.iface 75 (.agg #[.pointer (some ⟨1, 45, none⟩)]))
theorem asHit {w0 w : World} {F : List Chunk} {b : Nat} {x : Value} (hS : St w0 w ([(b, rowO [x] 48)] :: F)) (hg : HG w0) (n : Int) :
    Ret Tryd.prog 17 #[.iface 48 (.int .i64 n), .iface 61 (.pointer (some ⟨b, 0, none⟩))] w (fun v w' => v = .bool true ∧ St w0 w' ([(b, rowO [.int .i64 n] 48)] :: F)) := by
  have hb := hS.heapAt 0 rfl
  refine Calls.mono (as_hit n ⟨b, 0, none⟩ x w (hS.old hg) (cell_row hb rfl) (by simp [World.frozen?, hb, rowO])) fun e w' ⟨he, hw⟩ => ⟨_, he, rfl, ?_⟩
  subst hw
  have h4 := (((hS.alloc (.cells #[.pointer (some ⟨b, 0, none⟩)] 61)).alloc (.cells #[.pointer (some ⟨1, 61, none⟩), .pointer (some ⟨w.heap.size, 0, none⟩), .int .u64 150] 65)).alloc (.cells #[.pointer (some ⟨1, 61, none⟩), .pointer (some ⟨w.heap.size, 0, none⟩), .int .u64 150] 65)).alloc (.cells #[.int .i64 n] 48)
  have h5 := h4.drop1.drop1.drop1.drop1
  exact h5.upd (upd_setCell (h5.heapAt 0 rfl))
theorem asNil {w0 w : World} {F : List Chunk} (hS : St w0 w F) (t : Value) :
    Ret Tryd.prog 17 #[.nilIface, t] w (fun v w' => v = .bool false ∧ St w0 w' F) :=
  Calls.mono (as_nil t w) fun e w' ⟨he, hw⟩ => ⟨_, he, rfl, hw ▸ hS⟩

theorem number_hit10 {w0 w : World} {F : List Chunk} (hS : St w0 w F) (hg : HG w0) (n : Int) :
    Ret Tryd.prog 10 #[.iface 48 (.int .i64 n)] w (fun v w' => v = .int .i64 n ∧ St w0 w' F) := by
  refine enter (vs := [.iface 48 (.int .i64 n)]) 8 Tryd.func10 rfl rfl (by simp) ?_; intro a hA
  refine wp_seq ?_
  refine wp_region_lit ?_
  refine st_run tbOk 1 hA (e' := (2, .int .i64 0) :: _) rfl ?_; clear hA; intro a hA
  refine wpList_nil ?_
  replace hA := hA.sel [0] (e' := [(0, .iface 48 (.int .i64 n))]) rfl
  refine xt_norm ?_
  refine wp_seq ?_
  refine wp_region_lit ?_
  refine st_alloc tbOk hA hS [.int .i64 0] rfl rfl rfl rfl rfl (by decide) ?_; clear hA hS; intro b1 w2 a hS hA
  refine wpList_nil ?_
  refine xt_norm ?_
  refine wp_seq ?_
  refine wp_seq ?_
  refine wp_region_lit ?_
  refine st_run tbOk 2 hA (e' := (5, .iface 61 (.pointer (some ⟨b1, 0, none⟩))) :: (4, .iface 48 (.int .i64 n)) :: _) rfl ?_; clear hA; intro a hA
  refine st_call0 hA rfl rfl rfl isfn17 rfl rfl (by decide) (asHit hS hg n) ?_
  clear hA hS; rintro v w3 a ⟨rfl, hS⟩ hA
  refine wpList_nil ?_
  replace hA := hA.sel [3, 6] (e' := [(3, .pointer (some ⟨b1, 0, none⟩)), (6, .bool true)]) rfl
  refine xt_norm ?_
  refine cd_cond_t hA rfl ?_
  refine wp_seq ?_
  refine wp_region_lit ?_
  refine st_val hA rfl rfl (by decide) (rn_load tbOk hA rfl rfl rfl rfl (cell_row (hS.heapAt 0 rfl) rfl)) ?_; clear hA; intro a hA
  refine st_run tbOk 1 hA (e' := (2, .int .i64 n) :: _) rfl ?_; clear hA; intro a hA
  refine wpList_nil ?_
  replace hA := hA.sel [2] (e' := [(2, .int .i64 n)]) rfl
  refine xt_norm ?_
  refine wp_ret (xt_ret ?_)
  refine ret1 (fn := Tryd.f10) hA rfl rfl ?_
  replace hS := hS.drop1
  exact ⟨rfl, hS⟩

theorem number_nil10 {w0 w : World} {F : List Chunk} (hS : St w0 w F) (hg : HG w0) :
    Ret Tryd.prog 10 #[.nilIface] w (fun v w' => v = .int .i64 0 ∧ St w0 w' F) := by
  refine enter (vs := [.nilIface]) 8 Tryd.func10 rfl rfl (by simp) ?_; intro a hA
  refine wp_seq ?_
  refine wp_region_lit ?_
  refine st_run tbOk 1 hA (e' := (2, .int .i64 0) :: _) rfl ?_; clear hA; intro a hA
  refine wpList_nil ?_
  replace hA := hA.sel [0] (e' := [(0, .nilIface)]) rfl
  refine xt_norm ?_
  refine wp_seq ?_
  refine wp_region_lit ?_
  refine st_alloc tbOk hA hS [.int .i64 0] rfl rfl rfl rfl rfl (by decide) ?_; clear hA hS; intro b1 w2 a hS hA
  refine wpList_nil ?_
  refine xt_norm ?_
  refine wp_seq ?_
  refine wp_seq ?_
  refine wp_region_lit ?_
  refine st_run tbOk 2 hA (e' := (5, .iface 61 (.pointer (some ⟨b1, 0, none⟩))) :: (4, .nilIface) :: _) rfl ?_; clear hA; intro a hA
  refine st_call0 hA rfl rfl rfl isfn17 rfl rfl (by decide) (asNil hS _) ?_
  clear hA hS; rintro v w3 a ⟨rfl, hS⟩ hA
  refine wpList_nil ?_
  replace hA := hA.sel [3, 6] (e' := [(3, .pointer (some ⟨b1, 0, none⟩)), (6, .bool false)]) rfl
  refine xt_norm ?_
  refine cd_cond_f hA rfl ?_
  refine wp_skip ?_
  refine xt_norm ?_
  refine wp_seq ?_
  refine wp_region_lit ?_
  refine st_run tbOk 1 hA (e' := (2, .int .i64 0) :: _) rfl ?_; clear hA; intro a hA
  refine wpList_nil ?_
  replace hA := hA.sel [2] (e' := [(2, .int .i64 0)]) rfl
  refine xt_norm ?_
  refine wp_ret ?_
  refine ret1 (fn := Tryd.f10) hA rfl rfl ?_
  replace hS := hS.drop1
  exact ⟨rfl, hS⟩

theorem rm_sub {α : Type} (l : List α) (k : Nat) : (l.take k ++ l.drop (k + 1)).Sublist l := by
  have : l.take k ++ l.drop (k + 1) = l.eraseIdx k := (List.eraseIdx_eq_take_drop_succ l k).symm
  rw [this]; exact List.eraseIdx_sublist l k
theorem first_of {α : Type} (p : α → Prop) [DecidablePred p] (l : List α) : (∀ (i : Nat) (y : α), l[i]? = some y → ¬ p y) ∨ ∃ (k : Nat) (x : α), l[k]? = some x ∧ p x ∧ ∀ (i : Nat) (y : α), i < k → l[i]? = some y → ¬ p y := by
  rcases idx_cases (fun y => decide (p y)) l with ⟨_, h⟩ | ⟨k, x, _, hx, hp, hb⟩
  · exact .inl (fun i y hy => of_decide_eq_false (h i y hy))
  · exact .inr ⟨k, x, hx, of_decide_eq_true hp, fun i y hi hy => of_decide_eq_false (hb i y hi hy)⟩
/-- What a loop from the end has found ahead of place j. -/
def fnd2 {α : Type} (p : α → Prop) (l : List α) (j : Nat) (av : Int) : Prop := (av = -1 ∧ ∀ (i : Nat) (y : α), j ≤ i → l[i]? = some y → ¬ p y) ∨ ∃ n : Nat, av = ((n : Nat) : Int) ∧ j ≤ n ∧ (∃ y, l[n]? = some y ∧ p y) ∧ ∀ (i : Nat) (y : α), j ≤ i → i < n → l[i]? = some y → ¬ p y
theorem fnd2.init {α : Type} {p : α → Prop} {l : List α} : fnd2 p l l.length (-1) := .inl ⟨rfl, fun i y hi hy => by have := (List.getElem?_eq_some_iff.1 hy).1; omega⟩
theorem fnd2.yes {α : Type} {p : α → Prop} {l : List α} {j : Nat} {y : α} (hy : l[j]? = some y) (hp : p y) : fnd2 p l j ((j : Nat) : Int) := .inr ⟨j, rfl, Nat.le_refl _, ⟨y, hy, hp⟩, fun i z h1 h2 => by omega⟩
theorem fnd2.no {α : Type} {p : α → Prop} {l : List α} {j : Nat} {av : Int} {y : α} (h : fnd2 p l (j + 1) av) (hy : l[j]? = some y) (hp : ¬ p y) : fnd2 p l j av := by
  have key : ∀ (i : Nat) (z : α), j ≤ i → l[i]? = some z → (j + 1 ≤ i → ¬ p z) → ¬ p z := fun i z hi hz hh => by
    by_cases e : i = j
    · subst e; rw [hy] at hz; injection hz with hz; subst hz; exact hp
    · exact hh (by omega)
  rcases h with ⟨h1, h2⟩ | ⟨n, h1, h2, h3, h4⟩
  · exact .inl ⟨h1, fun i z hi hz => key i z hi hz (fun hh => h2 i z hh hz)⟩
  · exact .inr ⟨n, h1, by omega, h3, fun i z hi hin hz => key i z hi hz (fun hh => h4 i z hh hin hz)⟩
theorem fnd2.none {α : Type} {p : α → Prop} {l : List α} {av : Int} (h : fnd2 p l 0 av) (hn : ∀ (i : Nat) (y : α), l[i]? = some y → ¬ p y) : av = -1 := by
  rcases h with ⟨h1, _⟩ | ⟨n, h1, h2, ⟨y, hy, hp⟩, h4⟩
  · exact h1
  · exact absurd hp (hn n y hy)
theorem fnd2.some {α : Type} {p : α → Prop} {l : List α} {av : Int} {k : Nat} {x : α} (h : fnd2 p l 0 av) (hx : l[k]? = some x) (hp : p x) (hb : ∀ (i : Nat) (y : α), i < k → l[i]? = some y → ¬ p y) : av = ((k : Nat) : Int) := by
  rcases h with ⟨h1, h2⟩ | ⟨n, h1, h2, ⟨y, hy, hq⟩, h4⟩
  · exact absurd hp (h2 k x (Nat.zero_le _) hx)
  · rcases Nat.lt_trichotomy n k with h | h | h
    · exact absurd hq (hb n y h hy)
    · rw [h1, h]
    · exact absurd hp (h4 k x (Nat.zero_le _) h hx)

abbrev LEnt := Int × Bool × Int × Int × Int × Int × Int × Int × Int × Int × Int × Int × Option Addr × Nat × List UInt8
def edat (x : Ent) : List UInt8 := x.2.2.2.2.2.2.2.2.2.2.2.2.2.2.2
def ldat (y : LEnt) : List UInt8 := y.2.2.2.2.2.2.2.2.2.2.2.2.2.2
abbrev View := Int × Int × Int × Int × Int × Int × Int × Int × Int × Int × Int × Int × Int × List UInt8
def eview (x : Ent) : View := (x.1, x.2.1, x.2.2.1, x.2.2.2.1, x.2.2.2.2.1, x.2.2.2.2.2.1, x.2.2.2.2.2.2.1, x.2.2.2.2.2.2.2.1, x.2.2.2.2.2.2.2.2.1, x.2.2.2.2.2.2.2.2.2.1, x.2.2.2.2.2.2.2.2.2.2.1, x.2.2.2.2.2.2.2.2.2.2.2.1, x.2.2.2.2.2.2.2.2.2.2.2.2.1, edat x)
def rview (y : LEnt) : View := (y.1 % 2, y.1 / 2, (if y.2.1 = true then 2 else 1), y.2.2.1, y.2.2.2.1, y.2.2.2.2.1, y.2.2.2.2.2.1, y.2.2.2.2.2.2.1, y.2.2.2.2.2.2.2.1, y.2.2.2.2.2.2.2.2.1, y.2.2.2.2.2.2.2.2.2.1, y.2.2.2.2.2.2.2.2.2.2.1, y.2.2.2.2.2.2.2.2.2.2.2.1, ldat y)
structure SI (es : List Ent) (rs : List LEnt) : Prop where
  eq : es.map eview = rs.map rview
  nd : (rs.map (fun y => y.1)).Nodup
  rg : ∀ y ∈ rs, 0 ≤ y.1 ∧ y.1 < 48
  ln : rs.length ≤ 32
theorem SI.nil : SI [] [] := ⟨rfl, by simp, by simp, by simp⟩
theorem SI.len {es : List Ent} {rs : List LEnt} (h : SI es rs) : es.length = rs.length := by
  have := congrArg List.length h.eq; simpa using this
theorem SI.at_ {es : List Ent} {rs : List LEnt} (h : SI es rs) {k : Nat} {x : Ent} {y : LEnt} (hx : es[k]? = some x) (hy : rs[k]? = some y) : eview x = rview y := by
  have h1 : (es.map eview)[k]? = some (eview x) := by rw [List.getElem?_map, hx]; rfl
  have h2 : (rs.map rview)[k]? = some (rview y) := by rw [List.getElem?_map, hy]; rfl
  rw [h.eq, h2] at h1
  exact (Option.some.inj h1).symm
theorem SI.fnd {es : List Ent} {rs : List LEnt} (h : SI es rs) {w : Int} (h0 : 0 ≤ w) (h1 : w < 48) {k : Nat} {x : Ent} {y : LEnt} (hx : es[k]? = some x) (hy : rs[k]? = some y) : fnd (w % 2) (w / 2) x = true ↔ y.1 = w := by
  have e := h.at_ hx hy
  have r := h.rg y (List.mem_of_getElem? hy)
  have e1 : x.1 = y.1 % 2 := congrArg (fun z : View => z.1) e
  have e2 : x.2.1 = y.1 / 2 := congrArg (fun z : View => z.2.1) e
  constructor
  · intro hf
    simp [Go.Proofs.YtljcllaploopaaaDoor.fnd] at hf
    omega
  · intro hf
    exact fnd_yes (by omega) (by omega)
theorem SI.miss {es : List Ent} {rs : List LEnt} (h : SI es rs) {w : Int} (h0 : 0 ≤ w) (h1 : w < 48) (hn : ∀ (i : Nat) (y : LEnt), rs[i]? = some y → ¬ y.1 = w) : ∀ (i : Nat) (x : Ent), es[i]? = some x → Go.Proofs.YtljcllaploopaaaDoor.fnd (w % 2) (w / 2) x = false := fun i x hx => by
  have hl := h.len
  have hi := (List.getElem?_eq_some_iff.1 hx).1
  obtain ⟨y, hy⟩ := get_ex (l := rs) (k := i) (by omega)
  rw [Bool.eq_false_iff]
  exact fun hf => hn i y hy ((h.fnd h0 h1 hx hy).1 hf)
theorem SI.hit {es : List Ent} {rs : List LEnt} (h : SI es rs) {w : Int} (h0 : 0 ≤ w) (h1 : w < 48) {k : Nat} {y : LEnt} (hy : rs[k]? = some y) (hp : y.1 = w) (hb : ∀ (i : Nat) (y : LEnt), i < k → rs[i]? = some y → ¬ y.1 = w) : ∃ x, es[k]? = some x ∧ eview x = rview y ∧ Go.Proofs.YtljcllaploopaaaDoor.fnd (w % 2) (w / 2) x = true ∧ ∀ (i : Nat) (x : Ent), i < k → es[i]? = some x → Go.Proofs.YtljcllaploopaaaDoor.fnd (w % 2) (w / 2) x = false := by
  have hl := h.len
  have hk := (List.getElem?_eq_some_iff.1 hy).1
  obtain ⟨x, hx⟩ := get_ex (l := es) (k := k) (by omega)
  refine ⟨x, hx, h.at_ hx hy, (h.fnd h0 h1 hx hy).2 hp, fun i z hi hz => ?_⟩
  have hzi := (List.getElem?_eq_some_iff.1 hz).1
  obtain ⟨z2, hz2⟩ := get_ex (l := rs) (k := i) (by omega)
  rw [Bool.eq_false_iff]
  exact fun hf => hb i z2 hi hz2 ((h.fnd h0 h1 hz hz2).1 hf)
theorem SI.agn {es : List Ent} {rs : List LEnt} (h : SI es rs) {k : Nat} {x : Ent} {y : LEnt} (hx : es[k]? = some x) (hy : rs[k]? = some y) : Go.Proofs.YtljcllaploopaaaDoor.agn x = true ↔ y.2.1 = true := by
  have e2 : x.2.2.1 = (if y.2.1 = true then 2 else 1) := congrArg (fun z : View => z.2.2.1) (h.at_ hx hy)
  simp only [Go.Proofs.YtljcllaploopaaaDoor.agn, beq_iff_eq]
  rw [e2]
  split <;> simp_all
theorem SI.nagn {es : List Ent} {rs : List LEnt} (h : SI es rs) (hn : ∀ (i : Nat) (y : LEnt), rs[i]? = some y → ¬ y.2.1 = true) : ∀ (i : Nat) (x : Ent), es[i]? = some x → Go.Proofs.YtljcllaploopaaaDoor.agn x = false := fun i x hx => by
  have hl := h.len
  have hi := (List.getElem?_eq_some_iff.1 hx).1
  obtain ⟨y, hy⟩ := get_ex (l := rs) (k := i) (by omega)
  rw [Bool.eq_false_iff]
  exact fun hf => hn i y hy ((h.agn hx hy).1 hf)
theorem SI.yagn {es : List Ent} {rs : List LEnt} (h : SI es rs) {k : Nat} {y : LEnt} (hy : rs[k]? = some y) (hp : y.2.1 = true) (hb : ∀ (i : Nat) (y : LEnt), i < k → rs[i]? = some y → ¬ y.2.1 = true) : ∃ x, es[k]? = some x ∧ Go.Proofs.YtljcllaploopaaaDoor.agn x = true ∧ ∀ (i : Nat) (x : Ent), i < k → es[i]? = some x → Go.Proofs.YtljcllaploopaaaDoor.agn x = false := by
  have hl := h.len
  have hk := (List.getElem?_eq_some_iff.1 hy).1
  obtain ⟨x, hx⟩ := get_ex (l := es) (k := k) (by omega)
  refine ⟨x, hx, (h.agn hx hy).2 hp, fun i z hi hz => ?_⟩
  have hzi := (List.getElem?_eq_some_iff.1 hz).1
  obtain ⟨z2, hz2⟩ := get_ex (l := rs) (k := i) (by omega)
  rw [Bool.eq_false_iff]
  exact fun hf => hb i z2 hi hz2 ((h.agn hz hz2).1 hf)
theorem SI.uniq {es : List Ent} {rs : List LEnt} (h : SI es rs) {i k : Nat} {x y : LEnt} (hx : rs[i]? = some x) (hy : rs[k]? = some y) (e : x.1 = y.1) : i = k := by
  have hi := (List.getElem?_eq_some_iff.1 hx).1
  have e1 : (rs.map (fun y => y.1))[i]? = (rs.map (fun y => y.1))[k]? := by rw [List.getElem?_map, List.getElem?_map, hx, hy]; simp [e]
  exact (List.getElem?_inj (by simpa using hi) h.nd).1 e1
theorem SI.set {es : List Ent} {rs : List LEnt} (h : SI es rs) {k : Nat} {x : Ent} {y y0 : LEnt} (hxy : eview x = rview y) (hy : rs[k]? = some y0) (hw : y.1 = y0.1) : SI (es.set k x) (rs.set k y) := by
  have hm : (rs.set k y).map (fun y => y.1) = rs.map (fun y => y.1) := by
    rw [List.map_set, hw]
    apply List.ext_getElem?
    intro i
    rw [List.getElem?_set]
    split
    · rename_i e; subst e
      split
      · rw [List.getElem?_map, hy]; rfl
      · rename_i hlt; rw [List.getElem?_map, hy]; exact absurd (by simpa using (List.getElem?_eq_some_iff.1 hy).1) hlt
    · rfl
  refine ⟨by rw [List.map_set, List.map_set, h.eq, hxy], by rw [hm]; exact h.nd, fun z hz => ?_, by rw [List.length_set]; exact h.ln⟩
  rcases List.mem_or_eq_of_mem_set hz with hz | rfl
  · exact h.rg z hz
  · rw [hw]; exact h.rg y0 (List.mem_of_getElem? hy)
theorem SI.add {es : List Ent} {rs : List LEnt} (h : SI es rs) {x : Ent} {y : LEnt} (hxy : eview x = rview y) (hn : ∀ (i : Nat) (z : LEnt), rs[i]? = some z → ¬ z.1 = y.1) (h0 : 0 ≤ y.1) (h1 : y.1 < 48) (hl : rs.length < 32) : SI (es ++ [x]) (rs ++ [y]) := by
  refine ⟨by rw [List.map_append, List.map_append, h.eq]; simp [hxy], ?_, fun z hz => ?_, by simp; omega⟩
  · rw [List.map_append, List.nodup_append]
    refine ⟨h.nd, by simp, fun a ha b hb => ?_⟩
    obtain ⟨z, hz, rfl⟩ := List.mem_map.1 ha
    simp at hb; subst hb
    obtain ⟨i, hi⟩ := List.mem_iff_getElem?.1 hz
    exact hn i z hi
  · rcases List.mem_append.1 hz with hz | hz
    · exact h.rg z hz
    · rw [List.mem_singleton.1 hz]; exact ⟨h0, h1⟩
theorem SI.del {es : List Ent} {rs : List LEnt} (h : SI es rs) (k : Nat) : SI (es.take k ++ es.drop (k + 1)) (rs.take k ++ rs.drop (k + 1)) :=
  ⟨by rw [List.map_append, List.map_append, List.map_take, List.map_drop, List.map_take, List.map_drop, h.eq], ((rm_sub rs k).map _).nodup h.nd, fun x hx => h.rg x ((rm_sub rs k).subset hx), Nat.le_trans (rm_sub rs k).length_le h.ln⟩
theorem no_sub {rs : List LEnt} {w : Int} (hn : ∀ (i : Nat) (z : LEnt), rs[i]? = some z → ¬ z.1 = w) (k : Nat) : ∀ (i : Nat) (z : LEnt), (rs.take k ++ rs.drop (k + 1))[i]? = some z → ¬ z.1 = w := fun i z hz => by
  obtain ⟨j, hj⟩ := List.mem_iff_getElem?.1 ((rm_sub rs k).subset (List.mem_of_getElem? hz))
  exact hn j z hj
def fnd3 {α : Type} (p : α → Prop) (l : List α) (j : Nat) (av : Int) : Prop := (av = -1 ∧ ∀ (i : Nat) (y : α), i < j → l[i]? = some y → ¬ p y) ∨ ∃ n : Nat, av = ((n : Nat) : Int) ∧ n < j ∧ ∃ y, l[n]? = some y ∧ p y
theorem fnd3.init {α : Type} {p : α → Prop} {l : List α} : fnd3 p l 0 (-1) := .inl ⟨rfl, fun i y hi => by omega⟩
theorem fnd3.yes {α : Type} {p : α → Prop} {l : List α} {j : Nat} {y : α} (hy : l[j]? = some y) (hp : p y) : fnd3 p l (j + 1) ((j : Nat) : Int) := .inr ⟨j, rfl, by omega, y, hy, hp⟩
theorem fnd3.no {α : Type} {p : α → Prop} {l : List α} {j : Nat} {av : Int} {y : α} (h : fnd3 p l j av) (hy : l[j]? = some y) (hp : ¬ p y) : fnd3 p l (j + 1) av := by
  rcases h with ⟨h1, h2⟩ | ⟨n, h1, h2, h3⟩
  · refine .inl ⟨h1, fun i z hi hz => ?_⟩
    by_cases e : i = j
    · subst e; rw [hy] at hz; injection hz with hz; subst hz; exact hp
    · exact h2 i z (by omega) hz
  · exact .inr ⟨n, h1, by omega, h3⟩
theorem fnd3.none {α : Type} {p : α → Prop} {l : List α} {j : Nat} {av : Int} (h : fnd3 p l j av) (hn : ∀ (i : Nat) (y : α), l[i]? = some y → ¬ p y) : av = -1 := by
  rcases h with ⟨h1, _⟩ | ⟨n, h1, h2, y, hy, hp⟩
  · exact h1
  · exact absurd hp (hn n y hy)
theorem fnd3.some {α : Type} {p : α → Prop} {l : List α} {av : Int} {k : Nat} {x : α} (h : fnd3 p l l.length av) (hx : l[k]? = some x) (hp : p x) (hu : ∀ (i : Nat) (y : α), l[i]? = some y → p y → i = k) : av = ((k : Nat) : Int) := by
  rcases h with ⟨h1, h2⟩ | ⟨n, h1, h2, y, hy, hq⟩
  · exact absurd hp (h2 k x (List.getElem?_eq_some_iff.1 hx).1 hx)
  · rw [h1, hu n y hy hq]
theorem wdiv2 (x : Int) (h0 : 0 ≤ x) (h1 : x < 256) : IntKind.u8.wrap (x.tdiv 2) = x / 2 := by
  rw [Int.tdiv_eq_ediv_of_nonneg h0]
  have : IntKind.u8.wrap (x / 2) = (x / 2) % 256 := by unfold IntKind.wrap; simp [IntKind.min, IntKind.max, IntKind.bits, IntKind.signed]
  omega
theorem elemp {α : Type} {enc : α → List Value} {size : Nat} {w : World} {m c : Nat} {l : List α} {b off : Nat} (he : Enc enc size) (h : Rd w size (.slice (some ⟨b, off, none⟩) m c) m (rows enc l)) {k : Nat} {x : α} (hx : l[k]? = some x) {j n : Nat} {sub : List Value} (hs : ((enc x).drop j).take n = sub) :
    ∀ i u, sub[i]? = some u → w.cell? ⟨b, off + k * size + j + i, none⟩ = some u := fun i u hu => by
  subst hs
  rw [List.getElem?_take] at hu
  split at hu
  · rw [List.getElem?_drop] at hu
    have := h.elem he hx (j + i) u hu
    rwa [show off + k * size + (j + i) = off + k * size + j + i by omega] at this
  · cases hu
theorem add_dd22 {w0 : World} {rs : List LEnt} {x : LEnt} (h : ∀ x ∈ rs, ∀ D, encLEnt_dd w0 D x) (hx : ∀ D, encLEnt_dd w0 D x) : ∀ y ∈ rs ++ [x], ∀ D, encLEnt_dd w0 D y := fun y hy D => (List.mem_append.1 hy).elim (fun h2 => h y h2 D) (fun h2 => by rw [List.mem_singleton.1 h2]; exact hx D)
theorem set_dd22 {w0 : World} {rs : List LEnt} {k : Nat} {x : LEnt} (h : ∀ x ∈ rs, ∀ D, encLEnt_dd w0 D x) (hx : ∀ D, encLEnt_dd w0 D x) : ∀ y ∈ rs.set k x, ∀ D, encLEnt_dd w0 D y := fun y hy D => by
  rcases List.mem_or_eq_of_mem_set hy with hy | rfl
  · exact h y hy D
  · exact hx D

theorem request7 {w0 w : World} {F : List Chunk} (hS : St w0 w F) (q : Int) (h0 : 0 ≤ q) (h1 : q < 48) :
    Ret Tryd.prog 7 #[.int .u8 q] w (fun v w' => v = .agg #[.int .u64 0, .int .u64 (q % 2), .int .u32 (q / 2), .int .u16 0, .int .u16 0, .int .u64 0, .int .u32 0, .int .u8 0, .int .u64 0, .int .u64 q, .slice none 0 0] ∧ St w0 w' F) := by
  refine enter (vs := [.int .u8 q]) 13 Tryd.func7 rfl rfl (by simp) ?_; intro a hA
  refine wp_seq ?_
  refine wp_region_lit ?_
  refine st_alloc tbOk hA hS [.int .u64 0, .int .u64 0, .int .u32 0, .int .u16 0, .int .u16 0, .int .u64 0, .int .u32 0, .int .u8 0, .int .u64 0, .int .u64 0, .slice none 0 0] rfl rfl rfl rfl rfl (by decide) ?_; clear hA hS; intro b1 w2 a hS hA
  refine wpList_nil ?_
  refine xt_norm ?_
  refine wp_seq ?_
  refine wp_region_lit ?_
  refine st_run tbOk 2 hA (e' := (4, .int .u8 (q.tmod 2)) :: (3, .int .u8 q) :: _) rfl ?_; clear hA; intro a hA
  replace hA := hA.rw 4 (v' := .int .u8 (q % 2)) rfl (vint (Int.tmod_eq_emod_of_nonneg h0))
  refine st_run tbOk 1 hA (e' := (5, .int .u64 (IntKind.u64.wrap (q % 2))) :: _) rfl ?_; clear hA; intro a hA
  replace hA := hA.rw 5 (v' := .int .u64 (q % 2)) rfl (vint (wrap_u64 (by omega) (by omega)))
  refine st_run tbOk 2 hA (e' := (7, .int .u8 (IntKind.u8.wrap (q.tdiv 2))) :: (6, .int .u8 q) :: _) rfl ?_; clear hA; intro a hA
  replace hA := hA.rw 7 (v' := .int .u8 (q / 2)) rfl (vint (wdiv2 q h0 (by omega)))
  refine st_run tbOk 1 hA (e' := (8, .int .u8 ((q / 2).tmod 24)) :: _) rfl ?_; clear hA; intro a hA
  replace hA := hA.rw 8 (v' := .int .u8 (q / 2)) rfl (vint (by rw [Int.tmod_eq_emod_of_nonneg (by omega)]; omega))
  refine st_run tbOk 1 hA (e' := (9, .int .u32 (IntKind.u32.wrap (q / 2))) :: _) rfl ?_; clear hA; intro a hA
  replace hA := hA.rw 9 (v' := .int .u32 (q / 2)) rfl (vint (wrap_u32 (by omega) (by omega)))
  refine st_run tbOk 2 hA (e' := (11, .int .u64 (IntKind.u64.wrap q)) :: (10, .int .u8 q) :: _) rfl ?_; clear hA; intro a hA
  replace hA := hA.rw 11 (v' := .int .u64 q) rfl (vint (wrap_u64 (by omega) (by omega)))
  refine st_run tbOk 1 hA (e' := (12, .agg #[.int .u64 0, .int .u64 (q % 2), .int .u32 (q / 2), .int .u16 0, .int .u16 0, .int .u64 0, .int .u32 0, .int .u8 0, .int .u64 0, .int .u64 q, .slice none 0 0]) :: _) rfl ?_; clear hA; intro a hA
  refine st_store tbOk hA hS [.int .u64 0, .int .u64 (q % 2), .int .u32 (q / 2), .int .u16 0, .int .u16 0, .int .u64 0, .int .u32 0, .int .u8 0, .int .u64 0, .int .u64 q, .slice none 0 0] [.int .u64 0, .int .u64 (q % 2), .int .u32 (q / 2), .int .u16 0, .int .u16 0, .int .u64 0, .int .u32 0, .int .u8 0, .int .u64 0, .int .u64 q, .slice none 0 0] rfl rfl rfl rfl rfl rfl (by simp [Value.oneCell']) (Nat.le_of_ble_eq_true rfl) rfl rfl rfl ?_; clear hS; intro w3 hS
  refine wpList_nil ?_
  replace hA := hA.sel [2] (e' := [(2, .pointer (some ⟨b1, 0, none⟩))]) rfl
  refine xt_norm ?_
  refine wp_ret ?_
  refine retc1 tbOk (fn := Tryd.f7) (cs := [.int .u64 0, .int .u64 (q % 2), .int .u32 (q / 2), .int .u16 0, .int .u16 0, .int .u64 0, .int .u32 0, .int .u8 0, .int .u64 0, .int .u64 q, .slice none 0 0]) hA rfl rfl rfl rfl rfl (cells_row (hS.heapAt 0 rfl) rfl) ?_
  replace hS := hS.drop1
  exact ⟨rfl, hS⟩

section
open Go.ChangeShapes Go.WideShapes Go.RowKit
def encCap (x : Int × Int × Int × Int) : List Value := [.int .u64 x.1, .int .u32 x.2.1, .int .u8 x.2.2.1, .int .u64 x.2.2.2]
theorem encCap_ok : Enc encCap 4 := ⟨fun _ => rfl, fun x u hu => by simp only [encCap, List.mem_cons, List.not_mem_nil, or_false] at hu; rcases hu with rfl | rfl | rfl | rfl <;> rfl⟩
def encCap_dd (w0 : World) (D : Chunk) (x : Int × Int × Int × Int) : Prop := True
theorem encCap_left {w0 : World} {D E : Chunk} {x : Int × Int × Int × Int} (h : encCap_dd w0 D x) : encCap_dd w0 (E ++ D) x := trivial
theorem encCap_lefts {w0 : World} {D E : Chunk} {l : List (Int × Int × Int × Int)} (h : ∀ x ∈ l, encCap_dd w0 D x) : ∀ x ∈ l, encCap_dd w0 (E ++ D) x := fun x hx => encCap_left (h x hx)
def encCap_good (w : World) (x : (Int × Int × Int × Int)) : Prop := (0 ≤ x.1 ∧ x.1 < 18446744073709551616) ∧ (0 ≤ x.2.1 ∧ x.2.1 < 4294967296) ∧ (0 ≤ x.2.2.1 ∧ x.2.2.1 < 256) ∧ (0 ≤ x.2.2.2 ∧ x.2.2.2 < 18446744073709551616)
theorem dec_encCap {H : Type} {enc : TypeId × Value → H} {w : World} {spare : Nat → Bool} {held : Bool} : ∀ n cs x, DataW.trod enc Tryd.prog w 0 spare held n 33 cs = some x → WOk Tryd.prog 33 x.1 → ∃ a, cs = encCap a ∧ encCap_good w a := fun n cs x h hw => by
  obtain ⟨xs, m, _, hx, hl, hxl, hf⟩ := DataW.trod_struct Tryd.underlying33 h
  subst hx
  have hc : Tryd.prog.cellsOf 33 = 4 := by kernel_rfl
  rw [hc] at hl
  obtain ⟨c0, c1, c2, c3, rfl⟩ : ∃ c0 c1 c2 c3, cs = [c0, c1, c2, c3] := by
    match cs, hl with
    | [c0, c1, c2, c3], _ => exact ⟨_, _, _, _, rfl⟩
  obtain ⟨y0, hy0⟩ : ∃ y, xs[0]? = some y := ⟨_, List.getElem?_eq_getElem (by rw [hxl]; decide)⟩
  have h0 : DataW.trod enc Tryd.prog w 0 spare held m 29 (([c0, c1, c2, c3].drop 0).take (Tryd.prog.cellsOf 29)) = xs[0]? := hf 0 _ rfl
  have k0 : Tryd.prog.cellsOf 29 = 1 := by kernel_rfl
  have w0 : WOk Tryd.prog 29 y0.1 := hw.part Tryd.underlying33 (i := 0) rfl (by rw [List.getElem?_map, hy0]; rfl)
  rw [k0, hy0] at h0
  obtain ⟨n0, e0, _, g0⟩ := DataW.trod_int Tryd.underlying29 h0
  simp only [List.drop_succ_cons, List.drop_zero, List.take_succ_cons, List.take_zero] at e0
  injection e0 with e0 _
  obtain ⟨y1, hy1⟩ : ∃ y, xs[1]? = some y := ⟨_, List.getElem?_eq_getElem (by rw [hxl]; decide)⟩
  have h1 : DataW.trod enc Tryd.prog w 0 spare held m 30 (([c0, c1, c2, c3].drop 1).take (Tryd.prog.cellsOf 30)) = xs[1]? := hf 1 _ rfl
  have k1 : Tryd.prog.cellsOf 30 = 1 := by kernel_rfl
  have w1 : WOk Tryd.prog 30 y1.1 := hw.part Tryd.underlying33 (i := 1) rfl (by rw [List.getElem?_map, hy1]; rfl)
  rw [k1, hy1] at h1
  obtain ⟨n1, e1, _, g1⟩ := DataW.trod_int Tryd.underlying30 h1
  simp only [List.drop_succ_cons, List.drop_zero, List.take_succ_cons, List.take_zero] at e1
  injection e1 with e1 _
  obtain ⟨y2, hy2⟩ : ∃ y, xs[2]? = some y := ⟨_, List.getElem?_eq_getElem (by rw [hxl]; decide)⟩
  have h2 : DataW.trod enc Tryd.prog w 0 spare held m 5 (([c0, c1, c2, c3].drop 2).take (Tryd.prog.cellsOf 5)) = xs[2]? := hf 2 _ rfl
  have k2 : Tryd.prog.cellsOf 5 = 1 := by kernel_rfl
  have w2 : WOk Tryd.prog 5 y2.1 := hw.part Tryd.underlying33 (i := 2) rfl (by rw [List.getElem?_map, hy2]; rfl)
  rw [k2, hy2] at h2
  obtain ⟨n2, e2, _, g2⟩ := DataW.trod_int Tryd.underlying5 h2
  simp only [List.drop_succ_cons, List.drop_zero, List.take_succ_cons, List.take_zero] at e2
  injection e2 with e2 _
  obtain ⟨y3, hy3⟩ : ∃ y, xs[3]? = some y := ⟨_, List.getElem?_eq_getElem (by rw [hxl]; decide)⟩
  have h3 : DataW.trod enc Tryd.prog w 0 spare held m 29 (([c0, c1, c2, c3].drop 3).take (Tryd.prog.cellsOf 29)) = xs[3]? := hf 3 _ rfl
  have k3 : Tryd.prog.cellsOf 29 = 1 := by kernel_rfl
  have w3 : WOk Tryd.prog 29 y3.1 := hw.part Tryd.underlying33 (i := 3) rfl (by rw [List.getElem?_map, hy3]; rfl)
  rw [k3, hy3] at h3
  obtain ⟨n3, e3, _, g3⟩ := DataW.trod_int Tryd.underlying29 h3
  simp only [List.drop_succ_cons, List.drop_zero, List.take_succ_cons, List.take_zero] at e3
  injection e3 with e3 _
  subst e0
  subst e1
  subst e2
  subst e3
  exact ⟨(n0, n1, n2, n3), rfl, ⟨wf_u64 g0, wf_u32 g1, wf_u8 g2, wf_u64 g3⟩⟩
def encMessage_good (w : World) (x : (Int × Int × Int × Int × Int × Int × Int × Int × Int × Int × Option Addr × Nat × List UInt8)) : Prop := (0 ≤ x.1 ∧ x.1 < 18446744073709551616) ∧ (0 ≤ x.2.1 ∧ x.2.1 < 18446744073709551616) ∧ (0 ≤ x.2.2.1 ∧ x.2.2.1 < 4294967296) ∧ (0 ≤ x.2.2.2.1 ∧ x.2.2.2.1 < 65536) ∧ (0 ≤ x.2.2.2.2.1 ∧ x.2.2.2.2.1 < 65536) ∧ (0 ≤ x.2.2.2.2.2.1 ∧ x.2.2.2.2.2.1 < 18446744073709551616) ∧ (0 ≤ x.2.2.2.2.2.2.1 ∧ x.2.2.2.2.2.2.1 < 4294967296) ∧ (0 ≤ x.2.2.2.2.2.2.2.1 ∧ x.2.2.2.2.2.2.2.1 < 256) ∧ (0 ≤ x.2.2.2.2.2.2.2.2.1 ∧ x.2.2.2.2.2.2.2.2.1 < 18446744073709551616) ∧ (0 ≤ x.2.2.2.2.2.2.2.2.2.1 ∧ x.2.2.2.2.2.2.2.2.2.1 < 18446744073709551616) ∧ (RdX w 1 (.slice x.2.2.2.2.2.2.2.2.2.2.1 x.2.2.2.2.2.2.2.2.2.2.2.2.length x.2.2.2.2.2.2.2.2.2.2.2.1) x.2.2.2.2.2.2.2.2.2.2.2.2.length (rows encB x.2.2.2.2.2.2.2.2.2.2.2.2) ∧ x.2.2.2.2.2.2.2.2.2.2.2.2.length ≤ 140737488351232)
theorem dec_encMessage {H : Type} {enc : TypeId × Value → H} {w : World} {spare : Nat → Bool} {held : Bool} : ∀ n cs x, DataW.trod enc Tryd.prog w 0 spare held n 36 cs = some x → WOk Tryd.prog 36 x.1 → ∃ a, cs = encMessage a ∧ encMessage_good w a := fun n cs x h hw => by
  obtain ⟨xs, m, _, hx, hl, hxl, hf⟩ := DataW.trod_struct Tryd.underlying36 h
  subst hx
  have hc : Tryd.prog.cellsOf 36 = 11 := by kernel_rfl
  rw [hc] at hl
  obtain ⟨c0, c1, c2, c3, c4, c5, c6, c7, c8, c9, c10, rfl⟩ : ∃ c0 c1 c2 c3 c4 c5 c6 c7 c8 c9 c10, cs = [c0, c1, c2, c3, c4, c5, c6, c7, c8, c9, c10] := by
    match cs, hl with
    | [c0, c1, c2, c3, c4, c5, c6, c7, c8, c9, c10], _ => exact ⟨_, _, _, _, _, _, _, _, _, _, _, rfl⟩
  obtain ⟨y0, hy0⟩ : ∃ y, xs[0]? = some y := ⟨_, List.getElem?_eq_getElem (by rw [hxl]; decide)⟩
  have h0 : DataW.trod enc Tryd.prog w 0 spare held m 29 (([c0, c1, c2, c3, c4, c5, c6, c7, c8, c9, c10].drop 0).take (Tryd.prog.cellsOf 29)) = xs[0]? := hf 0 _ rfl
  have k0 : Tryd.prog.cellsOf 29 = 1 := by kernel_rfl
  have w0 : WOk Tryd.prog 29 y0.1 := hw.part Tryd.underlying36 (i := 0) rfl (by rw [List.getElem?_map, hy0]; rfl)
  rw [k0, hy0] at h0
  obtain ⟨n0, e0, _, g0⟩ := DataW.trod_int Tryd.underlying29 h0
  simp only [List.drop_succ_cons, List.drop_zero, List.take_succ_cons, List.take_zero] at e0
  injection e0 with e0 _
  obtain ⟨y1, hy1⟩ : ∃ y, xs[1]? = some y := ⟨_, List.getElem?_eq_getElem (by rw [hxl]; decide)⟩
  have h1 : DataW.trod enc Tryd.prog w 0 spare held m 29 (([c0, c1, c2, c3, c4, c5, c6, c7, c8, c9, c10].drop 1).take (Tryd.prog.cellsOf 29)) = xs[1]? := hf 1 _ rfl
  have k1 : Tryd.prog.cellsOf 29 = 1 := by kernel_rfl
  have w1 : WOk Tryd.prog 29 y1.1 := hw.part Tryd.underlying36 (i := 1) rfl (by rw [List.getElem?_map, hy1]; rfl)
  rw [k1, hy1] at h1
  obtain ⟨n1, e1, _, g1⟩ := DataW.trod_int Tryd.underlying29 h1
  simp only [List.drop_succ_cons, List.drop_zero, List.take_succ_cons, List.take_zero] at e1
  injection e1 with e1 _
  obtain ⟨y2, hy2⟩ : ∃ y, xs[2]? = some y := ⟨_, List.getElem?_eq_getElem (by rw [hxl]; decide)⟩
  have h2 : DataW.trod enc Tryd.prog w 0 spare held m 30 (([c0, c1, c2, c3, c4, c5, c6, c7, c8, c9, c10].drop 2).take (Tryd.prog.cellsOf 30)) = xs[2]? := hf 2 _ rfl
  have k2 : Tryd.prog.cellsOf 30 = 1 := by kernel_rfl
  have w2 : WOk Tryd.prog 30 y2.1 := hw.part Tryd.underlying36 (i := 2) rfl (by rw [List.getElem?_map, hy2]; rfl)
  rw [k2, hy2] at h2
  obtain ⟨n2, e2, _, g2⟩ := DataW.trod_int Tryd.underlying30 h2
  simp only [List.drop_succ_cons, List.drop_zero, List.take_succ_cons, List.take_zero] at e2
  injection e2 with e2 _
  obtain ⟨y3, hy3⟩ : ∃ y, xs[3]? = some y := ⟨_, List.getElem?_eq_getElem (by rw [hxl]; decide)⟩
  have h3 : DataW.trod enc Tryd.prog w 0 spare held m 31 (([c0, c1, c2, c3, c4, c5, c6, c7, c8, c9, c10].drop 3).take (Tryd.prog.cellsOf 31)) = xs[3]? := hf 3 _ rfl
  have k3 : Tryd.prog.cellsOf 31 = 1 := by kernel_rfl
  have w3 : WOk Tryd.prog 31 y3.1 := hw.part Tryd.underlying36 (i := 3) rfl (by rw [List.getElem?_map, hy3]; rfl)
  rw [k3, hy3] at h3
  obtain ⟨n3, e3, _, g3⟩ := DataW.trod_int Tryd.underlying31 h3
  simp only [List.drop_succ_cons, List.drop_zero, List.take_succ_cons, List.take_zero] at e3
  injection e3 with e3 _
  obtain ⟨y4, hy4⟩ : ∃ y, xs[4]? = some y := ⟨_, List.getElem?_eq_getElem (by rw [hxl]; decide)⟩
  have h4 : DataW.trod enc Tryd.prog w 0 spare held m 31 (([c0, c1, c2, c3, c4, c5, c6, c7, c8, c9, c10].drop 4).take (Tryd.prog.cellsOf 31)) = xs[4]? := hf 4 _ rfl
  have k4 : Tryd.prog.cellsOf 31 = 1 := by kernel_rfl
  have w4 : WOk Tryd.prog 31 y4.1 := hw.part Tryd.underlying36 (i := 4) rfl (by rw [List.getElem?_map, hy4]; rfl)
  rw [k4, hy4] at h4
  obtain ⟨n4, e4, _, g4⟩ := DataW.trod_int Tryd.underlying31 h4
  simp only [List.drop_succ_cons, List.drop_zero, List.take_succ_cons, List.take_zero] at e4
  injection e4 with e4 _
  obtain ⟨y5, hy5⟩ : ∃ y, xs[5]? = some y := ⟨_, List.getElem?_eq_getElem (by rw [hxl]; decide)⟩
  have h5 : DataW.trod enc Tryd.prog w 0 spare held m 33 (([c0, c1, c2, c3, c4, c5, c6, c7, c8, c9, c10].drop 5).take (Tryd.prog.cellsOf 33)) = xs[5]? := hf 5 _ rfl
  have k5 : Tryd.prog.cellsOf 33 = 4 := by kernel_rfl
  have w5 : WOk Tryd.prog 33 y5.1 := hw.part Tryd.underlying36 (i := 5) rfl (by rw [List.getElem?_map, hy5]; rfl)
  rw [k5, hy5] at h5
  obtain ⟨⟨m5_0, m5_1, m5_2, m5_3⟩, e5, g5⟩ := dec_encCap _ _ _ h5 w5
  obtain ⟨g5_0, g5_1, g5_2, g5_3⟩ := g5
  simp only [List.drop_succ_cons, List.drop_zero, List.take_succ_cons, List.take_zero, encCap, List.cons.injEq, and_true] at e5
  obtain ⟨e5_0, e5_1, e5_2, e5_3⟩ := e5
  obtain ⟨y6, hy6⟩ : ∃ y, xs[6]? = some y := ⟨_, List.getElem?_eq_getElem (by rw [hxl]; decide)⟩
  have h6 : DataW.trod enc Tryd.prog w 0 spare held m 29 (([c0, c1, c2, c3, c4, c5, c6, c7, c8, c9, c10].drop 9).take (Tryd.prog.cellsOf 29)) = xs[6]? := hf 6 _ rfl
  have k6 : Tryd.prog.cellsOf 29 = 1 := by kernel_rfl
  have w6 : WOk Tryd.prog 29 y6.1 := hw.part Tryd.underlying36 (i := 6) rfl (by rw [List.getElem?_map, hy6]; rfl)
  rw [k6, hy6] at h6
  obtain ⟨n6, e6, _, g6⟩ := DataW.trod_int Tryd.underlying29 h6
  simp only [List.drop_succ_cons, List.drop_zero, List.take_succ_cons, List.take_zero] at e6
  injection e6 with e6 _
  obtain ⟨y7, hy7⟩ : ∃ y, xs[7]? = some y := ⟨_, List.getElem?_eq_getElem (by rw [hxl]; decide)⟩
  have h7 : DataW.trod enc Tryd.prog w 0 spare held m 34 (([c0, c1, c2, c3, c4, c5, c6, c7, c8, c9, c10].drop 10).take (Tryd.prog.cellsOf 34)) = xs[7]? := hf 7 _ rfl
  have k7 : Tryd.prog.cellsOf 34 = 1 := by kernel_rfl
  have w7 : WOk Tryd.prog 34 y7.1 := hw.part Tryd.underlying36 (i := 7) rfl (by rw [List.getElem?_map, hy7]; rfl)
  rw [k7, hy7] at h7
  obtain ⟨A7, d7, b7, e7, g7⟩ := dec_bytes Tryd.underlying34 Tryd.underlying5 (by kernel_rfl) (by kernel_rfl) _ _ _ h7 w7
  simp only [List.drop_succ_cons, List.drop_zero, List.take_succ_cons, List.take_zero] at e7
  injection e7 with e7 _
  subst e0
  subst e1
  subst e2
  subst e3
  subst e4
  subst e5_0
  subst e5_1
  subst e5_2
  subst e5_3
  subst e6
  subst e7
  exact ⟨(n0, n1, n2, n3, n4, m5_0, m5_1, m5_2, m5_3, n6, A7, d7, b7), rfl, ⟨wf_u64 g0, wf_u64 g1, wf_u32 g2, wf_u16 g3, wf_u16 g4, g5_0, g5_1, g5_2, g5_3, wf_u64 g6, g7⟩⟩
theorem encMessage_gdd {w : World} {D : Chunk} {x : (Int × Int × Int × Int × Int × Int × Int × Int × Int × Int × Option Addr × Nat × List UInt8)} (h : encMessage_good w x) : encMessage_dd w D x := DD.of (h.2.2.2.2.2.2.2.2.2.2).1
def encAct (x : Int × Int × Int × Int × Int × Int × Int × Int × Int × Int × Int × Int × Option Addr × Nat × List UInt8) : List Value := [.int .u8 x.1, .int .u8 x.2.1, .int .u64 x.2.2.1, .int .u64 x.2.2.2.1, .int .u32 x.2.2.2.2.1, .int .u16 x.2.2.2.2.2.1, .int .u16 x.2.2.2.2.2.2.1, .int .u64 x.2.2.2.2.2.2.2.1, .int .u32 x.2.2.2.2.2.2.2.2.1, .int .u8 x.2.2.2.2.2.2.2.2.2.1, .int .u64 x.2.2.2.2.2.2.2.2.2.2.1, .int .u64 x.2.2.2.2.2.2.2.2.2.2.2.1, .slice x.2.2.2.2.2.2.2.2.2.2.2.2.1 x.2.2.2.2.2.2.2.2.2.2.2.2.2.2.length x.2.2.2.2.2.2.2.2.2.2.2.2.2.1]
theorem encAct_ok : Enc encAct 13 := ⟨fun _ => rfl, fun x u hu => by simp only [encAct, List.mem_cons, List.not_mem_nil, or_false] at hu; rcases hu with rfl | rfl | rfl | rfl | rfl | rfl | rfl | rfl | rfl | rfl | rfl | rfl | rfl <;> rfl⟩
def encAct_dd (w0 : World) (D : Chunk) (x : Int × Int × Int × Int × Int × Int × Int × Int × Int × Int × Int × Int × Option Addr × Nat × List UInt8) : Prop := DD w0 D x.2.2.2.2.2.2.2.2.2.2.2.2.1 x.2.2.2.2.2.2.2.2.2.2.2.2.2.1 x.2.2.2.2.2.2.2.2.2.2.2.2.2.2
theorem encAct_left {w0 : World} {D E : Chunk} {x : Int × Int × Int × Int × Int × Int × Int × Int × Int × Int × Int × Int × Option Addr × Nat × List UInt8} (h : encAct_dd w0 D x) : encAct_dd w0 (E ++ D) x := DD.left h
theorem encAct_lefts {w0 : World} {D E : Chunk} {l : List (Int × Int × Int × Int × Int × Int × Int × Int × Int × Int × Int × Int × Option Addr × Nat × List UInt8)} (h : ∀ x ∈ l, encAct_dd w0 D x) : ∀ x ∈ l, encAct_dd w0 (E ++ D) x := fun x hx => encAct_left (h x hx)
def encAct_good (w : World) (x : (Int × Int × Int × Int × Int × Int × Int × Int × Int × Int × Int × Int × Option Addr × Nat × List UInt8)) : Prop := (0 ≤ x.1 ∧ x.1 < 256) ∧ (0 ≤ x.2.1 ∧ x.2.1 < 256) ∧ (0 ≤ x.2.2.1 ∧ x.2.2.1 < 18446744073709551616) ∧ (0 ≤ x.2.2.2.1 ∧ x.2.2.2.1 < 18446744073709551616) ∧ (0 ≤ x.2.2.2.2.1 ∧ x.2.2.2.2.1 < 4294967296) ∧ (0 ≤ x.2.2.2.2.2.1 ∧ x.2.2.2.2.2.1 < 65536) ∧ (0 ≤ x.2.2.2.2.2.2.1 ∧ x.2.2.2.2.2.2.1 < 65536) ∧ (0 ≤ x.2.2.2.2.2.2.2.1 ∧ x.2.2.2.2.2.2.2.1 < 18446744073709551616) ∧ (0 ≤ x.2.2.2.2.2.2.2.2.1 ∧ x.2.2.2.2.2.2.2.2.1 < 4294967296) ∧ (0 ≤ x.2.2.2.2.2.2.2.2.2.1 ∧ x.2.2.2.2.2.2.2.2.2.1 < 256) ∧ (0 ≤ x.2.2.2.2.2.2.2.2.2.2.1 ∧ x.2.2.2.2.2.2.2.2.2.2.1 < 18446744073709551616) ∧ (0 ≤ x.2.2.2.2.2.2.2.2.2.2.2.1 ∧ x.2.2.2.2.2.2.2.2.2.2.2.1 < 18446744073709551616) ∧ (RdX w 1 (.slice x.2.2.2.2.2.2.2.2.2.2.2.2.1 x.2.2.2.2.2.2.2.2.2.2.2.2.2.2.length x.2.2.2.2.2.2.2.2.2.2.2.2.2.1) x.2.2.2.2.2.2.2.2.2.2.2.2.2.2.length (rows encB x.2.2.2.2.2.2.2.2.2.2.2.2.2.2) ∧ x.2.2.2.2.2.2.2.2.2.2.2.2.2.2.length ≤ 140737488351232)
theorem dec_encAct {H : Type} {enc : TypeId × Value → H} {w : World} {spare : Nat → Bool} {held : Bool} : ∀ n cs x, DataW.trod enc Tryd.prog w 0 spare held n 38 cs = some x → WOk Tryd.prog 38 x.1 → ∃ a, cs = encAct a ∧ encAct_good w a := fun n cs x h hw => by
  obtain ⟨xs, m, _, hx, hl, hxl, hf⟩ := DataW.trod_struct Tryd.underlying38 h
  subst hx
  have hc : Tryd.prog.cellsOf 38 = 13 := by kernel_rfl
  rw [hc] at hl
  obtain ⟨c0, c1, c2, c3, c4, c5, c6, c7, c8, c9, c10, c11, c12, rfl⟩ : ∃ c0 c1 c2 c3 c4 c5 c6 c7 c8 c9 c10 c11 c12, cs = [c0, c1, c2, c3, c4, c5, c6, c7, c8, c9, c10, c11, c12] := by
    match cs, hl with
    | [c0, c1, c2, c3, c4, c5, c6, c7, c8, c9, c10, c11, c12], _ => exact ⟨_, _, _, _, _, _, _, _, _, _, _, _, _, rfl⟩
  obtain ⟨y0, hy0⟩ : ∃ y, xs[0]? = some y := ⟨_, List.getElem?_eq_getElem (by rw [hxl]; decide)⟩
  have h0 : DataW.trod enc Tryd.prog w 0 spare held m 5 (([c0, c1, c2, c3, c4, c5, c6, c7, c8, c9, c10, c11, c12].drop 0).take (Tryd.prog.cellsOf 5)) = xs[0]? := hf 0 _ rfl
  have k0 : Tryd.prog.cellsOf 5 = 1 := by kernel_rfl
  have w0 : WOk Tryd.prog 5 y0.1 := hw.part Tryd.underlying38 (i := 0) rfl (by rw [List.getElem?_map, hy0]; rfl)
  rw [k0, hy0] at h0
  obtain ⟨n0, e0, _, g0⟩ := DataW.trod_int Tryd.underlying5 h0
  simp only [List.drop_succ_cons, List.drop_zero, List.take_succ_cons, List.take_zero] at e0
  injection e0 with e0 _
  obtain ⟨y1, hy1⟩ : ∃ y, xs[1]? = some y := ⟨_, List.getElem?_eq_getElem (by rw [hxl]; decide)⟩
  have h1 : DataW.trod enc Tryd.prog w 0 spare held m 5 (([c0, c1, c2, c3, c4, c5, c6, c7, c8, c9, c10, c11, c12].drop 1).take (Tryd.prog.cellsOf 5)) = xs[1]? := hf 1 _ rfl
  have k1 : Tryd.prog.cellsOf 5 = 1 := by kernel_rfl
  have w1 : WOk Tryd.prog 5 y1.1 := hw.part Tryd.underlying38 (i := 1) rfl (by rw [List.getElem?_map, hy1]; rfl)
  rw [k1, hy1] at h1
  obtain ⟨n1, e1, _, g1⟩ := DataW.trod_int Tryd.underlying5 h1
  simp only [List.drop_succ_cons, List.drop_zero, List.take_succ_cons, List.take_zero] at e1
  injection e1 with e1 _
  obtain ⟨y2, hy2⟩ : ∃ y, xs[2]? = some y := ⟨_, List.getElem?_eq_getElem (by rw [hxl]; decide)⟩
  have h2 : DataW.trod enc Tryd.prog w 0 spare held m 36 (([c0, c1, c2, c3, c4, c5, c6, c7, c8, c9, c10, c11, c12].drop 2).take (Tryd.prog.cellsOf 36)) = xs[2]? := hf 2 _ rfl
  have k2 : Tryd.prog.cellsOf 36 = 11 := by kernel_rfl
  have w2 : WOk Tryd.prog 36 y2.1 := hw.part Tryd.underlying38 (i := 2) rfl (by rw [List.getElem?_map, hy2]; rfl)
  rw [k2, hy2] at h2
  obtain ⟨⟨m2_0, m2_1, m2_2, m2_3, m2_4, m2_5, m2_6, m2_7, m2_8, m2_9, m2_10, m2_11, m2_12⟩, e2, g2⟩ := dec_encMessage _ _ _ h2 w2
  obtain ⟨g2_0, g2_1, g2_2, g2_3, g2_4, g2_5, g2_6, g2_7, g2_8, g2_9, g2_10⟩ := g2
  simp only [List.drop_succ_cons, List.drop_zero, List.take_succ_cons, List.take_zero, encMessage, List.cons.injEq, and_true] at e2
  obtain ⟨e2_0, e2_1, e2_2, e2_3, e2_4, e2_5, e2_6, e2_7, e2_8, e2_9, e2_10⟩ := e2
  subst e0
  subst e1
  subst e2_0
  subst e2_1
  subst e2_2
  subst e2_3
  subst e2_4
  subst e2_5
  subst e2_6
  subst e2_7
  subst e2_8
  subst e2_9
  subst e2_10
  exact ⟨(n0, n1, m2_0, m2_1, m2_2, m2_3, m2_4, m2_5, m2_6, m2_7, m2_8, m2_9, m2_10, m2_11, m2_12), rfl, ⟨wf_u8 g0, wf_u8 g1, g2_0, g2_1, g2_2, g2_3, g2_4, g2_5, g2_6, g2_7, g2_8, g2_9, g2_10⟩⟩
theorem encAct_gdd {w : World} {D : Chunk} {x : (Int × Int × Int × Int × Int × Int × Int × Int × Int × Int × Int × Int × Option Addr × Nat × List UInt8)} (h : encAct_good w x) : encAct_dd w D x := DD.of (h.2.2.2.2.2.2.2.2.2.2.2.2).1
end

end Go.Proofs.YtljcllaploopaaaDoor
