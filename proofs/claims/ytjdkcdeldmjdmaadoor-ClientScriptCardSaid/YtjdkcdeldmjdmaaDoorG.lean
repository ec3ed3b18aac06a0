import Derived.Test.YtjdkcdeldmjdmaaDoorProg
import Derived.Test.YtjdkcdeldmjdmaaDoorAs
import Derived.Test.YtjdkcdeldmjdmaaDoorSK13
set_option linter.unusedVariables false
set_option linter.unusedSimpArgs false
set_option maxRecDepth 4000
namespace Go.Proofs.YtjdkcdeldmjdmaaDoor
open Go Go.SK
theorem mixed : Tryd.prog.follows .mixedOrders = true := by kernel_rfl
theorem isfn3 : IsFn Tryd.prog 3 := fun args w => by kernel_rfl
theorem isfn4 : IsFn Tryd.prog 4 := fun args w => by kernel_rfl
theorem isfn5 : IsFn Tryd.prog 5 := fun args w => by kernel_rfl
theorem isfn6 : IsFn Tryd.prog 6 := fun args w => by kernel_rfl
theorem isfn7 : IsFn Tryd.prog 7 := fun args w => by kernel_rfl
theorem isfn8 : IsFn Tryd.prog 8 := fun args w => by kernel_rfl
theorem isfn9 : IsFn Tryd.prog 9 := fun args w => by kernel_rfl
theorem isfn10 : IsFn Tryd.prog 10 := fun args w => by kernel_rfl
theorem isfn11 : IsFn Tryd.prog 11 := fun args w => by kernel_rfl
theorem isfn12 : IsFn Tryd.prog 12 := fun args w => by kernel_rfl
theorem isfn13 : IsFn Tryd.prog 13 := fun args w => by kernel_rfl
theorem isfn14 : IsFn Tryd.prog 14 := fun args w => by kernel_rfl
theorem isfn15 : IsFn Tryd.prog 15 := fun args w => by kernel_rfl
theorem isfn16 : IsFn Tryd.prog 16 := fun args w => by kernel_rfl
theorem isfn17 : IsFn Tryd.prog 17 := fun args w => by kernel_rfl
theorem isfn18 : IsFn Tryd.prog 18 := fun args w => by kernel_rfl
theorem isfn19 : IsFn Tryd.prog 19 := fun args w => by kernel_rfl
noncomputable def tb : List TI := [
  ⟨2, Tryd.t2.desc, 1, 8, .int .i64 0⟩,
  ⟨3, Tryd.t3.desc, 1, 8, .int .i64 0⟩,
  ⟨4, Tryd.t4.desc, 1, 1, .bool false⟩,
  ⟨5, Tryd.t5.desc, 1, 1, .int .u8 0⟩,
  ⟨9, Tryd.t9.desc, 1, 16, .string (⟨#[]⟩ : ByteArray)⟩,
  ⟨23, Tryd.t23.desc, 1, 8, .pointer none⟩,
  ⟨25, Tryd.t25.desc, 1, 8, .int .u64 0⟩,
  ⟨26, Tryd.t26.desc, 1, 4, .int .u32 0⟩,
  ⟨27, Tryd.t27.desc, 1, 2, .int .u16 0⟩,
  ⟨29, Tryd.t28.desc, 4, 24, .agg #[.int .u64 0, .int .u32 0, .int .u8 0, .int .u64 0]⟩,
  ⟨30, Tryd.t30.desc, 1, 24, .slice none 0 0⟩,
  ⟨32, Tryd.t31.desc, 11, 80, .agg #[.int .u64 0, .int .u64 0, .int .u32 0, .int .u16 0, .int .u16 0, .int .u64 0, .int .u32 0, .int .u8 0, .int .u64 0, .int .u64 0, .slice none 0 0]⟩,
  ⟨34, Tryd.t33.desc, 1, 16, .nilIface⟩,
  ⟨37, Tryd.t37.desc, 1, 24, .slice none 0 0⟩,
  ⟨39, Tryd.t3.desc, 1, 8, .int .i64 0⟩,
  ⟨47, Tryd.t47.desc, 1, 1, .int .i8 0⟩,
  ⟨48, Tryd.t48.desc, 1, 24, .slice none 0 0⟩,
  ⟨49, Tryd.t49.desc, 1, 24, .slice none 0 0⟩,
  ⟨51, Tryd.t50.desc, 13, 96, .agg #[.int .u8 0, .int .u64 0, .int .u64 0, .int .u32 0, .int .u16 0, .int .u16 0, .int .u64 0, .int .u32 0, .int .u8 0, .int .u64 0, .int .u64 0, .slice none 0 0, .int .u8 0]⟩,
  ⟨52, Tryd.t3.desc, 1, 8, .int .i64 0⟩,
  ⟨55, Tryd.t54.desc, 25, 184, .agg #[.int .u64 0, .int .u64 0, .int .u32 0, .int .u16 0, .int .u16 0, .int .u64 0, .int .u32 0, .int .u8 0, .int .u64 0, .int .u64 0, .slice none 0 0, .int .u64 0, .int .u64 0, .int .u32 0, .int .u16 0, .int .u16 0, .int .u64 0, .int .u32 0, .int .u8 0, .int .u64 0, .int .u64 0, .slice none 0 0, .int .i64 0, .int .i64 0, .int .i64 0]⟩,
  ⟨56, Tryd.t56.desc, 1, 8, .pointer none⟩,
  ⟨59, Tryd.t59.desc, 1, 24, .slice none 0 0⟩,
  ⟨61, Tryd.t60.desc, 4, 48, .agg #[.int .u64 0, .int .i64 0, .int .i64 0, .slice none 0 0]⟩,
  ⟨64, Tryd.t63.desc, 25, 184, .agg #[.int .u64 0, .int .u64 0, .int .u32 0, .int .u16 0, .int .u16 0, .int .u64 0, .int .u32 0, .int .u8 0, .int .u64 0, .int .u64 0, .slice none 0 0, .int .i64 0, .int .i64 0, .int .i64 0, .int .u64 0, .int .u64 0, .int .u32 0, .int .u16 0, .int .u16 0, .int .u64 0, .int .u32 0, .int .u8 0, .int .u64 0, .int .u64 0, .slice none 0 0]⟩,
  ⟨66, Tryd.t66.desc, 1, 8, .pointer none⟩,
  ⟨69, Tryd.t69.desc, 1, 8, .pointer none⟩]
theorem tbOk : TabOk Tryd.prog tb := ⟨
  ⟨by kernel_rfl, Tryd.t2, by kernel_rfl, by kernel_rfl, by kernel_rfl, by kernel_rfl⟩,
  ⟨by kernel_rfl, Tryd.t3, by kernel_rfl, by kernel_rfl, by kernel_rfl, by kernel_rfl⟩,
  ⟨by kernel_rfl, Tryd.t4, by kernel_rfl, by kernel_rfl, by kernel_rfl, by kernel_rfl⟩,
  ⟨by kernel_rfl, Tryd.t5, by kernel_rfl, by kernel_rfl, by kernel_rfl, by kernel_rfl⟩,
  ⟨by kernel_rfl, Tryd.t9, by kernel_rfl, by kernel_rfl, by kernel_rfl, by kernel_rfl⟩,
  ⟨by kernel_rfl, Tryd.t23, by kernel_rfl, by kernel_rfl, by kernel_rfl, by kernel_rfl⟩,
  ⟨by kernel_rfl, Tryd.t25, by kernel_rfl, by kernel_rfl, by kernel_rfl, by kernel_rfl⟩,
  ⟨by kernel_rfl, Tryd.t26, by kernel_rfl, by kernel_rfl, by kernel_rfl, by kernel_rfl⟩,
  ⟨by kernel_rfl, Tryd.t27, by kernel_rfl, by kernel_rfl, by kernel_rfl, by kernel_rfl⟩,
  ⟨by kernel_rfl, Tryd.t29, by kernel_rfl, by kernel_rfl, by kernel_rfl, by kernel_rfl⟩,
  ⟨by kernel_rfl, Tryd.t30, by kernel_rfl, by kernel_rfl, by kernel_rfl, by kernel_rfl⟩,
  ⟨by kernel_rfl, Tryd.t32, by kernel_rfl, by kernel_rfl, by kernel_rfl, by kernel_rfl⟩,
  ⟨by kernel_rfl, Tryd.t34, by kernel_rfl, by kernel_rfl, by kernel_rfl, by kernel_rfl⟩,
  ⟨by kernel_rfl, Tryd.t37, by kernel_rfl, by kernel_rfl, by kernel_rfl, by kernel_rfl⟩,
  ⟨by kernel_rfl, Tryd.t39, by kernel_rfl, by kernel_rfl, by kernel_rfl, by kernel_rfl⟩,
  ⟨by kernel_rfl, Tryd.t47, by kernel_rfl, by kernel_rfl, by kernel_rfl, by kernel_rfl⟩,
  ⟨by kernel_rfl, Tryd.t48, by kernel_rfl, by kernel_rfl, by kernel_rfl, by kernel_rfl⟩,
  ⟨by kernel_rfl, Tryd.t49, by kernel_rfl, by kernel_rfl, by kernel_rfl, by kernel_rfl⟩,
  ⟨by kernel_rfl, Tryd.t51, by kernel_rfl, by kernel_rfl, by kernel_rfl, by kernel_rfl⟩,
  ⟨by kernel_rfl, Tryd.t52, by kernel_rfl, by kernel_rfl, by kernel_rfl, by kernel_rfl⟩,
  ⟨by kernel_rfl, Tryd.t55, by kernel_rfl, by kernel_rfl, by kernel_rfl, by kernel_rfl⟩,
  ⟨by kernel_rfl, Tryd.t56, by kernel_rfl, by kernel_rfl, by kernel_rfl, by kernel_rfl⟩,
  ⟨by kernel_rfl, Tryd.t59, by kernel_rfl, by kernel_rfl, by kernel_rfl, by kernel_rfl⟩,
  ⟨by kernel_rfl, Tryd.t61, by kernel_rfl, by kernel_rfl, by kernel_rfl, by kernel_rfl⟩,
  ⟨by kernel_rfl, Tryd.t64, by kernel_rfl, by kernel_rfl, by kernel_rfl, by kernel_rfl⟩,
  ⟨by kernel_rfl, Tryd.t66, by kernel_rfl, by kernel_rfl, by kernel_rfl, by kernel_rfl⟩,
  ⟨by kernel_rfl, Tryd.t69, by kernel_rfl, by kernel_rfl, by kernel_rfl, by kernel_rfl⟩,
  trivial⟩
def encMessage (x : Int × Int × Int × Int × Int × Int × Int × Int × Int × Int × Option Addr × Nat × List UInt8) : List Value := [.int .u64 x.1, .int .u64 x.2.1, .int .u32 x.2.2.1, .int .u16 x.2.2.2.1, .int .u16 x.2.2.2.2.1, .int .u64 x.2.2.2.2.2.1, .int .u32 x.2.2.2.2.2.2.1, .int .u8 x.2.2.2.2.2.2.2.1, .int .u64 x.2.2.2.2.2.2.2.2.1, .int .u64 x.2.2.2.2.2.2.2.2.2.1, .slice x.2.2.2.2.2.2.2.2.2.2.1 x.2.2.2.2.2.2.2.2.2.2.2.2.length x.2.2.2.2.2.2.2.2.2.2.2.1]
theorem encMessage_ok : Enc encMessage 11 := ⟨fun _ => rfl, fun x u hu => by simp only [encMessage, List.mem_cons, List.not_mem_nil, or_false] at hu; rcases hu with rfl | rfl | rfl | rfl | rfl | rfl | rfl | rfl | rfl | rfl | rfl <;> rfl⟩
def encMessage_dd (w0 : World) (D : Chunk) (x : Int × Int × Int × Int × Int × Int × Int × Int × Int × Int × Option Addr × Nat × List UInt8) : Prop := DD w0 D x.2.2.2.2.2.2.2.2.2.2.1 x.2.2.2.2.2.2.2.2.2.2.2.1 x.2.2.2.2.2.2.2.2.2.2.2.2
theorem encMessage_left {w0 : World} {D E : Chunk} {x : Int × Int × Int × Int × Int × Int × Int × Int × Int × Int × Option Addr × Nat × List UInt8} (h : encMessage_dd w0 D x) : encMessage_dd w0 (E ++ D) x := DD.left h
theorem encMessage_lefts {w0 : World} {D E : Chunk} {l : List (Int × Int × Int × Int × Int × Int × Int × Int × Int × Int × Option Addr × Nat × List UInt8)} (h : ∀ x ∈ l, encMessage_dd w0 D x) : ∀ x ∈ l, encMessage_dd w0 (E ++ D) x := fun x hx => encMessage_left (h x hx)

def encCall (x : Int × Int × Int × Int × Int × Int × Int × Int × Int × Int × Option Addr × Nat × List UInt8 × Int × Int × Int × Int × Int × Int × Int × Int × Int × Int × Int × Int × Int × Option Addr × Nat × List UInt8) : List Value := [.int .u64 x.1, .int .u64 x.2.1, .int .u32 x.2.2.1, .int .u16 x.2.2.2.1, .int .u16 x.2.2.2.2.1, .int .u64 x.2.2.2.2.2.1, .int .u32 x.2.2.2.2.2.2.1, .int .u8 x.2.2.2.2.2.2.2.1, .int .u64 x.2.2.2.2.2.2.2.2.1, .int .u64 x.2.2.2.2.2.2.2.2.2.1, .slice x.2.2.2.2.2.2.2.2.2.2.1 x.2.2.2.2.2.2.2.2.2.2.2.2.1.length x.2.2.2.2.2.2.2.2.2.2.2.1, .int .i64 x.2.2.2.2.2.2.2.2.2.2.2.2.2.1, .int .i64 x.2.2.2.2.2.2.2.2.2.2.2.2.2.2.1, .int .i64 x.2.2.2.2.2.2.2.2.2.2.2.2.2.2.2.1, .int .u64 x.2.2.2.2.2.2.2.2.2.2.2.2.2.2.2.2.1, .int .u64 x.2.2.2.2.2.2.2.2.2.2.2.2.2.2.2.2.2.1, .int .u32 x.2.2.2.2.2.2.2.2.2.2.2.2.2.2.2.2.2.2.1, .int .u16 x.2.2.2.2.2.2.2.2.2.2.2.2.2.2.2.2.2.2.2.1, .int .u16 x.2.2.2.2.2.2.2.2.2.2.2.2.2.2.2.2.2.2.2.2.1, .int .u64 x.2.2.2.2.2.2.2.2.2.2.2.2.2.2.2.2.2.2.2.2.2.1, .int .u32 x.2.2.2.2.2.2.2.2.2.2.2.2.2.2.2.2.2.2.2.2.2.2.1, .int .u8 x.2.2.2.2.2.2.2.2.2.2.2.2.2.2.2.2.2.2.2.2.2.2.2.1, .int .u64 x.2.2.2.2.2.2.2.2.2.2.2.2.2.2.2.2.2.2.2.2.2.2.2.2.1, .int .u64 x.2.2.2.2.2.2.2.2.2.2.2.2.2.2.2.2.2.2.2.2.2.2.2.2.2.1, .slice x.2.2.2.2.2.2.2.2.2.2.2.2.2.2.2.2.2.2.2.2.2.2.2.2.2.2.1 x.2.2.2.2.2.2.2.2.2.2.2.2.2.2.2.2.2.2.2.2.2.2.2.2.2.2.2.2.length x.2.2.2.2.2.2.2.2.2.2.2.2.2.2.2.2.2.2.2.2.2.2.2.2.2.2.2.1]
theorem encCall_ok : Enc encCall 25 := ⟨fun _ => rfl, fun x u hu => by simp only [encCall, List.mem_cons, List.not_mem_nil, or_false] at hu; rcases hu with rfl | rfl | rfl | rfl | rfl | rfl | rfl | rfl | rfl | rfl | rfl | rfl | rfl | rfl | rfl | rfl | rfl | rfl | rfl | rfl | rfl | rfl | rfl | rfl | rfl <;> rfl⟩
def encCall_dd (w0 : World) (D : Chunk) (x : Int × Int × Int × Int × Int × Int × Int × Int × Int × Int × Option Addr × Nat × List UInt8 × Int × Int × Int × Int × Int × Int × Int × Int × Int × Int × Int × Int × Int × Option Addr × Nat × List UInt8) : Prop := DD w0 D x.2.2.2.2.2.2.2.2.2.2.1 x.2.2.2.2.2.2.2.2.2.2.2.1 x.2.2.2.2.2.2.2.2.2.2.2.2.1 ∧ DD w0 D x.2.2.2.2.2.2.2.2.2.2.2.2.2.2.2.2.2.2.2.2.2.2.2.2.2.2.1 x.2.2.2.2.2.2.2.2.2.2.2.2.2.2.2.2.2.2.2.2.2.2.2.2.2.2.2.1 x.2.2.2.2.2.2.2.2.2.2.2.2.2.2.2.2.2.2.2.2.2.2.2.2.2.2.2.2
theorem encCall_left {w0 : World} {D E : Chunk} {x : Int × Int × Int × Int × Int × Int × Int × Int × Int × Int × Option Addr × Nat × List UInt8 × Int × Int × Int × Int × Int × Int × Int × Int × Int × Int × Int × Int × Int × Option Addr × Nat × List UInt8} (h : encCall_dd w0 D x) : encCall_dd w0 (E ++ D) x := ⟨h.1.left, h.2.left⟩
theorem encCall_lefts {w0 : World} {D E : Chunk} {l : List (Int × Int × Int × Int × Int × Int × Int × Int × Int × Int × Option Addr × Nat × List UInt8 × Int × Int × Int × Int × Int × Int × Int × Int × Int × Int × Int × Int × Int × Option Addr × Nat × List UInt8)} (h : ∀ x ∈ l, encCall_dd w0 D x) : ∀ x ∈ l, encCall_dd w0 (E ++ D) x := fun x hx => encCall_left (h x hx)

abbrev Msg := Int × Int × Int × Int × Int × Int × Int × Int × Int × Int × Option Addr × Nat × List UInt8
def mdat (x : Msg) : List UInt8 := x.2.2.2.2.2.2.2.2.2.2.2.2

theorem elemp {α : Type} {enc : α → List Value} {size : Nat} {w : World} {m c : Nat} {l : List α} {b off : Nat} (he : Enc enc size) (h : Rd w size (.slice (some ⟨b, off, none⟩) m c) m (rows enc l)) {k : Nat} {x : α} (hx : l[k]? = some x) {j n : Nat} {sub : List Value} (hs : ((enc x).drop j).take n = sub) :
    ∀ i u, sub[i]? = some u → w.cell? ⟨b, off + k * size + j + i, none⟩ = some u := fun i u hu => by
  subst hs
  rw [List.getElem?_take] at hu
  split at hu
  · rw [List.getElem?_drop] at hu
    have := h.elem he hx (j + i) u hu
    rwa [show off + k * size + (j + i) = off + k * size + j + i by omega] at this
  · cases hu

abbrev Call := Int × Int × Int × Int × Int × Int × Int × Int × Int × Int × Option Addr × Nat × List UInt8 × Int × Int × Int × Int × Int × Int × Int × Int × Int × Int × Int × Int × Int × Option Addr × Nat × List UInt8
def mst (x : Msg) : Int × Int × Int × Int × Int × Int × Int × Int × Int × Int × List UInt8 := (x.1, x.2.1, x.2.2.1, x.2.2.2.1, x.2.2.2.2.1, x.2.2.2.2.2.1, x.2.2.2.2.2.2.1, x.2.2.2.2.2.2.2.1, x.2.2.2.2.2.2.2.2.1, x.2.2.2.2.2.2.2.2.2.1, mdat x)
def rq (x : Call) : Msg := (x.1, x.2.1, x.2.2.1, x.2.2.2.1, x.2.2.2.2.1, x.2.2.2.2.2.1, x.2.2.2.2.2.2.1, x.2.2.2.2.2.2.2.1, x.2.2.2.2.2.2.2.2.1, x.2.2.2.2.2.2.2.2.2.1, x.2.2.2.2.2.2.2.2.2.2.1, x.2.2.2.2.2.2.2.2.2.2.2.1, x.2.2.2.2.2.2.2.2.2.2.2.2.1)
def rp (x : Call) : Msg := (x.2.2.2.2.2.2.2.2.2.2.2.2.2.2.2.2.1, x.2.2.2.2.2.2.2.2.2.2.2.2.2.2.2.2.2.1, x.2.2.2.2.2.2.2.2.2.2.2.2.2.2.2.2.2.2.1, x.2.2.2.2.2.2.2.2.2.2.2.2.2.2.2.2.2.2.2.1, x.2.2.2.2.2.2.2.2.2.2.2.2.2.2.2.2.2.2.2.2.1, x.2.2.2.2.2.2.2.2.2.2.2.2.2.2.2.2.2.2.2.2.2.1, x.2.2.2.2.2.2.2.2.2.2.2.2.2.2.2.2.2.2.2.2.2.2.1, x.2.2.2.2.2.2.2.2.2.2.2.2.2.2.2.2.2.2.2.2.2.2.2.1, x.2.2.2.2.2.2.2.2.2.2.2.2.2.2.2.2.2.2.2.2.2.2.2.2.1, x.2.2.2.2.2.2.2.2.2.2.2.2.2.2.2.2.2.2.2.2.2.2.2.2.2.1, x.2.2.2.2.2.2.2.2.2.2.2.2.2.2.2.2.2.2.2.2.2.2.2.2.2.2.1, x.2.2.2.2.2.2.2.2.2.2.2.2.2.2.2.2.2.2.2.2.2.2.2.2.2.2.2.1, x.2.2.2.2.2.2.2.2.2.2.2.2.2.2.2.2.2.2.2.2.2.2.2.2.2.2.2.2)
def cst (x : Call) : Int := x.2.2.2.2.2.2.2.2.2.2.2.2.2.1
def ctr (x : Call) : Int := x.2.2.2.2.2.2.2.2.2.2.2.2.2.2.1
def clf (x : Call) : Int := x.2.2.2.2.2.2.2.2.2.2.2.2.2.2.2.1
def mkc (q : Msg) (s t l : Int) (r : Msg) : Call := (q.1, q.2.1, q.2.2.1, q.2.2.2.1, q.2.2.2.2.1, q.2.2.2.2.2.1, q.2.2.2.2.2.2.1, q.2.2.2.2.2.2.2.1, q.2.2.2.2.2.2.2.2.1, q.2.2.2.2.2.2.2.2.2.1, q.2.2.2.2.2.2.2.2.2.2.1, q.2.2.2.2.2.2.2.2.2.2.2.1, q.2.2.2.2.2.2.2.2.2.2.2.2, s, t, l, r.1, r.2.1, r.2.2.1, r.2.2.2.1, r.2.2.2.2.1, r.2.2.2.2.2.1, r.2.2.2.2.2.2.1, r.2.2.2.2.2.2.2.1, r.2.2.2.2.2.2.2.2.1, r.2.2.2.2.2.2.2.2.2.1, r.2.2.2.2.2.2.2.2.2.2.1, r.2.2.2.2.2.2.2.2.2.2.2.1, r.2.2.2.2.2.2.2.2.2.2.2.2)
def tick1 (wt tr : Int) (x : Call) : Call := if cst x = 1 then (if clf x - 1 > 0 then mkc (rq x) (cst x) (ctr x) (clf x - 1) (rp x) else if ctr x = tr then mkc (rq x) 3 (ctr x) (clf x - 1) (rp x) else mkc (rq x) (cst x) (ctr x + 1) wt (rp x)) else x
def again1 (tr : Int) (x : Call) : Bool := decide (cst x = 1 ∧ ¬ clf x - 1 > 0 ∧ ¬ ctr x = tr)
theorem tick_n {wt tr : Int} {x : Call} (h : ¬ cst x = 1) : tick1 wt tr x = x := by rw [tick1, if_neg h]
theorem tick_a {wt tr : Int} {x : Call} (h : cst x = 1) (h2 : clf x - 1 > 0) : tick1 wt tr x = mkc (rq x) (cst x) (ctr x) (clf x - 1) (rp x) := by rw [tick1, if_pos h, if_pos h2]
theorem tick_b {wt tr : Int} {x : Call} (h : cst x = 1) (h2 : ¬ clf x - 1 > 0) (h3 : ctr x = tr) : tick1 wt tr x = mkc (rq x) 3 (ctr x) (clf x - 1) (rp x) := by rw [tick1, if_pos h, if_neg h2, if_pos h3]
theorem tick_c {wt tr : Int} {x : Call} (h : cst x = 1) (h2 : ¬ clf x - 1 > 0) (h3 : ¬ ctr x = tr) : tick1 wt tr x = mkc (rq x) (cst x) (ctr x + 1) wt (rp x) := by rw [tick1, if_pos h, if_neg h2, if_neg h3]
theorem ag_n {tr : Int} {x : Call} (h : ¬ (cst x = 1 ∧ ¬ clf x - 1 > 0 ∧ ¬ ctr x = tr)) : again1 tr x = false := decide_eq_false h
theorem ag_y {tr : Int} {x : Call} (h : cst x = 1) (h2 : ¬ clf x - 1 > 0) (h3 : ¬ ctr x = tr) : again1 tr x = true := decide_eq_true ⟨h, h2, h3⟩
def tkl (wt tr : Int) (cs : List Call) (j : Nat) : List Call := (cs.take j).map (tick1 wt tr) ++ cs.drop j
theorem tkl_zero (wt tr : Int) (cs : List Call) : tkl wt tr cs 0 = cs := by simp [tkl]
theorem tkl_all (wt tr : Int) (cs : List Call) : tkl wt tr cs cs.length = cs.map (tick1 wt tr) := by simp [tkl]
theorem tkl_len (wt tr : Int) (cs : List Call) (j : Nat) : (tkl wt tr cs j).length = cs.length := by
  simp only [tkl, List.length_append, List.length_map, List.length_take, List.length_drop]; omega
theorem tkl_at {wt tr : Int} {cs : List Call} {j : Nat} {x : Call} (h : cs[j]? = some x) : (tkl wt tr cs j)[j]? = some x := by
  have hj := (List.getElem?_eq_some_iff.1 h).1
  rw [tkl, List.getElem?_append_right (by rw [List.length_map, List.length_take]; omega), List.length_map, List.length_take, List.getElem?_drop, show j + (j - min j cs.length) = j by omega]
  exact h
theorem tkl_step {wt tr : Int} {cs : List Call} {j : Nat} {x y : Call} (h : cs[j]? = some x) (hy : tick1 wt tr x = y) : (tkl wt tr cs j).set j y = tkl wt tr cs (j + 1) := by
  have hj := (List.getElem?_eq_some_iff.1 h).1
  subst hy
  apply List.ext_getElem?
  intro i
  rw [List.getElem?_set]
  split
  · rename_i e; subst e
    rw [if_pos (by rw [tkl_len]; omega), tkl, List.getElem?_append_left (by rw [List.length_map, List.length_take]; omega), List.getElem?_map, List.getElem?_take_of_lt (by omega), h]; rfl
  · rename_i e
    by_cases hi : i < j
    · rw [tkl, tkl, List.getElem?_append_left (by rw [List.length_map, List.length_take]; omega), List.getElem?_append_left (by rw [List.length_map, List.length_take]; omega), List.getElem?_map, List.getElem?_map, List.getElem?_take_of_lt (by omega), List.getElem?_take_of_lt (by omega)]
    · rw [tkl, tkl, List.getElem?_append_right (by rw [List.length_map, List.length_take]; omega), List.getElem?_append_right (by rw [List.length_map, List.length_take]; omega), List.length_map, List.length_map, List.length_take, List.length_take, List.getElem?_drop, List.getElem?_drop]
      congr 1; omega
theorem tkl_same {wt tr : Int} {cs : List Call} {j : Nat} {x : Call} (h : cs[j]? = some x) (hy : tick1 wt tr x = x) : tkl wt tr cs j = tkl wt tr cs (j + 1) := by
  rw [← tkl_step h hy]
  have hj := (List.getElem?_eq_some_iff.1 (tkl_at (wt := wt) (tr := tr) h)).1
  apply List.ext_getElem?
  intro i
  rw [List.getElem?_set]
  split
  · rename_i e; subst e; first | exact tkl_at h | (rw [if_pos hj]; exact tkl_at h)
  · rfl
def agl (tr : Int) (cs : List Call) (j : Nat) : List (Int × Int × Int × Int × Int × Int × Int × Int × Int × Int × List UInt8) := ((cs.take j).filter (again1 tr)).map (fun x => mst (rq x))
theorem agl_n {tr : Int} {cs : List Call} {j : Nat} {x : Call} (h : cs[j]? = some x) (hx : again1 tr x = false) : agl tr cs (j + 1) = agl tr cs j := by
  rw [agl, agl, List.take_add_one, h, List.filter_append]; simp [hx]
theorem agl_y {tr : Int} {cs : List Call} {j : Nat} {x : Call} (h : cs[j]? = some x) (hx : again1 tr x = true) : agl tr cs (j + 1) = agl tr cs j ++ [mst (rq x)] := by
  rw [agl, agl, List.take_add_one, h, List.filter_append]; simp [hx]
theorem agl_le (tr : Int) (cs : List Call) (j : Nat) : (agl tr cs j).length ≤ j := by
  rw [agl, List.length_map]; exact Nat.le_trans (List.length_filter_le _ _) (by rw [List.length_take]; omega)
theorem agl_all (tr : Int) (cs : List Call) : agl tr cs cs.length = (cs.filter (again1 tr)).map (fun x => mst (rq x)) := by rw [agl, List.take_length]
def csz (x : Call) : Prop := (mdat (rq x)).length ≤ 140737488351232 ∧ (mdat (rp x)).length ≤ 140737488351232
def cgd (x : Call) : Prop := cst x = 1 → (1 ≤ clf x ∧ clf x ≤ 1000) ∧ 1 ≤ ctr x ∧ ctr x ≤ 1000
/-- A client at a block. -/
def CR (b : Nat) (p wt tr : Int) (cs : List Call) (L : Chunk) : Prop := ∃ v C, Own 64 25 v cs.length (rows encCall cs) C ∧ L = (b, rowO [.int .u64 p, .int .i64 wt, .int .i64 tr, v] 61) :: C
def DX (w0 : World) (D D' : Chunk) : Prop := ∀ A c bs, DD w0 D A c bs → DD w0 D' A c bs
theorem DX.refl {w0 : World} {D : Chunk} : DX w0 D D := fun _ _ _ h => h
theorem DX.step {w0 : World} {D D' E : Chunk} (h : DX w0 D D') : DX w0 D (E ++ D') := fun _ _ _ h2 => (h _ _ _ h2).left
theorem DX.calls {w0 : World} {D D' : Chunk} (h : DX w0 D D') {cs : List Call} (hc : ∀ x ∈ cs, encCall_dd w0 D x) : ∀ x ∈ cs, encCall_dd w0 D' x := fun x hx => ⟨h _ _ _ (hc x hx).1, h _ _ _ (hc x hx).2⟩
theorem msg_snoc {w0 : World} {D E : Chunk} {out : List Msg} {x : Msg} (h : ∀ y ∈ out, encMessage_dd w0 D y) (hx : encMessage_dd w0 (E ++ D) x) : ∀ y ∈ out ++ [x], encMessage_dd w0 (E ++ D) y := fun y hy => by
  rcases List.mem_append.1 hy with hy | hy
  · exact encMessage_left (h y hy)
  · rw [List.mem_singleton.1 hy]; exact hx
theorem call_set {w0 : World} {D E : Chunk} {cs : List Call} {k : Nat} {x : Call} (h : ∀ y ∈ cs, encCall_dd w0 D y) (hx : encCall_dd w0 (E ++ D) x) : ∀ y ∈ cs.set k x, encCall_dd w0 (E ++ D) y := fun y hy => by
  rcases List.mem_or_eq_of_mem_set hy with hy | rfl
  · exact encCall_left (h y hy)
  · exact hx
theorem call_add {w0 : World} {D E : Chunk} {cs : List Call} {x : Call} (h : ∀ y ∈ cs, encCall_dd w0 D y) (hx : encCall_dd w0 (E ++ D) x) : ∀ y ∈ cs ++ [x], encCall_dd w0 (E ++ D) y := fun y hy => by
  rcases List.mem_append.1 hy with hy | hy
  · exact encCall_left (h y hy)
  · rw [List.mem_singleton.1 hy]; exact hx
theorem tick_dd {w0 : World} {D : Chunk} {wt tr : Int} {cs : List Call} (h : ∀ y ∈ cs, encCall_dd w0 D y) : ∀ y ∈ cs.map (tick1 wt tr), encCall_dd w0 D y := fun y hy => by
  obtain ⟨x, hx, rfl⟩ := List.mem_map.1 hy
  have := h x hx
  unfold tick1
  split
  · split
    · exact this
    · split <;> exact this
  · exact this
theorem tick_sz {wt tr : Int} {cs : List Call} (h : ∀ y ∈ cs, csz y) : ∀ y ∈ cs.map (tick1 wt tr), csz y := fun y hy => by
  obtain ⟨x, hx, rfl⟩ := List.mem_map.1 hy
  have := h x hx
  unfold tick1
  split
  · split
    · exact this
    · split <;> exact this
  · exact this

theorem clonex16 {w0 w : World} {F : List Chunk} (hS : St w0 w F) {v : Value} {l : List UInt8} (hr : RdSX w0 F 1 v l.length (rows encB l)) (hb : l.length ≤ 140737488351232) :
    Ret Tryd.prog 16 #[v] w (fun v w' => ∃ A c C, Own 5 1 (.slice A l.length c) l.length (rows encB l) C ∧ v = .slice A l.length c ∧ St w0 w' (C :: F)) := by
  obtain ⟨hl0, ⟨rfl, h0⟩ | ⟨ad, c, rfl, hmc, hcx, hcells⟩⟩ := hr w hS
  all_goals clear hl0
  · obtain rfl := List.eq_nil_of_length_eq_zero h0
    refine enter (vs := [.slice none 0 0]) 8 Tryd.func16 rfl rfl (by simp) ?_; intro a hA
    refine wp_seq ?_
    refine wp_region_lit ?_
    refine st_run tbOk 1 hA (e' := (2, .slice none 0 0) :: _) rfl ?_; clear hA; intro a hA
    refine wpList_nil ?_
    replace hA := hA.sel [0] (e' := [(0, .slice none 0 0)]) rfl
    refine xt_norm ?_
    refine wp_seq ?_
    refine wp_seq ?_
    refine wp_region_lit ?_
    refine st_run tbOk 2 hA (e' := (4, .bool true) :: (3, .slice none 0 0) :: _) rfl ?_; clear hA; intro a hA
    refine wpList_nil ?_
    replace hA := hA.sel [0, 4] (e' := [(0, .slice none 0 0), (4, .bool true)]) rfl
    refine xt_norm ?_
    refine cd_cond_t hA rfl ?_
    refine wp_seq ?_
    refine wp_region_lit ?_
    refine st_run tbOk 1 hA (e' := (2, .slice none 0 0) :: _) rfl ?_; clear hA; intro a hA
    refine wpList_nil ?_
    replace hA := hA.sel [2] (e' := [(2, .slice none 0 0)]) rfl
    refine xt_norm ?_
    refine wp_ret (xt_ret ?_)
    refine ret1 (fn := Tryd.f16) hA rfl rfl ?_
    exact ⟨none, 0, [], Own.nil _ _, rfl, hS.nil⟩
  · clear hcells
    refine enter (vs := [.slice (some ad) l.length c]) 8 Tryd.func16 rfl rfl (by simp) ?_; intro a hA
    refine wp_seq ?_
    refine wp_region_lit ?_
    refine st_run tbOk 1 hA (e' := (2, .slice none 0 0) :: _) rfl ?_; clear hA; intro a hA
    refine wpList_nil ?_
    replace hA := hA.sel [0] (e' := [(0, .slice (some ad) l.length c)]) rfl
    refine xt_norm ?_
    refine wp_seq ?_
    refine wp_seq ?_
    refine wp_region_lit ?_
    refine st_run tbOk 2 hA (e' := (4, .bool false) :: (3, .slice (some ad) l.length c) :: _) rfl ?_; clear hA; intro a hA
    refine wpList_nil ?_
    replace hA := hA.sel [0, 4] (e' := [(0, .slice (some ad) l.length c), (4, .bool false)]) rfl
    refine xt_norm ?_
    refine cd_cond_f hA rfl ?_
    refine wp_skip ?_
    refine xt_norm ?_
    refine wp_seq ?_
    refine wp_region_lit ?_
    refine st_buildSlice tbOk hA hS [] rfl rfl rfl rfl rfl (by decide) (by kernel_rfl) rfl rfl (by decide) ?_; clear hA hS; intro b1 w2 a hS hA
    refine st_run tbOk 1 hA (e' := (6, .slice (some ad) l.length c) :: _) rfl ?_; clear hA; intro a hA
    refine st_append tbOk hA (m := 0) (q := l.length) (xs := rows encB ([] : List UInt8)) (news := rows encB l) rfl rfl rfl rfl rfl rfl rfl rfl (by decide) (Own.full (T := 5) (size := 1) (g := b1) (m := 0) rfl (by decide)) hS ((hr _ (hS.tail 1 rfl))) (rows_one encB_ok _) (maxLen_le (by omega)) (by show (0 + l.length) * 1 ≤ 140737488355328; omega) rfl rfl (by decide) ?_
    clear hA hS; intro v3 w4 C5 a hO5 hS hA
    replace hO5 := Own.app (l := ([] : List UInt8)) (l2 := l) hO5
    replace hO5 : Own 5 1 v3 l.length (rows encB l) C5 := hO5
    obtain ⟨A6, c7, rfl, hmc7, hxc7⟩ := hO5.open'
    refine st_run tbOk 1 hA (e' := (2, .slice A6 l.length c7) :: _) rfl ?_; clear hA; intro a hA
    refine wpList_nil ?_
    replace hA := hA.sel [2] (e' := [(2, .slice A6 l.length c7)]) rfl
    refine xt_norm ?_
    refine wp_ret ?_
    refine ret1 (fn := Tryd.f16) hA rfl rfl ?_
    exact ⟨_, _, _, hO5, rfl, hS⟩

theorem cof8 {w0 w : World} {F : List Chunk} (hS : St w0 w F) (p wt tr : Int) :
    Ret Tryd.prog 8 #[.int .u64 p, .int .i64 wt, .int .i64 tr] w (fun v w' => ∃ b L, CR b p (if wt > 1 then wt else 1) (if tr > 1 then tr else 1) [] L ∧ v = .pointer (some ⟨b, 0, none⟩) ∧ St w0 w' (L :: F)) := by
  refine enter (vs := [.int .u64 p, .int .i64 wt, .int .i64 tr]) 14 Tryd.func8 rfl rfl (by simp) ?_; intro a hA
  refine wp_seq ?_
  refine wp_region_lit ?_
  refine st_run tbOk 1 hA (e' := (6, .pointer none) :: _) rfl ?_; clear hA; intro a hA
  refine wpList_nil ?_
  replace hA := hA.sel [0, 1, 2] (e' := [(0, .int .u64 p), (1, .int .i64 wt), (2, .int .i64 tr)]) rfl
  refine xt_norm ?_
  refine wp_seq ?_
  refine wp_region_lit ?_
  refine st_run tbOk 6 hA (e' := (12, .agg #[.int .u64 p, .int .i64 (if wt > 1 then wt else 1), .int .i64 (if tr > 1 then tr else 1), .slice none 0 0]) :: (11, .int .i64 (if tr > 1 then tr else 1)) :: (10, .int .i64 tr) :: (9, .int .i64 (if wt > 1 then wt else 1)) :: (8, .int .i64 wt) :: (7, .int .u64 p) :: _) rfl ?_; clear hA; intro a hA
  refine st_box hA hS [.int .u64 p, .int .i64 (if wt > 1 then wt else 1), .int .i64 (if tr > 1 then tr else 1), .slice none 0 0] rfl rfl rfl rfl rfl (by decide) ?_; clear hA hS; intro b1 w2 a hS hA
  refine st_run tbOk 1 hA (e' := (6, .pointer (some ⟨b1, 0, none⟩)) :: _) rfl ?_; clear hA; intro a hA
  refine wpList_nil ?_
  replace hA := hA.sel [6] (e' := [(6, .pointer (some ⟨b1, 0, none⟩))]) rfl
  refine xt_norm ?_
  refine wp_ret ?_
  refine ret1 (fn := Tryd.f8) hA rfl rfl ?_
  exact ⟨_, _, ⟨_, [], Own.nil 64 25, rfl⟩, rfl, hS⟩

theorem ccop17 {w0 w : World} {F : List Chunk} (hS : St w0 w F) (m0 m1 m2 m3 m4 m5 m6 m7 m8 m9 : Int) {d : Value} {bs : List UInt8} (hd : RdSX w0 F 1 d bs.length (rows encB bs)) (hbl : bs.length ≤ 140737488351232) :
    Ret Tryd.prog 17 #[.agg #[.int .u64 m0, .int .u64 m1, .int .u32 m2, .int .u16 m3, .int .u16 m4, .int .u64 m5, .int .u32 m6, .int .u8 m7, .int .u64 m8, .int .u64 m9, d]] w (fun v w' => ∃ A c C, Own 5 1 (.slice A bs.length c) bs.length (rows encB bs) C ∧ v = .agg #[.int .u64 m0, .int .u64 m1, .int .u32 m2, .int .u16 m3, .int .u16 m4, .int .u64 m5, .int .u32 m6, .int .u8 m7, .int .u64 m8, .int .u64 m9, .slice A bs.length c] ∧ St w0 w' (C :: F)) := by
  obtain ⟨A, c, rfl, hmc, hcx⟩ := (hd w hS).open'
  refine enter (vs := [.agg #[.int .u64 m0, .int .u64 m1, .int .u32 m2, .int .u16 m3, .int .u16 m4, .int .u64 m5, .int .u32 m6, .int .u8 m7, .int .u64 m8, .int .u64 m9, .slice A bs.length c]]) 8 Tryd.func17 rfl rfl (by simp) ?_; intro a hA
  refine wp_seq ?_
  refine wp_region_lit ?_
  refine st_box hA hS [.int .u64 m0, .int .u64 m1, .int .u32 m2, .int .u16 m3, .int .u16 m4, .int .u64 m5, .int .u32 m6, .int .u8 m7, .int .u64 m8, .int .u64 m9, .slice A bs.length c] rfl rfl rfl rfl rfl (by decide) ?_; clear hA hS; intro b1 w2 a hS hA
  refine st_alloc tbOk hA hS [.int .u64 0, .int .u64 0, .int .u32 0, .int .u16 0, .int .u16 0, .int .u64 0, .int .u32 0, .int .u8 0, .int .u64 0, .int .u64 0, .slice none 0 0] rfl rfl rfl rfl rfl (by decide) ?_; clear hA hS; intro b3 w4 a hS hA
  refine wpList_nil ?_
  replace hA := hA.sel [1, 2] (e' := [(1, .pointer (some ⟨b1, 0, none⟩)), (2, .pointer (some ⟨b3, 0, none⟩))]) rfl
  refine xt_norm ?_
  refine wp_seq ?_
  refine wp_region_lit ?_
  refine st_run tbOk 1 hA (e' := (3, .pointer (some ⟨b1, 10, none⟩)) :: _) rfl ?_; clear hA; intro a hA
  refine st_val hA rfl rfl (by decide) (rn_load tbOk hA rfl rfl rfl rfl (cell_row (hS.heapAt 1 rfl) rfl)) ?_; clear hA; intro a hA
  refine st_call0 hA rfl rfl rfl isfn16 rfl rfl (by decide) (clonex16 hS (l := bs) (fun w' h => (hd _ (h.tail 2 rfl))) (by first | omega | (simp; omega))) ?_
  clear hA hS; rintro _ w8 a ⟨A5, c6, C7, hOC7, rfl, hS⟩ hA
  refine st_run tbOk 1 hA (e' := (6, .pointer (some ⟨b1, 10, none⟩)) :: _) rfl ?_; clear hA; intro a hA
  replace hS := hS.front 2 (C := [(b1, rowO [.int .u64 m0, .int .u64 m1, .int .u32 m2, .int .u16 m3, .int .u16 m4, .int .u64 m5, .int .u32 m6, .int .u8 m7, .int .u64 m8, .int .u64 m9, .slice A bs.length c] 32)]) (L' := C7 :: [(b3, rowO [.int .u64 0, .int .u64 0, .int .u32 0, .int .u16 0, .int .u16 0, .int .u64 0, .int .u32 0, .int .u8 0, .int .u64 0, .int .u64 0, .slice none 0 0] 32)] :: F) rfl rfl
  refine st_store tbOk hA hS [.slice A5 bs.length c6] [.int .u64 m0, .int .u64 m1, .int .u32 m2, .int .u16 m3, .int .u16 m4, .int .u64 m5, .int .u32 m6, .int .u8 m7, .int .u64 m8, .int .u64 m9, .slice A5 bs.length c6] rfl rfl rfl rfl rfl rfl (by intro u hu; rw [List.mem_singleton.1 hu]; rfl) (Nat.le_of_ble_eq_true rfl) rfl rfl rfl ?_; clear hS; intro w9 hS
  refine wpList_nil ?_
  replace hA := hA.sel [1, 2] (e' := [(1, .pointer (some ⟨b1, 0, none⟩)), (2, .pointer (some ⟨b3, 0, none⟩))]) rfl
  refine xt_norm ?_
  refine wp_seq ?_
  refine wp_region_lit ?_
  refine st_val hA rfl rfl (by decide) (rn_loadA tbOk hA [.int .u64 m0, .int .u64 m1, .int .u32 m2, .int .u16 m3, .int .u16 m4, .int .u64 m5, .int .u32 m6, .int .u8 m7, .int .u64 m8, .int .u64 m9, .slice A5 bs.length c6] rfl rfl rfl rfl rfl (cells_row (hS.heapAt 0 rfl) rfl)) ?_; clear hA; intro a hA
  replace hS := hS.front 2 (C := [(b3, rowO [.int .u64 0, .int .u64 0, .int .u32 0, .int .u16 0, .int .u16 0, .int .u64 0, .int .u32 0, .int .u8 0, .int .u64 0, .int .u64 0, .slice none 0 0] 32)]) (L' := [(b1, rowO [.int .u64 m0, .int .u64 m1, .int .u32 m2, .int .u16 m3, .int .u16 m4, .int .u64 m5, .int .u32 m6, .int .u8 m7, .int .u64 m8, .int .u64 m9, .slice A5 bs.length c6] 32)] :: C7 :: F) rfl rfl
  refine st_store tbOk hA hS [.int .u64 m0, .int .u64 m1, .int .u32 m2, .int .u16 m3, .int .u16 m4, .int .u64 m5, .int .u32 m6, .int .u8 m7, .int .u64 m8, .int .u64 m9, .slice A5 bs.length c6] [.int .u64 m0, .int .u64 m1, .int .u32 m2, .int .u16 m3, .int .u16 m4, .int .u64 m5, .int .u32 m6, .int .u8 m7, .int .u64 m8, .int .u64 m9, .slice A5 bs.length c6] rfl rfl rfl rfl rfl rfl (by simp [Value.oneCell']) (Nat.le_of_ble_eq_true rfl) rfl rfl rfl ?_; clear hS; intro w10 hS
  refine wpList_nil ?_
  replace hA := hA.sel [2] (e' := [(2, .pointer (some ⟨b3, 0, none⟩))]) rfl
  refine xt_norm ?_
  refine wp_ret ?_
  refine retc1 tbOk (fn := Tryd.f17) (cs := [.int .u64 m0, .int .u64 m1, .int .u32 m2, .int .u16 m3, .int .u16 m4, .int .u64 m5, .int .u32 m6, .int .u8 m7, .int .u64 m8, .int .u64 m9, .slice A5 bs.length c6]) hA rfl rfl rfl rfl rfl (cells_row (hS.heapAt 0 rfl) rfl) ?_
  replace hS := hS.drop1
  replace hS := hS.drop1
  exact ⟨_, _, _, hOC7, rfl, hS⟩

theorem getp_hit18 {w0 w : World} {F : List Chunk} {b bb o n c : Nat} {p wt tr : Int} (hS : St w0 w ([(b, rowO [.int .u64 p, .int .i64 wt, .int .i64 tr, .slice (some ⟨bb, o, none⟩) n c] 61)] :: F)) {id : Int} {k : Nat} (hid : id = (k : Int) + 1) (hk : k < n) (hn : n ≤ 1048576) :
    Ret Tryd.prog 18 #[.pointer (some ⟨b, 0, none⟩), .int .u32 id] w (fun v w' => v = .pointer (some ⟨bb, o + (k * 25), none⟩) ∧ St w0 w' ([(b, rowO [.int .u64 p, .int .i64 wt, .int .i64 tr, .slice (some ⟨bb, o, none⟩) n c] 61)] :: F)) := by
  refine enter (vs := [.pointer (some ⟨b, 0, none⟩), .int .u32 id]) 24 Tryd.func18 rfl rfl (by simp) ?_; intro a hA
  refine wp_seq ?_
  refine wp_region_lit ?_
  refine st_run tbOk 1 hA (e' := (4, .pointer none) :: _) rfl ?_; clear hA; intro a hA
  refine wpList_nil ?_
  replace hA := hA.sel [0, 1] (e' := [(0, .pointer (some ⟨b, 0, none⟩)), (1, .int .u32 id)]) rfl
  refine xt_norm ?_
  refine wp_seq ?_
  refine wp_seq ?_
  refine wp_region_lit ?_
  refine st_run tbOk 3 hA (e' := (7, .bool (decide (id < 1))) :: (6, .bool (decide (id < 1))) :: (5, .int .u32 id) :: _) rfl ?_; clear hA; intro a hA
  have hc1 : ¬ (id < 1) := by omega
  replace hA := hA.rw 6 (v' := .bool false) rfl (vb_false hc1)
  replace hA := hA.rw 7 (v' := .bool false) rfl (vb_false hc1)
  refine st_run tbOk 2 hA (e' := (9, .int .i64 (IntKind.i64.wrap id)) :: (8, .int .u32 id) :: _) rfl ?_; clear hA; intro a hA
  replace hA := hA.rw 9 (v' := .int .i64 id) rfl (wr64 (by rfl) (by omega) (by omega))
  refine st_run tbOk 3 hA (e' := (12, .pointer (some ⟨b, 3, none⟩)) :: (11, .pointer (some ⟨b, 0, none⟩)) :: (10, .pointer (some ⟨b, 0, none⟩)) :: _) rfl ?_; clear hA; intro a hA
  refine st_val hA rfl rfl (by decide) (rn_load tbOk hA rfl rfl rfl rfl (cell_row (hS.heapAt 0 rfl) rfl)) ?_; clear hA; intro a hA
  refine st_run tbOk 3 hA (e' := (16, .bool (decide (id > ((n : Nat) : Int)))) :: (15, .bool (decide (id > ((n : Nat) : Int)))) :: (14, .int .i64 ((n : Nat) : Int)) :: _) rfl ?_; clear hA; intro a hA
  refine wpList_nil ?_
  replace hA := hA.sel [0, 1, 16] (e' := [(0, .pointer (some ⟨b, 0, none⟩)), (1, .int .u32 id), (16, .bool (decide (id > ((n : Nat) : Int))))]) rfl
  refine xt_norm ?_
  have hc2 : ¬ (id > ((n : Nat) : Int)) := by omega
  replace hA := hA.rw 16 (v' := .bool false) rfl (vb_false hc2)
  refine cd_cond_f hA rfl ?_
  refine wp_skip ?_
  refine xt_norm ?_
  refine wp_seq ?_
  refine wp_region_lit ?_
  refine st_run tbOk 3 hA (e' := (19, .pointer (some ⟨b, 3, none⟩)) :: (18, .pointer (some ⟨b, 0, none⟩)) :: (17, .pointer (some ⟨b, 0, none⟩)) :: _) rfl ?_; clear hA; intro a hA
  refine st_val hA rfl rfl (by decide) (rn_load tbOk hA rfl rfl rfl rfl (cell_row (hS.heapAt 0 rfl) rfl)) ?_; clear hA; intro a hA
  refine st_run tbOk 2 hA (e' := (22, .int .u32 (IntKind.u32.wrap (id - 1))) :: (21, .int .u32 id) :: _) rfl ?_; clear hA; intro a hA
  replace hA := hA.rw 22 (v' := .int .u32 ((k : Nat) : Int)) rfl (vint (by rw [wrap_u32 (by omega) (by omega)]; omega))
  refine st_val hA rfl rfl (by decide) (rn_indexAddr tbOk hA k (o + (k * 25)) rfl rfl rfl rfl rfl rfl (by rfl) (by omega) (by first | rfl | simp [Nat.mul_one, Nat.zero_add] | omega)) ?_; clear hA; intro a hA
  refine st_run tbOk 1 hA (e' := (4, .pointer (some ⟨bb, o + (k * 25), none⟩)) :: _) rfl ?_; clear hA; intro a hA
  refine wpList_nil ?_
  replace hA := hA.sel [4] (e' := [(4, .pointer (some ⟨bb, o + (k * 25), none⟩))]) rfl
  refine xt_norm ?_
  refine wp_ret ?_
  refine ret1 (fn := Tryd.f18) hA rfl rfl ?_
  exact ⟨rfl, hS⟩

theorem getp_none18 {w0 w : World} {F : List Chunk} {b n c : Nat} {A : Option Addr} {p wt tr : Int} (hS : St w0 w ([(b, rowO [.int .u64 p, .int .i64 wt, .int .i64 tr, .slice A n c] 61)] :: F)) {id : Int} (hid : id < 1 ∨ (n : Int) < id) (h0 : 0 ≤ id) (h1 : id < 4294967296) :
    Ret Tryd.prog 18 #[.pointer (some ⟨b, 0, none⟩), .int .u32 id] w (fun v w' => v = .pointer none ∧ St w0 w' ([(b, rowO [.int .u64 p, .int .i64 wt, .int .i64 tr, .slice A n c] 61)] :: F)) := by
  refine enter (vs := [.pointer (some ⟨b, 0, none⟩), .int .u32 id]) 24 Tryd.func18 rfl rfl (by simp) ?_; intro a hA
  refine wp_seq ?_
  refine wp_region_lit ?_
  refine st_run tbOk 1 hA (e' := (4, .pointer none) :: _) rfl ?_; clear hA; intro a hA
  refine wpList_nil ?_
  replace hA := hA.sel [0, 1] (e' := [(0, .pointer (some ⟨b, 0, none⟩)), (1, .int .u32 id)]) rfl
  refine xt_norm ?_
  refine wp_seq ?_
  refine wp_seq ?_
  refine wp_region_lit ?_
  refine st_run tbOk 3 hA (e' := (7, .bool (decide (id < 1))) :: (6, .bool (decide (id < 1))) :: (5, .int .u32 id) :: _) rfl ?_; clear hA; intro a hA
  by_cases hc1 : id < 1
  · first
    | (exfalso; omega)
    | (replace hA := hA.rw 6 (v' := .bool true) rfl (vb_true hc1)
       replace hA := hA.rw 7 (v' := .bool true) rfl (vb_true hc1)
       refine st_run tbOk 9 hA (e' := (16, .bool true) :: (15, undef) :: (14, undef) :: (13, undef) :: (12, undef) :: (11, undef) :: (10, undef) :: (9, undef) :: (8, undef) :: _) rfl ?_; clear hA; intro a hA
       refine wpList_nil ?_
       replace hA := hA.sel [0, 1, 16] (e' := [(0, .pointer (some ⟨b, 0, none⟩)), (1, .int .u32 id), (16, .bool true)]) rfl
       refine xt_norm ?_
       refine cd_cond_t hA rfl ?_
       refine wp_seq ?_
       refine wp_region_lit ?_
       refine st_run tbOk 1 hA (e' := (4, .pointer none) :: _) rfl ?_; clear hA; intro a hA
       refine wpList_nil ?_
       replace hA := hA.sel [4] (e' := [(4, .pointer none)]) rfl
       refine xt_norm ?_
       refine wp_ret (xt_ret ?_)
       refine ret1 (fn := Tryd.f18) hA rfl rfl ?_
       exact ⟨rfl, hS⟩)
  · first
    | (exfalso; omega)
    | (replace hA := hA.rw 6 (v' := .bool false) rfl (vb_false hc1)
       replace hA := hA.rw 7 (v' := .bool false) rfl (vb_false hc1)
       refine st_run tbOk 2 hA (e' := (9, .int .i64 (IntKind.i64.wrap id)) :: (8, .int .u32 id) :: _) rfl ?_; clear hA; intro a hA
       replace hA := hA.rw 9 (v' := .int .i64 id) rfl (wr64 (by rfl) (by omega) (by omega))
       refine st_run tbOk 3 hA (e' := (12, .pointer (some ⟨b, 3, none⟩)) :: (11, .pointer (some ⟨b, 0, none⟩)) :: (10, .pointer (some ⟨b, 0, none⟩)) :: _) rfl ?_; clear hA; intro a hA
       refine st_val hA rfl rfl (by decide) (rn_load tbOk hA rfl rfl rfl rfl (cell_row (hS.heapAt 0 rfl) rfl)) ?_; clear hA; intro a hA
       refine st_run tbOk 3 hA (e' := (16, .bool (decide (id > ((n : Nat) : Int)))) :: (15, .bool (decide (id > ((n : Nat) : Int)))) :: (14, .int .i64 ((n : Nat) : Int)) :: _) rfl ?_; clear hA; intro a hA
       refine wpList_nil ?_
       replace hA := hA.sel [0, 1, 16] (e' := [(0, .pointer (some ⟨b, 0, none⟩)), (1, .int .u32 id), (16, .bool (decide (id > ((n : Nat) : Int))))]) rfl
       refine xt_norm ?_
       by_cases hc2 : id > ((n : Nat) : Int)
       · first
         | (exfalso; omega)
         | (replace hA := hA.rw 16 (v' := .bool true) rfl (vb_true hc2)
            refine cd_cond_t hA rfl ?_
            refine wp_seq ?_
            refine wp_region_lit ?_
            refine st_run tbOk 1 hA (e' := (4, .pointer none) :: _) rfl ?_; clear hA; intro a hA
            refine wpList_nil ?_
            replace hA := hA.sel [4] (e' := [(4, .pointer none)]) rfl
            refine xt_norm ?_
            refine wp_ret (xt_ret ?_)
            refine ret1 (fn := Tryd.f18) hA rfl rfl ?_
            exact ⟨rfl, hS⟩)
       · first
         | (exfalso; omega)
         | (replace hA := hA.rw 16 (v' := .bool false) rfl (vb_false hc2)
            refine cd_cond_f hA rfl ?_
            refine wp_skip ?_
            refine xt_norm ?_
            refine wp_seq ?_
            exfalso; omega))

theorem start_ok9 {w0 w : World} {F : List Chunk} {L D : Chunk} {b : Nat} {p wt tr : Int} {cs : List Call} (hS : St w0 w (L :: D :: F)) (hM : CR b p wt tr cs L) (m0 m1 m2 m3 m4 m5 m6 m7 m8 m9 : Int) {d : Value} {bs : List UInt8} (hd : RdSX w0 (D :: F) 1 d bs.length (rows encB bs)) (hbl : bs.length ≤ 140737488351232) (hl : cs.length < 64) :
    Ret Tryd.prog 9 #[.pointer (some ⟨b, 0, none⟩), .agg #[.int .u64 m0, .int .u64 m1, .int .u32 m2, .int .u16 m3, .int .u16 m4, .int .u64 m5, .int .u32 m6, .int .u8 m7, .int .u64 m8, .int .u64 m9, d]] w (fun v w' => ∃ L' E A c A2 c2, CR b p wt tr (cs ++ [(m0, p, ((cs.length + 1 : Nat) : Int), m3, 0, m5, m6, m7, m8, m9, A, c, bs, 1, 1, wt, 0, 0, 0, 0, 0, 0, 0, 0, 0, 0, none, 0, ([] : List UInt8))]) L' ∧ DD w0 E A c bs ∧ DD w0 E A2 c2 bs ∧ v = .tuple #[.agg #[.int .u64 m0, .int .u64 p, .int .u32 ((cs.length + 1 : Nat) : Int), .int .u16 m3, .int .u16 0, .int .u64 m5, .int .u32 m6, .int .u8 m7, .int .u64 m8, .int .u64 m9, .slice A2 bs.length c2], .nilIface] ∧ St w0 w' (L' :: (E ++ D) :: F)) := by
  obtain ⟨v, C, hO, rfl⟩ := hM
  obtain ⟨A, c, rfl, hmc, hcx⟩ := hO.open'
  replace hS : St w0 w ([(b, rowO [.int .u64 p, .int .i64 wt, .int .i64 tr, .slice A cs.length c] 61)] :: C :: D :: F) := hS.split
  obtain ⟨B, d', rfl, hmd, hdx⟩ := (hd _ (hS.tail 2 rfl)).open'
  refine enter (vs := [.pointer (some ⟨b, 0, none⟩), .agg #[.int .u64 m0, .int .u64 m1, .int .u32 m2, .int .u16 m3, .int .u16 m4, .int .u64 m5, .int .u32 m6, .int .u8 m7, .int .u64 m8, .int .u64 m9, .slice B bs.length d']]) 49 Tryd.func9 rfl rfl (by simp) ?_; intro a hA
  refine wp_seq ?_
  refine wp_region_lit ?_
  refine st_box hA hS [.int .u64 m0, .int .u64 m1, .int .u32 m2, .int .u16 m3, .int .u16 m4, .int .u64 m5, .int .u32 m6, .int .u8 m7, .int .u64 m8, .int .u64 m9, .slice B bs.length d'] rfl rfl rfl rfl rfl (by decide) ?_; clear hA hS; intro b1 w2 a hS hA
  refine st_alloc tbOk hA hS [.int .u64 0, .int .u64 0, .int .u32 0, .int .u16 0, .int .u16 0, .int .u64 0, .int .u32 0, .int .u8 0, .int .u64 0, .int .u64 0, .slice none 0 0] rfl rfl rfl rfl rfl (by decide) ?_; clear hA hS; intro b3 w4 a hS hA
  refine st_run tbOk 1 hA (e' := (5, .nilIface) :: _) rfl ?_; clear hA; intro a hA
  refine wpList_nil ?_
  replace hA := hA.sel [0, 3, 4] (e' := [(0, .pointer (some ⟨b, 0, none⟩)), (3, .pointer (some ⟨b1, 0, none⟩)), (4, .pointer (some ⟨b3, 0, none⟩))]) rfl
  refine xt_norm ?_
  refine wp_seq ?_
  refine wp_seq ?_
  refine wp_region_lit ?_
  refine st_run tbOk 3 hA (e' := (8, .pointer (some ⟨b, 3, none⟩)) :: (7, .pointer (some ⟨b, 0, none⟩)) :: (6, .pointer (some ⟨b, 0, none⟩)) :: _) rfl ?_; clear hA; intro a hA
  refine st_val hA rfl rfl (by decide) (rn_load tbOk hA rfl rfl rfl rfl (cell_row (hS.heapAt 2 rfl) rfl)) ?_; clear hA; intro a hA
  refine st_run tbOk 2 hA (e' := (11, .bool (decide (((cs.length : Nat) : Int) ≥ 64))) :: (10, .int .i64 ((cs.length : Nat) : Int)) :: _) rfl ?_; clear hA; intro a hA
  refine wpList_nil ?_
  replace hA := hA.sel [0, 3, 4, 11] (e' := [(0, .pointer (some ⟨b, 0, none⟩)), (3, .pointer (some ⟨b1, 0, none⟩)), (4, .pointer (some ⟨b3, 0, none⟩)), (11, .bool (decide (((cs.length : Nat) : Int) ≥ 64)))]) rfl
  refine xt_norm ?_
  have hc5 : ¬ (((cs.length : Nat) : Int) ≥ 64) := by omega
  replace hA := hA.rw 11 (v' := .bool false) rfl (vb_false hc5)
  refine cd_cond_f hA rfl ?_
  refine wp_skip ?_
  refine xt_norm ?_
  refine wp_seq ?_
  replace hS := hS.front 1 (C := [(b1, rowO [.int .u64 m0, .int .u64 m1, .int .u32 m2, .int .u16 m3, .int .u16 m4, .int .u64 m5, .int .u32 m6, .int .u8 m7, .int .u64 m8, .int .u64 m9, .slice B bs.length d'] 32)]) (L' := [(b3, rowO [.int .u64 0, .int .u64 0, .int .u32 0, .int .u16 0, .int .u16 0, .int .u64 0, .int .u32 0, .int .u8 0, .int .u64 0, .int .u64 0, .slice none 0 0] 32)] :: [(b, rowO [.int .u64 p, .int .i64 wt, .int .i64 tr, .slice A cs.length c] 61)] :: C :: D :: F) rfl rfl
  refine wp_draw (fun w' => St w0 w' ([(b3, rowO [.int .u64 0, .int .u64 0, .int .u32 0, .int .u16 0, .int .u16 0, .int .u64 0, .int .u32 0, .int .u8 0, .int .u64 0, .int .u64 0, .slice none 0 0] 32)] :: [(b, rowO [.int .u64 p, .int .i64 wt, .int .i64 tr, .slice A cs.length c] 61)] :: C :: D :: F)) [] [(0, true), (1, true), (2, true), (3, true), (4, true), (5, true), (6, true), (7, true), (8, true), (9, true), (10, true), (11, true), (12, false), (13, true), (14, false), (15, true), (16, false)] mixed (by kernel_rfl) (by rintro c a w ⟨_, _, h, _⟩; cases h) (by rfl) (by kernel_rfl) ?_
  replace hS := hS.drew
  refine dr_run tbOk 3 hA (hS.tail 1 rfl) (e' := (16, .pointer (some ⟨b, 3, none⟩)) :: (15, .pointer (some ⟨b, 0, none⟩)) :: (14, .pointer (some ⟨b, 0, none⟩)) :: _) rfl ?_; clear hA; intro a hA
  refine dr_y hA rfl rfl rfl (by decide) (hS.tail 1 rfl) (fun w' hS' => rn_load tbOk hA rfl rfl rfl rfl (cell_row (hS'.heapAt 1 rfl) rfl)) ?_; clear hA; intro a hA
  refine dr_run tbOk 2 hA (hS.tail 1 rfl) (e' := (19, .int .i64 (IntKind.i64.wrap (((cs.length : Nat) : Int) + 1))) :: (18, .int .i64 ((cs.length : Nat) : Int)) :: _) rfl ?_; clear hA; intro a hA
  replace hA := hA.rw 19 (v' := .int .i64 ((cs.length + 1 : Nat) : Int)) rfl (wr64 (by omega) (by omega) (by omega))
  refine dr_run tbOk 1 hA (hS.tail 1 rfl) (e' := (20, .int .u32 (IntKind.u32.wrap ((cs.length + 1 : Nat) : Int))) :: _) rfl ?_; clear hA; intro a hA
  replace hA := hA.rw 20 (v' := .int .u32 ((cs.length + 1 : Nat) : Int)) rfl (vint (wrap_u32 (by omega) (by omega)))
  refine dr_run tbOk 3 hA (hS.tail 1 rfl) (e' := (23, .pointer (some ⟨b, 0, none⟩)) :: (22, .pointer (some ⟨b, 0, none⟩)) :: (21, .pointer (some ⟨b, 0, none⟩)) :: _) rfl ?_; clear hA; intro a hA
  refine dr_y hA rfl rfl rfl (by decide) (hS.tail 1 rfl) (fun w' hS' => rn_load tbOk hA rfl rfl rfl rfl (cell_row (hS'.heapAt 1 rfl) rfl)) ?_; clear hA; intro a hA
  refine dr_run tbOk 1 hA (hS.tail 1 rfl) (e' := (25, .pointer (some ⟨b1, 2, none⟩)) :: _) rfl ?_; clear hA; intro a hA
  refine dr_b (o := _) rfl ?_
  refine st_store tbOk hA hS [.int .u32 ((cs.length + 1 : Nat) : Int)] [.int .u64 m0, .int .u64 m1, .int .u32 ((cs.length + 1 : Nat) : Int), .int .u16 m3, .int .u16 m4, .int .u64 m5, .int .u32 m6, .int .u8 m7, .int .u64 m8, .int .u64 m9, .slice B bs.length d'] rfl rfl rfl rfl rfl rfl (by intro u hu; rw [List.mem_singleton.1 hu]; rfl) (Nat.le_of_ble_eq_true rfl) rfl rfl rfl ?_; clear hS; intro w6 hS
  refine dr_nil (.inr (hS.tail 1 rfl)) ?_
  refine dr_run tbOk 1 hA (hS.tail 1 rfl) (e' := (26, .pointer (some ⟨b1, 1, none⟩)) :: _) rfl ?_; clear hA; intro a hA
  refine dr_b (o := _) rfl ?_
  refine st_store tbOk hA hS [.int .u64 p] [.int .u64 m0, .int .u64 p, .int .u32 ((cs.length + 1 : Nat) : Int), .int .u16 m3, .int .u16 m4, .int .u64 m5, .int .u32 m6, .int .u8 m7, .int .u64 m8, .int .u64 m9, .slice B bs.length d'] rfl rfl rfl rfl rfl rfl (by intro u hu; rw [List.mem_singleton.1 hu]; rfl) (Nat.le_of_ble_eq_true rfl) rfl rfl rfl ?_; clear hS; intro w7 hS
  refine dr_nil (.inr (hS.tail 1 rfl)) ?_
  refine dr_run tbOk 1 hA (hS.tail 1 rfl) (e' := (27, .pointer (some ⟨b1, 4, none⟩)) :: _) rfl ?_; clear hA; intro a hA
  refine dr_b (o := _) rfl ?_
  refine st_store tbOk hA hS [.int .u16 0] [.int .u64 m0, .int .u64 p, .int .u32 ((cs.length + 1 : Nat) : Int), .int .u16 m3, .int .u16 0, .int .u64 m5, .int .u32 m6, .int .u8 m7, .int .u64 m8, .int .u64 m9, .slice B bs.length d'] rfl rfl rfl rfl rfl rfl (by intro u hu; rw [List.mem_singleton.1 hu]; rfl) (Nat.le_of_ble_eq_true rfl) rfl rfl rfl ?_; clear hS; intro w8 hS
  refine dr_nil (.inr (hS.tail 1 rfl)) ?_
  refine dr_end ?_
  replace hA := hA.sel [0, 3, 4] (e' := [(0, .pointer (some ⟨b, 0, none⟩)), (3, .pointer (some ⟨b1, 0, none⟩)), (4, .pointer (some ⟨b3, 0, none⟩))]) rfl
  refine xt_norm ?_
  refine wp_seq ?_
  refine wp_region_lit ?_
  refine st_run tbOk 1 hA (e' := (28, .pointer (some ⟨b1, 10, none⟩)) :: _) rfl ?_; clear hA; intro a hA
  refine st_val hA rfl rfl (by decide) (rn_load tbOk hA rfl rfl rfl rfl (cell_row (hS.heapAt 0 rfl) rfl)) ?_; clear hA; intro a hA
  refine st_call0 hA rfl rfl rfl isfn16 rfl rfl (by decide) (clonex16 hS (l := bs) (fun w' h => (hd _ (h.tail 4 rfl))) (by first | omega | (simp; omega))) ?_
  clear hA hS; rintro _ w12 a ⟨A9, c10, C11, hOC11, rfl, hS⟩ hA
  refine st_run tbOk 1 hA (e' := (31, .pointer (some ⟨b1, 10, none⟩)) :: _) rfl ?_; clear hA; intro a hA
  replace hS := hS.front 1 (C := [(b1, rowO [.int .u64 m0, .int .u64 p, .int .u32 ((cs.length + 1 : Nat) : Int), .int .u16 m3, .int .u16 0, .int .u64 m5, .int .u32 m6, .int .u8 m7, .int .u64 m8, .int .u64 m9, .slice B bs.length d'] 32)]) (L' := C11 :: [(b3, rowO [.int .u64 0, .int .u64 0, .int .u32 0, .int .u16 0, .int .u16 0, .int .u64 0, .int .u32 0, .int .u8 0, .int .u64 0, .int .u64 0, .slice none 0 0] 32)] :: [(b, rowO [.int .u64 p, .int .i64 wt, .int .i64 tr, .slice A cs.length c] 61)] :: C :: D :: F) rfl rfl
  refine st_store tbOk hA hS [.slice A9 bs.length c10] [.int .u64 m0, .int .u64 p, .int .u32 ((cs.length + 1 : Nat) : Int), .int .u16 m3, .int .u16 0, .int .u64 m5, .int .u32 m6, .int .u8 m7, .int .u64 m8, .int .u64 m9, .slice A9 bs.length c10] rfl rfl rfl rfl rfl rfl (by intro u hu; rw [List.mem_singleton.1 hu]; rfl) (Nat.le_of_ble_eq_true rfl) rfl rfl rfl ?_; clear hS; intro w13 hS
  refine wpList_nil ?_
  replace hA := hA.sel [0, 3, 4] (e' := [(0, .pointer (some ⟨b, 0, none⟩)), (3, .pointer (some ⟨b1, 0, none⟩)), (4, .pointer (some ⟨b3, 0, none⟩))]) rfl
  refine xt_norm ?_
  refine wp_seq ?_
  replace hS := hS.front 4 (C := C) (L' := [(b1, rowO [.int .u64 m0, .int .u64 p, .int .u32 ((cs.length + 1 : Nat) : Int), .int .u16 m3, .int .u16 0, .int .u64 m5, .int .u32 m6, .int .u8 m7, .int .u64 m8, .int .u64 m9, .slice A9 bs.length c10] 32)] :: C11 :: [(b3, rowO [.int .u64 0, .int .u64 0, .int .u32 0, .int .u16 0, .int .u16 0, .int .u64 0, .int .u32 0, .int .u8 0, .int .u64 0, .int .u64 0, .slice none 0 0] 32)] :: [(b, rowO [.int .u64 p, .int .i64 wt, .int .i64 tr, .slice A cs.length c] 61)] :: D :: F) rfl rfl
  refine wp_draw (fun w' => St w0 w' ([(b1, rowO [.int .u64 m0, .int .u64 p, .int .u32 ((cs.length + 1 : Nat) : Int), .int .u16 m3, .int .u16 0, .int .u64 m5, .int .u32 m6, .int .u8 m7, .int .u64 m8, .int .u64 m9, .slice A9 bs.length c10] 32)] :: C11 :: [(b3, rowO [.int .u64 0, .int .u64 0, .int .u32 0, .int .u16 0, .int .u16 0, .int .u64 0, .int .u32 0, .int .u8 0, .int .u64 0, .int .u64 0, .slice none 0 0] 32)] :: [(b, rowO [.int .u64 p, .int .i64 wt, .int .i64 tr, .slice A cs.length c] 61)] :: D :: F)) [15] [(0, true), (1, true), (2, true), (3, true), (4, true), (5, true), (6, true), (7, true), (8, true), (9, true), (10, true), (11, false), (12, false), (13, true), (14, true), (15, false)] mixed (by kernel_rfl) (by rintro c a w ⟨_, _, h, _⟩; cases h) (by rfl) (by kernel_rfl) ?_
  replace hS := hS.drew
  refine dr_run tbOk 4 hA (hS.tail 1 rfl) (e' := (35, .pointer (some ⟨b, 3, none⟩)) :: (34, .pointer (some ⟨b, 0, none⟩)) :: (33, .pointer (some ⟨b, 0, none⟩)) :: (32, .pointer (some ⟨b, 0, none⟩)) :: _) rfl ?_; clear hA; intro a hA
  refine dr_y hA rfl rfl rfl (by decide) (hS.tail 1 rfl) (fun w' hS' => rn_load tbOk hA rfl rfl rfl rfl (cell_row (hS'.heapAt 3 rfl) rfl)) ?_; clear hA; intro a hA
  refine dr_y hA rfl rfl rfl (by decide) (hS.tail 1 rfl) (fun w' hS' => rn_loadA tbOk hA [.int .u64 m0, .int .u64 p, .int .u32 ((cs.length + 1 : Nat) : Int), .int .u16 m3, .int .u16 0, .int .u64 m5, .int .u32 m6, .int .u8 m7, .int .u64 m8, .int .u64 m9, .slice A9 bs.length c10] rfl rfl rfl rfl rfl (cells_row (hS'.heapAt 0 rfl) rfl)) ?_; clear hA; intro a hA
  refine dr_run tbOk 3 hA (hS.tail 1 rfl) (e' := (40, .pointer (some ⟨b, 1, none⟩)) :: (39, .pointer (some ⟨b, 0, none⟩)) :: (38, .pointer (some ⟨b, 0, none⟩)) :: _) rfl ?_; clear hA; intro a hA
  refine dr_y hA rfl rfl rfl (by decide) (hS.tail 1 rfl) (fun w' hS' => rn_load tbOk hA rfl rfl rfl rfl (cell_row (hS'.heapAt 3 rfl) rfl)) ?_; clear hA; intro a hA
  refine dr_y hA rfl rfl rfl (by decide) (hS.tail 1 rfl) (fun w' hS' => rn_build tbOk hA rfl rfl rfl rfl rfl rfl rfl) ?_; clear hA; intro a hA
  refine dr_b (o := _) rfl ?_
  refine st_buildSlice tbOk hA hS [.int .u64 m0, .int .u64 p, .int .u32 ((cs.length + 1 : Nat) : Int), .int .u16 m3, .int .u16 0, .int .u64 m5, .int .u32 m6, .int .u8 m7, .int .u64 m8, .int .u64 m9, .slice A9 bs.length c10, .int .i64 1, .int .i64 1, .int .i64 wt, .int .u64 0, .int .u64 0, .int .u32 0, .int .u16 0, .int .u16 0, .int .u64 0, .int .u32 0, .int .u8 0, .int .u64 0, .int .u64 0, .slice none 0 0] rfl rfl rfl rfl rfl (by decide) (by kernel_rfl) rfl rfl (by decide) ?_; clear hA hS; intro b14 w15 a hS hA
  refine dr_nil (.inr (hS.tail 2 rfl)) ?_
  refine dr_b (o := _) rfl ?_
  replace hS := hS.front 1 (C := C) (L' := [(b14, rowO [.int .u64 m0, .int .u64 p, .int .u32 ((cs.length + 1 : Nat) : Int), .int .u16 m3, .int .u16 0, .int .u64 m5, .int .u32 m6, .int .u8 m7, .int .u64 m8, .int .u64 m9, .slice A9 bs.length c10, .int .i64 1, .int .i64 1, .int .i64 wt, .int .u64 0, .int .u64 0, .int .u32 0, .int .u16 0, .int .u16 0, .int .u64 0, .int .u32 0, .int .u8 0, .int .u64 0, .int .u64 0, .slice none 0 0] 64)] :: [(b1, rowO [.int .u64 m0, .int .u64 p, .int .u32 ((cs.length + 1 : Nat) : Int), .int .u16 m3, .int .u16 0, .int .u64 m5, .int .u32 m6, .int .u8 m7, .int .u64 m8, .int .u64 m9, .slice A9 bs.length c10] 32)] :: C11 :: [(b3, rowO [.int .u64 0, .int .u64 0, .int .u32 0, .int .u16 0, .int .u16 0, .int .u64 0, .int .u32 0, .int .u8 0, .int .u64 0, .int .u64 0, .slice none 0 0] 32)] :: [(b, rowO [.int .u64 p, .int .i64 wt, .int .i64 tr, .slice A cs.length c] 61)] :: D :: F) rfl rfl
  refine st_append tbOk hA (m := cs.length) (q := 1) (xs := rows encCall cs) (news := rows encCall ([(m0, p, ((cs.length + 1 : Nat) : Int), m3, 0, m5, m6, m7, m8, m9, A9, c10, bs, 1, 1, wt, 0, 0, 0, 0, 0, 0, 0, 0, 0, 0, none, 0, ([] : List UInt8))] : List (Int × Int × Int × Int × Int × Int × Int × Int × Int × Int × Option Addr × Nat × List UInt8 × Int × Int × Int × Int × Int × Int × Int × Int × Int × Int × Int × Int × Int × Option Addr × Nat × List UInt8))) rfl rfl rfl rfl rfl rfl rfl rfl (by decide) hO hS (((Own.full (T := 64) (size := 25) (g := b14) (m := 1) rfl (by decide)).rd (hS.own_ 1 rfl)).x) (rows_one encCall_ok _) (maxLen_le (by first | omega | (simp; omega))) (by show (cs.length + 1) * 184 ≤ 140737488355328; first | omega | (simp; omega)) rfl rfl (by decide) ?_
  clear hA hS; intro v16 w17 C18 a hO18 hS hA
  replace hO18 := Own.app (l := cs) (l2 := ([(m0, p, ((cs.length + 1 : Nat) : Int), m3, 0, m5, m6, m7, m8, m9, A9, c10, bs, 1, 1, wt, 0, 0, 0, 0, 0, 0, 0, 0, 0, 0, none, 0, ([] : List UInt8))] : List (Int × Int × Int × Int × Int × Int × Int × Int × Int × Int × Option Addr × Nat × List UInt8 × Int × Int × Int × Int × Int × Int × Int × Int × Int × Int × Int × Int × Int × Option Addr × Nat × List UInt8))) hO18
  obtain ⟨A19, c20, rfl, hmc20, hxc20⟩ := hO18.open'
  refine dr_nil (.inr (hS.tail 2 rfl)) ?_
  refine dr_run tbOk 2 hA (hS.tail 2 rfl) (e' := (46, .pointer (some ⟨b, 3, none⟩)) :: (45, .pointer (some ⟨b, 0, none⟩)) :: _) rfl ?_; clear hA; intro a hA
  refine dr_b (o := _) rfl ?_
  replace hS := hS.front 5 (C := [(b, rowO [.int .u64 p, .int .i64 wt, .int .i64 tr, .slice A cs.length c] 61)]) (L' := C18 :: [(b14, rowO [.int .u64 m0, .int .u64 p, .int .u32 ((cs.length + 1 : Nat) : Int), .int .u16 m3, .int .u16 0, .int .u64 m5, .int .u32 m6, .int .u8 m7, .int .u64 m8, .int .u64 m9, .slice A9 bs.length c10, .int .i64 1, .int .i64 1, .int .i64 wt, .int .u64 0, .int .u64 0, .int .u32 0, .int .u16 0, .int .u16 0, .int .u64 0, .int .u32 0, .int .u8 0, .int .u64 0, .int .u64 0, .slice none 0 0] 64)] :: [(b1, rowO [.int .u64 m0, .int .u64 p, .int .u32 ((cs.length + 1 : Nat) : Int), .int .u16 m3, .int .u16 0, .int .u64 m5, .int .u32 m6, .int .u8 m7, .int .u64 m8, .int .u64 m9, .slice A9 bs.length c10] 32)] :: C11 :: [(b3, rowO [.int .u64 0, .int .u64 0, .int .u32 0, .int .u16 0, .int .u16 0, .int .u64 0, .int .u32 0, .int .u8 0, .int .u64 0, .int .u64 0, .slice none 0 0] 32)] :: D :: F) rfl rfl
  refine st_store tbOk hA hS [.slice A19 ((cs ++ ([(m0, p, ((cs.length + 1 : Nat) : Int), m3, 0, m5, m6, m7, m8, m9, A9, c10, bs, 1, 1, wt, 0, 0, 0, 0, 0, 0, 0, 0, 0, 0, none, 0, ([] : List UInt8))] : List (Int × Int × Int × Int × Int × Int × Int × Int × Int × Int × Option Addr × Nat × List UInt8 × Int × Int × Int × Int × Int × Int × Int × Int × Int × Int × Int × Int × Int × Option Addr × Nat × List UInt8))).length) c20] [.int .u64 p, .int .i64 wt, .int .i64 tr, .slice A19 ((cs ++ ([(m0, p, ((cs.length + 1 : Nat) : Int), m3, 0, m5, m6, m7, m8, m9, A9, c10, bs, 1, 1, wt, 0, 0, 0, 0, 0, 0, 0, 0, 0, 0, none, 0, ([] : List UInt8))] : List (Int × Int × Int × Int × Int × Int × Int × Int × Int × Int × Option Addr × Nat × List UInt8 × Int × Int × Int × Int × Int × Int × Int × Int × Int × Int × Int × Int × Int × Option Addr × Nat × List UInt8))).length) c20] rfl rfl rfl rfl rfl rfl (by intro u hu; rw [List.mem_singleton.1 hu]; rfl) (Nat.le_of_ble_eq_true rfl) rfl rfl rfl ?_; clear hS; intro w21 hS
  refine dr_nil (.inl (by decide)) ?_
  refine dr_end ?_
  replace hA := hA.sel [3, 4] (e' := [(3, .pointer (some ⟨b1, 0, none⟩)), (4, .pointer (some ⟨b3, 0, none⟩))]) rfl
  refine xt_norm ?_
  refine wp_seq ?_
  refine wp_region_lit ?_
  refine st_val hA rfl rfl (by decide) (rn_loadA tbOk hA [.int .u64 m0, .int .u64 p, .int .u32 ((cs.length + 1 : Nat) : Int), .int .u16 m3, .int .u16 0, .int .u64 m5, .int .u32 m6, .int .u8 m7, .int .u64 m8, .int .u64 m9, .slice A9 bs.length c10] rfl rfl rfl rfl rfl (cells_row (hS.heapAt 3 rfl) rfl)) ?_; clear hA; intro a hA
  refine st_call0 hA rfl rfl rfl isfn17 rfl rfl (by decide) (ccop17 hS m0 p ((cs.length + 1 : Nat) : Int) m3 0 m5 m6 m7 m8 m9 (bs := bs) (RdS.x (RdS.own hOC11 4 rfl)) (by omega)) ?_
  clear hA hS; rintro _ w25 a ⟨A22, c23, C24, hOC24, rfl, hS⟩ hA
  replace hS := hS.front 6 (C := [(b3, rowO [.int .u64 0, .int .u64 0, .int .u32 0, .int .u16 0, .int .u16 0, .int .u64 0, .int .u32 0, .int .u8 0, .int .u64 0, .int .u64 0, .slice none 0 0] 32)]) (L' := C24 :: [(b, rowO [.int .u64 p, .int .i64 wt, .int .i64 tr, .slice A19 ((cs ++ ([(m0, p, ((cs.length + 1 : Nat) : Int), m3, 0, m5, m6, m7, m8, m9, A9, c10, bs, 1, 1, wt, 0, 0, 0, 0, 0, 0, 0, 0, 0, 0, none, 0, ([] : List UInt8))] : List (Int × Int × Int × Int × Int × Int × Int × Int × Int × Int × Option Addr × Nat × List UInt8 × Int × Int × Int × Int × Int × Int × Int × Int × Int × Int × Int × Int × Int × Option Addr × Nat × List UInt8))).length) c20] 61)] :: C18 :: [(b14, rowO [.int .u64 m0, .int .u64 p, .int .u32 ((cs.length + 1 : Nat) : Int), .int .u16 m3, .int .u16 0, .int .u64 m5, .int .u32 m6, .int .u8 m7, .int .u64 m8, .int .u64 m9, .slice A9 bs.length c10, .int .i64 1, .int .i64 1, .int .i64 wt, .int .u64 0, .int .u64 0, .int .u32 0, .int .u16 0, .int .u16 0, .int .u64 0, .int .u32 0, .int .u8 0, .int .u64 0, .int .u64 0, .slice none 0 0] 64)] :: [(b1, rowO [.int .u64 m0, .int .u64 p, .int .u32 ((cs.length + 1 : Nat) : Int), .int .u16 m3, .int .u16 0, .int .u64 m5, .int .u32 m6, .int .u8 m7, .int .u64 m8, .int .u64 m9, .slice A9 bs.length c10] 32)] :: C11 :: D :: F) rfl rfl
  refine st_store tbOk hA hS [.int .u64 m0, .int .u64 p, .int .u32 ((cs.length + 1 : Nat) : Int), .int .u16 m3, .int .u16 0, .int .u64 m5, .int .u32 m6, .int .u8 m7, .int .u64 m8, .int .u64 m9, .slice A22 bs.length c23] [.int .u64 m0, .int .u64 p, .int .u32 ((cs.length + 1 : Nat) : Int), .int .u16 m3, .int .u16 0, .int .u64 m5, .int .u32 m6, .int .u8 m7, .int .u64 m8, .int .u64 m9, .slice A22 bs.length c23] rfl rfl rfl rfl rfl rfl (by simp [Value.oneCell']) (Nat.le_of_ble_eq_true rfl) rfl rfl rfl ?_; clear hS; intro w26 hS
  refine st_run tbOk 1 hA (e' := (5, .nilIface) :: _) rfl ?_; clear hA; intro a hA
  refine wpList_nil ?_
  replace hA := hA.sel [4, 5] (e' := [(4, .pointer (some ⟨b3, 0, none⟩)), (5, .nilIface)]) rfl
  refine xt_norm ?_
  refine wp_ret ?_
  refine retc2 tbOk (fn := Tryd.f9) (cs := [.int .u64 m0, .int .u64 p, .int .u32 ((cs.length + 1 : Nat) : Int), .int .u16 m3, .int .u16 0, .int .u64 m5, .int .u32 m6, .int .u8 m7, .int .u64 m8, .int .u64 m9, .slice A22 bs.length c23]) hA rfl rfl rfl rfl rfl rfl (cells_row (hS.heapAt 0 rfl) rfl) ?_
  replace hS := hS.drop1
  replace hS := hS.front 3 (C := [(b14, rowO [.int .u64 m0, .int .u64 p, .int .u32 ((cs.length + 1 : Nat) : Int), .int .u16 m3, .int .u16 0, .int .u64 m5, .int .u32 m6, .int .u8 m7, .int .u64 m8, .int .u64 m9, .slice A9 bs.length c10, .int .i64 1, .int .i64 1, .int .i64 wt, .int .u64 0, .int .u64 0, .int .u32 0, .int .u16 0, .int .u16 0, .int .u64 0, .int .u32 0, .int .u8 0, .int .u64 0, .int .u64 0, .slice none 0 0] 64)]) (L' := C24 :: [(b, rowO [.int .u64 p, .int .i64 wt, .int .i64 tr, .slice A19 ((cs ++ ([(m0, p, ((cs.length + 1 : Nat) : Int), m3, 0, m5, m6, m7, m8, m9, A9, c10, bs, 1, 1, wt, 0, 0, 0, 0, 0, 0, 0, 0, 0, 0, none, 0, ([] : List UInt8))] : List (Int × Int × Int × Int × Int × Int × Int × Int × Int × Int × Option Addr × Nat × List UInt8 × Int × Int × Int × Int × Int × Int × Int × Int × Int × Int × Int × Int × Int × Option Addr × Nat × List UInt8))).length) c20] 61)] :: C18 :: [(b1, rowO [.int .u64 m0, .int .u64 p, .int .u32 ((cs.length + 1 : Nat) : Int), .int .u16 m3, .int .u16 0, .int .u64 m5, .int .u32 m6, .int .u8 m7, .int .u64 m8, .int .u64 m9, .slice A9 bs.length c10] 32)] :: C11 :: D :: F) rfl rfl
  replace hS := hS.drop1
  replace hS := hS.front 3 (C := [(b1, rowO [.int .u64 m0, .int .u64 p, .int .u32 ((cs.length + 1 : Nat) : Int), .int .u16 m3, .int .u16 0, .int .u64 m5, .int .u32 m6, .int .u8 m7, .int .u64 m8, .int .u64 m9, .slice A9 bs.length c10] 32)]) (L' := C24 :: [(b, rowO [.int .u64 p, .int .i64 wt, .int .i64 tr, .slice A19 ((cs ++ ([(m0, p, ((cs.length + 1 : Nat) : Int), m3, 0, m5, m6, m7, m8, m9, A9, c10, bs, 1, 1, wt, 0, 0, 0, 0, 0, 0, 0, 0, 0, 0, none, 0, ([] : List UInt8))] : List (Int × Int × Int × Int × Int × Int × Int × Int × Int × Int × Option Addr × Nat × List UInt8 × Int × Int × Int × Int × Int × Int × Int × Int × Int × Int × Int × Int × Int × Option Addr × Nat × List UInt8))).length) c20] 61)] :: C18 :: C11 :: D :: F) rfl rfl
  replace hS := hS.drop1
  replace hS := hS.front 2 (C := C18) (L' := C24 :: [(b, rowO [.int .u64 p, .int .i64 wt, .int .i64 tr, .slice A19 ((cs ++ ([(m0, p, ((cs.length + 1 : Nat) : Int), m3, 0, m5, m6, m7, m8, m9, A9, c10, bs, 1, 1, wt, 0, 0, 0, 0, 0, 0, 0, 0, 0, 0, none, 0, ([] : List UInt8))] : List (Int × Int × Int × Int × Int × Int × Int × Int × Int × Int × Option Addr × Nat × List UInt8 × Int × Int × Int × Int × Int × Int × Int × Int × Int × Int × Int × Int × Int × Option Addr × Nat × List UInt8))).length) c20] 61)] :: C11 :: D :: F) rfl rfl
  replace hS := hS.front 2 (C := [(b, rowO [.int .u64 p, .int .i64 wt, .int .i64 tr, .slice A19 ((cs ++ ([(m0, p, ((cs.length + 1 : Nat) : Int), m3, 0, m5, m6, m7, m8, m9, A9, c10, bs, 1, 1, wt, 0, 0, 0, 0, 0, 0, 0, 0, 0, 0, none, 0, ([] : List UInt8))] : List (Int × Int × Int × Int × Int × Int × Int × Int × Int × Int × Option Addr × Nat × List UInt8 × Int × Int × Int × Int × Int × Int × Int × Int × Int × Int × Int × Int × Int × Option Addr × Nat × List UInt8))).length) c20] 61)]) (L' := C18 :: C24 :: C11 :: D :: F) rfl rfl
  replace hS := hS.front 4 (C := D) (L' := [(b, rowO [.int .u64 p, .int .i64 wt, .int .i64 tr, .slice A19 ((cs ++ ([(m0, p, ((cs.length + 1 : Nat) : Int), m3, 0, m5, m6, m7, m8, m9, A9, c10, bs, 1, 1, wt, 0, 0, 0, 0, 0, 0, 0, 0, 0, 0, none, 0, ([] : List UInt8))] : List (Int × Int × Int × Int × Int × Int × Int × Int × Int × Int × Option Addr × Nat × List UInt8 × Int × Int × Int × Int × Int × Int × Int × Int × Int × Int × Int × Int × Int × Option Addr × Nat × List UInt8))).length) c20] 61)] :: C18 :: C24 :: C11 :: F) rfl rfl
  replace hS := hS.front 4 (C := C11) (L' := D :: [(b, rowO [.int .u64 p, .int .i64 wt, .int .i64 tr, .slice A19 ((cs ++ ([(m0, p, ((cs.length + 1 : Nat) : Int), m3, 0, m5, m6, m7, m8, m9, A9, c10, bs, 1, 1, wt, 0, 0, 0, 0, 0, 0, 0, 0, 0, 0, none, 0, ([] : List UInt8))] : List (Int × Int × Int × Int × Int × Int × Int × Int × Int × Int × Option Addr × Nat × List UInt8 × Int × Int × Int × Int × Int × Int × Int × Int × Int × Int × Int × Int × Int × Option Addr × Nat × List UInt8))).length) c20] 61)] :: C18 :: C24 :: F) rfl rfl
  replace hS := hS.front 4 (C := C24) (L' := C11 :: D :: [(b, rowO [.int .u64 p, .int .i64 wt, .int .i64 tr, .slice A19 ((cs ++ ([(m0, p, ((cs.length + 1 : Nat) : Int), m3, 0, m5, m6, m7, m8, m9, A9, c10, bs, 1, 1, wt, 0, 0, 0, 0, 0, 0, 0, 0, 0, 0, none, 0, ([] : List UInt8))] : List (Int × Int × Int × Int × Int × Int × Int × Int × Int × Int × Option Addr × Nat × List UInt8 × Int × Int × Int × Int × Int × Int × Int × Int × Int × Int × Int × Int × Int × Option Addr × Nat × List UInt8))).length) c20] 61)] :: C18 :: F) rfl rfl
  replace hS := hS.join
  replace hS := hS.join
  replace hS := hS.front 2 (C := C18) (L' := ((C24 ++ C11) ++ D) :: [(b, rowO [.int .u64 p, .int .i64 wt, .int .i64 tr, .slice A19 ((cs ++ ([(m0, p, ((cs.length + 1 : Nat) : Int), m3, 0, m5, m6, m7, m8, m9, A9, c10, bs, 1, 1, wt, 0, 0, 0, 0, 0, 0, 0, 0, 0, 0, none, 0, ([] : List UInt8))] : List (Int × Int × Int × Int × Int × Int × Int × Int × Int × Int × Option Addr × Nat × List UInt8 × Int × Int × Int × Int × Int × Int × Int × Int × Int × Int × Int × Int × Int × Option Addr × Nat × List UInt8))).length) c20] 61)] :: F) rfl rfl
  replace hS := hS.front 2 (C := [(b, rowO [.int .u64 p, .int .i64 wt, .int .i64 tr, .slice A19 ((cs ++ ([(m0, p, ((cs.length + 1 : Nat) : Int), m3, 0, m5, m6, m7, m8, m9, A9, c10, bs, 1, 1, wt, 0, 0, 0, 0, 0, 0, 0, 0, 0, 0, none, 0, ([] : List UInt8))] : List (Int × Int × Int × Int × Int × Int × Int × Int × Int × Int × Option Addr × Nat × List UInt8 × Int × Int × Int × Int × Int × Int × Int × Int × Int × Int × Int × Int × Int × Option Addr × Nat × List UInt8))).length) c20] 61)]) (L' := C18 :: ((C24 ++ C11) ++ D) :: F) rfl rfl
  replace hS := hS.join
  exact ⟨_, _, _, _, _, _, ⟨_, _, hO18, rfl⟩, (DD.new hOC11).left, (DD.new hOC24).right, rfl, hS⟩

theorem start_full9 {w0 w : World} {F : List Chunk} {L D : Chunk} {b : Nat} {p wt tr : Int} {cs : List Call} (hS : St w0 w (L :: D :: F)) (hM : CR b p wt tr cs L) (m0 m1 m2 m3 m4 m5 m6 m7 m8 m9 : Int) {d : Value} {bs : List UInt8} (hd : RdSX w0 (D :: F) 1 d bs.length (rows encB bs)) (hbl : bs.length ≤ 140737488351232) (hl : 64 ≤ cs.length) :
    Ret Tryd.prog 9 #[.pointer (some ⟨b, 0, none⟩), .agg #[.int .u64 m0, .int .u64 m1, .int .u32 m2, .int .u16 m3, .int .u16 m4, .int .u64 m5, .int .u32 m6, .int .u8 m7, .int .u64 m8, .int .u64 m9, d]] w (fun v w' => ∃ L', CR b p wt tr cs L' ∧ v = .tuple #[.agg #[.int .u64 0, .int .u64 0, .int .u32 0, .int .u16 0, .int .u16 0, .int .u64 0, .int .u32 0, .int .u8 0, .int .u64 0, .int .u64 0, .slice none 0 0], .iface 52 (.int .i64 5)] ∧ St w0 w' (L' :: D :: F)) := by
  obtain ⟨v, C, hO, rfl⟩ := hM
  obtain ⟨A, c, rfl, hmc, hcx⟩ := hO.open'
  replace hS : St w0 w ([(b, rowO [.int .u64 p, .int .i64 wt, .int .i64 tr, .slice A cs.length c] 61)] :: C :: D :: F) := hS.split
  obtain ⟨B, d', rfl, hmd, hdx⟩ := (hd _ (hS.tail 2 rfl)).open'
  refine enter (vs := [.pointer (some ⟨b, 0, none⟩), .agg #[.int .u64 m0, .int .u64 m1, .int .u32 m2, .int .u16 m3, .int .u16 m4, .int .u64 m5, .int .u32 m6, .int .u8 m7, .int .u64 m8, .int .u64 m9, .slice B bs.length d']]) 49 Tryd.func9 rfl rfl (by simp) ?_; intro a hA
  refine wp_seq ?_
  refine wp_region_lit ?_
  refine st_box hA hS [.int .u64 m0, .int .u64 m1, .int .u32 m2, .int .u16 m3, .int .u16 m4, .int .u64 m5, .int .u32 m6, .int .u8 m7, .int .u64 m8, .int .u64 m9, .slice B bs.length d'] rfl rfl rfl rfl rfl (by decide) ?_; clear hA hS; intro b1 w2 a hS hA
  refine st_alloc tbOk hA hS [.int .u64 0, .int .u64 0, .int .u32 0, .int .u16 0, .int .u16 0, .int .u64 0, .int .u32 0, .int .u8 0, .int .u64 0, .int .u64 0, .slice none 0 0] rfl rfl rfl rfl rfl (by decide) ?_; clear hA hS; intro b3 w4 a hS hA
  refine st_run tbOk 1 hA (e' := (5, .nilIface) :: _) rfl ?_; clear hA; intro a hA
  refine wpList_nil ?_
  replace hA := hA.sel [0, 3, 4] (e' := [(0, .pointer (some ⟨b, 0, none⟩)), (3, .pointer (some ⟨b1, 0, none⟩)), (4, .pointer (some ⟨b3, 0, none⟩))]) rfl
  refine xt_norm ?_
  refine wp_seq ?_
  refine wp_seq ?_
  refine wp_region_lit ?_
  refine st_run tbOk 3 hA (e' := (8, .pointer (some ⟨b, 3, none⟩)) :: (7, .pointer (some ⟨b, 0, none⟩)) :: (6, .pointer (some ⟨b, 0, none⟩)) :: _) rfl ?_; clear hA; intro a hA
  refine st_val hA rfl rfl (by decide) (rn_load tbOk hA rfl rfl rfl rfl (cell_row (hS.heapAt 2 rfl) rfl)) ?_; clear hA; intro a hA
  refine st_run tbOk 2 hA (e' := (11, .bool (decide (((cs.length : Nat) : Int) ≥ 64))) :: (10, .int .i64 ((cs.length : Nat) : Int)) :: _) rfl ?_; clear hA; intro a hA
  refine wpList_nil ?_
  replace hA := hA.sel [0, 3, 4, 11] (e' := [(0, .pointer (some ⟨b, 0, none⟩)), (3, .pointer (some ⟨b1, 0, none⟩)), (4, .pointer (some ⟨b3, 0, none⟩)), (11, .bool (decide (((cs.length : Nat) : Int) ≥ 64)))]) rfl
  refine xt_norm ?_
  have hc5 : ((cs.length : Nat) : Int) ≥ 64 := by omega
  replace hA := hA.rw 11 (v' := .bool true) rfl (vb_true hc5)
  refine cd_cond_t hA rfl ?_
  refine wp_seq ?_
  refine wp_region_lit ?_
  refine st_val hA rfl rfl (by decide) (rn_build tbOk hA rfl rfl rfl rfl rfl rfl rfl) ?_; clear hA; intro a hA
  refine st_run tbOk 1 hA (e' := (13, .iface 52 (.int .i64 5)) :: _) rfl ?_; clear hA; intro a hA
  refine st_store tbOk hA hS [.int .u64 0, .int .u64 0, .int .u32 0, .int .u16 0, .int .u16 0, .int .u64 0, .int .u32 0, .int .u8 0, .int .u64 0, .int .u64 0, .slice none 0 0] [.int .u64 0, .int .u64 0, .int .u32 0, .int .u16 0, .int .u16 0, .int .u64 0, .int .u32 0, .int .u8 0, .int .u64 0, .int .u64 0, .slice none 0 0] rfl rfl rfl rfl rfl rfl (by simp [Value.oneCell']) (Nat.le_of_ble_eq_true rfl) rfl rfl rfl ?_; clear hS; intro w6 hS
  refine st_run tbOk 1 hA (e' := (5, .iface 52 (.int .i64 5)) :: _) rfl ?_; clear hA; intro a hA
  refine wpList_nil ?_
  replace hA := hA.sel [4, 5] (e' := [(4, .pointer (some ⟨b3, 0, none⟩)), (5, .iface 52 (.int .i64 5))]) rfl
  refine xt_norm ?_
  refine wp_ret (xt_ret ?_)
  refine retc2 tbOk (fn := Tryd.f9) (cs := [.int .u64 0, .int .u64 0, .int .u32 0, .int .u16 0, .int .u16 0, .int .u64 0, .int .u32 0, .int .u8 0, .int .u64 0, .int .u64 0, .slice none 0 0]) hA rfl rfl rfl rfl rfl rfl (cells_row (hS.heapAt 0 rfl) rfl) ?_
  replace hS := hS.drop1
  replace hS := hS.drop1
  replace hS := hS.front 1 (C := C) (L' := [(b, rowO [.int .u64 p, .int .i64 wt, .int .i64 tr, .slice A cs.length c] 61)] :: D :: F) rfl rfl
  replace hS := hS.front 1 (C := [(b, rowO [.int .u64 p, .int .i64 wt, .int .i64 tr, .slice A cs.length c] 61)]) (L' := C :: D :: F) rfl rfl
  replace hS := hS.front 2 (C := D) (L' := [(b, rowO [.int .u64 p, .int .i64 wt, .int .i64 tr, .slice A cs.length c] 61)] :: C :: F) rfl rfl
  replace hS := hS.front 2 (C := C) (L' := D :: [(b, rowO [.int .u64 p, .int .i64 wt, .int .i64 tr, .slice A cs.length c] 61)] :: F) rfl rfl
  replace hS := hS.front 2 (C := [(b, rowO [.int .u64 p, .int .i64 wt, .int .i64 tr, .slice A cs.length c] 61)]) (L' := C :: D :: F) rfl rfl
  replace hS := hS.join
  exact ⟨_, ⟨_, _, hO, rfl⟩, rfl, hS⟩

theorem cget_none11 {w0 w : World} {F : List Chunk} {L D : Chunk} {b : Nat} {p wt tr : Int} {cs : List Call} (hS : St w0 w (L :: D :: F)) (hM : CR b p wt tr cs L) {id : Int} (hid : id < 1 ∨ (cs.length : Int) < id) (h0_ : 0 ≤ id) (h1_ : id < 4294967296) :
    Ret Tryd.prog 11 #[.pointer (some ⟨b, 0, none⟩), .int .u32 id] w (fun v w' => ∃ L', CR b p wt tr cs L' ∧ v = .tuple #[.int .i64 0, .agg #[.int .u64 0, .int .u64 0, .int .u32 0, .int .u16 0, .int .u16 0, .int .u64 0, .int .u32 0, .int .u8 0, .int .u64 0, .int .u64 0, .slice none 0 0], .iface 52 (.int .i64 12)] ∧ St w0 w' (L' :: D :: F)) := by
  obtain ⟨v, C, hO, rfl⟩ := hM
  obtain ⟨A, c, rfl, hmc, hcx⟩ := hO.open'
  replace hS : St w0 w ([(b, rowO [.int .u64 p, .int .i64 wt, .int .i64 tr, .slice A cs.length c] 61)] :: C :: D :: F) := hS.split
  refine enter (vs := [.pointer (some ⟨b, 0, none⟩), .int .u32 id]) 33 Tryd.func11 rfl rfl (by simp) ?_; intro a hA
  refine wp_seq ?_
  refine wp_region_lit ?_
  refine st_run tbOk 1 hA (e' := (4, .int .i64 0) :: _) rfl ?_; clear hA; intro a hA
  refine st_alloc tbOk hA hS [.int .u64 0, .int .u64 0, .int .u32 0, .int .u16 0, .int .u16 0, .int .u64 0, .int .u32 0, .int .u8 0, .int .u64 0, .int .u64 0, .slice none 0 0] rfl rfl rfl rfl rfl (by decide) ?_; clear hA hS; intro b1 w2 a hS hA
  refine st_run tbOk 1 hA (e' := (6, .nilIface) :: _) rfl ?_; clear hA; intro a hA
  refine wpList_nil ?_
  replace hA := hA.sel [0, 1, 5] (e' := [(0, .pointer (some ⟨b, 0, none⟩)), (1, .int .u32 id), (5, .pointer (some ⟨b1, 0, none⟩))]) rfl
  refine xt_norm ?_
  refine wp_seq ?_
  refine wp_region_lit ?_
  refine st_run tbOk 2 hA (e' := (9, .int .u32 id) :: (8, .pointer (some ⟨b, 0, none⟩)) :: _) rfl ?_; clear hA; intro a hA
  replace hS := hS.front 1 (C := [(b, rowO [.int .u64 p, .int .i64 wt, .int .i64 tr, .slice A cs.length c] 61)]) (L' := [(b1, rowO [.int .u64 0, .int .u64 0, .int .u32 0, .int .u16 0, .int .u16 0, .int .u64 0, .int .u32 0, .int .u8 0, .int .u64 0, .int .u64 0, .slice none 0 0] 32)] :: C :: D :: F) rfl rfl
  refine st_call0 hA rfl rfl rfl isfn18 rfl rfl (by decide) (getp_none18 hS hid h0_ h1_) ?_
  clear hA hS; rintro _ w3 a ⟨rfl, hS⟩ hA
  refine st_run tbOk 1 hA (e' := (7, .pointer none) :: _) rfl ?_; clear hA; intro a hA
  refine wpList_nil ?_
  replace hA := hA.sel [5, 7] (e' := [(5, .pointer (some ⟨b1, 0, none⟩)), (7, .pointer none)]) rfl
  refine xt_norm ?_
  refine wp_seq ?_
  refine wp_block ?_
  refine wp_seq ?_
  refine wp_region_lit ?_
  refine st_run tbOk 3 hA (e' := (11, .bool true) :: (13, .bool true) :: (12, .pointer none) :: _) rfl ?_; clear hA; intro a hA
  refine wpList_nil ?_
  replace hA := hA.sel [5, 7, 11] (e' := [(5, .pointer (some ⟨b1, 0, none⟩)), (7, .pointer none), (11, .bool true)]) rfl
  refine xt_norm ?_
  refine cd_cond_t hA rfl ?_
  refine wp_seq ?_
  refine wp_region_lit ?_
  refine st_val hA rfl rfl (by decide) (rn_build tbOk hA rfl rfl rfl rfl rfl rfl rfl) ?_; clear hA; intro a hA
  refine st_run tbOk 2 hA (e' := (4, .int .i64 0) :: (15, .iface 52 (.int .i64 12)) :: _) rfl ?_; clear hA; intro a hA
  replace hS := hS.front 1 (C := [(b1, rowO [.int .u64 0, .int .u64 0, .int .u32 0, .int .u16 0, .int .u16 0, .int .u64 0, .int .u32 0, .int .u8 0, .int .u64 0, .int .u64 0, .slice none 0 0] 32)]) (L' := [(b, rowO [.int .u64 p, .int .i64 wt, .int .i64 tr, .slice A cs.length c] 61)] :: C :: D :: F) rfl rfl
  refine st_store tbOk hA hS [.int .u64 0, .int .u64 0, .int .u32 0, .int .u16 0, .int .u16 0, .int .u64 0, .int .u32 0, .int .u8 0, .int .u64 0, .int .u64 0, .slice none 0 0] [.int .u64 0, .int .u64 0, .int .u32 0, .int .u16 0, .int .u16 0, .int .u64 0, .int .u32 0, .int .u8 0, .int .u64 0, .int .u64 0, .slice none 0 0] rfl rfl rfl rfl rfl rfl (by simp [Value.oneCell']) (Nat.le_of_ble_eq_true rfl) rfl rfl rfl ?_; clear hS; intro w4 hS
  refine st_run tbOk 1 hA (e' := (6, .iface 52 (.int .i64 12)) :: _) rfl ?_; clear hA; intro a hA
  refine wpList_nil ?_
  replace hA := hA.sel [4, 5, 6] (e' := [(4, .int .i64 0), (5, .pointer (some ⟨b1, 0, none⟩)), (6, .iface 52 (.int .i64 12))]) rfl
  refine xt_norm ?_
  refine wp_ret (xb_ret (xt_ret ?_))
  refine rettct tbOk (fn := Tryd.f11) (cs := [.int .u64 0, .int .u64 0, .int .u32 0, .int .u16 0, .int .u16 0, .int .u64 0, .int .u32 0, .int .u8 0, .int .u64 0, .int .u64 0, .slice none 0 0]) hA rfl rfl rfl rfl rfl rfl rfl (cells_row (hS.heapAt 0 rfl) rfl) ?_
  replace hS := hS.drop1
  replace hS := hS.front 1 (C := C) (L' := [(b, rowO [.int .u64 p, .int .i64 wt, .int .i64 tr, .slice A cs.length c] 61)] :: D :: F) rfl rfl
  replace hS := hS.front 1 (C := [(b, rowO [.int .u64 p, .int .i64 wt, .int .i64 tr, .slice A cs.length c] 61)]) (L' := C :: D :: F) rfl rfl
  replace hS := hS.front 2 (C := D) (L' := [(b, rowO [.int .u64 p, .int .i64 wt, .int .i64 tr, .slice A cs.length c] 61)] :: C :: F) rfl rfl
  replace hS := hS.front 2 (C := C) (L' := D :: [(b, rowO [.int .u64 p, .int .i64 wt, .int .i64 tr, .slice A cs.length c] 61)] :: F) rfl rfl
  replace hS := hS.front 2 (C := [(b, rowO [.int .u64 p, .int .i64 wt, .int .i64 tr, .slice A cs.length c] 61)]) (L' := C :: D :: F) rfl rfl
  replace hS := hS.join
  exact ⟨_, ⟨_, _, hO, rfl⟩, rfl, hS⟩

theorem cget_failed11 {w0 w : World} {F : List Chunk} {L D : Chunk} {b : Nat} {p wt tr : Int} {cs : List Call} (hS : St w0 w (L :: D :: F)) (hM : CR b p wt tr cs L) {k : Nat} {x : Call} (hx : cs[k]? = some x) (hl : cs.length ≤ 64) {id : Int} (hid : id = (k : Int) + 1) (hst : cst x = 3) :
    Ret Tryd.prog 11 #[.pointer (some ⟨b, 0, none⟩), .int .u32 id] w (fun v w' => ∃ L', CR b p wt tr cs L' ∧ v = .tuple #[.int .i64 3, .agg #[.int .u64 0, .int .u64 0, .int .u32 0, .int .u16 0, .int .u16 0, .int .u64 0, .int .u32 0, .int .u8 0, .int .u64 0, .int .u64 0, .slice none 0 0], .iface 52 (.int .i64 10)] ∧ St w0 w' (L' :: D :: F)) := by
  obtain ⟨v, C, hO, rfl⟩ := hM
  obtain ⟨A, c, rfl, hmc, hcx⟩ := hO.open'
  replace hS : St w0 w ([(b, rowO [.int .u64 p, .int .i64 wt, .int .i64 tr, .slice A cs.length c] 61)] :: C :: D :: F) := hS.split
  have hkl := (List.getElem?_eq_some_iff.1 hx).1
  obtain ⟨xf0, xf1, xf2, xf3, xf4, xf5, xf6, xf7, xf8, xf9, xA10, xc10, xb10, xf13, xf14, xf15, xf16, xf17, xf18, xf19, xf20, xf21, xf22, xf23, xf24, xf25, xA26, xc26, xb26⟩ := x
  dsimp only [cst] at hst
  refine enter (vs := [.pointer (some ⟨b, 0, none⟩), .int .u32 id]) 33 Tryd.func11 rfl rfl (by simp) ?_; intro a hA
  refine wp_seq ?_
  refine wp_region_lit ?_
  refine st_run tbOk 1 hA (e' := (4, .int .i64 0) :: _) rfl ?_; clear hA; intro a hA
  refine st_alloc tbOk hA hS [.int .u64 0, .int .u64 0, .int .u32 0, .int .u16 0, .int .u16 0, .int .u64 0, .int .u32 0, .int .u8 0, .int .u64 0, .int .u64 0, .slice none 0 0] rfl rfl rfl rfl rfl (by decide) ?_; clear hA hS; intro b1 w2 a hS hA
  refine st_run tbOk 1 hA (e' := (6, .nilIface) :: _) rfl ?_; clear hA; intro a hA
  refine wpList_nil ?_
  replace hA := hA.sel [0, 1, 5] (e' := [(0, .pointer (some ⟨b, 0, none⟩)), (1, .int .u32 id), (5, .pointer (some ⟨b1, 0, none⟩))]) rfl
  refine xt_norm ?_
  refine wp_seq ?_
  refine wp_region_lit ?_
  refine st_run tbOk 2 hA (e' := (9, .int .u32 id) :: (8, .pointer (some ⟨b, 0, none⟩)) :: _) rfl ?_; clear hA; intro a hA
  obtain ⟨b4, o5, rfl⟩ := hO.isSome (k := k) (by omega)
  replace hS := hS.front 1 (C := [(b, rowO [.int .u64 p, .int .i64 wt, .int .i64 tr, .slice (some ⟨b4, o5, none⟩) cs.length c] 61)]) (L' := [(b1, rowO [.int .u64 0, .int .u64 0, .int .u32 0, .int .u16 0, .int .u16 0, .int .u64 0, .int .u32 0, .int .u8 0, .int .u64 0, .int .u64 0, .slice none 0 0] 32)] :: C :: D :: F) rfl rfl
  refine st_call0 hA rfl rfl rfl isfn18 rfl rfl (by decide) (getp_hit18 hS (k := k) hid hkl (by omega)) ?_
  clear hA hS; rintro _ w3 a ⟨rfl, hS⟩ hA
  refine st_run tbOk 1 hA (e' := (7, .pointer (some ⟨b4, o5 + (k * 25), none⟩)) :: _) rfl ?_; clear hA; intro a hA
  refine wpList_nil ?_
  replace hA := hA.sel [5, 7] (e' := [(5, .pointer (some ⟨b1, 0, none⟩)), (7, .pointer (some ⟨b4, o5 + (k * 25), none⟩))]) rfl
  refine xt_norm ?_
  refine wp_seq ?_
  refine wp_block ?_
  refine wp_seq ?_
  refine wp_region_lit ?_
  refine st_run tbOk 3 hA (e' := (11, .bool false) :: (13, .bool false) :: (12, .pointer (some ⟨b4, o5 + (k * 25), none⟩)) :: _) rfl ?_; clear hA; intro a hA
  refine wpList_nil ?_
  replace hA := hA.sel [5, 7, 11] (e' := [(5, .pointer (some ⟨b1, 0, none⟩)), (7, .pointer (some ⟨b4, o5 + (k * 25), none⟩)), (11, .bool false)]) rfl
  refine xt_norm ?_
  refine cd_cond_f hA rfl ?_
  refine wp_seq ?_
  refine wp_region_lit ?_
  refine st_run tbOk 3 hA (e' := (19, .pointer (some ⟨b4, o5 + (k * 25) + 11, none⟩)) :: (18, .pointer (some ⟨b4, o5 + (k * 25), none⟩)) :: (17, .pointer (some ⟨b4, o5 + (k * 25), none⟩)) :: _) rfl ?_; clear hA; intro a hA
  refine st_val hA rfl rfl (by decide) (rn_load tbOk hA rfl rfl rfl rfl ((hO.rd (hS.own_ 2 rfl)).elemf (k := k) encCall_ok hx (j := 11) rfl)) ?_; clear hA; intro a hA
  refine st_run tbOk 2 hA (e' := (16, .bool (xf13 == 3)) :: (21, .bool (xf13 == 3)) :: _) rfl ?_; clear hA; intro a hA
  refine wpList_nil ?_
  replace hA := hA.sel [5, 7, 16] (e' := [(5, .pointer (some ⟨b1, 0, none⟩)), (7, .pointer (some ⟨b4, o5 + (k * 25), none⟩)), (16, .bool (xf13 == 3))]) rfl
  refine xt_norm ?_
  have hc6 : xf13 = 3 := hst
  replace hA := hA.rw 16 (v' := .bool true) rfl (vb_eq_t hc6)
  refine cd_cond_t hA rfl ?_
  refine wp_seq ?_
  refine wp_region_lit ?_
  refine st_val hA rfl rfl (by decide) (rn_build tbOk hA rfl rfl rfl rfl rfl rfl rfl) ?_; clear hA; intro a hA
  refine st_run tbOk 2 hA (e' := (4, .int .i64 3) :: (23, .iface 52 (.int .i64 10)) :: _) rfl ?_; clear hA; intro a hA
  replace hS := hS.front 1 (C := [(b1, rowO [.int .u64 0, .int .u64 0, .int .u32 0, .int .u16 0, .int .u16 0, .int .u64 0, .int .u32 0, .int .u8 0, .int .u64 0, .int .u64 0, .slice none 0 0] 32)]) (L' := [(b, rowO [.int .u64 p, .int .i64 wt, .int .i64 tr, .slice (some ⟨b4, o5, none⟩) cs.length c] 61)] :: C :: D :: F) rfl rfl
  refine st_store tbOk hA hS [.int .u64 0, .int .u64 0, .int .u32 0, .int .u16 0, .int .u16 0, .int .u64 0, .int .u32 0, .int .u8 0, .int .u64 0, .int .u64 0, .slice none 0 0] [.int .u64 0, .int .u64 0, .int .u32 0, .int .u16 0, .int .u16 0, .int .u64 0, .int .u32 0, .int .u8 0, .int .u64 0, .int .u64 0, .slice none 0 0] rfl rfl rfl rfl rfl rfl (by simp [Value.oneCell']) (Nat.le_of_ble_eq_true rfl) rfl rfl rfl ?_; clear hS; intro w7 hS
  refine st_run tbOk 1 hA (e' := (6, .iface 52 (.int .i64 10)) :: _) rfl ?_; clear hA; intro a hA
  refine wpList_nil ?_
  replace hA := hA.sel [4, 5, 6] (e' := [(4, .int .i64 3), (5, .pointer (some ⟨b1, 0, none⟩)), (6, .iface 52 (.int .i64 10))]) rfl
  refine xt_norm ?_
  refine wp_ret (xb_ret (xt_ret ?_))
  refine rettct tbOk (fn := Tryd.f11) (cs := [.int .u64 0, .int .u64 0, .int .u32 0, .int .u16 0, .int .u16 0, .int .u64 0, .int .u32 0, .int .u8 0, .int .u64 0, .int .u64 0, .slice none 0 0]) hA rfl rfl rfl rfl rfl rfl rfl (cells_row (hS.heapAt 0 rfl) rfl) ?_
  replace hS := hS.drop1
  replace hS := hS.front 1 (C := C) (L' := [(b, rowO [.int .u64 p, .int .i64 wt, .int .i64 tr, .slice (some ⟨b4, o5, none⟩) cs.length c] 61)] :: D :: F) rfl rfl
  replace hS := hS.front 1 (C := [(b, rowO [.int .u64 p, .int .i64 wt, .int .i64 tr, .slice (some ⟨b4, o5, none⟩) cs.length c] 61)]) (L' := C :: D :: F) rfl rfl
  replace hS := hS.front 2 (C := D) (L' := [(b, rowO [.int .u64 p, .int .i64 wt, .int .i64 tr, .slice (some ⟨b4, o5, none⟩) cs.length c] 61)] :: C :: F) rfl rfl
  replace hS := hS.front 2 (C := C) (L' := D :: [(b, rowO [.int .u64 p, .int .i64 wt, .int .i64 tr, .slice (some ⟨b4, o5, none⟩) cs.length c] 61)] :: F) rfl rfl
  replace hS := hS.front 2 (C := [(b, rowO [.int .u64 p, .int .i64 wt, .int .i64 tr, .slice (some ⟨b4, o5, none⟩) cs.length c] 61)]) (L' := C :: D :: F) rfl rfl
  replace hS := hS.join
  exact ⟨_, ⟨_, _, hO, rfl⟩, rfl, hS⟩

theorem cget_ok11 {w0 w : World} {F : List Chunk} {L D : Chunk} {b : Nat} {p wt tr : Int} {cs : List Call} (hS : St w0 w (L :: D :: F)) (hM : CR b p wt tr cs L) {k : Nat} {x : Call} (hx : cs[k]? = some x) (hl : cs.length ≤ 64) {id : Int} (hid : id = (k : Int) + 1) (hst : ¬ cst x = 3) (hcd : ∀ x ∈ cs, encCall_dd w0 D x) (hcs : ∀ x ∈ cs, csz x) :
    Ret Tryd.prog 11 #[.pointer (some ⟨b, 0, none⟩), .int .u32 id] w (fun v w' => ∃ L' E A c, CR b p wt tr cs L' ∧ DD w0 E A c x.2.2.2.2.2.2.2.2.2.2.2.2.2.2.2.2.2.2.2.2.2.2.2.2.2.2.2.2 ∧ v = .tuple #[.int .i64 x.2.2.2.2.2.2.2.2.2.2.2.2.2.1, .agg #[.int .u64 x.2.2.2.2.2.2.2.2.2.2.2.2.2.2.2.2.1, .int .u64 x.2.2.2.2.2.2.2.2.2.2.2.2.2.2.2.2.2.1, .int .u32 x.2.2.2.2.2.2.2.2.2.2.2.2.2.2.2.2.2.2.1, .int .u16 x.2.2.2.2.2.2.2.2.2.2.2.2.2.2.2.2.2.2.2.1, .int .u16 x.2.2.2.2.2.2.2.2.2.2.2.2.2.2.2.2.2.2.2.2.1, .int .u64 x.2.2.2.2.2.2.2.2.2.2.2.2.2.2.2.2.2.2.2.2.2.1, .int .u32 x.2.2.2.2.2.2.2.2.2.2.2.2.2.2.2.2.2.2.2.2.2.2.1, .int .u8 x.2.2.2.2.2.2.2.2.2.2.2.2.2.2.2.2.2.2.2.2.2.2.2.1, .int .u64 x.2.2.2.2.2.2.2.2.2.2.2.2.2.2.2.2.2.2.2.2.2.2.2.2.1, .int .u64 x.2.2.2.2.2.2.2.2.2.2.2.2.2.2.2.2.2.2.2.2.2.2.2.2.2.1, .slice A x.2.2.2.2.2.2.2.2.2.2.2.2.2.2.2.2.2.2.2.2.2.2.2.2.2.2.2.2.length c], .nilIface] ∧ St w0 w' (L' :: (E ++ D) :: F)) := by
  obtain ⟨v, C, hO, rfl⟩ := hM
  obtain ⟨A, c, rfl, hmc, hcx⟩ := hO.open'
  replace hS : St w0 w ([(b, rowO [.int .u64 p, .int .i64 wt, .int .i64 tr, .slice A cs.length c] 61)] :: C :: D :: F) := hS.split
  have hkl := (List.getElem?_eq_some_iff.1 hx).1
  obtain ⟨xf0, xf1, xf2, xf3, xf4, xf5, xf6, xf7, xf8, xf9, xA10, xc10, xb10, xf13, xf14, xf15, xf16, xf17, xf18, xf19, xf20, xf21, xf22, xf23, xf24, xf25, xA26, xc26, xb26⟩ := x
  have hdx := hcd _ (List.mem_of_getElem? hx)
  have hsx := (hcs _ (List.mem_of_getElem? hx)).2; dsimp only [mdat, rp] at hsx
  dsimp only [cst] at hst
  refine enter (vs := [.pointer (some ⟨b, 0, none⟩), .int .u32 id]) 33 Tryd.func11 rfl rfl (by simp) ?_; intro a hA
  refine wp_seq ?_
  refine wp_region_lit ?_
  refine st_run tbOk 1 hA (e' := (4, .int .i64 0) :: _) rfl ?_; clear hA; intro a hA
  refine st_alloc tbOk hA hS [.int .u64 0, .int .u64 0, .int .u32 0, .int .u16 0, .int .u16 0, .int .u64 0, .int .u32 0, .int .u8 0, .int .u64 0, .int .u64 0, .slice none 0 0] rfl rfl rfl rfl rfl (by decide) ?_; clear hA hS; intro b1 w2 a hS hA
  refine st_run tbOk 1 hA (e' := (6, .nilIface) :: _) rfl ?_; clear hA; intro a hA
  refine wpList_nil ?_
  replace hA := hA.sel [0, 1, 5] (e' := [(0, .pointer (some ⟨b, 0, none⟩)), (1, .int .u32 id), (5, .pointer (some ⟨b1, 0, none⟩))]) rfl
  refine xt_norm ?_
  refine wp_seq ?_
  refine wp_region_lit ?_
  refine st_run tbOk 2 hA (e' := (9, .int .u32 id) :: (8, .pointer (some ⟨b, 0, none⟩)) :: _) rfl ?_; clear hA; intro a hA
  obtain ⟨b4, o5, rfl⟩ := hO.isSome (k := k) (by omega)
  replace hS := hS.front 1 (C := [(b, rowO [.int .u64 p, .int .i64 wt, .int .i64 tr, .slice (some ⟨b4, o5, none⟩) cs.length c] 61)]) (L' := [(b1, rowO [.int .u64 0, .int .u64 0, .int .u32 0, .int .u16 0, .int .u16 0, .int .u64 0, .int .u32 0, .int .u8 0, .int .u64 0, .int .u64 0, .slice none 0 0] 32)] :: C :: D :: F) rfl rfl
  refine st_call0 hA rfl rfl rfl isfn18 rfl rfl (by decide) (getp_hit18 hS (k := k) hid hkl (by omega)) ?_
  clear hA hS; rintro _ w3 a ⟨rfl, hS⟩ hA
  refine st_run tbOk 1 hA (e' := (7, .pointer (some ⟨b4, o5 + (k * 25), none⟩)) :: _) rfl ?_; clear hA; intro a hA
  refine wpList_nil ?_
  replace hA := hA.sel [5, 7] (e' := [(5, .pointer (some ⟨b1, 0, none⟩)), (7, .pointer (some ⟨b4, o5 + (k * 25), none⟩))]) rfl
  refine xt_norm ?_
  refine wp_seq ?_
  refine wp_block ?_
  refine wp_seq ?_
  refine wp_region_lit ?_
  refine st_run tbOk 3 hA (e' := (11, .bool false) :: (13, .bool false) :: (12, .pointer (some ⟨b4, o5 + (k * 25), none⟩)) :: _) rfl ?_; clear hA; intro a hA
  refine wpList_nil ?_
  replace hA := hA.sel [5, 7, 11] (e' := [(5, .pointer (some ⟨b1, 0, none⟩)), (7, .pointer (some ⟨b4, o5 + (k * 25), none⟩)), (11, .bool false)]) rfl
  refine xt_norm ?_
  refine cd_cond_f hA rfl ?_
  refine wp_seq ?_
  refine wp_region_lit ?_
  refine st_run tbOk 3 hA (e' := (19, .pointer (some ⟨b4, o5 + (k * 25) + 11, none⟩)) :: (18, .pointer (some ⟨b4, o5 + (k * 25), none⟩)) :: (17, .pointer (some ⟨b4, o5 + (k * 25), none⟩)) :: _) rfl ?_; clear hA; intro a hA
  refine st_val hA rfl rfl (by decide) (rn_load tbOk hA rfl rfl rfl rfl ((hO.rd (hS.own_ 2 rfl)).elemf (k := k) encCall_ok hx (j := 11) rfl)) ?_; clear hA; intro a hA
  refine st_run tbOk 2 hA (e' := (16, .bool (xf13 == 3)) :: (21, .bool (xf13 == 3)) :: _) rfl ?_; clear hA; intro a hA
  refine wpList_nil ?_
  replace hA := hA.sel [5, 7, 16] (e' := [(5, .pointer (some ⟨b1, 0, none⟩)), (7, .pointer (some ⟨b4, o5 + (k * 25), none⟩)), (16, .bool (xf13 == 3))]) rfl
  refine xt_norm ?_
  have hc6 : ¬ (xf13 = 3) := hst
  replace hA := hA.rw 16 (v' := .bool false) rfl (vb_eq_f hc6)
  refine cd_cond_f hA rfl ?_
  refine wp_skip ?_
  refine xb_norm ?_
  refine xt_norm ?_
  refine wp_seq ?_
  replace hS := hS.front 1 (C := [(b1, rowO [.int .u64 0, .int .u64 0, .int .u32 0, .int .u16 0, .int .u16 0, .int .u64 0, .int .u32 0, .int .u8 0, .int .u64 0, .int .u64 0, .slice none 0 0] 32)]) (L' := [(b, rowO [.int .u64 p, .int .i64 wt, .int .i64 tr, .slice (some ⟨b4, o5, none⟩) cs.length c] 61)] :: C :: D :: F) rfl rfl
  refine wp_draw (fun w' => St w0 w' ([(b, rowO [.int .u64 p, .int .i64 wt, .int .i64 tr, .slice (some ⟨b4, o5, none⟩) cs.length c] 61)] :: C :: D :: F)) [] [(0, true), (1, true), (2, true), (3, true), (4, true), (5, true), (6, true), (7, true), (8, false), (9, true), (10, false), (11, true)] mixed (by kernel_rfl) (by rintro c a w ⟨_, _, h, _⟩; cases h) (by rfl) (by kernel_rfl) ?_
  replace hS := hS.drew
  refine dr_run tbOk 3 hA (hS.tail 1 rfl) (e' := (26, .pointer (some ⟨b4, o5 + (k * 25) + 11, none⟩)) :: (25, .pointer (some ⟨b4, o5 + (k * 25), none⟩)) :: (24, .pointer (some ⟨b4, o5 + (k * 25), none⟩)) :: _) rfl ?_; clear hA; intro a hA
  refine dr_y hA rfl rfl rfl (by decide) (hS.tail 1 rfl) (fun w' hS' => rn_load tbOk hA rfl rfl rfl rfl ((hO.rd (hS'.own_ 1 rfl)).elemf (k := k) encCall_ok hx (j := 11) rfl)) ?_; clear hA; intro a hA
  refine dr_run tbOk 3 hA (hS.tail 1 rfl) (e' := (30, .pointer (some ⟨b4, o5 + (k * 25) + 14, none⟩)) :: (29, .pointer (some ⟨b4, o5 + (k * 25), none⟩)) :: (28, .pointer (some ⟨b4, o5 + (k * 25), none⟩)) :: _) rfl ?_; clear hA; intro a hA
  refine dr_y hA rfl rfl rfl (by decide) (hS.tail 1 rfl) (fun w' hS' => rn_loadA tbOk hA ([.int .u64 xf16, .int .u64 xf17, .int .u32 xf18, .int .u16 xf19, .int .u16 xf20, .int .u64 xf21, .int .u32 xf22, .int .u8 xf23, .int .u64 xf24, .int .u64 xf25, .slice xA26 xb26.length xc26]) rfl rfl rfl rfl (by rfl) (elemp encCall_ok (hO.rd (hS'.own_ 1 rfl)) (k := k) hx (j := 14) (n := 11) rfl)) ?_; clear hA; intro a hA
  refine dr_b (o := _) rfl ?_
  refine st_call0 hA rfl rfl rfl isfn17 rfl rfl (by decide) (ccop17 hS xf16 xf17 xf18 xf19 xf20 xf21 xf22 xf23 xf24 xf25 (bs := xb26) (fun w' h => (hdx.2 _ (h.only 3 rfl))) (by omega)) ?_
  clear hA hS; rintro _ w10 a ⟨A7, c8, C9, hOC9, rfl, hS⟩ hA
  replace hS := hS.front 1 (C := [(b1, rowO [.int .u64 0, .int .u64 0, .int .u32 0, .int .u16 0, .int .u16 0, .int .u64 0, .int .u32 0, .int .u8 0, .int .u64 0, .int .u64 0, .slice none 0 0] 32)]) (L' := C9 :: [(b, rowO [.int .u64 p, .int .i64 wt, .int .i64 tr, .slice (some ⟨b4, o5, none⟩) cs.length c] 61)] :: C :: D :: F) rfl rfl
  refine dr_nilS (fun w' => St w0 w' (C9 :: [(b, rowO [.int .u64 p, .int .i64 wt, .int .i64 tr, .slice (some ⟨b4, o5, none⟩) cs.length c] 61)] :: C :: D :: F)) (fun x h => h.tail 1 rfl) (hS.tail 1 rfl) ?_
  refine dr_run tbOk 1 hA (hS.tail 1 rfl) (e' := (4, .int .i64 xf13) :: _) rfl ?_; clear hA; intro a hA
  refine dr_b (o := _) rfl ?_
  refine st_store tbOk hA hS [.int .u64 xf16, .int .u64 xf17, .int .u32 xf18, .int .u16 xf19, .int .u16 xf20, .int .u64 xf21, .int .u32 xf22, .int .u8 xf23, .int .u64 xf24, .int .u64 xf25, .slice A7 xb26.length c8] [.int .u64 xf16, .int .u64 xf17, .int .u32 xf18, .int .u16 xf19, .int .u16 xf20, .int .u64 xf21, .int .u32 xf22, .int .u8 xf23, .int .u64 xf24, .int .u64 xf25, .slice A7 xb26.length c8] rfl rfl rfl rfl rfl rfl (by simp [Value.oneCell']) (Nat.le_of_ble_eq_true rfl) rfl rfl rfl ?_; clear hS; intro w11 hS
  refine dr_nil (.inr (hS.tail 1 rfl)) ?_
  refine dr_run tbOk 1 hA (hS.tail 1 rfl) (e' := (6, .nilIface) :: _) rfl ?_; clear hA; intro a hA
  refine dr_end ?_
  replace hA := hA.sel [4, 5, 6] (e' := [(4, .int .i64 xf13), (5, .pointer (some ⟨b1, 0, none⟩)), (6, .nilIface)]) rfl
  refine xt_norm ?_
  refine wp_ret ?_
  refine rettct tbOk (fn := Tryd.f11) (cs := [.int .u64 xf16, .int .u64 xf17, .int .u32 xf18, .int .u16 xf19, .int .u16 xf20, .int .u64 xf21, .int .u32 xf22, .int .u8 xf23, .int .u64 xf24, .int .u64 xf25, .slice A7 xb26.length c8]) hA rfl rfl rfl rfl rfl rfl rfl (cells_row (hS.heapAt 0 rfl) rfl) ?_
  replace hS := hS.drop1
  replace hS := hS.front 2 (C := C) (L' := C9 :: [(b, rowO [.int .u64 p, .int .i64 wt, .int .i64 tr, .slice (some ⟨b4, o5, none⟩) cs.length c] 61)] :: D :: F) rfl rfl
  replace hS := hS.front 2 (C := [(b, rowO [.int .u64 p, .int .i64 wt, .int .i64 tr, .slice (some ⟨b4, o5, none⟩) cs.length c] 61)]) (L' := C :: C9 :: D :: F) rfl rfl
  replace hS := hS.front 3 (C := D) (L' := [(b, rowO [.int .u64 p, .int .i64 wt, .int .i64 tr, .slice (some ⟨b4, o5, none⟩) cs.length c] 61)] :: C :: C9 :: F) rfl rfl
  replace hS := hS.front 3 (C := C9) (L' := D :: [(b, rowO [.int .u64 p, .int .i64 wt, .int .i64 tr, .slice (some ⟨b4, o5, none⟩) cs.length c] 61)] :: C :: F) rfl rfl
  replace hS := hS.join
  replace hS := hS.front 2 (C := C) (L' := (C9 ++ D) :: [(b, rowO [.int .u64 p, .int .i64 wt, .int .i64 tr, .slice (some ⟨b4, o5, none⟩) cs.length c] 61)] :: F) rfl rfl
  replace hS := hS.front 2 (C := [(b, rowO [.int .u64 p, .int .i64 wt, .int .i64 tr, .slice (some ⟨b4, o5, none⟩) cs.length c] 61)]) (L' := C :: (C9 ++ D) :: F) rfl rfl
  replace hS := hS.join
  exact ⟨_, _, _, _, ⟨_, _, hO, rfl⟩, DD.new hOC9, rfl, hS⟩

theorem answer_none12 {w0 w : World} {F : List Chunk} {L D : Chunk} {b : Nat} {p wt tr : Int} {cs : List Call} (hS : St w0 w (L :: D :: F)) (hM : CR b p wt tr cs L) (m0 m1 m2 m3 m4 m5 m6 m7 m8 m9 : Int) (d : Value) (hid : m2 < 1 ∨ (cs.length : Int) < m2) (h0_ : 0 ≤ m2) (h1_ : m2 < 4294967296) :
    Ret Tryd.prog 12 #[.pointer (some ⟨b, 0, none⟩), .agg #[.int .u64 m0, .int .u64 m1, .int .u32 m2, .int .u16 m3, .int .u16 m4, .int .u64 m5, .int .u32 m6, .int .u8 m7, .int .u64 m8, .int .u64 m9, d]] w (fun v w' => ∃ L', CR b p wt tr cs L' ∧ v = .bool false ∧ St w0 w' (L' :: D :: F)) := by
  obtain ⟨v, C, hO, rfl⟩ := hM
  obtain ⟨A, c, rfl, hmc, hcx⟩ := hO.open'
  replace hS : St w0 w ([(b, rowO [.int .u64 p, .int .i64 wt, .int .i64 tr, .slice A cs.length c] 61)] :: C :: D :: F) := hS.split
  refine enter (vs := [.pointer (some ⟨b, 0, none⟩), .agg #[.int .u64 m0, .int .u64 m1, .int .u32 m2, .int .u16 m3, .int .u16 m4, .int .u64 m5, .int .u32 m6, .int .u8 m7, .int .u64 m8, .int .u64 m9, d]]) 46 Tryd.func12 rfl rfl (by simp) ?_; intro a hA
  refine wp_seq ?_
  refine wp_region_lit ?_
  refine st_box hA hS [.int .u64 m0, .int .u64 m1, .int .u32 m2, .int .u16 m3, .int .u16 m4, .int .u64 m5, .int .u32 m6, .int .u8 m7, .int .u64 m8, .int .u64 m9, d] rfl rfl rfl rfl rfl (by decide) ?_; clear hA hS; intro b1 w2 a hS hA
  refine st_run tbOk 1 hA (e' := (4, .bool false) :: _) rfl ?_; clear hA; intro a hA
  refine wpList_nil ?_
  replace hA := hA.sel [0, 3] (e' := [(0, .pointer (some ⟨b, 0, none⟩)), (3, .pointer (some ⟨b1, 0, none⟩))]) rfl
  refine xt_norm ?_
  refine wp_seq ?_
  refine wp_region_lit ?_
  refine st_run tbOk 2 hA (e' := (7, .pointer (some ⟨b1, 2, none⟩)) :: (6, .pointer (some ⟨b, 0, none⟩)) :: _) rfl ?_; clear hA; intro a hA
  refine st_val hA rfl rfl (by decide) (rn_load tbOk hA rfl rfl rfl rfl (cell_row (hS.heapAt 0 rfl) rfl)) ?_; clear hA; intro a hA
  replace hS := hS.front 1 (C := [(b, rowO [.int .u64 p, .int .i64 wt, .int .i64 tr, .slice A cs.length c] 61)]) (L' := [(b1, rowO [.int .u64 m0, .int .u64 m1, .int .u32 m2, .int .u16 m3, .int .u16 m4, .int .u64 m5, .int .u32 m6, .int .u8 m7, .int .u64 m8, .int .u64 m9, d] 32)] :: C :: D :: F) rfl rfl
  refine st_call0 hA rfl rfl rfl isfn18 rfl rfl (by decide) (getp_none18 hS hid h0_ h1_) ?_
  clear hA hS; rintro _ w3 a ⟨rfl, hS⟩ hA
  refine st_run tbOk 1 hA (e' := (5, .pointer none) :: _) rfl ?_; clear hA; intro a hA
  refine wpList_nil ?_
  replace hA := hA.sel [0, 3, 5] (e' := [(0, .pointer (some ⟨b, 0, none⟩)), (3, .pointer (some ⟨b1, 0, none⟩)), (5, .pointer none)]) rfl
  refine xt_norm ?_
  refine wp_seq ?_
  refine wp_seq ?_
  refine wp_draw (fun w' => St w0 w' ([(b, rowO [.int .u64 p, .int .i64 wt, .int .i64 tr, .slice A cs.length c] 61)] :: [(b1, rowO [.int .u64 m0, .int .u64 m1, .int .u32 m2, .int .u16 m3, .int .u16 m4, .int .u64 m5, .int .u32 m6, .int .u8 m7, .int .u64 m8, .int .u64 m9, d] 32)] :: C :: D :: F)) [] [(0, true), (1, true), (2, true), (3, true), (4, true), (5, true), (6, true), (7, true), (8, true), (9, true), (10, true), (11, true), (12, true), (13, true), (14, true), (15, true), (16, true), (17, true), (18, true), (19, true), (20, true), (21, true), (22, true), (23, true), (24, true), (25, true), (26, true), (27, true)] mixed (by kernel_rfl) (by rintro c a w ⟨_, _, h, _⟩; cases h) (by rfl) (by kernel_rfl) ?_
  replace hS := hS.drew
  refine dr_run tbOk 28 hA hS (e' := (37, .bool true) :: (36, undef) :: (35, undef) :: (34, undef) :: (33, undef) :: (32, undef) :: (31, undef) :: (30, undef) :: (29, undef) :: (28, .bool true) :: (27, .bool true) :: (26, undef) :: (25, undef) :: (24, undef) :: (23, undef) :: (22, undef) :: (21, undef) :: (20, undef) :: (19, .bool true) :: (18, .bool true) :: (17, undef) :: (16, undef) :: (15, undef) :: (14, undef) :: (13, undef) :: (12, .bool true) :: (11, .bool true) :: (10, .pointer none) :: _) rfl ?_; clear hA; intro a hA
  refine dr_end ?_
  replace hA := hA.sel [3, 5, 37] (e' := [(3, .pointer (some ⟨b1, 0, none⟩)), (5, .pointer none), (37, .bool true)]) rfl
  refine xt_norm ?_
  refine cd_cond_t hA rfl ?_
  refine wp_seq ?_
  refine wp_region_lit ?_
  refine st_run tbOk 1 hA (e' := (4, .bool false) :: _) rfl ?_; clear hA; intro a hA
  refine wpList_nil ?_
  replace hA := hA.sel [4] (e' := [(4, .bool false)]) rfl
  refine xt_norm ?_
  refine wp_ret (xt_ret ?_)
  refine ret1 (fn := Tryd.f12) hA rfl rfl ?_
  replace hS := hS.front 1 (C := [(b1, rowO [.int .u64 m0, .int .u64 m1, .int .u32 m2, .int .u16 m3, .int .u16 m4, .int .u64 m5, .int .u32 m6, .int .u8 m7, .int .u64 m8, .int .u64 m9, d] 32)]) (L' := [(b, rowO [.int .u64 p, .int .i64 wt, .int .i64 tr, .slice A cs.length c] 61)] :: C :: D :: F) rfl rfl
  replace hS := hS.drop1
  replace hS := hS.front 1 (C := C) (L' := [(b, rowO [.int .u64 p, .int .i64 wt, .int .i64 tr, .slice A cs.length c] 61)] :: D :: F) rfl rfl
  replace hS := hS.front 1 (C := [(b, rowO [.int .u64 p, .int .i64 wt, .int .i64 tr, .slice A cs.length c] 61)]) (L' := C :: D :: F) rfl rfl
  replace hS := hS.front 2 (C := D) (L' := [(b, rowO [.int .u64 p, .int .i64 wt, .int .i64 tr, .slice A cs.length c] 61)] :: C :: F) rfl rfl
  replace hS := hS.front 2 (C := C) (L' := D :: [(b, rowO [.int .u64 p, .int .i64 wt, .int .i64 tr, .slice A cs.length c] 61)] :: F) rfl rfl
  replace hS := hS.front 2 (C := [(b, rowO [.int .u64 p, .int .i64 wt, .int .i64 tr, .slice A cs.length c] 61)]) (L' := C :: D :: F) rfl rfl
  replace hS := hS.join
  exact ⟨_, ⟨_, _, hO, rfl⟩, rfl, hS⟩

theorem answer_no12 {w0 w : World} {F : List Chunk} {L D : Chunk} {b : Nat} {p wt tr : Int} {cs : List Call} (hS : St w0 w (L :: D :: F)) (hM : CR b p wt tr cs L) (m0 m1 m2 m3 m4 m5 m6 m7 m8 m9 : Int) (d : Value) {k : Nat} {x : Call} (hx : cs[k]? = some x) (hl : cs.length ≤ 64) (hid : m2 = (k : Int) + 1) (hst : ¬ (cst x = 1 ∧ m0 = p ∧ m1 = x.1)) :
    Ret Tryd.prog 12 #[.pointer (some ⟨b, 0, none⟩), .agg #[.int .u64 m0, .int .u64 m1, .int .u32 m2, .int .u16 m3, .int .u16 m4, .int .u64 m5, .int .u32 m6, .int .u8 m7, .int .u64 m8, .int .u64 m9, d]] w (fun v w' => ∃ L', CR b p wt tr cs L' ∧ v = .bool false ∧ St w0 w' (L' :: D :: F)) := by
  obtain ⟨v, C, hO, rfl⟩ := hM
  obtain ⟨A, c, rfl, hmc, hcx⟩ := hO.open'
  replace hS : St w0 w ([(b, rowO [.int .u64 p, .int .i64 wt, .int .i64 tr, .slice A cs.length c] 61)] :: C :: D :: F) := hS.split
  have hkl := (List.getElem?_eq_some_iff.1 hx).1
  obtain ⟨xf0, xf1, xf2, xf3, xf4, xf5, xf6, xf7, xf8, xf9, xA10, xc10, xb10, xf13, xf14, xf15, xf16, xf17, xf18, xf19, xf20, xf21, xf22, xf23, xf24, xf25, xA26, xc26, xb26⟩ := x
  dsimp only [cst] at hst
  refine enter (vs := [.pointer (some ⟨b, 0, none⟩), .agg #[.int .u64 m0, .int .u64 m1, .int .u32 m2, .int .u16 m3, .int .u16 m4, .int .u64 m5, .int .u32 m6, .int .u8 m7, .int .u64 m8, .int .u64 m9, d]]) 46 Tryd.func12 rfl rfl (by simp) ?_; intro a hA
  refine wp_seq ?_
  refine wp_region_lit ?_
  refine st_box hA hS [.int .u64 m0, .int .u64 m1, .int .u32 m2, .int .u16 m3, .int .u16 m4, .int .u64 m5, .int .u32 m6, .int .u8 m7, .int .u64 m8, .int .u64 m9, d] rfl rfl rfl rfl rfl (by decide) ?_; clear hA hS; intro b1 w2 a hS hA
  refine st_run tbOk 1 hA (e' := (4, .bool false) :: _) rfl ?_; clear hA; intro a hA
  refine wpList_nil ?_
  replace hA := hA.sel [0, 3] (e' := [(0, .pointer (some ⟨b, 0, none⟩)), (3, .pointer (some ⟨b1, 0, none⟩))]) rfl
  refine xt_norm ?_
  refine wp_seq ?_
  refine wp_region_lit ?_
  refine st_run tbOk 2 hA (e' := (7, .pointer (some ⟨b1, 2, none⟩)) :: (6, .pointer (some ⟨b, 0, none⟩)) :: _) rfl ?_; clear hA; intro a hA
  refine st_val hA rfl rfl (by decide) (rn_load tbOk hA rfl rfl rfl rfl (cell_row (hS.heapAt 0 rfl) rfl)) ?_; clear hA; intro a hA
  obtain ⟨b4, o5, rfl⟩ := hO.isSome (k := k) (by omega)
  replace hS := hS.front 1 (C := [(b, rowO [.int .u64 p, .int .i64 wt, .int .i64 tr, .slice (some ⟨b4, o5, none⟩) cs.length c] 61)]) (L' := [(b1, rowO [.int .u64 m0, .int .u64 m1, .int .u32 m2, .int .u16 m3, .int .u16 m4, .int .u64 m5, .int .u32 m6, .int .u8 m7, .int .u64 m8, .int .u64 m9, d] 32)] :: C :: D :: F) rfl rfl
  refine st_call0 hA rfl rfl rfl isfn18 rfl rfl (by decide) (getp_hit18 hS (k := k) hid hkl (by omega)) ?_
  clear hA hS; rintro _ w3 a ⟨rfl, hS⟩ hA
  refine st_run tbOk 1 hA (e' := (5, .pointer (some ⟨b4, o5 + (k * 25), none⟩)) :: _) rfl ?_; clear hA; intro a hA
  refine wpList_nil ?_
  replace hA := hA.sel [0, 3, 5] (e' := [(0, .pointer (some ⟨b, 0, none⟩)), (3, .pointer (some ⟨b1, 0, none⟩)), (5, .pointer (some ⟨b4, o5 + (k * 25), none⟩))]) rfl
  refine xt_norm ?_
  refine wp_seq ?_
  refine wp_seq ?_
  refine wp_draw (fun w' => St w0 w' ([(b, rowO [.int .u64 p, .int .i64 wt, .int .i64 tr, .slice (some ⟨b4, o5, none⟩) cs.length c] 61)] :: [(b1, rowO [.int .u64 m0, .int .u64 m1, .int .u32 m2, .int .u16 m3, .int .u16 m4, .int .u64 m5, .int .u32 m6, .int .u8 m7, .int .u64 m8, .int .u64 m9, d] 32)] :: C :: D :: F)) [] [(0, true), (1, true), (2, true), (3, true), (4, true), (5, true), (6, true), (7, true), (8, true), (9, true), (10, true), (11, true), (12, true), (13, true), (14, true), (15, true), (16, true), (17, true), (18, true), (19, true), (20, true), (21, true), (22, true), (23, true), (24, true), (25, true), (26, true), (27, true)] mixed (by kernel_rfl) (by rintro c a w ⟨_, _, h, _⟩; cases h) (by rfl) (by kernel_rfl) ?_
  replace hS := hS.drew
  refine dr_run tbOk 6 hA hS (e' := (15, .pointer (some ⟨b4, o5 + (k * 25) + 11, none⟩)) :: (14, .pointer (some ⟨b4, o5 + (k * 25), none⟩)) :: (13, .pointer (some ⟨b4, o5 + (k * 25), none⟩)) :: (12, .bool false) :: (11, .bool false) :: (10, .pointer (some ⟨b4, o5 + (k * 25), none⟩)) :: _) rfl ?_; clear hA; intro a hA
  refine dr_y hA rfl rfl rfl (by decide) hS (fun w' hS' => rn_load tbOk hA rfl rfl rfl rfl ((hO.rd (hS'.own_ 2 rfl)).elemf (k := k) encCall_ok hx (j := 11) rfl)) ?_; clear hA; intro a hA
  refine dr_run tbOk 3 hA hS (e' := (19, .bool (xf13 != 1)) :: (18, .bool (xf13 != 1)) :: (17, .bool (xf13 != 1)) :: _) rfl ?_; clear hA; intro a hA
  by_cases hc6 : xf13 = 1
  · first
    | (exfalso; omega)
    | (replace hA := hA.rw 17 (v' := .bool false) rfl (vb_ne_f hc6)
       replace hA := hA.rw 18 (v' := .bool false) rfl (vb_ne_f hc6)
       replace hA := hA.rw 19 (v' := .bool false) rfl (vb_ne_f hc6)
       refine dr_run tbOk 1 hA hS (e' := (20, .pointer (some ⟨b1, 0, none⟩)) :: _) rfl ?_; clear hA; intro a hA
       refine dr_y hA rfl rfl rfl (by decide) hS (fun w' hS' => rn_load tbOk hA rfl rfl rfl rfl (cell_row (hS'.heapAt 1 rfl) rfl)) ?_; clear hA; intro a hA
       refine dr_run tbOk 3 hA hS (e' := (24, .pointer (some ⟨b, 0, none⟩)) :: (23, .pointer (some ⟨b, 0, none⟩)) :: (22, .pointer (some ⟨b, 0, none⟩)) :: _) rfl ?_; clear hA; intro a hA
       refine dr_y hA rfl rfl rfl (by decide) hS (fun w' hS' => rn_load tbOk hA rfl rfl rfl rfl (cell_row (hS'.heapAt 0 rfl) rfl)) ?_; clear hA; intro a hA
       refine dr_run tbOk 3 hA hS (e' := (28, .bool (m0 != p)) :: (27, .bool (m0 != p)) :: (26, .bool (m0 != p)) :: _) rfl ?_; clear hA; intro a hA
       by_cases hc7 : m0 = p
       · first
         | (exfalso; omega)
         | (replace hA := hA.rw 26 (v' := .bool false) rfl (vb_ne_f hc7)
            replace hA := hA.rw 27 (v' := .bool false) rfl (vb_ne_f hc7)
            replace hA := hA.rw 28 (v' := .bool false) rfl (vb_ne_f hc7)
            refine dr_run tbOk 1 hA hS (e' := (29, .pointer (some ⟨b1, 1, none⟩)) :: _) rfl ?_; clear hA; intro a hA
            refine dr_y hA rfl rfl rfl (by decide) hS (fun w' hS' => rn_load tbOk hA rfl rfl rfl rfl (cell_row (hS'.heapAt 1 rfl) rfl)) ?_; clear hA; intro a hA
            refine dr_run tbOk 4 hA hS (e' := (34, .pointer (some ⟨b4, o5 + (k * 25), none⟩)) :: (33, .pointer (some ⟨b4, o5 + (k * 25), none⟩)) :: (32, .pointer (some ⟨b4, o5 + (k * 25), none⟩)) :: (31, .pointer (some ⟨b4, o5 + (k * 25), none⟩)) :: _) rfl ?_; clear hA; intro a hA
            refine dr_y hA rfl rfl rfl (by decide) hS (fun w' hS' => rn_load tbOk hA rfl rfl rfl rfl ((hO.rd (hS'.own_ 2 rfl)).elemf (k := k) encCall_ok hx (j := 0) rfl)) ?_; clear hA; intro a hA
            refine dr_run tbOk 2 hA hS (e' := (37, .bool (m1 != xf0)) :: (36, .bool (m1 != xf0)) :: _) rfl ?_; clear hA; intro a hA
            refine dr_end ?_
            replace hA := hA.sel [3, 5, 37] (e' := [(3, .pointer (some ⟨b1, 0, none⟩)), (5, .pointer (some ⟨b4, o5 + (k * 25), none⟩)), (37, .bool (m1 != xf0))]) rfl
            refine xt_norm ?_
            by_cases hc8 : m1 = xf0
            · first
              | (exfalso; omega)
              | (replace hA := hA.rw 37 (v' := .bool false) rfl (vb_ne_f hc8)
                 refine cd_cond_f hA rfl ?_
                 refine wp_skip ?_
                 refine xt_norm ?_
                 refine wp_seq ?_
                 exfalso; omega)
            · first
              | (exfalso; omega)
              | (replace hA := hA.rw 37 (v' := .bool true) rfl (vb_ne_t hc8)
                 refine cd_cond_t hA rfl ?_
                 refine wp_seq ?_
                 refine wp_region_lit ?_
                 refine st_run tbOk 1 hA (e' := (4, .bool false) :: _) rfl ?_; clear hA; intro a hA
                 refine wpList_nil ?_
                 replace hA := hA.sel [4] (e' := [(4, .bool false)]) rfl
                 refine xt_norm ?_
                 refine wp_ret (xt_ret ?_)
                 refine ret1 (fn := Tryd.f12) hA rfl rfl ?_
                 replace hS := hS.front 1 (C := [(b1, rowO [.int .u64 m0, .int .u64 m1, .int .u32 m2, .int .u16 m3, .int .u16 m4, .int .u64 m5, .int .u32 m6, .int .u8 m7, .int .u64 m8, .int .u64 m9, d] 32)]) (L' := [(b, rowO [.int .u64 p, .int .i64 wt, .int .i64 tr, .slice (some ⟨b4, o5, none⟩) cs.length c] 61)] :: C :: D :: F) rfl rfl
                 replace hS := hS.drop1
                 replace hS := hS.front 1 (C := C) (L' := [(b, rowO [.int .u64 p, .int .i64 wt, .int .i64 tr, .slice (some ⟨b4, o5, none⟩) cs.length c] 61)] :: D :: F) rfl rfl
                 replace hS := hS.front 1 (C := [(b, rowO [.int .u64 p, .int .i64 wt, .int .i64 tr, .slice (some ⟨b4, o5, none⟩) cs.length c] 61)]) (L' := C :: D :: F) rfl rfl
                 replace hS := hS.front 2 (C := D) (L' := [(b, rowO [.int .u64 p, .int .i64 wt, .int .i64 tr, .slice (some ⟨b4, o5, none⟩) cs.length c] 61)] :: C :: F) rfl rfl
                 replace hS := hS.front 2 (C := C) (L' := D :: [(b, rowO [.int .u64 p, .int .i64 wt, .int .i64 tr, .slice (some ⟨b4, o5, none⟩) cs.length c] 61)] :: F) rfl rfl
                 replace hS := hS.front 2 (C := [(b, rowO [.int .u64 p, .int .i64 wt, .int .i64 tr, .slice (some ⟨b4, o5, none⟩) cs.length c] 61)]) (L' := C :: D :: F) rfl rfl
                 replace hS := hS.join
                 exact ⟨_, ⟨_, _, hO, rfl⟩, rfl, hS⟩))
       · first
         | (exfalso; omega)
         | (replace hA := hA.rw 26 (v' := .bool true) rfl (vb_ne_t hc7)
            replace hA := hA.rw 27 (v' := .bool true) rfl (vb_ne_t hc7)
            replace hA := hA.rw 28 (v' := .bool true) rfl (vb_ne_t hc7)
            refine dr_run tbOk 9 hA hS (e' := (37, .bool true) :: (36, undef) :: (35, undef) :: (34, undef) :: (33, undef) :: (32, undef) :: (31, undef) :: (30, undef) :: (29, undef) :: _) rfl ?_; clear hA; intro a hA
            refine dr_end ?_
            replace hA := hA.sel [3, 5, 37] (e' := [(3, .pointer (some ⟨b1, 0, none⟩)), (5, .pointer (some ⟨b4, o5 + (k * 25), none⟩)), (37, .bool true)]) rfl
            refine xt_norm ?_
            refine cd_cond_t hA rfl ?_
            refine wp_seq ?_
            refine wp_region_lit ?_
            refine st_run tbOk 1 hA (e' := (4, .bool false) :: _) rfl ?_; clear hA; intro a hA
            refine wpList_nil ?_
            replace hA := hA.sel [4] (e' := [(4, .bool false)]) rfl
            refine xt_norm ?_
            refine wp_ret (xt_ret ?_)
            refine ret1 (fn := Tryd.f12) hA rfl rfl ?_
            replace hS := hS.front 1 (C := [(b1, rowO [.int .u64 m0, .int .u64 m1, .int .u32 m2, .int .u16 m3, .int .u16 m4, .int .u64 m5, .int .u32 m6, .int .u8 m7, .int .u64 m8, .int .u64 m9, d] 32)]) (L' := [(b, rowO [.int .u64 p, .int .i64 wt, .int .i64 tr, .slice (some ⟨b4, o5, none⟩) cs.length c] 61)] :: C :: D :: F) rfl rfl
            replace hS := hS.drop1
            replace hS := hS.front 1 (C := C) (L' := [(b, rowO [.int .u64 p, .int .i64 wt, .int .i64 tr, .slice (some ⟨b4, o5, none⟩) cs.length c] 61)] :: D :: F) rfl rfl
            replace hS := hS.front 1 (C := [(b, rowO [.int .u64 p, .int .i64 wt, .int .i64 tr, .slice (some ⟨b4, o5, none⟩) cs.length c] 61)]) (L' := C :: D :: F) rfl rfl
            replace hS := hS.front 2 (C := D) (L' := [(b, rowO [.int .u64 p, .int .i64 wt, .int .i64 tr, .slice (some ⟨b4, o5, none⟩) cs.length c] 61)] :: C :: F) rfl rfl
            replace hS := hS.front 2 (C := C) (L' := D :: [(b, rowO [.int .u64 p, .int .i64 wt, .int .i64 tr, .slice (some ⟨b4, o5, none⟩) cs.length c] 61)] :: F) rfl rfl
            replace hS := hS.front 2 (C := [(b, rowO [.int .u64 p, .int .i64 wt, .int .i64 tr, .slice (some ⟨b4, o5, none⟩) cs.length c] 61)]) (L' := C :: D :: F) rfl rfl
            replace hS := hS.join
            exact ⟨_, ⟨_, _, hO, rfl⟩, rfl, hS⟩))
  · first
    | (exfalso; omega)
    | (replace hA := hA.rw 17 (v' := .bool true) rfl (vb_ne_t hc6)
       replace hA := hA.rw 18 (v' := .bool true) rfl (vb_ne_t hc6)
       replace hA := hA.rw 19 (v' := .bool true) rfl (vb_ne_t hc6)
       refine dr_run tbOk 18 hA hS (e' := (37, .bool true) :: (36, undef) :: (35, undef) :: (34, undef) :: (33, undef) :: (32, undef) :: (31, undef) :: (30, undef) :: (29, undef) :: (28, .bool true) :: (27, .bool true) :: (26, undef) :: (25, undef) :: (24, undef) :: (23, undef) :: (22, undef) :: (21, undef) :: (20, undef) :: _) rfl ?_; clear hA; intro a hA
       refine dr_end ?_
       replace hA := hA.sel [3, 5, 37] (e' := [(3, .pointer (some ⟨b1, 0, none⟩)), (5, .pointer (some ⟨b4, o5 + (k * 25), none⟩)), (37, .bool true)]) rfl
       refine xt_norm ?_
       refine cd_cond_t hA rfl ?_
       refine wp_seq ?_
       refine wp_region_lit ?_
       refine st_run tbOk 1 hA (e' := (4, .bool false) :: _) rfl ?_; clear hA; intro a hA
       refine wpList_nil ?_
       replace hA := hA.sel [4] (e' := [(4, .bool false)]) rfl
       refine xt_norm ?_
       refine wp_ret (xt_ret ?_)
       refine ret1 (fn := Tryd.f12) hA rfl rfl ?_
       replace hS := hS.front 1 (C := [(b1, rowO [.int .u64 m0, .int .u64 m1, .int .u32 m2, .int .u16 m3, .int .u16 m4, .int .u64 m5, .int .u32 m6, .int .u8 m7, .int .u64 m8, .int .u64 m9, d] 32)]) (L' := [(b, rowO [.int .u64 p, .int .i64 wt, .int .i64 tr, .slice (some ⟨b4, o5, none⟩) cs.length c] 61)] :: C :: D :: F) rfl rfl
       replace hS := hS.drop1
       replace hS := hS.front 1 (C := C) (L' := [(b, rowO [.int .u64 p, .int .i64 wt, .int .i64 tr, .slice (some ⟨b4, o5, none⟩) cs.length c] 61)] :: D :: F) rfl rfl
       replace hS := hS.front 1 (C := [(b, rowO [.int .u64 p, .int .i64 wt, .int .i64 tr, .slice (some ⟨b4, o5, none⟩) cs.length c] 61)]) (L' := C :: D :: F) rfl rfl
       replace hS := hS.front 2 (C := D) (L' := [(b, rowO [.int .u64 p, .int .i64 wt, .int .i64 tr, .slice (some ⟨b4, o5, none⟩) cs.length c] 61)] :: C :: F) rfl rfl
       replace hS := hS.front 2 (C := C) (L' := D :: [(b, rowO [.int .u64 p, .int .i64 wt, .int .i64 tr, .slice (some ⟨b4, o5, none⟩) cs.length c] 61)] :: F) rfl rfl
       replace hS := hS.front 2 (C := [(b, rowO [.int .u64 p, .int .i64 wt, .int .i64 tr, .slice (some ⟨b4, o5, none⟩) cs.length c] 61)]) (L' := C :: D :: F) rfl rfl
       replace hS := hS.join
       exact ⟨_, ⟨_, _, hO, rfl⟩, rfl, hS⟩)

theorem answer_ok12 {w0 w : World} {F : List Chunk} {L D : Chunk} {b : Nat} {p wt tr : Int} {cs : List Call} (hS : St w0 w (L :: D :: F)) (hM : CR b p wt tr cs L) (m0 m1 m2 m3 m4 m5 m6 m7 m8 m9 : Int) {d : Value} {bs : List UInt8} (hd : RdSX w0 (D :: F) 1 d bs.length (rows encB bs)) (hbl : bs.length ≤ 140737488351232) {k : Nat} {x : Call} (hx : cs[k]? = some x) (hl : cs.length ≤ 64) (hid : m2 = (k : Int) + 1) (hst : cst x = 1) (hm0 : m0 = p) (hm1 : m1 = x.1) :
    Ret Tryd.prog 12 #[.pointer (some ⟨b, 0, none⟩), .agg #[.int .u64 m0, .int .u64 m1, .int .u32 m2, .int .u16 m3, .int .u16 m4, .int .u64 m5, .int .u32 m6, .int .u8 m7, .int .u64 m8, .int .u64 m9, d]] w (fun v w' => ∃ L' E A c, CR b p wt tr (cs.set k (mkc (rq x) 2 (ctr x) (clf x) (m0, m1, m2, m3, m4, m5, m6, m7, m8, m9, A, c, bs))) L' ∧ DD w0 E A c bs ∧ v = .bool true ∧ St w0 w' (L' :: (E ++ D) :: F)) := by
  obtain ⟨v, C, hO, rfl⟩ := hM
  obtain ⟨A, c, rfl, hmc, hcx⟩ := hO.open'
  replace hS : St w0 w ([(b, rowO [.int .u64 p, .int .i64 wt, .int .i64 tr, .slice A cs.length c] 61)] :: C :: D :: F) := hS.split
  obtain ⟨B, d', rfl, hmd, hdx⟩ := (hd _ (hS.tail 2 rfl)).open'
  have hkl := (List.getElem?_eq_some_iff.1 hx).1
  obtain ⟨xf0, xf1, xf2, xf3, xf4, xf5, xf6, xf7, xf8, xf9, xA10, xc10, xb10, xf13, xf14, xf15, xf16, xf17, xf18, xf19, xf20, xf21, xf22, xf23, xf24, xf25, xA26, xc26, xb26⟩ := x
  dsimp only [cst] at hst
  refine enter (vs := [.pointer (some ⟨b, 0, none⟩), .agg #[.int .u64 m0, .int .u64 m1, .int .u32 m2, .int .u16 m3, .int .u16 m4, .int .u64 m5, .int .u32 m6, .int .u8 m7, .int .u64 m8, .int .u64 m9, .slice B bs.length d']]) 46 Tryd.func12 rfl rfl (by simp) ?_; intro a hA
  refine wp_seq ?_
  refine wp_region_lit ?_
  refine st_box hA hS [.int .u64 m0, .int .u64 m1, .int .u32 m2, .int .u16 m3, .int .u16 m4, .int .u64 m5, .int .u32 m6, .int .u8 m7, .int .u64 m8, .int .u64 m9, .slice B bs.length d'] rfl rfl rfl rfl rfl (by decide) ?_; clear hA hS; intro b1 w2 a hS hA
  refine st_run tbOk 1 hA (e' := (4, .bool false) :: _) rfl ?_; clear hA; intro a hA
  refine wpList_nil ?_
  replace hA := hA.sel [0, 3] (e' := [(0, .pointer (some ⟨b, 0, none⟩)), (3, .pointer (some ⟨b1, 0, none⟩))]) rfl
  refine xt_norm ?_
  refine wp_seq ?_
  refine wp_region_lit ?_
  refine st_run tbOk 2 hA (e' := (7, .pointer (some ⟨b1, 2, none⟩)) :: (6, .pointer (some ⟨b, 0, none⟩)) :: _) rfl ?_; clear hA; intro a hA
  refine st_val hA rfl rfl (by decide) (rn_load tbOk hA rfl rfl rfl rfl (cell_row (hS.heapAt 0 rfl) rfl)) ?_; clear hA; intro a hA
  obtain ⟨b4, o5, rfl⟩ := hO.isSome (k := k) (by omega)
  replace hS := hS.front 1 (C := [(b, rowO [.int .u64 p, .int .i64 wt, .int .i64 tr, .slice (some ⟨b4, o5, none⟩) cs.length c] 61)]) (L' := [(b1, rowO [.int .u64 m0, .int .u64 m1, .int .u32 m2, .int .u16 m3, .int .u16 m4, .int .u64 m5, .int .u32 m6, .int .u8 m7, .int .u64 m8, .int .u64 m9, .slice B bs.length d'] 32)] :: C :: D :: F) rfl rfl
  refine st_call0 hA rfl rfl rfl isfn18 rfl rfl (by decide) (getp_hit18 hS (k := k) hid hkl (by omega)) ?_
  clear hA hS; rintro _ w3 a ⟨rfl, hS⟩ hA
  refine st_run tbOk 1 hA (e' := (5, .pointer (some ⟨b4, o5 + (k * 25), none⟩)) :: _) rfl ?_; clear hA; intro a hA
  refine wpList_nil ?_
  replace hA := hA.sel [0, 3, 5] (e' := [(0, .pointer (some ⟨b, 0, none⟩)), (3, .pointer (some ⟨b1, 0, none⟩)), (5, .pointer (some ⟨b4, o5 + (k * 25), none⟩))]) rfl
  refine xt_norm ?_
  refine wp_seq ?_
  refine wp_seq ?_
  refine wp_draw (fun w' => St w0 w' ([(b, rowO [.int .u64 p, .int .i64 wt, .int .i64 tr, .slice (some ⟨b4, o5, none⟩) cs.length c] 61)] :: [(b1, rowO [.int .u64 m0, .int .u64 m1, .int .u32 m2, .int .u16 m3, .int .u16 m4, .int .u64 m5, .int .u32 m6, .int .u8 m7, .int .u64 m8, .int .u64 m9, .slice B bs.length d'] 32)] :: C :: D :: F)) [] [(0, true), (1, true), (2, true), (3, true), (4, true), (5, true), (6, true), (7, true), (8, true), (9, true), (10, true), (11, true), (12, true), (13, true), (14, true), (15, true), (16, true), (17, true), (18, true), (19, true), (20, true), (21, true), (22, true), (23, true), (24, true), (25, true), (26, true), (27, true)] mixed (by kernel_rfl) (by rintro c a w ⟨_, _, h, _⟩; cases h) (by rfl) (by kernel_rfl) ?_
  replace hS := hS.drew
  refine dr_run tbOk 6 hA hS (e' := (15, .pointer (some ⟨b4, o5 + (k * 25) + 11, none⟩)) :: (14, .pointer (some ⟨b4, o5 + (k * 25), none⟩)) :: (13, .pointer (some ⟨b4, o5 + (k * 25), none⟩)) :: (12, .bool false) :: (11, .bool false) :: (10, .pointer (some ⟨b4, o5 + (k * 25), none⟩)) :: _) rfl ?_; clear hA; intro a hA
  refine dr_y hA rfl rfl rfl (by decide) hS (fun w' hS' => rn_load tbOk hA rfl rfl rfl rfl ((hO.rd (hS'.own_ 2 rfl)).elemf (k := k) encCall_ok hx (j := 11) rfl)) ?_; clear hA; intro a hA
  refine dr_run tbOk 3 hA hS (e' := (19, .bool (xf13 != 1)) :: (18, .bool (xf13 != 1)) :: (17, .bool (xf13 != 1)) :: _) rfl ?_; clear hA; intro a hA
  have hc6 : xf13 = 1 := by omega
  replace hA := hA.rw 17 (v' := .bool false) rfl (vb_ne_f hc6)
  replace hA := hA.rw 18 (v' := .bool false) rfl (vb_ne_f hc6)
  replace hA := hA.rw 19 (v' := .bool false) rfl (vb_ne_f hc6)
  refine dr_run tbOk 1 hA hS (e' := (20, .pointer (some ⟨b1, 0, none⟩)) :: _) rfl ?_; clear hA; intro a hA
  refine dr_y hA rfl rfl rfl (by decide) hS (fun w' hS' => rn_load tbOk hA rfl rfl rfl rfl (cell_row (hS'.heapAt 1 rfl) rfl)) ?_; clear hA; intro a hA
  refine dr_run tbOk 3 hA hS (e' := (24, .pointer (some ⟨b, 0, none⟩)) :: (23, .pointer (some ⟨b, 0, none⟩)) :: (22, .pointer (some ⟨b, 0, none⟩)) :: _) rfl ?_; clear hA; intro a hA
  refine dr_y hA rfl rfl rfl (by decide) hS (fun w' hS' => rn_load tbOk hA rfl rfl rfl rfl (cell_row (hS'.heapAt 0 rfl) rfl)) ?_; clear hA; intro a hA
  refine dr_run tbOk 3 hA hS (e' := (28, .bool (m0 != p)) :: (27, .bool (m0 != p)) :: (26, .bool (m0 != p)) :: _) rfl ?_; clear hA; intro a hA
  have hc7 : m0 = p := by omega
  replace hA := hA.rw 26 (v' := .bool false) rfl (vb_ne_f hc7)
  replace hA := hA.rw 27 (v' := .bool false) rfl (vb_ne_f hc7)
  replace hA := hA.rw 28 (v' := .bool false) rfl (vb_ne_f hc7)
  refine dr_run tbOk 1 hA hS (e' := (29, .pointer (some ⟨b1, 1, none⟩)) :: _) rfl ?_; clear hA; intro a hA
  refine dr_y hA rfl rfl rfl (by decide) hS (fun w' hS' => rn_load tbOk hA rfl rfl rfl rfl (cell_row (hS'.heapAt 1 rfl) rfl)) ?_; clear hA; intro a hA
  refine dr_run tbOk 4 hA hS (e' := (34, .pointer (some ⟨b4, o5 + (k * 25), none⟩)) :: (33, .pointer (some ⟨b4, o5 + (k * 25), none⟩)) :: (32, .pointer (some ⟨b4, o5 + (k * 25), none⟩)) :: (31, .pointer (some ⟨b4, o5 + (k * 25), none⟩)) :: _) rfl ?_; clear hA; intro a hA
  refine dr_y hA rfl rfl rfl (by decide) hS (fun w' hS' => rn_load tbOk hA rfl rfl rfl rfl ((hO.rd (hS'.own_ 2 rfl)).elemf (k := k) encCall_ok hx (j := 0) rfl)) ?_; clear hA; intro a hA
  refine dr_run tbOk 2 hA hS (e' := (37, .bool (m1 != xf0)) :: (36, .bool (m1 != xf0)) :: _) rfl ?_; clear hA; intro a hA
  refine dr_end ?_
  replace hA := hA.sel [3, 5, 37] (e' := [(3, .pointer (some ⟨b1, 0, none⟩)), (5, .pointer (some ⟨b4, o5 + (k * 25), none⟩)), (37, .bool (m1 != xf0))]) rfl
  refine xt_norm ?_
  have hc8 : m1 = xf0 := by omega
  replace hA := hA.rw 37 (v' := .bool false) rfl (vb_ne_f hc8)
  refine cd_cond_f hA rfl ?_
  refine wp_skip ?_
  refine xt_norm ?_
  refine wp_seq ?_
  refine wp_region_lit ?_
  refine st_run tbOk 2 hA (e' := (39, .pointer (some ⟨b4, o5 + (k * 25), none⟩)) :: (38, .pointer (some ⟨b4, o5 + (k * 25), none⟩)) :: _) rfl ?_; clear hA; intro a hA
  refine st_val hA rfl rfl (by decide) (rn_loadA tbOk hA [.int .u64 m0, .int .u64 m1, .int .u32 m2, .int .u16 m3, .int .u16 m4, .int .u64 m5, .int .u32 m6, .int .u8 m7, .int .u64 m8, .int .u64 m9, .slice B bs.length d'] rfl rfl rfl rfl rfl (cells_row (hS.heapAt 1 rfl) rfl)) ?_; clear hA; intro a hA
  refine st_call0 hA rfl rfl rfl isfn17 rfl rfl (by decide) (ccop17 hS m0 m1 m2 m3 m4 m5 m6 m7 m8 m9 (bs := bs) (fun w' h => (hd _ (h.tail 3 rfl))) (by omega)) ?_
  clear hA hS; rintro _ w12 a ⟨A9, c10, C11, hOC11, rfl, hS⟩ hA
  refine st_run tbOk 2 hA (e' := (43, .pointer (some ⟨b4, o5 + (k * 25) + 11, none⟩)) :: (42, .pointer (some ⟨b4, o5 + (k * 25), none⟩)) :: _) rfl ?_; clear hA; intro a hA
  replace hS := hS.front 3 (C := C) (L' := C11 :: [(b, rowO [.int .u64 p, .int .i64 wt, .int .i64 tr, .slice (some ⟨b4, o5, none⟩) cs.length c] 61)] :: [(b1, rowO [.int .u64 m0, .int .u64 m1, .int .u32 m2, .int .u16 m3, .int .u16 m4, .int .u64 m5, .int .u32 m6, .int .u8 m7, .int .u64 m8, .int .u64 m9, .slice B bs.length d'] 32)] :: D :: F) rfl rfl
  refine st_store_own tbOk hA hO hS ((k * 25) + 11) (o5 + (k * 25) + 11) [.int .i64 2] (rows encCall (cs.set k (xf0, xf1, xf2, xf3, xf4, xf5, xf6, xf7, xf8, xf9, xA10, xc10, xb10, 2, xf14, xf15, xf16, xf17, xf18, xf19, xf20, xf21, xf22, xf23, xf24, xf25, xA26, xc26, xb26))) rfl rfl rfl rfl (by rfl) rfl rfl (by intro u hu; first | (rw [List.mem_singleton.1 hu]; rfl) | (simp only [List.mem_cons, List.not_mem_nil, or_false] at hu; rcases hu with rfl <;> rfl)) (by simp only [rows_length encCall_ok]; simp; omega) (rows_setf encCall_ok (xf0, xf1, xf2, xf3, xf4, xf5, xf6, xf7, xf8, xf9, xA10, xc10, xb10, 2, xf14, xf15, xf16, xf17, xf18, xf19, xf20, xf21, xf22, xf23, xf24, xf25, xA26, xc26, xb26) (hx) 11 [.int .i64 2] (Nat.le_of_ble_eq_true rfl) rfl) rfl rfl ?_; clear hS; intro w13 C14 hO14 hS
  refine st_run tbOk 2 hA (e' := (45, .pointer (some ⟨b4, o5 + (k * 25) + 14, none⟩)) :: (44, .pointer (some ⟨b4, o5 + (k * 25), none⟩)) :: _) rfl ?_; clear hA; intro a hA
  refine st_store_own tbOk hA hO14 hS ((k * 25) + 14) (o5 + (k * 25) + 14) [.int .u64 m0, .int .u64 m1, .int .u32 m2, .int .u16 m3, .int .u16 m4, .int .u64 m5, .int .u32 m6, .int .u8 m7, .int .u64 m8, .int .u64 m9, .slice A9 bs.length c10] (rows encCall ((cs.set k (xf0, xf1, xf2, xf3, xf4, xf5, xf6, xf7, xf8, xf9, xA10, xc10, xb10, 2, xf14, xf15, xf16, xf17, xf18, xf19, xf20, xf21, xf22, xf23, xf24, xf25, xA26, xc26, xb26)).set k (xf0, xf1, xf2, xf3, xf4, xf5, xf6, xf7, xf8, xf9, xA10, xc10, xb10, 2, xf14, xf15, m0, m1, m2, m3, m4, m5, m6, m7, m8, m9, A9, c10, bs))) rfl rfl rfl rfl (by rfl) rfl rfl (by intro u hu; first | (rw [List.mem_singleton.1 hu]; rfl) | (simp only [List.mem_cons, List.not_mem_nil, or_false] at hu; rcases hu with rfl | rfl | rfl | rfl | rfl | rfl | rfl | rfl | rfl | rfl | rfl <;> rfl)) (by simp only [rows_length encCall_ok]; simp; omega) (rows_setf encCall_ok (xf0, xf1, xf2, xf3, xf4, xf5, xf6, xf7, xf8, xf9, xA10, xc10, xb10, 2, xf14, xf15, m0, m1, m2, m3, m4, m5, m6, m7, m8, m9, A9, c10, bs) ((List.getElem?_set_self (by first | exact hkl | (simp only [List.length_set]; exact hkl)))) 14 [.int .u64 m0, .int .u64 m1, .int .u32 m2, .int .u16 m3, .int .u16 m4, .int .u64 m5, .int .u32 m6, .int .u8 m7, .int .u64 m8, .int .u64 m9, .slice A9 bs.length c10] (Nat.le_of_ble_eq_true rfl) rfl) rfl rfl ?_; clear hS; intro w15 C16 hO16 hS
  refine wpList_nil ?_
  replace hA := hA.sel [] (e' := []) rfl
  refine xt_norm ?_
  refine wp_seq ?_
  refine wp_region_lit ?_
  refine st_run tbOk 1 hA (e' := (4, .bool true) :: _) rfl ?_; clear hA; intro a hA
  refine wpList_nil ?_
  refine xt_norm ?_
  refine wp_ret ?_
  refine ret1 (fn := Tryd.f12) hA rfl rfl ?_
  have hss : (cs.set k (xf0, xf1, xf2, xf3, xf4, xf5, xf6, xf7, xf8, xf9, xA10, xc10, xb10, 2, xf14, xf15, xf16, xf17, xf18, xf19, xf20, xf21, xf22, xf23, xf24, xf25, xA26, xc26, xb26)).set k (xf0, xf1, xf2, xf3, xf4, xf5, xf6, xf7, xf8, xf9, xA10, xc10, xb10, 2, xf14, xf15, m0, m1, m2, m3, m4, m5, m6, m7, m8, m9, A9, c10, bs) = cs.set k (xf0, xf1, xf2, xf3, xf4, xf5, xf6, xf7, xf8, xf9, xA10, xc10, xb10, 2, xf14, xf15, m0, m1, m2, m3, m4, m5, m6, m7, m8, m9, A9, c10, bs) := by rw [List.set_set]
  rw [hss] at hO16
  replace hS := hS.front 3 (C := [(b1, rowO [.int .u64 m0, .int .u64 m1, .int .u32 m2, .int .u16 m3, .int .u16 m4, .int .u64 m5, .int .u32 m6, .int .u8 m7, .int .u64 m8, .int .u64 m9, .slice B bs.length d'] 32)]) (L' := C16 :: C11 :: [(b, rowO [.int .u64 p, .int .i64 wt, .int .i64 tr, .slice (some ⟨b4, o5, none⟩) cs.length c] 61)] :: D :: F) rfl rfl
  replace hS := hS.drop1
  replace hS := hS.front 2 (C := [(b, rowO [.int .u64 p, .int .i64 wt, .int .i64 tr, .slice (some ⟨b4, o5, none⟩) cs.length c] 61)]) (L' := C16 :: C11 :: D :: F) rfl rfl
  replace hS := hS.front 3 (C := D) (L' := [(b, rowO [.int .u64 p, .int .i64 wt, .int .i64 tr, .slice (some ⟨b4, o5, none⟩) cs.length c] 61)] :: C16 :: C11 :: F) rfl rfl
  replace hS := hS.front 3 (C := C11) (L' := D :: [(b, rowO [.int .u64 p, .int .i64 wt, .int .i64 tr, .slice (some ⟨b4, o5, none⟩) cs.length c] 61)] :: C16 :: F) rfl rfl
  replace hS := hS.join
  replace hS := hS.front 2 (C := C16) (L' := (C11 ++ D) :: [(b, rowO [.int .u64 p, .int .i64 wt, .int .i64 tr, .slice (some ⟨b4, o5, none⟩) cs.length c] 61)] :: F) rfl rfl
  replace hS := hS.front 2 (C := [(b, rowO [.int .u64 p, .int .i64 wt, .int .i64 tr, .slice (some ⟨b4, o5, none⟩) cs.length c] 61)]) (L' := C16 :: (C11 ++ D) :: F) rfl rfl
  replace hS := hS.join
  exact ⟨_, _, _, _, ⟨_, _, (by rw [List.length_set]; exact hO16), rfl⟩, DD.new hOC11, rfl, hS⟩

set_option maxHeartbeats 4000000 in
theorem ctick10 {w0 w : World} {F : List Chunk} {L D : Chunk} {b : Nat} {p wt tr : Int} {cs : List Call} (hS : St w0 w (L :: D :: F)) (hM : CR b p wt tr cs L) (hcd : ∀ x ∈ cs, encCall_dd w0 D x) (hcs : ∀ x ∈ cs, csz x) (hcg : ∀ x ∈ cs, cgd x) (hl : cs.length ≤ 64) (hw0 : 0 ≤ wt) (hw1 : wt ≤ 1000) :
    Ret Tryd.prog 10 #[.pointer (some ⟨b, 0, none⟩)] w (fun v w' => ∃ L' D' out Ao co Co, CR b p wt tr (cs.map (tick1 wt tr)) L' ∧ Own 32 11 (.slice Ao out.length co) out.length (rows encMessage out) Co ∧ out.map mst = (cs.filter (again1 tr)).map (fun x => mst (rq x)) ∧ (∀ y ∈ out, encMessage_dd w0 D' y) ∧ DX w0 D D' ∧ v = .slice Ao out.length co ∧ St w0 w' (Co :: L' :: D' :: F)) := by
  obtain ⟨v, C, hO, rfl⟩ := hM
  obtain ⟨A, c, rfl, hmc, hcx⟩ := hO.open'
  replace hS : St w0 w ([(b, rowO [.int .u64 p, .int .i64 wt, .int .i64 tr, .slice A cs.length c] 61)] :: C :: D :: F) := hS.split
  have hcap := hO.rcap
  refine enter (vs := [.pointer (some ⟨b, 0, none⟩)]) 76 Tryd.func10 rfl rfl (by simp) ?_; intro a hA
  refine wp_seq ?_
  refine wp_region_lit ?_
  refine st_run tbOk 1 hA (e' := (2, .slice none 0 0) :: _) rfl ?_; clear hA; intro a hA
  refine wpList_nil ?_
  replace hA := hA.sel [0] (e' := [(0, .pointer (some ⟨b, 0, none⟩))]) rfl
  refine xt_norm ?_
  refine wp_seq ?_
  refine wp_region_lit ?_
  refine st_run tbOk 1 hA (e' := (3, .slice none 0 0) :: _) rfl ?_; clear hA; intro a hA
  refine wpList_nil ?_
  refine xt_norm ?_
  refine wp_seq ?_
  refine wp_seq ?_
  refine wp_region_lit ?_
  refine st_run tbOk 3 hA (e' := (8, .pointer (some ⟨b, 3, none⟩)) :: (7, .pointer (some ⟨b, 0, none⟩)) :: (6, .pointer (some ⟨b, 0, none⟩)) :: _) rfl ?_; clear hA; intro a hA
  refine st_val hA rfl rfl (by decide) (rn_load tbOk hA rfl rfl rfl rfl (cell_row (hS.heapAt 0 rfl) rfl)) ?_; clear hA; intro a hA
  refine st_run tbOk 2 hA (e' := (11, .int .i64 0) :: (10, .int .i64 ((cs.length : Nat) : Int)) :: _) rfl ?_; clear hA; intro a hA
  refine wpList_nil ?_
  replace hA := hA.sel [0, 3, 10, 11] (e' := [(0, .pointer (some ⟨b, 0, none⟩)), (3, .slice none 0 0), (10, .int .i64 ((cs.length : Nat) : Int)), (11, .int .i64 0)]) rfl
  refine xt_norm ?_
  refine wp_block ?_
  replace hS := hS.nil
  replace hS := hS.front 3 (C := D) (L' := [] :: [(b, rowO [.int .u64 p, .int .i64 wt, .int .i64 tr, .slice A cs.length c] 61)] :: C :: F) rfl rfl
  replace hS := hS.front 3 (C := C) (L' := D :: [] :: [(b, rowO [.int .u64 p, .int .i64 wt, .int .i64 tr, .slice A cs.length c] 61)] :: F) rfl rfl
  replace hS := hS.front 3 (C := [(b, rowO [.int .u64 p, .int .i64 wt, .int .i64 tr, .slice A cs.length c] 61)]) (L' := C :: D :: [] :: F) rfl rfl
  refine wp_loop_ghost (fun m a w => ∃ (j : Nat) (out : List Msg) (C : Chunk) (D' : Chunk) (Au : Option Addr) (cu : Nat) (U : Chunk), m = cs.length - j ∧ Has a 76 [(0, .pointer (some ⟨b, 0, none⟩)), (3, .slice Au out.length cu), (10, .int .i64 ((cs.length : Nat) : Int)), (11, .int .i64 ((j : Nat) : Int))] ∧ St w0 w ([(b, rowO [.int .u64 p, .int .i64 wt, .int .i64 tr, .slice A cs.length c] 61)] :: C :: D' :: U :: F) ∧ (j ≤ cs.length) ∧ (Own 64 25 (.slice A cs.length c) cs.length (rows encCall (tkl wt tr cs j)) C) ∧ (Own 32 11 (.slice Au out.length cu) out.length (rows encMessage out) U) ∧ (out.map mst = agl tr cs j) ∧ (∀ y ∈ out, encMessage_dd w0 D' y) ∧ (DX w0 D D') ∧ (∀ x ∈ cs, encCall_dd w0 D' x)) (cs.length - 0)
    ⟨0, ([]), C, D, none, 0, ([]), rfl, (hA.sel [0, 3, 10, 11] rfl), hS, Nat.zero_le _, (by rw [tkl_zero]; exact hO), (Own.nil 32 11), rfl, fun y hy => by simp at hy, DX.refl, hcd⟩ ?_
  clear hA hS; rintro m0 a w1 ⟨j, out, C, D', Au, cu, U, rfl, hA, hS, hj, hO, hU, hum, hud, hdx, hcd2⟩
  have hol : out.length ≤ j := by
      have h := congrArg List.length hum
      rw [List.length_map] at h
      rw [h]; exact agl_le tr cs j
  refine wp_seq ?_
  refine wp_region_lit ?_
  refine st_run tbOk 1 hA (e' := (12, .bool (decide (((j : Nat) : Int) < ((cs.length : Nat) : Int)))) :: _) rfl ?_; clear hA; intro a hA
  refine wpList_nil ?_
  refine xt_norm ?_
  refine wp_seq ?_
  by_cases hc2 : ((j : Nat) : Int) < ((cs.length : Nat) : Int)
  · first
    | (exfalso; omega)
    | (replace hA := hA.rw 12 (v' := .bool true) rfl (vb_true hc2)
       refine cd_cond_t hA rfl ?_
       refine wp_skip ?_
       refine xt_norm ?_
       refine wp_seq ?_
       refine wp_block ?_
       refine wp_seq ?_
       refine wp_region_lit ?_
       refine st_run tbOk 2 hA (e' := (4, .int .i64 ((j : Nat) : Int)) :: (13, .int .i64 ((j : Nat) : Int)) :: _) rfl ?_; clear hA; intro a hA
       refine wpList_nil ?_
       replace hA := hA.sel [0, 3, 4, 10, 11] (e' := [(0, .pointer (some ⟨b, 0, none⟩)), (3, .slice Au out.length cu), (4, .int .i64 ((j : Nat) : Int)), (10, .int .i64 ((cs.length : Nat) : Int)), (11, .int .i64 ((j : Nat) : Int))]) rfl
       refine xt_norm ?_
       refine wp_seq ?_
       refine wp_region_lit ?_
       obtain ⟨x, hxj⟩ := get_ex (l := cs) (k := j) (by omega)
       have gx : (tkl wt tr cs j)[j]? = some x := tkl_at hxj
       have hkl : j < (tkl wt tr cs j).length := by rw [tkl_len]; omega
       have hdxj := hcd2 _ (List.mem_of_getElem? hxj); have hsxj := hcs _ (List.mem_of_getElem? hxj); have hgxj := hcg _ (List.mem_of_getElem? hxj)
       obtain ⟨xf0, xf1, xf2, xf3, xf4, xf5, xf6, xf7, xf8, xf9, xA10, xc10, xb10, xf13, xf14, xf15, xf16, xf17, xf18, xf19, xf20, xf21, xf22, xf23, xf24, xf25, xA26, xc26, xb26⟩ := x
       dsimp only [csz, mdat, rq, rp] at hsxj; dsimp only [cgd, cst, clf, ctr] at hgxj
       refine st_run tbOk 3 hA (e' := (16, .pointer (some ⟨b, 3, none⟩)) :: (15, .pointer (some ⟨b, 0, none⟩)) :: (14, .pointer (some ⟨b, 0, none⟩)) :: _) rfl ?_; clear hA; intro a hA
       refine st_val hA rfl rfl (by decide) (rn_load tbOk hA rfl rfl rfl rfl (cell_row (hS.heapAt 0 rfl) rfl)) ?_; clear hA; intro a hA
       refine st_run tbOk 1 hA (e' := (18, .int .i64 ((j : Nat) : Int)) :: _) rfl ?_; clear hA; intro a hA
       obtain ⟨b3, o4, rfl⟩ := hO.isSome (k := j) (by omega)
       refine st_val hA rfl rfl (by decide) (rn_indexAddr tbOk hA j (o4 + (j * 25)) rfl rfl rfl rfl rfl rfl (by rfl) (by omega) (by first | rfl | simp [Nat.mul_one, Nat.zero_add] | omega)) ?_; clear hA; intro a hA
       refine st_run tbOk 1 hA (e' := (5, .pointer (some ⟨b3, o4 + (j * 25), none⟩)) :: _) rfl ?_; clear hA; intro a hA
       refine wpList_nil ?_
       replace hA := hA.sel [0, 3, 5, 10, 11] (e' := [(0, .pointer (some ⟨b, 0, none⟩)), (3, .slice Au out.length cu), (5, .pointer (some ⟨b3, o4 + (j * 25), none⟩)), (10, .int .i64 ((cs.length : Nat) : Int)), (11, .int .i64 ((j : Nat) : Int))]) rfl
       refine xt_norm ?_
       refine wp_seq ?_
       refine wp_seq ?_
       refine wp_region_lit ?_
       refine st_run tbOk 3 hA (e' := (22, .pointer (some ⟨b3, o4 + (j * 25) + 11, none⟩)) :: (21, .pointer (some ⟨b3, o4 + (j * 25), none⟩)) :: (20, .pointer (some ⟨b3, o4 + (j * 25), none⟩)) :: _) rfl ?_; clear hA; intro a hA
       refine st_val hA rfl rfl (by decide) (rn_load tbOk hA rfl rfl rfl rfl ((hO.rd (hS.own_ 1 rfl)).elemf (k := j) encCall_ok gx (j := 11) rfl)) ?_; clear hA; intro a hA
       refine st_run tbOk 1 hA (e' := (24, .bool (xf13 != 1)) :: _) rfl ?_; clear hA; intro a hA
       refine wpList_nil ?_
       replace hA := hA.sel [0, 3, 5, 10, 11, 24] (e' := [(0, .pointer (some ⟨b, 0, none⟩)), (3, .slice Au out.length cu), (5, .pointer (some ⟨b3, o4 + (j * 25), none⟩)), (10, .int .i64 ((cs.length : Nat) : Int)), (11, .int .i64 ((j : Nat) : Int)), (24, .bool (xf13 != 1))]) rfl
       refine xt_norm ?_
       by_cases hc5 : xf13 = 1
       · first
         | (exfalso; omega)
         | (replace hA := hA.rw 24 (v' := .bool false) rfl (vb_ne_f hc5)
            refine cd_cond_f hA rfl ?_
            refine wp_skip ?_
            refine xt_norm ?_
            refine wp_seq ?_
            refine wp_region_lit ?_
            have hst8 : xf13 = 1 := by omega
            have hgx2 := hgxj hst8
            refine st_run tbOk 3 hA (e' := (27, .pointer (some ⟨b3, o4 + (j * 25) + 13, none⟩)) :: (26, .pointer (some ⟨b3, o4 + (j * 25), none⟩)) :: (25, .pointer (some ⟨b3, o4 + (j * 25), none⟩)) :: _) rfl ?_; clear hA; intro a hA
            refine st_val hA rfl rfl (by decide) (rn_load tbOk hA rfl rfl rfl rfl ((hO.rd (hS.own_ 1 rfl)).elemf (k := j) encCall_ok gx (j := 13) rfl)) ?_; clear hA; intro a hA
            refine st_run tbOk 1 hA (e' := (29, .int .i64 (IntKind.i64.wrap (xf15 - 1))) :: _) rfl ?_; clear hA; intro a hA
            replace hA := hA.rw 29 (v' := .int .i64 (xf15 - 1)) rfl (wr64 (by omega) (by omega) (by omega))
            refine st_run tbOk 2 hA (e' := (31, .pointer (some ⟨b3, o4 + (j * 25) + 13, none⟩)) :: (30, .pointer (some ⟨b3, o4 + (j * 25), none⟩)) :: _) rfl ?_; clear hA; intro a hA
            replace hS := hS.front 1 (C := C) (L' := [(b, rowO [.int .u64 p, .int .i64 wt, .int .i64 tr, .slice (some ⟨b3, o4, none⟩) cs.length c] 61)] :: D' :: U :: F) rfl rfl
            refine st_store_own tbOk hA hO hS ((j * 25) + 13) (o4 + (j * 25) + 13) [.int .i64 (xf15 - 1)] (rows encCall ((tkl wt tr cs j).set j (xf0, xf1, xf2, xf3, xf4, xf5, xf6, xf7, xf8, xf9, xA10, xc10, xb10, xf13, xf14, xf15 - 1, xf16, xf17, xf18, xf19, xf20, xf21, xf22, xf23, xf24, xf25, xA26, xc26, xb26))) rfl rfl rfl rfl (by rfl) rfl rfl (by intro u hu; first | (rw [List.mem_singleton.1 hu]; rfl) | (simp only [List.mem_cons, List.not_mem_nil, or_false] at hu; rcases hu with rfl <;> rfl)) (by simp only [rows_length encCall_ok, List.length_set, tkl_len]; simp; omega) (rows_setf encCall_ok (xf0, xf1, xf2, xf3, xf4, xf5, xf6, xf7, xf8, xf9, xA10, xc10, xb10, xf13, xf14, xf15 - 1, xf16, xf17, xf18, xf19, xf20, xf21, xf22, xf23, xf24, xf25, xA26, xc26, xb26) (gx) 13 [.int .i64 (xf15 - 1)] (Nat.le_of_ble_eq_true rfl) rfl) rfl rfl ?_; clear hS; intro w6 C7 hO7 hS
            refine wpList_nil ?_
            replace hA := hA.sel [0, 3, 5, 10, 11] (e' := [(0, .pointer (some ⟨b, 0, none⟩)), (3, .slice Au out.length cu), (5, .pointer (some ⟨b3, o4 + (j * 25), none⟩)), (10, .int .i64 ((cs.length : Nat) : Int)), (11, .int .i64 ((j : Nat) : Int))]) rfl
            refine xt_norm ?_
            refine wp_block ?_
            refine wp_seq ?_
            refine wp_region_lit ?_
            refine st_run tbOk 3 hA (e' := (58, .pointer (some ⟨b3, o4 + (j * 25) + 13, none⟩)) :: (57, .pointer (some ⟨b3, o4 + (j * 25), none⟩)) :: (56, .pointer (some ⟨b3, o4 + (j * 25), none⟩)) :: _) rfl ?_; clear hA; intro a hA
            refine st_val hA rfl rfl (by decide) (rn_load tbOk hA rfl rfl rfl rfl ((hO7.rd (hS.own_ 0 rfl)).elemf (k := j) encCall_ok (List.getElem?_set_self (by simp only [List.length_set, tkl_len]; omega)) (j := 13) rfl)) ?_; clear hA; intro a hA
            refine st_run tbOk 2 hA (e' := (55, .bool (decide (xf15 - 1 > 0))) :: (60, .bool (decide (xf15 - 1 > 0))) :: _) rfl ?_; clear hA; intro a hA
            refine wpList_nil ?_
            replace hA := hA.sel [0, 3, 5, 10, 11, 55] (e' := [(0, .pointer (some ⟨b, 0, none⟩)), (3, .slice Au out.length cu), (5, .pointer (some ⟨b3, o4 + (j * 25), none⟩)), (10, .int .i64 ((cs.length : Nat) : Int)), (11, .int .i64 ((j : Nat) : Int)), (55, .bool (decide (xf15 - 1 > 0)))]) rfl
            refine xt_norm ?_
            by_cases hc8 : xf15 - 1 > 0
            · first
              | (exfalso; omega)
              | (replace hA := hA.rw 55 (v' := .bool true) rfl (vb_true hc8)
                 refine cd_cond_t hA rfl ?_
                 refine wp_skip ?_
                 refine xb_norm ?_
                 refine xb_norm ?_
                 refine xt_norm ?_
                 refine wp_region_lit ?_
                 refine st_run tbOk 1 hA (e' := (74, .int .i64 (IntKind.i64.wrap (((j : Nat) : Int) + 1))) :: _) rfl ?_; clear hA; intro a hA
                 replace hA := hA.rw 74 (v' := .int .i64 ((j + 1 : Nat) : Int)) rfl (wr64 (by omega) (by omega) (by omega))
                 refine st_run tbOk 1 hA (e' := (11, .int .i64 ((j + 1 : Nat) : Int)) :: _) rfl ?_; clear hA; intro a hA
                 refine wpList_nil ?_
                 replace hA := hA.sel [0, 3, 10, 11] (e' := [(0, .pointer (some ⟨b, 0, none⟩)), (3, .slice Au out.length cu), (10, .int .i64 ((cs.length : Nat) : Int)), (11, .int .i64 ((j + 1 : Nat) : Int))]) rfl
                 have hss : (tkl wt tr cs j).set j (xf0, xf1, xf2, xf3, xf4, xf5, xf6, xf7, xf8, xf9, xA10, xc10, xb10, xf13, xf14, xf15 - 1, xf16, xf17, xf18, xf19, xf20, xf21, xf22, xf23, xf24, xf25, xA26, xc26, xb26) = tkl wt tr cs (j + 1) := by (try simp only [List.set_set]); exact tkl_step hxj (y := (xf0, xf1, xf2, xf3, xf4, xf5, xf6, xf7, xf8, xf9, xA10, xc10, xb10, xf13, xf14, xf15 - 1, xf16, xf17, xf18, xf19, xf20, xf21, xf22, xf23, xf24, xf25, xA26, xc26, xb26)) (tick_a (by dsimp only [cst]; omega) (by dsimp only [clf]; omega))
                 have hU1 : out.map mst = agl tr cs (j + 1) := by rw [agl_n hxj (ag_n (by dsimp only [cst, clf, ctr]; omega))]; exact hum
                 rw [hss] at hO7
                 replace hS := hS.front 3 (C := U) (L' := C7 :: [(b, rowO [.int .u64 p, .int .i64 wt, .int .i64 tr, .slice (some ⟨b3, o4, none⟩) cs.length c] 61)] :: D' :: F) rfl rfl
                 replace hS := hS.front 3 (C := D') (L' := U :: C7 :: [(b, rowO [.int .u64 p, .int .i64 wt, .int .i64 tr, .slice (some ⟨b3, o4, none⟩) cs.length c] 61)] :: F) rfl rfl
                 replace hS := hS.front 2 (C := C7) (L' := D' :: U :: [(b, rowO [.int .u64 p, .int .i64 wt, .int .i64 tr, .slice (some ⟨b3, o4, none⟩) cs.length c] 61)] :: F) rfl rfl
                 replace hS := hS.front 3 (C := [(b, rowO [.int .u64 p, .int .i64 wt, .int .i64 tr, .slice (some ⟨b3, o4, none⟩) cs.length c] 61)]) (L' := C7 :: D' :: U :: F) rfl rfl
                 exact lp_next _ (by omega) ⟨(j + 1), (out), C7, D', Au, cu, U, rfl, (hA.sel [0, 3, 10, 11] rfl), hS, by omega, hO7, hU, hU1, hud, hdx, hcd2⟩)
            · first
              | (exfalso; omega)
              | (replace hA := hA.rw 55 (v' := .bool false) rfl (vb_false hc8)
                 refine cd_cond_f hA rfl ?_
                 refine wp_seq ?_
                 refine wp_draw (fun w' => St w0 w' (C7 :: [(b, rowO [.int .u64 p, .int .i64 wt, .int .i64 tr, .slice (some ⟨b3, o4, none⟩) cs.length c] 61)] :: D' :: U :: F)) [] [(0, true), (1, true), (2, true), (3, true), (4, true), (5, true), (6, true), (7, true), (8, true), (9, true)] mixed (by kernel_rfl) (by rintro c a w ⟨_, _, h, _⟩; cases h) (by rfl) (by kernel_rfl) ?_
                 replace hS := hS.drew
                 refine dr_run tbOk 3 hA hS (e' := (64, .pointer (some ⟨b3, o4 + (j * 25) + 12, none⟩)) :: (63, .pointer (some ⟨b3, o4 + (j * 25), none⟩)) :: (62, .pointer (some ⟨b3, o4 + (j * 25), none⟩)) :: _) rfl ?_; clear hA; intro a hA
                 refine dr_y hA rfl rfl rfl (by decide) hS (fun w' hS' => rn_load tbOk hA rfl rfl rfl rfl ((hO7.rd (hS'.own_ 0 rfl)).elemf (k := j) encCall_ok (List.getElem?_set_self (by simp only [List.length_set, tkl_len]; omega)) (j := 12) rfl)) ?_; clear hA; intro a hA
                 refine dr_run tbOk 3 hA hS (e' := (68, .pointer (some ⟨b, 2, none⟩)) :: (67, .pointer (some ⟨b, 0, none⟩)) :: (66, .pointer (some ⟨b, 0, none⟩)) :: _) rfl ?_; clear hA; intro a hA
                 refine dr_y hA rfl rfl rfl (by decide) hS (fun w' hS' => rn_load tbOk hA rfl rfl rfl rfl (cell_row (hS'.heapAt 1 rfl) rfl)) ?_; clear hA; intro a hA
                 refine dr_run tbOk 2 hA hS (e' := (61, .bool (xf14 == tr)) :: (70, .bool (xf14 == tr)) :: _) rfl ?_; clear hA; intro a hA
                 refine dr_end ?_
                 replace hA := hA.sel [0, 3, 5, 10, 11, 61] (e' := [(0, .pointer (some ⟨b, 0, none⟩)), (3, .slice Au out.length cu), (5, .pointer (some ⟨b3, o4 + (j * 25), none⟩)), (10, .int .i64 ((cs.length : Nat) : Int)), (11, .int .i64 ((j : Nat) : Int)), (61, .bool (xf14 == tr))]) rfl
                 refine xt_norm ?_
                 by_cases hc9 : xf14 = tr
                 · first
                   | (exfalso; omega)
                   | (replace hA := hA.rw 61 (v' := .bool true) rfl (vb_eq_t hc9)
                      refine cd_cond_t hA rfl ?_
                      refine wp_region_lit ?_
                      refine st_run tbOk 3 hA (e' := (73, .pointer (some ⟨b3, o4 + (j * 25) + 11, none⟩)) :: (72, .pointer (some ⟨b3, o4 + (j * 25), none⟩)) :: (71, .pointer (some ⟨b3, o4 + (j * 25), none⟩)) :: _) rfl ?_; clear hA; intro a hA
                      refine st_store_own tbOk hA hO7 hS ((j * 25) + 11) (o4 + (j * 25) + 11) [.int .i64 3] (rows encCall (((tkl wt tr cs j).set j (xf0, xf1, xf2, xf3, xf4, xf5, xf6, xf7, xf8, xf9, xA10, xc10, xb10, xf13, xf14, xf15 - 1, xf16, xf17, xf18, xf19, xf20, xf21, xf22, xf23, xf24, xf25, xA26, xc26, xb26)).set j (xf0, xf1, xf2, xf3, xf4, xf5, xf6, xf7, xf8, xf9, xA10, xc10, xb10, 3, xf14, xf15 - 1, xf16, xf17, xf18, xf19, xf20, xf21, xf22, xf23, xf24, xf25, xA26, xc26, xb26))) rfl rfl rfl rfl (by rfl) rfl rfl (by intro u hu; first | (rw [List.mem_singleton.1 hu]; rfl) | (simp only [List.mem_cons, List.not_mem_nil, or_false] at hu; rcases hu with rfl <;> rfl)) (by simp only [rows_length encCall_ok, List.length_set, tkl_len]; simp; omega) (rows_setf encCall_ok (xf0, xf1, xf2, xf3, xf4, xf5, xf6, xf7, xf8, xf9, xA10, xc10, xb10, 3, xf14, xf15 - 1, xf16, xf17, xf18, xf19, xf20, xf21, xf22, xf23, xf24, xf25, xA26, xc26, xb26) ((List.getElem?_set_self (by first | exact hkl | (simp only [List.length_set]; exact hkl)))) 11 [.int .i64 3] (Nat.le_of_ble_eq_true rfl) rfl) rfl rfl ?_; clear hS; intro w10 C11 hO11 hS
                      refine wpList_nil ?_
                      replace hA := hA.sel [0, 3, 10, 11] (e' := [(0, .pointer (some ⟨b, 0, none⟩)), (3, .slice Au out.length cu), (10, .int .i64 ((cs.length : Nat) : Int)), (11, .int .i64 ((j : Nat) : Int))]) rfl
                      refine xb_norm ?_
                      refine xb_norm ?_
                      refine xt_norm ?_
                      refine wp_region_lit ?_
                      refine st_run tbOk 1 hA (e' := (74, .int .i64 (IntKind.i64.wrap (((j : Nat) : Int) + 1))) :: _) rfl ?_; clear hA; intro a hA
                      replace hA := hA.rw 74 (v' := .int .i64 ((j + 1 : Nat) : Int)) rfl (wr64 (by omega) (by omega) (by omega))
                      refine st_run tbOk 1 hA (e' := (11, .int .i64 ((j + 1 : Nat) : Int)) :: _) rfl ?_; clear hA; intro a hA
                      refine wpList_nil ?_
                      replace hA := hA.sel [0, 3, 10, 11] (e' := [(0, .pointer (some ⟨b, 0, none⟩)), (3, .slice Au out.length cu), (10, .int .i64 ((cs.length : Nat) : Int)), (11, .int .i64 ((j + 1 : Nat) : Int))]) rfl
                      have hss : ((tkl wt tr cs j).set j (xf0, xf1, xf2, xf3, xf4, xf5, xf6, xf7, xf8, xf9, xA10, xc10, xb10, xf13, xf14, xf15 - 1, xf16, xf17, xf18, xf19, xf20, xf21, xf22, xf23, xf24, xf25, xA26, xc26, xb26)).set j (xf0, xf1, xf2, xf3, xf4, xf5, xf6, xf7, xf8, xf9, xA10, xc10, xb10, 3, xf14, xf15 - 1, xf16, xf17, xf18, xf19, xf20, xf21, xf22, xf23, xf24, xf25, xA26, xc26, xb26) = tkl wt tr cs (j + 1) := by (try simp only [List.set_set]); exact tkl_step hxj (y := (xf0, xf1, xf2, xf3, xf4, xf5, xf6, xf7, xf8, xf9, xA10, xc10, xb10, 3, xf14, xf15 - 1, xf16, xf17, xf18, xf19, xf20, xf21, xf22, xf23, xf24, xf25, xA26, xc26, xb26)) (tick_b (by dsimp only [cst]; omega) (by dsimp only [clf]; omega) (by dsimp only [ctr]; omega))
                      have hU1 : out.map mst = agl tr cs (j + 1) := by rw [agl_n hxj (ag_n (by dsimp only [cst, clf, ctr]; omega))]; exact hum
                      rw [hss] at hO11
                      replace hS := hS.front 3 (C := U) (L' := C11 :: [(b, rowO [.int .u64 p, .int .i64 wt, .int .i64 tr, .slice (some ⟨b3, o4, none⟩) cs.length c] 61)] :: D' :: F) rfl rfl
                      replace hS := hS.front 3 (C := D') (L' := U :: C11 :: [(b, rowO [.int .u64 p, .int .i64 wt, .int .i64 tr, .slice (some ⟨b3, o4, none⟩) cs.length c] 61)] :: F) rfl rfl
                      replace hS := hS.front 2 (C := C11) (L' := D' :: U :: [(b, rowO [.int .u64 p, .int .i64 wt, .int .i64 tr, .slice (some ⟨b3, o4, none⟩) cs.length c] 61)] :: F) rfl rfl
                      replace hS := hS.front 3 (C := [(b, rowO [.int .u64 p, .int .i64 wt, .int .i64 tr, .slice (some ⟨b3, o4, none⟩) cs.length c] 61)]) (L' := C11 :: D' :: U :: F) rfl rfl
                      exact lp_next _ (by omega) ⟨(j + 1), (out), C11, D', Au, cu, U, rfl, (hA.sel [0, 3, 10, 11] rfl), hS, by omega, hO11, hU, hU1, hud, hdx, hcd2⟩)
                 · first
                   | (exfalso; omega)
                   | (replace hA := hA.rw 61 (v' := .bool false) rfl (vb_eq_f hc9)
                      refine cd_cond_f hA rfl ?_
                      refine wp_seq ?_
                      refine wp_draw (fun w' => St w0 w' ([(b, rowO [.int .u64 p, .int .i64 wt, .int .i64 tr, .slice (some ⟨b3, o4, none⟩) cs.length c] 61)] :: D' :: U :: F)) [] [(0, true), (1, true), (2, true), (3, true), (4, true), (7, true), (8, true), (9, true), (10, true), (5, false), (6, true), (11, true), (12, true), (13, false), (14, true), (15, true), (16, false)] mixed (by kernel_rfl) (by rintro c a w ⟨_, _, h, _⟩; cases h) (by rfl) (by kernel_rfl) ?_
                      replace hS := hS.drew
                      refine dr_run tbOk 8 hA (hS.tail 1 rfl) (e' := (41, .pointer (some ⟨b, 1, none⟩)) :: (40, .pointer (some ⟨b, 0, none⟩)) :: (39, .pointer (some ⟨b, 0, none⟩)) :: (36, .pointer (some ⟨b3, o4 + (j * 25) + 12, none⟩)) :: (35, .pointer (some ⟨b3, o4 + (j * 25), none⟩)) :: (34, .pointer (some ⟨b3, o4 + (j * 25), none⟩)) :: (33, .pointer (some ⟨b3, o4 + (j * 25), none⟩)) :: (32, .pointer (some ⟨b3, o4 + (j * 25), none⟩)) :: _) rfl ?_; clear hA; intro a hA
                      refine dr_y hA rfl rfl rfl (by decide) (hS.tail 1 rfl) (fun w' hS' => rn_load tbOk hA rfl rfl rfl rfl (cell_row (hS'.heapAt 0 rfl) rfl)) ?_; clear hA; intro a hA
                      refine dr_b (o := _) rfl ?_
                      refine st_val hA rfl rfl (by decide) (rn_load tbOk hA rfl rfl rfl rfl ((hO7.rd (hS.own_ 0 rfl)).elemf (k := j) encCall_ok (List.getElem?_set_self (by simp only [List.length_set, tkl_len]; omega)) (j := 12) rfl)) ?_; clear hA; intro a hA
                      refine dr_nil (.inr (hS.tail 1 rfl)) ?_
                      refine dr_run tbOk 1 hA (hS.tail 1 rfl) (e' := (38, .int .i64 (IntKind.i64.wrap (xf14 + 1))) :: _) rfl ?_; clear hA; intro a hA
                      replace hA := hA.rw 38 (v' := .int .i64 (xf14 + 1)) rfl (wr64 (by omega) (by omega) (by omega))
                      refine dr_run tbOk 2 hA (hS.tail 1 rfl) (e' := (44, .pointer (some ⟨b3, o4 + (j * 25) + 12, none⟩)) :: (43, .pointer (some ⟨b3, o4 + (j * 25), none⟩)) :: _) rfl ?_; clear hA; intro a hA
                      refine dr_b (o := _) rfl ?_
                      refine st_store_own tbOk hA hO7 hS ((j * 25) + 12) (o4 + (j * 25) + 12) [.int .i64 (xf14 + 1)] (rows encCall (((tkl wt tr cs j).set j (xf0, xf1, xf2, xf3, xf4, xf5, xf6, xf7, xf8, xf9, xA10, xc10, xb10, xf13, xf14, xf15 - 1, xf16, xf17, xf18, xf19, xf20, xf21, xf22, xf23, xf24, xf25, xA26, xc26, xb26)).set j (xf0, xf1, xf2, xf3, xf4, xf5, xf6, xf7, xf8, xf9, xA10, xc10, xb10, xf13, xf14 + 1, xf15 - 1, xf16, xf17, xf18, xf19, xf20, xf21, xf22, xf23, xf24, xf25, xA26, xc26, xb26))) rfl rfl rfl rfl (by rfl) rfl rfl (by intro u hu; first | (rw [List.mem_singleton.1 hu]; rfl) | (simp only [List.mem_cons, List.not_mem_nil, or_false] at hu; rcases hu with rfl <;> rfl)) (by simp only [rows_length encCall_ok, List.length_set, tkl_len]; simp; omega) (rows_setf encCall_ok (xf0, xf1, xf2, xf3, xf4, xf5, xf6, xf7, xf8, xf9, xA10, xc10, xb10, xf13, xf14 + 1, xf15 - 1, xf16, xf17, xf18, xf19, xf20, xf21, xf22, xf23, xf24, xf25, xA26, xc26, xb26) ((List.getElem?_set_self (by first | exact hkl | (simp only [List.length_set]; exact hkl)))) 12 [.int .i64 (xf14 + 1)] (Nat.le_of_ble_eq_true rfl) rfl) rfl rfl ?_; clear hS; intro w12 C13 hO13 hS
                      refine dr_nil (.inr (hS.tail 1 rfl)) ?_
                      refine dr_run tbOk 2 hA (hS.tail 1 rfl) (e' := (46, .pointer (some ⟨b3, o4 + (j * 25) + 13, none⟩)) :: (45, .pointer (some ⟨b3, o4 + (j * 25), none⟩)) :: _) rfl ?_; clear hA; intro a hA
                      refine dr_b (o := _) rfl ?_
                      refine st_store_own tbOk hA hO13 hS ((j * 25) + 13) (o4 + (j * 25) + 13) [.int .i64 wt] (rows encCall ((((tkl wt tr cs j).set j (xf0, xf1, xf2, xf3, xf4, xf5, xf6, xf7, xf8, xf9, xA10, xc10, xb10, xf13, xf14, xf15 - 1, xf16, xf17, xf18, xf19, xf20, xf21, xf22, xf23, xf24, xf25, xA26, xc26, xb26)).set j (xf0, xf1, xf2, xf3, xf4, xf5, xf6, xf7, xf8, xf9, xA10, xc10, xb10, xf13, xf14 + 1, xf15 - 1, xf16, xf17, xf18, xf19, xf20, xf21, xf22, xf23, xf24, xf25, xA26, xc26, xb26)).set j (xf0, xf1, xf2, xf3, xf4, xf5, xf6, xf7, xf8, xf9, xA10, xc10, xb10, xf13, xf14 + 1, wt, xf16, xf17, xf18, xf19, xf20, xf21, xf22, xf23, xf24, xf25, xA26, xc26, xb26))) rfl rfl rfl rfl (by rfl) rfl rfl (by intro u hu; first | (rw [List.mem_singleton.1 hu]; rfl) | (simp only [List.mem_cons, List.not_mem_nil, or_false] at hu; rcases hu with rfl <;> rfl)) (by simp only [rows_length encCall_ok, List.length_set, tkl_len]; simp; omega) (rows_setf encCall_ok (xf0, xf1, xf2, xf3, xf4, xf5, xf6, xf7, xf8, xf9, xA10, xc10, xb10, xf13, xf14 + 1, wt, xf16, xf17, xf18, xf19, xf20, xf21, xf22, xf23, xf24, xf25, xA26, xc26, xb26) ((List.getElem?_set_self (by first | exact hkl | (simp only [List.length_set]; exact hkl)))) 13 [.int .i64 wt] (Nat.le_of_ble_eq_true rfl) rfl) rfl rfl ?_; clear hS; intro w14 C15 hO15 hS
                      refine dr_nil (.inr (hS.tail 1 rfl)) ?_
                      refine dr_end ?_
                      replace hA := hA.sel [0, 3, 5, 10, 11] (e' := [(0, .pointer (some ⟨b, 0, none⟩)), (3, .slice Au out.length cu), (5, .pointer (some ⟨b3, o4 + (j * 25), none⟩)), (10, .int .i64 ((cs.length : Nat) : Int)), (11, .int .i64 ((j : Nat) : Int))]) rfl
                      refine xt_norm ?_
                      refine wp_region_lit ?_
                      refine st_run tbOk 4 hA (e' := (50, .pointer (some ⟨b3, o4 + (j * 25), none⟩)) :: (49, .pointer (some ⟨b3, o4 + (j * 25), none⟩)) :: (48, .pointer (some ⟨b3, o4 + (j * 25), none⟩)) :: (47, .slice Au out.length cu) :: _) rfl ?_; clear hA; intro a hA
                      refine st_val hA rfl rfl (by decide) (rn_loadA tbOk hA ([.int .u64 xf0, .int .u64 xf1, .int .u32 xf2, .int .u16 xf3, .int .u16 xf4, .int .u64 xf5, .int .u32 xf6, .int .u8 xf7, .int .u64 xf8, .int .u64 xf9, .slice xA10 xb10.length xc10]) rfl rfl rfl rfl (by rfl) (elemp encCall_ok (hO15.rd (hS.own_ 0 rfl)) (k := j) (List.getElem?_set_self (by simp only [List.length_set, tkl_len]; omega)) (j := 0) (n := 11) rfl)) ?_; clear hA; intro a hA
                      refine st_call0 hA rfl rfl rfl isfn17 rfl rfl (by decide) (ccop17 hS xf0 xf1 xf2 xf3 xf4 xf5 xf6 xf7 xf8 xf9 (bs := xb10) (fun w' h => (hdxj.1 _ (h.only 2 rfl))) (by omega)) ?_
                      clear hA hS; rintro _ w19 a ⟨A16, c17, C18, hOC18, rfl, hS⟩ hA
                      refine st_buildSlice tbOk hA hS [.int .u64 xf0, .int .u64 xf1, .int .u32 xf2, .int .u16 xf3, .int .u16 xf4, .int .u64 xf5, .int .u32 xf6, .int .u8 xf7, .int .u64 xf8, .int .u64 xf9, .slice A16 xb10.length c17] rfl rfl rfl rfl rfl (by decide) (by kernel_rfl) rfl rfl (by decide) ?_; clear hA hS; intro b20 w21 a hS hA
                      replace hS := hS.front 5 (C := U) (L' := [(b20, rowO [.int .u64 xf0, .int .u64 xf1, .int .u32 xf2, .int .u16 xf3, .int .u16 xf4, .int .u64 xf5, .int .u32 xf6, .int .u8 xf7, .int .u64 xf8, .int .u64 xf9, .slice A16 xb10.length c17] 32)] :: C18 :: C15 :: [(b, rowO [.int .u64 p, .int .i64 wt, .int .i64 tr, .slice (some ⟨b3, o4, none⟩) cs.length c] 61)] :: D' :: F) rfl rfl
                      refine st_append tbOk hA (m := out.length) (q := 1) (xs := rows encMessage out) (news := rows encMessage ([(xf0, xf1, xf2, xf3, xf4, xf5, xf6, xf7, xf8, xf9, A16, c17, xb10)] : List (Int × Int × Int × Int × Int × Int × Int × Int × Int × Int × Option Addr × Nat × List UInt8))) rfl rfl rfl rfl rfl rfl rfl rfl (by decide) hU hS (((Own.full (T := 32) (size := 11) (g := b20) (m := 1) rfl (by decide)).rd (hS.own_ 1 rfl)).x) (rows_one encMessage_ok _) (maxLen_le (by first | omega | (simp; omega))) (by show (out.length + 1) * 80 ≤ 140737488355328; first | omega | (simp; omega)) rfl rfl (by decide) ?_
                      clear hA hS; intro v22 w23 C24 a hO24 hS hA
                      replace hO24 := Own.app (l := out) (l2 := ([(xf0, xf1, xf2, xf3, xf4, xf5, xf6, xf7, xf8, xf9, A16, c17, xb10)] : List (Int × Int × Int × Int × Int × Int × Int × Int × Int × Int × Option Addr × Nat × List UInt8))) hO24
                      obtain ⟨A25, c26, rfl, hmc26, hxc26⟩ := hO24.open'
                      refine st_run tbOk 1 hA (e' := (3, .slice A25 ((out ++ ([(xf0, xf1, xf2, xf3, xf4, xf5, xf6, xf7, xf8, xf9, A16, c17, xb10)] : List (Int × Int × Int × Int × Int × Int × Int × Int × Int × Int × Option Addr × Nat × List UInt8))).length) c26) :: _) rfl ?_; clear hA; intro a hA
                      refine wpList_nil ?_
                      replace hA := hA.sel [0, 3, 10, 11] (e' := [(0, .pointer (some ⟨b, 0, none⟩)), (3, .slice A25 ((out ++ ([(xf0, xf1, xf2, xf3, xf4, xf5, xf6, xf7, xf8, xf9, A16, c17, xb10)] : List (Int × Int × Int × Int × Int × Int × Int × Int × Int × Int × Option Addr × Nat × List UInt8))).length) c26), (10, .int .i64 ((cs.length : Nat) : Int)), (11, .int .i64 ((j : Nat) : Int))]) rfl
                      refine xb_norm ?_
                      refine xb_norm ?_
                      refine xt_norm ?_
                      refine wp_region_lit ?_
                      refine st_run tbOk 1 hA (e' := (74, .int .i64 (IntKind.i64.wrap (((j : Nat) : Int) + 1))) :: _) rfl ?_; clear hA; intro a hA
                      replace hA := hA.rw 74 (v' := .int .i64 ((j + 1 : Nat) : Int)) rfl (wr64 (by omega) (by omega) (by omega))
                      refine st_run tbOk 1 hA (e' := (11, .int .i64 ((j + 1 : Nat) : Int)) :: _) rfl ?_; clear hA; intro a hA
                      refine wpList_nil ?_
                      replace hA := hA.sel [0, 3, 10, 11] (e' := [(0, .pointer (some ⟨b, 0, none⟩)), (3, .slice A25 ((out ++ ([(xf0, xf1, xf2, xf3, xf4, xf5, xf6, xf7, xf8, xf9, A16, c17, xb10)] : List (Int × Int × Int × Int × Int × Int × Int × Int × Int × Int × Option Addr × Nat × List UInt8))).length) c26), (10, .int .i64 ((cs.length : Nat) : Int)), (11, .int .i64 ((j + 1 : Nat) : Int))]) rfl
                      have hss : (((tkl wt tr cs j).set j (xf0, xf1, xf2, xf3, xf4, xf5, xf6, xf7, xf8, xf9, xA10, xc10, xb10, xf13, xf14, xf15 - 1, xf16, xf17, xf18, xf19, xf20, xf21, xf22, xf23, xf24, xf25, xA26, xc26, xb26)).set j (xf0, xf1, xf2, xf3, xf4, xf5, xf6, xf7, xf8, xf9, xA10, xc10, xb10, xf13, xf14 + 1, xf15 - 1, xf16, xf17, xf18, xf19, xf20, xf21, xf22, xf23, xf24, xf25, xA26, xc26, xb26)).set j (xf0, xf1, xf2, xf3, xf4, xf5, xf6, xf7, xf8, xf9, xA10, xc10, xb10, xf13, xf14 + 1, wt, xf16, xf17, xf18, xf19, xf20, xf21, xf22, xf23, xf24, xf25, xA26, xc26, xb26) = tkl wt tr cs (j + 1) := by (try simp only [List.set_set]); exact tkl_step hxj (y := (xf0, xf1, xf2, xf3, xf4, xf5, xf6, xf7, xf8, xf9, xA10, xc10, xb10, xf13, xf14 + 1, wt, xf16, xf17, xf18, xf19, xf20, xf21, xf22, xf23, xf24, xf25, xA26, xc26, xb26)) (tick_c (by dsimp only [cst]; omega) (by dsimp only [clf]; omega) (by dsimp only [ctr]; omega))
                      have hU1 : (out ++ ([(xf0, xf1, xf2, xf3, xf4, xf5, xf6, xf7, xf8, xf9, A16, c17, xb10)] : List (Int × Int × Int × Int × Int × Int × Int × Int × Int × Int × Option Addr × Nat × List UInt8))).map mst = agl tr cs (j + 1) := by rw [List.map_append, hum, agl_y hxj (ag_y (by dsimp only [cst]; omega) (by dsimp only [clf]; omega) (by dsimp only [ctr]; omega))]; rfl
                      rw [hss] at hO15
                      replace hS := hS.front 1 (C := [(b20, rowO [.int .u64 xf0, .int .u64 xf1, .int .u32 xf2, .int .u16 xf3, .int .u16 xf4, .int .u64 xf5, .int .u32 xf6, .int .u8 xf7, .int .u64 xf8, .int .u64 xf9, .slice A16 xb10.length c17] 32)]) (L' := C24 :: C18 :: C15 :: [(b, rowO [.int .u64 p, .int .i64 wt, .int .i64 tr, .slice (some ⟨b3, o4, none⟩) cs.length c] 61)] :: D' :: F) rfl rfl
                      replace hS := hS.drop1
                      replace hS := hS.front 2 (C := C15) (L' := C24 :: C18 :: [(b, rowO [.int .u64 p, .int .i64 wt, .int .i64 tr, .slice (some ⟨b3, o4, none⟩) cs.length c] 61)] :: D' :: F) rfl rfl
                      replace hS := hS.front 3 (C := [(b, rowO [.int .u64 p, .int .i64 wt, .int .i64 tr, .slice (some ⟨b3, o4, none⟩) cs.length c] 61)]) (L' := C15 :: C24 :: C18 :: D' :: F) rfl rfl
                      replace hS := hS.front 4 (C := D') (L' := [(b, rowO [.int .u64 p, .int .i64 wt, .int .i64 tr, .slice (some ⟨b3, o4, none⟩) cs.length c] 61)] :: C15 :: C24 :: C18 :: F) rfl rfl
                      replace hS := hS.front 4 (C := C18) (L' := D' :: [(b, rowO [.int .u64 p, .int .i64 wt, .int .i64 tr, .slice (some ⟨b3, o4, none⟩) cs.length c] 61)] :: C15 :: C24 :: F) rfl rfl
                      replace hS := hS.join
                      have hud2 : ∀ y ∈ (out ++ ([(xf0, xf1, xf2, xf3, xf4, xf5, xf6, xf7, xf8, xf9, A16, c17, xb10)] : List (Int × Int × Int × Int × Int × Int × Int × Int × Int × Int × Option Addr × Nat × List UInt8))), encMessage_dd w0 (C18 ++ D') y := msg_snoc hud (DD.new hOC18).right
                      replace hS := hS.front 3 (C := C24) (L' := (C18 ++ D') :: [(b, rowO [.int .u64 p, .int .i64 wt, .int .i64 tr, .slice (some ⟨b3, o4, none⟩) cs.length c] 61)] :: C15 :: F) rfl rfl
                      replace hS := hS.front 1 (C := (C18 ++ D')) (L' := C24 :: [(b, rowO [.int .u64 p, .int .i64 wt, .int .i64 tr, .slice (some ⟨b3, o4, none⟩) cs.length c] 61)] :: C15 :: F) rfl rfl
                      replace hS := hS.front 3 (C := C15) (L' := (C18 ++ D') :: C24 :: [(b, rowO [.int .u64 p, .int .i64 wt, .int .i64 tr, .slice (some ⟨b3, o4, none⟩) cs.length c] 61)] :: F) rfl rfl
                      replace hS := hS.front 3 (C := [(b, rowO [.int .u64 p, .int .i64 wt, .int .i64 tr, .slice (some ⟨b3, o4, none⟩) cs.length c] 61)]) (L' := C15 :: (C18 ++ D') :: C24 :: F) rfl rfl
                      exact lp_next _ (by omega) ⟨(j + 1), (out ++ ([(xf0, xf1, xf2, xf3, xf4, xf5, xf6, xf7, xf8, xf9, A16, c17, xb10)] : List (Int × Int × Int × Int × Int × Int × Int × Int × Int × Int × Option Addr × Nat × List UInt8))), C15, (C18 ++ D'), A25, c26, C24, rfl, (hA.sel [0, 3, 10, 11] rfl), hS, by omega, hO15, hO24, hU1, hud2, hdx.step, (encCall_lefts hcd2)⟩)))
       · first
         | (exfalso; omega)
         | (replace hA := hA.rw 24 (v' := .bool true) rfl (vb_ne_t hc5)
            refine cd_cond_t hA rfl ?_
            refine wp_exit ?_
            refine xt_exit ?_
            refine cd_exit_eq ?_
            refine xt_norm ?_
            refine wp_region_lit ?_
            refine st_run tbOk 1 hA (e' := (74, .int .i64 (IntKind.i64.wrap (((j : Nat) : Int) + 1))) :: _) rfl ?_; clear hA; intro a hA
            replace hA := hA.rw 74 (v' := .int .i64 ((j + 1 : Nat) : Int)) rfl (wr64 (by omega) (by omega) (by omega))
            refine st_run tbOk 1 hA (e' := (11, .int .i64 ((j + 1 : Nat) : Int)) :: _) rfl ?_; clear hA; intro a hA
            refine wpList_nil ?_
            replace hA := hA.sel [0, 3, 10, 11] (e' := [(0, .pointer (some ⟨b, 0, none⟩)), (3, .slice Au out.length cu), (10, .int .i64 ((cs.length : Nat) : Int)), (11, .int .i64 ((j + 1 : Nat) : Int))]) rfl
            have hst9 : ¬ cst (xf0, xf1, xf2, xf3, xf4, xf5, xf6, xf7, xf8, xf9, xA10, xc10, xb10, xf13, xf14, xf15, xf16, xf17, xf18, xf19, xf20, xf21, xf22, xf23, xf24, xf25, xA26, xc26, xb26) = 1 := by dsimp only [cst]; omega
            have hss : tkl wt tr cs j = tkl wt tr cs (j + 1) := tkl_same hxj (tick_n hst9)
            have hU1 : out.map mst = agl tr cs (j + 1) := by rw [agl_n hxj (ag_n (fun h => hst9 h.1))]; exact hum
            rw [hss] at hO
            replace hS := hS.front 3 (C := U) (L' := [(b, rowO [.int .u64 p, .int .i64 wt, .int .i64 tr, .slice (some ⟨b3, o4, none⟩) cs.length c] 61)] :: C :: D' :: F) rfl rfl
            replace hS := hS.front 3 (C := D') (L' := U :: [(b, rowO [.int .u64 p, .int .i64 wt, .int .i64 tr, .slice (some ⟨b3, o4, none⟩) cs.length c] 61)] :: C :: F) rfl rfl
            replace hS := hS.front 3 (C := C) (L' := D' :: U :: [(b, rowO [.int .u64 p, .int .i64 wt, .int .i64 tr, .slice (some ⟨b3, o4, none⟩) cs.length c] 61)] :: F) rfl rfl
            replace hS := hS.front 3 (C := [(b, rowO [.int .u64 p, .int .i64 wt, .int .i64 tr, .slice (some ⟨b3, o4, none⟩) cs.length c] 61)]) (L' := C :: D' :: U :: F) rfl rfl
            exact lp_next _ (by omega) ⟨(j + 1), (out), C, D', Au, cu, U, rfl, (hA.sel [0, 3, 10, 11] rfl), hS, by omega, hO, hU, hU1, hud, hdx, hcd2⟩))
  · first
    | (exfalso; omega)
    | (replace hA := hA.rw 12 (v' := .bool false) rfl (vb_false hc2)
       refine cd_cond_f hA rfl ?_
       refine wp_exit ?_
       refine xt_exit ?_
       refine xt_exit ?_
       refine cd_exit_eq ?_
       refine xt_norm ?_
       refine wp_seq ?_
       refine wp_region_lit ?_
       refine st_run tbOk 2 hA (e' := (2, .slice Au out.length cu) :: (75, .slice Au out.length cu) :: _) rfl ?_; clear hA; intro a hA
       refine wpList_nil ?_
       replace hA := hA.sel [2] (e' := [(2, .slice Au out.length cu)]) rfl
       refine xt_norm ?_
       refine wp_ret ?_
       refine ret1 (fn := Tryd.f10) hA rfl rfl ?_
       have hjl : j = cs.length := by omega
       subst hjl
       rw [tkl_all] at hO; rw [agl_all] at hum
       replace hS := hS.front 3 (C := U) (L' := [(b, rowO [.int .u64 p, .int .i64 wt, .int .i64 tr, .slice A cs.length c] 61)] :: C :: D' :: F) rfl rfl
       replace hS := hS.front 3 (C := D') (L' := U :: [(b, rowO [.int .u64 p, .int .i64 wt, .int .i64 tr, .slice A cs.length c] 61)] :: C :: F) rfl rfl
       replace hS := hS.front 3 (C := C) (L' := D' :: U :: [(b, rowO [.int .u64 p, .int .i64 wt, .int .i64 tr, .slice A cs.length c] 61)] :: F) rfl rfl
       replace hS := hS.front 3 (C := [(b, rowO [.int .u64 p, .int .i64 wt, .int .i64 tr, .slice A cs.length c] 61)]) (L' := C :: D' :: U :: F) rfl rfl
       replace hS := hS.join
       replace hS := hS.front 2 (C := U) (L' := ((b, rowO [.int .u64 p, .int .i64 wt, .int .i64 tr, .slice A cs.length c] 61) :: C) :: D' :: F) rfl rfl
       exact ⟨_, _, out, _, _, _, ⟨_, _, (by rw [List.length_map]; exact hO), rfl⟩, hU, hum, hud, hdx, rfl, hS⟩)

theorem clen15 {w0 w : World} {F : List Chunk} {L D : Chunk} {b : Nat} {p wt tr : Int} {cs : List Call} (hS : St w0 w (L :: D :: F)) (hM : CR b p wt tr cs L)  :
    Ret Tryd.prog 15 #[.pointer (some ⟨b, 0, none⟩)] w (fun v w' => ∃ L', CR b p wt tr cs L' ∧ v = .int .i64 ((cs.length : Nat) : Int) ∧ St w0 w' (L' :: D :: F)) := by
  obtain ⟨v, C, hO, rfl⟩ := hM
  obtain ⟨A, c, rfl, hmc, hcx⟩ := hO.open'
  replace hS : St w0 w ([(b, rowO [.int .u64 p, .int .i64 wt, .int .i64 tr, .slice A cs.length c] 61)] :: C :: D :: F) := hS.split
  refine enter (vs := [.pointer (some ⟨b, 0, none⟩)]) 8 Tryd.func15 rfl rfl (by simp) ?_; intro a hA
  refine wp_seq ?_
  refine wp_region_lit ?_
  refine st_run tbOk 1 hA (e' := (2, .int .i64 0) :: _) rfl ?_; clear hA; intro a hA
  refine wpList_nil ?_
  replace hA := hA.sel [0] (e' := [(0, .pointer (some ⟨b, 0, none⟩))]) rfl
  refine xt_norm ?_
  refine wp_seq ?_
  refine wp_region_lit ?_
  refine st_run tbOk 3 hA (e' := (5, .pointer (some ⟨b, 3, none⟩)) :: (4, .pointer (some ⟨b, 0, none⟩)) :: (3, .pointer (some ⟨b, 0, none⟩)) :: _) rfl ?_; clear hA; intro a hA
  refine st_val hA rfl rfl (by decide) (rn_load tbOk hA rfl rfl rfl rfl (cell_row (hS.heapAt 0 rfl) rfl)) ?_; clear hA; intro a hA
  refine st_run tbOk 2 hA (e' := (2, .int .i64 ((cs.length : Nat) : Int)) :: (7, .int .i64 ((cs.length : Nat) : Int)) :: _) rfl ?_; clear hA; intro a hA
  refine wpList_nil ?_
  replace hA := hA.sel [2] (e' := [(2, .int .i64 ((cs.length : Nat) : Int))]) rfl
  refine xt_norm ?_
  refine wp_ret ?_
  refine ret1 (fn := Tryd.f15) hA rfl rfl ?_
  replace hS := hS.front 1 (C := C) (L' := [(b, rowO [.int .u64 p, .int .i64 wt, .int .i64 tr, .slice A cs.length c] 61)] :: D :: F) rfl rfl
  replace hS := hS.front 1 (C := [(b, rowO [.int .u64 p, .int .i64 wt, .int .i64 tr, .slice A cs.length c] 61)]) (L' := C :: D :: F) rfl rfl
  replace hS := hS.front 2 (C := D) (L' := [(b, rowO [.int .u64 p, .int .i64 wt, .int .i64 tr, .slice A cs.length c] 61)] :: C :: F) rfl rfl
  replace hS := hS.front 2 (C := C) (L' := D :: [(b, rowO [.int .u64 p, .int .i64 wt, .int .i64 tr, .slice A cs.length c] 61)] :: F) rfl rfl
  replace hS := hS.front 2 (C := [(b, rowO [.int .u64 p, .int .i64 wt, .int .i64 tr, .slice A cs.length c] 61)]) (L' := C :: D :: F) rfl rfl
  replace hS := hS.join
  exact ⟨_, ⟨_, _, hO, rfl⟩, rfl, hS⟩

theorem same04_13 {w0 w : World} {F : List Chunk} (hS : St w0 w F) (x0 x1 x2 x3 x4 x5 x6 x7 x8 x9 y0 y1 y2 y3 y4 y5 y6 y7 y8 y9 : Int) {d1 d2 : Value} {bs cs : List UInt8} (h1 : RdSX w0 F 1 d1 bs.length (rows encB bs)) (h2 : RdSX w0 F 1 d2 cs.length (rows encB cs)) :
    Ret Tryd.prog 13 #[.agg #[.int .u64 x0, .int .u64 x1, .int .u32 x2, .int .u16 x3, .int .u16 x4, .int .u64 x5, .int .u32 x6, .int .u8 x7, .int .u64 x8, .int .u64 x9, d1], .agg #[.int .u64 y0, .int .u64 y1, .int .u32 y2, .int .u16 y3, .int .u16 y4, .int .u64 y5, .int .u32 y6, .int .u8 y7, .int .u64 y8, .int .u64 y9, d2]] w (fun v w' => v = .bool (decide (x0 = y0 ∧ x1 = y1 ∧ x2 = y2 ∧ x3 = y3 ∧ x4 = y4 ∧ (x5 = y5 ∧ x6 = y6 ∧ x7 = y7 ∧ x8 = y8) ∧ x9 = y9 ∧ bs = cs)) ∧ St w0 w' F) := by
  obtain ⟨A, c, rfl, hmc, hcx⟩ := (h1 w hS).open'
  obtain ⟨B, d, rfl, hmd, hdx⟩ := (h2 w hS).open'
  refine enter (vs := [.agg #[.int .u64 x0, .int .u64 x1, .int .u32 x2, .int .u16 x3, .int .u16 x4, .int .u64 x5, .int .u32 x6, .int .u8 x7, .int .u64 x8, .int .u64 x9, .slice A bs.length c], .agg #[.int .u64 y0, .int .u64 y1, .int .u32 y2, .int .u16 y3, .int .u16 y4, .int .u64 y5, .int .u32 y6, .int .u8 y7, .int .u64 y8, .int .u64 y9, .slice B cs.length d]]) 61 Tryd.func13 rfl rfl (by simp) ?_; intro a hA
  refine wp_seq ?_
  refine wp_region_lit ?_
  refine st_box hA hS [.int .u64 x0, .int .u64 x1, .int .u32 x2, .int .u16 x3, .int .u16 x4, .int .u64 x5, .int .u32 x6, .int .u8 x7, .int .u64 x8, .int .u64 x9, .slice A bs.length c] rfl rfl rfl rfl rfl (by decide) ?_; clear hA hS; intro b1 w2 a hS hA
  refine st_box hA hS [.int .u64 y0, .int .u64 y1, .int .u32 y2, .int .u16 y3, .int .u16 y4, .int .u64 y5, .int .u32 y6, .int .u8 y7, .int .u64 y8, .int .u64 y9, .slice B cs.length d] rfl rfl rfl rfl rfl (by decide) ?_; clear hA hS; intro b3 w4 a hS hA
  refine st_run tbOk 1 hA (e' := (4, .bool false) :: _) rfl ?_; clear hA; intro a hA
  refine wpList_nil ?_
  replace hA := hA.sel [2, 3] (e' := [(2, .pointer (some ⟨b1, 0, none⟩)), (3, .pointer (some ⟨b3, 0, none⟩))]) rfl
  refine xt_norm ?_
  refine wp_seq ?_
  refine wp_region_lit ?_
  refine st_run tbOk 1 hA (e' := (5, .pointer (some ⟨b1, 0, none⟩)) :: _) rfl ?_; clear hA; intro a hA
  refine st_val hA rfl rfl (by decide) (rn_load tbOk hA rfl rfl rfl rfl (cell_row (hS.heapAt 1 rfl) rfl)) ?_; clear hA; intro a hA
  refine st_run tbOk 1 hA (e' := (7, .pointer (some ⟨b3, 0, none⟩)) :: _) rfl ?_; clear hA; intro a hA
  refine st_val hA rfl rfl (by decide) (rn_load tbOk hA rfl rfl rfl rfl (cell_row (hS.heapAt 0 rfl) rfl)) ?_; clear hA; intro a hA
  refine st_run tbOk 2 hA (e' := (10, .bool (x0 == y0)) :: (9, .bool (x0 == y0)) :: _) rfl ?_; clear hA; intro a hA
  by_cases hc5 : x0 = y0
  · replace hA := hA.rw 9 (v' := .bool true) rfl (vb_eq_t hc5)
    replace hA := hA.rw 10 (v' := .bool true) rfl (vb_eq_t hc5)
    refine st_run tbOk 1 hA (e' := (11, .pointer (some ⟨b1, 1, none⟩)) :: _) rfl ?_; clear hA; intro a hA
    refine st_val hA rfl rfl (by decide) (rn_load tbOk hA rfl rfl rfl rfl (cell_row (hS.heapAt 1 rfl) rfl)) ?_; clear hA; intro a hA
    refine st_run tbOk 1 hA (e' := (13, .pointer (some ⟨b3, 1, none⟩)) :: _) rfl ?_; clear hA; intro a hA
    refine st_val hA rfl rfl (by decide) (rn_load tbOk hA rfl rfl rfl rfl (cell_row (hS.heapAt 0 rfl) rfl)) ?_; clear hA; intro a hA
    refine st_run tbOk 3 hA (e' := (17, .bool (x1 == y1)) :: (16, .bool (x1 == y1)) :: (15, .bool (x1 == y1)) :: _) rfl ?_; clear hA; intro a hA
    by_cases hc6 : x1 = y1
    · replace hA := hA.rw 15 (v' := .bool true) rfl (vb_eq_t hc6)
      replace hA := hA.rw 16 (v' := .bool true) rfl (vb_eq_t hc6)
      replace hA := hA.rw 17 (v' := .bool true) rfl (vb_eq_t hc6)
      refine st_run tbOk 1 hA (e' := (18, .pointer (some ⟨b1, 2, none⟩)) :: _) rfl ?_; clear hA; intro a hA
      refine st_val hA rfl rfl (by decide) (rn_load tbOk hA rfl rfl rfl rfl (cell_row (hS.heapAt 1 rfl) rfl)) ?_; clear hA; intro a hA
      refine st_run tbOk 1 hA (e' := (20, .pointer (some ⟨b3, 2, none⟩)) :: _) rfl ?_; clear hA; intro a hA
      refine st_val hA rfl rfl (by decide) (rn_load tbOk hA rfl rfl rfl rfl (cell_row (hS.heapAt 0 rfl) rfl)) ?_; clear hA; intro a hA
      refine st_run tbOk 3 hA (e' := (24, .bool (x2 == y2)) :: (23, .bool (x2 == y2)) :: (22, .bool (x2 == y2)) :: _) rfl ?_; clear hA; intro a hA
      by_cases hc7 : x2 = y2
      · replace hA := hA.rw 22 (v' := .bool true) rfl (vb_eq_t hc7)
        replace hA := hA.rw 23 (v' := .bool true) rfl (vb_eq_t hc7)
        replace hA := hA.rw 24 (v' := .bool true) rfl (vb_eq_t hc7)
        refine st_run tbOk 1 hA (e' := (25, .pointer (some ⟨b1, 3, none⟩)) :: _) rfl ?_; clear hA; intro a hA
        refine st_val hA rfl rfl (by decide) (rn_load tbOk hA rfl rfl rfl rfl (cell_row (hS.heapAt 1 rfl) rfl)) ?_; clear hA; intro a hA
        refine st_run tbOk 1 hA (e' := (27, .pointer (some ⟨b3, 3, none⟩)) :: _) rfl ?_; clear hA; intro a hA
        refine st_val hA rfl rfl (by decide) (rn_load tbOk hA rfl rfl rfl rfl (cell_row (hS.heapAt 0 rfl) rfl)) ?_; clear hA; intro a hA
        refine st_run tbOk 3 hA (e' := (31, .bool (x3 == y3)) :: (30, .bool (x3 == y3)) :: (29, .bool (x3 == y3)) :: _) rfl ?_; clear hA; intro a hA
        by_cases hc8 : x3 = y3
        · replace hA := hA.rw 29 (v' := .bool true) rfl (vb_eq_t hc8)
          replace hA := hA.rw 30 (v' := .bool true) rfl (vb_eq_t hc8)
          replace hA := hA.rw 31 (v' := .bool true) rfl (vb_eq_t hc8)
          refine st_run tbOk 1 hA (e' := (32, .pointer (some ⟨b1, 4, none⟩)) :: _) rfl ?_; clear hA; intro a hA
          refine st_val hA rfl rfl (by decide) (rn_load tbOk hA rfl rfl rfl rfl (cell_row (hS.heapAt 1 rfl) rfl)) ?_; clear hA; intro a hA
          refine st_run tbOk 1 hA (e' := (34, .pointer (some ⟨b3, 4, none⟩)) :: _) rfl ?_; clear hA; intro a hA
          refine st_val hA rfl rfl (by decide) (rn_load tbOk hA rfl rfl rfl rfl (cell_row (hS.heapAt 0 rfl) rfl)) ?_; clear hA; intro a hA
          refine st_run tbOk 3 hA (e' := (38, .bool (x4 == y4)) :: (37, .bool (x4 == y4)) :: (36, .bool (x4 == y4)) :: _) rfl ?_; clear hA; intro a hA
          by_cases hc9 : x4 = y4
          · replace hA := hA.rw 36 (v' := .bool true) rfl (vb_eq_t hc9)
            replace hA := hA.rw 37 (v' := .bool true) rfl (vb_eq_t hc9)
            replace hA := hA.rw 38 (v' := .bool true) rfl (vb_eq_t hc9)
            refine st_run tbOk 1 hA (e' := (39, .pointer (some ⟨b1, 5, none⟩)) :: _) rfl ?_; clear hA; intro a hA
            refine st_val hA rfl rfl (by decide) (rn_loadA tbOk hA [.int .u64 x5, .int .u32 x6, .int .u8 x7, .int .u64 x8] rfl rfl rfl rfl rfl (cells_row (hS.heapAt 1 rfl) rfl)) ?_; clear hA; intro a hA
            refine st_run tbOk 1 hA (e' := (41, .pointer (some ⟨b3, 5, none⟩)) :: _) rfl ?_; clear hA; intro a hA
            refine st_val hA rfl rfl (by decide) (rn_loadA tbOk hA [.int .u64 y5, .int .u32 y6, .int .u8 y7, .int .u64 y8] rfl rfl rfl rfl rfl (cells_row (hS.heapAt 0 rfl) rfl)) ?_; clear hA; intro a hA
            refine st_val hA rfl rfl (by decide) (rn_eqA tbOk hA rfl rfl rfl rfl rfl (by kernel_rfl) (by kernel_rfl) rfl) ?_; clear hA; intro a hA
            replace hA := hA.rw 43 (v' := .bool (decide (x5 = y5 ∧ x6 = y6 ∧ x7 = y7 ∧ x8 = y8))) rfl (congrArg Value.bool (by rw [Bool.eq_iff_iff]; simp))
            refine st_run tbOk 2 hA (e' := (45, .bool (decide (x5 = y5 ∧ x6 = y6 ∧ x7 = y7 ∧ x8 = y8))) :: (44, .bool (decide (x5 = y5 ∧ x6 = y6 ∧ x7 = y7 ∧ x8 = y8))) :: _) rfl ?_; clear hA; intro a hA
            by_cases hc10 : x5 = y5 ∧ x6 = y6 ∧ x7 = y7 ∧ x8 = y8
            · replace hA := hA.rw 43 (v' := .bool true) rfl (vb_true hc10)
              replace hA := hA.rw 44 (v' := .bool true) rfl (vb_true hc10)
              replace hA := hA.rw 45 (v' := .bool true) rfl (vb_true hc10)
              refine st_run tbOk 1 hA (e' := (46, .pointer (some ⟨b1, 9, none⟩)) :: _) rfl ?_; clear hA; intro a hA
              refine st_val hA rfl rfl (by decide) (rn_load tbOk hA rfl rfl rfl rfl (cell_row (hS.heapAt 1 rfl) rfl)) ?_; clear hA; intro a hA
              refine st_run tbOk 1 hA (e' := (48, .pointer (some ⟨b3, 9, none⟩)) :: _) rfl ?_; clear hA; intro a hA
              refine st_val hA rfl rfl (by decide) (rn_load tbOk hA rfl rfl rfl rfl (cell_row (hS.heapAt 0 rfl) rfl)) ?_; clear hA; intro a hA
              refine st_run tbOk 3 hA (e' := (52, .bool (x9 == y9)) :: (51, .bool (x9 == y9)) :: (50, .bool (x9 == y9)) :: _) rfl ?_; clear hA; intro a hA
              by_cases hc11 : x9 = y9
              · replace hA := hA.rw 50 (v' := .bool true) rfl (vb_eq_t hc11)
                replace hA := hA.rw 51 (v' := .bool true) rfl (vb_eq_t hc11)
                replace hA := hA.rw 52 (v' := .bool true) rfl (vb_eq_t hc11)
                refine st_run tbOk 1 hA (e' := (53, .pointer (some ⟨b1, 10, none⟩)) :: _) rfl ?_; clear hA; intro a hA
                refine st_val hA rfl rfl (by decide) (rn_load tbOk hA rfl rfl rfl rfl (cell_row (hS.heapAt 1 rfl) rfl)) ?_; clear hA; intro a hA
                refine st_val hA rfl rfl (by decide) (rn_bstr tbOk hA (bs := bs) rfl rfl rfl rfl rfl rfl rfl rfl (h1 _ (hS.tail 2 rfl))) ?_; clear hA; intro a hA
                refine st_run tbOk 1 hA (e' := (56, .pointer (some ⟨b3, 10, none⟩)) :: _) rfl ?_; clear hA; intro a hA
                refine st_val hA rfl rfl (by decide) (rn_load tbOk hA rfl rfl rfl rfl (cell_row (hS.heapAt 0 rfl) rfl)) ?_; clear hA; intro a hA
                refine st_val hA rfl rfl (by decide) (rn_bstr tbOk hA (bs := cs) rfl rfl rfl rfl rfl rfl rfl rfl (h2 _ (hS.tail 2 rfl))) ?_; clear hA; intro a hA
                refine st_run tbOk 1 hA (e' := (59, .bool ((bsv bs).toList == (bsv cs).toList)) :: _) rfl ?_; clear hA; intro a hA
                replace hA := hA.rw 59 (v' := .bool (decide (bs = cs))) rfl (congrArg Value.bool (bsv_eq _ _))
                refine st_run tbOk 2 hA (e' := (4, .bool (decide (bs = cs))) :: (60, .bool (decide (bs = cs))) :: _) rfl ?_; clear hA; intro a hA
                refine wpList_nil ?_
                replace hA := hA.sel [4] (e' := [(4, .bool (decide (bs = cs)))]) rfl
                refine xt_norm ?_
                refine wp_ret ?_
                refine ret1 (fn := Tryd.f13) hA rfl rfl ?_
                replace hS := hS.drop1
                replace hS := hS.drop1
                exact ⟨congrArg Value.bool (decide_eq_decide.2 ⟨fun h => ⟨by assumption, by assumption, by assumption, by assumption, by assumption, by assumption, by assumption, h⟩, fun h => h.2.2.2.2.2.2.2⟩), hS⟩
              · replace hA := hA.rw 50 (v' := .bool false) rfl (vb_eq_f hc11)
                replace hA := hA.rw 51 (v' := .bool false) rfl (vb_eq_f hc11)
                replace hA := hA.rw 52 (v' := .bool false) rfl (vb_eq_f hc11)
                refine st_run tbOk 7 hA (e' := (59, undef) :: (58, undef) :: (57, undef) :: (56, undef) :: (55, undef) :: (54, undef) :: (53, undef) :: _) rfl ?_; clear hA; intro a hA
                refine st_run tbOk 2 hA (e' := (4, .bool false) :: (60, .bool false) :: _) rfl ?_; clear hA; intro a hA
                refine wpList_nil ?_
                replace hA := hA.sel [4] (e' := [(4, .bool false)]) rfl
                refine xt_norm ?_
                refine wp_ret ?_
                refine ret1 (fn := Tryd.f13) hA rfl rfl ?_
                replace hS := hS.drop1
                replace hS := hS.drop1
                exact ⟨congrArg Value.bool (decide_eq_false (fun h => by first | exact absurd h.1 (by assumption) | exact absurd h.2.1 (by assumption) | exact absurd h.2.2.1 (by assumption) | exact absurd h.2.2.2.1 (by assumption) | exact absurd h.2.2.2.2.1 (by assumption) | exact absurd h.2.2.2.2.2.1 (by assumption) | exact absurd h.2.2.2.2.2.2.1 (by assumption) | exact absurd h.2.2.2.2.2.2.2 (by assumption))).symm, hS⟩
            · replace hA := hA.rw 43 (v' := .bool false) rfl (vb_false hc10)
              replace hA := hA.rw 44 (v' := .bool false) rfl (vb_false hc10)
              replace hA := hA.rw 45 (v' := .bool false) rfl (vb_false hc10)
              refine st_run tbOk 14 hA (e' := (59, undef) :: (58, undef) :: (57, undef) :: (56, undef) :: (55, undef) :: (54, undef) :: (53, undef) :: (52, .bool false) :: (51, .bool false) :: (50, undef) :: (49, undef) :: (48, undef) :: (47, undef) :: (46, undef) :: _) rfl ?_; clear hA; intro a hA
              refine st_run tbOk 2 hA (e' := (4, .bool false) :: (60, .bool false) :: _) rfl ?_; clear hA; intro a hA
              refine wpList_nil ?_
              replace hA := hA.sel [4] (e' := [(4, .bool false)]) rfl
              refine xt_norm ?_
              refine wp_ret ?_
              refine ret1 (fn := Tryd.f13) hA rfl rfl ?_
              replace hS := hS.drop1
              replace hS := hS.drop1
              exact ⟨congrArg Value.bool (decide_eq_false (fun h => by first | exact absurd h.1 (by assumption) | exact absurd h.2.1 (by assumption) | exact absurd h.2.2.1 (by assumption) | exact absurd h.2.2.2.1 (by assumption) | exact absurd h.2.2.2.2.1 (by assumption) | exact absurd h.2.2.2.2.2.1 (by assumption) | exact absurd h.2.2.2.2.2.2.1 (by assumption) | exact absurd h.2.2.2.2.2.2.2 (by assumption))).symm, hS⟩
          · replace hA := hA.rw 36 (v' := .bool false) rfl (vb_eq_f hc9)
            replace hA := hA.rw 37 (v' := .bool false) rfl (vb_eq_f hc9)
            replace hA := hA.rw 38 (v' := .bool false) rfl (vb_eq_f hc9)
            refine st_run tbOk 5 hA (e' := (43, undef) :: (42, undef) :: (41, undef) :: (40, undef) :: (39, undef) :: _) rfl ?_; clear hA; intro a hA
            refine st_run tbOk 16 hA (e' := (59, undef) :: (58, undef) :: (57, undef) :: (56, undef) :: (55, undef) :: (54, undef) :: (53, undef) :: (52, .bool false) :: (51, .bool false) :: (50, undef) :: (49, undef) :: (48, undef) :: (47, undef) :: (46, undef) :: (45, .bool false) :: (44, .bool false) :: _) rfl ?_; clear hA; intro a hA
            refine st_run tbOk 2 hA (e' := (4, .bool false) :: (60, .bool false) :: _) rfl ?_; clear hA; intro a hA
            refine wpList_nil ?_
            replace hA := hA.sel [4] (e' := [(4, .bool false)]) rfl
            refine xt_norm ?_
            refine wp_ret ?_
            refine ret1 (fn := Tryd.f13) hA rfl rfl ?_
            replace hS := hS.drop1
            replace hS := hS.drop1
            exact ⟨congrArg Value.bool (decide_eq_false (fun h => by first | exact absurd h.1 (by assumption) | exact absurd h.2.1 (by assumption) | exact absurd h.2.2.1 (by assumption) | exact absurd h.2.2.2.1 (by assumption) | exact absurd h.2.2.2.2.1 (by assumption) | exact absurd h.2.2.2.2.2.1 (by assumption) | exact absurd h.2.2.2.2.2.2.1 (by assumption) | exact absurd h.2.2.2.2.2.2.2 (by assumption))).symm, hS⟩
        · replace hA := hA.rw 29 (v' := .bool false) rfl (vb_eq_f hc8)
          replace hA := hA.rw 30 (v' := .bool false) rfl (vb_eq_f hc8)
          replace hA := hA.rw 31 (v' := .bool false) rfl (vb_eq_f hc8)
          refine st_run tbOk 12 hA (e' := (43, undef) :: (42, undef) :: (41, undef) :: (40, undef) :: (39, undef) :: (38, .bool false) :: (37, .bool false) :: (36, undef) :: (35, undef) :: (34, undef) :: (33, undef) :: (32, undef) :: _) rfl ?_; clear hA; intro a hA
          refine st_run tbOk 16 hA (e' := (59, undef) :: (58, undef) :: (57, undef) :: (56, undef) :: (55, undef) :: (54, undef) :: (53, undef) :: (52, .bool false) :: (51, .bool false) :: (50, undef) :: (49, undef) :: (48, undef) :: (47, undef) :: (46, undef) :: (45, .bool false) :: (44, .bool false) :: _) rfl ?_; clear hA; intro a hA
          refine st_run tbOk 2 hA (e' := (4, .bool false) :: (60, .bool false) :: _) rfl ?_; clear hA; intro a hA
          refine wpList_nil ?_
          replace hA := hA.sel [4] (e' := [(4, .bool false)]) rfl
          refine xt_norm ?_
          refine wp_ret ?_
          refine ret1 (fn := Tryd.f13) hA rfl rfl ?_
          replace hS := hS.drop1
          replace hS := hS.drop1
          exact ⟨congrArg Value.bool (decide_eq_false (fun h => by first | exact absurd h.1 (by assumption) | exact absurd h.2.1 (by assumption) | exact absurd h.2.2.1 (by assumption) | exact absurd h.2.2.2.1 (by assumption) | exact absurd h.2.2.2.2.1 (by assumption) | exact absurd h.2.2.2.2.2.1 (by assumption) | exact absurd h.2.2.2.2.2.2.1 (by assumption) | exact absurd h.2.2.2.2.2.2.2 (by assumption))).symm, hS⟩
      · replace hA := hA.rw 22 (v' := .bool false) rfl (vb_eq_f hc7)
        replace hA := hA.rw 23 (v' := .bool false) rfl (vb_eq_f hc7)
        replace hA := hA.rw 24 (v' := .bool false) rfl (vb_eq_f hc7)
        refine st_run tbOk 19 hA (e' := (43, undef) :: (42, undef) :: (41, undef) :: (40, undef) :: (39, undef) :: (38, .bool false) :: (37, .bool false) :: (36, undef) :: (35, undef) :: (34, undef) :: (33, undef) :: (32, undef) :: (31, .bool false) :: (30, .bool false) :: (29, undef) :: (28, undef) :: (27, undef) :: (26, undef) :: (25, undef) :: _) rfl ?_; clear hA; intro a hA
        refine st_run tbOk 16 hA (e' := (59, undef) :: (58, undef) :: (57, undef) :: (56, undef) :: (55, undef) :: (54, undef) :: (53, undef) :: (52, .bool false) :: (51, .bool false) :: (50, undef) :: (49, undef) :: (48, undef) :: (47, undef) :: (46, undef) :: (45, .bool false) :: (44, .bool false) :: _) rfl ?_; clear hA; intro a hA
        refine st_run tbOk 2 hA (e' := (4, .bool false) :: (60, .bool false) :: _) rfl ?_; clear hA; intro a hA
        refine wpList_nil ?_
        replace hA := hA.sel [4] (e' := [(4, .bool false)]) rfl
        refine xt_norm ?_
        refine wp_ret ?_
        refine ret1 (fn := Tryd.f13) hA rfl rfl ?_
        replace hS := hS.drop1
        replace hS := hS.drop1
        exact ⟨congrArg Value.bool (decide_eq_false (fun h => by first | exact absurd h.1 (by assumption) | exact absurd h.2.1 (by assumption) | exact absurd h.2.2.1 (by assumption) | exact absurd h.2.2.2.1 (by assumption) | exact absurd h.2.2.2.2.1 (by assumption) | exact absurd h.2.2.2.2.2.1 (by assumption) | exact absurd h.2.2.2.2.2.2.1 (by assumption) | exact absurd h.2.2.2.2.2.2.2 (by assumption))).symm, hS⟩
    · replace hA := hA.rw 15 (v' := .bool false) rfl (vb_eq_f hc6)
      replace hA := hA.rw 16 (v' := .bool false) rfl (vb_eq_f hc6)
      replace hA := hA.rw 17 (v' := .bool false) rfl (vb_eq_f hc6)
      refine st_run tbOk 26 hA (e' := (43, undef) :: (42, undef) :: (41, undef) :: (40, undef) :: (39, undef) :: (38, .bool false) :: (37, .bool false) :: (36, undef) :: (35, undef) :: (34, undef) :: (33, undef) :: (32, undef) :: (31, .bool false) :: (30, .bool false) :: (29, undef) :: (28, undef) :: (27, undef) :: (26, undef) :: (25, undef) :: (24, .bool false) :: (23, .bool false) :: (22, undef) :: (21, undef) :: (20, undef) :: (19, undef) :: (18, undef) :: _) rfl ?_; clear hA; intro a hA
      refine st_run tbOk 16 hA (e' := (59, undef) :: (58, undef) :: (57, undef) :: (56, undef) :: (55, undef) :: (54, undef) :: (53, undef) :: (52, .bool false) :: (51, .bool false) :: (50, undef) :: (49, undef) :: (48, undef) :: (47, undef) :: (46, undef) :: (45, .bool false) :: (44, .bool false) :: _) rfl ?_; clear hA; intro a hA
      refine st_run tbOk 2 hA (e' := (4, .bool false) :: (60, .bool false) :: _) rfl ?_; clear hA; intro a hA
      refine wpList_nil ?_
      replace hA := hA.sel [4] (e' := [(4, .bool false)]) rfl
      refine xt_norm ?_
      refine wp_ret ?_
      refine ret1 (fn := Tryd.f13) hA rfl rfl ?_
      replace hS := hS.drop1
      replace hS := hS.drop1
      exact ⟨congrArg Value.bool (decide_eq_false (fun h => by first | exact absurd h.1 (by assumption) | exact absurd h.2.1 (by assumption) | exact absurd h.2.2.1 (by assumption) | exact absurd h.2.2.2.1 (by assumption) | exact absurd h.2.2.2.2.1 (by assumption) | exact absurd h.2.2.2.2.2.1 (by assumption) | exact absurd h.2.2.2.2.2.2.1 (by assumption) | exact absurd h.2.2.2.2.2.2.2 (by assumption))).symm, hS⟩
  · replace hA := hA.rw 9 (v' := .bool false) rfl (vb_eq_f hc5)
    replace hA := hA.rw 10 (v' := .bool false) rfl (vb_eq_f hc5)
    refine st_run tbOk 33 hA (e' := (43, undef) :: (42, undef) :: (41, undef) :: (40, undef) :: (39, undef) :: (38, .bool false) :: (37, .bool false) :: (36, undef) :: (35, undef) :: (34, undef) :: (33, undef) :: (32, undef) :: (31, .bool false) :: (30, .bool false) :: (29, undef) :: (28, undef) :: (27, undef) :: (26, undef) :: (25, undef) :: (24, .bool false) :: (23, .bool false) :: (22, undef) :: (21, undef) :: (20, undef) :: (19, undef) :: (18, undef) :: (17, .bool false) :: (16, .bool false) :: (15, undef) :: (14, undef) :: (13, undef) :: (12, undef) :: (11, undef) :: _) rfl ?_; clear hA; intro a hA
    refine st_run tbOk 16 hA (e' := (59, undef) :: (58, undef) :: (57, undef) :: (56, undef) :: (55, undef) :: (54, undef) :: (53, undef) :: (52, .bool false) :: (51, .bool false) :: (50, undef) :: (49, undef) :: (48, undef) :: (47, undef) :: (46, undef) :: (45, .bool false) :: (44, .bool false) :: _) rfl ?_; clear hA; intro a hA
    refine st_run tbOk 2 hA (e' := (4, .bool false) :: (60, .bool false) :: _) rfl ?_; clear hA; intro a hA
    refine wpList_nil ?_
    replace hA := hA.sel [4] (e' := [(4, .bool false)]) rfl
    refine xt_norm ?_
    refine wp_ret ?_
    refine ret1 (fn := Tryd.f13) hA rfl rfl ?_
    replace hS := hS.drop1
    replace hS := hS.drop1
    exact ⟨congrArg Value.bool (decide_eq_false (fun h => by first | exact absurd h.1 (by assumption) | exact absurd h.2.1 (by assumption) | exact absurd h.2.2.1 (by assumption) | exact absurd h.2.2.2.1 (by assumption) | exact absurd h.2.2.2.2.1 (by assumption) | exact absurd h.2.2.2.2.2.1 (by assumption) | exact absurd h.2.2.2.2.2.2.1 (by assumption) | exact absurd h.2.2.2.2.2.2.2 (by assumption))).symm, hS⟩

theorem upd_setCell {w : World} {b : Nat} {x v : Value} {T : TypeId} (hb : w.heap[b]? = some (rowO [x] T)) : Upd w (w.setCell ⟨b, 0, none⟩ v) b (rowO [v] T) := by
  refine ⟨rfl, rfl, rfl, by simp [World.setCell], ?_, fun k _ hk => RowKit.Below.heap_setCell w _ _ k hk⟩
  simp only [World.setCell, Array.getElem?_modify, if_true, hb]
  rfl
/-- What the listed variable holds, in the world that the law begins in. -/
def HG (w : World) : Prop := w.cell? ⟨0, 0, none⟩ = some (.iface 83 (.agg #[.pointer (some ⟨1, 34, none⟩)]))
theorem asHit {w0 w : World} {F : List Chunk} {b : Nat} {x : Value} (hS : St w0 w ([(b, rowO [x] 52)] :: F)) (hg : HG w0) (n : Int) :
    Ret Tryd.prog 19 #[.iface 52 (.int .i64 n), .iface 69 (.pointer (some ⟨b, 0, none⟩))] w (fun v w' => v = .bool true ∧ St w0 w' ([(b, rowO [.int .i64 n] 52)] :: F)) := by
  have hb := hS.heapAt 0 rfl
  refine Calls.mono (as_hit n ⟨b, 0, none⟩ x w (hS.old hg) (cell_row hb rfl) (by simp [World.frozen?, hb, rowO])) fun e w' ⟨he, hw⟩ => ⟨_, he, rfl, ?_⟩
  subst hw
  have h4 := (((hS.alloc (.cells #[.pointer (some ⟨b, 0, none⟩)] 69)).alloc (.cells #[.pointer (some ⟨1, 69, none⟩), .pointer (some ⟨w.heap.size, 0, none⟩), .int .u64 150] 73)).alloc (.cells #[.pointer (some ⟨1, 69, none⟩), .pointer (some ⟨w.heap.size, 0, none⟩), .int .u64 150] 73)).alloc (.cells #[.int .i64 n] 52)
  have h5 := h4.drop1.drop1.drop1.drop1
  exact h5.upd (upd_setCell (h5.heapAt 0 rfl))
theorem asNil {w0 w : World} {F : List Chunk} (hS : St w0 w F) (t : Value) :
    Ret Tryd.prog 19 #[.nilIface, t] w (fun v w' => v = .bool false ∧ St w0 w' F) :=
  Calls.mono (as_nil t w) fun e w' ⟨he, hw⟩ => ⟨_, he, rfl, hw ▸ hS⟩

theorem number_hit14 {w0 w : World} {F : List Chunk} (hS : St w0 w F) (hg : HG w0) (n : Int) :
    Ret Tryd.prog 14 #[.iface 52 (.int .i64 n)] w (fun v w' => v = .int .i64 n ∧ St w0 w' F) := by
  refine enter (vs := [.iface 52 (.int .i64 n)]) 8 Tryd.func14 rfl rfl (by simp) ?_; intro a hA
  refine wp_seq ?_
  refine wp_region_lit ?_
  refine st_run tbOk 1 hA (e' := (2, .int .i64 0) :: _) rfl ?_; clear hA; intro a hA
  refine wpList_nil ?_
  replace hA := hA.sel [0] (e' := [(0, .iface 52 (.int .i64 n))]) rfl
  refine xt_norm ?_
  refine wp_seq ?_
  refine wp_region_lit ?_
  refine st_alloc tbOk hA hS [.int .i64 0] rfl rfl rfl rfl rfl (by decide) ?_; clear hA hS; intro b1 w2 a hS hA
  refine wpList_nil ?_
  refine xt_norm ?_
  refine wp_seq ?_
  refine wp_seq ?_
  refine wp_region_lit ?_
  refine st_run tbOk 2 hA (e' := (5, .iface 69 (.pointer (some ⟨b1, 0, none⟩))) :: (4, .iface 52 (.int .i64 n)) :: _) rfl ?_; clear hA; intro a hA
  refine st_call0 hA rfl rfl rfl isfn19 rfl rfl (by decide) (asHit hS hg n) ?_
  clear hA hS; rintro v w3 a ⟨rfl, hS⟩ hA
  refine wpList_nil ?_
  replace hA := hA.sel [3, 6] (e' := [(3, .pointer (some ⟨b1, 0, none⟩)), (6, .bool true)]) rfl
  refine xt_norm ?_
  refine cd_cond_t hA rfl ?_
  refine wp_seq ?_
  refine wp_region_lit ?_
  refine st_val hA rfl rfl (by decide) (rn_load tbOk hA rfl rfl rfl rfl (cell_row (hS.heapAt 0 rfl) rfl)) ?_; clear hA; intro a hA
  refine st_run tbOk 1 hA (e' := (2, .int .i64 n) :: _) rfl ?_; clear hA; intro a hA
  refine wpList_nil ?_
  replace hA := hA.sel [2] (e' := [(2, .int .i64 n)]) rfl
  refine xt_norm ?_
  refine wp_ret (xt_ret ?_)
  refine ret1 (fn := Tryd.f14) hA rfl rfl ?_
  replace hS := hS.drop1
  exact ⟨rfl, hS⟩

theorem number_nil14 {w0 w : World} {F : List Chunk} (hS : St w0 w F) (hg : HG w0) :
    Ret Tryd.prog 14 #[.nilIface] w (fun v w' => v = .int .i64 0 ∧ St w0 w' F) := by
  refine enter (vs := [.nilIface]) 8 Tryd.func14 rfl rfl (by simp) ?_; intro a hA
  refine wp_seq ?_
  refine wp_region_lit ?_
  refine st_run tbOk 1 hA (e' := (2, .int .i64 0) :: _) rfl ?_; clear hA; intro a hA
  refine wpList_nil ?_
  replace hA := hA.sel [0] (e' := [(0, .nilIface)]) rfl
  refine xt_norm ?_
  refine wp_seq ?_
  refine wp_region_lit ?_
  refine st_alloc tbOk hA hS [.int .i64 0] rfl rfl rfl rfl rfl (by decide) ?_; clear hA hS; intro b1 w2 a hS hA
  refine wpList_nil ?_
  refine xt_norm ?_
  refine wp_seq ?_
  refine wp_seq ?_
  refine wp_region_lit ?_
  refine st_run tbOk 2 hA (e' := (5, .iface 69 (.pointer (some ⟨b1, 0, none⟩))) :: (4, .nilIface) :: _) rfl ?_; clear hA; intro a hA
  refine st_call0 hA rfl rfl rfl isfn19 rfl rfl (by decide) (asNil hS _) ?_
  clear hA hS; rintro v w3 a ⟨rfl, hS⟩ hA
  refine wpList_nil ?_
  replace hA := hA.sel [3, 6] (e' := [(3, .pointer (some ⟨b1, 0, none⟩)), (6, .bool false)]) rfl
  refine xt_norm ?_
  refine cd_cond_f hA rfl ?_
  refine wp_skip ?_
  refine xt_norm ?_
  refine wp_seq ?_
  refine wp_region_lit ?_
  refine st_run tbOk 1 hA (e' := (2, .int .i64 0) :: _) rfl ?_; clear hA; intro a hA
  refine wpList_nil ?_
  replace hA := hA.sel [2] (e' := [(2, .int .i64 0)]) rfl
  refine xt_norm ?_
  refine wp_ret ?_
  refine ret1 (fn := Tryd.f14) hA rfl rfl ?_
  replace hS := hS.drop1
  exact ⟨rfl, hS⟩

theorem wrap_u64_ne (x : Int) (h0 : 0 ≤ x) (h1 : x < 18446744073709551616) : ¬ IntKind.u64.wrap (x + 1) = x ∧ 0 ≤ IntKind.u64.wrap (x + 1) := by
  have : IntKind.u64.wrap (x + 1) = (x + 1) % 18446744073709551616 := by unfold IntKind.wrap; simp [IntKind.min, IntKind.max, IntKind.bits, IntKind.signed]
  omega
theorem wrap_u32_ne (x : Int) (h0 : 0 ≤ x) (h1 : x < 4294967296) : ¬ IntKind.u32.wrap (x + 1) = x := by
  have : IntKind.u32.wrap (x + 1) = (x + 1) % 4294967296 := by unfold IntKind.wrap; simp [IntKind.min, IntKind.max, IntKind.bits, IntKind.signed]
  omega

theorem csz_nil : ∀ x ∈ ([] : List Call), csz x := fun x h => by simp at h
theorem cdd_nil {w0 : World} {D : Chunk} : ∀ x ∈ ([] : List Call), encCall_dd w0 D x := fun x h => by simp at h
theorem csz_add {cs : List Call} {x : Call} (h : ∀ y ∈ cs, csz y) (hx : csz x) : ∀ y ∈ cs ++ [x], csz y := fun y hy => by
  rcases List.mem_append.1 hy with hy | hy
  · exact h y hy
  · rw [List.mem_singleton.1 hy]; exact hx
theorem csz_set {cs : List Call} {k : Nat} {x : Call} (h : ∀ y ∈ cs, csz y) (hx : csz x) : ∀ y ∈ cs.set k x, csz y := fun y hy => by
  rcases List.mem_or_eq_of_mem_set hy with hy | rfl
  · exact h y hy
  · exact hx
theorem one_of {x : Call} {P : Call → Prop} (h : P x) : ∀ y ∈ [x], P y := fun y hy => by rw [List.mem_singleton.1 hy]; exact h

end Go.Proofs.YtjdkcdeldmjdmaaDoor
