import Derived.Test.YtjmnajcjbimbiaaDoorJ
set_option linter.unusedVariables false
set_option linter.unusedSimpArgs false
set_option maxRecDepth 4000
namespace Go.Proofs.YtjmnajcjbimbiaaDoor
open Go Go.SK
def mst (x : Msg) : Int × Int × Int × Int × Int × Int × Int × Int × Int × Int × List UInt8 := (x.1, x.2.1, x.2.2.1, x.2.2.2.1, x.2.2.2.2.1, x.2.2.2.2.2.1, x.2.2.2.2.2.2.1, x.2.2.2.2.2.2.2.1, x.2.2.2.2.2.2.2.2.1, x.2.2.2.2.2.2.2.2.2.1, mdat x)
def isA (q : Int) (x : Msg) : Bool := (mid x).tmod 3 == q.tmod 3
theorem isA_mst {q : Int} {x y : Msg} (h : mst x = mst y) : isA q x = isA q y := by
  have h2 : mid x = mid y := congrArg (fun z => z.2.2.1) h
  rw [isA, isA, h2]
theorem len_of {us ls : List Msg} (h : us.map mst = ls.map mst) : us.length = ls.length := by
  have := congrArg List.length h
  rw [List.length_map, List.length_map] at this; exact this
theorem flt_mst {p : Msg → Bool} (hp : ∀ x y, mst x = mst y → p x = p y) : ∀ {us ls : List Msg}, us.map mst = ls.map mst → (us.filter p).map mst = (ls.filter p).map mst
  | [], [], _ => rfl
  | [], y :: ls, h => by simp at h
  | x :: us, [], h => by simp at h
  | x :: us, y :: ls, h => by
    rw [List.map_cons, List.map_cons] at h
    injection h with h1 h2
    have ih := flt_mst hp h2
    rw [List.filter_cons, List.filter_cons, hp x y h1]
    cases p y with
    | true => simp [ih, h1]
    | false => simpa using ih
theorem flt_yes {q : Int} {us ls : List Msg} (h : us.map mst = ls.map mst) : (us.filter (isA q)).map mst = (ls.filter (isA q)).map mst := flt_mst (fun _ _ => isA_mst) h
theorem flt_no {q : Int} {us ls : List Msg} (h : us.map mst = ls.map mst) : (us.filter (fun x => !isA q x)).map mst = (ls.filter (fun x => !isA q x)).map mst := flt_mst (p := fun x => !isA q x) (fun x y h => by rw [isA_mst h]) h
theorem app_mst {us ls u2 l2 : List Msg} (h : us.map mst = ls.map mst) (h2 : u2.map mst = l2.map mst) : (us ++ u2).map mst = (ls ++ l2).map mst := by rw [List.map_append, List.map_append, h, h2]
theorem map_at {out o2 : List Msg} (h : out.map mst = o2.map mst) {k : Nat} {x y : Msg} (hx : out[k]? = some x) (hy : o2[k]? = some y) : mst x = mst y := by
  have h1 : (out.map mst)[k]? = some (mst x) := by rw [List.getElem?_map, hx]; rfl
  have h2 : (o2.map mst)[k]? = some (mst y) := by rw [List.getElem?_map, hy]; rfl
  rw [h, h2] at h1
  exact (Option.some.inj h1).symm
theorem getcs {us ps l0 l1 : List Msg} (h0 : us.map mst = l0.map mst) (h1 : ps.map mst = l1.map mst) :
    (∃ x u9 y l9, us = x :: u9 ∧ l0 = y :: l9 ∧ mst x = mst y ∧ u9.map mst = l9.map mst) ∨ (us = [] ∧ l0 = [] ∧ ∃ x u9 y l9, ps = x :: u9 ∧ l1 = y :: l9 ∧ mst x = mst y ∧ u9.map mst = l9.map mst) ∨ (us = [] ∧ l0 = [] ∧ ps = [] ∧ l1 = []) := by
  cases us with
  | cons x u9 =>
    cases l0 with
    | nil => simp at h0
    | cons y l9 => rw [List.map_cons, List.map_cons] at h0; injection h0 with a b; exact .inl ⟨x, u9, y, l9, rfl, rfl, a, b⟩
  | nil =>
    cases l0 with
    | cons y l9 => simp at h0
    | nil =>
      cases ps with
      | cons x u9 =>
        cases l1 with
        | nil => simp at h1
        | cons y l9 => rw [List.map_cons, List.map_cons] at h1; injection h1 with a b; exact .inr (.inl ⟨rfl, rfl, x, u9, y, l9, rfl, rfl, a, b⟩)
      | nil =>
        cases l1 with
        | cons y l9 => simp at h1
        | nil => exact .inr (.inr ⟨rfl, rfl, rfl, rfl⟩)
theorem flt_at {p : Msg → Bool} {ls : List Msg} {i : Nat} {y : Msg} (h : ls[i]? = some y) (hy : p y = true) : (ls.filter p)[(ok p ls i).length]? = some y := by
  have hk := (List.getElem?_eq_some_iff.1 h).1
  have he := (List.getElem?_eq_some_iff.1 h).2
  have e : ls.filter p = ok p ls i ++ y :: (ls.drop (i + 1)).filter p := by
    have : ls = ls.take i ++ y :: ls.drop (i + 1) := by rw [← he, List.getElem_cons_drop, List.take_append_drop]
    conv => lhs; rw [this]
    rw [List.filter_append, List.filter_cons, hy]; rfl
  rw [e, List.getElem?_append_right (Nat.le_refl _), Nat.sub_self]; rfl
theorem flt_lt {p : Msg → Bool} {ls : List Msg} {i : Nat} {y : Msg} (h : ls[i]? = some y) (hy : p y = true) : (ok p ls i).length < (ls.filter p).length := (List.getElem?_eq_some_iff.1 (flt_at h hy)).1
theorem ok_len {p : Msg → Bool} {us : List Msg} {k : Nat} {x : Msg} (h : us[k]? = some x) (hx : p x = true) : (ok p us (k + 1)).length = (ok p us k).length + 1 := by rw [← ok_yes h hx, List.length_append]; rfl
theorem ok_stay {p : Msg → Bool} {us : List Msg} {k : Nat} {x : Msg} (h : us[k]? = some x) (hx : p x = false) : ok (fun x => !p x) us k ++ [x] = ok (fun x => !p x) us (k + 1) := ok_yes (p := fun x => !p x) h (by rw [hx]; rfl)
theorem ok_gone {p : Msg → Bool} {us : List Msg} {k : Nat} {x : Msg} (h : us[k]? = some x) (hx : p x = true) : ok (fun x => !p x) us k = ok (fun x => !p x) us (k + 1) := ok_no (p := fun x => !p x) h (by rw [hx]; rfl)
theorem dd_snoc {w0 : World} {D : Chunk} {us : List Msg} {m : Msg} (h : ∀ x ∈ us, encMessage_dd w0 D x) (hm : encMessage_dd w0 D m) : ∀ x ∈ us ++ [m], encMessage_dd w0 D x := fun x hx => (List.mem_append.1 hx).elim (h x) (fun h2 => by rw [List.mem_singleton.1 h2]; exact hm)
theorem dd_flt {w0 : World} {D : Chunk} {us : List Msg} {p : Msg → Bool} (h : ∀ x ∈ us, encMessage_dd w0 D x) : ∀ x ∈ us.filter p, encMessage_dd w0 D x := fun x hx => h x (List.mem_filter.1 hx).1
theorem dd_app {w0 : World} {D : Chunk} {us ps : List Msg} (h : ∀ x ∈ us, encMessage_dd w0 D x) (h2 : ∀ x ∈ ps, encMessage_dd w0 D x) : ∀ x ∈ us ++ ps, encMessage_dd w0 D x := fun x hx => (List.mem_append.1 hx).elim (h x) (h2 x)
theorem gd_snoc {w0 : World} {us : List Msg} {m : Msg} (h : ∀ x ∈ us, ∀ D, encMessage_dd w0 D x) (hm : ∀ D, encMessage_dd w0 D m) : ∀ x ∈ us ++ [m], ∀ D, encMessage_dd w0 D x := fun x hx D => (List.mem_append.1 hx).elim (fun h2 => h x h2 D) (fun h2 => by rw [List.mem_singleton.1 h2]; exact hm D)
theorem gd_flt {w0 : World} {us : List Msg} {p : Msg → Bool} (h : ∀ x ∈ us, ∀ D, encMessage_dd w0 D x) : ∀ x ∈ us.filter p, ∀ D, encMessage_dd w0 D x := fun x hx => h x (List.mem_filter.1 hx).1
theorem gd_tl {w0 : World} {us l : List Msg} {m : Msg} (h : ∀ x ∈ us, ∀ D, encMessage_dd w0 D x) (e : us = m :: l) : ∀ x ∈ l, ∀ D, encMessage_dd w0 D x := fun x hx => h x (by rw [e]; exact List.mem_cons_of_mem _ hx)
theorem dd_tl {w0 : World} {D : Chunk} {l : List Msg} {m : Msg} (h : ∀ x ∈ m :: l, encMessage_dd w0 D x) : ∀ x ∈ l, encMessage_dd w0 D x := fun x hx => h x (List.mem_cons_of_mem _ hx)
theorem wrap_u8_id {x : Int} (h0 : 0 ≤ x) (h1 : x < 256) : IntKind.u8.wrap x = x := by
  have : IntKind.u8.wrap x = x % 256 := by unfold IntKind.wrap; simp [IntKind.min, IntKind.max, IntKind.bits, IntKind.signed]
  omega
def encSl (_ : Unit) : List Value := [.slice none 0 0]
theorem encSl_ok : Enc encSl 1 := ⟨fun _ => rfl, fun x u hu => by rw [List.mem_singleton.1 hu]; rfl⟩
section
open Go.ChangeShapes Go.WideShapes Go.RowKit
def encCap (x : Int × Int × Int × Int) : List Value := [.int .u64 x.1, .int .u32 x.2.1, .int .u8 x.2.2.1, .int .u64 x.2.2.2]
theorem encCap_ok : Enc encCap 4 := ⟨fun _ => rfl, fun x u hu => by simp only [encCap, List.mem_cons, List.not_mem_nil, or_false] at hu; rcases hu with rfl | rfl | rfl | rfl <;> rfl⟩
def encCap_dd (w0 : World) (D : Chunk) (x : Int × Int × Int × Int) : Prop := True
theorem encCap_left {w0 : World} {D E : Chunk} {x : Int × Int × Int × Int} (h : encCap_dd w0 D x) : encCap_dd w0 (E ++ D) x := trivial
theorem encCap_lefts {w0 : World} {D E : Chunk} {l : List (Int × Int × Int × Int)} (h : ∀ x ∈ l, encCap_dd w0 D x) : ∀ x ∈ l, encCap_dd w0 (E ++ D) x := fun x hx => encCap_left (h x hx)
def encCap_good (w : World) (x : (Int × Int × Int × Int)) : Prop := (0 ≤ x.1 ∧ x.1 < 18446744073709551616) ∧ (0 ≤ x.2.1 ∧ x.2.1 < 4294967296) ∧ (0 ≤ x.2.2.1 ∧ x.2.2.1 < 256) ∧ (0 ≤ x.2.2.2 ∧ x.2.2.2 < 18446744073709551616)
theorem dec_encCap {H : Type} {enc : TypeId × Value → H} {w : World} {spare : Nat → Bool} {held : Bool} : ∀ n cs x, DataW.trod enc Tryd.prog w 0 spare held n 34 cs = some x → WOk Tryd.prog 34 x.1 → ∃ a, cs = encCap a ∧ encCap_good w a := fun n cs x h hw => by
  obtain ⟨xs, m, _, hx, hl, hxl, hf⟩ := DataW.trod_struct Tryd.underlying34 h
  subst hx
  have hc : Tryd.prog.cellsOf 34 = 4 := by kernel_rfl
  rw [hc] at hl
  obtain ⟨c0, c1, c2, c3, rfl⟩ : ∃ c0 c1 c2 c3, cs = [c0, c1, c2, c3] := by
    match cs, hl with
    | [c0, c1, c2, c3], _ => exact ⟨_, _, _, _, rfl⟩
  obtain ⟨y0, hy0⟩ : ∃ y, xs[0]? = some y := ⟨_, List.getElem?_eq_getElem (by rw [hxl]; decide)⟩
  have h0 : DataW.trod enc Tryd.prog w 0 spare held m 31 (([c0, c1, c2, c3].drop 0).take (Tryd.prog.cellsOf 31)) = xs[0]? := hf 0 _ rfl
  have k0 : Tryd.prog.cellsOf 31 = 1 := by kernel_rfl
  have w0 : WOk Tryd.prog 31 y0.1 := hw.part Tryd.underlying34 (i := 0) rfl (by rw [List.getElem?_map, hy0]; rfl)
  rw [k0, hy0] at h0
  obtain ⟨n0, e0, _, g0⟩ := DataW.trod_int Tryd.underlying31 h0
  simp only [List.drop_succ_cons, List.drop_zero, List.take_succ_cons, List.take_zero] at e0
  injection e0 with e0 _
  obtain ⟨y1, hy1⟩ : ∃ y, xs[1]? = some y := ⟨_, List.getElem?_eq_getElem (by rw [hxl]; decide)⟩
  have h1 : DataW.trod enc Tryd.prog w 0 spare held m 27 (([c0, c1, c2, c3].drop 1).take (Tryd.prog.cellsOf 27)) = xs[1]? := hf 1 _ rfl
  have k1 : Tryd.prog.cellsOf 27 = 1 := by kernel_rfl
  have w1 : WOk Tryd.prog 27 y1.1 := hw.part Tryd.underlying34 (i := 1) rfl (by rw [List.getElem?_map, hy1]; rfl)
  rw [k1, hy1] at h1
  obtain ⟨n1, e1, _, g1⟩ := DataW.trod_int Tryd.underlying27 h1
  simp only [List.drop_succ_cons, List.drop_zero, List.take_succ_cons, List.take_zero] at e1
  injection e1 with e1 _
  obtain ⟨y2, hy2⟩ : ∃ y, xs[2]? = some y := ⟨_, List.getElem?_eq_getElem (by rw [hxl]; decide)⟩
  have h2 : DataW.trod enc Tryd.prog w 0 spare held m 5 (([c0, c1, c2, c3].drop 2).take (Tryd.prog.cellsOf 5)) = xs[2]? := hf 2 _ rfl
  have k2 : Tryd.prog.cellsOf 5 = 1 := by kernel_rfl
  have w2 : WOk Tryd.prog 5 y2.1 := hw.part Tryd.underlying34 (i := 2) rfl (by rw [List.getElem?_map, hy2]; rfl)
  rw [k2, hy2] at h2
  obtain ⟨n2, e2, _, g2⟩ := DataW.trod_int Tryd.underlying5 h2
  simp only [List.drop_succ_cons, List.drop_zero, List.take_succ_cons, List.take_zero] at e2
  injection e2 with e2 _
  obtain ⟨y3, hy3⟩ : ∃ y, xs[3]? = some y := ⟨_, List.getElem?_eq_getElem (by rw [hxl]; decide)⟩
  have h3 : DataW.trod enc Tryd.prog w 0 spare held m 31 (([c0, c1, c2, c3].drop 3).take (Tryd.prog.cellsOf 31)) = xs[3]? := hf 3 _ rfl
  have k3 : Tryd.prog.cellsOf 31 = 1 := by kernel_rfl
  have w3 : WOk Tryd.prog 31 y3.1 := hw.part Tryd.underlying34 (i := 3) rfl (by rw [List.getElem?_map, hy3]; rfl)
  rw [k3, hy3] at h3
  obtain ⟨n3, e3, _, g3⟩ := DataW.trod_int Tryd.underlying31 h3
  simp only [List.drop_succ_cons, List.drop_zero, List.take_succ_cons, List.take_zero] at e3
  injection e3 with e3 _
  subst e0
  subst e1
  subst e2
  subst e3
  exact ⟨(n0, n1, n2, n3), rfl, ⟨wf_u64 g0, wf_u32 g1, wf_u8 g2, wf_u64 g3⟩⟩
def encMessage_good (w : World) (x : (Int × Int × Int × Int × Int × Int × Int × Int × Int × Int × Option Addr × Nat × List UInt8)) : Prop := (0 ≤ x.1 ∧ x.1 < 18446744073709551616) ∧ (0 ≤ x.2.1 ∧ x.2.1 < 18446744073709551616) ∧ (0 ≤ x.2.2.1 ∧ x.2.2.1 < 4294967296) ∧ (0 ≤ x.2.2.2.1 ∧ x.2.2.2.1 < 65536) ∧ (0 ≤ x.2.2.2.2.1 ∧ x.2.2.2.2.1 < 65536) ∧ (0 ≤ x.2.2.2.2.2.1 ∧ x.2.2.2.2.2.1 < 18446744073709551616) ∧ (0 ≤ x.2.2.2.2.2.2.1 ∧ x.2.2.2.2.2.2.1 < 4294967296) ∧ (0 ≤ x.2.2.2.2.2.2.2.1 ∧ x.2.2.2.2.2.2.2.1 < 256) ∧ (0 ≤ x.2.2.2.2.2.2.2.2.1 ∧ x.2.2.2.2.2.2.2.2.1 < 18446744073709551616) ∧ (0 ≤ x.2.2.2.2.2.2.2.2.2.1 ∧ x.2.2.2.2.2.2.2.2.2.1 < 18446744073709551616) ∧ (RdX w 1 (.slice x.2.2.2.2.2.2.2.2.2.2.1 x.2.2.2.2.2.2.2.2.2.2.2.2.length x.2.2.2.2.2.2.2.2.2.2.2.1) x.2.2.2.2.2.2.2.2.2.2.2.2.length (rows encB x.2.2.2.2.2.2.2.2.2.2.2.2) ∧ x.2.2.2.2.2.2.2.2.2.2.2.2.length ≤ 140737488351232)
theorem dec_encMessage {H : Type} {enc : TypeId × Value → H} {w : World} {spare : Nat → Bool} {held : Bool} : ∀ n cs x, DataW.trod enc Tryd.prog w 0 spare held n 37 cs = some x → WOk Tryd.prog 37 x.1 → ∃ a, cs = encMessage a ∧ encMessage_good w a := fun n cs x h hw => by
  obtain ⟨xs, m, _, hx, hl, hxl, hf⟩ := DataW.trod_struct Tryd.underlying37 h
  subst hx
  have hc : Tryd.prog.cellsOf 37 = 11 := by kernel_rfl
  rw [hc] at hl
  obtain ⟨c0, c1, c2, c3, c4, c5, c6, c7, c8, c9, c10, rfl⟩ : ∃ c0 c1 c2 c3 c4 c5 c6 c7 c8 c9 c10, cs = [c0, c1, c2, c3, c4, c5, c6, c7, c8, c9, c10] := by
    match cs, hl with
    | [c0, c1, c2, c3, c4, c5, c6, c7, c8, c9, c10], _ => exact ⟨_, _, _, _, _, _, _, _, _, _, _, rfl⟩
  obtain ⟨y0, hy0⟩ : ∃ y, xs[0]? = some y := ⟨_, List.getElem?_eq_getElem (by rw [hxl]; decide)⟩
  have h0 : DataW.trod enc Tryd.prog w 0 spare held m 31 (([c0, c1, c2, c3, c4, c5, c6, c7, c8, c9, c10].drop 0).take (Tryd.prog.cellsOf 31)) = xs[0]? := hf 0 _ rfl
  have k0 : Tryd.prog.cellsOf 31 = 1 := by kernel_rfl
  have w0 : WOk Tryd.prog 31 y0.1 := hw.part Tryd.underlying37 (i := 0) rfl (by rw [List.getElem?_map, hy0]; rfl)
  rw [k0, hy0] at h0
  obtain ⟨n0, e0, _, g0⟩ := DataW.trod_int Tryd.underlying31 h0
  simp only [List.drop_succ_cons, List.drop_zero, List.take_succ_cons, List.take_zero] at e0
  injection e0 with e0 _
  obtain ⟨y1, hy1⟩ : ∃ y, xs[1]? = some y := ⟨_, List.getElem?_eq_getElem (by rw [hxl]; decide)⟩
  have h1 : DataW.trod enc Tryd.prog w 0 spare held m 31 (([c0, c1, c2, c3, c4, c5, c6, c7, c8, c9, c10].drop 1).take (Tryd.prog.cellsOf 31)) = xs[1]? := hf 1 _ rfl
  have k1 : Tryd.prog.cellsOf 31 = 1 := by kernel_rfl
  have w1 : WOk Tryd.prog 31 y1.1 := hw.part Tryd.underlying37 (i := 1) rfl (by rw [List.getElem?_map, hy1]; rfl)
  rw [k1, hy1] at h1
  obtain ⟨n1, e1, _, g1⟩ := DataW.trod_int Tryd.underlying31 h1
  simp only [List.drop_succ_cons, List.drop_zero, List.take_succ_cons, List.take_zero] at e1
  injection e1 with e1 _
  obtain ⟨y2, hy2⟩ : ∃ y, xs[2]? = some y := ⟨_, List.getElem?_eq_getElem (by rw [hxl]; decide)⟩
  have h2 : DataW.trod enc Tryd.prog w 0 spare held m 27 (([c0, c1, c2, c3, c4, c5, c6, c7, c8, c9, c10].drop 2).take (Tryd.prog.cellsOf 27)) = xs[2]? := hf 2 _ rfl
  have k2 : Tryd.prog.cellsOf 27 = 1 := by kernel_rfl
  have w2 : WOk Tryd.prog 27 y2.1 := hw.part Tryd.underlying37 (i := 2) rfl (by rw [List.getElem?_map, hy2]; rfl)
  rw [k2, hy2] at h2
  obtain ⟨n2, e2, _, g2⟩ := DataW.trod_int Tryd.underlying27 h2
  simp only [List.drop_succ_cons, List.drop_zero, List.take_succ_cons, List.take_zero] at e2
  injection e2 with e2 _
  obtain ⟨y3, hy3⟩ : ∃ y, xs[3]? = some y := ⟨_, List.getElem?_eq_getElem (by rw [hxl]; decide)⟩
  have h3 : DataW.trod enc Tryd.prog w 0 spare held m 32 (([c0, c1, c2, c3, c4, c5, c6, c7, c8, c9, c10].drop 3).take (Tryd.prog.cellsOf 32)) = xs[3]? := hf 3 _ rfl
  have k3 : Tryd.prog.cellsOf 32 = 1 := by kernel_rfl
  have w3 : WOk Tryd.prog 32 y3.1 := hw.part Tryd.underlying37 (i := 3) rfl (by rw [List.getElem?_map, hy3]; rfl)
  rw [k3, hy3] at h3
  obtain ⟨n3, e3, _, g3⟩ := DataW.trod_int Tryd.underlying32 h3
  simp only [List.drop_succ_cons, List.drop_zero, List.take_succ_cons, List.take_zero] at e3
  injection e3 with e3 _
  obtain ⟨y4, hy4⟩ : ∃ y, xs[4]? = some y := ⟨_, List.getElem?_eq_getElem (by rw [hxl]; decide)⟩
  have h4 : DataW.trod enc Tryd.prog w 0 spare held m 32 (([c0, c1, c2, c3, c4, c5, c6, c7, c8, c9, c10].drop 4).take (Tryd.prog.cellsOf 32)) = xs[4]? := hf 4 _ rfl
  have k4 : Tryd.prog.cellsOf 32 = 1 := by kernel_rfl
  have w4 : WOk Tryd.prog 32 y4.1 := hw.part Tryd.underlying37 (i := 4) rfl (by rw [List.getElem?_map, hy4]; rfl)
  rw [k4, hy4] at h4
  obtain ⟨n4, e4, _, g4⟩ := DataW.trod_int Tryd.underlying32 h4
  simp only [List.drop_succ_cons, List.drop_zero, List.take_succ_cons, List.take_zero] at e4
  injection e4 with e4 _
  obtain ⟨y5, hy5⟩ : ∃ y, xs[5]? = some y := ⟨_, List.getElem?_eq_getElem (by rw [hxl]; decide)⟩
  have h5 : DataW.trod enc Tryd.prog w 0 spare held m 34 (([c0, c1, c2, c3, c4, c5, c6, c7, c8, c9, c10].drop 5).take (Tryd.prog.cellsOf 34)) = xs[5]? := hf 5 _ rfl
  have k5 : Tryd.prog.cellsOf 34 = 4 := by kernel_rfl
  have w5 : WOk Tryd.prog 34 y5.1 := hw.part Tryd.underlying37 (i := 5) rfl (by rw [List.getElem?_map, hy5]; rfl)
  rw [k5, hy5] at h5
  obtain ⟨⟨m5_0, m5_1, m5_2, m5_3⟩, e5, g5⟩ := dec_encCap _ _ _ h5 w5
  obtain ⟨g5_0, g5_1, g5_2, g5_3⟩ := g5
  simp only [List.drop_succ_cons, List.drop_zero, List.take_succ_cons, List.take_zero, encCap, List.cons.injEq, and_true] at e5
  obtain ⟨e5_0, e5_1, e5_2, e5_3⟩ := e5
  obtain ⟨y6, hy6⟩ : ∃ y, xs[6]? = some y := ⟨_, List.getElem?_eq_getElem (by rw [hxl]; decide)⟩
  have h6 : DataW.trod enc Tryd.prog w 0 spare held m 31 (([c0, c1, c2, c3, c4, c5, c6, c7, c8, c9, c10].drop 9).take (Tryd.prog.cellsOf 31)) = xs[6]? := hf 6 _ rfl
  have k6 : Tryd.prog.cellsOf 31 = 1 := by kernel_rfl
  have w6 : WOk Tryd.prog 31 y6.1 := hw.part Tryd.underlying37 (i := 6) rfl (by rw [List.getElem?_map, hy6]; rfl)
  rw [k6, hy6] at h6
  obtain ⟨n6, e6, _, g6⟩ := DataW.trod_int Tryd.underlying31 h6
  simp only [List.drop_succ_cons, List.drop_zero, List.take_succ_cons, List.take_zero] at e6
  injection e6 with e6 _
  obtain ⟨y7, hy7⟩ : ∃ y, xs[7]? = some y := ⟨_, List.getElem?_eq_getElem (by rw [hxl]; decide)⟩
  have h7 : DataW.trod enc Tryd.prog w 0 spare held m 35 (([c0, c1, c2, c3, c4, c5, c6, c7, c8, c9, c10].drop 10).take (Tryd.prog.cellsOf 35)) = xs[7]? := hf 7 _ rfl
  have k7 : Tryd.prog.cellsOf 35 = 1 := by kernel_rfl
  have w7 : WOk Tryd.prog 35 y7.1 := hw.part Tryd.underlying37 (i := 7) rfl (by rw [List.getElem?_map, hy7]; rfl)
  rw [k7, hy7] at h7
  obtain ⟨A7, d7, b7, e7, g7⟩ := dec_bytes Tryd.underlying35 Tryd.underlying5 (by kernel_rfl) (by kernel_rfl) _ _ _ h7 w7
  simp only [List.drop_succ_cons, List.drop_zero, List.take_succ_cons, List.take_zero] at e7
  injection e7 with e7 _
  subst e0
  subst e1
  subst e2
  subst e3
  subst e4
  subst e5_0
  subst e5_1
  subst e5_2
  subst e5_3
  subst e6
  subst e7
  exact ⟨(n0, n1, n2, n3, n4, m5_0, m5_1, m5_2, m5_3, n6, A7, d7, b7), rfl, ⟨wf_u64 g0, wf_u64 g1, wf_u32 g2, wf_u16 g3, wf_u16 g4, g5_0, g5_1, g5_2, g5_3, wf_u64 g6, g7⟩⟩
theorem encMessage_gdd {w : World} {D : Chunk} {x : (Int × Int × Int × Int × Int × Int × Int × Int × Int × Int × Option Addr × Nat × List UInt8)} (h : encMessage_good w x) : encMessage_dd w D x := DD.of (h.2.2.2.2.2.2.2.2.2.2).1
def encAct (x : Int × Int × Int × Int × Int × Int × Int × Int × Int × Int × Int × Option Addr × Nat × List UInt8) : List Value := [.int .u8 x.1, .int .u64 x.2.1, .int .u64 x.2.2.1, .int .u32 x.2.2.2.1, .int .u16 x.2.2.2.2.1, .int .u16 x.2.2.2.2.2.1, .int .u64 x.2.2.2.2.2.2.1, .int .u32 x.2.2.2.2.2.2.2.1, .int .u8 x.2.2.2.2.2.2.2.2.1, .int .u64 x.2.2.2.2.2.2.2.2.2.1, .int .u64 x.2.2.2.2.2.2.2.2.2.2.1, .slice x.2.2.2.2.2.2.2.2.2.2.2.1 x.2.2.2.2.2.2.2.2.2.2.2.2.2.length x.2.2.2.2.2.2.2.2.2.2.2.2.1]
theorem encAct_ok : Enc encAct 12 := ⟨fun _ => rfl, fun x u hu => by simp only [encAct, List.mem_cons, List.not_mem_nil, or_false] at hu; rcases hu with rfl | rfl | rfl | rfl | rfl | rfl | rfl | rfl | rfl | rfl | rfl | rfl <;> rfl⟩
def encAct_dd (w0 : World) (D : Chunk) (x : Int × Int × Int × Int × Int × Int × Int × Int × Int × Int × Int × Option Addr × Nat × List UInt8) : Prop := DD w0 D x.2.2.2.2.2.2.2.2.2.2.2.1 x.2.2.2.2.2.2.2.2.2.2.2.2.1 x.2.2.2.2.2.2.2.2.2.2.2.2.2
theorem encAct_left {w0 : World} {D E : Chunk} {x : Int × Int × Int × Int × Int × Int × Int × Int × Int × Int × Int × Option Addr × Nat × List UInt8} (h : encAct_dd w0 D x) : encAct_dd w0 (E ++ D) x := DD.left h
theorem encAct_lefts {w0 : World} {D E : Chunk} {l : List (Int × Int × Int × Int × Int × Int × Int × Int × Int × Int × Int × Option Addr × Nat × List UInt8)} (h : ∀ x ∈ l, encAct_dd w0 D x) : ∀ x ∈ l, encAct_dd w0 (E ++ D) x := fun x hx => encAct_left (h x hx)
def encAct_good (w : World) (x : (Int × Int × Int × Int × Int × Int × Int × Int × Int × Int × Int × Option Addr × Nat × List UInt8)) : Prop := (0 ≤ x.1 ∧ x.1 < 256) ∧ (0 ≤ x.2.1 ∧ x.2.1 < 18446744073709551616) ∧ (0 ≤ x.2.2.1 ∧ x.2.2.1 < 18446744073709551616) ∧ (0 ≤ x.2.2.2.1 ∧ x.2.2.2.1 < 4294967296) ∧ (0 ≤ x.2.2.2.2.1 ∧ x.2.2.2.2.1 < 65536) ∧ (0 ≤ x.2.2.2.2.2.1 ∧ x.2.2.2.2.2.1 < 65536) ∧ (0 ≤ x.2.2.2.2.2.2.1 ∧ x.2.2.2.2.2.2.1 < 18446744073709551616) ∧ (0 ≤ x.2.2.2.2.2.2.2.1 ∧ x.2.2.2.2.2.2.2.1 < 4294967296) ∧ (0 ≤ x.2.2.2.2.2.2.2.2.1 ∧ x.2.2.2.2.2.2.2.2.1 < 256) ∧ (0 ≤ x.2.2.2.2.2.2.2.2.2.1 ∧ x.2.2.2.2.2.2.2.2.2.1 < 18446744073709551616) ∧ (0 ≤ x.2.2.2.2.2.2.2.2.2.2.1 ∧ x.2.2.2.2.2.2.2.2.2.2.1 < 18446744073709551616) ∧ (RdX w 1 (.slice x.2.2.2.2.2.2.2.2.2.2.2.1 x.2.2.2.2.2.2.2.2.2.2.2.2.2.length x.2.2.2.2.2.2.2.2.2.2.2.2.1) x.2.2.2.2.2.2.2.2.2.2.2.2.2.length (rows encB x.2.2.2.2.2.2.2.2.2.2.2.2.2) ∧ x.2.2.2.2.2.2.2.2.2.2.2.2.2.length ≤ 140737488351232)
theorem dec_encAct {H : Type} {enc : TypeId × Value → H} {w : World} {spare : Nat → Bool} {held : Bool} : ∀ n cs x, DataW.trod enc Tryd.prog w 0 spare held n 52 cs = some x → WOk Tryd.prog 52 x.1 → ∃ a, cs = encAct a ∧ encAct_good w a := fun n cs x h hw => by
  obtain ⟨xs, m, _, hx, hl, hxl, hf⟩ := DataW.trod_struct Tryd.underlying52 h
  subst hx
  have hc : Tryd.prog.cellsOf 52 = 12 := by kernel_rfl
  rw [hc] at hl
  obtain ⟨c0, c1, c2, c3, c4, c5, c6, c7, c8, c9, c10, c11, rfl⟩ : ∃ c0 c1 c2 c3 c4 c5 c6 c7 c8 c9 c10 c11, cs = [c0, c1, c2, c3, c4, c5, c6, c7, c8, c9, c10, c11] := by
    match cs, hl with
    | [c0, c1, c2, c3, c4, c5, c6, c7, c8, c9, c10, c11], _ => exact ⟨_, _, _, _, _, _, _, _, _, _, _, _, rfl⟩
  obtain ⟨y0, hy0⟩ : ∃ y, xs[0]? = some y := ⟨_, List.getElem?_eq_getElem (by rw [hxl]; decide)⟩
  have h0 : DataW.trod enc Tryd.prog w 0 spare held m 5 (([c0, c1, c2, c3, c4, c5, c6, c7, c8, c9, c10, c11].drop 0).take (Tryd.prog.cellsOf 5)) = xs[0]? := hf 0 _ rfl
  have k0 : Tryd.prog.cellsOf 5 = 1 := by kernel_rfl
  have w0 : WOk Tryd.prog 5 y0.1 := hw.part Tryd.underlying52 (i := 0) rfl (by rw [List.getElem?_map, hy0]; rfl)
  rw [k0, hy0] at h0
  obtain ⟨n0, e0, _, g0⟩ := DataW.trod_int Tryd.underlying5 h0
  simp only [List.drop_succ_cons, List.drop_zero, List.take_succ_cons, List.take_zero] at e0
  injection e0 with e0 _
  obtain ⟨y1, hy1⟩ : ∃ y, xs[1]? = some y := ⟨_, List.getElem?_eq_getElem (by rw [hxl]; decide)⟩
  have h1 : DataW.trod enc Tryd.prog w 0 spare held m 37 (([c0, c1, c2, c3, c4, c5, c6, c7, c8, c9, c10, c11].drop 1).take (Tryd.prog.cellsOf 37)) = xs[1]? := hf 1 _ rfl
  have k1 : Tryd.prog.cellsOf 37 = 11 := by kernel_rfl
  have w1 : WOk Tryd.prog 37 y1.1 := hw.part Tryd.underlying52 (i := 1) rfl (by rw [List.getElem?_map, hy1]; rfl)
  rw [k1, hy1] at h1
  obtain ⟨⟨m1_0, m1_1, m1_2, m1_3, m1_4, m1_5, m1_6, m1_7, m1_8, m1_9, m1_10, m1_11, m1_12⟩, e1, g1⟩ := dec_encMessage _ _ _ h1 w1
  obtain ⟨g1_0, g1_1, g1_2, g1_3, g1_4, g1_5, g1_6, g1_7, g1_8, g1_9, g1_10⟩ := g1
  simp only [List.drop_succ_cons, List.drop_zero, List.take_succ_cons, List.take_zero, encMessage, List.cons.injEq, and_true] at e1
  obtain ⟨e1_0, e1_1, e1_2, e1_3, e1_4, e1_5, e1_6, e1_7, e1_8, e1_9, e1_10⟩ := e1
  subst e0
  subst e1_0
  subst e1_1
  subst e1_2
  subst e1_3
  subst e1_4
  subst e1_5
  subst e1_6
  subst e1_7
  subst e1_8
  subst e1_9
  subst e1_10
  exact ⟨(n0, m1_0, m1_1, m1_2, m1_3, m1_4, m1_5, m1_6, m1_7, m1_8, m1_9, m1_10, m1_11, m1_12), rfl, ⟨wf_u8 g0, g1_0, g1_1, g1_2, g1_3, g1_4, g1_5, g1_6, g1_7, g1_8, g1_9, g1_10⟩⟩
theorem encAct_gdd {w : World} {D : Chunk} {x : (Int × Int × Int × Int × Int × Int × Int × Int × Int × Int × Int × Option Addr × Nat × List UInt8)} (h : encAct_good w x) : encAct_dd w D x := DD.of (h.2.2.2.2.2.2.2.2.2.2.2).1
end
theorem same04_14 {w0 w : World} {F : List Chunk} (hS : St w0 w F) (x0 x1 x2 x3 x4 x5 x6 x7 x8 x9 y0 y1 y2 y3 y4 y5 y6 y7 y8 y9 : Int) {d1 d2 : Value} {bs cs : List UInt8} (h1 : RdSX w0 F 1 d1 bs.length (rows encB bs)) (h2 : RdSX w0 F 1 d2 cs.length (rows encB cs)) :
    Ret Tryd.prog 14 #[.agg #[.int .u64 x0, .int .u64 x1, .int .u32 x2, .int .u16 x3, .int .u16 x4, .int .u64 x5, .int .u32 x6, .int .u8 x7, .int .u64 x8, .int .u64 x9, d1], .agg #[.int .u64 y0, .int .u64 y1, .int .u32 y2, .int .u16 y3, .int .u16 y4, .int .u64 y5, .int .u32 y6, .int .u8 y7, .int .u64 y8, .int .u64 y9, d2]] w (fun v w' => v = .bool (decide (x0 = y0 ∧ x1 = y1 ∧ x2 = y2 ∧ x3 = y3 ∧ x4 = y4 ∧ (x5 = y5 ∧ x6 = y6 ∧ x7 = y7 ∧ x8 = y8) ∧ x9 = y9 ∧ bs = cs)) ∧ St w0 w' F) := by
  obtain ⟨A, c, rfl, hmc, hcx⟩ := (h1 w hS).open'
  obtain ⟨B, d, rfl, hmd, hdx⟩ := (h2 w hS).open'
  refine enter (vs := [.agg #[.int .u64 x0, .int .u64 x1, .int .u32 x2, .int .u16 x3, .int .u16 x4, .int .u64 x5, .int .u32 x6, .int .u8 x7, .int .u64 x8, .int .u64 x9, .slice A bs.length c], .agg #[.int .u64 y0, .int .u64 y1, .int .u32 y2, .int .u16 y3, .int .u16 y4, .int .u64 y5, .int .u32 y6, .int .u8 y7, .int .u64 y8, .int .u64 y9, .slice B cs.length d]]) 61 Tryd.func14 rfl rfl (by simp) ?_; intro a hA
  refine wp_seq ?_
  refine wp_region_lit ?_
  refine st_box hA hS [.int .u64 x0, .int .u64 x1, .int .u32 x2, .int .u16 x3, .int .u16 x4, .int .u64 x5, .int .u32 x6, .int .u8 x7, .int .u64 x8, .int .u64 x9, .slice A bs.length c] rfl rfl rfl rfl rfl (by decide) ?_; clear hA hS; intro b1 w2 a hS hA
  refine st_box hA hS [.int .u64 y0, .int .u64 y1, .int .u32 y2, .int .u16 y3, .int .u16 y4, .int .u64 y5, .int .u32 y6, .int .u8 y7, .int .u64 y8, .int .u64 y9, .slice B cs.length d] rfl rfl rfl rfl rfl (by decide) ?_; clear hA hS; intro b3 w4 a hS hA
  refine st_run tbOk 1 hA (e' := (4, .bool false) :: _) rfl ?_; clear hA; intro a hA
  refine wpList_nil ?_
  replace hA := hA.sel [2, 3] (e' := [(2, .pointer (some ⟨b1, 0, none⟩)), (3, .pointer (some ⟨b3, 0, none⟩))]) rfl
  refine xt_norm ?_
  refine wp_seq ?_
  refine wp_region_lit ?_
  refine st_run tbOk 1 hA (e' := (5, .pointer (some ⟨b1, 0, none⟩)) :: _) rfl ?_; clear hA; intro a hA
  refine st_val hA rfl rfl (by decide) (rn_load tbOk hA rfl rfl rfl rfl (cell_row (hS.heapAt 1 rfl) rfl)) ?_; clear hA; intro a hA
  refine st_run tbOk 1 hA (e' := (7, .pointer (some ⟨b3, 0, none⟩)) :: _) rfl ?_; clear hA; intro a hA
  refine st_val hA rfl rfl (by decide) (rn_load tbOk hA rfl rfl rfl rfl (cell_row (hS.heapAt 0 rfl) rfl)) ?_; clear hA; intro a hA
  refine st_run tbOk 2 hA (e' := (10, .bool (x0 == y0)) :: (9, .bool (x0 == y0)) :: _) rfl ?_; clear hA; intro a hA
  by_cases hc5 : x0 = y0
  · replace hA := hA.rw 9 (v' := .bool true) rfl (vb_eq_t hc5)
    replace hA := hA.rw 10 (v' := .bool true) rfl (vb_eq_t hc5)
    refine st_run tbOk 1 hA (e' := (11, .pointer (some ⟨b1, 1, none⟩)) :: _) rfl ?_; clear hA; intro a hA
    refine st_val hA rfl rfl (by decide) (rn_load tbOk hA rfl rfl rfl rfl (cell_row (hS.heapAt 1 rfl) rfl)) ?_; clear hA; intro a hA
    refine st_run tbOk 1 hA (e' := (13, .pointer (some ⟨b3, 1, none⟩)) :: _) rfl ?_; clear hA; intro a hA
    refine st_val hA rfl rfl (by decide) (rn_load tbOk hA rfl rfl rfl rfl (cell_row (hS.heapAt 0 rfl) rfl)) ?_; clear hA; intro a hA
    refine st_run tbOk 3 hA (e' := (17, .bool (x1 == y1)) :: (16, .bool (x1 == y1)) :: (15, .bool (x1 == y1)) :: _) rfl ?_; clear hA; intro a hA
    by_cases hc6 : x1 = y1
    · replace hA := hA.rw 15 (v' := .bool true) rfl (vb_eq_t hc6)
      replace hA := hA.rw 16 (v' := .bool true) rfl (vb_eq_t hc6)
      replace hA := hA.rw 17 (v' := .bool true) rfl (vb_eq_t hc6)
      refine st_run tbOk 1 hA (e' := (18, .pointer (some ⟨b1, 2, none⟩)) :: _) rfl ?_; clear hA; intro a hA
      refine st_val hA rfl rfl (by decide) (rn_load tbOk hA rfl rfl rfl rfl (cell_row (hS.heapAt 1 rfl) rfl)) ?_; clear hA; intro a hA
      refine st_run tbOk 1 hA (e' := (20, .pointer (some ⟨b3, 2, none⟩)) :: _) rfl ?_; clear hA; intro a hA
      refine st_val hA rfl rfl (by decide) (rn_load tbOk hA rfl rfl rfl rfl (cell_row (hS.heapAt 0 rfl) rfl)) ?_; clear hA; intro a hA
      refine st_run tbOk 3 hA (e' := (24, .bool (x2 == y2)) :: (23, .bool (x2 == y2)) :: (22, .bool (x2 == y2)) :: _) rfl ?_; clear hA; intro a hA
      by_cases hc7 : x2 = y2
      · replace hA := hA.rw 22 (v' := .bool true) rfl (vb_eq_t hc7)
        replace hA := hA.rw 23 (v' := .bool true) rfl (vb_eq_t hc7)
        replace hA := hA.rw 24 (v' := .bool true) rfl (vb_eq_t hc7)
        refine st_run tbOk 1 hA (e' := (25, .pointer (some ⟨b1, 3, none⟩)) :: _) rfl ?_; clear hA; intro a hA
        refine st_val hA rfl rfl (by decide) (rn_load tbOk hA rfl rfl rfl rfl (cell_row (hS.heapAt 1 rfl) rfl)) ?_; clear hA; intro a hA
        refine st_run tbOk 1 hA (e' := (27, .pointer (some ⟨b3, 3, none⟩)) :: _) rfl ?_; clear hA; intro a hA
        refine st_val hA rfl rfl (by decide) (rn_load tbOk hA rfl rfl rfl rfl (cell_row (hS.heapAt 0 rfl) rfl)) ?_; clear hA; intro a hA
        refine st_run tbOk 3 hA (e' := (31, .bool (x3 == y3)) :: (30, .bool (x3 == y3)) :: (29, .bool (x3 == y3)) :: _) rfl ?_; clear hA; intro a hA
        by_cases hc8 : x3 = y3
        · replace hA := hA.rw 29 (v' := .bool true) rfl (vb_eq_t hc8)
          replace hA := hA.rw 30 (v' := .bool true) rfl (vb_eq_t hc8)
          replace hA := hA.rw 31 (v' := .bool true) rfl (vb_eq_t hc8)
          refine st_run tbOk 1 hA (e' := (32, .pointer (some ⟨b1, 4, none⟩)) :: _) rfl ?_; clear hA; intro a hA
          refine st_val hA rfl rfl (by decide) (rn_load tbOk hA rfl rfl rfl rfl (cell_row (hS.heapAt 1 rfl) rfl)) ?_; clear hA; intro a hA
          refine st_run tbOk 1 hA (e' := (34, .pointer (some ⟨b3, 4, none⟩)) :: _) rfl ?_; clear hA; intro a hA
          refine st_val hA rfl rfl (by decide) (rn_load tbOk hA rfl rfl rfl rfl (cell_row (hS.heapAt 0 rfl) rfl)) ?_; clear hA; intro a hA
          refine st_run tbOk 3 hA (e' := (38, .bool (x4 == y4)) :: (37, .bool (x4 == y4)) :: (36, .bool (x4 == y4)) :: _) rfl ?_; clear hA; intro a hA
          by_cases hc9 : x4 = y4
          · replace hA := hA.rw 36 (v' := .bool true) rfl (vb_eq_t hc9)
            replace hA := hA.rw 37 (v' := .bool true) rfl (vb_eq_t hc9)
            replace hA := hA.rw 38 (v' := .bool true) rfl (vb_eq_t hc9)
            refine st_run tbOk 1 hA (e' := (39, .pointer (some ⟨b1, 5, none⟩)) :: _) rfl ?_; clear hA; intro a hA
            refine st_val hA rfl rfl (by decide) (rn_loadA tbOk hA [.int .u64 x5, .int .u32 x6, .int .u8 x7, .int .u64 x8] rfl rfl rfl rfl rfl (cells_row (hS.heapAt 1 rfl) rfl)) ?_; clear hA; intro a hA
            refine st_run tbOk 1 hA (e' := (41, .pointer (some ⟨b3, 5, none⟩)) :: _) rfl ?_; clear hA; intro a hA
            refine st_val hA rfl rfl (by decide) (rn_loadA tbOk hA [.int .u64 y5, .int .u32 y6, .int .u8 y7, .int .u64 y8] rfl rfl rfl rfl rfl (cells_row (hS.heapAt 0 rfl) rfl)) ?_; clear hA; intro a hA
            refine st_val hA rfl rfl (by decide) (rn_eqA tbOk hA rfl rfl rfl rfl rfl (by kernel_rfl) (by kernel_rfl) rfl) ?_; clear hA; intro a hA
            replace hA := hA.rw 43 (v' := .bool (decide (x5 = y5 ∧ x6 = y6 ∧ x7 = y7 ∧ x8 = y8))) rfl (congrArg Value.bool (by rw [Bool.eq_iff_iff]; simp))
            refine st_run tbOk 2 hA (e' := (45, .bool (decide (x5 = y5 ∧ x6 = y6 ∧ x7 = y7 ∧ x8 = y8))) :: (44, .bool (decide (x5 = y5 ∧ x6 = y6 ∧ x7 = y7 ∧ x8 = y8))) :: _) rfl ?_; clear hA; intro a hA
            by_cases hc10 : x5 = y5 ∧ x6 = y6 ∧ x7 = y7 ∧ x8 = y8
            · replace hA := hA.rw 43 (v' := .bool true) rfl (vb_true hc10)
              replace hA := hA.rw 44 (v' := .bool true) rfl (vb_true hc10)
              replace hA := hA.rw 45 (v' := .bool true) rfl (vb_true hc10)
              refine st_run tbOk 1 hA (e' := (46, .pointer (some ⟨b1, 9, none⟩)) :: _) rfl ?_; clear hA; intro a hA
              refine st_val hA rfl rfl (by decide) (rn_load tbOk hA rfl rfl rfl rfl (cell_row (hS.heapAt 1 rfl) rfl)) ?_; clear hA; intro a hA
              refine st_run tbOk 1 hA (e' := (48, .pointer (some ⟨b3, 9, none⟩)) :: _) rfl ?_; clear hA; intro a hA
              refine st_val hA rfl rfl (by decide) (rn_load tbOk hA rfl rfl rfl rfl (cell_row (hS.heapAt 0 rfl) rfl)) ?_; clear hA; intro a hA
              refine st_run tbOk 3 hA (e' := (52, .bool (x9 == y9)) :: (51, .bool (x9 == y9)) :: (50, .bool (x9 == y9)) :: _) rfl ?_; clear hA; intro a hA
              by_cases hc11 : x9 = y9
              · replace hA := hA.rw 50 (v' := .bool true) rfl (vb_eq_t hc11)
                replace hA := hA.rw 51 (v' := .bool true) rfl (vb_eq_t hc11)
                replace hA := hA.rw 52 (v' := .bool true) rfl (vb_eq_t hc11)
                refine st_run tbOk 1 hA (e' := (53, .pointer (some ⟨b1, 10, none⟩)) :: _) rfl ?_; clear hA; intro a hA
                refine st_val hA rfl rfl (by decide) (rn_load tbOk hA rfl rfl rfl rfl (cell_row (hS.heapAt 1 rfl) rfl)) ?_; clear hA; intro a hA
                refine st_val hA rfl rfl (by decide) (rn_bstr tbOk hA (bs := bs) rfl rfl rfl rfl rfl rfl rfl rfl (h1 _ (hS.tail 2 rfl))) ?_; clear hA; intro a hA
                refine st_run tbOk 1 hA (e' := (56, .pointer (some ⟨b3, 10, none⟩)) :: _) rfl ?_; clear hA; intro a hA
                refine st_val hA rfl rfl (by decide) (rn_load tbOk hA rfl rfl rfl rfl (cell_row (hS.heapAt 0 rfl) rfl)) ?_; clear hA; intro a hA
                refine st_val hA rfl rfl (by decide) (rn_bstr tbOk hA (bs := cs) rfl rfl rfl rfl rfl rfl rfl rfl (h2 _ (hS.tail 2 rfl))) ?_; clear hA; intro a hA
                refine st_run tbOk 1 hA (e' := (59, .bool ((bsv bs).toList == (bsv cs).toList)) :: _) rfl ?_; clear hA; intro a hA
                replace hA := hA.rw 59 (v' := .bool (decide (bs = cs))) rfl (congrArg Value.bool (bsv_eq _ _))
                refine st_run tbOk 2 hA (e' := (4, .bool (decide (bs = cs))) :: (60, .bool (decide (bs = cs))) :: _) rfl ?_; clear hA; intro a hA
                refine wpList_nil ?_
                replace hA := hA.sel [4] (e' := [(4, .bool (decide (bs = cs)))]) rfl
                refine xt_norm ?_
                refine wp_ret ?_
                refine ret1 (fn := Tryd.f14) hA rfl rfl ?_
                replace hS := hS.drop1
                replace hS := hS.drop1
                exact ⟨congrArg Value.bool (decide_eq_decide.2 ⟨fun h => ⟨by assumption, by assumption, by assumption, by assumption, by assumption, by assumption, by assumption, h⟩, fun h => h.2.2.2.2.2.2.2⟩), hS⟩
              · replace hA := hA.rw 50 (v' := .bool false) rfl (vb_eq_f hc11)
                replace hA := hA.rw 51 (v' := .bool false) rfl (vb_eq_f hc11)
                replace hA := hA.rw 52 (v' := .bool false) rfl (vb_eq_f hc11)
                refine st_run tbOk 7 hA (e' := (59, undef) :: (58, undef) :: (57, undef) :: (56, undef) :: (55, undef) :: (54, undef) :: (53, undef) :: _) rfl ?_; clear hA; intro a hA
                refine st_run tbOk 2 hA (e' := (4, .bool false) :: (60, .bool false) :: _) rfl ?_; clear hA; intro a hA
                refine wpList_nil ?_
                replace hA := hA.sel [4] (e' := [(4, .bool false)]) rfl
                refine xt_norm ?_
                refine wp_ret ?_
                refine ret1 (fn := Tryd.f14) hA rfl rfl ?_
                replace hS := hS.drop1
                replace hS := hS.drop1
                exact ⟨congrArg Value.bool (decide_eq_false (fun h => by first | exact absurd h.1 (by assumption) | exact absurd h.2.1 (by assumption) | exact absurd h.2.2.1 (by assumption) | exact absurd h.2.2.2.1 (by assumption) | exact absurd h.2.2.2.2.1 (by assumption) | exact absurd h.2.2.2.2.2.1 (by assumption) | exact absurd h.2.2.2.2.2.2.1 (by assumption) | exact absurd h.2.2.2.2.2.2.2 (by assumption))).symm, hS⟩
            · replace hA := hA.rw 43 (v' := .bool false) rfl (vb_false hc10)
              replace hA := hA.rw 44 (v' := .bool false) rfl (vb_false hc10)
              replace hA := hA.rw 45 (v' := .bool false) rfl (vb_false hc10)
              refine st_run tbOk 14 hA (e' := (59, undef) :: (58, undef) :: (57, undef) :: (56, undef) :: (55, undef) :: (54, undef) :: (53, undef) :: (52, .bool false) :: (51, .bool false) :: (50, undef) :: (49, undef) :: (48, undef) :: (47, undef) :: (46, undef) :: _) rfl ?_; clear hA; intro a hA
              refine st_run tbOk 2 hA (e' := (4, .bool false) :: (60, .bool false) :: _) rfl ?_; clear hA; intro a hA
              refine wpList_nil ?_
              replace hA := hA.sel [4] (e' := [(4, .bool false)]) rfl
              refine xt_norm ?_
              refine wp_ret ?_
              refine ret1 (fn := Tryd.f14) hA rfl rfl ?_
              replace hS := hS.drop1
              replace hS := hS.drop1
              exact ⟨congrArg Value.bool (decide_eq_false (fun h => by first | exact absurd h.1 (by assumption) | exact absurd h.2.1 (by assumption) | exact absurd h.2.2.1 (by assumption) | exact absurd h.2.2.2.1 (by assumption) | exact absurd h.2.2.2.2.1 (by assumption) | exact absurd h.2.2.2.2.2.1 (by assumption) | exact absurd h.2.2.2.2.2.2.1 (by assumption) | exact absurd h.2.2.2.2.2.2.2 (by assumption))).symm, hS⟩
          · replace hA := hA.rw 36 (v' := .bool false) rfl (vb_eq_f hc9)
            replace hA := hA.rw 37 (v' := .bool false) rfl (vb_eq_f hc9)
            replace hA := hA.rw 38 (v' := .bool false) rfl (vb_eq_f hc9)
            refine st_run tbOk 5 hA (e' := (43, undef) :: (42, undef) :: (41, undef) :: (40, undef) :: (39, undef) :: _) rfl ?_; clear hA; intro a hA
            refine st_run tbOk 16 hA (e' := (59, undef) :: (58, undef) :: (57, undef) :: (56, undef) :: (55, undef) :: (54, undef) :: (53, undef) :: (52, .bool false) :: (51, .bool false) :: (50, undef) :: (49, undef) :: (48, undef) :: (47, undef) :: (46, undef) :: (45, .bool false) :: (44, .bool false) :: _) rfl ?_; clear hA; intro a hA
            refine st_run tbOk 2 hA (e' := (4, .bool false) :: (60, .bool false) :: _) rfl ?_; clear hA; intro a hA
            refine wpList_nil ?_
            replace hA := hA.sel [4] (e' := [(4, .bool false)]) rfl
            refine xt_norm ?_
            refine wp_ret ?_
            refine ret1 (fn := Tryd.f14) hA rfl rfl ?_
            replace hS := hS.drop1
            replace hS := hS.drop1
            exact ⟨congrArg Value.bool (decide_eq_false (fun h => by first | exact absurd h.1 (by assumption) | exact absurd h.2.1 (by assumption) | exact absurd h.2.2.1 (by assumption) | exact absurd h.2.2.2.1 (by assumption) | exact absurd h.2.2.2.2.1 (by assumption) | exact absurd h.2.2.2.2.2.1 (by assumption) | exact absurd h.2.2.2.2.2.2.1 (by assumption) | exact absurd h.2.2.2.2.2.2.2 (by assumption))).symm, hS⟩
        · replace hA := hA.rw 29 (v' := .bool false) rfl (vb_eq_f hc8)
          replace hA := hA.rw 30 (v' := .bool false) rfl (vb_eq_f hc8)
          replace hA := hA.rw 31 (v' := .bool false) rfl (vb_eq_f hc8)
          refine st_run tbOk 12 hA (e' := (43, undef) :: (42, undef) :: (41, undef) :: (40, undef) :: (39, undef) :: (38, .bool false) :: (37, .bool false) :: (36, undef) :: (35, undef) :: (34, undef) :: (33, undef) :: (32, undef) :: _) rfl ?_; clear hA; intro a hA
          refine st_run tbOk 16 hA (e' := (59, undef) :: (58, undef) :: (57, undef) :: (56, undef) :: (55, undef) :: (54, undef) :: (53, undef) :: (52, .bool false) :: (51, .bool false) :: (50, undef) :: (49, undef) :: (48, undef) :: (47, undef) :: (46, undef) :: (45, .bool false) :: (44, .bool false) :: _) rfl ?_; clear hA; intro a hA
          refine st_run tbOk 2 hA (e' := (4, .bool false) :: (60, .bool false) :: _) rfl ?_; clear hA; intro a hA
          refine wpList_nil ?_
          replace hA := hA.sel [4] (e' := [(4, .bool false)]) rfl
          refine xt_norm ?_
          refine wp_ret ?_
          refine ret1 (fn := Tryd.f14) hA rfl rfl ?_
          replace hS := hS.drop1
          replace hS := hS.drop1
          exact ⟨congrArg Value.bool (decide_eq_false (fun h => by first | exact absurd h.1 (by assumption) | exact absurd h.2.1 (by assumption) | exact absurd h.2.2.1 (by assumption) | exact absurd h.2.2.2.1 (by assumption) | exact absurd h.2.2.2.2.1 (by assumption) | exact absurd h.2.2.2.2.2.1 (by assumption) | exact absurd h.2.2.2.2.2.2.1 (by assumption) | exact absurd h.2.2.2.2.2.2.2 (by assumption))).symm, hS⟩
      · replace hA := hA.rw 22 (v' := .bool false) rfl (vb_eq_f hc7)
        replace hA := hA.rw 23 (v' := .bool false) rfl (vb_eq_f hc7)
        replace hA := hA.rw 24 (v' := .bool false) rfl (vb_eq_f hc7)
        refine st_run tbOk 19 hA (e' := (43, undef) :: (42, undef) :: (41, undef) :: (40, undef) :: (39, undef) :: (38, .bool false) :: (37, .bool false) :: (36, undef) :: (35, undef) :: (34, undef) :: (33, undef) :: (32, undef) :: (31, .bool false) :: (30, .bool false) :: (29, undef) :: (28, undef) :: (27, undef) :: (26, undef) :: (25, undef) :: _) rfl ?_; clear hA; intro a hA
        refine st_run tbOk 16 hA (e' := (59, undef) :: (58, undef) :: (57, undef) :: (56, undef) :: (55, undef) :: (54, undef) :: (53, undef) :: (52, .bool false) :: (51, .bool false) :: (50, undef) :: (49, undef) :: (48, undef) :: (47, undef) :: (46, undef) :: (45, .bool false) :: (44, .bool false) :: _) rfl ?_; clear hA; intro a hA
        refine st_run tbOk 2 hA (e' := (4, .bool false) :: (60, .bool false) :: _) rfl ?_; clear hA; intro a hA
        refine wpList_nil ?_
        replace hA := hA.sel [4] (e' := [(4, .bool false)]) rfl
        refine xt_norm ?_
        refine wp_ret ?_
        refine ret1 (fn := Tryd.f14) hA rfl rfl ?_
        replace hS := hS.drop1
        replace hS := hS.drop1
        exact ⟨congrArg Value.bool (decide_eq_false (fun h => by first | exact absurd h.1 (by assumption) | exact absurd h.2.1 (by assumption) | exact absurd h.2.2.1 (by assumption) | exact absurd h.2.2.2.1 (by assumption) | exact absurd h.2.2.2.2.1 (by assumption) | exact absurd h.2.2.2.2.2.1 (by assumption) | exact absurd h.2.2.2.2.2.2.1 (by assumption) | exact absurd h.2.2.2.2.2.2.2 (by assumption))).symm, hS⟩
    · replace hA := hA.rw 15 (v' := .bool false) rfl (vb_eq_f hc6)
      replace hA := hA.rw 16 (v' := .bool false) rfl (vb_eq_f hc6)
      replace hA := hA.rw 17 (v' := .bool false) rfl (vb_eq_f hc6)
      refine st_run tbOk 26 hA (e' := (43, undef) :: (42, undef) :: (41, undef) :: (40, undef) :: (39, undef) :: (38, .bool false) :: (37, .bool false) :: (36, undef) :: (35, undef) :: (34, undef) :: (33, undef) :: (32, undef) :: (31, .bool false) :: (30, .bool false) :: (29, undef) :: (28, undef) :: (27, undef) :: (26, undef) :: (25, undef) :: (24, .bool false) :: (23, .bool false) :: (22, undef) :: (21, undef) :: (20, undef) :: (19, undef) :: (18, undef) :: _) rfl ?_; clear hA; intro a hA
      refine st_run tbOk 16 hA (e' := (59, undef) :: (58, undef) :: (57, undef) :: (56, undef) :: (55, undef) :: (54, undef) :: (53, undef) :: (52, .bool false) :: (51, .bool false) :: (50, undef) :: (49, undef) :: (48, undef) :: (47, undef) :: (46, undef) :: (45, .bool false) :: (44, .bool false) :: _) rfl ?_; clear hA; intro a hA
      refine st_run tbOk 2 hA (e' := (4, .bool false) :: (60, .bool false) :: _) rfl ?_; clear hA; intro a hA
      refine wpList_nil ?_
      replace hA := hA.sel [4] (e' := [(4, .bool false)]) rfl
      refine xt_norm ?_
      refine wp_ret ?_
      refine ret1 (fn := Tryd.f14) hA rfl rfl ?_
      replace hS := hS.drop1
      replace hS := hS.drop1
      exact ⟨congrArg Value.bool (decide_eq_false (fun h => by first | exact absurd h.1 (by assumption) | exact absurd h.2.1 (by assumption) | exact absurd h.2.2.1 (by assumption) | exact absurd h.2.2.2.1 (by assumption) | exact absurd h.2.2.2.2.1 (by assumption) | exact absurd h.2.2.2.2.2.1 (by assumption) | exact absurd h.2.2.2.2.2.2.1 (by assumption) | exact absurd h.2.2.2.2.2.2.2 (by assumption))).symm, hS⟩
  · replace hA := hA.rw 9 (v' := .bool false) rfl (vb_eq_f hc5)
    replace hA := hA.rw 10 (v' := .bool false) rfl (vb_eq_f hc5)
    refine st_run tbOk 33 hA (e' := (43, undef) :: (42, undef) :: (41, undef) :: (40, undef) :: (39, undef) :: (38, .bool false) :: (37, .bool false) :: (36, undef) :: (35, undef) :: (34, undef) :: (33, undef) :: (32, undef) :: (31, .bool false) :: (30, .bool false) :: (29, undef) :: (28, undef) :: (27, undef) :: (26, undef) :: (25, undef) :: (24, .bool false) :: (23, .bool false) :: (22, undef) :: (21, undef) :: (20, undef) :: (19, undef) :: (18, undef) :: (17, .bool false) :: (16, .bool false) :: (15, undef) :: (14, undef) :: (13, undef) :: (12, undef) :: (11, undef) :: _) rfl ?_; clear hA; intro a hA
    refine st_run tbOk 16 hA (e' := (59, undef) :: (58, undef) :: (57, undef) :: (56, undef) :: (55, undef) :: (54, undef) :: (53, undef) :: (52, .bool false) :: (51, .bool false) :: (50, undef) :: (49, undef) :: (48, undef) :: (47, undef) :: (46, undef) :: (45, .bool false) :: (44, .bool false) :: _) rfl ?_; clear hA; intro a hA
    refine st_run tbOk 2 hA (e' := (4, .bool false) :: (60, .bool false) :: _) rfl ?_; clear hA; intro a hA
    refine wpList_nil ?_
    replace hA := hA.sel [4] (e' := [(4, .bool false)]) rfl
    refine xt_norm ?_
    refine wp_ret ?_
    refine ret1 (fn := Tryd.f14) hA rfl rfl ?_
    replace hS := hS.drop1
    replace hS := hS.drop1
    exact ⟨congrArg Value.bool (decide_eq_false (fun h => by first | exact absurd h.1 (by assumption) | exact absurd h.2.1 (by assumption) | exact absurd h.2.2.1 (by assumption) | exact absurd h.2.2.2.1 (by assumption) | exact absurd h.2.2.2.2.1 (by assumption) | exact absurd h.2.2.2.2.2.1 (by assumption) | exact absurd h.2.2.2.2.2.2.1 (by assumption) | exact absurd h.2.2.2.2.2.2.2 (by assumption))).symm, hS⟩
theorem isc15 {w : World} {b : Nat} {xf0 xf1 xf2 xf3 xf4 xf5 xf6 xf7 xf8 xf9 xf10 : Int} {xA11 : Option Addr} {xc11 : Nat} {xb11 : List UInt8} (hr : RdS w [] 12 (.slice (some ⟨b, 0, none⟩) 1 1) 1 (rows encAct [(xf0, xf1, xf2, xf3, xf4, xf5, xf6, xf7, xf8, xf9, xf10, xA11, xc11, xb11)])) (m : Msg) :
    Ret Tryd.prog 15 #[.agg #[.int .u64 m.1, .int .u64 m.2.1, .int .u32 m.2.2.1, .int .u16 m.2.2.2.1, .int .u16 m.2.2.2.2.1, .int .u64 m.2.2.2.2.2.1, .int .u32 m.2.2.2.2.2.2.1, .int .u8 m.2.2.2.2.2.2.2.1, .int .u64 m.2.2.2.2.2.2.2.2.1, .int .u64 m.2.2.2.2.2.2.2.2.2.1, .slice m.2.2.2.2.2.2.2.2.2.2.1 m.2.2.2.2.2.2.2.2.2.2.2.2.length m.2.2.2.2.2.2.2.2.2.2.2.1], .pointer (some ⟨b, 0, none⟩)] w (fun v w' => v = .bool (isA xf3 m) ∧ St w w' []) := by
  have hS : St w w [] := St.refl w
  refine enter (vs := [.agg #[.int .u64 m.1, .int .u64 m.2.1, .int .u32 m.2.2.1, .int .u16 m.2.2.2.1, .int .u16 m.2.2.2.2.1, .int .u64 m.2.2.2.2.2.1, .int .u32 m.2.2.2.2.2.2.1, .int .u8 m.2.2.2.2.2.2.2.1, .int .u64 m.2.2.2.2.2.2.2.2.1, .int .u64 m.2.2.2.2.2.2.2.2.2.1, .slice m.2.2.2.2.2.2.2.2.2.2.1 m.2.2.2.2.2.2.2.2.2.2.2.2.length m.2.2.2.2.2.2.2.2.2.2.2.1], .pointer (some ⟨b, 0, none⟩)]) 12 Tryd.func15 rfl rfl (by simp) ?_; intro a hA
  refine wp_seq ?_
  refine wp_region_lit ?_
  refine st_box hA hS [.int .u64 m.1, .int .u64 m.2.1, .int .u32 m.2.2.1, .int .u16 m.2.2.2.1, .int .u16 m.2.2.2.2.1, .int .u64 m.2.2.2.2.2.1, .int .u32 m.2.2.2.2.2.2.1, .int .u8 m.2.2.2.2.2.2.2.1, .int .u64 m.2.2.2.2.2.2.2.2.1, .int .u64 m.2.2.2.2.2.2.2.2.2.1, .slice m.2.2.2.2.2.2.2.2.2.2.1 m.2.2.2.2.2.2.2.2.2.2.2.2.length m.2.2.2.2.2.2.2.2.2.2.2.1] rfl rfl rfl rfl rfl (by decide) ?_; clear hA hS; intro b1 w2 a hS hA
  refine st_run tbOk 1 hA (e' := (3, .bool false) :: _) rfl ?_; clear hA; intro a hA
  refine wpList_nil ?_
  replace hA := hA.sel [1, 2] (e' := [(1, .pointer (some ⟨b, 0, none⟩)), (2, .pointer (some ⟨b1, 0, none⟩))]) rfl
  refine xt_norm ?_
  refine wp_seq ?_
  refine wp_region_lit ?_
  refine st_run tbOk 1 hA (e' := (4, .pointer (some ⟨b1, 2, none⟩)) :: _) rfl ?_; clear hA; intro a hA
  refine st_val hA rfl rfl (by decide) (rn_load tbOk hA rfl rfl rfl rfl (cell_row (hS.heapAt 0 rfl) rfl)) ?_; clear hA; intro a hA
  refine st_run tbOk 1 hA (e' := (6, .int .u32 (m.2.2.1.tmod 3)) :: _) rfl ?_; clear hA; intro a hA
  refine st_run tbOk 2 hA (e' := (8, .pointer (some ⟨b, 3, none⟩)) :: (7, .pointer (some ⟨b, 1, none⟩)) :: _) rfl ?_; clear hA; intro a hA
  refine st_val hA rfl rfl (by decide) (rn_load tbOk hA rfl rfl rfl rfl ((hr _ (hS.tail 1 rfl)).elemf (k := 0) encAct_ok (by rfl) (j := 3) rfl)) ?_; clear hA; intro a hA
  refine st_run tbOk 1 hA (e' := (10, .int .u32 (xf3.tmod 3)) :: _) rfl ?_; clear hA; intro a hA
  refine st_run tbOk 2 hA (e' := (3, .bool ((m.2.2.1.tmod 3) == (xf3.tmod 3))) :: (11, .bool ((m.2.2.1.tmod 3) == (xf3.tmod 3))) :: _) rfl ?_; clear hA; intro a hA
  refine wpList_nil ?_
  replace hA := hA.sel [3] (e' := [(3, .bool ((m.2.2.1.tmod 3) == (xf3.tmod 3)))]) rfl
  refine xt_norm ?_
  refine wp_ret ?_
  refine ret1 (fn := Tryd.f15) hA rfl rfl ?_
  replace hS := hS.drop1
  exact ⟨rfl, hS⟩
end Go.Proofs.YtjmnajcjbimbiaaDoor
