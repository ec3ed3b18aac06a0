import Derived.Test.YtbfdppfddlilgaaSK13
import Derived.Lib.Overlaps
import Derived.Laws.Externs
set_option linter.unusedVariables false
set_option linter.unusedSimpArgs false
/-! ### 15. copy, append of zeros, slices.overlaps. Own work. -/
namespace Go.SK
open Go
section
variable {P : Program} {tb : List TI} {ops : Array Oper} {Q : Exit → Act → World → Prop} {a : Act} {w0 w : World} {n : Nat} {e : Env} {L : List Chunk} {o : Oper} {rest : List Oper} {d : Nat}

/-- The spare places behind a row of the call's own. -/
theorem Own.more {T size m c : Nat} {A : Option Addr} {xs : List Value} {C : Chunk} (h : Own T size (.slice A m c) m xs C) (q : Nat) (hq : m + q ≤ c) :
    ∃ ys : List Value, ys.length = q * size ∧ Own T size (.slice A (m + q) c) (m + q) (xs ++ ys) C := by
  obtain ⟨hl, ⟨hv, h0, hC⟩ | ⟨g, pre, sp, post, c', hv, hmc, hmx, hsp, rfl⟩⟩ := h
  · injection hv with h1 h2 h3
    subst h1; subst h2; subst h3; subst hC
    obtain rfl : q = 0 := by omega
    exact ⟨[], by simp, by simpa using hl, .inl ⟨rfl, rfl, rfl⟩⟩
  · injection hv with h1 h2 h3
    subst h1; subst h3
    have hqs : q * size ≤ (c - m) * size := Nat.mul_le_mul_right _ (by omega)
    refine ⟨sp.take (q * size), by rw [List.length_take]; omega, by rw [List.length_append, hl, List.length_take, Nat.add_mul]; omega, .inr ⟨g, pre, sp.drop (q * size), post, c, rfl, hq, hmx, ?_, ?_⟩⟩
    · rw [List.length_drop, hsp, ← Nat.sub_mul]; congr 1; omega
    · congr 3
      rw [List.append_assoc, ← List.append_assoc (sp.take _), List.take_append_drop]

theorem run_copy_own (hT : TabOk P tb) {T T2 E size m c lo q kk : Nat} {i j : TI} {A : Option Addr} {x : Value} {xs srcs : List Value} {C : Chunk} (hi : lkT tb T = some i) (hE : i.desc = .slice E) (hj : lkT tb E = some j)
    (hsize : j.size = size) (hO : Own E size (.slice A m c) m xs C) (hS : St w0 w (C :: L)) (hx : Rd w size x q srcs) (h1 : ∀ u ∈ srcs.take (kk * size), u.oneCell' = true) (hlo : lo ≤ m) (hk : kk = min q (m - lo)) (ty : TypeId) :
    ∃ w' C', (Builtin.copy_ #[T, T2] ty #[slv A lo m c size, x]).run P w = .ok (.int .i64 ((kk : Nat) : Int)) w' ∧ Own E size (.slice A m c) m (xs.take (lo * size) ++ (srcs.take (kk * size) ++ xs.drop (lo * size + kk * size))) C' ∧ St w0 w' (C' :: L) := by
  obtain ⟨ht, hok⟩ := hT.at_ hi
  obtain ⟨htj, hokj⟩ := hT.at_ hj
  have hu : P.underlying T = some (.slice E) := by have := hok.1; rwa [ht, hE] at this
  obtain ⟨_, inf, hinf, hs1, hb1, hz1⟩ := hokj
  rw [htj] at hinf
  have hss : inf.size = size := hs1.trans hsize
  have hcapO := hO.cap
  have hxv : ∃ A' c', x = .slice A' q c' := by
    obtain ⟨_, ⟨hv, h0⟩ | ⟨b, off, c', hv, _⟩⟩ := hx
    · subst h0; exact ⟨_, _, hv⟩
    · exact ⟨_, _, hv⟩
  obtain ⟨A', c', rfl⟩ := hxv
  have hmin : Nat.min q (m - lo) = kk := hk.symm
  by_cases h0 : kk = 0
  · subst h0
    refine ⟨w, C, ?_, ?_, hS⟩
    · have hfc : (Builtin.firstCells inf.size 0 (.slice A' q c')).run P w = .ok #[] w := by
        cases A' <;> simp [Builtin.firstCells, loadCells, loadCellsFrom]
      unfold slv
      cases (if c = lo then A else A.map (·.add (lo * size))) <;> simp [Builtin.copy_, run_underlying hu, sizeOf, typeInfo, hinf, Builtin.lenOf, hmin, hfc, storeCells, goInt]
    · simpa using hO
  · obtain ⟨hxl, hxx⟩ := hx
    obtain ⟨b, off, c2, hsv, hqc, hcm, hxr⟩ : ∃ b off c, (.slice A' q c' : Value) = .slice (some ⟨b, off, none⟩) q c ∧ q ≤ c ∧ c ≤ maxLen ∧ ∀ j u, srcs[j]? = some u → w.cell? ⟨b, off + j, none⟩ = some u := by
      rcases hxx with ⟨_, h⟩ | h
      · omega
      · exact h
    injection hsv with hs1' hs2' hs3'
    subst hs1'; subst hs3'
    have hkq : kk * size ≤ q * size := Nat.mul_le_mul_right _ (by omega)
    have hkm : lo * size + kk * size ≤ m * size := by rw [← Nat.add_mul]; exact Nat.mul_le_mul_right _ (by omega)
    have hfc := run_firstCells_some (P := P) w inf.size kk ⟨b, off, none⟩ q c' (srcs.take (kk * size)) (by rw [List.length_take, hss]; omega) (fun j u hu => by
      rw [Addr.add_lit]
      have hlt := (List.getElem?_eq_some_iff.1 hu).1
      rw [List.length_take] at hlt
      rw [List.getElem?_take_of_lt (by omega)] at hu
      exact hxr j u hu)
    obtain ⟨hol, ⟨hv, hm0, _⟩ | ⟨g, pre, sp, post, c3, hv, hmc, hcm', hsp, rfl⟩⟩ := hO
    · omega
    · injection hv with hv1 hv2 hv3
      subst hv1; subst hv3
      have hg := hS.heapAt 0 rfl
      have hnl : ¬ c = lo := by omega
      have hl2 : (srcs.take (kk * size)).length = kk * size := by rw [List.length_take]; omega
      have hst := run_storeCells_at P g (pre.length + lo * size) E (srcs.take (kk * size)) 0 (pre ++ (xs ++ (sp ++ post))).toArray w hg (by rw [hl2]; simp; omega) h1
      simp only [Nat.add_zero] at hst
      refine ⟨_, [(g, rowO (pre ++ ((xs.take (lo * size) ++ (srcs.take (kk * size) ++ xs.drop (lo * size + kk * size))) ++ (sp ++ post))) E)], ?_, ⟨?_, .inr ⟨g, pre, sp, post, c, rfl, hmc, hcm', hsp, rfl⟩⟩, hS.upd (upd_setRow hg)⟩
      · rw [hss] at hfc
        have e1 : (pre ++ (xs ++ (sp ++ post))).take (pre.length + lo * size) = pre ++ xs.take (lo * size) := by
          rw [List.take_append, List.take_of_length_le (by omega), Nat.add_sub_cancel_left, List.take_append_of_le_length (by omega)]
        have e2 : (pre ++ (xs ++ (sp ++ post))).drop (pre.length + lo * size + (srcs.take (kk * size)).length) = xs.drop (lo * size + kk * size) ++ (sp ++ post) := by
          rw [hl2, Nat.add_assoc, List.drop_append, List.drop_eq_nil_of_le (by omega), List.nil_append, Nat.add_sub_cancel_left, List.drop_append_of_le_length (by omega)]
        simp only [List.append_assoc, e1, e2] at hst
        simp only [List.append_assoc]
        unfold slv
        rw [if_neg hnl]
        simp [Builtin.copy_, run_underlying hu, sizeOf, typeInfo, hinf, Builtin.lenOf, hmin, hss, hfc, Addr.add_lit, hst, goInt]
      · rw [List.length_append, List.length_append, hl2, List.length_take, List.length_drop, hol]; omega

theorem st_copy_own (hT : TabOk P tb) (hA : Has a n e) {T T2 E size m c lo q : Nat} {i j : TI} {s y : Operand} {A : Option Addr} {x : Value} {xs srcs : List Value} {C : Chunk} (kk : Nat)
    (ho : o.op = .call { callee := .builtin .copy, args := #[s, y], argTypes := #[T, T2] }) (hs : ev e s = some (slv A lo m c size)) (hy : ev e y = some x)
    (hi : lkT tb T = some i) (hE : i.desc = .slice E) (hj : lkT tb E = some j) (hsize : j.size = size)
    (hO : Own E size (.slice A m c) m xs C) (hS : St w0 w (C :: L)) (hx : Rd w size x q srcs) (h1 : ∀ u ∈ srcs.take (kk * size), u.oneCell' = true) (hlo : lo ≤ m) (hk : kk = min q (m - lo))
    (hw : wantE ops e o.guard = some true) (hd : o.dst = some d) (hdn : d < n)
    (k : ∀ w' C' a', Own E size (.slice A m c) m (xs.take (lo * size) ++ (srcs.take (kk * size) ++ xs.drop (lo * size + kk * size))) C' → St w0 w' (C' :: L) → Has a' n ((d, .int .i64 ((kk : Nat) : Int)) :: e) → wpList P ops Q rest a' w') : wpList P ops Q (o :: rest) a w := by
  obtain ⟨w', C', hr, h2, h3⟩ := run_copy_own (T2 := T2) hT hi hE hj hsize hO hS hx h1 hlo hk o.type
  refine st_val hA hw hd hdn (v := .int .i64 ((kk : Nat) : Int)) (w' := w') ?_ (fun a' h => k w' C' a' h2 h3 h)
  unfold execOp
  rw [ho]
  simp [resolve, invoke, builtin, hA.ev hs, hA.ev hy, hr]

/-- append(s, make([]E, q)...) where there is no room: a new row; the old one stays. -/
theorem st_append_zeros (hT : TabOk P tb) (hA : Has a n e) {T Tn E size m c q : Nat} {i j i2 : TI} {s y : Operand} {A : Option Addr} {xs : List Value} {C : Chunk}
    (ho : o.op = .call { callee := .builtin .append, args := #[s, y], argTypes := #[T, Tn] }) (hs : ev e s = some (.slice A m c)) (hy : ev e y = some (.int .i64 ((q : Nat) : Int)))
    (hi : lkT tb T = some i) (hE : i.desc = .slice E) (hj : lkT tb E = some j) (hsize : j.size = size) (hzs : j.zero.cells.size = size) (hsz : 0 < size) (hi2 : lkT tb Tn = some i2) (hd2 : i2.desc = .int .i64)
    (hO : Own E size (.slice A m c) m xs C) (hS : St w0 w (C :: L)) (hgrow : c < m + q) (hb : (m + q) * j.bytes ≤ 140737488355328) (h63 : m + q ≤ 9223372036854775807)
    (hw : wantE ops e o.guard = some true) (hd : o.dst = some d) (hdn : d < n)
    (k : ∀ A' c' w' C' a' zs, zs.length = q * size → Own E size (.slice A' (m + q) c') (m + q) (xs ++ zs) C' → St w0 w' (C' :: C :: L) → Has a' n ((d, .slice A' (m + q) c') :: e) → wpList P ops Q rest a' w') : wpList P ops Q (o :: rest) a w := by
  obtain ⟨ht, hok⟩ := hT.at_ hi
  obtain ⟨htj, hokj⟩ := hT.at_ hj
  obtain ⟨ht2, hok2⟩ := hT.at_ hi2
  have hu : P.underlying T = some (.slice E) := by have := hok.1; rwa [ht, hE] at this
  have hu2 : P.underlying Tn = some (.int .i64) := by have := hok2.1; rwa [ht2, hd2] at this
  obtain ⟨_, inf, hinf, hs1, hb1, hz1⟩ := hokj
  rw [htj] at hinf
  have hss : inf.size = size := hs1.trans hsize
  have hcap := hO.cap
  have hol := hO.1
  have hn : ¬ (m + q ≤ c) := by omega
  have hwq : IntKind.i64.wrap ((q : Nat) : Int) = ((q : Nat) : Int) := by rw [IntKind.wrap_i64]; omega
  have hneg : ¬ (((q : Nat) : Int) < 0) := by omega
  have hfit := growslice_fits (need := m + q) (old := c) (bytes := inf.bytes) (by omega) (by rw [hb1]; exact hb)
  have h48' : ¬ (281474976710656 < Builtin.nextslicecap (m + q) c * inf.bytes) := by omega
  have hqb : q * inf.bytes ≤ (m + q) * inf.bytes := Nat.mul_le_mul_right _ (by omega)
  have h48i : ¬ (281474976710656 < ((q : Nat) : Int) * (inf.bytes : Int)) := by rw [← Int.natCast_mul]; rw [hb1] at hqb ⊢; omega
  have h63' : ¬ (9223372036854775807 < ((m : Int) + (q : Int))) := by omega
  have hq0 : ¬ (q = 0) := by omega
  have hns : ¬ (q * inf.size = 0) := Nat.mul_ne_zero hq0 (by omega)
  have hfo : (Builtin.firstCells inf.size m (.slice A m c)).run P w.drew = .ok xs.toArray w.drew := by
    obtain ⟨_, ⟨hv, hm, _⟩ | ⟨g, pre, sp, post, c', hv, hmc, _, _, rfl⟩⟩ := hO
    · injection hv with h1 h2 h3
      subst h1; subst h2; subst h3
      have : xs = [] := List.eq_nil_of_length_eq_zero (by simpa using hol)
      subst this
      simp [Builtin.firstCells]
    · injection hv with h1 h2 h3
      subst h1
      have hg := hS.drew.heapAt 0 rfl
      exact run_firstCells_some (P := P) w.drew inf.size m ⟨g, pre.length, none⟩ m c xs (by rw [hss]; exact hol) (fun j u hu => by
        rw [Addr.add_lit]
        refine cell_row hg ?_
        have hj := (List.getElem?_eq_some_iff.1 hu).1
        rw [List.getElem?_append_right (by omega), Nat.add_sub_cancel_left, List.getElem?_append_left hj]
        exact hu)
  have hr : (Builtin.append_ #[T, Tn] o.type #[.slice A m c, .int .i64 ((q : Nat) : Int)]).run P w = .ok (.slice (some ⟨w.heap.size, 0, none⟩) (m + q) (grownCap w (m + q) c E))
      (w.drew.alloc (.cells (xs.toArray ++ Builtin.zeroCells j.zero.cells q ++ Builtin.zeroCells j.zero.cells (grownCap w (m + q) c E - (m + q))) E)) := by
    simp [Builtin.append_, run_underlying hu, run_underlying hu2, sizeOf, typeInfo, zeroValue, hinf, hz1, asInt, asIntOf, hwq, hneg, h48i, hn, h63', h48', hns, hq0, Question.forced, hfo, newRow, grownCap]
    first | done | (congr 2; apply Array.ext'; simp)
  refine st_val hA hw hd hdn (v := .slice (some ⟨w.heap.size, 0, none⟩) (m + q) (grownCap w (m + q) c E)) (w' := w.drew.alloc (.cells (xs.toArray ++ Builtin.zeroCells j.zero.cells q ++ Builtin.zeroCells j.zero.cells (grownCap w (m + q) c E - (m + q))) E)) ?_ (fun a' h => k _ _ _ [(w.heap.size, rowO ((xs ++ (Builtin.zeroCells j.zero.cells q).toList) ++ (Builtin.zeroCells j.zero.cells (grownCap w (m + q) c E - (m + q))).toList) E)] a' (Builtin.zeroCells j.zero.cells q).toList ?_ ?_ ?_ h)
  · unfold execOp
    rw [ho]
    simp [resolve, invoke, builtin, hA.ev hs, hA.ev hy, hr]
  · rw [size_zeroCells', hzs]
  · refine Own.row ?_ (grownCap_ge _ _ _ _) (grownCap_le_maxLen _ _ _ _ h63) ?_
    · rw [List.length_append, size_zeroCells', hzs, hol, Nat.add_mul]
    · rw [size_zeroCells', hzs]
  · have := hS.drew.alloc (.cells (xs.toArray ++ Builtin.zeroCells j.zero.cells q ++ Builtin.zeroCells j.zero.cells (grownCap w (m + q) c E - (m + q))) E)
    have e1 : (.cells (xs.toArray ++ Builtin.zeroCells j.zero.cells q ++ Builtin.zeroCells j.zero.cells (grownCap w (m + q) c E - (m + q))) E : Obj) = rowO ((xs ++ (Builtin.zeroCells j.zero.cells q).toList) ++ (Builtin.zeroCells j.zero.cells (grownCap w (m + q) c E - (m + q))).toList) E := by
      unfold rowO
      congr 1
      apply Array.ext'
      simp
    rw [e1] at this ⊢
    exact this

/-- A call of a function without a body, whose run is known. -/
theorem st_ext {c : Call} {f : FuncId} {vs : List Value} {v : Value} (hA : Has a n e) (ho : o.op = .call c) (hfv : c.callee = .value (.func f)) (hvs : evs e c.args.toList = some vs)
    (hr : (callFunc f vs.toArray).run P w = .ok (.value v) w) (hw : wantE ops e o.guard = some true) (hd : o.dst = some d) (hdn : d < n)
    (k : ∀ a', Has a' n ((d, v) :: e) → wpList P ops Q rest a' w) : wpList P ops Q (o :: rest) a w := by
  refine st_val hA hw hd hdn (v := v) (w' := w) ?_ k
  have h1 := hA.evs hvs
  have h2 : c.args.map a.eval = vs.toArray := by rw [← h1]; apply Array.ext'; simp
  unfold execOp
  rw [ho]
  simp only [resolve, hfv, Act.eval, Deferred.ofValue, h2, Sem.run_bind, Sem.run_pure, Result.andThen_ok, invoke, mkArr]
  exact hr

/-- slices.overlaps of a row of one block and a part of another row: no. -/
theorem run_overlaps_own (hT : TabOk P tb) {f : FuncId} {fn : Func} {tS tR E size m c bx : Nat} {i j : TI} {A : Option Addr} {xs cells : List Value} {C : Chunk} (hf : P.funcs[f]? = some fn) (hname : (fn.name == "runtime.NumGoroutine") = false)
    (hb : fn.body.isNone = true) (hn : Extern.findNext fn = none) (he : Extern.find fn = some (Extern.SlicesOverlaps.overlaps #[tS, tS] #[tR])) (hi : lkT tb tS = some i) (hE : i.desc = .slice E) (hj : lkT tb E = some j)
    (hS : St w0 w (C :: [(bx, rowO cells E)] :: L)) (hO : Own E size (.slice A m c) m xs C) (hm : 0 < m) (hms : 0 < m * size) (hc0 : 0 < cells.length) (la lb cb off : Nat) (A' : Option Addr) (hA' : ∀ b o s, A = some ⟨b, o, s⟩ → ∃ o', A' = some ⟨b, o', none⟩) :
    (callFunc f #[.slice (some ⟨bx, 0, none⟩) la lb, .slice A' off cb]).run P w = .ok (.value (.bool false)) w := by
  obtain ⟨ht, hok⟩ := hT.at_ hi
  obtain ⟨htj, hokj⟩ := hT.at_ hj
  have hu : P.underlying tS = some (.slice E) := by have := hok.1; rwa [ht, hE] at this
  have hz : ∀ w, (Go.sizeOf E).run P w = .ok j.size w := fun w => by have := hokj.sizeOf w; rwa [htj] at this
  obtain ⟨hol, ⟨hv, hm0, _⟩ | ⟨g, pre, sp, post, c', hv, hmc, hcm, hsp, rfl⟩⟩ := hO
  · omega
  · injection hv with h1 h2 h3
    obtain ⟨o', rfl⟩ := hA' _ _ _ h1
    have hg := hS.heapAt 0 rfl
    have hbx := hS.heapAt 1 rfl
    have hne : bx ≠ g := by
      have := hS.nd
      simp at this
      intro h; exact this.1.1 h.symm
    rw [run_callFunc_extern hf hname hb hn he, Lib.run_overlaps_apart w tS tR E hu j.size hz ⟨bx, 0, none⟩ ⟨g, o', none⟩ la lb off cb hne E E cells.length (pre ++ (xs ++ (sp ++ post))).length
      (by simp [World.shape?, hbx, rowO]) (by simp [World.shape?, hg, rowO]) (by rw [List.length_append, List.length_append]; omega) (by simp [World.frozen?, hbx, rowO]) (by simp [World.frozen?, hbx, rowO])]
    rfl
end
end Go.SK
