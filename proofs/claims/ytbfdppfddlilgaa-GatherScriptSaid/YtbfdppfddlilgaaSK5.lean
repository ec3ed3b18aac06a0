import Derived.Test.YtbfdppfddlilgaaSK4b
set_option linter.unusedVariables false
set_option linter.unusedSimpArgs false
namespace Go.SK
open Go

/-! ### 10. Steps that touch memory -/
section
variable {P : Program} {tb : List TI} {ops : Array Oper} {Q : Exit → Act → World → Prop} {a : Act} {w0 w : World} {n : Nat} {e : Env} {L : List Chunk} {o : Oper} {rest : List Oper} {d : Nat}

theorem st_alloc (hT : TabOk P tb) (hA : Has a n e) (hS : St w0 w L) {T : Nat} {i : TI} (l : List Value) (ho : o.op = .alloc T) (hi : lkT tb T = some i) (hz : i.zero.cells = l.toArray)
    (hw : wantE ops e o.guard = some true) (hd : o.dst = some d) (hdn : d < n)
    (k : ∀ b w' a', St w0 w' ([(b, rowO l T)] :: L) → Has a' n ((d, .pointer (some ⟨b, 0, none⟩)) :: e) → wpList P ops Q rest a' w') : wpList P ops Q (o :: rest) a w := by
  obtain ⟨ht, hok⟩ := hT.at_ hi
  have h1 := hok.zeroValue w
  rw [ht] at h1
  refine st_val hA hw hd hdn (v := .pointer (some ⟨w.heap.size, 0, none⟩)) (w' := w.alloc (rowO l T)) ?_ (fun a' h => k _ _ a' (hS.alloc _) h)
  unfold execOp
  rw [ho]
  simp [Instr.alloc, h1, newVar, newRow, hz, rowO]

theorem st_box (hA : Has a n e) (hS : St w0 w L) {T : Nat} {x : Operand} {v : Value} (l : List Value) (ho : o.op = .box T x) (hx : ev e x = some v) (hz : v.cells = l.toArray)
    (hw : wantE ops e o.guard = some true) (hd : o.dst = some d) (hdn : d < n)
    (k : ∀ b w' a', St w0 w' ([(b, rowO l T)] :: L) → Has a' n ((d, .pointer (some ⟨b, 0, none⟩)) :: e) → wpList P ops Q rest a' w') : wpList P ops Q (o :: rest) a w := by
  refine st_val hA hw hd hdn (v := .pointer (some ⟨w.heap.size, 0, none⟩)) (w' := w.alloc (rowO l T)) ?_ (fun a' h => k _ _ a' (hS.alloc _) h)
  unfold execOp
  rw [ho]
  simp [Instr.box, newVar, newRow, hA.ev hx, hz, rowO]

/-- A composite literal of a slice type. -/
theorem st_buildSlice (hT : TabOk P tb) (hA : Has a n e) (hS : St w0 w L) {T E : Nat} {i j : TI} {m : Nat} {parts : Array (Nat × Operand)} {vs : List (Nat × Value)} (l : List Value)
    (ho : o.op = .buildSlice T m parts) (hi : lkT tb T = some i) (hE : i.desc = .slice E) (hj : lkT tb E = some j) (hvs : evps e parts.toList = some vs)
    (hsz : m * j.size ≤ 16777216)
    (hf : Instr.fill (fun i => some (i * j.size, j.size)) ((Array.range (m * j.size)).map ((if m * j.size = 0 then #[] else j.zero.cells)[· % (if m * j.size = 0 then #[] else j.zero.cells).size]!)) vs = some l.toArray)
    (hw : wantE ops e o.guard = some true) (hd : o.dst = some d) (hdn : d < n)
    (k : ∀ b w' a', St w0 w' ([(b, rowO l E)] :: L) → Has a' n ((d, .slice (some ⟨b, 0, none⟩) m m) :: e) → wpList P ops Q rest a' w') : wpList P ops Q (o :: rest) a w := by
  obtain ⟨ht, hok⟩ := hT.at_ hi
  obtain ⟨htj, hokj⟩ := hT.at_ hj
  have h1 := hok.und w
  rw [ht, hE] at h1
  have h2 := hokj.sizeOf w
  rw [htj] at h2
  have h3 := hokj.zeroValue w
  rw [htj] at h3
  have hp := evps_spec hA hvs
  have h4 : (parts.map fun x => (x.1, a.eval x.2)).toList = vs := by rw [← hp]; simp
  refine st_val hA hw hd hdn (v := .slice (some ⟨w.heap.size, 0, none⟩) m m) (w' := w.alloc (rowO l E)) ?_ (fun a' h => k _ _ a' (hS.alloc _) h)
  unfold execOp
  rw [ho]
  simp only [Instr.buildSlice, Sem.run_bind, h1, Result.andThen_ok, h2]
  rw [if_neg (by omega)]
  simp only [h4]
  by_cases h0 : m * j.size = 0
  · simp only [h0, if_true] at hf
    simp only [h0, if_true, Sem.run_bind, Sem.run_pure, Result.andThen_ok, hf]
    simp [newRow, rowO]
  · simp only [h0, if_false] at hf
    simp only [h0, if_false, Sem.run_bind, Sem.run_pure, Result.andThen_ok, h3, hf]
    simp [newRow, rowO]

/-- A store into a block of the call's own: the front chunk. -/
theorem st_store (hT : TabOk P tb) (hA : Has a n e) {b off : Nat} {l : List Value} {T' : Nat} (hS : St w0 w ([(b, rowO l T')] :: L)) {T : Nat} {i : TI} {x y : Operand} {v : Value} (cs l' : List Value)
    (ho : o.op = .store T x y) (hx : ev e x = some (.pointer (some ⟨b, off, none⟩))) (hy : ev e y = some v) (hi : lkT tb T = some i)
    (hcs : v.cells = cs.toArray) (hl : cs.length = i.size) (h1 : ∀ u ∈ cs, u.oneCell' = true) (hfit : off + cs.length ≤ l.length) (hl' : l.take off ++ cs ++ l.drop (off + cs.length) = l')
    (hw : wantE ops e o.guard = some true) (hd : o.dst = none)
    (k : ∀ w', St w0 w' ([(b, rowO l' T')] :: L) → wpList P ops Q rest a w') : wpList P ops Q (o :: rest) a w := by
  subst hl'
  obtain ⟨ht, hok⟩ := hT.at_ hi
  have h2 := hok.sizeOf w
  rw [ht] at h2
  have hb := hS.heapAt 0 rfl
  have h3 := run_storeCells_at P b off T' cs 0 l.toArray w hb (by simpa using hfit) h1
  simp only [Nat.add_zero] at h3
  refine st_skip hA hw hd (w' := w.setRow b (l.take off ++ cs ++ l.drop (off + cs.length)).toArray) ?_ (k _ (hS.upd (upd_setRow hb)))
  unfold execOp
  rw [ho]
  have h4 : v.cells.size = i.size := by rw [hcs]; simpa using hl
  simp only [List.append_assoc] at h3
  simp [Instr.storeAt, hA.ev hx, hA.ev hy, Instr.sureAddr, storeVar, h2, hcs, hl, h3]



/-- append(s, x...), s a row of the call's own at the front, x read somewhere (in s, too). -/
theorem run_append (hT : TabOk P tb) {T E size m q : Nat} {i j : TI} {v x : Value} {xs news : List Value} {C : Chunk} (hi : lkT tb T = some i) (hE : i.desc = .slice E) (hj : lkT tb E = some j)
    (hsize : j.size = size) (hzs : j.zero.cells.size = size) (hsz : 0 < size) (ho : Own E size v m xs C) (hS : St w0 w (C :: L)) (hx : RdX w size x q news) (h1 : ∀ u ∈ news, u.oneCell' = true)
    (h63 : m + q ≤ maxLen) (hb : (m + q) * j.bytes ≤ 140737488355328) (ty : TypeId) :
    ∃ v' w' C', (Builtin.append_ #[T, T] ty #[v, x]).run P w = .ok v' w' ∧ Own E size v' (m + q) (xs ++ news) C' ∧ St w0 w' (C' :: L) := by
  obtain ⟨ht, hok⟩ := hT.at_ hi
  obtain ⟨htj, hokj⟩ := hT.at_ hj
  have hu : P.underlying T = some (.slice E) := by have := hok.1; rwa [ht, hE] at this
  obtain ⟨_, inf, hinf, hs1, hb1, hz1⟩ := hokj
  rw [htj] at hinf
  have hlen : (xs ++ news).length = (m + q) * size := by rw [List.length_append, ho.1, hx.1, Nat.add_mul]
  obtain ⟨hxl, hxx⟩ := hx
  obtain ⟨hol, hoo⟩ := ho
  have hss : inf.size = size := hs1.trans hsize
  -- nothing is appended
  by_cases hq : q = 0
  · subst hq
    have hnews : news = [] := List.eq_nil_of_length_eq_zero (by simpa using hxl)
    subst hnews
    refine ⟨v, w, C, ?_, ⟨by simpa using hol, by simpa using hoo⟩, hS⟩
    have hxv : ∃ A c, x = .slice A 0 c := by
      rcases hxx with ⟨hv, _⟩ | ⟨b, c, hv, _⟩ <;> exact ⟨_, _, hv⟩
    obtain ⟨A, c, rfl⟩ := hxv
    have hfc : (Builtin.firstCells inf.size 0 (.slice A 0 c)).run P w = .ok #[] w := by
      cases A <;> simp [Builtin.firstCells, loadCells, loadCellsFrom]
    rcases hoo with ⟨rfl, rfl, rfl⟩ | ⟨g, pre, sp, post, c', rfl, hmc, _, _, rfl⟩
    · simp [Builtin.append_, run_underlying hu, sizeOf, typeInfo, hinf, Builtin.lenOf, hfc]
    · simp [Builtin.append_, run_underlying hu, sizeOf, typeInfo, hinf, Builtin.lenOf, hfc, hmc, storeCells]
  · obtain ⟨ad, c, rfl, hqc, hcm, hnews⟩ : ∃ (ad : Addr) (c : Nat), x = .slice (some ad) q c ∧ q ≤ c ∧ c ≤ maxLen ∧ ∀ j u, news[j]? = some u → w.cell? (ad.add j) = some u := by
      rcases hxx with ⟨_, h⟩ | h
      · exact absurd h hq
      · exact h
    have hl' : news.length = q * inf.size := by rw [hss]; exact hxl
    -- a new row
    have grow : ∀ (old : Nat) (olds : List Value), olds.length = m * size → xs = olds →
        ∃ v' w' C', v' = .slice (some ⟨w.heap.size, 0, none⟩) (m + q) (grownCap w (m + q) old E) ∧ w' = w.drew.alloc (.cells (olds.toArray ++ news.toArray ++ Builtin.zeroCells j.zero.cells (grownCap w (m + q) old E - (m + q))) E) ∧ Own E size v' (m + q) (xs ++ news) C' ∧ St w0 w' (C' :: L) := by
      intro old olds holds hxo
      subst hxo
      refine ⟨_, _, [(w.heap.size, rowO (xs ++ news ++ (Builtin.zeroCells j.zero.cells (grownCap w (m + q) old E - (m + q))).toList) E)], rfl, rfl, ?_, ?_⟩
      · refine Own.row hlen (grownCap_ge _ _ _ _) (grownCap_le_maxLen _ _ _ _ h63) ?_
        simp [size_zeroCells, hzs]
      · have := hS.drop1.drew.alloc (.cells (xs.toArray ++ news.toArray ++ Builtin.zeroCells j.zero.cells (grownCap w (m + q) old E - (m + q))) E)
        have e1 : (.cells (xs.toArray ++ news.toArray ++ Builtin.zeroCells j.zero.cells (grownCap w (m + q) old E - (m + q))) E : Obj) = rowO (xs ++ news ++ (Builtin.zeroCells j.zero.cells (grownCap w (m + q) old E - (m + q))).toList) E := by
          unfold rowO
          congr 1
          apply Array.ext'
          simp
        rw [e1] at this ⊢
        exact this
    have hsmall : ((m + q : Nat) : Int) ≤ 9223372036854775807 := by simp only [maxLen] at h63; omega
    rcases hoo with ⟨rfl, rfl, rfl⟩ | ⟨g, pre, sp, post, c', rfl, hmc, hcm', hsp, rfl⟩
    · have hxs : xs = [] := List.eq_nil_of_length_eq_zero (by simpa using hol)
      subst hxs
      have hr := run_append_nil (P := P) w T ty E inf j.zero hu hinf hz1 ad q c news hl' hnews (by omega) (by simpa using hsmall) (by rw [hb1]; simp only [Nat.zero_add] at hb; omega)
      obtain ⟨v', w', C', hv, hw, h3, h4⟩ := grow 0 [] (by simp) rfl
      refine ⟨v', w', C', ?_, h3, h4⟩
      rw [hr, hv, hw]
      simp
    · have hg := hS.heapAt 0 rfl
      by_cases hroom : m + q ≤ c'
      · have hfc := run_firstCells_some (P := P) w inf.size q ad q c news hl' hnews
        have hcm2 : c' * size = m * size + (c' - m) * size := by rw [← Nat.add_mul]; congr 1; omega
        have hqs : q * size ≤ (c' - m) * size := Nat.mul_le_mul_right _ (by omega)
        have hst := run_storeCells_at P g (pre.length + m * size) E news 0 (pre ++ (xs ++ (sp ++ post))).toArray w hg (by simp; omega) h1
        simp only [Nat.add_zero] at hst
        refine ⟨.slice (some ⟨g, pre.length, none⟩) (m + q) c', _, [(g, rowO (pre ++ ((xs ++ news) ++ (sp.drop (q * size) ++ post))) E)], ?_, ⟨hlen, .inr ⟨g, pre, sp.drop (q * size), post, c', rfl, hroom, hcm', ?_, rfl⟩⟩, hS.upd (upd_setRow hg)⟩
        · rw [hss] at hfc
          have e1 : (pre ++ (xs ++ (sp ++ post))).take (pre.length + m * size) = pre ++ xs := by
            rw [← List.append_assoc, ← hol, ← List.length_append]; exact List.take_left
          have e2 : (pre ++ (xs ++ (sp ++ post))).drop (pre.length + m * size + news.length) = sp.drop (q * size) ++ post := by
            rw [← List.append_assoc, ← hol, ← List.length_append, List.drop_append, hxl, List.drop_eq_nil_of_le (by omega), List.nil_append, Nat.add_sub_cancel_left, List.drop_append, Nat.sub_eq_zero_of_le (by omega), List.drop_zero]
          simp only [List.append_assoc, e1, e2] at hst
          simp [Builtin.append_, run_underlying hu, sizeOf, typeInfo, hinf, Builtin.lenOf, hroom, hss, hfc, Addr.add_lit, hst]
        · rw [List.length_drop, hsp, ← Nat.sub_mul]; congr 1; omega
      · have holds : ∀ j u, xs[j]? = some u → w.cell? ((⟨g, pre.length, none⟩ : Addr).add j) = some u := by
          intro j u hu
          rw [Addr.add_lit]
          refine cell_row hg ?_
          have hj := (List.getElem?_eq_some_iff.1 hu).1
          rw [List.getElem?_append_right (by omega), Nat.add_sub_cancel_left, List.getElem?_append_left hj]
          exact hu
        have hr := run_append_grow (P := P) w T ty E inf j.zero hu hinf hz1 ⟨g, pre.length, none⟩ m c' xs (by rw [hss]; exact hol) holds ad q c news hl' hnews (by omega) hsmall (growslice_fits (by omega) (by rw [hb1]; exact hb))
        obtain ⟨v', w', C', hv, hw, h3, h4⟩ := grow c' xs hol rfl
        refine ⟨v', w', C', ?_, h3, h4⟩
        rw [hr, hv, hw]

theorem st_append (hT : TabOk P tb) (hA : Has a n e) {T E size m q : Nat} {i j : TI} {s y : Operand} {v x : Value} {xs news : List Value} {C : Chunk}
    (ho : o.op = .call { callee := .builtin .append, args := #[s, y], argTypes := #[T, T] }) (hs : ev e s = some v) (hy : ev e y = some x)
    (hi : lkT tb T = some i) (hE : i.desc = .slice E) (hj : lkT tb E = some j) (hsize : j.size = size) (hzs : j.zero.cells.size = size) (hsz : 0 < size)
    (hO : Own E size v m xs C) (hS : St w0 w (C :: L)) (hx : RdX w size x q news) (h1 : ∀ u ∈ news, u.oneCell' = true) (h63 : m + q ≤ maxLen) (hb : (m + q) * j.bytes ≤ 140737488355328)
    (hw : wantE ops e o.guard = some true) (hd : o.dst = some d) (hdn : d < n)
    (k : ∀ v' w' C' a', Own E size v' (m + q) (xs ++ news) C' → St w0 w' (C' :: L) → Has a' n ((d, v') :: e) → wpList P ops Q rest a' w') : wpList P ops Q (o :: rest) a w := by
  obtain ⟨v', w', C', hr, h2, h3⟩ := run_append hT hi hE hj hsize hzs hsz hO hS hx h1 h63 hb o.type
  refine st_val hA hw hd hdn (v := v') (w' := w') ?_ (fun a' h => k v' w' C' a' h2 h3 h)
  unfold execOp
  rw [ho]
  simp [resolve, invoke, builtin, hA.ev hs, hA.ev hy, hr]
end
end Go.SK
