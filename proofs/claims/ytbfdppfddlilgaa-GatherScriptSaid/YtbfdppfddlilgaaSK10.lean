import Derived.Test.YtbfdppfddlilgaaSK9
import Derived.Laws.MakeOwn
set_option linter.unusedVariables false
set_option linter.unusedSimpArgs false
namespace Go.SK
open Go

/-! ### 16. make([]T, n); rows of bools -/
def encBo (x : Bool) : List Value := [.bool x]
theorem encBo_ok : Enc encBo 1 := ⟨fun _ => rfl, fun x u hu => by rw [List.mem_singleton.1 hu]; rfl⟩

section
variable {P : Program} {tb : List TI} {ops : Array Oper} {Q : Exit → Act → World → Prop} {a : Act} {w0 w : World} {n : Nat} {e : Env} {L : List Chunk} {o : Oper} {rest : List Oper} {d : Nat}
variable {α : Type} {en : α → List Value} {size : Nat}

theorem made_rows (he : Enc en size) (hs : 0 < size) (x0 : α) (m : Nat) : madeCells (en x0).toArray (m * size) = (rows en (List.replicate m x0)).toArray := by
  apply Array.ext
  · rw [size_madeCells]; simp [rows_length he]
  · intro i h1 h2
    rw [size_madeCells] at h1
    have hl := he.len x0
    have hr := Nat.mod_lt i hs
    have hk : i / size < m := by rw [Nat.div_lt_iff_lt_mul hs]; exact h1
    have hx : (List.replicate m x0)[i / size]? = some x0 := by simp [hk]
    have hu : (en x0)[i % size]? = some ((en x0)[i % size]'(by omega)) := List.getElem?_eq_getElem _
    have h3 := rows_at he hx _ _ hu
    rw [Nat.div_add_mod'] at h3
    have h4 : (rows en (List.replicate m x0)).toArray[i]? = some ((en x0)[i % size]'(by omega)) := by simpa using h3
    rw [Array.getElem?_eq_getElem h2] at h4
    injection h4 with h4
    rw [h4]
    simp only [madeCells, Array.getElem_map, Array.getElem_range, List.size_toArray, hl]
    rw [getElem!_pos _ _ (by simp [hl]; exact hr)]
    simp

theorem st_makeSlice (hT : TabOk P tb) (hA : Has a n e) (hS : St w0 w L) {T E : Nat} {i j : TI} {x y : Operand} {kl kc : IntKind} (m : Nat) (he : Enc en size) (hs : 0 < size) (x0 : α)
    (ho : o.op = .makeSlice T x y) (hi : lkT tb T = some i) (hE : i.desc = .slice E) (hj : lkT tb E = some j) (hz : j.zero.cells = (en x0).toArray) (hsize : j.size = size)
    (hx : ev e x = some (.int kl ((m : Nat) : Int))) (hy : ev e y = some (.int kc ((m : Nat) : Int))) (hb : j.bytes * m ≤ 281474976710656) (hm : m ≤ 9223372036854775807)
    (hw : wantE ops e o.guard = some true) (hd : o.dst = some d) (hdn : d < n)
    (k : ∀ b w' a', St w0 w' ([(b, rowO (rows en (List.replicate m x0)) E)] :: L) → Has a' n ((d, .slice (some ⟨b, 0, none⟩) m m) :: e) → wpList P ops Q rest a' w') : wpList P ops Q (o :: rest) a w := by
  obtain ⟨ht, hok⟩ := hT.at_ hi
  obtain ⟨htj, hokj⟩ := hT.at_ hj
  have h1 := hok.1
  rw [ht, hE] at h1
  obtain ⟨_, xj, hxj, g1, g2, g3⟩ := hokj
  rw [htj] at hxj
  refine st_val hA hw hd hdn (v := .slice (some ⟨w.heap.size, 0, none⟩) m m) (w' := w.alloc (rowO (rows en (List.replicate m x0)) E)) ?_ (fun a' h => k _ _ a' (hS.alloc _) h)
  unfold execOp
  rw [ho]
  simp only [hA.ev hx, hA.ev hy]
  have hbb : (xj.bytes : Int) * ((m : Nat) : Int) ≤ 281474976710656 := by
    rw [g2, ← Int.natCast_mul]; omega
  have hr := run_make (P := P) w T E xj j.zero h1 hxj g3 kl kc ((m : Nat) : Int) ((m : Nat) : Int) (by omega) (Int.le_refl _) hbb (by omega)
  simp only [Int.toNat_natCast, g1, hsize, hz, made_rows he hs] at hr
  rw [Sem.run_bind, hr]
  rfl
end

section
variable {P : Program} {tb : List TI} {a : Act} {w : World} {n : Nat} {e : Env}
theorem ld_agg (hT : TabOk P tb) {T : Nat} {i : TI} {b : Nat} {cs : List Value} (hi : lkT tb T = some i) (hg : isAggD i.desc = true) (hl : cs.length = i.size) (hc : ∀ j u, cs[j]? = some u → w.cell? ⟨b, 0 + j, none⟩ = some u) :
    (loadVar T ⟨b, 0, none⟩).run P w = .ok (.agg cs.toArray) w := by
  obtain ⟨ht, hok⟩ := hT.at_ hi
  have h1 := hok.isAgg w
  rw [ht, hg] at h1
  have h2 := hok.sizeOf w
  rw [ht] at h2
  have h3 := run_loadCells_list (P := P) w ⟨b, 0, none⟩ cs (fun j u hu => by rw [Addr.add_lit]; exact hc j u hu)
  simp [loadVar, h1, h2, ← hl, h3]
theorem retc1 (hT : TabOk P tb) {fn : Func} {R : Value → World → Prop} {p T b : Nat} {i : TI} {cs : List Value} (hA : Has a n e) (hr : fn.results = #[.cell p T]) (hp : lk e p = some (.pointer (some ⟨b, 0, none⟩)))
    (hi : lkT tb T = some i) (hg : isAggD i.desc = true) (hl : cs.length = i.size) (hc : ∀ j u, cs[j]? = some u → w.cell? ⟨b, 0 + j, none⟩ = some u) (h : R (.agg cs.toArray) w) :
    bodyPost P fn (fun en w' => ∃ v, en = .returned v ∧ R v w') .ret a w :=
  ⟨hA.defers, .agg cs.toArray, by have e1 := hA.at_ p _ hp; have e2 := ld_agg (w := w) hT hi hg hl hc; simp [results, hr, e1, asAddr, e2], _, rfl, h⟩
theorem retc2 (hT : TabOk P tb) {fn : Func} {R : Value → World → Prop} {p T b t2 : Nat} {i : TI} {cs : List Value} {v2 : Value} (hA : Has a n e) (hr : fn.results = #[.cell p T, .tmp t2]) (hp : lk e p = some (.pointer (some ⟨b, 0, none⟩)))
    (h2 : lk e t2 = some v2) (hi : lkT tb T = some i) (hg : isAggD i.desc = true) (hl : cs.length = i.size) (hc : ∀ j u, cs[j]? = some u → w.cell? ⟨b, 0 + j, none⟩ = some u) (h : R (.tuple #[.agg cs.toArray, v2]) w) :
    bodyPost P fn (fun en w' => ∃ v, en = .returned v ∧ R v w') .ret a w :=
  ⟨hA.defers, .tuple #[.agg cs.toArray, v2], by have e1 := hA.at_ p _ hp; have e3 := hA.at_ t2 _ h2; have e2 := ld_agg (w := w) hT hi hg hl hc; simp [results, hr, e1, e3, asAddr, e2], _, rfl, h⟩
theorem retc3 (hT : TabOk P tb) {fn : Func} {R : Value → World → Prop} {p T b t2 t3 : Nat} {i : TI} {cs : List Value} {v2 v3 : Value} (hA : Has a n e) (hr : fn.results = #[.cell p T, .tmp t2, .tmp t3]) (hp : lk e p = some (.pointer (some ⟨b, 0, none⟩)))
    (h2 : lk e t2 = some v2) (h3 : lk e t3 = some v3) (hi : lkT tb T = some i) (hg : isAggD i.desc = true) (hl : cs.length = i.size) (hc : ∀ j u, cs[j]? = some u → w.cell? ⟨b, 0 + j, none⟩ = some u) (h : R (.tuple #[.agg cs.toArray, v2, v3]) w) :
    bodyPost P fn (fun en w' => ∃ v, en = .returned v ∧ R v w') .ret a w :=
  ⟨hA.defers, .tuple #[.agg cs.toArray, v2, v3], by have e1 := hA.at_ p _ hp; have e3 := hA.at_ t2 _ h2; have e4 := hA.at_ t3 _ h3; have e2 := ld_agg (w := w) hT hi hg hl hc; simp [results, hr, e1, e3, e4, asAddr, e2], _, rfl, h⟩
theorem rettct (hT : TabOk P tb) {fn : Func} {R : Value → World → Prop} {p T b t2 t3 : Nat} {i : TI} {cs : List Value} {v2 v3 : Value} (hA : Has a n e) (hr : fn.results = #[.tmp t2, .cell p T, .tmp t3]) (hp : lk e p = some (.pointer (some ⟨b, 0, none⟩)))
    (h2 : lk e t2 = some v2) (h3 : lk e t3 = some v3) (hi : lkT tb T = some i) (hg : isAggD i.desc = true) (hl : cs.length = i.size) (hc : ∀ j u, cs[j]? = some u → w.cell? ⟨b, 0 + j, none⟩ = some u) (h : R (.tuple #[v2, .agg cs.toArray, v3]) w) :
    bodyPost P fn (fun en w' => ∃ v, en = .returned v ∧ R v w') .ret a w :=
  ⟨hA.defers, .tuple #[v2, .agg cs.toArray, v3], by have e1 := hA.at_ p _ hp; have e3 := hA.at_ t2 _ h2; have e4 := hA.at_ t3 _ h3; have e2 := ld_agg (w := w) hT hi hg hl hc; simp [results, hr, e1, e3, e4, asAddr, e2], _, rfl, h⟩
end

theorem rows_setf {α : Type} {en : α → List Value} {size : Nat} (he : Enc en size) {l : List α} {n : Nat} {x : α} (x' : α) (hx : l[n]? = some x) (j : Nat) (cs : List Value) (hj : j + cs.length ≤ size)
    (hen : en x' = (en x).take j ++ (cs ++ (en x).drop (j + cs.length))) : (rows en l).take (n * size + j) ++ (cs ++ (rows en l).drop (n * size + j + cs.length)) = rows en (l.set n x') := by
  obtain ⟨hn, hx2⟩ := List.getElem?_eq_some_iff.1 hx
  have e1 : l = l.take n ++ x :: l.drop (n + 1) := by
    conv => lhs; rw [← List.take_append_drop n l, List.drop_eq_getElem_cons hn, hx2]
  have e2 : rows en l = rows en (l.take n) ++ (en x ++ rows en (l.drop (n + 1))) := by
    conv => lhs; rw [e1]
    rw [rows_append, rows_cons]
  have hl : (rows en (l.take n)).length = n * size := by rw [rows_length he, List.length_take, Nat.min_eq_left (by omega)]
  have hlx := he.len x
  have e3 : l.set n x' = l.take n ++ x' :: l.drop (n + 1) := by rw [List.set_eq_take_append_cons_drop, if_pos hn]
  rw [e3, rows_append, rows_cons, e2, List.take_append, List.take_of_length_le (by omega), hl, Nat.add_sub_cancel_left, List.take_append_of_le_length (by omega),
    show n * size + j + cs.length = n * size + (j + cs.length) by omega, List.drop_append, List.drop_eq_nil_of_le (by omega), hl, Nat.add_sub_cancel_left, List.drop_append_of_le_length (by omega), hen]
  simp

theorem St.split3 {w0 w : World} {L : List Chunk} {x : Nat × Obj} {C D : Chunk} (h : St w0 w ((x :: (C ++ D)) :: L)) : St w0 w ([x] :: C :: D :: L) := h.cast (by simp)
theorem St.join3 {w0 w : World} {L : List Chunk} {x : Nat × Obj} {C D : Chunk} (h : St w0 w ([x] :: C :: D :: L)) : St w0 w ((x :: (C ++ D)) :: L) := h.cast (by simp)

theorem pigeon : ∀ (n : Nat) (q : List Int), q.Nodup → (∀ x ∈ q, 0 ≤ x ∧ x < ((n : Nat) : Int)) → q.length ≤ n
  | 0, q, _, h => by
    cases q with
    | nil => simp
    | cons x r => have := h x (by simp); omega
  | n + 1, q, hn, h => by
    by_cases hm : ((n : Nat) : Int) ∈ q
    · have h1 := pigeon n (q.erase ((n : Nat) : Int)) (hn.erase _) (fun x hx => by
        have h2 := (hn.mem_erase_iff).1 hx
        have h3 := h x h2.2
        have h4 : x ≠ ((n : Nat) : Int) := h2.1
        omega)
      rw [List.length_erase_of_mem hm] at h1
      omega
    · have h1 := pigeon n q hn (fun x hx => by
        have h3 := h x hx
        have h4 : x ≠ ((n : Nat) : Int) := fun e => hm (e ▸ hx)
        omega)
      omega

/-- A place where roads meet again. -/
theorem wp_seq_join {P : Program} {Q : Exit → Act → World → Prop} {a : Act} {w : World} {x y : Code} (J : Act → World → Prop) (h1 : x.wp P (Exit.then J Q) a w) (h2 : ∀ a w, J a w → y.wp P Q a w) : (Code.seq x y).wp P Q a w :=
  wp_seq (wp_mono h1 (fun e a w q => by cases e <;> first | exact h2 a w q | exact q))
end Go.SK
