import Derived.Test.YthpdmjghabehpaaDoorSK9
import Derived.Laws.MakeOwn
set_option linter.unusedVariables false
set_option linter.unusedSimpArgs false
namespace Go.SK
open Go

/-! ### 16. make([]T, n); rows of bools -/
def encBo (x : Bool) : List Value := [.bool x]
theorem encBo_ok : Enc encBo 1 := ⟨fun _ => rfl, fun x u hu => by rw [List.mem_singleton.1 hu]; rfl⟩

section
variable {P : Program} {tb : List TI} {ops : Array Oper} {Q : Exit → Act → World → Prop} {a : Act} {w0 w : World} {n : Nat} {e : Env} {L : List Chunk} {o : Oper} {rest : List Oper} {d : Nat}
variable {α : Type} {en : α → List Value} {size : Nat}

theorem made_rows (he : Enc en size) (hs : 0 < size) (x0 : α) (m : Nat) : madeCells (en x0).toArray (m * size) = (rows en (List.replicate m x0)).toArray := by
  apply Array.ext
  · rw [size_madeCells]; simp [rows_length he]
  · intro i h1 h2
    rw [size_madeCells] at h1
    have hl := he.len x0
    have hr := Nat.mod_lt i hs
    have hk : i / size < m := by rw [Nat.div_lt_iff_lt_mul hs]; exact h1
    have hx : (List.replicate m x0)[i / size]? = some x0 := by simp [hk]
    have hu : (en x0)[i % size]? = some ((en x0)[i % size]'(by omega)) := List.getElem?_eq_getElem _
    have h3 := rows_at he hx _ _ hu
    rw [Nat.div_add_mod'] at h3
    have h4 : (rows en (List.replicate m x0)).toArray[i]? = some ((en x0)[i % size]'(by omega)) := by simpa using h3
    rw [Array.getElem?_eq_getElem h2] at h4
    injection h4 with h4
    rw [h4]
    simp only [madeCells, Array.getElem_map, Array.getElem_range, List.size_toArray, hl]
    rw [getElem!_pos _ _ (by simp [hl]; exact hr)]
    simp

theorem st_makeSlice (hT : TabOk P tb) (hA : Has a n e) (hS : St w0 w L) {T E : Nat} {i j : TI} {x y : Operand} {kl kc : IntKind} (m : Nat) (he : Enc en size) (hs : 0 < size) (x0 : α)
    (ho : o.op = .makeSlice T x y) (hi : lkT tb T = some i) (hE : i.desc = .slice E) (hj : lkT tb E = some j) (hz : j.zero.cells = (en x0).toArray) (hsize : j.size = size)
    (hx : ev e x = some (.int kl ((m : Nat) : Int))) (hy : ev e y = some (.int kc ((m : Nat) : Int))) (hb : j.bytes * m ≤ 281474976710656) (hm : m ≤ 9223372036854775807)
    (hw : wantE ops e o.guard = some true) (hd : o.dst = some d) (hdn : d < n)
    (k : ∀ b w' a', St w0 w' ([(b, rowO (rows en (List.replicate m x0)) E)] :: L) → Has a' n ((d, .slice (some ⟨b, 0, none⟩) m m) :: e) → wpList P ops Q rest a' w') : wpList P ops Q (o :: rest) a w := by
  obtain ⟨ht, hok⟩ := hT.at_ hi
  obtain ⟨htj, hokj⟩ := hT.at_ hj
  have h1 := hok.1
  rw [ht, hE] at h1
  obtain ⟨_, xj, hxj, g1, g2, g3⟩ := hokj
  rw [htj] at hxj
  refine st_val hA hw hd hdn (v := .slice (some ⟨w.heap.size, 0, none⟩) m m) (w' := w.alloc (rowO (rows en (List.replicate m x0)) E)) ?_ (fun a' h => k _ _ a' (hS.alloc _) h)
  unfold execOp
  rw [ho]
  simp only [hA.ev hx, hA.ev hy]
  have hbb : (xj.bytes : Int) * ((m : Nat) : Int) ≤ 281474976710656 := by
    rw [g2, ← Int.natCast_mul]; omega
  have hr := run_make (P := P) w T E xj j.zero h1 hxj g3 kl kc ((m : Nat) : Int) ((m : Nat) : Int) (by omega) (Int.le_refl _) hbb (by omega)
  simp only [Int.toNat_natCast, g1, hsize, hz, made_rows he hs] at hr
  rw [Sem.run_bind, hr]
  rfl
end

/-- A place where roads meet again. -/
theorem wp_seq_join {P : Program} {Q : Exit → Act → World → Prop} {a : Act} {w : World} {x y : Code} (J : Act → World → Prop) (h1 : x.wp P (Exit.then J Q) a w) (h2 : ∀ a w, J a w → y.wp P Q a w) : (Code.seq x y).wp P Q a w :=
  wp_seq (wp_mono h1 (fun e a w q => by cases e <;> first | exact h2 a w q | exact q))
end Go.SK
