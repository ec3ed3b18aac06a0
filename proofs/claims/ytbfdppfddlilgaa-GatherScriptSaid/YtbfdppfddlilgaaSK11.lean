import Derived.Test.YtbfdppfddlilgaaSK10
import Derived.Laws.StructEq
set_option linter.unusedVariables false
set_option linter.unusedSimpArgs false
namespace Go.SK
open Go

/-! ### 17. == of flat structs -/
def eqE (tb : List TI) (xs ys : Array Value) : List Field → Option Bool
  | [] => some true
  | f :: fs => bif f.name == "_" then eqE tb xs ys fs else
    match lkT tb f.type, xs[f.offset]?, ys[f.offset]? with
    | some i, some (.int k a), some (.int k' b) => match i.desc with
      | .int _ => bif decide (k = k') then (eqE tb xs ys fs).map (fun s => (a == b) && s) else none
      | _ => none
    | some i, some (.bool a), some (.bool b) => match i.desc with
      | .bool => (eqE tb xs ys fs).map (fun s => (a == b) && s)
      | _ => none
    | _, _, _ => none

section
variable {P : Program} {tb : List TI} {w : World}
theorem part_ok (hT : TabOk P tb) {t : Nat} {i : TI} {cs : Array Value} {off : Nat} {v : Value} (hi : lkT tb t = some i) (hg : isAggD i.desc = false) (hv : cs[off]? = some v) : (part t cs off).run P w = .ok v w := by
  obtain ⟨ht, hok⟩ := hT.at_ hi
  have h1 := hok.isAgg w
  rw [ht, hg] at h1
  simp [part, h1, hv]

theorem eqF_cons {d : Nat} {xs ys : Array Value} {f : Field} {fs : List Field} {a b : Value} {r s : Bool} (hn : (f.name == "_") = false) (ha : (part f.type xs f.offset).run P w = .ok a w) (hb : (part f.type ys f.offset).run P w = .ok b w)
    (he : (Op.equalIn d f.type a b).run P w = .ok r w) (hr : (Op.eqFields d xs ys fs).run P w = .ok s w) : (Op.eqFields d xs ys (f :: fs)).run P w = .ok (r && s) w := by
  have hn' : f.name ≠ "_" := by simpa using hn
  rw [Op.eqFields]
  simp only [if_pos hn', Sem.run_bind, ha, hb, he, Result.andThen_ok]
  cases r
  · simp
  · simpa using hr

theorem eqE_run (hT : TabOk P tb) {d : Nat} {xs ys : Array Value} : ∀ {fs : List Field} {r : Bool}, eqE tb xs ys fs = some r → (Op.eqFields (d + 1) xs ys fs).run P w = .ok r w
  | [], r, h => by
    simp [eqE] at h; subst h; simp [Op.eqFields]
  | f :: fs, r, h => by
    simp only [eqE] at h
    cases hn : (f.name == "_") with
    | true =>
      rw [hn] at h
      simp only [cond_true] at h
      have hn' : ¬ (f.name ≠ "_") := by simpa using hn
      rw [Op.eqFields, if_neg hn']
      exact eqE_run hT h
    | false =>
      rw [hn] at h
      simp only [cond_false] at h
      split at h
      · rename_i i k a k' b hi hx hy
        split at h
        · rename_i kk hd
          by_cases hk : k = k'
          · subst hk
            simp only [decide_true, cond_true, Option.map_eq_some_iff] at h
            obtain ⟨s, hs, rfl⟩ := h
            obtain ⟨ht, hok⟩ := hT.at_ hi
            have h1 := hok.und w
            rw [ht, hd] at h1
            refine eqF_cons hn (part_ok hT hi (by rw [hd]; rfl) hx) (part_ok hT hi (by rw [hd]; rfl) hy) ?_ (eqE_run hT hs)
            simp [Op.equalIn, h1]
          · simp [hk] at h
        · cases h
      · rename_i i a b hi hx hy
        split at h
        · rename_i hd
          simp only [Option.map_eq_some_iff] at h
          obtain ⟨s, hs, rfl⟩ := h
          obtain ⟨ht, hok⟩ := hT.at_ hi
          have h1 := hok.und w
          rw [ht, hd] at h1
          refine eqF_cons hn (part_ok hT hi (by rw [hd]; rfl) hx) (part_ok hT hi (by rw [hd]; rfl) hy) ?_ (eqE_run hT hs)
          simp [Op.equalIn, h1]
        · cases h
      · cases h

theorem equal_agg (hT : TabOk P tb) {T : Nat} {i : TI} {fs : Array Field} {xs ys : Array Value} {r : Bool} (hi : lkT tb T = some i) (hd : i.desc = .struct fs) (hs : P.stoodInHeld T = false) (h : eqE tb xs ys fs.toList = some r) :
    (Op.equal T (.agg xs) (.agg ys)).run P w = .ok r w := by
  obtain ⟨ht, hok⟩ := hT.at_ hi
  have hu := hok.1
  rw [ht, hd] at hu
  have hf : P.fieldsOf T = fs := by simp [Program.fieldsOf, hu]
  have e : Op.maxDepth = 9998 + 1 + 1 := rfl
  unfold Op.equal
  rw [e, run_equalIn_struct (P := P) w (9998 + 1) T xs ys (by rw [hf]; exact hu) hs, hf]
  exact eqE_run hT h

variable {a : Act} {n : Nat} {e : Env} {o : Oper}
theorem rn_eqA (hT : TabOk P tb) (hA : Has a n e) {T : Nat} {i : TI} {fs : Array Field} {x y : Operand} {yt : TypeId} {xs ys : Array Value} {r : Bool} (ho : o.op = .binOp .eql T x y yt) (hx : ev e x = some (.agg xs)) (hy : ev e y = some (.agg ys))
    (hi : lkT tb T = some i) (hd : i.desc = .struct fs) (hs : P.stoodInHeld T = false) (hgt : P.eqGuardType P.depth T = false) (h : eqE tb xs ys fs.toList = some r) : (execOp a.eval o).run P w = .ok (.value (.bool r)) w := by
  unfold execOp
  rw [ho]
  have := equal_agg (w := w) hT hi hd hs h
  simp [hA.ev hx, hA.ev hy, binOp, eqGuard, hgt, this]
theorem rn_neA (hT : TabOk P tb) (hA : Has a n e) {T : Nat} {i : TI} {fs : Array Field} {x y : Operand} {yt : TypeId} {xs ys : Array Value} {r : Bool} (ho : o.op = .binOp .neq T x y yt) (hx : ev e x = some (.agg xs)) (hy : ev e y = some (.agg ys))
    (hi : lkT tb T = some i) (hd : i.desc = .struct fs) (hs : P.stoodInHeld T = false) (hgt : P.eqGuardType P.depth T = false) (h : eqE tb xs ys fs.toList = some r) : (execOp a.eval o).run P w = .ok (.value (.bool (!r))) w := by
  unfold execOp
  rw [ho]
  have := equal_agg (w := w) hT hi hd hs h
  simp [hA.ev hx, hA.ev hy, binOp, eqGuard, hgt, this]
end
end Go.SK
