import Derived.Test.YtbfdppfddlilgaaSK2
set_option linter.unusedVariables false
set_option linter.unusedSimpArgs false
namespace Go.SK
open Go

/-! ### 4. Steps of a region -/
def runE (tb : List TI) (ops : Array Oper) (n : Nat) : List Oper → Env → Option Env
  | [], e => some e
  | o :: l, e =>
    match o.dst with
    | none => none
    | some d => bif Nat.blt d n then
        (match wantE ops e o.guard with
        | some true => match pureOp tb e o.op with
          | some v => runE tb ops n l ((d, v) :: e)
          | none => none
        | some false => runE tb ops n l ((d, undef) :: e)
        | none => none)
      else none

section
variable {P : Program} {tb : List TI} {ops : Array Oper} {Q : Exit → Act → World → Prop} {a : Act} {w : World} {n : Nat} {e : Env}

theorem wpList_wanted {o : Oper} {rest : List Oper} (hw : Region.wanted o (yielded ops a.tmps) = true) (h : o.wp P a w (wpList P ops Q rest) Q) : wpList P ops Q (o :: rest) a w := by
  simp only [wpList]; rw [if_pos hw]; exact .inl h
theorem wpList_unwanted {o : Oper} {rest : List Oper} (hw : Region.wanted o (yielded ops a.tmps) = false) (h : wpList P ops Q rest (a.put o.dst undef) w) : wpList P ops Q (o :: rest) a w := by
  simp only [wpList]; rw [hw]; simpa using h

/-- The next 'k' operations, all of which only compute. -/
theorem st_run (hT : TabOk P tb) {l : List Oper} (k : Nat) {e' : Env} (hA : Has a n e) (h : runE tb ops n (l.take k) e = some e')
    (c : ∀ a', Has a' n e' → wpList P ops Q (l.drop k) a' w) : wpList P ops Q l a w := by
  induction k generalizing l a e with
  | zero => simp [runE] at h; subst h; exact c a hA
  | succ k ih =>
    cases l with
    | nil => simp [runE] at h; subst h; exact c a hA
    | cons o l =>
      simp only [List.take_succ_cons, runE] at h
      split at h
      · cases h
      · rename_i d hd
        cases hb : Nat.blt d n with
        | false => rw [hb] at h; cases h
        | true =>
          rw [hb] at h
          simp only [cond_true] at h
          have hdn : d < n := by simpa [Nat.blt_eq] using hb
          split at h
          · rename_i hw
            split at h
            · rename_i v hv
              refine wpList_wanted (hA.want hw) ?_
              unfold Oper.wp
              rw [pureOp_run hT hA hv w, Oper.upon_value, hd]
              exact ih (hA.put hdn v) h (by simpa using c)
            · cases h
          · rename_i hw
            refine wpList_unwanted (hA.want hw) ?_
            rw [hd]
            exact ih (hA.put hdn undef) h (by simpa using c)
          · cases h

/-- An operation that is not wanted. -/
theorem st_no {o : Oper} {rest : List Oper} {d : Nat} (hA : Has a n e) (hw : wantE ops e o.guard = some false) (hd : o.dst = some d) (hdn : d < n)
    (c : ∀ a', Has a' n ((d, undef) :: e) → wpList P ops Q rest a' w) : wpList P ops Q (o :: rest) a w :=
  wpList_unwanted (hA.want hw) (by rw [hd]; exact c _ (hA.put hdn undef))
theorem st_no0 {o : Oper} {rest : List Oper} (hA : Has a n e) (hw : wantE ops e o.guard = some false) (hd : o.dst = none)
    (c : wpList P ops Q rest a w) : wpList P ops Q (o :: rest) a w :=
  wpList_unwanted (hA.want hw) (by rw [hd]; exact c)

/-- An operation that hands back a value. -/
theorem st_val {o : Oper} {rest : List Oper} {d : Nat} {v : Value} {w' : World} (hA : Has a n e) (hw : wantE ops e o.guard = some true) (hd : o.dst = some d) (hdn : d < n)
    (hr : (execOp a.eval o).run P w = .ok (.value v) w') (c : ∀ a', Has a' n ((d, v) :: e) → wpList P ops Q rest a' w') : wpList P ops Q (o :: rest) a w := by
  refine wpList_wanted (hA.want hw) ?_
  unfold Oper.wp
  rw [hr, Oper.upon_value, hd]
  exact c _ (hA.put hdn v)
theorem st_val0 {o : Oper} {rest : List Oper} {v : Value} {w' : World} (hA : Has a n e) (hw : wantE ops e o.guard = some true) (hd : o.dst = none)
    (hr : (execOp a.eval o).run P w = .ok (.value v) w') (c : wpList P ops Q rest a w') : wpList P ops Q (o :: rest) a w := by
  refine wpList_wanted (hA.want hw) ?_
  unfold Oper.wp
  rw [hr, Oper.upon_value, hd]
  exact c
theorem st_skip {o : Oper} {rest : List Oper} {w' : World} (hA : Has a n e) (hw : wantE ops e o.guard = some true) (hd : o.dst = none)
    (hr : (execOp a.eval o).run P w = .ok .skip w') (c : wpList P ops Q rest a w') : wpList P ops Q (o :: rest) a w := by
  refine wpList_wanted (hA.want hw) ?_
  unfold Oper.wp
  rw [hr, Oper.upon_skip, hd]
  exact c

/-! ### 5. Contracts and calls -/
def Ret (P : Program) (f : FuncId) (args : Array Value) (w : World) (R : Value → World → Prop) : Prop :=
  Calls P f args w fun en w' => ∃ v, en = .returned v ∧ R v w'
theorem Ret.mono {f : FuncId} {args : Array Value} {R R' : Value → World → Prop} (h : Ret P f args w R) (hr : ∀ v w', R v w' → R' v w') : Ret P f args w R' :=
  Calls.mono h fun _ _ ⟨v, hv, h⟩ => ⟨v, hv, hr v _ h⟩

def IsFn (P : Program) (f : FuncId) : Prop := ∀ args w, (callFunc f args).run P w = .ok (.enter f args) w

theorem st_call {o : Oper} {rest : List Oper} {d : Nat} {c : Call} {fv : Operand} {f : FuncId} {first cap : Array Value} {vs : List Value} {R : Value → World → Prop}
    (hA : Has a n e) (ho : o.op = .call c) (hfv : c.callee = .value fv) (hf : ev e fv = some (.func (.func f) first cap)) (hvs : evs e c.args.toList = some vs)
    (hfn : IsFn P f) (hw : wantE ops e o.guard = some true) (hd : o.dst = some d) (hdn : d < n)
    (hC : Ret P f (first ++ vs.toArray ++ cap) w R)
    (k : ∀ v w' a', R v w' → Has a' n ((d, v) :: e) → wpList P ops Q rest a' w') : wpList P ops Q (o :: rest) a w := by
  refine wpList_wanted (hA.want hw) ?_
  have h1 := hA.evs hvs
  have h2 : c.args.map a.eval = vs.toArray := by rw [← h1]; apply Array.ext'; simp
  have hr : (execOp a.eval o).run P w = .ok (.enter f (first ++ vs.toArray ++ cap)) w := by
    unfold execOp
    rw [ho]
    simp only [resolve, hfv, hA.ev hf, Deferred.ofValue, h2, Sem.run_bind, Sem.run_pure, Result.andThen_ok, invoke]
    exact hfn _ _
  unfold Oper.wp
  rw [hr, Oper.upon_enter]
  refine Calls.mono hC ?_
  rintro en w' ⟨v, rfl, hR⟩
  show wpList P ops Q rest (a.put o.dst v) w'
  rw [hd]
  exact k v w' _ hR (hA.put hdn v)

theorem mkArr (vs : List Value) : (#[] : Array Value) ++ vs.toArray ++ (#[] : Array Value) = vs.toArray := by simp

theorem st_call0 {o : Oper} {rest : List Oper} {d : Nat} {c : Call} {f : FuncId} {vs : List Value} {R : Value → World → Prop}
    (hA : Has a n e) (ho : o.op = .call c) (hfv : c.callee = .value (.func f)) (hvs : evs e c.args.toList = some vs)
    (hfn : IsFn P f) (hw : wantE ops e o.guard = some true) (hd : o.dst = some d) (hdn : d < n)
    (hC : Ret P f vs.toArray w R)
    (k : ∀ v w' a', R v w' → Has a' n ((d, v) :: e) → wpList P ops Q rest a' w') : wpList P ops Q (o :: rest) a w :=
  st_call hA ho hfv (f := f) (first := #[]) (cap := #[]) rfl hvs hfn hw hd hdn (by rw [mkArr]; exact hC) k

/-- A call whose result nobody takes. -/
theorem st_call_none {o : Oper} {rest : List Oper} {c : Call} {f : FuncId} {vs : List Value} {R : Value → World → Prop}
    (hA : Has a n e) (ho : o.op = .call c) (hfv : c.callee = .value (.func f)) (hvs : evs e c.args.toList = some vs)
    (hfn : IsFn P f) (hw : wantE ops e o.guard = some true) (hd : o.dst = none)
    (hC : Ret P f vs.toArray w R)
    (k : ∀ v w', R v w' → wpList P ops Q rest a w') : wpList P ops Q (o :: rest) a w := by
  refine wpList_wanted (hA.want hw) ?_
  have h1 := hA.evs hvs
  have h2 : c.args.map a.eval = vs.toArray := by rw [← h1]; apply Array.ext'; simp
  have hr : (execOp a.eval o).run P w = .ok (.enter f vs.toArray) w := by
    unfold execOp
    rw [ho]
    simp only [resolve, hfv, Act.eval, Deferred.ofValue, h2, Sem.run_bind, Sem.run_pure, Result.andThen_ok, invoke]
    rw [mkArr]
    exact hfn _ _
  unfold Oper.wp
  rw [hr, Oper.upon_enter]
  refine Calls.mono hC ?_
  rintro en w' ⟨v, rfl, hR⟩
  show wpList P ops Q rest (a.put o.dst v) w'
  rw [hd]
  exact k v w' hR

/-! ### 6. A function's beginning and end -/
def mkE (i : Nat) : List Value → Env
  | [] => []
  | v :: r => (i, v) :: mkE (i + 1) r

theorem lk_mkE : ∀ (vs : List Value) (i t : Nat) (v : Value), lk (mkE i vs) t = some v → i ≤ t ∧ vs[t - i]? = some v
  | [], i, t, v, h => by simp [mkE, lk] at h
  | u :: r, i, t, v, h => by
    simp only [mkE] at h
    rw [lk_cons] at h
    by_cases hit : i = t
    · subst hit; rw [if_pos rfl] at h; simpa using h
    · rw [if_neg hit] at h
      obtain ⟨h1, h2⟩ := lk_mkE r (i + 1) t v h
      refine ⟨by omega, ?_⟩
      rw [show t - i = (t - (i + 1)) + 1 by omega, List.getElem?_cons_succ]
      exact h2

theorem enter {f : FuncId} {fn : Func} {c : Code} {vs : List Value} {R : Value → World → Prop} (m : Nat)
    (hf : P.funcs[f]? = some fn) (hb : fn.body = some c) (hn : fn.ntmps = m) (hm : vs.length ≤ m)
    (h : ∀ a, Has a m (mkE 0 vs) → c.wp P (bodyPost P fn fun en w' => ∃ v, en = .returned v ∧ R v w') a w) : Ret P f vs.toArray w R := by
  refine calls_of_wp hf hb (h _ ⟨?_, rfl, ?_⟩)
  · simp; omega
  · intro t v hl
    obtain ⟨_, h2⟩ := lk_mkE vs 0 t v hl
    simp only [Nat.sub_zero] at h2
    have hlt := (List.getElem?_eq_some_iff.1 h2).1
    simp only []
    rw [Array.getElem?_append_left (by simpa using hlt)]
    simpa using h2

theorem ret1 {fn : Func} {R : Value → World → Prop} {t : Nat} {v : Value} (hA : Has a n e) (hr : fn.results = #[.tmp t]) (hv : lk e t = some v) (h : R v w) :
    bodyPost P fn (fun en w' => ∃ v, en = .returned v ∧ R v w') .ret a w :=
  ⟨hA.defers, v, by rw [results_tmp hr]; have := hA.at_ t v hv; simp [this], v, rfl, h⟩
theorem ret2 {fn : Func} {R : Value → World → Prop} {t1 t2 : Nat} {v1 v2 : Value} (hA : Has a n e) (hr : fn.results = #[.tmp t1, .tmp t2]) (h1 : lk e t1 = some v1) (h2 : lk e t2 = some v2)
    (h : R (.tuple #[v1, v2]) w) : bodyPost P fn (fun en w' => ∃ v, en = .returned v ∧ R v w') .ret a w :=
  ⟨hA.defers, .tuple #[v1, v2], by rw [results_tmp2 hr]; have e1 := hA.at_ t1 v1 h1; have e2 := hA.at_ t2 v2 h2; simp [e1, e2], _, rfl, h⟩
theorem ret3 {fn : Func} {R : Value → World → Prop} {t1 t2 t3 : Nat} {v1 v2 v3 : Value} (hA : Has a n e) (hr : fn.results = #[.tmp t1, .tmp t2, .tmp t3]) (h1 : lk e t1 = some v1) (h2 : lk e t2 = some v2) (h3 : lk e t3 = some v3)
    (h : R (.tuple #[v1, v2, v3]) w) : bodyPost P fn (fun en w' => ∃ v, en = .returned v ∧ R v w') .ret a w :=
  ⟨hA.defers, .tuple #[v1, v2, v3], by have e1 := hA.at_ t1 v1 h1; have e2 := hA.at_ t2 v2 h2; have e3 := hA.at_ t3 v3 h3; simp [results, hr, e1, e2, e3], _, rfl, h⟩
theorem ret0 {fn : Func} {R : Value → World → Prop} (hA : Has a n e) (hr : fn.results = #[])
    (h : R (.tuple #[]) w) : bodyPost P fn (fun en w' => ∃ v, en = .returned v ∧ R v w') .ret a w :=
  ⟨hA.defers, .tuple #[], by rw [results_none hr], _, rfl, h⟩
theorem ret0n {fn : Func} {R : Value → World → Prop} (hA : Has a n e) (hr : fn.results = #[])
    (h : R (.tuple #[]) w) : bodyPost P fn (fun en w' => ∃ v, en = .returned v ∧ R v w') .normal a w :=
  ⟨hA.defers, .tuple #[], by rw [results_none hr], _, rfl, h⟩

/-! ### 7. The code round the regions -/
theorem cd_cond_t {c : Operand} {x y : Code} (hA : Has a n e) (hc : ev e c = some (.bool true)) (h : x.wp P Q a w) : (Code.cond c x y).wp P Q a w := wp_cond_true (hA.ev hc) h
theorem cd_cond_f {c : Operand} {x y : Code} (hA : Has a n e) (hc : ev e c = some (.bool false)) (h : y.wp P Q a w) : (Code.cond c x y).wp P Q a w := wp_cond_false (hA.ev hc) h
theorem cd_exit_eq {id : Nat} (h : Q .normal a w) : Exit.inBlock id Q (.exit id) a w := by simpa [Exit.inBlock] using h
theorem cd_exit_ne {id id' : Nat} (hne : id' ≠ id) (h : Q (.exit id') a w) : Exit.inBlock id Q (.exit id') a w := by simpa [Exit.inBlock, hne] using h
end
end Go.SK
