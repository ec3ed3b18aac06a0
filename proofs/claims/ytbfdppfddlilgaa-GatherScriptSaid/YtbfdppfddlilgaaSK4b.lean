import Derived.Test.YtbfdppfddlilgaaSK4
set_option linter.unusedVariables false
set_option linter.unusedSimpArgs false
namespace Go.SK
open Go

/-! ### 9b. Runs of operations that leave the world alone -/
section
variable {P : Program} {tb : List TI} {a : Act} {w : World} {n : Nat} {e : Env} {o : Oper}

/-- s[lo:hi] of a slice. -/
def slv (A : Option Addr) (l h c s : Nat) : Value := .slice (if c = l then A else A.map (·.add (l * s))) (h - l) (c - l)

theorem rn_load (hT : TabOk P tb) (hA : Has a n e) {T : Nat} {i : TI} {x : Operand} {b off : Nat} {v : Value} (ho : o.op = .load T x) (hx : ev e x = some (.pointer (some ⟨b, off, none⟩)))
    (hi : lkT tb T = some i) (hg : isAggD i.desc = false) (hc : w.cell? ⟨b, off, none⟩ = some v) :
    (execOp a.eval o).run P w = .ok (.value (v)) w := by
  obtain ⟨ht, hok⟩ := hT.at_ hi
  have h1 := hok.isAgg w
  rw [ht, hg] at h1
  unfold execOp
  rw [ho]
  simp [Instr.loadAt, hA.ev hx, Instr.sureAddr, loadVar, h1, hc]


theorem rn_loadA (hT : TabOk P tb) (hA : Has a n e) {T : Nat} {i : TI} {x : Operand} {b off : Nat} (cs : List Value) (ho : o.op = .load T x) (hx : ev e x = some (.pointer (some ⟨b, off, none⟩)))
    (hi : lkT tb T = some i) (hg : isAggD i.desc = true) (hl : cs.length = i.size) (hc : ∀ j u, cs[j]? = some u → w.cell? ⟨b, off + j, none⟩ = some u) :
    (execOp a.eval o).run P w = .ok (.value (.agg cs.toArray)) w := by
  obtain ⟨ht, hok⟩ := hT.at_ hi
  have h1 := hok.isAgg w
  rw [ht, hg] at h1
  have h2 := hok.sizeOf w
  rw [ht] at h2
  have h3 := run_loadCells_list (P := P) w ⟨b, off, none⟩ cs (fun j u hu => by rw [Addr.add_lit]; exact hc j u hu)
  unfold execOp
  rw [ho]
  simp [Instr.loadAt, hA.ev hx, Instr.sureAddr, loadVar, h1, h2, ← hl, h3]


theorem rn_indexAddr (hT : TabOk P tb) (hA : Has a n e) {T E : Nat} {i j : TI} {x y : Operand} {b off m c : Nat} {kd : IntKind} {ix : Int} (q : Nat) (off' : Nat)
    (ho : o.op = .indexAddr T x y) (hx : ev e x = some (.slice (some ⟨b, off, none⟩) m c)) (hy : ev e y = some (.int kd ix)) (hi : lkT tb T = some i) (hE : i.desc = .slice E) (hj : lkT tb E = some j)
    (hq : ix = (q : Int)) (hqm : q < m) (hoff : off' = off + q * j.size) :
    (execOp a.eval o).run P w = .ok (.value (.pointer (some ⟨b, off', none⟩))) w := by
  subst hq
  subst hoff
  obtain ⟨ht, hok⟩ := hT.at_ hi
  obtain ⟨htj, hokj⟩ := hT.at_ hj
  have h1 := hok.und w
  rw [ht, hE] at h1
  have h2 := hokj.sizeOf w
  rw [htj] at h2
  unfold execOp
  rw [ho]
  have h3 : (0 : Int) ≤ (q : Int) ∧ (q : Int) < (m : Int) := by omega
  simp [Instr.indexAt, hA.ev hx, hA.ev hy, asIntOf, h1, h3, h2, Addr.add_lit]
  omega


theorem rn_slice_lh (hT : TabOk P tb) (hA : Has a n e) {T E : Nat} {i j : TI} {x lo hi : Operand} {A : Option Addr} {m c : Nat} {k1 k2 : IntKind} {l h : Int} (l' h' : Nat)
    (ho : o.op = .slice T x (some lo) (some hi) none) (hx : ev e x = some (.slice A m c)) (hlo : ev e lo = some (.int k1 l)) (hhi : ev e hi = some (.int k2 h)) (hi' : lkT tb T = some i) (hE : i.desc = .slice E) (hj : lkT tb E = some j)
    (hl : l = (l' : Int)) (hh : h = (h' : Int)) (hlh : l' ≤ h') (hhc : h' ≤ c) :
    (execOp a.eval o).run P w = .ok (.value (slv A l' h' c j.size)) w := by
  subst hl; subst hh
  obtain ⟨ht, hok⟩ := hT.at_ hi'
  obtain ⟨htj, hokj⟩ := hT.at_ hj
  have h1 := hok.und w
  rw [ht, hE] at h1
  have h2 := hokj.sizeOf w
  rw [htj] at h2
  unfold execOp
  rw [ho]
  have b1 : (0 : Int) ≤ (h' : Int) ∧ (h' : Int) ≤ (c : Int) := by omega
  have b2 : (0 : Int) ≤ (l' : Int) ∧ (l' : Int) ≤ (h' : Int) := by omega
  simp [Instr.sliceAt, Instr.slice, hA.ev hx, hA.ev hlo, hA.ev hhi, h1, Instr.sliceBounds, Instr.sliceBound, asIntOf, hlh, hhc, b1, b2, h2, slv]


theorem rn_slice_h (hT : TabOk P tb) (hA : Has a n e) {T E : Nat} {i j : TI} {x hi : Operand} {A : Option Addr} {m c : Nat} {k2 : IntKind} {h : Int} (h' : Nat)
    (ho : o.op = .slice T x none (some hi) none) (hx : ev e x = some (.slice A m c)) (hhi : ev e hi = some (.int k2 h)) (hi' : lkT tb T = some i) (hE : i.desc = .slice E) (hj : lkT tb E = some j)
    (hh : h = (h' : Int)) (hhc : h' ≤ c) :
    (execOp a.eval o).run P w = .ok (.value (.slice A h' c)) w := by
  subst hh
  obtain ⟨ht, hok⟩ := hT.at_ hi'
  obtain ⟨htj, hokj⟩ := hT.at_ hj
  have h1 := hok.und w
  rw [ht, hE] at h1
  have h2 := hokj.sizeOf w
  rw [htj] at h2
  unfold execOp
  rw [ho]
  have b1 : (0 : Int) ≤ (h' : Int) ∧ (h' : Int) ≤ (c : Int) := by omega
  simp [Instr.sliceAt, Instr.slice, hA.ev hx, hA.ev hhi, h1, Instr.sliceBounds, Instr.sliceBound, asIntOf, hhc, b1, h2]
  cases A with
  | none => simp
  | some p => simp [Addr.add]


theorem rn_slice_l (hT : TabOk P tb) (hA : Has a n e) {T E : Nat} {i j : TI} {x lo : Operand} {A : Option Addr} {m c : Nat} {k1 : IntKind} {l : Int} (l' : Nat)
    (ho : o.op = .slice T x (some lo) none none) (hx : ev e x = some (.slice A m c)) (hlo : ev e lo = some (.int k1 l)) (hi' : lkT tb T = some i) (hE : i.desc = .slice E) (hj : lkT tb E = some j)
    (hl : l = (l' : Int)) (hlm : l' ≤ m) :
    (execOp a.eval o).run P w = .ok (.value (slv A l' m c j.size)) w := by
  subst hl
  obtain ⟨ht, hok⟩ := hT.at_ hi'
  obtain ⟨htj, hokj⟩ := hT.at_ hj
  have h1 := hok.und w
  rw [ht, hE] at h1
  have h2 := hokj.sizeOf w
  rw [htj] at h2
  unfold execOp
  rw [ho]
  have b1 : (0 : Int) ≤ (l' : Int) ∧ (l' : Int) ≤ (m : Int) := by omega
  simp [Instr.sliceAt, Instr.slice, hA.ev hx, hA.ev hlo, h1, Instr.sliceBounds, Instr.sliceBound, asIntOf, hlm, b1, h2, slv]


theorem rn_slice_lhm (hT : TabOk P tb) (hA : Has a n e) {T E : Nat} {i j : TI} {x lo hi mx : Operand} {A : Option Addr} {m c : Nat} {k1 k2 k3 : IntKind} {l h mm : Int} (l' h' m' : Nat)
    (ho : o.op = .slice T x (some lo) (some hi) (some mx)) (hx : ev e x = some (.slice A m c)) (hlo : ev e lo = some (.int k1 l)) (hhi : ev e hi = some (.int k2 h)) (hmx : ev e mx = some (.int k3 mm))
    (hi' : lkT tb T = some i) (hE : i.desc = .slice E) (hj : lkT tb E = some j)
    (hl : l = (l' : Int)) (hh : h = (h' : Int)) (hm : mm = (m' : Int)) (hlh : l' ≤ h') (hhm : h' ≤ m') (hmc : m' ≤ c) :
    (execOp a.eval o).run P w = .ok (.value (slv A l' h' m' j.size)) w := by
  subst hl; subst hh; subst hm
  obtain ⟨ht, hok⟩ := hT.at_ hi'
  obtain ⟨htj, hokj⟩ := hT.at_ hj
  have h1 := hok.und w
  rw [ht, hE] at h1
  have h2 := hokj.sizeOf w
  rw [htj] at h2
  unfold execOp
  rw [ho]
  have b0 : (0 : Int) ≤ (m' : Int) ∧ (m' : Int) ≤ (c : Int) := by omega
  have b1 : (0 : Int) ≤ (h' : Int) ∧ (h' : Int) ≤ (m' : Int) := by omega
  have b2 : (0 : Int) ≤ (l' : Int) ∧ (l' : Int) ≤ (h' : Int) := by omega
  simp [Instr.sliceAt, Instr.slice, hA.ev hx, hA.ev hlo, hA.ev hhi, hA.ev hmx, h1, Instr.sliceBounds, Instr.sliceBound, asIntOf, hlh, hhm, hmc, b0, b1, b2, h2, slv]


theorem rn_rem (hA : Has a n e) {x y : Operand} {t yt : TypeId} {kd : IntKind} {p q : Int} (ho : o.op = .binOp .rem t x y yt) (hx : ev e x = some (.int kd p)) (hy : ev e y = some (.int kd q)) (hq : q ≠ 0) :
    (execOp a.eval o).run P w = .ok (.value (.int kd (p.tmod q))) w := by
  unfold execOp
  rw [ho]
  simp [hA.ev hx, hA.ev hy, eqGuard, binOp, Op.intDiv, hq]

theorem rn_quo (hA : Has a n e) {x y : Operand} {t yt : TypeId} {kd : IntKind} {p q : Int} (ho : o.op = .binOp .quo t x y yt) (hx : ev e x = some (.int kd p)) (hy : ev e y = some (.int kd q)) (hq : q ≠ 0) :
    (execOp a.eval o).run P w = .ok (.value (.int kd (kd.wrap (p.tdiv q)))) w := by
  unfold execOp
  rw [ho]
  simp [hA.ev hx, hA.ev hy, eqGuard, binOp, Op.intDiv, hq]


end
end Go.SK
