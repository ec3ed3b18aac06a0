import Derived.WalkKit
import Derived.Deep.LoopGhost
import Derived.OrdersHeld
import Derived.KernelRfl
set_option linter.unusedVariables false
set_option linter.unusedSimpArgs false
namespace Go.SK
open Go

/-! ### 1. What is known of a frame -/
abbrev Env := List (Nat × Value)

def lk : Env → Nat → Option Value
  | [], _ => none
  | (t, v) :: e, s => bif Nat.beq t s then some v else lk e s

structure Has (a : Act) (n : Nat) (e : Env) : Prop where
  size : a.tmps.size = n
  defers : a.defers = []
  at_ : ∀ t v, lk e t = some v → a.tmps[t]? = some v

theorem lk_cons (t : Nat) (v : Value) (e : Env) (s : Nat) : lk ((t, v) :: e) s = if t = s then some v else lk e s := by
  simp only [lk]
  by_cases h : t = s
  · subst h; simp
  · rw [if_neg h]
    cases hb : Nat.beq t s with
    | true => exact absurd (Nat.eq_of_beq_eq_true hb) h
    | false => rfl

theorem Has.put {a : Act} {n : Nat} {e : Env} (h : Has a n e) {d : Nat} (hd : d < n) (v : Value) : Has (a.put (some d) v) n ((d, v) :: e) := by
  refine ⟨by simp [Act.put, h.size], h.defers, fun t u hl => ?_⟩
  rw [lk_cons] at hl
  by_cases ht : d = t
  · subst ht
    rw [if_pos rfl] at hl
    injection hl with hl
    subst hl
    simp [Act.put, h.size, hd]
  · rw [if_neg ht] at hl
    simp only [Act.put]
    rw [Array.getElem?_setIfInBounds_ne ht]
    exact h.at_ t u hl

theorem Has.sub {a : Act} {n : Nat} {e e' : Env} (h : Has a n e) (hs : ∀ t v, lk e' t = some v → lk e t = some v) : Has a n e' :=
  ⟨h.size, h.defers, fun t v hl => h.at_ t v (hs t v hl)⟩

/-- The chosen slots, in order. -/
def sel (e : Env) : List Nat → Option Env
  | [] => some []
  | t :: ts => match lk e t, sel e ts with
    | some v, some r => some ((t, v) :: r)
    | _, _ => none

theorem sel_lk {e : Env} : ∀ {ts : List Nat} {e' : Env}, sel e ts = some e' → ∀ t v, lk e' t = some v → lk e t = some v
  | [], e', h, t, v, hl => by simp [sel] at h; subst h; simp [lk] at hl
  | s :: ts, e', h, t, v, hl => by
    simp only [sel] at h
    split at h
    · rename_i u r hu hr
      injection h with h
      subst h
      rw [lk_cons] at hl
      by_cases hst : s = t
      · subst hst; rw [if_pos rfl] at hl; rw [hu]; exact hl
      · rw [if_neg hst] at hl; exact sel_lk hr t v hl
    · cases h

theorem Has.sel {a : Act} {n : Nat} {e e' : Env} (h : Has a n e) (ts : List Nat) (hs : SK.sel e ts = some e') : Has a n e' := h.sub (sel_lk hs)

/-- One slot's value, spelled otherwise. -/
theorem Has.rw {a : Act} {n : Nat} {e : Env} (h : Has a n e) (t : Nat) {v v' : Value} (hl : lk e t = some v) (hv : v = v') : Has a n ((t, v') :: e) := by
  subst hv
  refine h.sub fun s u hs => ?_
  rw [lk_cons] at hs
  by_cases ht : t = s
  · subst ht; rw [if_pos rfl] at hs; rw [hl]; exact hs
  · rw [if_neg ht] at hs; exact hs

def ev (e : Env) : Operand → Option Value
  | .tmp t => lk e t
  | .const v => some v
  | .global g => some (.pointer (some ⟨g, 0, none⟩))
  | .func f => some (.func (.func f) #[] #[])

theorem Has.ev {a : Act} {n : Nat} {e : Env} (h : Has a n e) {x : Operand} {v : Value} (hx : SK.ev e x = some v) : a.eval x = v := by
  cases x with
  | tmp t =>
    have := h.at_ t v hx
    simp [Act.eval, this]
  | const u => simp [SK.ev] at hx; simp [Act.eval, hx]
  | global g => simp [SK.ev] at hx; simp [Act.eval, hx]
  | func f => simp [SK.ev] at hx; simp [Act.eval, hx]

def evs (e : Env) : List Operand → Option (List Value)
  | [] => some []
  | x :: xs => match ev e x, evs e xs with
    | some v, some r => some (v :: r)
    | _, _ => none

theorem Has.evs {a : Act} {n : Nat} {e : Env} (h : Has a n e) : ∀ {xs : List Operand} {vs : List Value}, SK.evs e xs = some vs → xs.map a.eval = vs
  | [], vs, hx => by simp [SK.evs] at hx; simp [hx]
  | x :: xs, vs, hx => by
    simp only [SK.evs] at hx
    split at hx
    · rename_i v r hv hr
      injection hx with hx
      subst hx
      simp [h.ev hv, h.evs hr]
    · cases hx

/-- Is an operation wanted, as far as the frame tells? -/
def wantE (ops : Array Oper) (e : Env) (g : Option (Nat × Bool)) : Option Bool :=
  match g with
  | none => some true
  | some (j, want) => match (ops[j]?).bind (·.dst) with
    | some d => match lk e d with
      | some (.bool b) => some (b == want)
      | some (.tuple _) => some false
      | _ => none
    | none => none

theorem Has.want {a : Act} {n : Nat} {e : Env} (h : Has a n e) {ops : Array Oper} {o : Oper} {b : Bool} (hw : wantE ops e o.guard = some b) : Region.wanted o (yielded ops a.tmps) = b := by
  unfold wantE at hw
  unfold Region.wanted
  split at hw
  · rename_i hg; rw [hg]; injection hw
  · rename_i j want hg
    rw [hg]
    split at hw
    · rename_i d hd
      split at hw
      · rename_i c hc
        injection hw with hw
        have := h.at_ d _ hc
        simp only [yielded, hd, Option.bind_some, this]
        subst hw
        cases c <;> cases want <;> rfl
      · rename_i c hc
        injection hw with hw
        have := h.at_ d _ hc
        simp only [yielded, hd, Option.bind_some, this]
        subst hw
        rfl
      · cases hw
    · cases hw

/-! ### 2. The types that a text names -/
structure TI where
  t : Nat
  desc : TypeDesc
  size : Nat
  bytes : Nat
  zero : Value

def TI.ok (P : Program) (i : TI) : Prop := P.underlying i.t = some i.desc ∧ ∃ x, P.info? i.t = some x ∧ x.size = i.size ∧ x.bytes = i.bytes ∧ x.zero = some i.zero

def TabOk (P : Program) : List TI → Prop
  | [] => True
  | i :: r => i.ok P ∧ TabOk P r

def lkT : List TI → Nat → Option TI
  | [], _ => none
  | i :: r, s => bif Nat.beq i.t s then some i else lkT r s

theorem TabOk.at_ {P : Program} : ∀ {tb : List TI} {t : Nat} {i : TI}, TabOk P tb → lkT tb t = some i → i.t = t ∧ i.ok P
  | [], t, i, _, h => by simp [lkT] at h
  | j :: r, t, i, hT, h => by
    simp only [lkT] at h
    cases hb : Nat.beq j.t t with
    | true => rw [hb] at h; simp at h; subst h; exact ⟨Nat.eq_of_beq_eq_true hb, hT.1⟩
    | false => rw [hb] at h; exact TabOk.at_ hT.2 h

section
variable {P : Program} {i : TI}
theorem TI.ok.und (h : i.ok P) (w : World) : (underlying i.t).run P w = .ok i.desc w := run_underlying h.1 w
theorem TI.ok.sizeOf (h : i.ok P) (w : World) : (sizeOf i.t).run P w = .ok i.size w := by
  obtain ⟨_, x, hx, h1, h2, h3⟩ := h
  simp [Go.sizeOf, typeInfo, hx, h1]
theorem TI.ok.zeroValue (h : i.ok P) (w : World) : (zeroValue i.t).run P w = .ok i.zero w := by
  obtain ⟨_, x, hx, h1, h2, h3⟩ := h
  simp [Go.zeroValue, typeInfo, hx, h3]
theorem TI.ok.bytesOf (h : i.ok P) (w : World) : ∃ x, (typeInfo i.t).run P w = .ok x w ∧ x.bytes = i.bytes := by
  obtain ⟨_, x, hx, h1, h2, h3⟩ := h
  exact ⟨x, by simp [typeInfo, hx], h2⟩
def isAggD : TypeDesc → Bool
  | .struct _ | .array _ _ => true
  | _ => false
theorem TI.ok.isAgg (h : i.ok P) (w : World) : (isAgg i.t).run P w = .ok (isAggD i.desc) w := by
  simp only [Go.isAgg, Sem.run_bind, h.und w, Result.andThen_ok]
  cases i.desc <;> rfl
end
end Go.SK
