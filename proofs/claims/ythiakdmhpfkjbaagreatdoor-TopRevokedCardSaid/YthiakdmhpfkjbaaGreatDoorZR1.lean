import Derived.WalkKit
import Derived.Deep.LoopGhost
import Derived.OrdersHeld
import Derived.KernelRfl
import Derived.Laws.MakeOwn
import Derived.Laws.StructEq
import Derived.ProofKit
import Derived.OpenShut
import Derived.ShutString
import Derived.ChangeOld
import Derived.Below
import Derived.SizedLaws
import Derived.ChangeSlices
import Derived.Carry
import Derived.Laws.BytesString
import Derived.Laws.IdiomStrings
import Derived.Lib.Overlaps
import Derived.Laws.Externs
import Derived.Conc.LoneSelectN
import Derived.Conc.LoneSelect
import Derived.Conc.LoneCalls
import Derived.Conc.SmallLaws
import Derived.Laws.Shifts
import Derived.MapKept
import Derived.Test.YthiakdmhpfkjbaaGreatDoorProg
import Derived.LaidEql
import Derived.Stop.Asserts
import Derived.RowKitTokens
set_option linter.unusedVariables false
set_option linter.unusedSimpArgs false
set_option linter.unusedVariables false
set_option linter.unusedSimpArgs false
namespace Go.SK
open Go
abbrev Env := List (Nat × Value)
def lk : Env → Nat → Option Value
  | [], _ => none
  | (t, v) :: e, s => bif Nat.beq t s then some v else lk e s
structure Has (a : Act) (n : Nat) (e : Env) : Prop where
  size : a.tmps.size = n
  defers : a.defers = []
  at_ : ∀ t v, lk e t = some v → a.tmps[t]? = some v
theorem lk_cons (t : Nat) (v : Value) (e : Env) (s : Nat) : lk ((t, v) :: e) s = if t = s then some v else lk e s := by
  simp only [lk]
  by_cases h : t = s
  · subst h; simp
  · rw [if_neg h]
    cases hb : Nat.beq t s with
    | true => exact absurd (Nat.eq_of_beq_eq_true hb) h
    | false => rfl
theorem Has.put {a : Act} {n : Nat} {e : Env} (h : Has a n e) {d : Nat} (hd : d < n) (v : Value) : Has (a.put (some d) v) n ((d, v) :: e) := by
  refine ⟨by simp [Act.put, h.size], h.defers, fun t u hl => ?_⟩
  rw [lk_cons] at hl
  by_cases ht : d = t
  · subst ht
    rw [if_pos rfl] at hl
    injection hl with hl
    subst hl
    simp [Act.put, h.size, hd]
  · rw [if_neg ht] at hl
    simp only [Act.put]
    rw [Array.getElem?_setIfInBounds_ne ht]
    exact h.at_ t u hl
theorem Has.sub {a : Act} {n : Nat} {e e' : Env} (h : Has a n e) (hs : ∀ t v, lk e' t = some v → lk e t = some v) : Has a n e' :=
  ⟨h.size, h.defers, fun t v hl => h.at_ t v (hs t v hl)⟩
def sel (e : Env) : List Nat → Option Env
  | [] => some []
  | t :: ts => match lk e t, sel e ts with
    | some v, some r => some ((t, v) :: r)
    | _, _ => none
theorem sel_lk {e : Env} : ∀ {ts : List Nat} {e' : Env}, sel e ts = some e' → ∀ t v, lk e' t = some v → lk e t = some v
  | [], e', h, t, v, hl => by simp [sel] at h; subst h; simp [lk] at hl
  | s :: ts, e', h, t, v, hl => by
    simp only [sel] at h
    split at h
    · rename_i u r hu hr
      injection h with h
      subst h
      rw [lk_cons] at hl
      by_cases hst : s = t
      · subst hst; rw [if_pos rfl] at hl; rw [hu]; exact hl
      · rw [if_neg hst] at hl; exact sel_lk hr t v hl
    · cases h
theorem Has.sel {a : Act} {n : Nat} {e e' : Env} (h : Has a n e) (ts : List Nat) (hs : SK.sel e ts = some e') : Has a n e' := h.sub (sel_lk hs)
theorem Has.rw {a : Act} {n : Nat} {e : Env} (h : Has a n e) (t : Nat) {v v' : Value} (hl : lk e t = some v) (hv : v = v') : Has a n ((t, v') :: e) := by
  subst hv
  refine h.sub fun s u hs => ?_
  rw [lk_cons] at hs
  by_cases ht : t = s
  · subst ht; rw [if_pos rfl] at hs; rw [hl]; exact hs
  · rw [if_neg ht] at hs; exact hs
def ev (e : Env) : Operand → Option Value
  | .tmp t => lk e t
  | .const v => some v
  | .global g => some (.pointer (some ⟨g, 0, none⟩))
  | .func f => some (.func (.func f) #[] #[])
theorem Has.ev {a : Act} {n : Nat} {e : Env} (h : Has a n e) {x : Operand} {v : Value} (hx : SK.ev e x = some v) : a.eval x = v := by
  cases x with
  | tmp t =>
    have := h.at_ t v hx
    simp [Act.eval, this]
  | const u => simp [SK.ev] at hx; simp [Act.eval, hx]
  | global g => simp [SK.ev] at hx; simp [Act.eval, hx]
  | func f => simp [SK.ev] at hx; simp [Act.eval, hx]
def evs (e : Env) : List Operand → Option (List Value)
  | [] => some []
  | x :: xs => match ev e x, evs e xs with
    | some v, some r => some (v :: r)
    | _, _ => none
theorem Has.evs {a : Act} {n : Nat} {e : Env} (h : Has a n e) : ∀ {xs : List Operand} {vs : List Value}, SK.evs e xs = some vs → xs.map a.eval = vs
  | [], vs, hx => by simp [SK.evs] at hx; simp [hx]
  | x :: xs, vs, hx => by
    simp only [SK.evs] at hx
    split at hx
    · rename_i v r hv hr
      injection hx with hx
      subst hx
      simp [h.ev hv, h.evs hr]
    · cases hx
def wantE (ops : Array Oper) (e : Env) (g : Option (Nat × Bool)) : Option Bool :=
  match g with
  | none => some true
  | some (j, want) => match (ops[j]?).bind (·.dst) with
    | some d => match lk e d with
      | some (.bool b) => some (b == want)
      | some (.tuple _) => some false
      | _ => none
    | none => none
theorem Has.want {a : Act} {n : Nat} {e : Env} (h : Has a n e) {ops : Array Oper} {o : Oper} {b : Bool} (hw : wantE ops e o.guard = some b) : Region.wanted o (yielded ops a.tmps) = b := by
  unfold wantE at hw
  unfold Region.wanted
  split at hw
  · rename_i hg; rw [hg]; injection hw
  · rename_i j want hg
    rw [hg]
    split at hw
    · rename_i d hd
      split at hw
      · rename_i c hc
        injection hw with hw
        have := h.at_ d _ hc
        simp only [yielded, hd, Option.bind_some, this]
        subst hw
        cases c <;> cases want <;> rfl
      · rename_i c hc
        injection hw with hw
        have := h.at_ d _ hc
        simp only [yielded, hd, Option.bind_some, this]
        subst hw
        rfl
      · cases hw
    · cases hw
structure TI where
  t : Nat
  desc : TypeDesc
  size : Nat
  bytes : Nat
  zero : Value
def TI.ok (P : Program) (i : TI) : Prop := P.underlying i.t = some i.desc ∧ ∃ x, P.info? i.t = some x ∧ x.size = i.size ∧ x.bytes = i.bytes ∧ x.zero = some i.zero
def TabOk (P : Program) : List TI → Prop
  | [] => True
  | i :: r => i.ok P ∧ TabOk P r
def lkT : List TI → Nat → Option TI
  | [], _ => none
  | i :: r, s => bif Nat.beq i.t s then some i else lkT r s
theorem TabOk.at_ {P : Program} : ∀ {tb : List TI} {t : Nat} {i : TI}, TabOk P tb → lkT tb t = some i → i.t = t ∧ i.ok P
  | [], t, i, _, h => by simp [lkT] at h
  | j :: r, t, i, hT, h => by
    simp only [lkT] at h
    cases hb : Nat.beq j.t t with
    | true => rw [hb] at h; simp at h; subst h; exact ⟨Nat.eq_of_beq_eq_true hb, hT.1⟩
    | false => rw [hb] at h; exact TabOk.at_ hT.2 h
section
variable {P : Program} {i : TI}
theorem TI.ok.und (h : i.ok P) (w : World) : (underlying i.t).run P w = .ok i.desc w := run_underlying h.1 w
theorem TI.ok.sizeOf (h : i.ok P) (w : World) : (sizeOf i.t).run P w = .ok i.size w := by
  obtain ⟨_, x, hx, h1, h2, h3⟩ := h
  simp [Go.sizeOf, typeInfo, hx, h1]
theorem TI.ok.zeroValue (h : i.ok P) (w : World) : (zeroValue i.t).run P w = .ok i.zero w := by
  obtain ⟨_, x, hx, h1, h2, h3⟩ := h
  simp [Go.zeroValue, typeInfo, hx, h3]
theorem TI.ok.bytesOf (h : i.ok P) (w : World) : ∃ x, (typeInfo i.t).run P w = .ok x w ∧ x.bytes = i.bytes := by
  obtain ⟨_, x, hx, h1, h2, h3⟩ := h
  exact ⟨x, by simp [typeInfo, hx], h2⟩
def isAggD : TypeDesc → Bool
  | .struct _ | .array _ _ => true
  | _ => false
theorem TI.ok.isAgg (h : i.ok P) (w : World) : (isAgg i.t).run P w = .ok (isAggD i.desc) w := by
  simp only [Go.isAgg, Sem.run_bind, h.und w, Result.andThen_ok]
  cases i.desc <;> rfl
end
end Go.SK

set_option linter.unusedVariables false
set_option linter.unusedSimpArgs false
namespace Go.SK
open Go
def pureInt (op : BinOp) (k : IntKind) (x y : Int) : Option Value :=
  match op with
  | .add => some (.int k (k.wrap (x + y)))
  | .sub => some (.int k (k.wrap (x - y)))
  | .mul => some (.int k (k.wrap (x * y)))
  | .eql => some (.bool (x == y))
  | .neq => some (.bool (x != y))
  | .lss => some (.bool (x < y))
  | .leq => some (.bool (x ≤ y))
  | .gtr => some (.bool (x > y))
  | .geq => some (.bool (x ≥ y))
  | .quo => if y = 0 then none else some (.int k (k.wrap (x.tdiv y)))
  | .rem => if y = 0 then none else some (.int k (x.tmod y))
  | _ => none
def isIface : TypeDesc → Bool
  | .interface _ => true
  | _ => false
def isBoolD : TypeDesc → Bool
  | .bool => true
  | _ => false
def isSliceD : TypeDesc → Bool
  | .slice _ => true
  | _ => false
def isStringD : TypeDesc → Bool
  | .string => true
  | _ => false
def isPtrD : TypeDesc → Bool
  | .pointer _ => true
  | _ => false
def descIs (tb : List TI) (f : TypeDesc → Bool) (t : TypeId) : Bool := match lkT tb t with | some i => f i.desc | none => false
def isLit : Operand → Bool
  | .const _ => true
  | _ => false
def pureBin (tb : List TI) (op : BinOp) (lit : Bool) (t : TypeId) (x y : Value) : Option Value :=
  match x, y with
  | .int k a, .int k' b => if k = k' then pureInt op k a b else none
  | .bool a, .bool b => bif descIs tb isBoolD t then (match op with | .eql => some (.bool (a == b)) | .neq => some (.bool (!(a == b))) | _ => none) else none
  | .string a, .string b => (match op with | .eql => some (.bool (a.toList == b.toList)) | .neq => some (.bool (!(a.toList == b.toList))) | _ => none)
  | .iface _ _, .nilIface => bif descIs tb isIface t then (match op with | .eql => some (.bool false) | .neq => some (.bool true) | _ => none) else none
  | .nilIface, .nilIface => bif lit && descIs tb isIface t then (match op with | .eql => some (.bool true) | .neq => some (.bool false) | _ => none) else none
  | .slice a _ _, .slice none _ _ => bif descIs tb isSliceD t then (match op with | .eql => some (.bool a.isNone) | .neq => some (.bool (!a.isNone)) | _ => none) else none
  | .pointer a, .pointer none => bif descIs tb isPtrD t then (match op with | .eql => some (.bool a.isNone) | .neq => some (.bool (!a.isNone)) | _ => none) else none
  | _, _ => none
def fieldOff (tb : List TI) (s f : Nat) : Option Nat :=
  match lkT tb s with
  | some i => match i.desc with
    | .struct fs => match fs[f]? with
      | some fl => match lkT tb fl.type with
        | some j => if j.size = 0 then none else some fl.offset
        | none => none
      | none => none
    | _ => none
  | none => none
def pureField (tb : List TI) (s f : Nat) (cs : Array Value) : Option Value :=
  match lkT tb s with
  | some i => match i.desc with
    | .struct fs => match fs[f]? with
      | some fl => match lkT tb fl.type with
        | some j => bif isAggD j.desc then some (.agg (cs.extract fl.offset (fl.offset + j.size))) else cs[fl.offset]?
        | none => none
      | none => none
    | _ => none
  | none => none
def placesOf (tb : List TI) : List Field → Option (List (Nat × Nat))
  | [] => some []
  | f :: r => match lkT tb f.type, placesOf tb r with
    | some j, some ps => some ((f.offset, j.size) :: ps)
    | _, _ => none
def evps (e : Env) : List (Nat × Operand) → Option (List (Nat × Value))
  | [] => some []
  | (i, x) :: xs => match ev e x, evps e xs with
    | some v, some r => some ((i, v) :: r)
    | _, _ => none
def pureBuild (tb : List TI) (t : Nat) (parts : List (Nat × Value)) : Option Value :=
  match lkT tb t with
  | some i => match i.desc with
    | .struct fs => match placesOf tb fs.toList with
      | some ps => (Instr.fill (fun j => ps[j]?) i.zero.cells parts).map .agg
      | none => none
    | _ => none
  | none => none
def pureBuiltin (tb : List TI) (b : Builtin) (ts : List Nat) (vs : List Value) : Option Value :=
  match b, ts, vs with
  | .len, [t], [.slice _ n _] => bif descIs tb isSliceD t then some (.int .i64 n) else none
  | .len, [t], [.string s] => bif descIs tb isStringD t then some (.int .i64 s.size) else none
  | .cap, [t], [.slice _ _ c] => bif descIs tb isSliceD t then some (.int .i64 c) else none
  | .max, _, [.int k x, .int _ y] => some (.int k (if y > x then y else x))
  | .min, _, [.int k x, .int _ y] => some (.int k (if y < x then y else x))
  | _, _, _ => none
def pureOp (tb : List TI) (e : Env) : Op → Option Value
  | .move x => ev e x
  | .assign x => ev e x
  | .pick c x y => match ev e c with
    | some (.bool true) => ev e x
    | some (.bool false) => ev e y
    | _ => none
  | .extract t i => match ev e t with
    | some (.tuple vs) => vs[i]?
    | _ => none
  | .makeFunc fn first cap => match evs e first.toList, evs e cap.toList with
    | some f, some c => some (.func fn f.toArray c.toArray)
    | _, _ => none
  | .unOp .not _ x => match ev e x with
    | some (.bool b) => some (.bool (!b))
    | _ => none
  | .unOp .neg _ x => match ev e x with
    | some (.int k m) => some (.int k (k.wrap (0 - m)))
    | _ => none
  | .binOp op t x y _ => match ev e x, ev e y with
    | some u, some v => pureBin tb op (isLit x || isLit y) t u v
    | _, _ => none
  | .makeInterface t x => match lkT tb t with
    | some i => bif isIface i.desc then none else (ev e x).map (.iface t)
    | none => none
  | .fieldAddr s x f => match ev e x with
    | some (.pointer (some ⟨b, off, none⟩)) => (fieldOff tb s f).map fun k => .pointer (some ⟨b, off + k, none⟩)
    | _ => none
  | .field s x f => match ev e x with
    | some (.agg cs) => pureField tb s f cs
    | _ => none
  | .convert src dst x => match ev e x, lkT tb src, lkT tb dst with
    | some (.int _ m), some i, some j => match i.desc, j.desc with
      | .int _, .int k => some (.int k (k.wrap m))
      | _, _ => none
    | _, _, _ => none
  | .build t parts => match evps e parts.toList with
    | some vs => pureBuild tb t vs
    | none => none
  | .nilCheck x => match ev e x with
    | some (.pointer (some p)) => some (.pointer (some p))
    | _ => none
  | .call c => match c.callee with
    | .builtin b => match evs e c.args.toList with
      | some vs => pureBuiltin tb b c.argTypes.toList vs
      | none => none
    | _ => none
  | _ => none
section
variable {P : Program} {tb : List TI}
theorem descIs_spec (hT : TabOk P tb) {f : TypeDesc → Bool} {t : Nat} (h : descIs tb f t = true) : ∃ d, P.underlying t = some d ∧ f d = true := by
  unfold descIs at h
  split at h
  · rename_i i hi
    obtain ⟨ht, hok⟩ := hT.at_ hi
    exact ⟨i.desc, ht ▸ hok.1, h⟩
  · cases h
theorem evps_spec {a : Act} {n : Nat} {e : Env} (hA : Has a n e) : ∀ {xs : List (Nat × Operand)} {vs : List (Nat × Value)}, evps e xs = some vs → xs.map (fun p => (p.1, a.eval p.2)) = vs
  | [], vs, h => by simp [evps] at h; simp [h]
  | (i, x) :: xs, vs, h => by
    simp only [evps] at h
    split at h
    · rename_i v r hv hr
      injection h with h
      subst h
      simp [hA.ev hv, evps_spec hA hr]
    · cases h
theorem pureInt_run (w : World) {op : BinOp} {k : IntKind} {x y : Int} {v : Value} (h : pureInt op k x y = some v) (t : TypeId) : (binOp op t (.int k x) (.int k y)).run P w = .ok v w := by
  cases op <;> simp only [pureInt] at h
  case quo =>
    split at h
    · cases h
    · rename_i hy; injection h with h; subst h; simp [binOp, Op.intDiv, hy]
  case rem =>
    split at h
    · cases h
    · rename_i hy; injection h with h; subst h; simp [binOp, Op.intDiv, hy]
  all_goals first
    | (cases h; done)
    | (injection h with h; subst h; simp [binOp, Op.intArith, Op.intCmp])
theorem eqIn_ifv (w : World) (d : Nat) {t u : TypeId} {x : Value} {ms : Array (String × TypeId)} (hm : P.underlying t = some (.interface ms)) : (Op.equalIn (d + 1) t (.iface u x) .nilIface).run P w = .ok false w := by simp [Op.equalIn, run_underlying hm]
theorem eqIn_nn (w : World) (d : Nat) {t : TypeId} {ms : Array (String × TypeId)} (hm : P.underlying t = some (.interface ms)) : (Op.equalIn (d + 1) t .nilIface .nilIface).run P w = .ok true w := by simp [Op.equalIn, run_underlying hm]
theorem eqIn_sl (w : World) (d : Nat) {t m : TypeId} (a : Option Addr) (n c n' c' : Nat) (hm : P.underlying t = some (.slice m)) : (Op.equalIn (d + 1) t (.slice a n c) (.slice none n' c')).run P w = .ok a.isNone w := by cases a <;> simp [Op.equalIn, run_underlying hm]
theorem eqIn_pt (w : World) (d : Nat) {t m : TypeId} (a : Option Addr) (hm : P.underlying t = some (.pointer m)) : (Op.equalIn (d + 1) t (.pointer a) (.pointer none)).run P w = .ok a.isNone w := by cases a <;> simp [Op.equalIn, run_underlying hm]
theorem pureBin_run (hT : TabOk P tb) (w : World) {op : BinOp} {lit : Bool} {t : TypeId} {x y v : Value} (h : pureBin tb op lit t x y = some v) : (binOp op t x y).run P w = .ok v w := by
  unfold pureBin at h
  split at h
  · split at h
    · rename_i hk; subst hk; exact pureInt_run w h t
    · cases h
  · cases hd : descIs tb isBoolD t with
    | false => rw [hd] at h; cases h
    | true =>
      rw [hd] at h
      obtain ⟨d, hu, hf⟩ := descIs_spec hT hd
      have hu' : P.underlying t = some .bool := by cases d <;> first | exact hu | cases hf
      simp only [cond_true] at h
      split at h
      · injection h with h; subst h; exact run_eql_bool w t _ _ hu'
      · injection h with h; subst h; exact run_neq_bool w t _ _ hu'
      · cases h
  · split at h
    · injection h with h; subst h; simp [binOp, Op.stringOp]
    · injection h with h; subst h; simp [binOp, Op.stringOp]
    · cases h
  · cases hd : descIs tb isIface t with
    | false => rw [hd] at h; cases h
    | true =>
      rw [hd] at h
      obtain ⟨d, hu, hf⟩ := descIs_spec hT hd
      obtain ⟨ms, hm⟩ : ∃ ms, P.underlying t = some (.interface ms) := by cases d <;> first | exact ⟨_, hu⟩ | cases hf
      simp only [cond_true] at h
      split at h
      · injection h with h; subst h; simp only [binOp, Sem.run_bind, Op.equal, Op.maxDepth, eqIn_ifv w 9999 hm, Result.andThen_ok, Sem.run_pure]
      · injection h with h; subst h; simp only [binOp, Sem.run_bind, Op.equal, Op.maxDepth, eqIn_ifv w 9999 hm, Result.andThen_ok, Sem.run_pure, Bool.not_false]
      · cases h
  · cases hd : (lit && descIs tb isIface t) with
    | false => rw [hd] at h; cases h
    | true =>
      rw [hd] at h
      obtain ⟨d, hu, hf⟩ := descIs_spec hT (Bool.and_eq_true_iff.1 hd).2
      obtain ⟨ms, hm⟩ : ∃ ms, P.underlying t = some (.interface ms) := by cases d <;> first | exact ⟨_, hu⟩ | cases hf
      simp only [cond_true] at h
      split at h
      · injection h with h; subst h; simp only [binOp, Sem.run_bind, Op.equal, Op.maxDepth, eqIn_nn w 9999 hm, Result.andThen_ok, Sem.run_pure]
      · injection h with h; subst h; simp only [binOp, Sem.run_bind, Op.equal, Op.maxDepth, eqIn_nn w 9999 hm, Result.andThen_ok, Sem.run_pure, Bool.not_true]
      · cases h
  · cases hd : descIs tb isSliceD t with
    | false => rw [hd] at h; cases h
    | true =>
      rw [hd] at h
      obtain ⟨d, hu, hf⟩ := descIs_spec hT hd
      obtain ⟨ms, hm⟩ : ∃ ms, P.underlying t = some (.slice ms) := by cases d <;> first | exact ⟨_, hu⟩ | cases hf
      simp only [cond_true] at h
      split at h
      · injection h with h; subst h; simp only [binOp, Sem.run_bind, Op.equal, Op.maxDepth, eqIn_sl w 9999 _ _ _ _ _ hm, Result.andThen_ok, Sem.run_pure]
      · injection h with h; subst h; simp only [binOp, Sem.run_bind, Op.equal, Op.maxDepth, eqIn_sl w 9999 _ _ _ _ _ hm, Result.andThen_ok, Sem.run_pure]
      · cases h
  · cases hd : descIs tb isPtrD t with
    | false => rw [hd] at h; cases h
    | true =>
      rw [hd] at h
      obtain ⟨d, hu, hf⟩ := descIs_spec hT hd
      obtain ⟨ms, hm⟩ : ∃ ms, P.underlying t = some (.pointer ms) := by cases d <;> first | exact ⟨_, hu⟩ | cases hf
      simp only [cond_true] at h
      split at h
      · injection h with h; subst h; simp only [binOp, Sem.run_bind, Op.equal, Op.maxDepth, eqIn_pt w 9999 _ hm, Result.andThen_ok, Sem.run_pure]
      · injection h with h; subst h; simp only [binOp, Sem.run_bind, Op.equal, Op.maxDepth, eqIn_pt w 9999 _ hm, Result.andThen_ok, Sem.run_pure]
      · cases h
  · cases h
theorem eqGuard_run (w : World) {op : BinOp} {t : TypeId} {x y : Operand} {u v r : Value} (h : pureBin tb op (isLit x || isLit y) t u v = some r) : (eqGuard op t x y u v).run P w = .ok () w := by
  by_cases hn : u = .nilIface ∧ v = .nilIface
  · obtain ⟨rfl, rfl⟩ := hn
    have hd : (isLit x || isLit y) = true := by
      cases hd : (isLit x || isLit y) with
      | true => rfl
      | false => rw [hd] at h; simp [pureBin] at h
    unfold eqGuard
    cases op <;> (try rfl) <;> (cases x <;> cases y <;> first | rfl | (simp [isLit] at hd; done))
  · unfold eqGuard
    unfold pureBin at h
    split at h
    case h_5 => exact absurd ⟨rfl, rfl⟩ hn
    case h_8 => cases h
    all_goals (cases op <;> first | rfl | simp)
theorem places_spec (hT : TabOk P tb) (w : World) : ∀ {fs : List Field} {ps : List (Nat × Nat)}, placesOf tb fs = some ps →
    ((fs.mapM (fun f => (do pure (f.offset, ← Go.sizeOf f.type) : Sem (Nat × Nat)))).run P w = .ok ps w)
  | [], ps, h => by simp [placesOf] at h; subst h; simp
  | f :: fs, ps, h => by
    simp only [placesOf] at h
    split at h
    · rename_i j qs hj hq
      injection h with h
      subst h
      obtain ⟨ht, hok⟩ := hT.at_ hj
      have := hok.sizeOf w
      rw [ht] at this
      have ih := places_spec hT w hq
      simp only [List.mapM_cons, Sem.run_bind, this, Result.andThen_ok, Sem.run_pure, ih]
    · cases h
theorem pureOp_run (hT : TabOk P tb) {a : Act} {n : Nat} {e : Env} (hA : Has a n e) {o : Oper} {v : Value} (h : pureOp tb e o.op = some v) (w : World) : (execOp a.eval o).run P w = .ok (.value v) w := by
  obtain ⟨dst, op, ty, pos, af, g⟩ := o
  unfold execOp
  cases op <;> simp only [pureOp] at h
  case move x => simp [hA.ev h]
  case assign x => simp [hA.ev h]
  case pick c x y =>
    split at h
    · rename_i hc; simp [hA.ev hc, hA.ev h, asBool]
    · rename_i hc; simp [hA.ev hc, hA.ev h, asBool]
    · cases h
  case extract t i =>
    split at h
    · rename_i vs ht; simp [hA.ev ht, Instr.extract, h]
    · cases h
  case makeFunc fn first cap =>
    split at h
    · rename_i f c hf hc
      injection h with h; subst h
      have h1 := hA.evs hf
      have h2 := hA.evs hc
      have e1 : first.map a.eval = f.toArray := by rw [← h1]; apply Array.ext'; simp
      have e2 : cap.map a.eval = c.toArray := by rw [← h2]; apply Array.ext'; simp
      simp [Instr.makeFunc, e1, e2]
    · cases h
  case unOp u t x =>
    cases u <;> simp only [pureOp] at h <;> try (cases h; done)
    · split at h
      · rename_i hx; injection h with h; subst h; simp [hA.ev hx, Op.unary, Op.intArith]
      · cases h
    · split at h
      · rename_i hx; injection h with h; subst h; simp [hA.ev hx, Op.unary]
      · cases h
  case binOp op t x y yt =>
    split at h
    · rename_i u v' hx hy
      simp [hA.ev hx, hA.ev hy, eqGuard_run w h, pureBin_run hT w h]
    · cases h
  case makeInterface t x =>
    split at h
    · rename_i i hi
      obtain ⟨ht, hok⟩ := hT.at_ hi
      cases hd : isIface i.desc with
      | true => rw [hd] at h; cases h
      | false =>
        rw [hd] at h
        simp only [cond_false, Option.map_eq_some_iff] at h
        obtain ⟨u, hu, rfl⟩ := h
        have := hok.und w
        rw [ht] at this
        simp only [Instr.makeInterface, Sem.run_bind, this, Result.andThen_ok, hA.ev hu]
        cases hdd : i.desc <;> rw [hdd] at hd <;> first | rfl | cases hd
    · cases h
  case fieldAddr s x f =>
    split at h
    · rename_i b off hx
      simp only [Option.map_eq_some_iff] at h
      obtain ⟨k, hk, rfl⟩ := h
      unfold fieldOff at hk
      split at hk
      · rename_i i hi
        obtain ⟨ht, hok⟩ := hT.at_ hi
        split at hk
        · rename_i fs hfs
          split at hk
          · rename_i fl hfl
            split at hk
            · rename_i j hj
              obtain ⟨htj, hokj⟩ := hT.at_ hj
              split at hk
              · cases hk
              · rename_i hsz
                injection hk with hk; subst hk
                have h1 := hok.und w
                rw [ht, hfs] at h1
                have h2 := hokj.sizeOf w
                rw [htj] at h2
                have hadd : (⟨b, off, none⟩ : Addr).add fl.offset = ⟨b, off + fl.offset, none⟩ := by unfold Addr.add; split <;> simp_all
                simp [Instr.fieldAt, h1, hfl, Instr.sureAddr, hA.ev hx, fieldPlace, h2, hsz, hadd]
            · cases hk
          · cases hk
        · cases hk
      · cases hk
    · cases h
  case field s x f =>
    split at h
    · rename_i cs hx
      unfold pureField at h
      split at h
      · rename_i i hi
        obtain ⟨ht, hok⟩ := hT.at_ hi
        split at h
        · rename_i fs hfs
          split at h
          · rename_i fl hfl
            split at h
            · rename_i j hj
              obtain ⟨htj, hokj⟩ := hT.at_ hj
              have h1 := hok.und w
              rw [ht, hfs] at h1
              have h2 := hokj.sizeOf w
              rw [htj] at h2
              have h3 := hokj.isAgg w
              rw [htj] at h3
              cases hd : isAggD j.desc with
              | true =>
                rw [hd] at h h3
                simp only [cond_true, Option.some.injEq] at h
                subst h
                simp [Instr.field, h1, hfl, part, h3, h2, hA.ev hx, asAgg]
              | false =>
                rw [hd] at h h3
                simp only [cond_false] at h
                simp [Instr.field, h1, hfl, part, h3, hA.ev hx, asAgg, h]
            · cases h
          · cases h
        · cases h
      · cases h
    · cases h
  case convert src dst x =>
    split at h
    · rename_i k0 m i j hx hi hj
      obtain ⟨hti, hoki⟩ := hT.at_ hi
      obtain ⟨htj, hokj⟩ := hT.at_ hj
      split at h
      · rename_i k1 k hk1 hk
        injection h with h; subst h
        have h1 := hoki.und w
        rw [hti, hk1] at h1
        have h2 := hokj.und w
        rw [htj, hk] at h2
        simp [convert, h1, h2, hA.ev hx, Conv.intToInt]
      · cases h
    · cases h
  case build t parts =>
    split at h
    · rename_i vs hvs
      have hp := evps_spec hA hvs
      unfold pureBuild at h
      split at h
      · rename_i i hi
        obtain ⟨ht, hok⟩ := hT.at_ hi
        split at h
        · rename_i fs hfs
          split at h
          · rename_i ps hps
            simp only [Option.map_eq_some_iff] at h
            obtain ⟨cs, hcs, rfl⟩ := h
            have h1 := hok.und w
            rw [ht, hfs] at h1
            have h2 := hok.zeroValue w
            rw [ht] at h2
            have h3 := places_spec hT w hps
            have h4 : (parts.map fun x => (x.1, a.eval x.2)).toList = vs := by rw [← hp]; simp
            have h5 : (fs.mapM (fun f => (do pure (f.offset, ← Go.sizeOf f.type) : Sem (Nat × Nat)))).run P w = .ok ps.toArray w := by
              rw [← Array.toArray_toList (xs := fs), List.mapM_toArray]
              simp only [Sem.run_map, h3, Result.andThen_ok]
            simp only [Instr.build, Sem.run_bind, h2, h1, Result.andThen_ok, h5]
            rw [h4]
            have h6 : (fun x : Nat => ps.toArray[x]?) = (fun j : Nat => ps[j]?) := by funext j; simp
            simp only [h6, hcs]
            rfl
          · cases h
        · cases h
      · cases h
    · cases h
  case nilCheck x =>
    split at h
    · rename_i p hx; injection h with h; subst h; simp [hA.ev hx]
    · cases h
  case call c =>
    obtain ⟨callee, args, ts⟩ := c
    cases callee <;> simp only at h <;> try (cases h; done)
    rename_i b
    split at h
    · rename_i vs hvs
      have h1 := hA.evs hvs
      have h2 : args.map a.eval = vs.toArray := by rw [← h1]; apply Array.ext'; simp
      unfold pureBuiltin at h
      simp only [resolve, Sem.run_bind, Sem.run_pure, Result.andThen_ok, h2, invoke]
      split at h
      · rename_i t x m c hts
        cases hd : descIs tb isSliceD t with
        | false => rw [hd] at h; cases h
        | true =>
          rw [hd] at h
          simp only [cond_true, Option.some.injEq] at h
          subst h
          obtain ⟨d, hu, hf⟩ := descIs_spec hT hd
          obtain ⟨ms, hm⟩ : ∃ ms, P.underlying t = some (.slice ms) := by cases d <;> first | exact ⟨_, hu⟩ | cases hf
          have : ts = #[t] := by rw [← Array.toArray_toList (xs := ts), hts]
          subst this
          simp [builtin, Builtin.len_, run_underlying hm, goInt]
      · rename_i t s hts
        cases hd : descIs tb isStringD t with
        | false => rw [hd] at h; cases h
        | true =>
          rw [hd] at h
          simp only [cond_true, Option.some.injEq] at h
          subst h
          obtain ⟨d, hu, hf⟩ := descIs_spec hT hd
          have hm : P.underlying t = some .string := by cases d <;> first | exact hu | cases hf
          have : ts = #[t] := by rw [← Array.toArray_toList (xs := ts), hts]
          subst this
          simp [builtin, Builtin.len_, run_underlying hm, goInt]
      · rename_i t x m c hts
        cases hd : descIs tb isSliceD t with
        | false => rw [hd] at h; cases h
        | true =>
          rw [hd] at h
          simp only [cond_true, Option.some.injEq] at h
          subst h
          obtain ⟨d, hu, hf⟩ := descIs_spec hT hd
          obtain ⟨ms, hm⟩ : ∃ ms, P.underlying t = some (.slice ms) := by cases d <;> first | exact ⟨_, hu⟩ | cases hf
          have : ts = #[t] := by rw [← Array.toArray_toList (xs := ts), hts]
          subst this
          simp [builtin, Builtin.cap_, run_underlying hm, goInt]
      · injection h with h; subst h; simp [builtin, Builtin.max_, Builtin.max2]
      · injection h with h; subst h; simp [builtin, Builtin.min_, Builtin.min2]
      · cases h
    · cases h
  all_goals (cases h)
end
end Go.SK

set_option linter.unusedVariables false
set_option linter.unusedSimpArgs false
namespace Go.SK
open Go
def runE (tb : List TI) (ops : Array Oper) (n : Nat) : List Oper → Env → Option Env
  | [], e => some e
  | o :: l, e =>
    match o.dst with
    | none => none
    | some d => bif Nat.blt d n then
        (match wantE ops e o.guard with
        | some true => match pureOp tb e o.op with
          | some v => runE tb ops n l ((d, v) :: e)
          | none => none
        | some false => runE tb ops n l ((d, undef) :: e)
        | none => none)
      else none
section
variable {P : Program} {tb : List TI} {ops : Array Oper} {Q : Exit → Act → World → Prop} {a : Act} {w : World} {n : Nat} {e : Env}
theorem wpList_wanted {o : Oper} {rest : List Oper} (hw : Region.wanted o (yielded ops a.tmps) = true) (h : o.wp P a w (wpList P ops Q rest) Q) : wpList P ops Q (o :: rest) a w := by
  simp only [wpList]; rw [if_pos hw]; exact .inl h
theorem wpList_unwanted {o : Oper} {rest : List Oper} (hw : Region.wanted o (yielded ops a.tmps) = false) (h : wpList P ops Q rest (a.put o.dst undef) w) : wpList P ops Q (o :: rest) a w := by
  simp only [wpList]; rw [hw]; simpa using h
theorem st_run (hT : TabOk P tb) {l : List Oper} (k : Nat) {e' : Env} (hA : Has a n e) (h : runE tb ops n (l.take k) e = some e')
    (c : ∀ a', Has a' n e' → wpList P ops Q (l.drop k) a' w) : wpList P ops Q l a w := by
  induction k generalizing l a e with
  | zero => simp [runE] at h; subst h; exact c a hA
  | succ k ih =>
    cases l with
    | nil => simp [runE] at h; subst h; exact c a hA
    | cons o l =>
      simp only [List.take_succ_cons, runE] at h
      split at h
      · cases h
      · rename_i d hd
        cases hb : Nat.blt d n with
        | false => rw [hb] at h; cases h
        | true =>
          rw [hb] at h
          simp only [cond_true] at h
          have hdn : d < n := by simpa [Nat.blt_eq] using hb
          split at h
          · rename_i hw
            split at h
            · rename_i v hv
              refine wpList_wanted (hA.want hw) ?_
              unfold Oper.wp
              rw [pureOp_run hT hA hv w, Oper.upon_value, hd]
              exact ih (hA.put hdn v) h (by simpa using c)
            · cases h
          · rename_i hw
            refine wpList_unwanted (hA.want hw) ?_
            rw [hd]
            exact ih (hA.put hdn undef) h (by simpa using c)
          · cases h
theorem st_no {o : Oper} {rest : List Oper} {d : Nat} (hA : Has a n e) (hw : wantE ops e o.guard = some false) (hd : o.dst = some d) (hdn : d < n)
    (c : ∀ a', Has a' n ((d, undef) :: e) → wpList P ops Q rest a' w) : wpList P ops Q (o :: rest) a w :=
  wpList_unwanted (hA.want hw) (by rw [hd]; exact c _ (hA.put hdn undef))
theorem st_val {o : Oper} {rest : List Oper} {d : Nat} {v : Value} {w' : World} (hA : Has a n e) (hw : wantE ops e o.guard = some true) (hd : o.dst = some d) (hdn : d < n)
    (hr : (execOp a.eval o).run P w = .ok (.value v) w') (c : ∀ a', Has a' n ((d, v) :: e) → wpList P ops Q rest a' w') : wpList P ops Q (o :: rest) a w := by
  refine wpList_wanted (hA.want hw) ?_
  unfold Oper.wp
  rw [hr, Oper.upon_value, hd]
  exact c _ (hA.put hdn v)
theorem st_val0 {o : Oper} {rest : List Oper} {v : Value} {w' : World} (hA : Has a n e) (hw : wantE ops e o.guard = some true) (hd : o.dst = none)
    (hr : (execOp a.eval o).run P w = .ok (.value v) w') (c : wpList P ops Q rest a w') : wpList P ops Q (o :: rest) a w := by
  refine wpList_wanted (hA.want hw) ?_
  unfold Oper.wp
  rw [hr, Oper.upon_value, hd]
  exact c
theorem st_skip {o : Oper} {rest : List Oper} {w' : World} (hA : Has a n e) (hw : wantE ops e o.guard = some true) (hd : o.dst = none)
    (hr : (execOp a.eval o).run P w = .ok .skip w') (c : wpList P ops Q rest a w') : wpList P ops Q (o :: rest) a w := by
  refine wpList_wanted (hA.want hw) ?_
  unfold Oper.wp
  rw [hr, Oper.upon_skip, hd]
  exact c
def Ret (P : Program) (f : FuncId) (args : Array Value) (w : World) (R : Value → World → Prop) : Prop :=
  Calls P f args w fun en w' => ∃ v, en = .returned v ∧ R v w'
theorem Ret.mono {f : FuncId} {args : Array Value} {R R' : Value → World → Prop} (h : Ret P f args w R) (hr : ∀ v w', R v w' → R' v w') : Ret P f args w R' :=
  Calls.mono h fun _ _ ⟨v, hv, h⟩ => ⟨v, hv, hr v _ h⟩
def IsFn (P : Program) (f : FuncId) : Prop := ∀ args w, (callFunc f args).run P w = .ok (.enter f args) w
theorem st_call {o : Oper} {rest : List Oper} {d : Nat} {c : Call} {fv : Operand} {f : FuncId} {first cap : Array Value} {vs : List Value} {R : Value → World → Prop}
    (hA : Has a n e) (ho : o.op = .call c) (hfv : c.callee = .value fv) (hf : ev e fv = some (.func (.func f) first cap)) (hvs : evs e c.args.toList = some vs)
    (hfn : IsFn P f) (hw : wantE ops e o.guard = some true) (hd : o.dst = some d) (hdn : d < n)
    (hC : Ret P f (first ++ vs.toArray ++ cap) w R)
    (k : ∀ v w' a', R v w' → Has a' n ((d, v) :: e) → wpList P ops Q rest a' w') : wpList P ops Q (o :: rest) a w := by
  refine wpList_wanted (hA.want hw) ?_
  have h1 := hA.evs hvs
  have h2 : c.args.map a.eval = vs.toArray := by rw [← h1]; apply Array.ext'; simp
  have hr : (execOp a.eval o).run P w = .ok (.enter f (first ++ vs.toArray ++ cap)) w := by
    unfold execOp
    rw [ho]
    simp only [resolve, hfv, hA.ev hf, Deferred.ofValue, h2, Sem.run_bind, Sem.run_pure, Result.andThen_ok, invoke]
    exact hfn _ _
  unfold Oper.wp
  rw [hr, Oper.upon_enter]
  refine Calls.mono hC ?_
  rintro en w' ⟨v, rfl, hR⟩
  show wpList P ops Q rest (a.put o.dst v) w'
  rw [hd]
  exact k v w' _ hR (hA.put hdn v)
theorem mkArr (vs : List Value) : (#[] : Array Value) ++ vs.toArray ++ (#[] : Array Value) = vs.toArray := by simp
theorem st_call0 {o : Oper} {rest : List Oper} {d : Nat} {c : Call} {f : FuncId} {vs : List Value} {R : Value → World → Prop}
    (hA : Has a n e) (ho : o.op = .call c) (hfv : c.callee = .value (.func f)) (hvs : evs e c.args.toList = some vs)
    (hfn : IsFn P f) (hw : wantE ops e o.guard = some true) (hd : o.dst = some d) (hdn : d < n)
    (hC : Ret P f vs.toArray w R)
    (k : ∀ v w' a', R v w' → Has a' n ((d, v) :: e) → wpList P ops Q rest a' w') : wpList P ops Q (o :: rest) a w :=
  st_call hA ho hfv (f := f) (first := #[]) (cap := #[]) rfl hvs hfn hw hd hdn (by rw [mkArr]; exact hC) k
def mkE (i : Nat) : List Value → Env
  | [] => []
  | v :: r => (i, v) :: mkE (i + 1) r
theorem lk_mkE : ∀ (vs : List Value) (i t : Nat) (v : Value), lk (mkE i vs) t = some v → i ≤ t ∧ vs[t - i]? = some v
  | [], i, t, v, h => by simp [mkE, lk] at h
  | u :: r, i, t, v, h => by
    simp only [mkE] at h
    rw [lk_cons] at h
    by_cases hit : i = t
    · subst hit; rw [if_pos rfl] at h; simpa using h
    · rw [if_neg hit] at h
      obtain ⟨h1, h2⟩ := lk_mkE r (i + 1) t v h
      refine ⟨by omega, ?_⟩
      rw [show t - i = (t - (i + 1)) + 1 by omega, List.getElem?_cons_succ]
      exact h2
theorem enter {f : FuncId} {fn : Func} {c : Code} {vs : List Value} {R : Value → World → Prop} (m : Nat)
    (hf : P.funcs[f]? = some fn) (hb : fn.body = some c) (hn : fn.ntmps = m) (hm : vs.length ≤ m)
    (h : ∀ a, Has a m (mkE 0 vs) → c.wp P (bodyPost P fn fun en w' => ∃ v, en = .returned v ∧ R v w') a w) : Ret P f vs.toArray w R := by
  refine calls_of_wp hf hb (h _ ⟨?_, rfl, ?_⟩)
  · simp; omega
  · intro t v hl
    obtain ⟨_, h2⟩ := lk_mkE vs 0 t v hl
    simp only [Nat.sub_zero] at h2
    have hlt := (List.getElem?_eq_some_iff.1 h2).1
    simp only []
    rw [Array.getElem?_append_left (by simpa using hlt)]
    simpa using h2
theorem ret1 {fn : Func} {R : Value → World → Prop} {t : Nat} {v : Value} (hA : Has a n e) (hr : fn.results = #[.tmp t]) (hv : lk e t = some v) (h : R v w) :
    bodyPost P fn (fun en w' => ∃ v, en = .returned v ∧ R v w') .ret a w :=
  ⟨hA.defers, v, by rw [results_tmp hr]; have := hA.at_ t v hv; simp [this], v, rfl, h⟩
theorem ret2 {fn : Func} {R : Value → World → Prop} {t1 t2 : Nat} {v1 v2 : Value} (hA : Has a n e) (hr : fn.results = #[.tmp t1, .tmp t2]) (h1 : lk e t1 = some v1) (h2 : lk e t2 = some v2)
    (h : R (.tuple #[v1, v2]) w) : bodyPost P fn (fun en w' => ∃ v, en = .returned v ∧ R v w') .ret a w :=
  ⟨hA.defers, .tuple #[v1, v2], by rw [results_tmp2 hr]; have e1 := hA.at_ t1 v1 h1; have e2 := hA.at_ t2 v2 h2; simp [e1, e2], _, rfl, h⟩
theorem ret3 {fn : Func} {R : Value → World → Prop} {t1 t2 t3 : Nat} {v1 v2 v3 : Value} (hA : Has a n e) (hr : fn.results = #[.tmp t1, .tmp t2, .tmp t3]) (h1 : lk e t1 = some v1) (h2 : lk e t2 = some v2) (h3 : lk e t3 = some v3)
    (h : R (.tuple #[v1, v2, v3]) w) : bodyPost P fn (fun en w' => ∃ v, en = .returned v ∧ R v w') .ret a w :=
  ⟨hA.defers, .tuple #[v1, v2, v3], by have e1 := hA.at_ t1 v1 h1; have e2 := hA.at_ t2 v2 h2; have e3 := hA.at_ t3 v3 h3; simp [results, hr, e1, e2, e3], _, rfl, h⟩
theorem ret0n {fn : Func} {R : Value → World → Prop} (hA : Has a n e) (hr : fn.results = #[])
    (h : R (.tuple #[]) w) : bodyPost P fn (fun en w' => ∃ v, en = .returned v ∧ R v w') .normal a w :=
  ⟨hA.defers, .tuple #[], by rw [results_none hr], _, rfl, h⟩
theorem cd_cond_t {c : Operand} {x y : Code} (hA : Has a n e) (hc : ev e c = some (.bool true)) (h : x.wp P Q a w) : (Code.cond c x y).wp P Q a w := wp_cond_true (hA.ev hc) h
theorem cd_cond_f {c : Operand} {x y : Code} (hA : Has a n e) (hc : ev e c = some (.bool false)) (h : y.wp P Q a w) : (Code.cond c x y).wp P Q a w := wp_cond_false (hA.ev hc) h
theorem cd_exit_eq {id : Nat} (h : Q .normal a w) : Exit.inBlock id Q (.exit id) a w := by simpa [Exit.inBlock] using h
theorem cd_exit_ne {id id' : Nat} (hne : id' ≠ id) (h : Q (.exit id') a w) : Exit.inBlock id Q (.exit id') a w := by simpa [Exit.inBlock, hne] using h
end
end Go.SK

set_option linter.unusedVariables false
set_option linter.unusedSimpArgs false
namespace Go.SK
open Go
abbrev Chunk := List (Nat × Obj)
def rowO (l : List Value) (T : TypeId) : Obj := .cells l.toArray T (0, 0)
structure St (w0 w : World) (L : List Chunk) : Prop where
  os : w.os = w0.os
  tape : w.tape = w0.tape
  output : w.output = w0.output
  size : w0.heap.size ≤ w.heap.size
  below : ∀ k, k < w0.heap.size → w.heap[k]? = w0.heap[k]?
  own : ∀ p ∈ L.flatten, w0.heap.size ≤ p.1 ∧ w.heap[p.1]? = some p.2
  nd : (L.flatten.map Prod.fst).Nodup
section
variable {w0 w w' : World} {L L' : List Chunk}
theorem St.refl (w : World) : St w w [] := ⟨rfl, rfl, rfl, Nat.le_refl _, fun _ _ => rfl, by simp, by simp⟩
theorem St.below_ (h : St w0 w L) : RowKit.Below w0.heap.size w0 w := ⟨h.os, h.tape, h.output, h.size, h.below⟩
theorem St.lt (h : St w0 w L) {p : Nat × Obj} (hp : p ∈ L.flatten) : p.1 < w.heap.size :=
  (Array.getElem?_eq_some_iff.1 (h.own p hp).2).1
theorem St.sub (h : St w0 w L) (hs : L'.flatten.Sublist L.flatten) : St w0 w L' :=
  ⟨h.os, h.tape, h.output, h.size, h.below, fun p hp => h.own p (hs.subset hp), (hs.map _).nodup h.nd⟩
theorem St.perm (h : St w0 w L) (hs : L.flatten.Perm L'.flatten) : St w0 w L' :=
  ⟨h.os, h.tape, h.output, h.size, h.below, fun p hp => h.own p (hs.mem_iff.2 hp), ((hs.map _).nodup_iff).1 h.nd⟩
theorem St.cast (h : St w0 w L) (hs : L.flatten = L'.flatten) : St w0 w L' := h.perm (hs ▸ List.Perm.refl _)
theorem St.tail (h : St w0 w L) (k : Nat) (hL : L.drop k = L') : St w0 w L' := h.sub (by
  subst hL
  have e : L.flatten = (L.take k).flatten ++ (L.drop k).flatten := by rw [← List.flatten_append, List.take_append_drop]
  rw [e]
  exact List.sublist_append_right _ _)
theorem St.drop1 {C : Chunk} (h : St w0 w (C :: L)) : St w0 w L := h.sub (by simp)
theorem St.drop2 {C D : Chunk} (h : St w0 w (C :: D :: L)) : St w0 w (C :: L) := h.sub (by simp)
theorem perm_front : ∀ (L : List Chunk) (i : Nat) (C : Chunk), L[i]? = some C → L.flatten.Perm (C ++ (L.eraseIdx i).flatten)
  | [], i, C, h => by simp at h
  | D :: L, 0, C, h => by simp at h; subst h; simp
  | D :: L, i + 1, C, h => by
    simp only [List.getElem?_cons_succ] at h
    have ih := perm_front L i C h
    simp only [List.flatten_cons, List.eraseIdx_cons_succ]
    exact (List.Perm.append_left D ih).trans (by rw [← List.append_assoc, ← List.append_assoc]; exact List.Perm.append_right _ List.perm_append_comm)
theorem St.front (h : St w0 w L) (i : Nat) {C : Chunk} (hi : L[i]? = some C) (hL : L.eraseIdx i = L') : St w0 w (C :: L') := by
  subst hL
  exact h.perm (by simpa using perm_front L i C hi)
theorem St.swap {C D : Chunk} (h : St w0 w (C :: D :: L)) : St w0 w (D :: C :: L) := h.front 1 rfl rfl
theorem St.join {C D : Chunk} (h : St w0 w (C :: D :: L)) : St w0 w ((C ++ D) :: L) := h.cast (by simp)
theorem St.split {C D : Chunk} (h : St w0 w ((C ++ D) :: L)) : St w0 w (C :: D :: L) := h.cast (by simp)
theorem St.nil (h : St w0 w L) : St w0 w ([] :: L) := h.cast (by simp)
theorem St.drew (h : St w0 w L) : St w0 w.drew L := ⟨h.os, h.tape, h.output, h.size, h.below, h.own, h.nd⟩
theorem St.alloc (h : St w0 w L) (o : Obj) : St w0 (w.alloc o) ([(w.heap.size, o)] :: L) := by
  refine ⟨h.os, h.tape, h.output, by have := h.size; simp; omega, fun k hk => ?_, ?_, ?_⟩
  · have := h.size
    rw [RowKit.Below.heap_alloc w o k (by omega)]
    exact h.below k hk
  · intro p hp
    simp only [List.flatten_cons, List.singleton_append, List.mem_cons] at hp
    rcases hp with rfl | hp
    · exact ⟨h.size, heap_alloc_new w o⟩
    · exact ⟨(h.own p hp).1, by rw [RowKit.Below.heap_alloc w o p.1 (h.lt hp)]; exact (h.own p hp).2⟩
  · simp only [List.flatten_cons, List.singleton_append, List.map_cons, List.nodup_cons]
    refine ⟨fun hm => ?_, h.nd⟩
    obtain ⟨p, hp, he⟩ := List.mem_map.1 hm
    have := h.lt hp
    omega
structure Upd (w w' : World) (b : Nat) (o : Obj) : Prop where
  os : w'.os = w.os
  tape : w'.tape = w.tape
  output : w'.output = w.output
  size : w.heap.size ≤ w'.heap.size
  at_ : w'.heap[b]? = some o
  other : ∀ k, k < w.heap.size → k ≠ b → w'.heap[k]? = w.heap[k]?
theorem St.upd {b : Nat} {o o' : Obj} (h : St w0 w ([(b, o)] :: L)) (hu : Upd w w' b o') : St w0 w' ([(b, o')] :: L) := by
  have hb := h.own (b, o) (by simp)
  have hnd := h.nd
  simp only [List.flatten_cons, List.singleton_append, List.map_cons, List.nodup_cons] at hnd
  refine ⟨hu.os.trans h.os, hu.tape.trans h.tape, hu.output.trans h.output, Nat.le_trans h.size hu.size, fun k hk => ?_, ?_, ?_⟩
  · have := h.size
    rw [hu.other k (by omega) (by have := hb.1; simp at this; omega)]
    exact h.below k hk
  · intro p hp
    simp only [List.flatten_cons, List.singleton_append, List.mem_cons] at hp
    rcases hp with rfl | hp
    · exact ⟨hb.1, hu.at_⟩
    · have hp' : p ∈ ([(b, o)] :: L).flatten := by simp only [List.flatten_cons, List.singleton_append, List.mem_cons]; exact .inr hp
      refine ⟨(h.own p hp').1, ?_⟩
      rw [hu.other p.1 (h.lt hp') (fun he => hnd.1 (List.mem_map.2 ⟨p, hp, he⟩))]
      exact (h.own p hp').2
  · simpa using hnd
theorem upd_setRow {b : Nat} {l l' : List Value} {T : TypeId} (hb : w.heap[b]? = some (rowO l T)) : Upd w (w.setRow b l'.toArray) b (rowO l' T) :=
  ⟨rfl, rfl, rfl, by simp [World.setRow], setRow_heap w b _ _ T (0, 0) hb, fun k _ hk => setRow_other w b k _ hk⟩
theorem St.heap (h : St w0 w L) {p : Nat × Obj} (hp : p ∈ L.flatten) : w.heap[p.1]? = some p.2 := (h.own p hp).2
theorem St.heapAt (h : St w0 w L) (i : Nat) {b : Nat} {o : Obj} {C : Chunk} (hi : L[i]? = some ((b, o) :: C)) : w.heap[b]? = some o := by
  have := h.own (b, o) (List.mem_flatten.2 ⟨_, List.mem_of_getElem? hi, by simp⟩)
  exact this.2
theorem cell_of {b : Nat} {c : Array Value} {T : TypeId} {fz : Nat × Nat} (h : w.heap[b]? = some (.cells c T fz)) (off : Nat) : w.cell? ⟨b, off, none⟩ = c[off]? := by
  simp [World.cell?, h]
theorem cell_row {b : Nat} {l : List Value} {T : TypeId} (h : w.heap[b]? = some (rowO l T)) {off : Nat} {v : Value} (hv : l[off]? = some v) : w.cell? ⟨b, off, none⟩ = some v := by
  rw [cell_of h]; simpa using hv
theorem St.old (h : St w0 w L) {p : Addr} {v : Value} (hc : w0.cell? p = some v) : w.cell? p = some v := by
  have hlt := World.block_lt_of_cell? w0 p hc
  rw [World.cell?_of_block (h.below p.block hlt)]
  exact hc
def Rd (w : World) (size : Nat) (v : Value) (m : Nat) (xs : List Value) : Prop :=
  xs.length = m * size ∧ ((v = .slice none 0 0 ∧ m = 0) ∨ ∃ b off c, v = .slice (some ⟨b, off, none⟩) m c ∧ m ≤ c ∧ c ≤ maxLen ∧ ∀ j u, xs[j]? = some u → w.cell? ⟨b, off + j, none⟩ = some u)
def RdX (w : World) (size : Nat) (v : Value) (m : Nat) (xs : List Value) : Prop :=
  xs.length = m * size ∧ ((v = .slice none 0 0 ∧ m = 0) ∨ ∃ (a : Addr) (c : Nat), v = .slice (some a) m c ∧ m ≤ c ∧ c ≤ maxLen ∧ ∀ j u, xs[j]? = some u → w.cell? (a.add j) = some u)
theorem Rd.x {size : Nat} {v : Value} {m : Nat} {xs : List Value} (h : Rd w size v m xs) : RdX w size v m xs := by
  obtain ⟨hl, h1 | ⟨b, off, c, hv, hc, hm, hx⟩⟩ := h
  · exact ⟨hl, .inl h1⟩
  · exact ⟨hl, .inr ⟨⟨b, off, none⟩, c, hv, hc, hm, fun j u hu => by rw [Addr.add_lit]; exact hx j u hu⟩⟩
theorem RdX.old {size : Nat} {v : Value} {m : Nat} {xs : List Value} (h : St w0 w L) (hr : RdX w0 size v m xs) : RdX w size v m xs := by
  obtain ⟨hl, h1 | ⟨a, c, hv, hc, hm, hx⟩⟩ := hr
  · exact ⟨hl, .inl h1⟩
  · exact ⟨hl, .inr ⟨a, c, hv, hc, hm, fun j u hu => h.old (hx j u hu)⟩⟩
theorem RdX.nil (w : World) (size : Nat) : RdX w size (.slice none 0 0) 0 [] := ⟨by simp, .inl ⟨rfl, rfl⟩⟩
theorem RdX.open' {size : Nat} {v : Value} {m : Nat} {xs : List Value} (ho : RdX w size v m xs) : ∃ A c, v = .slice A m c ∧ m ≤ c ∧ c ≤ 9223372036854775807 := by
  obtain ⟨hl, ⟨hv, hm⟩ | ⟨a, c, hv, hc, hmx, hx⟩⟩ := ho
  · subst hm; exact ⟨none, 0, hv, Nat.le_refl _, Nat.zero_le _⟩
  · exact ⟨_, c, hv, hc, hmx⟩
def Own (T size : Nat) (v : Value) (m : Nat) (xs : List Value) (C : Chunk) : Prop :=
  xs.length = m * size ∧ ((v = .slice none 0 0 ∧ m = 0 ∧ C = []) ∨
    ∃ g pre sp post c, v = .slice (some ⟨g, pre.length, none⟩) m c ∧ m ≤ c ∧ c ≤ maxLen ∧ sp.length = (c - m) * size ∧ C = [(g, rowO (pre ++ (xs ++ (sp ++ post))) T)])
theorem Rd.old {size : Nat} {v : Value} {m : Nat} {xs : List Value} (h : St w0 w L) (hr : Rd w0 size v m xs) : Rd w size v m xs := by
  obtain ⟨hl, h1 | ⟨b, off, c, hv, hc, hm, hx⟩⟩ := hr
  · exact ⟨hl, .inl h1⟩
  · exact ⟨hl, .inr ⟨b, off, c, hv, hc, hm, fun j u hu => h.old (hx j u hu)⟩⟩
theorem Own.rd {T size : Nat} {v : Value} {m : Nat} {xs : List Value} {C : Chunk} (ho : Own T size v m xs C) (hC : ∀ p ∈ C, w.heap[p.1]? = some p.2) : Rd w size v m xs := by
  obtain ⟨hl, ⟨hv, hm, _⟩ | ⟨g, pre, sp, post, c, hv, hc, hmx, hsp, rfl⟩⟩ := ho
  · exact ⟨hl, .inl ⟨hv, hm⟩⟩
  · refine ⟨hl, .inr ⟨g, pre.length, c, hv, hc, hmx, fun j u hu => ?_⟩⟩
    have hg := hC _ (List.mem_singleton.2 rfl)
    refine cell_row hg ?_
    have hj := (List.getElem?_eq_some_iff.1 hu).1
    rw [List.getElem?_append_right (by omega), Nat.add_sub_cancel_left, List.getElem?_append_left hj]
    exact hu
theorem St.own_ (h : St w0 w L) (i : Nat) {C : Chunk} (hi : L[i]? = some C) : ∀ p ∈ C, w.heap[p.1]? = some p.2 :=
  fun p hp => h.heap (List.mem_flatten.2 ⟨C, List.mem_of_getElem? hi, hp⟩)
theorem Own.nil (T size : Nat) : Own T size (.slice none 0 0) 0 [] [] := ⟨by simp, .inl ⟨rfl, rfl, rfl⟩⟩
theorem Rd.nil (w : World) (size : Nat) : Rd w size (.slice none 0 0) 0 [] := ⟨by simp, .inl ⟨rfl, rfl⟩⟩
theorem Own.row {T size g m c : Nat} {xs sp : List Value} (hl : xs.length = m * size) (hc : m ≤ c) (hm : c ≤ maxLen) (hs : sp.length = (c - m) * size) :
    Own T size (.slice (some ⟨g, 0, none⟩) m c) m xs [(g, rowO (xs ++ sp) T)] := ⟨hl, .inr ⟨g, [], sp, [], c, rfl, hc, hm, hs, by simp⟩⟩
theorem Own.full {T size g m : Nat} {xs : List Value} (hl : xs.length = m * size) (hm : m ≤ maxLen) :
    Own T size (.slice (some ⟨g, 0, none⟩) m m) m xs [(g, rowO xs T)] := by
  have := Own.row (T := T) (g := g) (sp := []) hl (Nat.le_refl m) hm (by simp)
  simpa using this
theorem Own.open {T size : Nat} {v : Value} {m : Nat} {xs : List Value} {C : Chunk} (ho : Own T size v m xs C) : ∃ A c, v = .slice A m c ∧ m ≤ c ∧ c ≤ maxLen := by
  obtain ⟨hl, ⟨hv, hm, _⟩ | ⟨g, pre, sp, post, c, hv, hc, hmx, hsp, rfl⟩⟩ := ho
  · subst hm; exact ⟨none, 0, hv, Nat.le_refl _, Nat.zero_le _⟩
  · exact ⟨_, c, hv, hc, hmx⟩
theorem Rd.open {size : Nat} {v : Value} {m : Nat} {xs : List Value} (ho : Rd w size v m xs) : ∃ A c, v = .slice A m c ∧ m ≤ c ∧ c ≤ maxLen := by
  obtain ⟨hl, ⟨hv, hm⟩ | ⟨b, off, c, hv, hc, hmx, hx⟩⟩ := ho
  · subst hm; exact ⟨none, 0, hv, Nat.le_refl _, Nat.zero_le _⟩
  · exact ⟨_, c, hv, hc, hmx⟩
theorem Own.len {T size : Nat} {v : Value} {m : Nat} {xs : List Value} {C : Chunk} (ho : Own T size v m xs C) : xs.length = m * size := ho.1
theorem Rd.at_ {size : Nat} {A : Option Addr} {m c : Nat} {xs : List Value} (h : Rd w size (.slice A m c) m xs) (k : Nat) (hk : k < m) :
    ∃ b off, A = some ⟨b, off, none⟩ ∧ ∀ j u, xs[k * size + j]? = some u → w.cell? ⟨b, off + k * size + j, none⟩ = some u := by
  obtain ⟨hl, ⟨hv, hm⟩ | ⟨b, off, c', hv, hc, hmx, hx⟩⟩ := h
  · omega
  · injection hv with h1 h2 h3
    refine ⟨b, off, h1, fun j u hu => ?_⟩
    rw [Nat.add_assoc]
    exact hx _ u hu
end
end Go.SK

set_option linter.unusedVariables false
set_option linter.unusedSimpArgs false
namespace Go.SK
open Go
section
variable {P : Program} {tb : List TI} {a : Act} {w : World} {n : Nat} {e : Env} {o : Oper}
def slv (A : Option Addr) (l h c s : Nat) : Value := .slice (if c = l then A else A.map (·.add (l * s))) (h - l) (c - l)
theorem rn_load (hT : TabOk P tb) (hA : Has a n e) {T : Nat} {i : TI} {x : Operand} {b off : Nat} {v : Value} (ho : o.op = .load T x) (hx : ev e x = some (.pointer (some ⟨b, off, none⟩)))
    (hi : lkT tb T = some i) (hg : isAggD i.desc = false) (hc : w.cell? ⟨b, off, none⟩ = some v) :
    (execOp a.eval o).run P w = .ok (.value (v)) w := by
  obtain ⟨ht, hok⟩ := hT.at_ hi
  have h1 := hok.isAgg w
  rw [ht, hg] at h1
  unfold execOp
  rw [ho]
  simp [Instr.loadAt, hA.ev hx, Instr.sureAddr, loadVar, h1, hc]
theorem rn_loadA (hT : TabOk P tb) (hA : Has a n e) {T : Nat} {i : TI} {x : Operand} {b off : Nat} (cs : List Value) (ho : o.op = .load T x) (hx : ev e x = some (.pointer (some ⟨b, off, none⟩)))
    (hi : lkT tb T = some i) (hg : isAggD i.desc = true) (hl : cs.length = i.size) (hc : ∀ j u, cs[j]? = some u → w.cell? ⟨b, off + j, none⟩ = some u) :
    (execOp a.eval o).run P w = .ok (.value (.agg cs.toArray)) w := by
  obtain ⟨ht, hok⟩ := hT.at_ hi
  have h1 := hok.isAgg w
  rw [ht, hg] at h1
  have h2 := hok.sizeOf w
  rw [ht] at h2
  have h3 := run_loadCells_list (P := P) w ⟨b, off, none⟩ cs (fun j u hu => by rw [Addr.add_lit]; exact hc j u hu)
  unfold execOp
  rw [ho]
  simp [Instr.loadAt, hA.ev hx, Instr.sureAddr, loadVar, h1, h2, ← hl, h3]
theorem rn_indexAddr (hT : TabOk P tb) (hA : Has a n e) {T E : Nat} {i j : TI} {x y : Operand} {b off m c : Nat} {kd : IntKind} {ix : Int} (q : Nat) (off' : Nat)
    (ho : o.op = .indexAddr T x y) (hx : ev e x = some (.slice (some ⟨b, off, none⟩) m c)) (hy : ev e y = some (.int kd ix)) (hi : lkT tb T = some i) (hE : i.desc = .slice E) (hj : lkT tb E = some j)
    (hq : ix = (q : Int)) (hqm : q < m) (hoff : off' = off + q * j.size) :
    (execOp a.eval o).run P w = .ok (.value (.pointer (some ⟨b, off', none⟩))) w := by
  subst hq
  subst hoff
  obtain ⟨ht, hok⟩ := hT.at_ hi
  obtain ⟨htj, hokj⟩ := hT.at_ hj
  have h1 := hok.und w
  rw [ht, hE] at h1
  have h2 := hokj.sizeOf w
  rw [htj] at h2
  unfold execOp
  rw [ho]
  have h3 : (0 : Int) ≤ (q : Int) ∧ (q : Int) < (m : Int) := by omega
  simp [Instr.indexAt, hA.ev hx, hA.ev hy, asIntOf, h1, h3, h2, Addr.add_lit]
  omega
theorem rn_slice_lh (hT : TabOk P tb) (hA : Has a n e) {T E : Nat} {i j : TI} {x lo hi : Operand} {A : Option Addr} {m c : Nat} {k1 k2 : IntKind} {l h : Int} (l' h' : Nat)
    (ho : o.op = .slice T x (some lo) (some hi) none) (hx : ev e x = some (.slice A m c)) (hlo : ev e lo = some (.int k1 l)) (hhi : ev e hi = some (.int k2 h)) (hi' : lkT tb T = some i) (hE : i.desc = .slice E) (hj : lkT tb E = some j)
    (hl : l = (l' : Int)) (hh : h = (h' : Int)) (hlh : l' ≤ h') (hhc : h' ≤ c) :
    (execOp a.eval o).run P w = .ok (.value (slv A l' h' c j.size)) w := by
  subst hl; subst hh
  obtain ⟨ht, hok⟩ := hT.at_ hi'
  obtain ⟨htj, hokj⟩ := hT.at_ hj
  have h1 := hok.und w
  rw [ht, hE] at h1
  have h2 := hokj.sizeOf w
  rw [htj] at h2
  unfold execOp
  rw [ho]
  have b1 : (0 : Int) ≤ (h' : Int) ∧ (h' : Int) ≤ (c : Int) := by omega
  have b2 : (0 : Int) ≤ (l' : Int) ∧ (l' : Int) ≤ (h' : Int) := by omega
  simp [Instr.sliceAt, Instr.slice, hA.ev hx, hA.ev hlo, hA.ev hhi, h1, Instr.sliceBounds, Instr.sliceBound, asIntOf, hlh, hhc, b1, b2, h2, slv]
theorem rn_slice_h (hT : TabOk P tb) (hA : Has a n e) {T E : Nat} {i j : TI} {x hi : Operand} {A : Option Addr} {m c : Nat} {k2 : IntKind} {h : Int} (h' : Nat)
    (ho : o.op = .slice T x none (some hi) none) (hx : ev e x = some (.slice A m c)) (hhi : ev e hi = some (.int k2 h)) (hi' : lkT tb T = some i) (hE : i.desc = .slice E) (hj : lkT tb E = some j)
    (hh : h = (h' : Int)) (hhc : h' ≤ c) :
    (execOp a.eval o).run P w = .ok (.value (.slice A h' c)) w := by
  subst hh
  obtain ⟨ht, hok⟩ := hT.at_ hi'
  obtain ⟨htj, hokj⟩ := hT.at_ hj
  have h1 := hok.und w
  rw [ht, hE] at h1
  have h2 := hokj.sizeOf w
  rw [htj] at h2
  unfold execOp
  rw [ho]
  have b1 : (0 : Int) ≤ (h' : Int) ∧ (h' : Int) ≤ (c : Int) := by omega
  simp [Instr.sliceAt, Instr.slice, hA.ev hx, hA.ev hhi, h1, Instr.sliceBounds, Instr.sliceBound, asIntOf, hhc, b1, h2]
  cases A with
  | none => simp
  | some p => simp [Addr.add]
theorem rn_slice_l (hT : TabOk P tb) (hA : Has a n e) {T E : Nat} {i j : TI} {x lo : Operand} {A : Option Addr} {m c : Nat} {k1 : IntKind} {l : Int} (l' : Nat)
    (ho : o.op = .slice T x (some lo) none none) (hx : ev e x = some (.slice A m c)) (hlo : ev e lo = some (.int k1 l)) (hi' : lkT tb T = some i) (hE : i.desc = .slice E) (hj : lkT tb E = some j)
    (hl : l = (l' : Int)) (hlm : l' ≤ m) :
    (execOp a.eval o).run P w = .ok (.value (slv A l' m c j.size)) w := by
  subst hl
  obtain ⟨ht, hok⟩ := hT.at_ hi'
  obtain ⟨htj, hokj⟩ := hT.at_ hj
  have h1 := hok.und w
  rw [ht, hE] at h1
  have h2 := hokj.sizeOf w
  rw [htj] at h2
  unfold execOp
  rw [ho]
  have b1 : (0 : Int) ≤ (l' : Int) ∧ (l' : Int) ≤ (m : Int) := by omega
  simp [Instr.sliceAt, Instr.slice, hA.ev hx, hA.ev hlo, h1, Instr.sliceBounds, Instr.sliceBound, asIntOf, hlm, b1, h2, slv]
theorem rn_slice_lhm (hT : TabOk P tb) (hA : Has a n e) {T E : Nat} {i j : TI} {x lo hi mx : Operand} {A : Option Addr} {m c : Nat} {k1 k2 k3 : IntKind} {l h mm : Int} (l' h' m' : Nat)
    (ho : o.op = .slice T x (some lo) (some hi) (some mx)) (hx : ev e x = some (.slice A m c)) (hlo : ev e lo = some (.int k1 l)) (hhi : ev e hi = some (.int k2 h)) (hmx : ev e mx = some (.int k3 mm))
    (hi' : lkT tb T = some i) (hE : i.desc = .slice E) (hj : lkT tb E = some j)
    (hl : l = (l' : Int)) (hh : h = (h' : Int)) (hm : mm = (m' : Int)) (hlh : l' ≤ h') (hhm : h' ≤ m') (hmc : m' ≤ c) :
    (execOp a.eval o).run P w = .ok (.value (slv A l' h' m' j.size)) w := by
  subst hl; subst hh; subst hm
  obtain ⟨ht, hok⟩ := hT.at_ hi'
  obtain ⟨htj, hokj⟩ := hT.at_ hj
  have h1 := hok.und w
  rw [ht, hE] at h1
  have h2 := hokj.sizeOf w
  rw [htj] at h2
  unfold execOp
  rw [ho]
  have b0 : (0 : Int) ≤ (m' : Int) ∧ (m' : Int) ≤ (c : Int) := by omega
  have b1 : (0 : Int) ≤ (h' : Int) ∧ (h' : Int) ≤ (m' : Int) := by omega
  have b2 : (0 : Int) ≤ (l' : Int) ∧ (l' : Int) ≤ (h' : Int) := by omega
  simp [Instr.sliceAt, Instr.slice, hA.ev hx, hA.ev hlo, hA.ev hhi, hA.ev hmx, h1, Instr.sliceBounds, Instr.sliceBound, asIntOf, hlh, hhm, hmc, b0, b1, b2, h2, slv]
theorem rn_rem (hA : Has a n e) {x y : Operand} {t yt : TypeId} {kd : IntKind} {p q : Int} (ho : o.op = .binOp .rem t x y yt) (hx : ev e x = some (.int kd p)) (hy : ev e y = some (.int kd q)) (hq : q ≠ 0) :
    (execOp a.eval o).run P w = .ok (.value (.int kd (p.tmod q))) w := by
  unfold execOp
  rw [ho]
  simp [hA.ev hx, hA.ev hy, eqGuard, binOp, Op.intDiv, hq]
theorem rn_quo (hA : Has a n e) {x y : Operand} {t yt : TypeId} {kd : IntKind} {p q : Int} (ho : o.op = .binOp .quo t x y yt) (hx : ev e x = some (.int kd p)) (hy : ev e y = some (.int kd q)) (hq : q ≠ 0) :
    (execOp a.eval o).run P w = .ok (.value (.int kd (kd.wrap (p.tdiv q)))) w := by
  unfold execOp
  rw [ho]
  simp [hA.ev hx, hA.ev hy, eqGuard, binOp, Op.intDiv, hq]
end
end Go.SK

set_option linter.unusedVariables false
set_option linter.unusedSimpArgs false
namespace Go.SK
open Go
section
variable {P : Program} {tb : List TI} {ops : Array Oper} {Q : Exit → Act → World → Prop} {a : Act} {w0 w : World} {n : Nat} {e : Env} {L : List Chunk} {o : Oper} {rest : List Oper} {d : Nat}
theorem st_alloc (hT : TabOk P tb) (hA : Has a n e) (hS : St w0 w L) {T : Nat} {i : TI} (l : List Value) (ho : o.op = .alloc T) (hi : lkT tb T = some i) (hz : i.zero.cells = l.toArray)
    (hw : wantE ops e o.guard = some true) (hd : o.dst = some d) (hdn : d < n)
    (k : ∀ b w' a', St w0 w' ([(b, rowO l T)] :: L) → Has a' n ((d, .pointer (some ⟨b, 0, none⟩)) :: e) → wpList P ops Q rest a' w') : wpList P ops Q (o :: rest) a w := by
  obtain ⟨ht, hok⟩ := hT.at_ hi
  have h1 := hok.zeroValue w
  rw [ht] at h1
  refine st_val hA hw hd hdn (v := .pointer (some ⟨w.heap.size, 0, none⟩)) (w' := w.alloc (rowO l T)) ?_ (fun a' h => k _ _ a' (hS.alloc _) h)
  unfold execOp
  rw [ho]
  simp [Instr.alloc, h1, newVar, newRow, hz, rowO]
theorem st_box (hA : Has a n e) (hS : St w0 w L) {T : Nat} {x : Operand} {v : Value} (l : List Value) (ho : o.op = .box T x) (hx : ev e x = some v) (hz : v.cells = l.toArray)
    (hw : wantE ops e o.guard = some true) (hd : o.dst = some d) (hdn : d < n)
    (k : ∀ b w' a', St w0 w' ([(b, rowO l T)] :: L) → Has a' n ((d, .pointer (some ⟨b, 0, none⟩)) :: e) → wpList P ops Q rest a' w') : wpList P ops Q (o :: rest) a w := by
  refine st_val hA hw hd hdn (v := .pointer (some ⟨w.heap.size, 0, none⟩)) (w' := w.alloc (rowO l T)) ?_ (fun a' h => k _ _ a' (hS.alloc _) h)
  unfold execOp
  rw [ho]
  simp [Instr.box, newVar, newRow, hA.ev hx, hz, rowO]
theorem st_buildSlice (hT : TabOk P tb) (hA : Has a n e) (hS : St w0 w L) {T E : Nat} {i j : TI} {m : Nat} {parts : Array (Nat × Operand)} {vs : List (Nat × Value)} (l : List Value)
    (ho : o.op = .buildSlice T m parts) (hi : lkT tb T = some i) (hE : i.desc = .slice E) (hj : lkT tb E = some j) (hvs : evps e parts.toList = some vs)
    (hsz : m * j.size ≤ 16777216)
    (hf : Instr.fill (fun i => some (i * j.size, j.size)) ((Array.range (m * j.size)).map ((if m * j.size = 0 then #[] else j.zero.cells)[· % (if m * j.size = 0 then #[] else j.zero.cells).size]!)) vs = some l.toArray)
    (hw : wantE ops e o.guard = some true) (hd : o.dst = some d) (hdn : d < n)
    (k : ∀ b w' a', St w0 w' ([(b, rowO l E)] :: L) → Has a' n ((d, .slice (some ⟨b, 0, none⟩) m m) :: e) → wpList P ops Q rest a' w') : wpList P ops Q (o :: rest) a w := by
  obtain ⟨ht, hok⟩ := hT.at_ hi
  obtain ⟨htj, hokj⟩ := hT.at_ hj
  have h1 := hok.und w
  rw [ht, hE] at h1
  have h2 := hokj.sizeOf w
  rw [htj] at h2
  have h3 := hokj.zeroValue w
  rw [htj] at h3
  have hp := evps_spec hA hvs
  have h4 : (parts.map fun x => (x.1, a.eval x.2)).toList = vs := by rw [← hp]; simp
  refine st_val hA hw hd hdn (v := .slice (some ⟨w.heap.size, 0, none⟩) m m) (w' := w.alloc (rowO l E)) ?_ (fun a' h => k _ _ a' (hS.alloc _) h)
  unfold execOp
  rw [ho]
  simp only [Instr.buildSlice, Sem.run_bind, h1, Result.andThen_ok, h2]
  rw [if_neg (by omega)]
  simp only [h4]
  by_cases h0 : m * j.size = 0
  · simp only [h0, if_true] at hf
    simp only [h0, if_true, Sem.run_bind, Sem.run_pure, Result.andThen_ok, hf]
    simp [newRow, rowO]
  · simp only [h0, if_false] at hf
    simp only [h0, if_false, Sem.run_bind, Sem.run_pure, Result.andThen_ok, h3, hf]
    simp [newRow, rowO]
theorem st_store (hT : TabOk P tb) (hA : Has a n e) {b off : Nat} {l : List Value} {T' : Nat} (hS : St w0 w ([(b, rowO l T')] :: L)) {T : Nat} {i : TI} {x y : Operand} {v : Value} (cs l' : List Value)
    (ho : o.op = .store T x y) (hx : ev e x = some (.pointer (some ⟨b, off, none⟩))) (hy : ev e y = some v) (hi : lkT tb T = some i)
    (hcs : v.cells = cs.toArray) (hl : cs.length = i.size) (h1 : ∀ u ∈ cs, u.oneCell' = true) (hfit : off + cs.length ≤ l.length) (hl' : l.take off ++ cs ++ l.drop (off + cs.length) = l')
    (hw : wantE ops e o.guard = some true) (hd : o.dst = none)
    (k : ∀ w', St w0 w' ([(b, rowO l' T')] :: L) → wpList P ops Q rest a w') : wpList P ops Q (o :: rest) a w := by
  subst hl'
  obtain ⟨ht, hok⟩ := hT.at_ hi
  have h2 := hok.sizeOf w
  rw [ht] at h2
  have hb := hS.heapAt 0 rfl
  have h3 := run_storeCells_at P b off T' cs 0 l.toArray w hb (by simpa using hfit) h1
  simp only [Nat.add_zero] at h3
  refine st_skip hA hw hd (w' := w.setRow b (l.take off ++ cs ++ l.drop (off + cs.length)).toArray) ?_ (k _ (hS.upd (upd_setRow hb)))
  unfold execOp
  rw [ho]
  have h4 : v.cells.size = i.size := by rw [hcs]; simpa using hl
  simp only [List.append_assoc] at h3
  simp [Instr.storeAt, hA.ev hx, hA.ev hy, Instr.sureAddr, storeVar, h2, hcs, hl, h3]
theorem run_append (hT : TabOk P tb) {T E size m q : Nat} {i j : TI} {v x : Value} {xs news : List Value} {C : Chunk} (hi : lkT tb T = some i) (hE : i.desc = .slice E) (hj : lkT tb E = some j)
    (hsize : j.size = size) (hzs : j.zero.cells.size = size) (hsz : 0 < size) (ho : Own E size v m xs C) (hS : St w0 w (C :: L)) (hx : RdX w size x q news) (h1 : ∀ u ∈ news, u.oneCell' = true)
    (h63 : m + q ≤ maxLen) (hb : (m + q) * j.bytes ≤ 140737488355328) (ty : TypeId) :
    ∃ v' w' C', (Builtin.append_ #[T, T] ty #[v, x]).run P w = .ok v' w' ∧ Own E size v' (m + q) (xs ++ news) C' ∧ St w0 w' (C' :: L) := by
  obtain ⟨ht, hok⟩ := hT.at_ hi
  obtain ⟨htj, hokj⟩ := hT.at_ hj
  have hu : P.underlying T = some (.slice E) := by have := hok.1; rwa [ht, hE] at this
  obtain ⟨_, inf, hinf, hs1, hb1, hz1⟩ := hokj
  rw [htj] at hinf
  have hlen : (xs ++ news).length = (m + q) * size := by rw [List.length_append, ho.1, hx.1, Nat.add_mul]
  obtain ⟨hxl, hxx⟩ := hx
  obtain ⟨hol, hoo⟩ := ho
  have hss : inf.size = size := hs1.trans hsize
  by_cases hq : q = 0
  · subst hq
    have hnews : news = [] := List.eq_nil_of_length_eq_zero (by simpa using hxl)
    subst hnews
    refine ⟨v, w, C, ?_, ⟨by simpa using hol, by simpa using hoo⟩, hS⟩
    have hxv : ∃ A c, x = .slice A 0 c := by
      rcases hxx with ⟨hv, _⟩ | ⟨b, c, hv, _⟩ <;> exact ⟨_, _, hv⟩
    obtain ⟨A, c, rfl⟩ := hxv
    have hfc : (Builtin.firstCells inf.size 0 (.slice A 0 c)).run P w = .ok #[] w := by
      cases A <;> simp [Builtin.firstCells, loadCells, loadCellsFrom]
    rcases hoo with ⟨rfl, rfl, rfl⟩ | ⟨g, pre, sp, post, c', rfl, hmc, _, _, rfl⟩
    · simp [Builtin.append_, run_underlying hu, sizeOf, typeInfo, hinf, Builtin.lenOf, hfc]
    · simp [Builtin.append_, run_underlying hu, sizeOf, typeInfo, hinf, Builtin.lenOf, hfc, hmc, storeCells]
  · obtain ⟨ad, c, rfl, hqc, hcm, hnews⟩ : ∃ (ad : Addr) (c : Nat), x = .slice (some ad) q c ∧ q ≤ c ∧ c ≤ maxLen ∧ ∀ j u, news[j]? = some u → w.cell? (ad.add j) = some u := by
      rcases hxx with ⟨_, h⟩ | h
      · exact absurd h hq
      · exact h
    have hl' : news.length = q * inf.size := by rw [hss]; exact hxl
    have grow : ∀ (old : Nat) (olds : List Value), olds.length = m * size → xs = olds →
        ∃ v' w' C', v' = .slice (some ⟨w.heap.size, 0, none⟩) (m + q) (grownCap w (m + q) old E) ∧ w' = w.drew.alloc (.cells (olds.toArray ++ news.toArray ++ Builtin.zeroCells j.zero.cells (grownCap w (m + q) old E - (m + q))) E) ∧ Own E size v' (m + q) (xs ++ news) C' ∧ St w0 w' (C' :: L) := by
      intro old olds holds hxo
      subst hxo
      refine ⟨_, _, [(w.heap.size, rowO (xs ++ news ++ (Builtin.zeroCells j.zero.cells (grownCap w (m + q) old E - (m + q))).toList) E)], rfl, rfl, ?_, ?_⟩
      · refine Own.row hlen (grownCap_ge _ _ _ _) (grownCap_le_maxLen _ _ _ _ h63) ?_
        simp [size_zeroCells, hzs]
      · have := hS.drop1.drew.alloc (.cells (xs.toArray ++ news.toArray ++ Builtin.zeroCells j.zero.cells (grownCap w (m + q) old E - (m + q))) E)
        have e1 : (.cells (xs.toArray ++ news.toArray ++ Builtin.zeroCells j.zero.cells (grownCap w (m + q) old E - (m + q))) E : Obj) = rowO (xs ++ news ++ (Builtin.zeroCells j.zero.cells (grownCap w (m + q) old E - (m + q))).toList) E := by
          unfold rowO
          congr 1
          apply Array.ext'
          simp
        rw [e1] at this ⊢
        exact this
    have hsmall : ((m + q : Nat) : Int) ≤ 9223372036854775807 := by simp only [maxLen] at h63; omega
    rcases hoo with ⟨rfl, rfl, rfl⟩ | ⟨g, pre, sp, post, c', rfl, hmc, hcm', hsp, rfl⟩
    · have hxs : xs = [] := List.eq_nil_of_length_eq_zero (by simpa using hol)
      subst hxs
      have hr := run_append_nil (P := P) w T ty E inf j.zero hu hinf hz1 ad q c news hl' hnews (by omega) (by simpa using hsmall) (by rw [hb1]; simp only [Nat.zero_add] at hb; omega)
      obtain ⟨v', w', C', hv, hw, h3, h4⟩ := grow 0 [] (by simp) rfl
      refine ⟨v', w', C', ?_, h3, h4⟩
      rw [hr, hv, hw]
      simp
    · have hg := hS.heapAt 0 rfl
      by_cases hroom : m + q ≤ c'
      · have hfc := run_firstCells_some (P := P) w inf.size q ad q c news hl' hnews
        have hcm2 : c' * size = m * size + (c' - m) * size := by rw [← Nat.add_mul]; congr 1; omega
        have hqs : q * size ≤ (c' - m) * size := Nat.mul_le_mul_right _ (by omega)
        have hst := run_storeCells_at P g (pre.length + m * size) E news 0 (pre ++ (xs ++ (sp ++ post))).toArray w hg (by simp; omega) h1
        simp only [Nat.add_zero] at hst
        refine ⟨.slice (some ⟨g, pre.length, none⟩) (m + q) c', _, [(g, rowO (pre ++ ((xs ++ news) ++ (sp.drop (q * size) ++ post))) E)], ?_, ⟨hlen, .inr ⟨g, pre, sp.drop (q * size), post, c', rfl, hroom, hcm', ?_, rfl⟩⟩, hS.upd (upd_setRow hg)⟩
        · rw [hss] at hfc
          have e1 : (pre ++ (xs ++ (sp ++ post))).take (pre.length + m * size) = pre ++ xs := by
            rw [← List.append_assoc, ← hol, ← List.length_append]; exact List.take_left
          have e2 : (pre ++ (xs ++ (sp ++ post))).drop (pre.length + m * size + news.length) = sp.drop (q * size) ++ post := by
            rw [← List.append_assoc, ← hol, ← List.length_append, List.drop_append, hxl, List.drop_eq_nil_of_le (by omega), List.nil_append, Nat.add_sub_cancel_left, List.drop_append, Nat.sub_eq_zero_of_le (by omega), List.drop_zero]
          simp only [List.append_assoc, e1, e2] at hst
          simp [Builtin.append_, run_underlying hu, sizeOf, typeInfo, hinf, Builtin.lenOf, hroom, hss, hfc, Addr.add_lit, hst]
        · rw [List.length_drop, hsp, ← Nat.sub_mul]; congr 1; omega
      · have holds : ∀ j u, xs[j]? = some u → w.cell? ((⟨g, pre.length, none⟩ : Addr).add j) = some u := by
          intro j u hu
          rw [Addr.add_lit]
          refine cell_row hg ?_
          have hj := (List.getElem?_eq_some_iff.1 hu).1
          rw [List.getElem?_append_right (by omega), Nat.add_sub_cancel_left, List.getElem?_append_left hj]
          exact hu
        have hr := run_append_grow (P := P) w T ty E inf j.zero hu hinf hz1 ⟨g, pre.length, none⟩ m c' xs (by rw [hss]; exact hol) holds ad q c news hl' hnews (by omega) hsmall (growslice_fits (by omega) (by rw [hb1]; exact hb))
        obtain ⟨v', w', C', hv, hw, h3, h4⟩ := grow c' xs hol rfl
        refine ⟨v', w', C', ?_, h3, h4⟩
        rw [hr, hv, hw]
theorem st_append (hT : TabOk P tb) (hA : Has a n e) {T E size m q : Nat} {i j : TI} {s y : Operand} {v x : Value} {xs news : List Value} {C : Chunk}
    (ho : o.op = .call { callee := .builtin .append, args := #[s, y], argTypes := #[T, T] }) (hs : ev e s = some v) (hy : ev e y = some x)
    (hi : lkT tb T = some i) (hE : i.desc = .slice E) (hj : lkT tb E = some j) (hsize : j.size = size) (hzs : j.zero.cells.size = size) (hsz : 0 < size)
    (hO : Own E size v m xs C) (hS : St w0 w (C :: L)) (hx : RdX w size x q news) (h1 : ∀ u ∈ news, u.oneCell' = true) (h63 : m + q ≤ maxLen) (hb : (m + q) * j.bytes ≤ 140737488355328)
    (hw : wantE ops e o.guard = some true) (hd : o.dst = some d) (hdn : d < n)
    (k : ∀ v' w' C' a', Own E size v' (m + q) (xs ++ news) C' → St w0 w' (C' :: L) → Has a' n ((d, v') :: e) → wpList P ops Q rest a' w') : wpList P ops Q (o :: rest) a w := by
  obtain ⟨v', w', C', hr, h2, h3⟩ := run_append hT hi hE hj hsize hzs hsz hO hS hx h1 h63 hb o.type
  refine st_val hA hw hd hdn (v := v') (w' := w') ?_ (fun a' h => k v' w' C' a' h2 h3 h)
  unfold execOp
  rw [ho]
  simp [resolve, invoke, builtin, hA.ev hs, hA.ev hy, hr]
end
end Go.SK

set_option linter.unusedVariables false
set_option linter.unusedSimpArgs false
namespace Go.SK
open Go
def waits (ops : Array Oper) : Nat → Nat → Nat → Bool
  | 0, _, _ => false
  | f + 1, j, i => match ops[j]? with
    | some o => o.after.any (fun ed => Region.binds .any ed && (ed.on == i || waits ops f ed.on i))
    | none => false
section
variable {P : Program} {tb : List TI} {ops : Array Oper} {Q : Exit → Act → World → Prop} {K : (World → Prop) → Act → World → Prop} {S : World → Prop} {fins : List Nat}
def Down (ops : Array Oper) (listed : Array Bool) : Prop := ∀ j o, ops[j]? = some o → listed.getD j false = true → ∀ ed ∈ o.after, Region.binds .any ed = true → listed.getD ed.on false = true
theorem waits_listed {listed : Array Bool} (hd : Down ops listed) : ∀ (f j i : Nat), waits ops f j i = true → (∀ o, ops[j]? = some o → ∀ ed ∈ o.after, Region.binds .any ed = true → listed.getD ed.on false = true) → listed.getD i false = true
  | 0, j, i, h, _ => by simp [waits] at h
  | f + 1, j, i, h, hj => by
    simp only [waits] at h
    split at h
    · rename_i o ho
      simp only [Array.any_eq_true'] at h
      obtain ⟨ed, hm, hb⟩ := h
      simp only [Bool.and_eq_true, Bool.or_eq_true, beq_iff_eq] at hb
      have hl := hj o ho ed hm hb.1
      rcases hb.2 with he | he
      · rw [← he]; exact hl
      · exact waits_listed hd f ed.on i he (fun o' ho' ed' hm' hb' => hd ed.on o' ho' hl ed' hm' hb')
    · cases h
theorem down_set {listed : Array Bool} (hd : Down ops listed) {i : Nat} (hr : i ∈ Region.ready .any ops listed) : Down ops (listed.setIfInBounds i true) := by
  intro j o ho hl ed hm hb
  obtain ⟨_, oi, hoi, hall⟩ := mem_ready.1 hr
  by_cases hji : j = i
  · subst hji
    rw [hoi] at ho
    injection ho with ho
    subst ho
    exact getD_set_true (hall ed hm hb)
  · have : listed.getD j false = true := by
      rwa [getD_set_ne false (Ne.symm hji)] at hl
    exact getD_set_true (hd j o ho this ed hm hb)
def wpX (P : Program) (ops : Array Oper) (Q : Exit → Act → World → Prop) (S : World → Prop) (fins : List Nat) : Nat → Array Bool → Act → World → Prop
  | 0, listed, a, w => Region.ready .any ops listed = [] ∧ Q .normal a w
  | fuel + 1, listed, a, w =>
    (Region.ready .any ops listed = [] → Q .normal a w) ∧
    ∀ i ∈ Region.ready .any ops listed, wpOp P ops Q i (fun a' w' => (i ∈ fins ∨ S w') ∧ wpX P ops Q S fins fuel (listed.setIfInBounds i true) a' w') a w
theorem wpX_any : ∀ (fuel : Nat) (listed : Array Bool) (a : Act) (w : World), wpX P ops Q S fins fuel listed a w → wpAny P .any ops Q fuel listed a w
  | 0, _, _, _, h => h
  | fuel + 1, _, _, _, h => ⟨h.1, fun i hi => wpOp_mono (fun a' w' h' => wpX_any fuel _ a' w' h'.2) (h.2 i hi)⟩
theorem wpX_first {i f : Nat} {oi : Oper} {v : Value} (hi : ops[i]? = some oi) (hsel : Region.noSelect ops = true)
    (hQ : ∀ c a w, ¬ Q (.panic c) a w) (hfin : ∀ j ∈ fins, waits ops f j i = true) :
    ∀ (fuel : Nat) (listed : Array Bool) (a : Act) (w : World), Down ops listed → Region.free .any ops listed i = true → i ∈ Region.ready .any ops listed → YieldsIf P ops S oi v a → S w →
      wpX P ops Q S fins fuel (listed.setIfInBounds i true) (a.put oi.dst v) w → wpX P ops Q S fins (fuel + 1) listed a w := by
  intro fuel listed a w hdown hfree0
  have hfree := Region.free_spec hi hfree0
  clear hfree0
  have hs := Region.noSelect_spec hsel
  induction fuel generalizing listed a w with
  | zero =>
    intro hr hy hS H
    refine ⟨fun h => (by rw [h] at hr; cases hr), fun j hj => ?_⟩
    by_cases hji : j = i
    · subst hji; exact hy.wpOp hi hS ⟨.inr hS, H⟩
    · have := ready_mono hj hji
      rw [H.1] at this
      cases this
  | succ fuel ih =>
    intro hr hy hS H
    refine ⟨fun h => (by rw [h] at hr; cases hr), fun j hj => ?_⟩
    by_cases hji : j = i
    · subst hji; exact hy.wpOp hi hS ⟨.inr hS, H⟩
    · have h1 := H.2 j (ready_mono hj hji)
      obtain ⟨hjun, oj, hoj, hall⟩ := mem_ready.1 hj
      have hun0 : ¬ listed.getD i false = true := by
        have h0 := (mem_ready.1 hr).1
        intro h1
        rcases Nat.lt_or_ge i listed.size with h' | h'
        · simp [h'] at h0 h1; rw [h0] at h1; cases h1
        · simp [Array.getElem?_eq_none h'] at h1
      have hnot : ∀ ed ∈ oj.after, Region.binds .any ed = true → ed.on ≠ i := fun ed he hb heq => by
        have h1 := hall ed he hb
        rw [heq] at h1
        exact hun0 h1
      have hnf : j ∉ fins := fun hm => hun0 (waits_listed hdown f j i (hfin j hm) (fun o ho ed hm hb => by rw [hoj] at ho; injection ho with ho; subst ho; exact hall ed hm hb))
      have h2 := wpOp_putIf hoj (hfree j oj hoj hji hjun hnot) (fun cs b => hs i oi cs b hi) (fun cs b => hs j oj cs b hoj) (fun c a w h => absurd h (hQ c _ w)) hy h1
      refine wpOp_mono (fun a' w' h3 => ⟨h3.2.1, ?_⟩) h2
      have hS' : S w' := h3.2.1.resolve_left hnf
      refine ih (listed.setIfInBounds j true) a' w' (down_set hdown hj) ?_ (ready_mono hr (Ne.symm hji)) h3.1 hS' ?_
      · intro k ok hk hki hun hno
        refine hfree k ok hk hki ?_ hno
        by_cases hjk : j = k
        · subst hjk; exact hjun
        · rw [getD_set_ne true hjk] at hun; exact hun
      · rw [Array.setIfInBounds_comm _ _ hji]
        exact h3.2.2
def okP (ops : Array Oper) (fins : List Nat) : List (Nat × Bool) → Array Bool → Option (Array Bool)
  | [], listed => some listed
  | (i, true) :: r, listed => if Region.free .any ops listed i && (Region.ready .any ops listed).contains i && fins.all (fun j => waits ops ops.size j i) then okP ops fins r (listed.setIfInBounds i true) else none
  | (i, false) :: r, listed => if Region.ready .any ops listed == [i] then okP ops fins r (listed.setIfInBounds i true) else none
inductive Tr where
  | L (l : List (Nat × Bool)) : Tr
  | N (l : List (Nat × Bool)) (i : Nat) (t1 : Tr) (j : Nat) (t2 : Tr) : Tr
  | M (l : List (Nat × Bool)) (i : Nat) (t1 : Tr) (j : Nat) (t2 : Tr) (k : Nat) (t3 : Tr) : Tr
def Tr.depth : Tr → Nat
  | .L l => l.length
  | .N l _ t1 _ _ => l.length + (t1.depth + 1)
  | .M l _ t1 _ _ _ _ => l.length + (t1.depth + 1)
def okT (ops : Array Oper) (fins : List Nat) : Tr → Array Bool → Bool
  | .L l, listed => match okP ops fins l listed with
    | some e => (Region.ready .any ops e).isEmpty
    | none => false
  | .N l i t1 j t2, listed => match okP ops fins l listed with
    | some e => (Region.ready .any ops e == [i, j]) && okT ops fins t1 (e.setIfInBounds i true) && okT ops fins t2 (e.setIfInBounds j true) && t1.depth == t2.depth
    | none => false
  | .M l i t1 j t2 k t3, listed => match okP ops fins l listed with
    | some e => (Region.ready .any ops e == [i, j, k]) && okT ops fins t1 (e.setIfInBounds i true) && okT ops fins t2 (e.setIfInBounds j true) && okT ops fins t3 (e.setIfInBounds k true) && t1.depth == t2.depth && t1.depth == t3.depth
    | none => false
def wpS (P : Program) (ops : Array Oper) (Q : Exit → Act → World → Prop) (K : (World → Prop) → Act → World → Prop) : (World → Prop) → List Nat → List (Nat × Bool) → Act → World → Prop
  | S, _, [], a, w => K S a w
  | S, fins, (i, true) :: r, a, w => ∃ oi v, ops[i]? = some oi ∧ YieldsIf P ops S oi v a ∧ S w ∧ wpS P ops Q K S fins r (a.put oi.dst v) w
  | S, fins, (i, false) :: r, a, w => wpOp P ops Q i (fun a' w' => ∃ S2 : World → Prop, (∀ x, S2 x → S x) ∧ (i ∈ fins ∨ S2 w') ∧ wpS P ops Q K S2 fins r a' w') a w
def wpT (P : Program) (ops : Array Oper) (Q : Exit → Act → World → Prop) (fins : List Nat) : Tr → (World → Prop) → Act → World → Prop
  | .L l, S, a, w => wpS P ops Q (fun _ => Q .normal) S fins l a w
  | .N l i t1 j t2, S, a, w => wpS P ops Q (fun S a w => wpS P ops Q (wpT P ops Q fins t1) S fins [(i, false)] a w ∧ wpS P ops Q (wpT P ops Q fins t2) S fins [(j, false)] a w) S fins l a w
  | .M l i t1 j t2 k t3, S, a, w => wpS P ops Q (fun S a w => wpS P ops Q (wpT P ops Q fins t1) S fins [(i, false)] a w ∧ wpS P ops Q (wpT P ops Q fins t2) S fins [(j, false)] a w ∧ wpS P ops Q (wpT P ops Q fins t3) S fins [(k, false)] a w) S fins l a w
theorem wpX_mono {S2 : World → Prop} (hle : ∀ x, S2 x → S x) : ∀ (fuel : Nat) (listed : Array Bool) (a : Act) (w : World), wpX P ops Q S2 fins fuel listed a w → wpX P ops Q S fins fuel listed a w
  | 0, _, _, _, h => h
  | fuel + 1, _, _, _, h => ⟨h.1, fun i hi => wpOp_mono (fun a' w' h' => ⟨h'.1.imp id (hle w'), wpX_mono hle fuel _ a' w' h'.2⟩) (h.2 i hi)⟩
theorem wpS_sound {m : Nat} {e : Array Bool} (hsel : Region.noSelect ops = true) (hQ : ∀ c a w, ¬ Q (.panic c) a w) (hK : Down ops e → ∀ S a w, K S a w → wpX P ops Q S fins m e a w) : ∀ (ord : List (Nat × Bool)) (S : World → Prop) (listed : Array Bool) (a : Act) (w : World), Down ops listed → okP ops fins ord listed = some e →
    wpS P ops Q K S fins ord a w → wpX P ops Q S fins (ord.length + m) listed a w
  | [], S, listed, a, w, hdn, ho, h => by
    simp only [okP, Option.some.injEq] at ho
    subst ho
    simpa using hK hdn S a w h
  | (i, true) :: r, S, listed, a, w, hdn, ho, h => by
    simp only [okP] at ho
    split at ho
    · rename_i hc
      simp only [Bool.and_eq_true] at hc
      obtain ⟨⟨hf, hr⟩, hfi⟩ := hc
      obtain ⟨oi, v, hi, hy, hS, hk⟩ := h
      have hr' : i ∈ Region.ready .any ops listed := by simpa using hr
      rw [List.length_cons, Nat.add_right_comm]
      exact wpX_first hi hsel hQ (fun j hj => List.all_eq_true.1 hfi j hj) (r.length + m) listed a w hdn hf hr' hy hS (wpS_sound hsel hQ hK r S _ _ _ (down_set hdn hr') ho hk)
    · cases ho
  | (i, false) :: r, S, listed, a, w, hdn, ho, h => by
    simp only [okP] at ho
    split at ho
    · rename_i hc
      have hc' : Region.ready .any ops listed = [i] := by simpa using hc
      rw [List.length_cons, Nat.add_right_comm]
      refine ⟨fun h0 => (by rw [hc'] at h0; cases h0), fun j hj => ?_⟩
      have hr' := hj
      rw [hc'] at hj
      have : j = i := by simpa using hj
      subst this
      exact wpOp_mono (fun a' w' ⟨S2, hle, h1, h2⟩ => ⟨h1.imp id (hle w'), wpX_mono hle _ _ _ _ (wpS_sound hsel hQ hK r S2 _ _ _ (down_set hdn hr') ho h2)⟩) h
    · cases ho
theorem wpT_sound (hsel : Region.noSelect ops = true) (hQ : ∀ c a w, ¬ Q (.panic c) a w) : ∀ (t : Tr) (S : World → Prop) (listed : Array Bool) (a : Act) (w : World), Down ops listed → okT ops fins t listed = true →
    wpT P ops Q fins t S a w → wpX P ops Q S fins t.depth listed a w
  | .L l, S, listed, a, w, hdn, ho, h => by
    simp only [okT] at ho
    split at ho
    · rename_i e he
      exact wpS_sound (m := 0) hsel hQ (fun _ S a w h => ⟨by simpa using ho, h⟩) l S listed a w hdn he h
    · cases ho
  | .N l i t1 j t2, S, listed, a, w, hdn, ho, h => by
    simp only [okT] at ho
    split at ho
    · rename_i e he
      simp only [Bool.and_eq_true, beq_iff_eq] at ho
      obtain ⟨⟨⟨hr, ho1⟩, ho2⟩, hd⟩ := ho
      refine wpS_sound (m := t1.depth + 1) hsel hQ (fun hde S a w h => ?_) l S listed a w hdn he h
      refine ⟨fun h0 => (by rw [hr] at h0; cases h0), fun x hx => ?_⟩
      have hx' := hx
      rw [hr] at hx
      have hx2 : x = i ∨ x = j := by simpa using hx
      rcases hx2 with rfl | rfl
      · exact wpOp_mono (fun a' w' ⟨S2, hle, h1, h2⟩ => ⟨h1.imp id (hle w'), wpX_mono hle _ _ _ _ (wpT_sound hsel hQ t1 S2 _ _ _ (down_set hde hx') ho1 h2)⟩) h.1
      · rw [hd]
        exact wpOp_mono (fun a' w' ⟨S2, hle, h1, h2⟩ => ⟨h1.imp id (hle w'), wpX_mono hle _ _ _ _ (wpT_sound hsel hQ t2 S2 _ _ _ (down_set hde hx') ho2 h2)⟩) h.2
    · cases ho
  | .M l i t1 j t2 k t3, S, listed, a, w, hdn, ho, h => by
    simp only [okT] at ho
    split at ho
    · rename_i e he
      simp only [Bool.and_eq_true, beq_iff_eq] at ho
      obtain ⟨⟨⟨⟨⟨hr, ho1⟩, ho2⟩, ho3⟩, hd⟩, hd3⟩ := ho
      refine wpS_sound (m := t1.depth + 1) hsel hQ (fun hde S a w h => ?_) l S listed a w hdn he h
      refine ⟨fun h0 => (by rw [hr] at h0; cases h0), fun x hx => ?_⟩
      have hx' := hx
      rw [hr] at hx
      have hx2 : x = i ∨ x = j ∨ x = k := by simpa using hx
      rcases hx2 with rfl | rfl | rfl
      · exact wpOp_mono (fun a' w' ⟨S2, hle, h1, h2⟩ => ⟨h1.imp id (hle w'), wpX_mono hle _ _ _ _ (wpT_sound hsel hQ t1 S2 _ _ _ (down_set hde hx') ho1 h2)⟩) h.1
      · rw [hd]
        exact wpOp_mono (fun a' w' ⟨S2, hle, h1, h2⟩ => ⟨h1.imp id (hle w'), wpX_mono hle _ _ _ _ (wpT_sound hsel hQ t2 S2 _ _ _ (down_set hde hx') ho2 h2)⟩) h.2.1
      · rw [hd3]
        exact wpOp_mono (fun a' w' ⟨S2, hle, h1, h2⟩ => ⟨h1.imp id (hle w'), wpX_mono hle _ _ _ _ (wpT_sound hsel hQ t3 S2 _ _ _ (down_set hde hx') ho3 h2)⟩) h.2.2
    · cases ho
theorem getD_none_false (m j : Nat) : (Array.replicate m false).getD j false = false := by
  simp only [Array.getD_eq_getD_getElem?, Array.getElem?_replicate]
  split <;> rfl
theorem down_none (ops : Array Oper) (m : Nat) : Down ops (Array.replicate m false) := by
  intro j o _ hl
  rw [getD_none_false] at hl
  cases hl
theorem wp_drawT {id : Nat} {l : List Oper} {a : Act} {w : World} (S : World → Prop) (fins : List Nat) (t : Tr) (hm : P.follows .mixedOrders = true)
    (hsel : Region.noSelect l.toArray = true) (hQ : ∀ c a w, ¬ Q (.panic c) a w) (hlen : t.depth = l.length) (ho : okT l.toArray fins t (Array.replicate l.length false) = true)
    (h : wpT P l.toArray Q fins t S a w.drew) : (Code.region id l.toArray true).wp P Q a w := by
  refine wp_region_any hm ?_
  have := wpT_sound hsel hQ t S _ _ _ (down_none _ _) ho h
  rw [hlen] at this
  have h2 := wpX_any _ _ _ _ this
  have e : l.toArray.size = l.length := by simp
  rw [e]
  exact h2
theorem wp_draw {id : Nat} {l : List Oper} {a : Act} {w : World} (S : World → Prop) (fins : List Nat) (ord : List (Nat × Bool)) (hm : P.follows .mixedOrders = true)
    (hsel : Region.noSelect l.toArray = true) (hQ : ∀ c a w, ¬ Q (.panic c) a w) (hlen : ord.length = l.length) (ho : okT l.toArray fins (.L ord) (Array.replicate l.length false) = true)
    (h : wpS P l.toArray Q (fun _ => Q .normal) S fins ord a w.drew) : (Code.region id l.toArray true).wp P Q a w :=
  wp_drawT S fins (.L ord) hm hsel hQ hlen ho h
theorem wp_drawN {id : Nat} {l : List Oper} {a : Act} {w : World} (S : World → Prop) (fins : List Nat) (pre : List (Nat × Bool)) (i : Nat) (t1 : Tr) (j : Nat) (t2 : Tr) (hm : P.follows .mixedOrders = true)
    (hsel : Region.noSelect l.toArray = true) (hQ : ∀ c a w, ¬ Q (.panic c) a w) (hlen : (Tr.N pre i t1 j t2).depth = l.length) (ho : okT l.toArray fins (.N pre i t1 j t2) (Array.replicate l.length false) = true)
    (h : wpS P l.toArray Q (fun S a w => wpS P l.toArray Q (wpT P l.toArray Q fins t1) S fins [(i, false)] a w ∧ wpS P l.toArray Q (wpT P l.toArray Q fins t2) S fins [(j, false)] a w) S fins pre a w.drew) : (Code.region id l.toArray true).wp P Q a w :=
  wp_drawT S fins (.N pre i t1 j t2) hm hsel hQ hlen ho h
theorem wp_drawM {id : Nat} {l : List Oper} {a : Act} {w : World} (S : World → Prop) (fins : List Nat) (pre : List (Nat × Bool)) (i : Nat) (t1 : Tr) (j : Nat) (t2 : Tr) (k : Nat) (t3 : Tr) (hm : P.follows .mixedOrders = true)
    (hsel : Region.noSelect l.toArray = true) (hQ : ∀ c a w, ¬ Q (.panic c) a w) (hlen : (Tr.M pre i t1 j t2 k t3).depth = l.length) (ho : okT l.toArray fins (.M pre i t1 j t2 k t3) (Array.replicate l.length false) = true)
    (h : wpS P l.toArray Q (fun S a w => wpS P l.toArray Q (wpT P l.toArray Q fins t1) S fins [(i, false)] a w ∧ wpS P l.toArray Q (wpT P l.toArray Q fins t2) S fins [(j, false)] a w ∧ wpS P l.toArray Q (wpT P l.toArray Q fins t3) S fins [(k, false)] a w) S fins pre a w.drew) : (Code.region id l.toArray true).wp P Q a w :=
  wp_drawT S fins (.M pre i t1 j t2 k t3) hm hsel hQ hlen ho h
variable {a : Act} {w : World} {n : Nat} {e : Env} {r : List (Nat × Bool)} {i d : Nat} {o : Oper}
theorem dr_y {v : Value} (hA : Has a n e) (hi : ops[i]? = some o) (hw : wantE ops e o.guard = some true) (hd : o.dst = some d) (hdn : d < n) (hS : S w)
    (hr : ∀ w', S w' → (execOp a.eval o).run P w' = .ok (.value v) w') (k : ∀ a', Has a' n ((d, v) :: e) → wpS P ops Q K S fins r a' w) : wpS P ops Q K S fins ((i, true) :: r) a w :=
  ⟨o, v, hi, .inl ⟨hA.want hw, hr⟩, hS, by rw [hd]; exact k _ (hA.put hdn v)⟩
theorem dr_no (hA : Has a n e) (hi : ops[i]? = some o) (hw : wantE ops e o.guard = some false) (hd : o.dst = some d) (hdn : d < n) (hS : S w)
    (k : ∀ a', Has a' n ((d, undef) :: e) → wpS P ops Q K S fins r a' w) : wpS P ops Q K S fins ((i, true) :: r) a w :=
  ⟨o, undef, hi, .inr ⟨hA.want hw, rfl⟩, hS, by rw [hd]; exact k _ (hA.put hdn undef)⟩
def runH (tb : List TI) (ops : Array Oper) (n : Nat) : List (Nat × Bool) → Env → Option Env
  | [], e => some e
  | (i, true) :: l, e => match ops[i]? with
    | some o => match o.dst with
      | none => none
      | some d => bif Nat.blt d n then
          (match wantE ops e o.guard with
          | some true => match pureOp tb e o.op with
            | some v => runH tb ops n l ((d, v) :: e)
            | none => none
          | some false => runH tb ops n l ((d, undef) :: e)
          | none => none)
        else none
    | none => none
  | _ :: _, _ => none
theorem dr_run (hT : TabOk P tb) {l : List (Nat × Bool)} (k : Nat) {e' : Env} (hA : Has a n e) (hS : S w) (h : runH tb ops n (l.take k) e = some e')
    (c : ∀ a', Has a' n e' → wpS P ops Q K S fins (l.drop k) a' w) : wpS P ops Q K S fins l a w := by
  induction k generalizing l a e with
  | zero => simp [runH] at h; subst h; exact c a hA
  | succ k ih =>
    cases l with
    | nil => simp [runH] at h; subst h; exact c a hA
    | cons p l =>
      obtain ⟨i, b⟩ := p
      cases b with
      | false => simp [runH] at h
      | true =>
        simp only [List.take_succ_cons, runH] at h
        split at h
        · rename_i o hi
          split at h
          · cases h
          · rename_i d hd
            cases hb : Nat.blt d n with
            | false => rw [hb] at h; cases h
            | true =>
              rw [hb] at h
              simp only [cond_true] at h
              have hdn : d < n := by simpa [Nat.blt_eq] using hb
              split at h
              · rename_i hw
                split at h
                · rename_i v hv
                  exact dr_y hA hi hw hd hdn hS (fun w' _ => pureOp_run hT hA hv w') (fun a' hA' => ih hA' h (by simpa using c))
                · cases h
              · rename_i hw
                exact dr_no hA hi hw hd hdn hS (fun a' hA' => ih hA' h (by simpa using c))
              · cases h
        · cases h
theorem dr_b (hi : ops[i]? = some o) (h : wpList P ops (Exit.then (fun a' w' => ∃ S2 : World → Prop, (∀ x, S2 x → S x) ∧ (i ∈ fins ∨ S2 w') ∧ wpS P ops Q K S2 fins r a' w') Q) [o] a w) : wpS P ops Q K S fins ((i, false) :: r) a w := by
  show wpOp P ops Q i _ a w
  unfold wpOp
  simp only [hi]
  simp only [wpList] at h
  split
  · rename_i hw
    rw [if_pos hw] at h
    rcases h with h | ⟨h1, a0, w0, h2⟩
    · refine .inl ?_
      unfold Oper.wp at *
      generalize (execOp a.eval o).run P w = res at *
      cases res with
      | ok nx w' => cases nx <;> exact h
      | halt x w' => cases x <;> exact h
    · exact .inr ⟨h1, a0, w0, h2⟩
  · rename_i hw
    rw [if_neg hw] at h
    exact h
theorem dr_nil (h1 : i ∈ fins ∨ S w) (h2 : wpS P ops Q K S fins r a w) : wpList P ops (Exit.then (fun a' w' => ∃ S2 : World → Prop, (∀ x, S2 x → S x) ∧ (i ∈ fins ∨ S2 w') ∧ wpS P ops Q K S2 fins r a' w') Q) [] a w := ⟨S, fun _ h => h, h1, h2⟩
theorem dr_nilS (S2 : World → Prop) (hle : ∀ x, S2 x → S x) (h1 : S2 w) (h2 : wpS P ops Q K S2 fins r a w) : wpList P ops (Exit.then (fun a' w' => ∃ S2 : World → Prop, (∀ x, S2 x → S x) ∧ (i ∈ fins ∨ S2 w') ∧ wpS P ops Q K S2 fins r a' w') Q) [] a w := ⟨S2, hle, .inr h1, h2⟩
theorem dr_end (h : Q .normal a w) : wpS P ops Q (fun _ => Q .normal) S fins [] a w := h
theorem dr_fork {t1 t2 : Tr} {i j : Nat} (h1 : wpS P ops Q (wpT P ops Q fins t1) S fins [(i, false)] a w) (h2 : wpS P ops Q (wpT P ops Q fins t2) S fins [(j, false)] a w) :
    wpS P ops Q (fun S a w => wpS P ops Q (wpT P ops Q fins t1) S fins [(i, false)] a w ∧ wpS P ops Q (wpT P ops Q fins t2) S fins [(j, false)] a w) S fins [] a w := ⟨h1, h2⟩
theorem dr_fork3 {t1 t2 t3 : Tr} {i j k : Nat} (h1 : wpS P ops Q (wpT P ops Q fins t1) S fins [(i, false)] a w) (h2 : wpS P ops Q (wpT P ops Q fins t2) S fins [(j, false)] a w) (h3 : wpS P ops Q (wpT P ops Q fins t3) S fins [(k, false)] a w) :
    wpS P ops Q (fun S a w => wpS P ops Q (wpT P ops Q fins t1) S fins [(i, false)] a w ∧ wpS P ops Q (wpT P ops Q fins t2) S fins [(j, false)] a w ∧ wpS P ops Q (wpT P ops Q fins t3) S fins [(k, false)] a w) S fins [] a w := ⟨h1, h2, h3⟩
theorem dr_subL {l : List (Nat × Bool)} (h : wpS P ops Q (fun _ => Q .normal) S fins l a w) : wpS P ops Q (wpT P ops Q fins (.L l)) S fins [] a w := h
theorem dr_subN {l : List (Nat × Bool)} {t1 t2 : Tr} {i j : Nat} (h : wpS P ops Q (fun S a w => wpS P ops Q (wpT P ops Q fins t1) S fins [(i, false)] a w ∧ wpS P ops Q (wpT P ops Q fins t2) S fins [(j, false)] a w) S fins l a w) : wpS P ops Q (wpT P ops Q fins (.N l i t1 j t2)) S fins [] a w := h
end
end Go.SK

set_option linter.unusedVariables false
set_option linter.unusedSimpArgs false
namespace Go.SK
open Go
theorem wrap_i64 {x : Int} (h0 : -9223372036854775808 ≤ x) (h1 : x ≤ 9223372036854775807) : IntKind.i64.wrap x = x := by
  simp only [IntKind.wrap, IntKind.bits, IntKind.signed]
  simp
  omega
theorem wr64 {x y : Int} (h : x = y) (h0 : -9223372036854775808 ≤ y) (h1 : y ≤ 9223372036854775807) : Value.int .i64 (IntKind.i64.wrap x) = .int .i64 y := by
  rw [h, wrap_i64 h0 h1]
theorem wrap_u8 {x : Int} (h0 : 0 ≤ x) (h1 : x ≤ 255) : IntKind.u8.wrap x = x := by
  simp only [IntKind.wrap, IntKind.bits, IntKind.signed]
  simp
  omega
theorem wrap_u32 {x : Int} (h0 : 0 ≤ x) (h1 : x ≤ 4294967295) : IntKind.u32.wrap x = x := by
  simp only [IntKind.wrap, IntKind.bits, IntKind.signed]
  simp
  omega
theorem wrap_u64 {x : Int} (h0 : 0 ≤ x) (h1 : x ≤ 18446744073709551615) : IntKind.u64.wrap x = x := by
  simp only [IntKind.wrap, IntKind.bits, IntKind.signed]
  simp
  omega
theorem vint {k : IntKind} {x y : Int} (h : x = y) : Value.int k x = .int k y := by rw [h]
theorem vbool {x y : Bool} (h : x = y) : Value.bool x = .bool y := by rw [h]
theorem vb_true {p : Prop} [Decidable p] (h : p) : Value.bool (decide p) = .bool true := by rw [decide_eq_true h]
theorem vb_false {p : Prop} [Decidable p] (h : ¬ p) : Value.bool (decide p) = .bool false := by rw [decide_eq_false h]
theorem vb_eq_t {x y : Int} (h : x = y) : Value.bool (x == y) = .bool true := by rw [beq_iff_eq.2 h]
theorem vb_eq_f {x y : Int} (h : ¬ x = y) : Value.bool (x == y) = .bool false := by rw [beq_eq_false_iff_ne.2 h]
theorem vb_ne_t {x y : Int} (h : ¬ x = y) : Value.bool (x != y) = .bool true := by rw [bne_iff_ne.2 h]
theorem vb_ne_f {x y : Int} (h : x = y) : Value.bool (x != y) = .bool false := by subst h; simp
theorem vb_t {b : Bool} (h : b = true) : Value.bool b = .bool true := by rw [h]
theorem vb_f {b : Bool} (h : ¬ b = true) : Value.bool b = .bool false := by cases b <;> simp_all
section
variable {w0 w w' : World} {L L' F : List Chunk}
def RdS (w0 : World) (F : List Chunk) (size : Nat) (v : Value) (m : Nat) (xs : List Value) : Prop := ∀ w', St w0 w' F → Rd w' size v m xs
theorem Rd.open' {size : Nat} {v : Value} {m : Nat} {xs : List Value} (ho : Rd w size v m xs) : ∃ A c, v = .slice A m c ∧ m ≤ c ∧ c ≤ 9223372036854775807 := ho.open
theorem Own.open' {T size : Nat} {v : Value} {m : Nat} {xs : List Value} {C : Chunk} (ho : Own T size v m xs C) : ∃ A c, v = .slice A m c ∧ m ≤ c ∧ c ≤ 9223372036854775807 := ho.open
theorem Rd.isSome {size : Nat} {A : Option Addr} {m c : Nat} {xs : List Value} (h : Rd w size (.slice A m c) m xs) {k : Nat} (hk : k < m) : ∃ b off, A = some ⟨b, off, none⟩ := by
  obtain ⟨hl, ⟨hv, hm⟩ | ⟨b, off, c', hv, hc, hmx, hx⟩⟩ := h
  · omega
  · injection hv with h1 h2 h3
    exact ⟨b, off, h1⟩
theorem Rd.cell {size : Nat} {b off m c : Nat} {xs : List Value} (h : Rd w size (.slice (some ⟨b, off, none⟩) m c) m xs) {q : Nat} {u : Value} (hu : xs[q]? = some u) : w.cell? ⟨b, off + q, none⟩ = some u := by
  obtain ⟨hl, ⟨hv, hm⟩ | ⟨b', off', c', hv, hc, hmx, hx⟩⟩ := h
  · injection hv with h1; cases h1
  · injection hv with h1 h2 h3
    injection h1 with h1
    injection h1 with h1 h4
    subst h1; subst h4
    exact hx q u hu
theorem Rd.cells {size : Nat} {b off m c : Nat} {xs cs : List Value} (h : Rd w size (.slice (some ⟨b, off, none⟩) m c) m xs) {q : Nat} (hu : ∀ j u, cs[j]? = some u → xs[q + j]? = some u) :
    ∀ j u, cs[j]? = some u → w.cell? ⟨b, off + q + j, none⟩ = some u := fun j u hj => by
  rw [Nat.add_assoc]; exact h.cell (hu j u hj)
theorem cells_row {b : Nat} {l cs : List Value} {T off : Nat} (h : w.heap[b]? = some (rowO l T)) (hc : (l.drop off).take cs.length = cs) : ∀ j u, cs[j]? = some u → w.cell? ⟨b, off + j, none⟩ = some u := by
  intro j u hj
  refine cell_row h ?_
  have hlt := (List.getElem?_eq_some_iff.1 hj).1
  rw [← hc] at hj
  rw [List.getElem?_take, if_pos hlt, List.getElem?_drop] at hj
  exact hj
theorem St.trans {X : List Chunk} (h : St w0 w L) (k : St w w' X) : St w0 w' (X ++ L) := by
  refine ⟨k.os.trans h.os, k.tape.trans h.tape, k.output.trans h.output, Nat.le_trans h.size k.size, fun i hi => ?_, ?_, ?_⟩
  · have := h.size
    rw [k.below i (by omega)]; exact h.below i hi
  · intro p hp
    simp only [List.flatten_append, List.mem_append] at hp
    rcases hp with hp | hp
    · have := k.own p hp
      exact ⟨Nat.le_trans h.size this.1, this.2⟩
    · have h1 := h.own p hp
      exact ⟨h1.1, by rw [k.below p.1 (h.lt hp)]; exact h1.2⟩
  · simp only [List.flatten_append, List.map_append]
    refine List.nodup_append.2 ⟨k.nd, h.nd, ?_⟩
    intro x hx y hy hxy
    subst hxy
    obtain ⟨p, hp, rfl⟩ := List.mem_map.1 hx
    obtain ⟨q, hq, he⟩ := List.mem_map.1 hy
    have h1 := (k.own p hp).1
    have h2 := h.lt hq
    omega
theorem RdS.old {size : Nat} {v : Value} {m : Nat} {xs : List Value} (h : Rd w0 size v m xs) : RdS w0 F size v m xs := fun _ hS => Rd.old hS h
theorem RdS.own {T size : Nat} {v : Value} {m : Nat} {xs : List Value} {C : Chunk} (ho : Own T size v m xs C) (i : Nat) (hi : F[i]? = some C) : RdS w0 F size v m xs := fun _ hS => ho.rd (hS.own_ i hi)
theorem RdS.cons {size : Nat} {v : Value} {m : Nat} {xs : List Value} {C : Chunk} (h : RdS w0 F size v m xs) : RdS w0 (C :: F) size v m xs := fun _ hS => h _ hS.drop1
theorem RdS.nil {size : Nat} : RdS w0 F size (.slice none 0 0) 0 [] := fun w' _ => Rd.nil w' size
end
section
variable {P : Program} {Q : Exit → Act → World → Prop} {a : Act} {w : World}
variable {K : Act → World → Prop} {id : Nat}
theorem xt_ret (h : Q .ret a w) : Exit.then K Q .ret a w := h
theorem xb_ret (h : Q .ret a w) : Exit.inBlock id Q .ret a w := h
theorem xt_exit {i : Nat} (h : Q (.exit i) a w) : Exit.then K Q (.exit i) a w := h
theorem xt_norm (h : K a w) : Exit.then K Q .normal a w := h
theorem xb_norm (h : Q .normal a w) : Exit.inBlock id Q .normal a w := h
theorem lp_next {I : Nat → Act → World → Prop} {m : Nat} (m' : Nat) (h : m' < m) (hI : I m' a w) : Exit.then (fun a' w' => ∃ n', n' < m ∧ I n' a' w') Q .normal a w := ⟨m', h, hI⟩
end
end Go.SK

set_option linter.unusedVariables false
set_option linter.unusedSimpArgs false
namespace Go.SK
open Go
section
variable {w0 w w' : World} {L F : List Chunk} {T E size m c : Nat} {A : Option Addr} {xs : List Value} {C : Chunk} {v : Value}
theorem Rd.slv (h : Rd w size (.slice A m c) m xs) (l hh cc : Nat) (hlh : l ≤ hh) (hm : hh ≤ m) (hc : hh ≤ cc) (hcc : cc ≤ c) : Rd w size (slv A l hh cc size) (hh - l) ((xs.take (hh * size)).drop (l * size)) := by
  obtain ⟨hl, ⟨hv, h0⟩ | ⟨b, off, c', hv, hmc, hmx, hx⟩⟩ := h
  · injection hv with h1 h2 h3
    subst h1; subst h2; subst h3
    have : hh = 0 := by omega
    subst this
    have : l = 0 := by omega
    subst this
    have : cc = 0 := by omega
    subst this
    have hxs : xs = [] := List.eq_nil_of_length_eq_zero (by simpa using hl)
    subst hxs
    exact ⟨by simp, .inl ⟨by simp [SK.slv], by omega⟩⟩
  · injection hv with h1 h2 h3
    subst h1; subst h3
    have hll : l * size ≤ hh * size := Nat.mul_le_mul_right _ hlh
    have hlm : hh * size ≤ m * size := Nat.mul_le_mul_right _ hm
    refine ⟨by simp [hl, Nat.sub_mul, Nat.min_eq_left hlm], .inr ?_⟩
    by_cases hcl : cc = l
    · have : hh = l := by omega
      subst this
      refine ⟨b, off, cc - hh, by simp [SK.slv, hcl], by omega, by omega, fun j u hu => ?_⟩
      have : ((xs.take (hh * size)).drop (hh * size)) = [] := List.drop_eq_nil_of_le (by simp; omega)
      rw [this] at hu
      cases hu
    · refine ⟨b, off + l * size, cc - l, by simp [SK.slv, hcl, Addr.add_lit], by omega, by omega, fun j u hu => ?_⟩
      rw [List.getElem?_drop] at hu
      have hlt : l * size + j < hh * size := by
        have := (List.getElem?_eq_some_iff.1 hu).1
        simp at this
        omega
      rw [List.getElem?_take, if_pos hlt] at hu
      rw [Nat.add_assoc]
      exact hx _ u hu
theorem Rd.head (h : Rd w size (.slice A m c) m xs) (hh : Nat) (hm : hh ≤ m) : Rd w size (.slice A hh c) hh (xs.take (hh * size)) := by
  have := h.slv 0 hh c (Nat.zero_le _) hm (by have := h.open; obtain ⟨_, _, h1, h2, _⟩ := this; injection h1 with _ _ h3; omega) (Nat.le_refl _)
  have e : SK.slv A 0 hh c size = .slice A hh c := by
    unfold SK.slv
    cases A with
    | none => simp
    | some p => simp [Addr.add]
  rw [e] at this
  simpa using this
theorem Own.slv (h : Own T size (.slice A m c) m xs C) (l hh cc : Nat) (hlh : l ≤ hh) (hm : hh ≤ m) (hc : hh ≤ cc) (hcc : cc ≤ c) : Own T size (slv A l hh cc size) (hh - l) ((xs.take (hh * size)).drop (l * size)) C := by
  obtain ⟨hl, ⟨hv, h0, hC⟩ | ⟨g, pre, sp, post, c', hv, hmc, hmx, hsp, rfl⟩⟩ := h
  · injection hv with h1 h2 h3
    subst h1; subst h2; subst h3
    have : hh = 0 := by omega
    subst this
    have : l = 0 := by omega
    subst this
    have : cc = 0 := by omega
    subst this
    have hxs : xs = [] := List.eq_nil_of_length_eq_zero (by simpa using hl)
    subst hxs
    exact ⟨by simp, .inl ⟨by simp [SK.slv], by omega, hC⟩⟩
  · injection hv with h1 h2 h3
    subst h1; subst h3
    have hll : l * size ≤ hh * size := Nat.mul_le_mul_right _ hlh
    have hlm : hh * size ≤ m * size := Nat.mul_le_mul_right _ hm
    have hcc2 : (cc - hh) * size ≤ (m - hh) * size + sp.length := by rw [hsp, ← Nat.add_mul]; exact Nat.mul_le_mul_right _ (by omega)
    refine ⟨by simp [hl, Nat.sub_mul, Nat.min_eq_left hlm], .inr ?_⟩
    have hx : xs = xs.take (l * size) ++ ((xs.take (hh * size)).drop (l * size) ++ xs.drop (hh * size)) := by
      rw [← List.append_assoc]
      have e1 : xs.take (l * size) ++ (xs.take (hh * size)).drop (l * size) = xs.take (hh * size) := by
        have := List.take_append_drop (l * size) (xs.take (hh * size))
        rwa [List.take_take, Nat.min_eq_left hll] at this
      rw [e1, List.take_append_drop]
    by_cases hcl : cc = l
    · have : hh = l := by omega
      subst this
      refine ⟨g, pre, [], xs ++ (sp ++ post), cc - hh, by simp [SK.slv, hcl], by omega, by omega, by simp [hcl], ?_⟩
      have : ((xs.take (hh * size)).drop (hh * size)) = [] := List.drop_eq_nil_of_le (by simp; omega)
      rw [this]
      simp
    · refine ⟨g, pre ++ xs.take (l * size), (xs.drop (hh * size) ++ sp).take ((cc - hh) * size), (xs.drop (hh * size) ++ sp).drop ((cc - hh) * size) ++ post, cc - l, ?_, by omega, by omega, ?_, ?_⟩
      · simp [SK.slv, hcl, Addr.add_lit, hl, Nat.min_eq_left (show l * size ≤ m * size by omega), Nat.min_eq_left (show l ≤ m by omega)]
      · rw [List.length_take, List.length_append, List.length_drop, hl, ← Nat.sub_mul]
        rw [show cc - l - (hh - l) = cc - hh by omega]
        omega
      · congr 3
        have e2 : (xs.drop (hh * size) ++ sp).take ((cc - hh) * size) ++ ((xs.drop (hh * size) ++ sp).drop ((cc - hh) * size) ++ post) = xs.drop (hh * size) ++ (sp ++ post) := by
          rw [← List.append_assoc, List.take_append_drop, List.append_assoc]
        rw [e2, List.append_assoc]
        conv => lhs; rw [hx]
        simp only [List.append_assoc]
theorem slv_head (A : Option Addr) (h c s : Nat) : slv A 0 h c s = .slice A h c := by
  unfold slv
  cases A with
  | none => simp
  | some p => simp [Addr.add]
theorem Own.head (h : Own T size (.slice A m c) m xs C) (hh : Nat) (hm : hh ≤ m) : Own T size (.slice A hh c) hh (xs.take (hh * size)) C := by
  obtain ⟨_, _, h1, h2, _⟩ := h.open
  injection h1 with _ _ h3
  have := h.slv 0 hh c (Nat.zero_le _) hm (by omega) (Nat.le_refl _)
  rw [slv_head] at this
  simpa using this
theorem Own.isSome (h : Own T size (.slice A m c) m xs C) {k : Nat} (hk : k < m) : ∃ b off, A = some ⟨b, off, none⟩ := by
  obtain ⟨hl, ⟨hv, hm, _⟩ | ⟨g, pre, sp, post, c', hv, hc, hmx, hsp, _⟩⟩ := h
  · omega
  · injection hv with h1 h2 h3
    exact ⟨g, pre.length, h1⟩
theorem Own.cap (h : Own T size (.slice A m c) m xs C) : m ≤ c ∧ c ≤ 9223372036854775807 := by
  obtain ⟨_, _, h1, h2, h3⟩ := h.open
  injection h1 with _ _ h4
  subst h4
  exact ⟨h2, h3⟩
theorem Rd.cap (h : Rd w size (.slice A m c) m xs) : m ≤ c ∧ c ≤ 9223372036854775807 := by
  obtain ⟨_, _, h1, h2, h3⟩ := h.open
  injection h1 with _ _ h4
  subst h4
  exact ⟨h2, h3⟩
end
section
variable {P : Program} {tb : List TI} {ops : Array Oper} {Q : Exit → Act → World → Prop} {a : Act} {w0 w : World} {n : Nat} {e : Env} {L : List Chunk} {o : Oper} {rest : List Oper} {d : Nat}
theorem st_store_own (hT : TabOk P tb) (hA : Has a n e) {E size m c b off : Nat} {xs : List Value} {C : Chunk} (hO : Own E size (.slice (some ⟨b, off, none⟩) m c) m xs C) (hS : St w0 w (C :: L))
    {T : Nat} {i : TI} {x y : Operand} {v : Value} (p off' : Nat) (cs xs' : List Value)
    (ho : o.op = .store T x y) (hx : ev e x = some (.pointer (some ⟨b, off', none⟩))) (hy : ev e y = some v) (hi : lkT tb T = some i)
    (hoff : off' = off + p) (hcs : v.cells = cs.toArray) (hl : cs.length = i.size) (h1 : ∀ u ∈ cs, u.oneCell' = true) (hfit : p + cs.length ≤ xs.length) (hxs : xs.take p ++ (cs ++ xs.drop (p + cs.length)) = xs')
    (hw : wantE ops e o.guard = some true) (hd : o.dst = none)
    (k : ∀ w' C', Own E size (.slice (some ⟨b, off, none⟩) m c) m xs' C' → St w0 w' (C' :: L) → wpList P ops Q rest a w') : wpList P ops Q (o :: rest) a w := by
  subst hoff
  subst hxs
  obtain ⟨hol, ⟨hv, _⟩ | ⟨g, pre, sp, post, c', hv, hc, hmx, hsp, rfl⟩⟩ := hO
  · injection hv with hv; cases hv
  · injection hv with h1' h2' h3'
    injection h1' with h1'
    injection h1' with h4 h5
    subst h4; subst h5; subst h3'
    have e1 : (pre ++ (xs ++ (sp ++ post))).take (pre.length + p) ++ cs ++ (pre ++ (xs ++ (sp ++ post))).drop (pre.length + p + cs.length) = pre ++ ((xs.take p ++ (cs ++ xs.drop (p + cs.length))) ++ (sp ++ post)) := by
      rw [List.take_append, List.take_of_length_le (by omega), Nat.add_sub_cancel_left, List.take_append_of_le_length (by omega)]
      rw [show pre.length + p + cs.length = pre.length + (p + cs.length) by omega, List.drop_append, List.drop_eq_nil_of_le (by omega), Nat.add_sub_cancel_left, List.drop_append_of_le_length (by omega)]
      simp
    refine st_store hT hA hS cs _ ho hx hy hi hcs hl h1 (by simp; omega) e1 hw hd ?_
    intro w' hS'
    refine k w' _ ⟨?_, .inr ⟨b, pre, sp, post, c, rfl, hc, hmx, hsp, rfl⟩⟩ hS'
    rw [← hol]
    simp only [List.length_append, List.length_take, List.length_drop]
    omega
theorem run_append_rm (hT : TabOk P tb) {T E size m q c : Nat} {i j : TI} {A : Option Addr} {x : Value} {xs news : List Value} {C : Chunk} (hi : lkT tb T = some i) (hE : i.desc = .slice E) (hj : lkT tb E = some j)
    (hsize : j.size = size) (hO : Own E size (.slice A m c) m xs C) (hS : St w0 w (C :: L)) (hx : Rd w size x q news) (h1 : ∀ u ∈ news, u.oneCell' = true) (hroom : m + q ≤ c) (ty : TypeId) :
    ∃ w' C', (Builtin.append_ #[T, T] ty #[.slice A m c, x]).run P w = .ok (.slice A (m + q) c) w' ∧ Own E size (.slice A (m + q) c) (m + q) (xs ++ news) C' ∧ St w0 w' (C' :: L) := by
  obtain ⟨ht, hok⟩ := hT.at_ hi
  obtain ⟨htj, hokj⟩ := hT.at_ hj
  have hu : P.underlying T = some (.slice E) := by have := hok.1; rwa [ht, hE] at this
  obtain ⟨_, inf, hinf, hs1, hb1, hz1⟩ := hokj
  rw [htj] at hinf
  have hlen : (xs ++ news).length = (m + q) * size := by rw [List.length_append, hO.1, hx.1, Nat.add_mul]
  have hcapO := hO.cap
  obtain ⟨hxl, hxx⟩ := hx
  obtain ⟨hol, hoo⟩ := hO
  have hss : inf.size = size := hs1.trans hsize
  by_cases hq : q = 0
  · subst hq
    have hnews : news = [] := List.eq_nil_of_length_eq_zero (by simpa using hxl)
    subst hnews
    refine ⟨w, C, ?_, ⟨by simpa using hol, by simpa using hoo⟩, hS⟩
    have hxv : ∃ A c, x = .slice A 0 c := by
      rcases hxx with ⟨hv, _⟩ | ⟨b, off, c, hv, _⟩ <;> exact ⟨_, _, hv⟩
    obtain ⟨A', c', rfl⟩ := hxv
    have hfc : (Builtin.firstCells inf.size 0 (.slice A' 0 c')).run P w = .ok #[] w := by
      cases A' <;> simp [Builtin.firstCells, loadCells, loadCellsFrom]
    cases A <;> simp [Builtin.append_, run_underlying hu, sizeOf, typeInfo, hinf, Builtin.lenOf, hfc, hcapO.1, storeCells]
  · obtain ⟨b, off, c2, rfl, hqc, hcm, hxr⟩ : ∃ b off c, x = .slice (some ⟨b, off, none⟩) q c ∧ q ≤ c ∧ c ≤ maxLen ∧ ∀ j u, news[j]? = some u → w.cell? ⟨b, off + j, none⟩ = some u := by
      rcases hxx with ⟨_, h⟩ | h
      · exact absurd h hq
      · exact h
    have hnews : ∀ j u, news[j]? = some u → w.cell? ((⟨b, off, none⟩ : Addr).add j) = some u := fun j u hu => by rw [Addr.add_lit]; exact hxr j u hu
    have hl' : news.length = q * inf.size := by rw [hss]; exact hxl
    rcases hoo with ⟨hv, _, _⟩ | ⟨g, pre, sp, post, c', hv, hmc, hcm', hsp, rfl⟩
    · injection hv with h1 h2 h3
      omega
    · injection hv with hv1 hv2 hv3
      subst hv1; subst hv3
      have hg := hS.heapAt 0 rfl
      have hfc := run_firstCells_some (P := P) w inf.size q ⟨b, off, none⟩ q c2 news hl' hnews
      have hcm2 : c * size = m * size + (c - m) * size := by rw [← Nat.add_mul]; congr 1; omega
      have hqs : q * size ≤ (c - m) * size := Nat.mul_le_mul_right _ (by omega)
      have hst := run_storeCells_at P g (pre.length + m * size) E news 0 (pre ++ (xs ++ (sp ++ post))).toArray w hg (by simp; omega) h1
      simp only [Nat.add_zero] at hst
      refine ⟨_, [(g, rowO (pre ++ ((xs ++ news) ++ (sp.drop (q * size) ++ post))) E)], ?_, ⟨hlen, .inr ⟨g, pre, sp.drop (q * size), post, c, rfl, hroom, hcm', ?_, rfl⟩⟩, hS.upd (upd_setRow hg)⟩
      · rw [hss] at hfc
        have e1 : (pre ++ (xs ++ (sp ++ post))).take (pre.length + m * size) = pre ++ xs := by
          rw [← List.append_assoc, ← hol, ← List.length_append]; exact List.take_left
        have e2 : (pre ++ (xs ++ (sp ++ post))).drop (pre.length + m * size + news.length) = sp.drop (q * size) ++ post := by
          rw [← List.append_assoc, ← hol, ← List.length_append, List.drop_append, hxl, List.drop_eq_nil_of_le (by omega), List.nil_append, Nat.add_sub_cancel_left, List.drop_append, Nat.sub_eq_zero_of_le (by omega), List.drop_zero]
        simp only [List.append_assoc, e1, e2] at hst
        simp [Builtin.append_, run_underlying hu, sizeOf, typeInfo, hinf, Builtin.lenOf, hroom, hss, hfc, Addr.add_lit, hst]
      · rw [List.length_drop, hsp, ← Nat.sub_mul]; congr 1; omega
theorem st_append_rm (hT : TabOk P tb) (hA : Has a n e) {T E size m q c : Nat} {i j : TI} {s y : Operand} {A : Option Addr} {x : Value} {xs news : List Value} {C : Chunk}
    (ho : o.op = .call { callee := .builtin .append, args := #[s, y], argTypes := #[T, T] }) (hs : ev e s = some (.slice A m c)) (hy : ev e y = some x)
    (hi : lkT tb T = some i) (hE : i.desc = .slice E) (hj : lkT tb E = some j) (hsize : j.size = size)
    (hO : Own E size (.slice A m c) m xs C) (hS : St w0 w (C :: L)) (hx : Rd w size x q news) (h1 : ∀ u ∈ news, u.oneCell' = true) (hroom : m + q ≤ c)
    (hw : wantE ops e o.guard = some true) (hd : o.dst = some d) (hdn : d < n)
    (k : ∀ w' C' a', Own E size (.slice A (m + q) c) (m + q) (xs ++ news) C' → St w0 w' (C' :: L) → Has a' n ((d, .slice A (m + q) c) :: e) → wpList P ops Q rest a' w') : wpList P ops Q (o :: rest) a w := by
  obtain ⟨w', C', hr, h2, h3⟩ := run_append_rm hT hi hE hj hsize hO hS hx h1 hroom o.type
  refine st_val hA hw hd hdn (v := .slice A (m + q) c) (w' := w') ?_ (fun a' h => k w' C' a' h2 h3 h)
  unfold execOp
  rw [ho]
  simp [resolve, invoke, builtin, hA.ev hs, hA.ev hy, hr]
theorem size_zeroCells' (z : Array Value) (n : Nat) : (Builtin.zeroCells z n).toList.length = n * z.size := by simp [Builtin.zeroCells]
theorem st_clear (hT : TabOk P tb) (hA : Has a n e) {T E size h old c : Nat} {i j : TI} {s : Operand} {A : Option Addr} {xs : List Value} {C : Chunk}
    (ho : o.op = .call { callee := .builtin .clear, args := #[s], argTypes := #[T] }) (hs : ev e s = some (slv A h old c size))
    (hi : lkT tb T = some i) (hE : i.desc = .slice E) (hj : lkT tb E = some j) (hzs : j.zero.cells.size = size) (hz1 : ∀ u ∈ j.zero.cells.toList, u.oneCell' = true)
    (hO : Own E size (.slice A h c) h xs C) (hS : St w0 w (C :: L)) (hho : h ≤ old) (hoc : old ≤ c)
    (hw : wantE ops e o.guard = some true) (hd : o.dst = none)
    (k : ∀ w' C', Own E size (.slice A h c) h xs C' → St w0 w' (C' :: L) → wpList P ops Q rest a w') : wpList P ops Q (o :: rest) a w := by
  obtain ⟨ht, hok⟩ := hT.at_ hi
  obtain ⟨htj, hokj⟩ := hT.at_ hj
  have hu := hok.und w
  rw [ht, hE] at hu
  have hz := hokj.zeroValue w
  rw [htj] at hz
  have key : ∃ w' C', (Builtin.clear_ #[T] o.type #[slv A h old c size]).run P w = .ok (.tuple #[]) w' ∧ Own E size (.slice A h c) h xs C' ∧ St w0 w' (C' :: L) := by
    by_cases h0 : old = h
    · subst h0
      refine ⟨w, C, ?_, hO, hS⟩
      unfold slv
      cases (if c = old then A else A.map (·.add (old * size))) <;> simp [Builtin.clear_, hu]
    · obtain ⟨hol, ⟨hv, hh0, _⟩ | ⟨g, pre, sp, post, c', hv, hmc, hcm', hsp, rfl⟩⟩ := hO
      · injection hv with h1 h2 h3
        omega
      · injection hv with hv1 hv2 hv3
        subst hv1; subst hv3
        have hg := hS.heapAt 0 rfl
        have hoh : (old - h) * size ≤ (c - h) * size := Nat.mul_le_mul_right _ (by omega)
        have hlz : (Builtin.zeroCells j.zero.cells (old - h)).toList.length = (old - h) * size := by rw [size_zeroCells', hzs]
        have h1 : ∀ u ∈ (Builtin.zeroCells j.zero.cells (old - h)).toList, u.oneCell' = true := by
          intro u hu
          simp only [Builtin.zeroCells, Array.toList_map, Array.toList_range, List.mem_map, List.mem_range] at hu
          obtain ⟨q, hq, rfl⟩ := hu
          have hpos : 0 < j.zero.cells.size := by
            rcases Nat.eq_zero_or_pos j.zero.cells.size with h | h
            · rw [h] at hq; simp at hq
            · exact h
          have hlt : q % j.zero.cells.size < j.zero.cells.size := Nat.mod_lt _ hpos
          refine hz1 _ ?_
          rw [getElem!_pos j.zero.cells _ hlt]
          simp
        have hst := run_storeCells_at P g (pre.length + h * size) E (Builtin.zeroCells j.zero.cells (old - h)).toList 0 (pre ++ (xs ++ (sp ++ post))).toArray w hg (by simp only [List.size_toArray, List.length_append]; omega) h1
        simp only [Nat.add_zero] at hst
        refine ⟨_, [(g, rowO (pre ++ (xs ++ (((Builtin.zeroCells j.zero.cells (old - h)).toList ++ sp.drop ((old - h) * size)) ++ post))) E)], ?_, ⟨hol, .inr ⟨g, pre, _, post, c, rfl, hmc, hcm', ?_, rfl⟩⟩, hS.upd (upd_setRow hg)⟩
        · have e1 : (pre ++ (xs ++ (sp ++ post))).take (pre.length + h * size) = pre ++ xs := by
            rw [← List.append_assoc, ← hol, ← List.length_append]; exact List.take_left
          have e2 : (pre ++ (xs ++ (sp ++ post))).drop (pre.length + h * size + (Builtin.zeroCells j.zero.cells (old - h)).toList.length) = sp.drop ((old - h) * size) ++ post := by
            have hz0 : (old - h) * size - sp.length = 0 := by omega
            rw [← List.append_assoc, ← hol, ← List.length_append, List.drop_append, hlz, List.drop_eq_nil_of_le (by omega), List.nil_append, Nat.add_sub_cancel_left, List.drop_append, hz0, List.drop_zero]
          simp only [List.append_assoc, e1, e2] at hst
          have hne : ¬ c = h := by omega
          obtain ⟨q, hq⟩ : ∃ q, old - h = q + 1 := ⟨old - h - 1, by omega⟩
          have hsl : slv (some ⟨g, pre.length, none⟩) h old c size = .slice (some ⟨g, pre.length + h * size, none⟩) (q + 1) (c - h) := by
            simp [slv, hne, Addr.add_lit, hq]
          rw [hsl]
          rw [hq] at hst
          simp [Builtin.clear_, hu, hz, hst, hq]
        · rw [List.length_append, hlz, List.length_drop, hsp]
          omega
  obtain ⟨w', C', hr, h2, h3⟩ := key
  refine st_val0 hA hw hd (v := .tuple #[]) (w' := w') ?_ (k w' C' h2 h3)
  unfold execOp
  rw [ho]
  simp [resolve, invoke, builtin, hA.ev hs, hr]
end
end Go.SK
namespace Go.SK
open Go
section
variable {P : Program} {tb : List TI} {ops : Array Oper} {Q : Exit → Act → World → Prop} {a : Act} {w0 w : World} {n : Nat} {e : Env} {L : List Chunk} {o : Oper} {rest : List Oper} {d : Nat}
theorem maxLen_le {k : Nat} (h : k ≤ 9223372036854775807) : k ≤ maxLen := h
end
end Go.SK

set_option linter.unusedVariables false
set_option linter.unusedSimpArgs false
namespace Go.SK
open Go
section
variable {α : Type} {enc : α → List Value} {size : Nat}
def rows (enc : α → List Value) (l : List α) : List Value := (l.map enc).flatten
structure Enc (enc : α → List Value) (size : Nat) : Prop where
  len : ∀ x, (enc x).length = size
  one : ∀ x, ∀ u ∈ enc x, u.oneCell' = true
theorem rows_cons (x : α) (l : List α) : rows enc (x :: l) = enc x ++ rows enc l := by simp [rows]
theorem rows_append (l l2 : List α) : rows enc (l ++ l2) = rows enc l ++ rows enc l2 := by simp [rows]
theorem rows_length (h : Enc enc size) (l : List α) : (rows enc l).length = l.length * size := by
  induction l with
  | nil => simp [rows]
  | cons x l ih => rw [rows_cons, List.length_append, h.len, ih, List.length_cons, Nat.add_mul, Nat.one_mul, Nat.add_comm]
theorem rows_one (h : Enc enc size) (l : List α) : ∀ u ∈ rows enc l, u.oneCell' = true := by
  intro u hu
  simp only [rows, List.mem_flatten, List.mem_map] at hu
  obtain ⟨_, ⟨x, _, rfl⟩, hu⟩ := hu
  exact h.one x u hu
theorem rows_take (h : Enc enc size) (l : List α) (k : Nat) : (rows enc l).take (k * size) = rows enc (l.take k) := by
  induction l generalizing k with
  | nil => simp [rows]
  | cons x l ih =>
    cases k with
    | zero => simp [rows]
    | succ k =>
      rw [rows_cons, List.take_succ_cons, rows_cons, List.take_append, h.len, List.take_of_length_le (by rw [h.len, Nat.add_mul]; omega), show (k + 1) * size - size = k * size by rw [Nat.add_mul]; omega, ih]
theorem rows_drop (h : Enc enc size) (l : List α) (k : Nat) : (rows enc l).drop (k * size) = rows enc (l.drop k) := by
  induction l generalizing k with
  | nil => simp [rows]
  | cons x l ih =>
    cases k with
    | zero => simp [rows]
    | succ k =>
      rw [rows_cons, List.drop_succ_cons, List.drop_append, h.len, List.drop_eq_nil_of_le (by rw [h.len, Nat.add_mul]; omega), show (k + 1) * size - size = k * size by rw [Nat.add_mul]; omega, ih, List.nil_append]
theorem rows_at (h : Enc enc size) {l : List α} {k : Nat} {x : α} (hx : l[k]? = some x) : ∀ j u, (enc x)[j]? = some u → (rows enc l)[k * size + j]? = some u := by
  intro j u hu
  have hk := (List.getElem?_eq_some_iff.1 hx).1
  have e : l = l.take k ++ (x :: l.drop (k + 1)) := by
    have := (List.getElem?_eq_some_iff.1 hx).2
    rw [← this, List.getElem_cons_drop, List.take_append_drop]
  have hl : (rows enc (l.take k)).length = k * size := by rw [rows_length h, List.length_take, Nat.min_eq_left (by omega)]
  rw [e, rows_append, List.getElem?_append_right (by omega), hl, Nat.add_sub_cancel_left, rows_cons, List.getElem?_append_left (List.getElem?_eq_some_iff.1 hu).1]
  exact hu
theorem rows_at0 (h : Enc enc 1) {l : List α} {k : Nat} {x : α} {u : Value} (hx : l[k]? = some x) (hu : enc x = [u]) : (rows enc l)[k]? = some u := by
  have := rows_at h hx 0 u (by rw [hu]; rfl)
  simpa using this
theorem rows_set (h : Enc enc size) {l : List α} {k : Nat} {x : α} (hk : k < l.length) : (rows enc l).take (k * size) ++ (enc x ++ (rows enc l).drop (k * size + (enc x).length)) = rows enc (l.set k x) := by
  rw [h.len, rows_take h, show k * size + size = (k + 1) * size by rw [Nat.add_mul, Nat.one_mul], rows_drop h, ← rows_cons, ← rows_append, List.set_eq_take_append_cons_drop, if_pos hk]
theorem get_ex {l : List α} {k : Nat} (h : k < l.length) : ∃ x, l[k]? = some x := ⟨_, List.getElem?_eq_getElem h⟩
variable {w0 w w' : World} {L F : List Chunk} {E m c : Nat} {A : Option Addr} {C : Chunk} {v : Value} {l l2 : List α}
theorem Own.app (h : Own E size v (l.length + l2.length) (rows enc l ++ rows enc l2) C) : Own E size v (l ++ l2).length (rows enc (l ++ l2)) C := by rw [rows_append, List.length_append]; exact h
theorem Own.rcap (h : Own E size (.slice A l.length c) l.length (rows enc l) C) : l.length ≤ c ∧ c ≤ 9223372036854775807 := h.cap
theorem Own.rslv (he : Enc enc size) (h : Own E size (.slice A l.length c) l.length (rows enc l) C) (lo hi cc : Nat) (hlh : lo ≤ hi) (hm : hi ≤ l.length) (hc : hi ≤ cc) (hcc : cc ≤ c) :
    Own E size (SK.slv A lo hi cc size) ((l.take hi).drop lo).length (rows enc ((l.take hi).drop lo)) C := by
  have := h.slv lo hi cc hlh hm hc hcc
  rw [rows_take he, rows_drop he] at this
  have e : ((l.take hi).drop lo).length = hi - lo := by simp; omega
  rw [e]; exact this
theorem Own.rhead (he : Enc enc size) (h : Own E size (.slice A l.length c) l.length (rows enc l) C) (hi : Nat) (hm : hi ≤ l.length) :
    Own E size (.slice A (l.take hi).length c) (l.take hi).length (rows enc (l.take hi)) C := by
  have := h.head hi hm
  rw [rows_take he] at this
  have e : (l.take hi).length = hi := by simp; omega
  rw [e]; exact this
theorem Rd.rslv (he : Enc enc size) (h : Rd w size (.slice A l.length c) l.length (rows enc l)) (lo hi cc : Nat) (hlh : lo ≤ hi) (hm : hi ≤ l.length) (hc : hi ≤ cc) (hcc : cc ≤ c) :
    Rd w size (SK.slv A lo hi cc size) ((l.take hi).drop lo).length (rows enc ((l.take hi).drop lo)) := by
  have := h.slv lo hi cc hlh hm hc hcc
  rw [rows_take he, rows_drop he] at this
  have e : ((l.take hi).drop lo).length = hi - lo := by simp; omega
  rw [e]; exact this
theorem Rd.rhead (he : Enc enc size) (h : Rd w size (.slice A l.length c) l.length (rows enc l)) (hi : Nat) (hm : hi ≤ l.length) :
    Rd w size (.slice A (l.take hi).length c) (l.take hi).length (rows enc (l.take hi)) := by
  have := h.head hi hm
  rw [rows_take he] at this
  have e : (l.take hi).length = hi := by simp; omega
  rw [e]; exact this
theorem Rd.elem {b off : Nat} (he : Enc enc size) (h : Rd w size (.slice (some ⟨b, off, none⟩) m c) m (rows enc l)) {k : Nat} {x : α} (hx : l[k]? = some x) :
    ∀ j u, (enc x)[j]? = some u → w.cell? ⟨b, off + k * size + j, none⟩ = some u := h.cells (rows_at he hx)
theorem Rd.elem0 {b off : Nat} (he : Enc enc 1) (h : Rd w 1 (.slice (some ⟨b, off, none⟩) m c) m (rows enc l)) {k : Nat} {x : α} {u : Value} (hx : l[k]? = some x) (hu : enc x = [u]) :
    w.cell? ⟨b, off + k, none⟩ = some u := h.cell (rows_at0 he hx hu)
theorem Rd.elemf {b off : Nat} (he : Enc enc size) (h : Rd w size (.slice (some ⟨b, off, none⟩) m c) m (rows enc l)) {k : Nat} {x : α} (hx : l[k]? = some x) {j : Nat} {u : Value} (hj : (enc x)[j]? = some u) :
    w.cell? ⟨b, off + k * size + j, none⟩ = some u := h.elem he hx j u hj
theorem RdS.cases {xs : List Value} (h : RdS w0 F size v m xs) (hS : St w0 w F) : (v = .slice none 0 0 ∧ m = 0 ∧ xs = []) ∨ ∃ b off c, v = .slice (some ⟨b, off, none⟩) m c ∧ m ≤ c ∧ c ≤ 9223372036854775807 := by
  obtain ⟨hl, ⟨hv, hm⟩ | ⟨b, off, c, hv, hc, hmx, hx⟩⟩ := h w hS
  · subst hm
    exact .inl ⟨hv, rfl, List.eq_nil_of_length_eq_zero (by simpa using hl)⟩
  · exact .inr ⟨b, off, c, hv, hc, hmx⟩
def Pred (P : Program) (w0 : World) (F : List Chunk) (g : Nat) (first cap : Array Value) (val : α → Value) (p : α → Bool) : Prop :=
  ∀ w x, St w0 w F → Ret P g (first ++ #[val x] ++ cap) w (fun v w' => v = .bool (p x) ∧ St w w' [])
theorem Pred.cons {P : Program} {w0 : World} {F : List Chunk} {C : Chunk} {g : Nat} {first cap : Array Value} {val : α → Value} {p : α → Bool} (h : Pred P w0 F g first cap val p) : Pred P w0 (C :: F) g first cap val p := fun w x hS => h w x hS.drop1
def idx (p : α → Bool) : List α → Int
  | [] => -1
  | x :: l => if p x then 0 else (match idx p l with | .ofNat n => .ofNat (n + 1) | .negSucc _ => -1)
theorem idx_none {p : α → Bool} : ∀ {l : List α}, (∀ (k : Nat) (x : α), l[k]? = some x → p x = false) → idx p l = -1
  | [], _ => rfl
  | x :: l, h => by
    have h0 := h 0 x rfl
    have := idx_none (l := l) (fun k y hy => h (k + 1) y (by simpa using hy))
    simp [idx, h0, this]
    rfl
theorem idx_some {p : α → Bool} : ∀ {l : List α} {k : Nat} {x : α}, l[k]? = some x → p x = true → (∀ (i : Nat) (y : α), i < k → l[i]? = some y → p y = false) → idx p l = (k : Int)
  | [], k, x, hx, _, _ => by simp at hx
  | y :: l, 0, x, hx, hp, _ => by
    simp at hx; subst hx; simp [idx, hp]
  | y :: l, k + 1, x, hx, hp, hb => by
    have h0 := hb 0 y (by omega) rfl
    have := idx_some (l := l) (k := k) (x := x) (by simpa using hx) hp (fun i z hi hz => hb (i + 1) z (by omega) (by simpa using hz))
    simp [idx, h0, this]
theorem idx_cases (p : α → Bool) (l : List α) : (idx p l = -1 ∧ ∀ (k : Nat) (x : α), l[k]? = some x → p x = false) ∨ ∃ (k : Nat) (x : α), idx p l = ((k : Nat) : Int) ∧ l[k]? = some x ∧ p x = true ∧ ∀ (i : Nat) (y : α), i < k → l[i]? = some y → p y = false := by
  by_cases h : ∃ (k : Nat) (x : α), l[k]? = some x ∧ p x = true
  · right
    have : ∃ (k : Nat), ∃ (x : α), l[k]? = some x ∧ p x = true := h
    obtain ⟨k, ⟨x, hx, hp⟩, hmin⟩ := exists_least this
    exact ⟨k, x, idx_some hx hp (fun i y hi hy => by
      cases hpy : p y with
      | false => rfl
      | true => have := hmin i ⟨y, hy, hpy⟩; omega), hx, hp, fun i y hi hy => by
      cases hpy : p y with
      | false => rfl
      | true => have := hmin i ⟨y, hy, hpy⟩; omega⟩
  · left
    have hf : ∀ (k : Nat) (x : α), l[k]? = some x → p x = false := fun k x hx => by
      cases hp : p x with
      | false => rfl
      | true => exact absurd ⟨k, x, hx, hp⟩ h
    exact ⟨idx_none hf, hf⟩
theorem idx_any (p : α → Bool) (l : List α) : decide (idx p l ≥ 0) = l.any p := by
  rcases idx_cases p l with ⟨h, hf⟩ | ⟨k, x, h, hx, hp, _⟩
  · rw [h]
    have : l.any p = false := by
      rw [List.any_eq_false]
      intro x hx
      obtain ⟨k, hk⟩ := List.mem_iff_getElem?.1 hx
      simp [hf k x hk]
    rw [this]; rfl
  · rw [h]
    have : l.any p = true := List.any_eq_true.2 ⟨x, List.mem_of_getElem? hx, hp⟩
    rw [this]
    simp
end
def encB (x : UInt8) : List Value := [.int .u8 (x.toNat : Int)]
theorem encB_ok : Enc encB 1 := ⟨fun _ => rfl, fun x u hu => by rw [List.mem_singleton.1 hu]; rfl⟩
end Go.SK

set_option linter.unusedVariables false
set_option linter.unusedSimpArgs false
namespace Go.SK
open Go
def encBo (x : Bool) : List Value := [.bool x]
theorem encBo_ok : Enc encBo 1 := ⟨fun _ => rfl, fun x u hu => by rw [List.mem_singleton.1 hu]; rfl⟩
section
variable {P : Program} {tb : List TI} {ops : Array Oper} {Q : Exit → Act → World → Prop} {a : Act} {w0 w : World} {n : Nat} {e : Env} {L : List Chunk} {o : Oper} {rest : List Oper} {d : Nat}
variable {α : Type} {en : α → List Value} {size : Nat}
theorem made_rows (he : Enc en size) (hs : 0 < size) (x0 : α) (m : Nat) : madeCells (en x0).toArray (m * size) = (rows en (List.replicate m x0)).toArray := by
  apply Array.ext
  · rw [size_madeCells]; simp [rows_length he]
  · intro i h1 h2
    rw [size_madeCells] at h1
    have hl := he.len x0
    have hr := Nat.mod_lt i hs
    have hk : i / size < m := by rw [Nat.div_lt_iff_lt_mul hs]; exact h1
    have hx : (List.replicate m x0)[i / size]? = some x0 := by simp [hk]
    have hu : (en x0)[i % size]? = some ((en x0)[i % size]'(by omega)) := List.getElem?_eq_getElem _
    have h3 := rows_at he hx _ _ hu
    rw [Nat.div_add_mod'] at h3
    have h4 : (rows en (List.replicate m x0)).toArray[i]? = some ((en x0)[i % size]'(by omega)) := by simpa using h3
    rw [Array.getElem?_eq_getElem h2] at h4
    injection h4 with h4
    rw [h4]
    simp only [madeCells, Array.getElem_map, Array.getElem_range, List.size_toArray, hl]
    rw [getElem!_pos _ _ (by simp [hl]; exact hr)]
    simp
theorem st_makeSlice (hT : TabOk P tb) (hA : Has a n e) (hS : St w0 w L) {T E : Nat} {i j : TI} {x y : Operand} {kl kc : IntKind} (m : Nat) (he : Enc en size) (hs : 0 < size) (x0 : α)
    (ho : o.op = .makeSlice T x y) (hi : lkT tb T = some i) (hE : i.desc = .slice E) (hj : lkT tb E = some j) (hz : j.zero.cells = (en x0).toArray) (hsize : j.size = size)
    (hx : ev e x = some (.int kl ((m : Nat) : Int))) (hy : ev e y = some (.int kc ((m : Nat) : Int))) (hb : j.bytes * m ≤ 281474976710656) (hm : m ≤ 9223372036854775807)
    (hw : wantE ops e o.guard = some true) (hd : o.dst = some d) (hdn : d < n)
    (k : ∀ b w' a', St w0 w' ([(b, rowO (rows en (List.replicate m x0)) E)] :: L) → Has a' n ((d, .slice (some ⟨b, 0, none⟩) m m) :: e) → wpList P ops Q rest a' w') : wpList P ops Q (o :: rest) a w := by
  obtain ⟨ht, hok⟩ := hT.at_ hi
  obtain ⟨htj, hokj⟩ := hT.at_ hj
  have h1 := hok.1
  rw [ht, hE] at h1
  obtain ⟨_, xj, hxj, g1, g2, g3⟩ := hokj
  rw [htj] at hxj
  refine st_val hA hw hd hdn (v := .slice (some ⟨w.heap.size, 0, none⟩) m m) (w' := w.alloc (rowO (rows en (List.replicate m x0)) E)) ?_ (fun a' h => k _ _ a' (hS.alloc _) h)
  unfold execOp
  rw [ho]
  simp only [hA.ev hx, hA.ev hy]
  have hbb : (xj.bytes : Int) * ((m : Nat) : Int) ≤ 281474976710656 := by
    rw [g2, ← Int.natCast_mul]; omega
  have hr := run_make (P := P) w T E xj j.zero h1 hxj g3 kl kc ((m : Nat) : Int) ((m : Nat) : Int) (by omega) (Int.le_refl _) hbb (by omega)
  simp only [Int.toNat_natCast, g1, hsize, hz, made_rows he hs] at hr
  rw [Sem.run_bind, hr]
  rfl
end
section
variable {P : Program} {tb : List TI} {a : Act} {w : World} {n : Nat} {e : Env}
theorem ld_agg (hT : TabOk P tb) {T : Nat} {i : TI} {b : Nat} {cs : List Value} (hi : lkT tb T = some i) (hg : isAggD i.desc = true) (hl : cs.length = i.size) (hc : ∀ j u, cs[j]? = some u → w.cell? ⟨b, 0 + j, none⟩ = some u) :
    (loadVar T ⟨b, 0, none⟩).run P w = .ok (.agg cs.toArray) w := by
  obtain ⟨ht, hok⟩ := hT.at_ hi
  have h1 := hok.isAgg w
  rw [ht, hg] at h1
  have h2 := hok.sizeOf w
  rw [ht] at h2
  have h3 := run_loadCells_list (P := P) w ⟨b, 0, none⟩ cs (fun j u hu => by rw [Addr.add_lit]; exact hc j u hu)
  simp [loadVar, h1, h2, ← hl, h3]
theorem retc1 (hT : TabOk P tb) {fn : Func} {R : Value → World → Prop} {p T b : Nat} {i : TI} {cs : List Value} (hA : Has a n e) (hr : fn.results = #[.cell p T]) (hp : lk e p = some (.pointer (some ⟨b, 0, none⟩)))
    (hi : lkT tb T = some i) (hg : isAggD i.desc = true) (hl : cs.length = i.size) (hc : ∀ j u, cs[j]? = some u → w.cell? ⟨b, 0 + j, none⟩ = some u) (h : R (.agg cs.toArray) w) :
    bodyPost P fn (fun en w' => ∃ v, en = .returned v ∧ R v w') .ret a w :=
  ⟨hA.defers, .agg cs.toArray, by have e1 := hA.at_ p _ hp; have e2 := ld_agg (w := w) hT hi hg hl hc; simp [results, hr, e1, asAddr, e2], _, rfl, h⟩
theorem retc2 (hT : TabOk P tb) {fn : Func} {R : Value → World → Prop} {p T b t2 : Nat} {i : TI} {cs : List Value} {v2 : Value} (hA : Has a n e) (hr : fn.results = #[.cell p T, .tmp t2]) (hp : lk e p = some (.pointer (some ⟨b, 0, none⟩)))
    (h2 : lk e t2 = some v2) (hi : lkT tb T = some i) (hg : isAggD i.desc = true) (hl : cs.length = i.size) (hc : ∀ j u, cs[j]? = some u → w.cell? ⟨b, 0 + j, none⟩ = some u) (h : R (.tuple #[.agg cs.toArray, v2]) w) :
    bodyPost P fn (fun en w' => ∃ v, en = .returned v ∧ R v w') .ret a w :=
  ⟨hA.defers, .tuple #[.agg cs.toArray, v2], by have e1 := hA.at_ p _ hp; have e3 := hA.at_ t2 _ h2; have e2 := ld_agg (w := w) hT hi hg hl hc; simp [results, hr, e1, e3, asAddr, e2], _, rfl, h⟩
theorem rettct (hT : TabOk P tb) {fn : Func} {R : Value → World → Prop} {p T b t2 t3 : Nat} {i : TI} {cs : List Value} {v2 v3 : Value} (hA : Has a n e) (hr : fn.results = #[.tmp t2, .cell p T, .tmp t3]) (hp : lk e p = some (.pointer (some ⟨b, 0, none⟩)))
    (h2 : lk e t2 = some v2) (h3 : lk e t3 = some v3) (hi : lkT tb T = some i) (hg : isAggD i.desc = true) (hl : cs.length = i.size) (hc : ∀ j u, cs[j]? = some u → w.cell? ⟨b, 0 + j, none⟩ = some u) (h : R (.tuple #[v2, .agg cs.toArray, v3]) w) :
    bodyPost P fn (fun en w' => ∃ v, en = .returned v ∧ R v w') .ret a w :=
  ⟨hA.defers, .tuple #[v2, .agg cs.toArray, v3], by have e1 := hA.at_ p _ hp; have e3 := hA.at_ t2 _ h2; have e4 := hA.at_ t3 _ h3; have e2 := ld_agg (w := w) hT hi hg hl hc; simp [results, hr, e1, e3, e4, asAddr, e2], _, rfl, h⟩
end
theorem rows_setf {α : Type} {en : α → List Value} {size : Nat} (he : Enc en size) {l : List α} {n : Nat} {x : α} (x' : α) (hx : l[n]? = some x) (j : Nat) (cs : List Value) (hj : j + cs.length ≤ size)
    (hen : en x' = (en x).take j ++ (cs ++ (en x).drop (j + cs.length))) : (rows en l).take (n * size + j) ++ (cs ++ (rows en l).drop (n * size + j + cs.length)) = rows en (l.set n x') := by
  obtain ⟨hn, hx2⟩ := List.getElem?_eq_some_iff.1 hx
  have e1 : l = l.take n ++ x :: l.drop (n + 1) := by
    conv => lhs; rw [← List.take_append_drop n l, List.drop_eq_getElem_cons hn, hx2]
  have e2 : rows en l = rows en (l.take n) ++ (en x ++ rows en (l.drop (n + 1))) := by
    conv => lhs; rw [e1]
    rw [rows_append, rows_cons]
  have hl : (rows en (l.take n)).length = n * size := by rw [rows_length he, List.length_take, Nat.min_eq_left (by omega)]
  have hlx := he.len x
  have e3 : l.set n x' = l.take n ++ x' :: l.drop (n + 1) := by rw [List.set_eq_take_append_cons_drop, if_pos hn]
  rw [e3, rows_append, rows_cons, e2, List.take_append, List.take_of_length_le (by omega), hl, Nat.add_sub_cancel_left, List.take_append_of_le_length (by omega),
    show n * size + j + cs.length = n * size + (j + cs.length) by omega, List.drop_append, List.drop_eq_nil_of_le (by omega), hl, Nat.add_sub_cancel_left, List.drop_append_of_le_length (by omega), hen]
  simp
theorem St.split3 {w0 w : World} {L : List Chunk} {x : Nat × Obj} {C D : Chunk} (h : St w0 w ((x :: (C ++ D)) :: L)) : St w0 w ([x] :: C :: D :: L) := h.cast (by simp)
theorem St.join3 {w0 w : World} {L : List Chunk} {x : Nat × Obj} {C D : Chunk} (h : St w0 w ([x] :: C :: D :: L)) : St w0 w ((x :: (C ++ D)) :: L) := h.cast (by simp)
theorem wp_seq_join {P : Program} {Q : Exit → Act → World → Prop} {a : Act} {w : World} {x y : Code} (J : Act → World → Prop) (h1 : x.wp P (Exit.then J Q) a w) (h2 : ∀ a w, J a w → y.wp P Q a w) : (Code.seq x y).wp P Q a w :=
  wp_seq (wp_mono h1 (fun e a w q => by cases e <;> first | exact h2 a w q | exact q))
end Go.SK

set_option linter.unusedVariables false
set_option linter.unusedSimpArgs false
namespace Go.SK
open Go Go.RowKit Go.ChangeShapes Go.WideShapes
theorem slice_addr {P : Program} {w : World} {r : Reach} {b0 : Nat} {t e : TypeId} {v : Value} (ht : P.underlying t = some (.slice e)) (h : Value.okWide P w r b0 t v) :
    v = .slice none 0 0 ∨ ∃ b off len cap, v = .slice (some ⟨b, off, none⟩) len cap ∧ len ≤ cap ∧ cap ≤ maxLen := by
  simp only [Value.okWide, ht, Cell.okWide] at h
  cases v <;> simp_all [Cell.ok]
  rename_i p len cap
  cases p with
  | none =>
    left
    split at h
    all_goals simp_all
  | some a =>
    right
    obtain ⟨b, off, sp⟩ := a
    obtain ⟨h1, h2, h3⟩ := h
    obtain ⟨_, h4, _⟩ := h3
    simp only at h4
    subst h4
    refine ⟨b, off, len, cap, ⟨rfl, rfl, rfl⟩, h1, ?_⟩
    show cap ≤ 9223372036854775807
    omega
theorem list_of {α : Type} {R : Nat → α → Prop} : ∀ n : Nat, (∀ i, i < n → ∃ a, R i a) → ∃ l : List α, l.length = n ∧ ∀ (i : Nat) a, l[i]? = some a → R i a
  | 0, _ => ⟨[], rfl, fun i a h => by cases h⟩
  | n + 1, h => by
    obtain ⟨l, hl, hr⟩ := list_of n (fun i hi => h i (by omega))
    obtain ⟨a, ha⟩ := h n (by omega)
    refine ⟨l ++ [a], by simp [hl], fun i b hb => ?_⟩
    by_cases hi : i < n
    · rw [List.getElem?_append_left (by omega)] at hb; exact hr i b hb
    · have h2 := (List.getElem?_eq_some_iff.1 hb).1
      simp only [List.length_append, List.length_cons, List.length_nil] at h2
      obtain rfl : i = n := by omega
      rw [List.getElem?_append_right (by omega)] at hb
      simp [hl] at hb
      subst hb; exact ha
theorem mapM_at {α : Type} {f : Nat → Option α} {n : Nat} {cs : List α} (h : (List.range n).mapM f = some cs) {j : Nat} {u : α} (hu : cs[j]? = some u) : f j = some u := by
  have h1 := mapM_some_length h
  have hj := (List.getElem?_eq_some_iff.1 hu).1
  have h2 := mapM_some_get h j j (by rw [List.getElem?_range (by simp at h1; omega)])
  rw [h2, hu]
theorem rows_div {α : Type} {en : α → List Value} {size : Nat} (he : Enc en size) (hs : 0 < size) {l : List α} {j : Nat} {u : Value} (hu : (rows en l)[j]? = some u) :
    ∃ k r x, j = k * size + r ∧ l[k]? = some x ∧ (en x)[r]? = some u := by
  have hj := (List.getElem?_eq_some_iff.1 hu).1
  rw [rows_length he] at hj
  have hd := Nat.div_add_mod' j size
  have hk : j / size < l.length := by rw [Nat.div_lt_iff_lt_mul hs]; exact hj
  have hr := Nat.mod_lt j hs
  refine ⟨j / size, j % size, l[j / size], hd.symm, List.getElem?_eq_getElem hk, ?_⟩
  have hx : (en l[j / size])[j % size]? = some ((en l[j / size])[j % size]'(by rw [he.len]; exact hr)) := List.getElem?_eq_getElem _
  have := rows_at he (List.getElem?_eq_getElem hk) _ _ hx
  rw [hd, hu] at this
  rw [hx, ← this]
theorem add_add (b off i j : Nat) : ((⟨b, off, none⟩ : Addr).add i).add j = ⟨b, off + i + j, none⟩ := by
  unfold Addr.add
  by_cases h : i = 0 <;> by_cases g : j = 0 <;> simp [h, g]
theorem open_rows {H : Type} {enc : TypeId × Value → H} {P : Program} {w : World} {r : Reach} {spare : Nat → Bool} {held : Bool} {t e : TypeId} {v : Value} {d : DataW H} {ps : List MemPlace} {b0 : Nat}
    {α : Type} {en : α → List Value} {size : Nat} {G : α → Prop} (he : Enc en size) (hs : 0 < size)
    (ht : P.underlying t = some (.slice e)) (hc : P.cellsOf e = size) (hval : Value.okWide P w r b0 t v)
    (dec : ∀ n cs x, DataW.trod enc P w 0 spare held n e cs = some x → ∃ a, cs = en a ∧ G a)
    (h : DataW.Trod enc P w 0 spare held t v d ps) :
    ∃ l : List α, Rd w size v l.length (rows en l) ∧ (∀ x ∈ l, G x) ∧ (d = .nil ∧ l.length = 0 ∨ ∃ elems sp, d = .slice elems sp ∧ l.length = elems.length) := by
  obtain ⟨fuel, hf⟩ := h
  rcases slice_addr ht hval with rfl | ⟨b, off, len, cap, rfl, hl, hm⟩
  · refine ⟨[], ⟨by simp [rows], .inl ⟨rfl, rfl⟩⟩, by simp, ?_⟩
    rcases DataW.trod_slice ht hf with ⟨_, h0⟩ | ⟨a, len, cap, elems, rest, n, _, h0, _⟩
    · injection h0 with h0 _; exact .inl ⟨h0, rfl⟩
    · simp [Value.cells] at h0
  · rcases DataW.trod_slice ht hf with ⟨h0, _⟩ | ⟨a, len', cap', elems, rest, n, _, h0, hx, _, _, _, hlen, hel, _⟩
    · simp [Value.cells] at h0
    · simp only [Value.cells] at h0
      injection h0 with h0 _
      injection h0 with h1 h2 h3
      injection h1 with h1
      subst h1; subst h2; subst h3
      injection hx with hd _
      obtain ⟨l, hll, hR⟩ := list_of (R := fun i (a : α) => (w.cells? 0 ((⟨b, off, none⟩ : Addr).add (i * size)) size) = some (en a) ∧ G a) len (fun i hi => by
        have h1 := hel i hi
        rw [hc] at h1
        rw [List.getElem?_eq_getElem (by omega)] at h1
        obtain ⟨cs, hcs, htr⟩ := Option.bind_eq_some_iff.1 h1
        obtain ⟨a, rfl, ha⟩ := dec n cs _ htr
        exact ⟨a, hcs, ha⟩)
      refine ⟨l, ⟨by rw [rows_length he], .inr ⟨b, off, cap, by rw [hll], by omega, hm, fun j u hu => ?_⟩⟩, fun x hx => ?_, .inr ⟨_, _, hd, by simp [hll, hlen]⟩⟩
      · obtain ⟨k, r', x, rfl, hx, hu⟩ := rows_div he hs hu
        have h1 := (hR k x hx).1
        unfold World.cells? at h1
        rw [if_pos (Nat.zero_le _)] at h1
        have := mapM_at h1 hu
        rw [add_add] at this
        rw [← Nat.add_assoc]
        exact this
      · obtain ⟨i, hi⟩ := List.mem_iff_getElem?.1 hx
        exact (hR i x hi).2
theorem sized_rows {H : Type} {P : Program} {ts : List TypeId} {ds : List (DataW H)} (h : (DataW.weightsEach P ts ds).all (· ≤ reachBytes) = true) {j : Nat} {t e : TypeId} {d : DataW H} (ht : ts[j]? = some t) (hd : ds[j]? = some d)
    (hu : P.underlying t = some (.slice e)) {B n : Nat} (hB : P.bytesOf e = B) (hn : d = .nil ∧ n = 0 ∨ ∃ elems sp, d = .slice elems sp ∧ n = elems.length) : n * B ≤ 140737488351232 := by
  rcases hn with ⟨_, rfl⟩ | ⟨elems, sp, rfl, rfl⟩
  · simp
  · have z := sized_slice h ht hd hu
    rw [hB] at z
    exact Nat.le_trans (Nat.mul_le_mul_right _ (Nat.le_add_right _ _)) z
theorem wf_u8 {n : Int} (h : (Lit.int .u8 n).wf = true) : 0 ≤ n ∧ n < 256 := by
  have e1 : IntKind.u8.min = 0 := by decide
  have e2 : IntKind.u8.max = 255 := by decide
  simp [Lit.wf, e1, e2] at h
  omega
theorem dec_u8 {H : Type} {enc : TypeId × Value → H} {P : Program} {w : World} {spare : Nat → Bool} {held : Bool} {e : TypeId} (ht : P.underlying e = some (.int .u8)) :
    ∀ n cs x, DataW.trod enc P w 0 spare held n e cs = some x → ∃ a : UInt8, cs = encB a ∧ True := fun n cs x h => by
  obtain ⟨a, rfl, _, ha⟩ := DataW.trod_int ht h
  have := wf_u8 ha
  refine ⟨UInt8.ofNat a.toNat, ?_, trivial⟩
  have e : ((UInt8.ofNat a.toNat).toNat : Int) = a := by
    rw [UInt8.toNat_ofNat']
    omega
  simp only [encB, e]
theorem trod_back {H : Type} {enc : TypeId × Value → H} {P : Program} {t : TypeId} (hl : laidOutB P = true) (hr : P.readableRec t = true) (hrow : t < P.types.size) {W W' : World} {v : Value} {d : DataW H} {ps : List MemPlace}
    (h : DataW.Trod enc P W 0 (fun _ => true) true t v d ps) (hb : Below W.heap.size W W') : DataW.Trod enc P W' 0 (fun b => decide (b < W.heap.size)) true t v d ps :=
  Below.trod hl hr hrow h hb (by obtain ⟨m, hm⟩ := h; exact DataW.trod_lt m _ _ _ hm)
theorem RdS.of {w : World} {size : Nat} {v : Value} {m : Nat} {xs : List Value} (h : Rd w size v m xs) : RdS w [] size v m xs := RdS.old h
end Go.SK

set_option linter.unusedVariables false
set_option linter.unusedSimpArgs false
namespace Go.SK
open Go
theorem St.only {w0 w : World} {L : List Chunk} (h : St w0 w L) (i : Nat) {C : Chunk} (hi : L[i]? = some C) : St w0 w [C] := by
  have h1 := h.front i hi rfl
  exact h1.sub (by simp)
def RdSX (w0 : World) (F : List Chunk) (size : Nat) (v : Value) (m : Nat) (xs : List Value) : Prop := ∀ w', St w0 w' F → RdX w' size v m xs
theorem RdS.x {w0 : World} {F : List Chunk} {size : Nat} {v : Value} {m : Nat} {xs : List Value} (h : RdS w0 F size v m xs) : RdSX w0 F size v m xs := fun w' hS => (h w' hS).x
theorem RdSX.nil {w0 : World} {F : List Chunk} {size : Nat} : RdSX w0 F size (.slice none 0 0) 0 [] := fun w' _ => RdX.nil w' size
theorem RdSX.old {w0 : World} {F : List Chunk} {size : Nat} {v : Value} {m : Nat} {xs : List Value} (h : RdX w0 size v m xs) : RdSX w0 F size v m xs := fun _ hS => h.old hS
def DD (w0 : World) (D : Chunk) (A : Option Addr) (c : Nat) (bs : List UInt8) : Prop := ∀ w', St w0 w' [D] → RdX w' 1 (.slice A bs.length c) bs.length (rows encB bs)
theorem DD.left {w0 : World} {D E : Chunk} {A : Option Addr} {c : Nat} {bs : List UInt8} (h : DD w0 D A c bs) : DD w0 (E ++ D) A c bs := fun w' hS => h w' hS.split.drop1
theorem DD.right {w0 : World} {D E : Chunk} {A : Option Addr} {c : Nat} {bs : List UInt8} (h : DD w0 D A c bs) : DD w0 (D ++ E) A c bs := fun w' hS => h w' hS.split.drop2
theorem DD.new {w0 : World} {T c : Nat} {A : Option Addr} {bs : List UInt8} {C : Chunk} (ho : Own T 1 (.slice A bs.length c) bs.length (rows encB bs) C) : DD w0 C A c bs := fun w' hS => (ho.rd (hS.own_ 0 rfl)).x
theorem DD.of {w0 : World} {D : Chunk} {A : Option Addr} {c : Nat} {bs : List UInt8} (h : RdX w0 1 (.slice A bs.length c) bs.length (rows encB bs)) : DD w0 D A c bs := fun w' hS => h.old hS
theorem DD.nil {w0 : World} {D : Chunk} : DD w0 D none 0 [] := fun w' _ => RdX.nil w' 1
theorem DD.rds {w0 : World} {D : Chunk} {F : List Chunk} {A : Option Addr} {c : Nat} {bs : List UInt8} (h : DD w0 D A c bs) (i : Nat) (hi : F[i]? = some D) : RdSX w0 F 1 (.slice A bs.length c) bs.length (rows encB bs) := fun w' hS => h w' (hS.only i hi)
def bsv (bs : List UInt8) : ByteArray := ⟨bs.toArray⟩
theorem fold_push : ∀ (bs : List UInt8) (s : ByteArray), (bs.map fun x => ((x.toNat : Nat) : Int)).foldl (fun r n => r.push (UInt8.ofNat n.toNat)) s = ⟨s.data ++ bs.toArray⟩
  | [], s => by cases s; simp
  | x :: bs, s => by
    simp only [List.map_cons, List.foldl_cons]
    rw [fold_push bs]
    have : UInt8.ofNat ((x.toNat : Nat) : Int).toNat = x := by simp
    rw [this]
    cases s
    simp [ByteArray.push]
theorem rows_bytes : ∀ bs : List UInt8, rows encB bs = (bs.map fun x => ((x.toNat : Nat) : Int)).map (Value.int .u8)
  | [] => rfl
  | x :: bs => by rw [rows_cons, rows_bytes bs]; rfl
section
variable {P : Program} {tb : List TI} {a : Act} {w : World} {n : Nat} {e : Env} {o : Oper}
theorem rn_bstr (hT : TabOk P tb) (hA : Has a n e) {T E Ts : Nat} {i j k : TI} {x : Operand} {v : Value} {bs : List UInt8} (ho : o.op = .convert T Ts x) (hx : ev e x = some v)
    (hi : lkT tb T = some i) (hE : i.desc = .slice E) (hj : lkT tb E = some j) (hu : j.desc = .int .u8) (hk : lkT tb Ts = some k) (hs : k.desc = .string)
    (hr : RdX w 1 v bs.length (rows encB bs)) : (execOp a.eval o).run P w = .ok (.value (.string (bsv bs))) w := by
  obtain ⟨hti, hoi⟩ := hT.at_ hi
  obtain ⟨htj, hoj⟩ := hT.at_ hj
  obtain ⟨htk, hok⟩ := hT.at_ hk
  have ui : P.underlying T = some (.slice E) := by have := hoi.1; rwa [hti, hE] at this
  have uj : P.underlying E = some (.int .u8) := by have := hoj.1; rwa [htj, hu] at this
  have uk : P.underlying Ts = some .string := by have := hok.1; rwa [htk, hs] at this
  have main : (convert T Ts v).run P w = .ok (.string (bsv bs)) w := by
    obtain ⟨hl, hx⟩ := hr
    rcases hx with ⟨rfl, h0⟩ | ⟨ad, c, rfl, _, _, hc⟩
    · rw [run_convert_bytes_string w T Ts E _ _ _ ui uj uk]
      have : bs = [] := List.eq_nil_of_length_eq_zero h0
      subst this
      rfl
    · rw [run_convert_bytes_string w T Ts E _ _ _ ui uj uk]
      have h3 := run_loadCells_list (P := P) w ad (rows encB bs) hc
      have h4 : (rows encB bs).length = bs.length := by rw [rows_length encB_ok, Nat.mul_one]
      rw [h4, rows_bytes] at h3
      rw [run_bytesToString w ad bs.length c _ h3, fold_push]
      congr 2
      simp [bsv, ByteArray.empty, ByteArray.emptyWithCapacity]
      try rfl
  unfold execOp
  rw [ho]
  simp [hA.ev hx, main]
end
theorem toList_loop (s : ByteArray) : ∀ (m i : Nat) (r : List UInt8), s.size - i = m → ByteArray.toList.loop s i r = r.reverse ++ s.data.toList.drop i
  | 0, i, r, h => by
    rw [ByteArray.toList.loop]
    have h2 : ¬ i < s.size := by omega
    have h0 : s.size = s.data.toList.length := rfl
    have h3 : s.data.toList.drop i = [] := List.drop_eq_nil_of_le (by omega)
    rw [if_neg h2, h3, List.append_nil]
  | m + 1, i, r, h => by
    rw [ByteArray.toList.loop]
    have h2 : i < s.size := by omega
    rw [if_pos h2, toList_loop s m (i + 1) _ (by omega)]
    have h4 : i < s.data.toList.length := h2
    rw [List.drop_eq_getElem_cons h4]
    have h5 : s.get! i = s.data.toList[i] := by
      show s.data[i]! = _
      rw [getElem!_pos s.data i h2]; simp
    rw [h5]
    simp
theorem bsv_toList (bs : List UInt8) : (bsv bs).toList = bs := by
  rw [ByteArray.toList, toList_loop _ _ 0 [] rfl]; simp [bsv]
theorem bsv_eq (x y : List UInt8) : ((bsv x).toList == (bsv y).toList) = decide (x = y) := by rw [bsv_toList, bsv_toList]; by_cases h : x = y <;> simp [h]
section
variable {P : Program} {tb : List TI} {ops : Array Oper} {Q : Exit → Act → World → Prop} {a : Act} {w w0 : World} {n d : Nat} {e : Env} {o : Oper} {rest : List Oper} {L : List Chunk}
theorem st_mark (hT : TabOk P tb) (hA : Has a n e) {T E b c : Nat} {i j : TI} {x : Operand} (bs : List UInt8) (hS : St w0 w ([(b, rowO (rows encB bs) E)] :: L)) (ho : o.op = .convert T T x)
    (hx : ev e x = some (.slice (some ⟨b, 0, none⟩) bs.length c)) (hi : lkT tb T = some i) (hE : i.desc = .slice E) (hj : lkT tb E = some j) (hu : j.desc = .int .u8)
    (hw : wantE ops e o.guard = some true) (hd : o.dst = some d) (hdn : d < n) (hc : bs.length ≤ c) (hm : c ≤ 9223372036854775807)
    (kk : ∀ C w' a', (∀ w'', St w0 w'' [C] → Rd w'' 1 (.slice (some ⟨b, 0, none⟩) bs.length c) bs.length (rows encB bs)) → St w0 w' (C :: L) → Has a' n ((d, .slice (some ⟨b, 0, none⟩) bs.length c) :: e) → wpList P ops Q rest a' w') : wpList P ops Q (o :: rest) a w := by
  obtain ⟨hti, hoi⟩ := hT.at_ hi
  obtain ⟨htj, hoj⟩ := hT.at_ hj
  have ui : P.underlying T = some (.slice E) := by have := hoi.1; rwa [hti, hE] at this
  have uj : P.underlying E = some (.int .u8) := by have := hoj.1; rwa [htj, hu] at this
  have hb := hS.heapAt 0 rfl
  have hsh : w.shape? b = some (E, (rows encB bs).length) := by unfold World.shape?; rw [hb]; simp [rowO]
  refine st_val hA hw hd hdn (v := .slice (some ⟨b, 0, none⟩) bs.length c) (w' := w.freeze ⟨b, (rows encB bs).length, none⟩ 1) ?_
    (fun a' h => kk [(b, .cells (rows encB bs).toArray E ((rows encB bs).length, (rows encB bs).length + 1))] _ a' ?_ (hS.upd ?_) h)
  · unfold execOp
    rw [ho]
    simp [hA.ev hx, convert, run_underlying ui, run_underlying uj, markStringish, hsh]
  · intro w' hS'
    have hh := hS'.heapAt 0 rfl
    refine ⟨by rw [rows_length encB_ok], .inr ⟨b, 0, c, rfl, hc, hm, fun j u hu => ?_⟩⟩
    rw [Nat.zero_add]
    exact (cell_of hh j).trans (by simpa using hu)
  · unfold World.freeze
    rw [if_neg (by decide)]
    refine ⟨rfl, rfl, rfl, by simp, ?_, fun k _ hk => ?_⟩
    · simp only [Array.getElem?_modify, if_true, hb]
      simp [rowO]
    · simp only [Array.getElem?_modify]
      rw [if_neg (Ne.symm hk)]
end
def fillL (ps : List (Nat × Nat)) : List Value → List (Nat × Value) → Option (List Value)
  | cells, [] => some cells
  | cells, (i, v) :: rest => match ps[i]? with
    | none => none
    | some (off, size) => bif (v.cells.toList.length == size) && Nat.ble (off + v.cells.toList.length) cells.length then fillL ps (cells.take off ++ (v.cells.toList ++ cells.drop (off + v.cells.toList.length))) rest else none
theorem fold_set (off : Nat) : ∀ (vs : List Value) (k : Nat) (cells : List Value), off + k + vs.length ≤ cells.length →
    (vs.zipIdx k).foldl (fun (cs : Array Value) (p : Value × Nat) => cs.setIfInBounds (off + p.2) p.1) cells.toArray = (cells.take (off + k) ++ (vs ++ cells.drop (off + k + vs.length))).toArray
  | [], k, cells, h => by simp
  | v :: vs, k, cells, h => by
    simp only [List.length_cons] at h
    rw [List.zipIdx_cons, List.foldl_cons]
    simp only [List.setIfInBounds_toArray]
    rw [fold_set off vs (k + 1) (cells.set (off + k) v) (by rw [List.length_set]; omega)]
    congr 1
    have h1 : (cells.set (off + k) v).take (off + (k + 1)) = cells.take (off + k) ++ [v] := by
      rw [← Nat.add_assoc, List.take_add_one, List.take_set_of_le (Nat.le_refl _), List.getElem?_set_self (by omega)]; rfl
    have h2 : (cells.set (off + k) v).drop (off + (k + 1) + vs.length) = cells.drop (off + k + (vs.length + 1)) := by
      rw [List.drop_set_of_lt (by omega)]; congr 1; omega
    rw [h1, h2, List.append_assoc, List.length_cons]; rfl
theorem fillL_spec (ps : List (Nat × Nat)) : ∀ (parts : List (Nat × Value)) (cells r : List Value), fillL ps cells parts = some r → Instr.fill (fun j => ps[j]?) cells.toArray parts = some r.toArray
  | [], cells, r, h => by simp only [fillL, Option.some.injEq] at h; subst h; rfl
  | (i, v) :: rest, cells, r, h => by
    simp only [fillL] at h
    unfold Instr.fill
    split at h
    · cases h
    · rename_i off size hp
      simp only [hp]
      cases hb : (v.cells.toList.length == size) && Nat.ble (off + v.cells.toList.length) cells.length with
      | false => rw [hb] at h; cases h
      | true =>
        rw [hb] at h
        simp only [cond_true] at h
        simp only [Bool.and_eq_true, beq_iff_eq, Nat.ble_eq] at hb
        have hs : v.cells.size = v.cells.toList.length := by simp
        have hn : ¬ (v.cells.size ≠ size ∨ off + v.cells.size > cells.toArray.size) := by
          simp only [List.size_toArray]; omega
        rw [if_neg (by simpa using hn)]
        have e1 : v.cells.zipIdx.foldl (fun cs (c, j) => cs.setIfInBounds (off + j) c) cells.toArray = (cells.take off ++ (v.cells.toList ++ cells.drop (off + v.cells.toList.length))).toArray := by
          have := fold_set off v.cells.toList 0 cells (by omega)
          rw [Nat.add_zero] at this
          rw [← this, ← Array.foldl_toList]
          simp [Array.toList_zipIdx]
        rw [e1]
        exact fillL_spec ps rest _ r h
theorem rn_build {P : Program} {tb : List TI} {a : Act} {w : World} {n : Nat} {e : Env} {o : Oper} (hT : TabOk P tb) (hA : Has a n e) {T : Nat} {i : TI} {fs : Array Field} {ps : List (Nat × Nat)} {parts : Array (Nat × Operand)} {vs : List (Nat × Value)} {z l : List Value}
    (ho : o.op = .build T parts) (hvs : evps e parts.toList = some vs) (hi : lkT tb T = some i) (hd : i.desc = .struct fs) (hp : placesOf tb fs.toList = some ps) (hz : i.zero.cells = z.toArray) (hf : fillL ps z vs = some l) :
    (execOp a.eval o).run P w = .ok (.value (.agg l.toArray)) w := by
  refine pureOp_run hT hA ?_ w
  rw [ho]
  simp only [pureOp, hvs, pureBuild, hi, hd, hp, hz]
  rw [fillL_spec ps vs z l hf]; rfl
end Go.SK

set_option linter.unusedVariables false
set_option linter.unusedSimpArgs false
namespace Go.SK
open Go Go.RowKit Go.ChangeShapes Go.WideShapes
section
variable {H : Type} {enc : TypeId × Value → H} {P : Program} {w : World} {spare : Nat → Bool} {held : Bool}
def WOk (P : Program) (t : TypeId) (d : DataW H) : Prop := ∀ k ∈ d.weights P t, k ≤ reachBytes
theorem weightsAll_mem {e : TypeId} {k : Nat} : ∀ {elems : List (DataW H)} {i : Nat} {d : DataW H}, elems[i]? = some d → k ∈ d.weights P e → k ∈ DataW.weightsAll P e elems
  | [], i, d, h, _ => by simp at h
  | x :: xs, 0, d, h, hk => by
    simp only [List.getElem?_cons_zero, Option.some.injEq] at h
    subst h
    simp only [DataW.weightsAll, List.mem_append]; exact .inl hk
  | x :: xs, i + 1, d, h, hk => by
    simp only [List.getElem?_cons_succ] at h
    simp only [DataW.weightsAll, List.mem_append]; exact .inr (weightsAll_mem h hk)
theorem WOk.elem {t e : TypeId} {elems sp : List (DataW H)} (h : WOk P t (.slice elems sp)) (ht : P.underlying t = some (.slice e)) {i : Nat} {d : DataW H} (hi : elems[i]? = some d) : WOk P e d := fun k hk =>
  h k (by simp only [DataW.weights, ht, List.mem_cons, List.mem_append]; exact .inr (.inl (weightsAll_mem hi hk)))
theorem WOk.len {t e : TypeId} {elems sp : List (DataW H)} (h : WOk P t (.slice elems sp)) (ht : P.underlying t = some (.slice e)) : (elems.length + sp.length) * P.bytesOf e ≤ reachBytes :=
  h _ (by simp only [DataW.weights, ht, List.mem_cons]; exact .inl trivial)
theorem WOk.part {t : TypeId} {fs : Array Field} {parts : List (DataW H)} (h : WOk P t (.agg parts)) (ht : P.underlying t = some (.struct fs)) {i : Nat} {f : Field} {d : DataW H} (hf : fs[i]? = some f) (hd : parts[i]? = some d) : WOk P f.type d := fun k hk =>
  h k (by simp only [DataW.weights, ht]; exact DataW.weights_mem_each (j := i) (t := f.type) (by rw [List.getElem?_map]; simp [hf]) hd k hk)
end
end Go.SK

set_option linter.unusedVariables false
set_option linter.unusedSimpArgs false
namespace Go.SK
open Go Go.Conc
def wpN (P : Program) (c : Code) (Q : Exit → Act → World → Prop) (a : Act) (w : World) : Prop :=
  ∀ (b : Frame) (k : List Item) (cs : List Frame), b.kind = .normal →
    ∃ e a' w', Q e a' w' ∧ Arrives P (lone (b.at a (.code c :: k)) cs w) b k cs e a' w'
section
variable {P : Program} {Q : Exit → Act → World → Prop} {a : Act} {w : World} {n : Nat} {e : Env}
theorem wpN_of {c : Code} (h : c.wp P Q a w) : wpN P c Q a w := fun b k cs _ => h b k cs
theorem wpN_skip (h : Q .normal a w) : wpN P .skip Q a w := wpN_of (wp_skip h)
theorem wpN_ret (h : Q .ret a w) : wpN P .ret Q a w := wpN_of (wp_ret h)
theorem wpN_seq {x y : Code} (h : wpN P x (Exit.then (wpN P y Q) Q) a w) : wpN P (Code.seq x y) Q a w := by
  intro b k cs hb
  obtain ⟨e, a₁, w₁, hq, harr⟩ := h b (.code y :: k) cs hb
  cases e with
  | normal =>
    obtain ⟨e₂, a₂, w₂, hq₂, harr₂⟩ := hq b k cs hb
    exact ⟨e₂, a₂, w₂, hq₂, .of_steps (.head step_seq harr) harr₂⟩
  | exit id => exact ⟨_, a₁, w₁, hq, .of_steps (.one step_seq) (.pass (x := .code y) rfl (fun _ _ => .inl (by simp)) harr)⟩
  | goto l => exact ⟨_, a₁, w₁, hq, .of_steps (.one step_seq) (.pass (x := .code y) rfl (fun _ _ => .inl (by simp)) harr)⟩
  | ret => exact ⟨_, a₁, w₁, hq, .of_steps (.one step_seq) (.pass (x := .code y) rfl (fun _ _ => .inl (by simp)) harr)⟩
  | panic ch => exact ⟨_, a₁, w₁, hq, .of_steps (.one step_seq) (.pass (x := .code y) rfl (fun _ _ => .inl (by simp)) harr)⟩
  | outgrown => exact ⟨_, a₁, w₁, hq, .of_steps (.one step_seq) (.pass (x := .code y) rfl (fun _ _ => .inl (by simp)) harr)⟩
theorem cdN_cond_t {c : Operand} {x y : Code} (hA : Has a n e) (hc : ev e c = some (.bool true)) (h : wpN P x Q a w) : wpN P (Code.cond c x y) Q a w :=
  fun b k cs hb => let ⟨e, a', w', q, r⟩ := h b k cs hb; ⟨e, a', w', q, .of_steps (.one (step_cond (t := true) (hA.ev hc))) r⟩
theorem cdN_cond_f {c : Operand} {x y : Code} (hA : Has a n e) (hc : ev e c = some (.bool false)) (h : wpN P y Q a w) : wpN P (Code.cond c x y) Q a w :=
  fun b k cs hb => let ⟨e, a', w', q, r⟩ := h b k cs hb; ⟨e, a', w', q, .of_steps (.one (step_cond (t := false) (hA.ev hc))) r⟩
theorem wpN_block {id : Nat} {c : Code} (h : wpN P c (Exit.inBlock id Q) a w) : wpN P (Code.block id c) Q a w := by
  intro b k cs hb
  obtain ⟨e, a₁, w₁, hq, harr⟩ := h b (.inBlock id :: k) cs hb
  cases e with
  | normal => exact ⟨.normal, a₁, w₁, hq, .head step_block (Steps.trans harr (.one step_inBlock))⟩
  | exit id' =>
    by_cases hid : id' = id
    · simp only [Exit.inBlock, hid, if_true] at hq
      exact ⟨.normal, a₁, w₁, hq, .head step_block (harr k (by simp [exitTo, hid]))⟩
    · simp only [Exit.inBlock, hid, if_false] at hq
      refine ⟨.exit id', a₁, w₁, hq, fun k' hk => .head step_block (harr k' ?_)⟩
      have : (id == id') = false := by simp; exact fun h => hid h.symm
      simp [exitTo, this, hk]
  | goto l => exact ⟨_, a₁, w₁, hq, fun k' hk => .head step_block (harr k' (by simp [gotoIn, hk]))⟩
  | ret => exact ⟨_, a₁, w₁, hq, .of_steps (.one step_block) harr⟩
  | panic ch => exact ⟨_, a₁, w₁, hq, .of_steps (.one step_block) harr⟩
  | outgrown => exact ⟨_, a₁, w₁, hq, .of_steps (b := b) (k := k) (cs := cs) (e := .outgrown) (.one step_block) harr⟩
theorem calls_of_wpN {f : FuncId} {fn : Func} {c : Code} {args : Array Value} {R : Ending → World → Prop}
    (hf : P.funcs[f]? = some fn) (hb : fn.body = some c)
    (h : wpN P c (bodyPost P fn R) { tmps := args ++ Array.replicate (fn.ntmps - args.size) undef, defers := [] } w) :
    Calls P f args w R := by
  intro cs
  let b : Frame := { (default : Frame) with fn := f, kind := .normal }
  have henter : Frame.enter P f args .normal =
      b.at { tmps := args ++ Array.replicate (fn.ntmps - args.size) undef, defers := [] } [.code c] := by
    simp [Frame.enter, Frame.at, hf, hb, b]
  obtain ⟨e, a', w', hq, harr⟩ := h b [] cs rfl
  rw [← henter] at harr
  cases e with
  | normal =>
    obtain ⟨hd, v, hr, hR⟩ := hq
    exact ⟨.returned v, w', _, hR, Steps.trans harr (.one step_end), rfl, rfl, hd, rfl, fn, hf, hr⟩
  | ret =>
    obtain ⟨hd, v, hr, hR⟩ := hq
    obtain ⟨todo, hs⟩ := harr
    exact ⟨.returned v, w', _, hR, hs, rfl, rfl, hd, rfl, fn, hf, hr⟩
  | panic chain =>
    obtain ⟨hd, hR⟩ := hq
    obtain ⟨todo, hs⟩ := harr
    exact ⟨.panicked chain, w', _, hR, hs, rfl, rfl, hd, fn, hf⟩
  | exit id => exact hq.elim
  | goto l => exact hq.elim
  | outgrown => exact ⟨.outgrown, w', b, hq, harr.resolve_left (by simp [b]), rfl, trivial⟩
theorem enterN {f : FuncId} {fn : Func} {c : Code} {vs : List Value} {R : Value → World → Prop} (m : Nat)
    (hf : P.funcs[f]? = some fn) (hb : fn.body = some c) (hn : fn.ntmps = m) (hm : vs.length ≤ m)
    (h : ∀ a, Has a m (mkE 0 vs) → wpN P c (bodyPost P fn fun en w' => ∃ v, en = .returned v ∧ R v w') a w) : Ret P f vs.toArray w R := by
  refine calls_of_wpN hf hb (h _ ⟨?_, rfl, ?_⟩)
  · simp; omega
  · intro t v hl
    obtain ⟨_, h2⟩ := lk_mkE vs 0 t v hl
    simp only [Nat.sub_zero] at h2
    have hlt : t < vs.length := (List.getElem?_eq_some_iff.1 h2).1
    simp only [List.size_toArray]
    rw [Array.getElem?_append_left (by simpa using hlt)]
    simpa using h2
def CW (P : Program) (ops : Array Oper) (Q : Exit → Act → World → Prop) (l : List Nat) (a : Act) (w : World) : Prop :=
  ∀ (b : Frame) (k : List Item) (cs : List Frame), b.kind = .normal →
    ∃ e a' w', Q e a' w' ∧ Arrives P (lone (b.at a (.inRegion ops l :: k)) cs w) b k cs e a' w'
variable {ops : Array Oper} {i d : Nat} {rest : List Nat} {o : Oper} {v : Value} {w' : World}
theorem cm_region {id : Nat} {l : List Oper} {is : List Nat} (hl : List.range l.toArray.size = is) (h : CW P l.toArray Q is a w) : wpN P (Code.region id l.toArray false) Q a w := by
  subst hl
  exact fun b k cs hb => let ⟨e, a', w', q, r⟩ := h b k cs hb; ⟨e, a', w', q, .of_steps (.one step_region) r⟩
theorem cm_end (h : Q .normal a w) : CW P ops Q [] a w := fun b k cs _ => ⟨.normal, a, w, h, .one step_region_end⟩
theorem cm_val (hA : Has a n e) (ho : ops[i]? = some o) (hw : wantE ops e o.guard = some true) (hd : o.dst = some d) (hdn : d < n)
    (hr : (execOp a.eval o).run P w = .ok (.value v) w') (c : ∀ a', Has a' n ((d, v) :: e) → CW P ops Q rest a' w') : CW P ops Q (i :: rest) a w := by
  intro b k cs hb
  obtain ⟨e', a', w'', hq, harr⟩ := c _ (hA.put hdn v) b k cs hb
  refine ⟨e', a', w'', hq, .of_steps (.one (step_lone_go ?_)) harr⟩
  have hfin : (b.at a (.inRegion ops (i :: rest) :: k)).finish v = b.at (a.put o.dst v) (.inRegion ops rest :: k) := by rw [Frame.finish_at, ho]; rfl
  rw [hd] at hfin
  rw [stepG_op ho (hA.want hw), ← hfin]; simp [stepG.apply, hr]
theorem cm_pure {tb : List TI} (hT : TabOk P tb) (hA : Has a n e) (ho : ops[i]? = some o) (hw : wantE ops e o.guard = some true) (hd : o.dst = some d) (hdn : d < n)
    (hv : pureOp tb e o.op = some v) (c : ∀ a', Has a' n ((d, v) :: e) → CW P ops Q rest a' w) : CW P ops Q (i :: rest) a w :=
  cm_val hA ho hw hd hdn (pureOp_run hT hA hv w) c
theorem upd_chan {c cap cap' s s' r r' : Nat} {buf buf' : Array Value} {cl cl' tm tm' : Bool} (hb : w.heap[c]? = some (.chan cap buf cl s r tm)) : Upd w (w.setChan c cap' buf' cl' s' r' tm') c (.chan cap' buf' cl' s' r' tm') := by
  have hc : c < w.heap.size := by
    rcases Nat.lt_or_ge c w.heap.size with h | h
    · exact h
    · rw [Array.getElem?_eq_none h] at hb; cases hb
  refine ⟨rfl, rfl, rfl, by simp [World.setChan], heap_setChan _ _ _ _ _ _ _ _ hc, fun k _ hk => ?_⟩
  simp only [World.setChan]; rw [Array.getElem?_setIfInBounds_ne (by omega)]
variable {tb : List TI} {w0 : World} {L : List Chunk} {c cap s r : Nat} {buf : Array Value} {T : Nat} {ti : TI} {x y : Operand}
theorem run_sel_send (hT : TabOk P tb) (hA : Has a n e) (ho : o.op = .select #[⟨x, some y, T⟩] false) (hx : ev e x = some (.chan (some c))) (hy : ev e y = some v) (hi : lkT tb T = some ti) :
    (execOp a.eval o).run P w = .ok (.comm #[scase c v ti.zero] false .select) w := by
  obtain ⟨ht, hok⟩ := hT.at_ hi
  have hz := hok.zeroValue w
  rw [ht] at hz
  unfold execOp
  rw [ho]
  simp [hA.ev hx, hA.ev hy, hz, scase]
theorem run_sel_recv (hT : TabOk P tb) (hA : Has a n e) (ho : o.op = .select #[⟨x, none, T⟩] false) (hx : ev e x = some (.chan (some c))) (hi : lkT tb T = some ti) :
    (execOp a.eval o).run P w = .ok (.comm #[rcase c ti.zero] false .select) w := by
  obtain ⟨ht, hok⟩ := hT.at_ hi
  have hz := hok.zeroValue w
  rw [ht] at hz
  unfold execOp
  rw [ho]
  simp [hA.ev hx, hz, rcase]
theorem cm_sel_send (hT : TabOk P tb) (hA : Has a n e) (hS : St w0 w ([(c, .chan cap buf false s r false)] :: L)) (ho : ops[i]? = some o) (hop : o.op = .select #[⟨x, some y, T⟩] false) (hx : ev e x = some (.chan (some c))) (hy : ev e y = some v) (hi : lkT tb T = some ti)
    (hroom : buf.size < cap) (hw : wantE ops e o.guard = some true) (hd : o.dst = some d) (hdn : d < n)
    (k : ∀ w' a', St w0 w' ([(c, .chan cap (buf.push v) false (s + 1) r false)] :: L) → Has a' n ((d, .tuple #[.int .i64 0, .bool false]) :: e) → CW P ops Q rest a' w') : CW P ops Q (i :: rest) a w := by
  intro b kk cs hb
  have hc := hS.heapAt 0 rfl
  obtain ⟨e', a', w'', hq, harr⟩ := k _ _ (hS.upd (upd_chan hc)) (hA.put hdn _) b kk cs hb
  refine ⟨e', a', w'', hq, .of_steps (.one ?_) harr⟩
  have hfin : (b.at a (.inRegion ops (i :: rest) :: kk)).finish (.tuple #[goInt 0, .bool false]) = b.at (a.put (some d) (.tuple #[.int .i64 0, .bool false])) (.inRegion ops rest :: kk) := by rw [Frame.finish_at, ho, ← hd]; rfl
  rw [← hfin]
  exact step_lone_select_send_room (stepG_comm ho (hA.want hw) (by rw [hb]; decide) (run_sel_send hT hA hop hx hy hi)) hc hroom
theorem cm_sel_recv {vs : List Value} (hT : TabOk P tb) (hA : Has a n e) (hS : St w0 w ([(c, .chan cap (v :: vs).toArray false s r false)] :: L)) (ho : ops[i]? = some o) (hop : o.op = .select #[⟨x, none, T⟩] false) (hx : ev e x = some (.chan (some c))) (hi : lkT tb T = some ti)
    (hw : wantE ops e o.guard = some true) (hd : o.dst = some d) (hdn : d < n)
    (k : ∀ w' a', St w0 w' ([(c, .chan cap vs.toArray false s (r + 1) false)] :: L) → Has a' n ((d, .tuple #[.int .i64 0, .bool true, v]) :: e) → CW P ops Q rest a' w') : CW P ops Q (i :: rest) a w := by
  intro b kk cs hb
  have hc := hS.heapAt 0 rfl
  have ev1 : (v :: vs).toArray.extract 1 (v :: vs).toArray.size = vs.toArray := by simp
  have ev2 : (v :: vs).toArray.getD 0 undef = v := by simp
  have hS2 := hS.upd (upd_chan (cap' := cap) (buf' := (v :: vs).toArray.extract 1 (v :: vs).toArray.size) (cl' := false) (s' := s) (r' := r + 1) (tm' := false) hc)
  rw [ev1] at hS2
  obtain ⟨e', a', w'', hq, harr⟩ := k _ _ hS2 (hA.put hdn _) b kk cs hb
  refine ⟨e', a', w'', hq, .of_steps (.one ?_) harr⟩
  have hfin : (b.at a (.inRegion ops (i :: rest) :: kk)).finish (.tuple #[goInt 0, .bool true, (v :: vs).toArray.getD 0 undef]) = b.at (a.put (some d) (.tuple #[.int .i64 0, .bool true, v])) (.inRegion ops rest :: kk) := by rw [Frame.finish_at, ho, ← hd, ev2]; rfl
  rw [← hfin]
  have := step_lone_select_recv_buf (fr := b.at a (.inRegion ops (i :: rest) :: kk)) (cs := cs) (stepG_comm ho (hA.want hw) (by rw [hb]; decide) (run_sel_recv hT hA hop hx hi)) hc (by simp)
  rw [ev1] at this
  exact this
theorem cm_sel_none (hT : TabOk P tb) (hA : Has a n e) (hS : St w0 w ([(c, .chan cap #[] false s r false)] :: L)) (ho : ops[i]? = some o) (hop : o.op = .select #[⟨x, none, T⟩] false) (hx : ev e x = some (.chan (some c))) (hi : lkT tb T = some ti)
    (hw : wantE ops e o.guard = some true) (hd : o.dst = some d) (hdn : d < n)
    (k : ∀ a', Has a' n ((d, .tuple #[.int .i64 (-1), .bool false, ti.zero]) :: e) → CW P ops Q rest a' w) : CW P ops Q (i :: rest) a w := by
  intro b kk cs hb
  have hc := hS.heapAt 0 rfl
  obtain ⟨e', a', w'', hq, harr⟩ := k _ (hA.put hdn _) b kk cs hb
  refine ⟨e', a', w'', hq, .of_steps (.one ?_) harr⟩
  have hfin : (b.at a (.inRegion ops (i :: rest) :: kk)).finish (.tuple #[goInt (-1), .bool false, ti.zero]) = b.at (a.put (some d) (.tuple #[.int .i64 (-1), .bool false, ti.zero])) (.inRegion ops rest :: kk) := by rw [Frame.finish_at, ho, ← hd]; rfl
  rw [← hfin]
  exact step_lone_select_default (stepG_comm ho (hA.want hw) (by rw [hb]; decide) (run_sel_recv hT hA hop hx hi)) hc
theorem st_makeChan {l : List Oper} {E : Nat} {dir : ChanDir} {ti tj : TI} {k0 : IntKind} (hT : TabOk P tb) (hA : Has a n e) (hS : St w0 w L) (m : Nat) (ho : o.op = .makeChan T x) (hi : lkT tb T = some ti) (hE : ti.desc = .chan dir E) (hj : lkT tb E = some tj) (hx : ev e x = some (.int k0 ((m : Nat) : Int)))
    (hb : (tj.bytes : Int) * m ≤ 281474976710544) (hm : (m : Int) ≤ 9223372036854775807) (hw : wantE ops e o.guard = some true) (hd : o.dst = some d) (hdn : d < n)
    (k : ∀ b w' a', St w0 w' ([(b, .chan m #[] false 0 0 false)] :: L) → Has a' n ((d, .chan (some b)) :: e) → wpList P ops Q l a' w') : wpList P ops Q (o :: l) a w := by
  obtain ⟨ht, hok⟩ := hT.at_ hi
  obtain ⟨htj, hokj⟩ := hT.at_ hj
  have h1 := hok.1
  rw [ht, hE] at h1
  obtain ⟨_, xj, hxj, g1, g2, g3⟩ := hokj
  rw [htj] at hxj
  refine st_val hA hw hd hdn (v := .chan (some w.heap.size)) (w' := w.alloc (.chan m #[] false 0 0 false)) ?_ (fun a' h => k _ _ a' (hS.alloc _) h)
  unfold execOp
  rw [ho]
  have h9 := run_makeChan (P := P) (w := w) h1 hxj k0 m hm (by rw [g2]; exact hb)
  simp only [hA.ev hx]
  simp [h9]
end
end Go.SK

set_option linter.unusedVariables false
set_option linter.unusedSimpArgs false
namespace Go.SK
open Go
section
variable {P : Program} {a : Act} {w : World} {n : Nat} {e : Env} {o : Oper}
theorem rn_shl (hA : Has a n e) {x y : Operand} {t yt : TypeId} {kd k2 : IntKind} {p q : Int} (ho : o.op = .binOp .shl t x y yt) (hx : ev e x = some (.int kd p)) (hy : ev e y = some (.int k2 q)) (hq : 0 ≤ q) :
    (execOp a.eval o).run P w = .ok (.value (.int kd (kd.wrap (p * 2 ^ min q.toNat kd.bits)))) w := by
  unfold execOp
  rw [ho]
  simp [hA.ev hx, hA.ev hy, eqGuard, binOp, shift_shl_any _ _ _ _ hq]
theorem rn_shr (hA : Has a n e) {x y : Operand} {t yt : TypeId} {kd k2 : IntKind} {p q : Int} (ho : o.op = .binOp .shr t x y yt) (hx : ev e x = some (.int kd p)) (hy : ev e y = some (.int k2 q)) (hq : 0 ≤ q) :
    (execOp a.eval o).run P w = .ok (.value (.int kd (p / 2 ^ min q.toNat kd.bits))) w := by
  unfold execOp
  rw [ho]
  simp [hA.ev hx, hA.ev hy, eqGuard, binOp, shift_shr_any _ _ _ _ hq]
theorem rn_and (hA : Has a n e) {x y : Operand} {t yt : TypeId} {kd : IntKind} {p q : Int} (ho : o.op = .binOp .and t x y yt) (hx : ev e x = some (.int kd p)) (hy : ev e y = some (.int kd q)) :
    (execOp a.eval o).run P w = .ok (.value (.int kd (Go.bits .and kd p q))) w := by
  unfold execOp
  rw [ho]
  simp [hA.ev hx, hA.ev hy, eqGuard, binOp, intBits_and]
theorem rn_or (hA : Has a n e) {x y : Operand} {t yt : TypeId} {kd : IntKind} {p q : Int} (ho : o.op = .binOp .or t x y yt) (hx : ev e x = some (.int kd p)) (hy : ev e y = some (.int kd q)) :
    (execOp a.eval o).run P w = .ok (.value (.int kd (Go.bits .or kd p q))) w := by
  unfold execOp
  rw [ho]
  simp [hA.ev hx, hA.ev hy, eqGuard, binOp, intBits_or]
theorem rn_xor (hA : Has a n e) {x y : Operand} {t yt : TypeId} {kd : IntKind} {p q : Int} (ho : o.op = .binOp .xor t x y yt) (hx : ev e x = some (.int kd p)) (hy : ev e y = some (.int kd q)) :
    (execOp a.eval o).run P w = .ok (.value (.int kd (Go.bits .xor kd p q))) w := by
  unfold execOp
  rw [ho]
  simp [hA.ev hx, hA.ev hy, eqGuard, binOp, intBits_xor]
end
section
variable {P : Program} {tb : List TI} {a : Act} {w : World} {n : Nat} {e : Env} {o : Oper}
theorem rn_slice_hm (hT : TabOk P tb) (hA : Has a n e) {T E : Nat} {i j : TI} {x hi mx : Operand} {A : Option Addr} {m c : Nat} {k2 k3 : IntKind} {h mm : Int} (h' m' : Nat)
    (ho : o.op = .slice T x none (some hi) (some mx)) (hx : ev e x = some (.slice A m c)) (hhi : ev e hi = some (.int k2 h)) (hmx : ev e mx = some (.int k3 mm)) (hi' : lkT tb T = some i) (hE : i.desc = .slice E) (hj : lkT tb E = some j)
    (hh : h = (h' : Int)) (hm : mm = (m' : Int)) (hhm : h' ≤ m') (hmc : m' ≤ c) :
    (execOp a.eval o).run P w = .ok (.value (.slice A h' m')) w := by
  subst hh; subst hm
  obtain ⟨ht, hok⟩ := hT.at_ hi'
  obtain ⟨htj, hokj⟩ := hT.at_ hj
  have h1 := hok.und w
  rw [ht, hE] at h1
  have h2 := hokj.sizeOf w
  rw [htj] at h2
  unfold execOp
  rw [ho]
  have b0 : (0 : Int) ≤ (m' : Int) ∧ (m' : Int) ≤ (c : Int) := by omega
  have b1 : (0 : Int) ≤ (h' : Int) ∧ (h' : Int) ≤ (m' : Int) := by omega
  simp [Instr.sliceAt, Instr.slice, hA.ev hx, hA.ev hhi, hA.ev hmx, h1, Instr.sliceBounds, Instr.sliceBound, asIntOf, hhm, hmc, b0, b1, h2]
  cases A with
  | none => simp
  | some p => simp [Addr.add]
end
theorem Own.capped {T size m c : Nat} {A : Option Addr} {xs : List Value} {C : Chunk} (h : Own T size (.slice A m c) m xs C) : Own T size (.slice A m m) m xs C := by
  have hc := h.cap
  have := h.slv 0 m m (Nat.zero_le _) (Nat.le_refl _) (Nat.le_refl _) hc.1
  rw [slv_head] at this
  have hl := h.len
  rw [List.take_of_length_le (by omega), Nat.zero_mul, List.drop_zero, Nat.sub_zero] at this
  exact this
theorem ofInt_nat (k p : Nat) : BitVec.ofInt k (p : Int) = BitVec.ofNat k p := by
  apply BitVec.eq_of_toNat_eq; simp
theorem bits_and_u64 {p q : Nat} (hp : p < 2 ^ 64) (hq : q < 2 ^ 64) : Go.bits .and .u64 (p : Int) (q : Int) = ((p &&& q : Nat) : Int) := by
  have h : p &&& q < 2 ^ 64 := Nat.and_lt_two_pow _ hq
  have e : (BitVec.ofInt 64 (p : Int) &&& BitVec.ofInt 64 (q : Int)).toNat = p &&& q := by
    rw [ofInt_nat, ofInt_nat, BitVec.toNat_and, BitVec.toNat_ofNat, BitVec.toNat_ofNat, Nat.mod_eq_of_lt hp, Nat.mod_eq_of_lt hq]
  have e2 : Go.bits .and .u64 (p : Int) (q : Int) = IntKind.u64.wrap ((BitVec.ofInt 64 (p : Int) &&& BitVec.ofInt 64 (q : Int)).toNat : Int) := rfl
  rw [e2, e, wrap_u64 (Int.natCast_nonneg _) (by omega)]
theorem bits_or_u64 {p q : Nat} (hp : p < 2 ^ 64) (hq : q < 2 ^ 64) : Go.bits .or .u64 (p : Int) (q : Int) = ((p ||| q : Nat) : Int) := by
  have h : p ||| q < 2 ^ 64 := Nat.or_lt_two_pow hp hq
  have e : (BitVec.ofInt 64 (p : Int) ||| BitVec.ofInt 64 (q : Int)).toNat = p ||| q := by
    rw [ofInt_nat, ofInt_nat, BitVec.toNat_or, BitVec.toNat_ofNat, BitVec.toNat_ofNat, Nat.mod_eq_of_lt hp, Nat.mod_eq_of_lt hq]
  have e2 : Go.bits .or .u64 (p : Int) (q : Int) = IntKind.u64.wrap ((BitVec.ofInt 64 (p : Int) ||| BitVec.ofInt 64 (q : Int)).toNat : Int) := rfl
  rw [e2, e, wrap_u64 (Int.natCast_nonneg _) (by omega)]
theorem bits_xor_u64 {p q : Nat} (hp : p < 2 ^ 64) (hq : q < 2 ^ 64) : Go.bits .xor .u64 (p : Int) (q : Int) = ((p ^^^ q : Nat) : Int) := by
  have h : p ^^^ q < 2 ^ 64 := Nat.xor_lt_two_pow hp hq
  have e : (BitVec.ofInt 64 (p : Int) ^^^ BitVec.ofInt 64 (q : Int)).toNat = p ^^^ q := by
    rw [ofInt_nat, ofInt_nat, BitVec.toNat_xor, BitVec.toNat_ofNat, BitVec.toNat_ofNat, Nat.mod_eq_of_lt hp, Nat.mod_eq_of_lt hq]
  have e2 : Go.bits .xor .u64 (p : Int) (q : Int) = IntKind.u64.wrap ((BitVec.ofInt 64 (p : Int) ^^^ BitVec.ofInt 64 (q : Int)).toNat : Int) := rfl
  rw [e2, e, wrap_u64 (Int.natCast_nonneg _) (by omega)]
theorem bits_and_u8 {p q : Nat} (hp : p < 256) (hq : q < 256) : Go.bits .and .u8 (p : Int) (q : Int) = ((p &&& q : Nat) : Int) := by
  have h : p &&& q < 2 ^ 8 := Nat.and_lt_two_pow _ (show q < 2 ^ 8 from hq)
  have e : (BitVec.ofInt 8 (p : Int) &&& BitVec.ofInt 8 (q : Int)).toNat = p &&& q := by
    rw [ofInt_nat, ofInt_nat, BitVec.toNat_and, BitVec.toNat_ofNat, BitVec.toNat_ofNat, Nat.mod_eq_of_lt (show p < 2 ^ 8 from hp), Nat.mod_eq_of_lt (show q < 2 ^ 8 from hq)]
  have e2 : Go.bits .and .u8 (p : Int) (q : Int) = IntKind.u8.wrap ((BitVec.ofInt 8 (p : Int) &&& BitVec.ofInt 8 (q : Int)).toNat : Int) := rfl
  rw [e2, e, wrap_u8 (Int.natCast_nonneg _) (by omega)]
theorem cut48 {p : Nat} (hp : p < 2 ^ 64) : Go.bits .and .u64 (p : Int) 281474976710655 = ((p % 281474976710656 : Nat) : Int) := by
  have := bits_and_u64 hp (q := 281474976710655) (by decide)
  rw [show ((281474976710655 : Nat) : Int) = 281474976710655 from rfl] at this
  rw [this, show (281474976710655 : Nat) = 2 ^ 48 - 1 from rfl, Nat.and_two_pow_sub_one_eq_mod]
theorem low32 {p : Nat} (hp : p < 2 ^ 64) : Go.bits .and .u64 (p : Int) 4294967295 = ((p % 4294967296 : Nat) : Int) := by
  have := bits_and_u64 hp (q := 4294967295) (by decide)
  rw [show ((4294967295 : Nat) : Int) = 4294967295 from rfl] at this
  rw [this, show (4294967295 : Nat) = 2 ^ 32 - 1 from rfl, Nat.and_two_pow_sub_one_eq_mod]
def be : Nat → Nat → List UInt8
  | 0, _ => []
  | n + 1, v => be n (v / 256) ++ [UInt8.ofNat v]
theorem be_length : ∀ (n v : Nat), (be n v).length = n
  | 0, _ => rfl
  | n + 1, v => by rw [be, List.length_append, be_length n]; rfl
def beval (l : List UInt8) : Nat := l.foldl (fun a c => a * 256 + c.toNat) 0
theorem beval_snoc (l : List UInt8) (c : UInt8) : beval (l ++ [c]) = beval l * 256 + c.toNat := by simp [beval]
theorem beval_be : ∀ (n v : Nat), v < 256 ^ n → beval (be n v) = v
  | 0, v, h => by simp at h; subst h; rfl
  | n + 1, v, h => by
    rw [be, beval_snoc, beval_be n (v / 256) (by rw [Nat.pow_succ] at h; exact Nat.div_lt_of_lt_mul (by omega))]
    have : (UInt8.ofNat v).toNat = v % 256 := by simp
    omega
theorem beval_lt' : ∀ (l : List UInt8) (a : Nat), l.foldl (fun a c => a * 256 + c.toNat) a < (a + 1) * 256 ^ l.length
  | [], a => by simp
  | c :: l, a => by
    have h := beval_lt' l (a * 256 + c.toNat)
    have hc := UInt8.toNat_lt c
    rw [List.foldl_cons, List.length_cons, Nat.pow_succ]
    refine Nat.lt_of_lt_of_le h ?_
    rw [Nat.mul_comm (256 ^ l.length) 256, ← Nat.mul_assoc]
    exact Nat.mul_le_mul_right _ (by omega)
theorem beval_lt (l : List UInt8) : beval l < 256 ^ l.length := by
  have := beval_lt' l 0
  rwa [Nat.zero_add, Nat.one_mul] at this
theorem be_step (v n j : Nat) (h : j < n) : be j (v / 256 ^ (n - j)) ++ [UInt8.ofNat (v / 256 ^ (n - 1 - j))] = be (j + 1) (v / 256 ^ (n - (j + 1))) := by
  rw [be, show n - (j + 1) = n - 1 - j by omega, Nat.div_div_eq_div_mul, ← Nat.pow_succ, show (n - 1 - j).succ = n - j by omega]
theorem shr8 {x k : Int} {i : Nat} (h0 : 0 ≤ x) (hk : k = 8 * (i : Int)) (hi : i ≤ 7) : x / 2 ^ min k.toNat 64 = ((x.toNat / 256 ^ i : Nat) : Int) := by
  obtain ⟨m, rfl⟩ := Int.eq_ofNat_of_zero_le h0
  subst hk
  rw [show (8 * (i : Int)).toNat = 8 * i by omega, Nat.min_eq_left (by omega), Int.toNat_natCast, Int.natCast_ediv, Int.natCast_pow, show ((256 : Nat) : Int) = (2 : Int) ^ 8 from rfl, ← Int.pow_mul]
theorem shr8n {x : Nat} {k : Int} {i : Nat} (hk : k = 8 * (i : Int)) (hi : i ≤ 7) : (x : Int) / 2 ^ min k.toNat 64 = ((x / 256 ^ i : Nat) : Int) := by
  have := shr8 (x := (x : Int)) (Int.natCast_nonneg _) hk hi
  rwa [Int.toNat_natCast] at this
theorem wrap_u8_of (m : Nat) : IntKind.u8.wrap (m : Int) = (((UInt8.ofNat m).toNat : Nat) : Int) := by
  simp [IntKind.wrap, IntKind.bits, IntKind.signed]
theorem shl_or8 {m c : Nat} (hm : m < 2 ^ 56) (hc : c < 256) : Go.bits .or .u64 (IntKind.u64.wrap ((m : Int) * 2 ^ min (8 : Int).toNat 64)) (c : Int) = ((m * 256 + c : Nat) : Int) := by
  have e : IntKind.u64.wrap ((m : Int) * 2 ^ min (8 : Int).toNat 64) = ((m * 256 : Nat) : Int) := by
    rw [show min (8 : Int).toNat 64 = 8 from rfl, show (2 : Int) ^ 8 = 256 from rfl, wrap_u64 (by omega) (by omega)]; omega
  rw [e, bits_or_u64 (by omega) (by omega)]
  have := Nat.two_pow_add_eq_or_of_lt (b := c) (i := 8) (by omega) m
  rw [show m * 256 = 2 ^ 8 * m by omega, ← this]
def bsub (b : List UInt8) (a n : Nat) : List UInt8 := (b.take (a + n)).drop a
theorem bsub_length {b : List UInt8} {a n : Nat} (h : a + n ≤ b.length) : (bsub b a n).length = n := by
  rw [bsub, List.length_drop, List.length_take]; omega
theorem beval_step {l : List UInt8} {j : Nat} {x : UInt8} (hx : l[j]? = some x) (hj : j < 8) : Go.bits .or .u64 (IntKind.u64.wrap (((beval (l.take j) : Nat) : Int) * 2 ^ min (8 : Int).toNat 64)) ((x.toNat : Nat) : Int) = ((beval (l.take (j + 1)) : Nat) : Int) := by
  have h1 := beval_lt (l.take j)
  have h2 : (l.take j).length ≤ 7 := by rw [List.length_take]; omega
  have h3 : 256 ^ (l.take j).length ≤ 256 ^ 7 := Nat.pow_le_pow_right (by decide) h2
  have e : l.take (j + 1) = l.take j ++ [x] := by rw [List.take_add_one, hx]; rfl
  rw [e, beval_snoc, shl_or8 (by omega) (UInt8.toNat_lt x)]
theorem wrap_u16 {x : Int} (h0 : 0 ≤ x) (h1 : x ≤ 65535) : IntKind.u16.wrap x = x := by
  simp only [IntKind.wrap, IntKind.bits, IntKind.signed]
  simp
  omega
end Go.SK

set_option linter.unusedVariables false
set_option linter.unusedSimpArgs false
namespace Go.SK
open Go Go.MapKept
def MapO (kd : IntKind) (vs : List (Int × Value)) (o : Obj) : Prop := ∃ es clock, o = .map es clock ∧ es.toList.map (fun e => (e.key, e.val)) = vs.map (fun p => (Value.int kd p.1, p.2))
theorem MapO.new (kd : IntKind) : MapO kd [] (.map #[] 0) := ⟨_, _, rfl, rfl⟩
theorem find_no {kd : IntKind} {k : Int} : ∀ {l : List MapEntry} {vs : List (Int × Value)} (i : Nat), l.map (fun e => (e.key, e.val)) = vs.map (fun p => (Value.int kd p.1, p.2)) → (∀ p ∈ vs, ¬ p.1 = k) → Instr.findNow (.int kd) (.int kd k) l i = some none
  | [], [], _, _, _ => rfl
  | [], _ :: _, _, h, _ => by simp at h
  | _ :: _, [], _, h, _ => by simp at h
  | e :: l, p :: vs, i, h, hn => by
    simp only [List.map_cons, List.cons.injEq, Prod.mk.injEq] at h
    have h1 := hn p List.mem_cons_self
    rw [Instr.findNow, h.1.1]
    have e2 : (k == p.1) = false := by rw [beq_eq_false_iff_ne]; exact fun q => h1 q.symm
    simp only [Instr.sameNow, if_pos, e2]
    exact find_no (i + 1) h.2 (fun q hq => hn q (List.mem_cons_of_mem _ hq))
theorem find_hit {kd : IntKind} {k : Int} {v : Value} : ∀ {l : List MapEntry} {vs : List (Int × Value)} (i j : Nat), l.map (fun e => (e.key, e.val)) = vs.map (fun p => (Value.int kd p.1, p.2)) → vs[j]? = some (k, v) → (∀ (q : Nat) (p : Int × Value), q < j → vs[q]? = some p → ¬ p.1 = k) → Instr.findNow (.int kd) (.int kd k) l i = some (some (i + j, v))
  | [], [], _, _, _, h, _ => by simp at h
  | [], _ :: _, _, _, h, _, _ => by simp at h
  | _ :: _, [], _, _, h, _, _ => by simp at h
  | e :: l, p :: vs, i, 0, h, hj, _ => by
    simp only [List.map_cons, List.cons.injEq, Prod.mk.injEq] at h
    simp only [List.getElem?_cons_zero, Option.some.injEq] at hj
    rw [Instr.findNow, h.1.1, hj]
    simp only [Instr.sameNow, if_pos, BEq.rfl]
    rw [h.1.2, hj]; rfl
  | e :: l, p :: vs, i, j + 1, h, hj, hn => by
    simp only [List.map_cons, List.cons.injEq, Prod.mk.injEq] at h
    have h1 := hn 0 p (Nat.succ_pos _) rfl
    rw [Instr.findNow, h.1.1]
    have e2 : (k == p.1) = false := by rw [beq_eq_false_iff_ne]; exact fun q => h1 q.symm
    simp only [Instr.sameNow, if_pos, e2]
    have := find_hit (i + 1) j h.2 (by simpa using hj) (fun q y hq hy => hn (q + 1) y (by omega) (by simpa using hy))
    rw [this, show i + 1 + j = i + (j + 1) by omega]
section
variable {P : Program} {tb : List TI} {ops : Array Oper} {Q : Exit → Act → World → Prop} {a : Act} {w0 w : World} {L : List Chunk} {n : Nat} {e : Env} {o : Oper} {d T : Nat} {rest : List Oper}
theorem st_makeMap (hA : Has a n e) (hS : St w0 w L) (ho : o.op = .makeMap T none)
    (hw : wantE ops e o.guard = some true) (hd : o.dst = some d) (hdn : d < n)
    (k : ∀ b w' a', St w0 w' ([(b, .map #[] 0)] :: L) → Has a' n ((d, .map (some b)) :: e) → wpList P ops Q rest a' w') : wpList P ops Q (o :: rest) a w := by
  refine st_val hA hw hd hdn (v := .map (some w.heap.size)) (w' := w.alloc (.map #[] 0)) ?_ (fun a' h => k _ _ a' (hS.alloc _) h)
  unfold execOp
  rw [ho]
  have h9 : (newObj (.map #[] 0)).run P w = .ok w.heap.size (w.alloc (.map #[] 0)) := by simp [newObj, Sem.run]
  simp [Instr.makeMap, h9, Result.andThen]
theorem rn_lookup_no {K E : Nat} {ti tk te : TI} {x y : Operand} {m : Nat} {kd : IntKind} {k : Int} {ob : Obj} {vs : List (Int × Value)} (hT : TabOk P tb) (hA : Has a n e) (ho : o.op = .lookup T x y false) (hx : ev e x = some (.map (some m))) (hy : ev e y = some (.int kd k))
    (hi : lkT tb T = some ti) (hE : ti.desc = .map K E) (hk : lkT tb K = some tk) (hK : tk.desc = .int kd) (he : lkT tb E = some te) (hm : w.heap[m]? = some ob) (hO : MapO kd vs ob) (hn : ∀ p ∈ vs, ¬ p.1 = k) :
    (execOp a.eval o).run P w = .ok (.value te.zero) w := by
  obtain ⟨es, clock, rfl, hes⟩ := hO
  obtain ⟨ht, hok⟩ := hT.at_ hi
  obtain ⟨htk, hokk⟩ := hT.at_ hk
  obtain ⟨hte, hoke⟩ := hT.at_ he
  have h1 := hok.1
  rw [ht, hE] at h1
  have h2 := hokk.1
  rw [htk, hK] at h2
  have hz := hoke.zeroValue w
  rw [hte] at hz
  have hkey : IsKey (.int kd) (.int kd k) := by simp [IsKey]
  unfold execOp
  rw [ho]
  simp [hA.ev hx, hA.ev hy, Instr.lookup, run_underlying h1, MapKept.run_getObj_map hm, MapKept.run_checkKey h2 hkey, MapKept.run_findKey h2 (find_no 0 hes hn), hz, Result.andThen]
theorem rn_lookup_hit {K E : Nat} {ti tk : TI} {x y : Operand} {m j : Nat} {kd : IntKind} {k : Int} {v : Value} {ob : Obj} {vs : List (Int × Value)} (hT : TabOk P tb) (hA : Has a n e) (ho : o.op = .lookup T x y false) (hx : ev e x = some (.map (some m))) (hy : ev e y = some (.int kd k))
    (hi : lkT tb T = some ti) (hE : ti.desc = .map K E) (hk : lkT tb K = some tk) (hK : tk.desc = .int kd) (hm : w.heap[m]? = some ob) (hO : MapO kd vs ob) (hj : vs[j]? = some (k, v)) (hn : ∀ (q : Nat) (p : Int × Value), q < j → vs[q]? = some p → ¬ p.1 = k) :
    (execOp a.eval o).run P w = .ok (.value v) w := by
  obtain ⟨es, clock, rfl, hes⟩ := hO
  obtain ⟨ht, hok⟩ := hT.at_ hi
  obtain ⟨htk, hokk⟩ := hT.at_ hk
  have h1 := hok.1
  rw [ht, hE] at h1
  have h2 := hokk.1
  rw [htk, hK] at h2
  have hkey : IsKey (.int kd) (.int kd k) := by simp [IsKey]
  unfold execOp
  rw [ho]
  simp [hA.ev hx, hA.ev hy, Instr.lookup, run_underlying h1, MapKept.run_getObj_map hm, MapKept.run_checkKey h2 hkey, MapKept.run_findKey h2 (find_hit 0 j hes hj hn), Result.andThen]
theorem upd_map {b : Nat} {o o' : Obj} (hb : w.heap[b]? = some o) : Upd w { w with heap := w.heap.setIfInBounds b o' } b o' :=
  ⟨rfl, rfl, rfl, by simp, (MapKept.heap_set hb).1, fun k _ hk => (MapKept.heap_set hb).2 k hk⟩
theorem st_mapNew {K E : Nat} {ti tk : TI} {x y z : Operand} {m : Nat} {kd : IntKind} {k : Int} {v : Value} {ob : Obj} {vs : List (Int × Value)} (hT : TabOk P tb) (hA : Has a n e) (hS : St w0 w ([(m, ob)] :: L)) (ho : o.op = .mapUpdate T x y z ∨ o.op = .insert T x y z) (hx : ev e x = some (.map (some m))) (hy : ev e y = some (.int kd k)) (hv : ev e z = some v)
    (hi : lkT tb T = some ti) (hE : ti.desc = .map K E) (hk : lkT tb K = some tk) (hK : tk.desc = .int kd) (hO : MapO kd vs ob) (hn : ∀ p ∈ vs, ¬ p.1 = k) (hw : wantE ops e o.guard = some true) (hd : o.dst = none)
    (kk : ∀ w' ob', St w0 w' ([(m, ob')] :: L) → MapO kd (vs ++ [(k, v)]) ob' → wpList P ops Q rest a w') : wpList P ops Q (o :: rest) a w := by
  obtain ⟨es, clock, rfl, hes⟩ := hO
  obtain ⟨ht, hok⟩ := hT.at_ hi
  obtain ⟨htk, hokk⟩ := hT.at_ hk
  have h1 := hok.1
  rw [ht, hE] at h1
  have h2 := hokk.1
  rw [htk, hK] at h2
  have hkey : IsKey (.int kd) (.int kd k) := by simp [IsKey]
  have hm := hS.heapAt 0 rfl
  refine st_skip hA hw hd (w' := { w with heap := w.heap.setIfInBounds m (.map (es.push ⟨.int kd k, v, clock⟩) (clock + 1)) }) ?_ (kk _ _ (hS.upd (upd_map hm)) ⟨_, _, rfl, by simp [hes]⟩)
  unfold execOp
  rcases ho with ho | ho <;>
  · rw [ho]
    simp [hA.ev hx, hA.ev hy, hA.ev hv, Instr.mapUpdate, run_underlying h1, MapKept.run_getObj_map hm, MapKept.run_checkKey h2 hkey, MapKept.run_findKey h2 (find_no 0 hes hn), MapKept.run_setObj_map _ hm, Result.andThen]
theorem st_mapHit {K E : Nat} {ti tk : TI} {x y z : Operand} {m j : Nat} {kd : IntKind} {k : Int} {v v0 : Value} {ob : Obj} {vs : List (Int × Value)} (hT : TabOk P tb) (hA : Has a n e) (hS : St w0 w ([(m, ob)] :: L)) (ho : o.op = .mapUpdate T x y z ∨ o.op = .insert T x y z) (hx : ev e x = some (.map (some m))) (hy : ev e y = some (.int kd k)) (hv : ev e z = some v)
    (hi : lkT tb T = some ti) (hE : ti.desc = .map K E) (hk : lkT tb K = some tk) (hK : tk.desc = .int kd) (hO : MapO kd vs ob) (hj : vs[j]? = some (k, v0)) (hn : ∀ (q : Nat) (p : Int × Value), q < j → vs[q]? = some p → ¬ p.1 = k) (hw : wantE ops e o.guard = some true) (hd : o.dst = none)
    (kk : ∀ w' ob', St w0 w' ([(m, ob')] :: L) → MapO kd (vs.set j (k, v)) ob' → wpList P ops Q rest a w') : wpList P ops Q (o :: rest) a w := by
  obtain ⟨es, clock, rfl, hes⟩ := hO
  obtain ⟨ht, hok⟩ := hT.at_ hi
  obtain ⟨htk, hokk⟩ := hT.at_ hk
  have h1 := hok.1
  rw [ht, hE] at h1
  have h2 := hokk.1
  rw [htk, hK] at h2
  have hkey : IsKey (.int kd) (.int kd k) := by simp [IsKey]
  have hm := hS.heapAt 0 rfl
  have hl : es.toList.length = vs.length := by have := congrArg List.length hes; simpa using this
  have hjl := (List.getElem?_eq_some_iff.1 hj).1
  obtain ⟨e0, he0⟩ : ∃ e0, es.toList[j]? = some e0 := ⟨_, List.getElem?_eq_getElem (by omega)⟩
  have he1 : (e0.key, e0.val) = (Value.int kd k, v0) := by
    have := congrArg (fun l => l[j]?) hes
    simp only [List.getElem?_map, he0, hj, Option.map_some] at this
    exact Option.some.inj this
  have hek : e0.key = .int kd k := (Prod.mk.inj he1).1
  have hja : es[j]? = some e0 := by simpa using he0
  refine st_skip hA hw hd (w' := { w with heap := w.heap.setIfInBounds m (.map (es.modify j fun e => { e with key := .int kd k, val := v }) clock) }) ?_ (kk _ _ (hS.upd (upd_map hm)) ⟨_, _, rfl, ?_⟩)
  · unfold execOp
    rcases ho with ho | ho <;>
    · rw [ho]
      simp [hA.ev hx, hA.ev hy, hA.ev hv, Instr.mapUpdate, run_underlying h1, MapKept.run_getObj_map hm, MapKept.run_checkKey h2 hkey, MapKept.run_findKey h2 (find_hit 0 j hes hj hn), hja, hek, run_keyThatStays hkey, MapKept.run_setObj_map _ hm, Result.andThen]
  · apply List.ext_getElem?
    intro q
    have hq := congrArg (fun l => l[q]?) hes
    simp only [List.getElem?_map] at hq
    simp only [List.getElem?_map, Array.toList_modify, List.getElem?_modify, List.getElem?_set]
    by_cases hqj : j = q
    · subst hqj; simp [he0, hjl]
    · simp only [hqj, if_false] at hq ⊢; simpa using hq
end
end Go.SK

set_option linter.unusedVariables false
set_option linter.unusedSimpArgs false
namespace Go.SK
open Go
def IsMeth (P : Program) (t : TypeId) (x : Value) (name : String) (f : FuncId) : Prop := ∀ w, (method (P.types.size + Made.depth) t x name).run P w = .ok (f, x) w
section
variable {P : Program} {tb : List TI} {ops : Array Oper} {Q : Exit → Act → World → Prop} {a : Act} {w0 w : World} {L : List Chunk} {n : Nat} {e : Env}
theorem st_invoke {o : Oper} {rest : List Oper} {d : Nat} {c : Call} {rv : Operand} {t : TypeId} {x : Value} {name : String} {f : FuncId} {vs : List Value} {R : Value → World → Prop}
    (hA : Has a n e) (ho : o.op = .call c) (hfv : c.callee = .invoke rv name) (hf : ev e rv = some (.iface t x)) (hvs : evs e c.args.toList = some vs)
    (hm : IsMeth P t x name f) (hfn : IsFn P f) (hw : wantE ops e o.guard = some true) (hd : o.dst = some d) (hdn : d < n)
    (hC : Ret P f (x :: vs).toArray w R)
    (k : ∀ v w' a', R v w' → Has a' n ((d, v) :: e) → wpList P ops Q rest a' w') : wpList P ops Q (o :: rest) a w := by
  refine wpList_wanted (hA.want hw) ?_
  have h1 := hA.evs hvs
  have h2 : c.args.map a.eval = vs.toArray := by rw [← h1]; apply Array.ext'; simp
  have hr : (execOp a.eval o).run P w = .ok (.enter f (x :: vs).toArray) w := by
    unfold execOp
    rw [ho]
    have h3 : (#[Value.iface t x] ++ vs.toArray)[0]? = some (Value.iface t x) := by simp
    have h4 : (#[Value.iface t x] ++ vs.toArray).extract 1 (#[Value.iface t x] ++ vs.toArray).size = vs.toArray := by apply Array.ext'; simp
    have h5 : (#[x] ++ vs.toArray) = (x :: vs).toArray := by apply Array.ext'; simp
    have h6 := hfn (x :: vs).toArray w
    have h7 : (program).run P w = .ok P w := rfl
    simp only [resolve, hfv, hA.ev hf, h2, Sem.run_bind, Sem.run_pure, Result.andThen_ok, invoke, h3, callMethod, h7, hm w, h4, h5]
    exact h6
  unfold Oper.wp
  rw [hr, Oper.upon_enter]
  refine Calls.mono hC ?_
  rintro en w' ⟨v, rfl, hR⟩
  show wpList P ops Q rest (a.put o.dst v) w'
  rw [hd]
  exact k v w' _ hR (hA.put hdn v)
end
end Go.SK

set_option linter.unusedVariables false
set_option linter.unusedSimpArgs false
namespace Go.SK
open Go
def pickC (L : List Chunk) : List Nat → List Chunk
  | [] => []
  | i :: is => (L[i]?.getD []) :: pickC L is
theorem pickC_perm {L : List Chunk} {is js : List Nat} (h : is.Perm js) : (pickC L is).Perm (pickC L js) := by
  have e : ∀ l, pickC L l = l.map (fun i => L[i]?.getD []) := fun l => by
    induction l with
    | nil => rfl
    | cons a l ih => rw [pickC, ih]; rfl
  rw [e, e]; exact h.map _
theorem pickC_range : ∀ (L : List Chunk) (n : Nat), n ≤ L.length → pickC L (List.range n) = L.take n := by
  intro L n h
  have e : ∀ l, pickC L l = l.map (fun i => L[i]?.getD []) := fun l => by
    induction l with
    | nil => rfl
    | cons a l ih => rw [pickC, ih]; rfl
  rw [e]
  apply List.ext_getElem?
  intro i
  rw [List.getElem?_map]
  by_cases hi : i < n
  · rw [List.getElem?_range hi, List.getElem?_take_of_lt hi]
    have : L[i]? = some L[i] := List.getElem?_eq_getElem (by omega)
    show some (L[i]?.getD []) = L[i]?
    rw [this]; rfl
  · rw [List.getElem?_eq_none (by rw [List.length_range]; omega), List.getElem?_eq_none (by rw [List.length_take]; omega)]; rfl
theorem St.pick {w0 w : World} {L L' : List Chunk} (h : St w0 w L) (is : List Nat) (n : Nat) (hn : n ≤ L.length) (hp : is.isPerm (List.range n) = true) (hL : pickC L is ++ L.drop n = L') : St w0 w L' := by
  subst hL
  refine h.perm ?_
  have h1 : (pickC L is).Perm (L.take n) := by rw [← pickC_range L n hn]; exact pickC_perm (List.isPerm_iff.1 hp)
  have h2 : (pickC L is ++ L.drop n).Perm L := by
    have := h1.append_right (L.drop n)
    rwa [List.take_append_drop] at this
  exact h2.symm.flatten
theorem pickC_app (L : List Chunk) : ∀ is js : List Nat, pickC L (is ++ js) = pickC L is ++ pickC L js
  | [], _ => rfl
  | i :: is, js => by rw [List.cons_append, pickC, pickC, pickC_app L is js]; rfl
theorem St.pickd {w0 w : World} {L L' : List Chunk} (h : St w0 w L) (is ds : List Nat) (n : Nat) (hn : n ≤ L.length) (hp : (is ++ ds).isPerm (List.range n) = true) (hL : pickC L is ++ L.drop n = L') : St w0 w L' := by
  subst hL
  refine (h.pick (is ++ ds) n hn hp rfl).sub ?_
  rw [pickC_app, List.flatten_append, List.flatten_append, List.flatten_append, List.append_assoc]
  exact (List.Sublist.refl _).append (List.sublist_append_right _ _)
end Go.SK

set_option linter.unusedVariables false
set_option linter.unusedSimpArgs false
namespace Go.SK
open Go
abbrev vI (n : Nat) : Value := .int .i64 ((n : Nat) : Int)
abbrev vU (n : Nat) : Value := .int .u64 ((n : Nat) : Int)
abbrev vW (n : Nat) : Value := .int .u32 ((n : Nat) : Int)
abbrev vH (n : Nat) : Value := .int .u16 ((n : Nat) : Int)
abbrev vB (n : Nat) : Value := .int .u8 ((n : Nat) : Int)
abbrev vP (b o : Nat) : Value := .pointer (some ⟨b, o, none⟩)
abbrev yT : Value := .bool true
abbrev yF : Value := .bool false
abbrev yN : Value := .nilIface
abbrev yS : Value := .slice none 0 0
abbrev yU : Value := .int .u64 0
abbrev yI : Value := .int .i64 0
abbrev yW : Value := .int .u32 0
abbrev yH : Value := .int .u16 0
abbrev yB : Value := .int .u8 0
section
variable {w0 w : World} {C0 C1 C2 C3 C4 C5 C6 C7 C8 C9 C10 C11 C12 C13 C14 C15 C16 C17 C18 C19 : Chunk} {L : List Chunk}
theorem St.m1 (h : St w0 w (C0 :: C1 :: L)) : St w0 w (C1 :: C0 :: L) := h.front 1 rfl rfl
theorem St.m2 (h : St w0 w (C0 :: C1 :: C2 :: L)) : St w0 w (C2 :: C0 :: C1 :: L) := h.front 2 rfl rfl
theorem St.m3 (h : St w0 w (C0 :: C1 :: C2 :: C3 :: L)) : St w0 w (C3 :: C0 :: C1 :: C2 :: L) := h.front 3 rfl rfl
theorem St.m4 (h : St w0 w (C0 :: C1 :: C2 :: C3 :: C4 :: L)) : St w0 w (C4 :: C0 :: C1 :: C2 :: C3 :: L) := h.front 4 rfl rfl
theorem St.m5 (h : St w0 w (C0 :: C1 :: C2 :: C3 :: C4 :: C5 :: L)) : St w0 w (C5 :: C0 :: C1 :: C2 :: C3 :: C4 :: L) := h.front 5 rfl rfl
theorem St.m6 (h : St w0 w (C0 :: C1 :: C2 :: C3 :: C4 :: C5 :: C6 :: L)) : St w0 w (C6 :: C0 :: C1 :: C2 :: C3 :: C4 :: C5 :: L) := h.front 6 rfl rfl
theorem St.m7 (h : St w0 w (C0 :: C1 :: C2 :: C3 :: C4 :: C5 :: C6 :: C7 :: L)) : St w0 w (C7 :: C0 :: C1 :: C2 :: C3 :: C4 :: C5 :: C6 :: L) := h.front 7 rfl rfl
theorem St.m8 (h : St w0 w (C0 :: C1 :: C2 :: C3 :: C4 :: C5 :: C6 :: C7 :: C8 :: L)) : St w0 w (C8 :: C0 :: C1 :: C2 :: C3 :: C4 :: C5 :: C6 :: C7 :: L) := h.front 8 rfl rfl
theorem St.m9 (h : St w0 w (C0 :: C1 :: C2 :: C3 :: C4 :: C5 :: C6 :: C7 :: C8 :: C9 :: L)) : St w0 w (C9 :: C0 :: C1 :: C2 :: C3 :: C4 :: C5 :: C6 :: C7 :: C8 :: L) := h.front 9 rfl rfl
theorem St.m10 (h : St w0 w (C0 :: C1 :: C2 :: C3 :: C4 :: C5 :: C6 :: C7 :: C8 :: C9 :: C10 :: L)) : St w0 w (C10 :: C0 :: C1 :: C2 :: C3 :: C4 :: C5 :: C6 :: C7 :: C8 :: C9 :: L) := h.front 10 rfl rfl
theorem St.m11 (h : St w0 w (C0 :: C1 :: C2 :: C3 :: C4 :: C5 :: C6 :: C7 :: C8 :: C9 :: C10 :: C11 :: L)) : St w0 w (C11 :: C0 :: C1 :: C2 :: C3 :: C4 :: C5 :: C6 :: C7 :: C8 :: C9 :: C10 :: L) := h.front 11 rfl rfl
theorem St.m12 (h : St w0 w (C0 :: C1 :: C2 :: C3 :: C4 :: C5 :: C6 :: C7 :: C8 :: C9 :: C10 :: C11 :: C12 :: L)) : St w0 w (C12 :: C0 :: C1 :: C2 :: C3 :: C4 :: C5 :: C6 :: C7 :: C8 :: C9 :: C10 :: C11 :: L) := h.front 12 rfl rfl
theorem St.d0 (h : St w0 w (C0 :: L)) : St w0 w (L) := h.drop1
theorem St.d1 (h : St w0 w (C0 :: C1 :: L)) : St w0 w (C0 :: L) := h.m1.drop1
theorem St.d2 (h : St w0 w (C0 :: C1 :: C2 :: L)) : St w0 w (C0 :: C1 :: L) := h.m2.drop1
theorem St.d3 (h : St w0 w (C0 :: C1 :: C2 :: C3 :: L)) : St w0 w (C0 :: C1 :: C2 :: L) := h.m3.drop1
theorem St.d4 (h : St w0 w (C0 :: C1 :: C2 :: C3 :: C4 :: L)) : St w0 w (C0 :: C1 :: C2 :: C3 :: L) := h.m4.drop1
theorem St.d5 (h : St w0 w (C0 :: C1 :: C2 :: C3 :: C4 :: C5 :: L)) : St w0 w (C0 :: C1 :: C2 :: C3 :: C4 :: L) := h.m5.drop1
theorem St.d6 (h : St w0 w (C0 :: C1 :: C2 :: C3 :: C4 :: C5 :: C6 :: L)) : St w0 w (C0 :: C1 :: C2 :: C3 :: C4 :: C5 :: L) := h.m6.drop1
theorem St.d7 (h : St w0 w (C0 :: C1 :: C2 :: C3 :: C4 :: C5 :: C6 :: C7 :: L)) : St w0 w (C0 :: C1 :: C2 :: C3 :: C4 :: C5 :: C6 :: L) := h.m7.drop1
theorem St.d8 (h : St w0 w (C0 :: C1 :: C2 :: C3 :: C4 :: C5 :: C6 :: C7 :: C8 :: L)) : St w0 w (C0 :: C1 :: C2 :: C3 :: C4 :: C5 :: C6 :: C7 :: L) := h.m8.drop1
theorem St.d9 (h : St w0 w (C0 :: C1 :: C2 :: C3 :: C4 :: C5 :: C6 :: C7 :: C8 :: C9 :: L)) : St w0 w (C0 :: C1 :: C2 :: C3 :: C4 :: C5 :: C6 :: C7 :: C8 :: L) := h.m9.drop1
theorem St.d10 (h : St w0 w (C0 :: C1 :: C2 :: C3 :: C4 :: C5 :: C6 :: C7 :: C8 :: C9 :: C10 :: L)) : St w0 w (C0 :: C1 :: C2 :: C3 :: C4 :: C5 :: C6 :: C7 :: C8 :: C9 :: L) := h.m10.drop1
theorem St.d11 (h : St w0 w (C0 :: C1 :: C2 :: C3 :: C4 :: C5 :: C6 :: C7 :: C8 :: C9 :: C10 :: C11 :: L)) : St w0 w (C0 :: C1 :: C2 :: C3 :: C4 :: C5 :: C6 :: C7 :: C8 :: C9 :: C10 :: L) := h.m11.drop1
theorem St.d12 (h : St w0 w (C0 :: C1 :: C2 :: C3 :: C4 :: C5 :: C6 :: C7 :: C8 :: C9 :: C10 :: C11 :: C12 :: L)) : St w0 w (C0 :: C1 :: C2 :: C3 :: C4 :: C5 :: C6 :: C7 :: C8 :: C9 :: C10 :: C11 :: L) := h.m12.drop1
end
theorem zn1 {cs : List Value} (h : cs.all (fun u => u.oneCell') = true) : ∀ u ∈ cs, u.oneCell' = true := fun u hu => List.all_eq_true.1 h u hu
theorem zle {a b : Nat} (h : Nat.ble a b = true) : a ≤ b := Nat.le_of_ble_eq_true h
section
variable {P : Program} {ops : Array Oper} {Q : Exit → Act → World → Prop} {K S : (World → Prop)} {fins : List Nat} {r : List (Nat × Bool)} {a : Act} {w w0 : World} {i : Nat} {L : List Chunk} {C0 C1 C2 C3 C4 C5 C6 C7 : Chunk}
theorem zi {K : (World → Prop) → Act → World → Prop} {S : World → Prop} (h1 : S w) (h2 : wpS P ops Q K S fins r a w) : wpList P ops (Exit.then (fun a' w' => ∃ S2 : World → Prop, (∀ x, S2 x → S x) ∧ (i ∈ fins ∨ S2 w') ∧ wpS P ops Q K S2 fins r a' w') Q) [] a w := dr_nil (.inr h1) h2
theorem zD0 {id : Nat} {l : List Oper} (hS : St w0 w (L)) (fins : List Nat) (ord : List (Nat × Bool)) (hm : P.follows .mixedOrders = true) (hsel : Region.noSelect l.toArray = true) (hQ : ∀ c a w, ¬ Q (.panic c) a w) (hlen : ord.length = l.length) (ho : okT l.toArray fins (.L ord) (Array.replicate l.length false) = true) (h : wpS P l.toArray Q (fun _ => Q .normal) (fun w' => St w0 w' L) fins ord a w.drew) : (Code.region id l.toArray true).wp P Q a w := wp_draw _ fins ord hm hsel hQ hlen ho h
theorem zD1 {id : Nat} {l : List Oper} (hS : St w0 w (C0 :: L)) (fins : List Nat) (ord : List (Nat × Bool)) (hm : P.follows .mixedOrders = true) (hsel : Region.noSelect l.toArray = true) (hQ : ∀ c a w, ¬ Q (.panic c) a w) (hlen : ord.length = l.length) (ho : okT l.toArray fins (.L ord) (Array.replicate l.length false) = true) (h : wpS P l.toArray Q (fun _ => Q .normal) (fun w' => St w0 w' L) fins ord a w.drew) : (Code.region id l.toArray true).wp P Q a w := wp_draw _ fins ord hm hsel hQ hlen ho h
theorem zD2 {id : Nat} {l : List Oper} (hS : St w0 w (C0 :: C1 :: L)) (fins : List Nat) (ord : List (Nat × Bool)) (hm : P.follows .mixedOrders = true) (hsel : Region.noSelect l.toArray = true) (hQ : ∀ c a w, ¬ Q (.panic c) a w) (hlen : ord.length = l.length) (ho : okT l.toArray fins (.L ord) (Array.replicate l.length false) = true) (h : wpS P l.toArray Q (fun _ => Q .normal) (fun w' => St w0 w' L) fins ord a w.drew) : (Code.region id l.toArray true).wp P Q a w := wp_draw _ fins ord hm hsel hQ hlen ho h
theorem zD3 {id : Nat} {l : List Oper} (hS : St w0 w (C0 :: C1 :: C2 :: L)) (fins : List Nat) (ord : List (Nat × Bool)) (hm : P.follows .mixedOrders = true) (hsel : Region.noSelect l.toArray = true) (hQ : ∀ c a w, ¬ Q (.panic c) a w) (hlen : ord.length = l.length) (ho : okT l.toArray fins (.L ord) (Array.replicate l.length false) = true) (h : wpS P l.toArray Q (fun _ => Q .normal) (fun w' => St w0 w' L) fins ord a w.drew) : (Code.region id l.toArray true).wp P Q a w := wp_draw _ fins ord hm hsel hQ hlen ho h
theorem zD4 {id : Nat} {l : List Oper} (hS : St w0 w (C0 :: C1 :: C2 :: C3 :: L)) (fins : List Nat) (ord : List (Nat × Bool)) (hm : P.follows .mixedOrders = true) (hsel : Region.noSelect l.toArray = true) (hQ : ∀ c a w, ¬ Q (.panic c) a w) (hlen : ord.length = l.length) (ho : okT l.toArray fins (.L ord) (Array.replicate l.length false) = true) (h : wpS P l.toArray Q (fun _ => Q .normal) (fun w' => St w0 w' L) fins ord a w.drew) : (Code.region id l.toArray true).wp P Q a w := wp_draw _ fins ord hm hsel hQ hlen ho h
theorem zD5 {id : Nat} {l : List Oper} (hS : St w0 w (C0 :: C1 :: C2 :: C3 :: C4 :: L)) (fins : List Nat) (ord : List (Nat × Bool)) (hm : P.follows .mixedOrders = true) (hsel : Region.noSelect l.toArray = true) (hQ : ∀ c a w, ¬ Q (.panic c) a w) (hlen : ord.length = l.length) (ho : okT l.toArray fins (.L ord) (Array.replicate l.length false) = true) (h : wpS P l.toArray Q (fun _ => Q .normal) (fun w' => St w0 w' L) fins ord a w.drew) : (Code.region id l.toArray true).wp P Q a w := wp_draw _ fins ord hm hsel hQ hlen ho h
theorem zD6 {id : Nat} {l : List Oper} (hS : St w0 w (C0 :: C1 :: C2 :: C3 :: C4 :: C5 :: L)) (fins : List Nat) (ord : List (Nat × Bool)) (hm : P.follows .mixedOrders = true) (hsel : Region.noSelect l.toArray = true) (hQ : ∀ c a w, ¬ Q (.panic c) a w) (hlen : ord.length = l.length) (ho : okT l.toArray fins (.L ord) (Array.replicate l.length false) = true) (h : wpS P l.toArray Q (fun _ => Q .normal) (fun w' => St w0 w' L) fins ord a w.drew) : (Code.region id l.toArray true).wp P Q a w := wp_draw _ fins ord hm hsel hQ hlen ho h
abbrev zn := @wpList_nil
abbrev zx := @xt_norm
abbrev zs := @wp_seq
abbrev zr := @wp_region_lit
abbrev zb := @wp_block
abbrev zk := @wp_skip
abbrev ze := @dr_end
abbrev zm := @xb_norm
end
end Go.SK

set_option linter.unusedVariables false
set_option linter.unusedSimpArgs false
set_option maxRecDepth 4000
namespace Go.Proofs.YthiakdmhpfkjbaaGreatDoor
open Go Go.SK
theorem mixed : Tryz.prog.follows .mixedOrders = true := by kernel_rfl
theorem isfn7 : IsFn Tryz.prog 7 := fun args w => by kernel_rfl
theorem isfn8 : IsFn Tryz.prog 8 := fun args w => by kernel_rfl
theorem isfn9 : IsFn Tryz.prog 9 := fun args w => by kernel_rfl
theorem isfn10 : IsFn Tryz.prog 10 := fun args w => by kernel_rfl
theorem isfn11 : IsFn Tryz.prog 11 := fun args w => by kernel_rfl
theorem isfn12 : IsFn Tryz.prog 12 := fun args w => by kernel_rfl
theorem isfn13 : IsFn Tryz.prog 13 := fun args w => by kernel_rfl
theorem isfn15 : IsFn Tryz.prog 15 := fun args w => by kernel_rfl
theorem isfn16 : IsFn Tryz.prog 16 := fun args w => by kernel_rfl
theorem isfn17 : IsFn Tryz.prog 17 := fun args w => by kernel_rfl
theorem isfn18 : IsFn Tryz.prog 18 := fun args w => by kernel_rfl
theorem isfn19 : IsFn Tryz.prog 19 := fun args w => by kernel_rfl
theorem isfn20 : IsFn Tryz.prog 20 := fun args w => by kernel_rfl
theorem isfn22 : IsFn Tryz.prog 22 := fun args w => by kernel_rfl
theorem isfn23 : IsFn Tryz.prog 23 := fun args w => by kernel_rfl
theorem isfn24 : IsFn Tryz.prog 24 := fun args w => by kernel_rfl
theorem isfn25 : IsFn Tryz.prog 25 := fun args w => by kernel_rfl
theorem isfn26 : IsFn Tryz.prog 26 := fun args w => by kernel_rfl
theorem isfn27 : IsFn Tryz.prog 27 := fun args w => by kernel_rfl
theorem isfn28 : IsFn Tryz.prog 28 := fun args w => by kernel_rfl
theorem isfn29 : IsFn Tryz.prog 29 := fun args w => by kernel_rfl
theorem isfn30 : IsFn Tryz.prog 30 := fun args w => by kernel_rfl
theorem isfn31 : IsFn Tryz.prog 31 := fun args w => by kernel_rfl
theorem isfn32 : IsFn Tryz.prog 32 := fun args w => by kernel_rfl
theorem isfn33 : IsFn Tryz.prog 33 := fun args w => by kernel_rfl
theorem isfn34 : IsFn Tryz.prog 34 := fun args w => by kernel_rfl
theorem isfn35 : IsFn Tryz.prog 35 := fun args w => by kernel_rfl
theorem isfn37 : IsFn Tryz.prog 37 := fun args w => by kernel_rfl
theorem isfn38 : IsFn Tryz.prog 38 := fun args w => by kernel_rfl
theorem isfn41 : IsFn Tryz.prog 41 := fun args w => by kernel_rfl
theorem isfn42 : IsFn Tryz.prog 42 := fun args w => by kernel_rfl
theorem isfn44 : IsFn Tryz.prog 44 := fun args w => by kernel_rfl
theorem isfn45 : IsFn Tryz.prog 45 := fun args w => by kernel_rfl
theorem isfn46 : IsFn Tryz.prog 46 := fun args w => by kernel_rfl
theorem isfn47 : IsFn Tryz.prog 47 := fun args w => by kernel_rfl
theorem isfn48 : IsFn Tryz.prog 48 := fun args w => by kernel_rfl
theorem isfn49 : IsFn Tryz.prog 49 := fun args w => by kernel_rfl
theorem isfn50 : IsFn Tryz.prog 50 := fun args w => by kernel_rfl
theorem isfn51 : IsFn Tryz.prog 51 := fun args w => by kernel_rfl
theorem isfn52 : IsFn Tryz.prog 52 := fun args w => by kernel_rfl
theorem isfn53 : IsFn Tryz.prog 53 := fun args w => by kernel_rfl
theorem isfn54 : IsFn Tryz.prog 54 := fun args w => by kernel_rfl
theorem isfn55 : IsFn Tryz.prog 55 := fun args w => by kernel_rfl
theorem isfn56 : IsFn Tryz.prog 56 := fun args w => by kernel_rfl
theorem isfn57 : IsFn Tryz.prog 57 := fun args w => by kernel_rfl
theorem isfn58 : IsFn Tryz.prog 58 := fun args w => by kernel_rfl
theorem isfn59 : IsFn Tryz.prog 59 := fun args w => by kernel_rfl
theorem isfn60 : IsFn Tryz.prog 60 := fun args w => by kernel_rfl
theorem isfn61 : IsFn Tryz.prog 61 := fun args w => by kernel_rfl
theorem isfn62 : IsFn Tryz.prog 62 := fun args w => by kernel_rfl
theorem isfn63 : IsFn Tryz.prog 63 := fun args w => by kernel_rfl
theorem isfn64 : IsFn Tryz.prog 64 := fun args w => by kernel_rfl
theorem isfn65 : IsFn Tryz.prog 65 := fun args w => by kernel_rfl
theorem isfn66 : IsFn Tryz.prog 66 := fun args w => by kernel_rfl
theorem isfn67 : IsFn Tryz.prog 67 := fun args w => by kernel_rfl
theorem isfn68 : IsFn Tryz.prog 68 := fun args w => by kernel_rfl
theorem isfn69 : IsFn Tryz.prog 69 := fun args w => by kernel_rfl
theorem isfn70 : IsFn Tryz.prog 70 := fun args w => by kernel_rfl
theorem isfn71 : IsFn Tryz.prog 71 := fun args w => by kernel_rfl
theorem isfn76 : IsFn Tryz.prog 76 := fun args w => by kernel_rfl
theorem isfn77 : IsFn Tryz.prog 77 := fun args w => by kernel_rfl
theorem isfn78 : IsFn Tryz.prog 78 := fun args w => by kernel_rfl
theorem isfn79 : IsFn Tryz.prog 79 := fun args w => by kernel_rfl
theorem isfn80 : IsFn Tryz.prog 80 := fun args w => by kernel_rfl
theorem isfn81 : IsFn Tryz.prog 81 := fun args w => by kernel_rfl
theorem isfn82 : IsFn Tryz.prog 82 := fun args w => by kernel_rfl
theorem isfn83 : IsFn Tryz.prog 83 := fun args w => by kernel_rfl
theorem isfn84 : IsFn Tryz.prog 84 := fun args w => by kernel_rfl
theorem isfn85 : IsFn Tryz.prog 85 := fun args w => by kernel_rfl
theorem isfn86 : IsFn Tryz.prog 86 := fun args w => by kernel_rfl
theorem isfn87 : IsFn Tryz.prog 87 := fun args w => by kernel_rfl
theorem isfn88 : IsFn Tryz.prog 88 := fun args w => by kernel_rfl
theorem isfn89 : IsFn Tryz.prog 89 := fun args w => by kernel_rfl
theorem isfn90 : IsFn Tryz.prog 90 := fun args w => by kernel_rfl
theorem isfn91 : IsFn Tryz.prog 91 := fun args w => by kernel_rfl
theorem isfn92 : IsFn Tryz.prog 92 := fun args w => by kernel_rfl
theorem isfn93 : IsFn Tryz.prog 93 := fun args w => by kernel_rfl
theorem isfn94 : IsFn Tryz.prog 94 := fun args w => by kernel_rfl
theorem isfn95 : IsFn Tryz.prog 95 := fun args w => by kernel_rfl
theorem isfn96 : IsFn Tryz.prog 96 := fun args w => by kernel_rfl
theorem isfn97 : IsFn Tryz.prog 97 := fun args w => by kernel_rfl
theorem isfn98 : IsFn Tryz.prog 98 := fun args w => by kernel_rfl
theorem isfn99 : IsFn Tryz.prog 99 := fun args w => by kernel_rfl
theorem isfn100 : IsFn Tryz.prog 100 := fun args w => by kernel_rfl
theorem isfn103 : IsFn Tryz.prog 103 := fun args w => by kernel_rfl
theorem isfn104 : IsFn Tryz.prog 104 := fun args w => by kernel_rfl
theorem isfn105 : IsFn Tryz.prog 105 := fun args w => by kernel_rfl
theorem isfn109 : IsFn Tryz.prog 109 := fun args w => by kernel_rfl
theorem isfn110 : IsFn Tryz.prog 110 := fun args w => by kernel_rfl
theorem isfn111 : IsFn Tryz.prog 111 := fun args w => by kernel_rfl
theorem isfn112 : IsFn Tryz.prog 112 := fun args w => by kernel_rfl
theorem isfn113 : IsFn Tryz.prog 113 := fun args w => by kernel_rfl
theorem isfn114 : IsFn Tryz.prog 114 := fun args w => by kernel_rfl
theorem isfn115 : IsFn Tryz.prog 115 := fun args w => by kernel_rfl
theorem isfn116 : IsFn Tryz.prog 116 := fun args w => by kernel_rfl
theorem isfn117 : IsFn Tryz.prog 117 := fun args w => by kernel_rfl
theorem isfn118 : IsFn Tryz.prog 118 := fun args w => by kernel_rfl
theorem isfn119 : IsFn Tryz.prog 119 := fun args w => by kernel_rfl
theorem isfn120 : IsFn Tryz.prog 120 := fun args w => by kernel_rfl
theorem isfn121 : IsFn Tryz.prog 121 := fun args w => by kernel_rfl
theorem isfn124 : IsFn Tryz.prog 124 := fun args w => by kernel_rfl
theorem isfn125 : IsFn Tryz.prog 125 := fun args w => by kernel_rfl
theorem isfn127 : IsFn Tryz.prog 127 := fun args w => by kernel_rfl
theorem isfn128 : IsFn Tryz.prog 128 := fun args w => by kernel_rfl
theorem isfn129 : IsFn Tryz.prog 129 := fun args w => by kernel_rfl
theorem isfn130 : IsFn Tryz.prog 130 := fun args w => by kernel_rfl
theorem isfn131 : IsFn Tryz.prog 131 := fun args w => by kernel_rfl
theorem isfn133 : IsFn Tryz.prog 133 := fun args w => by kernel_rfl
theorem isfn134 : IsFn Tryz.prog 134 := fun args w => by kernel_rfl
noncomputable def tb : List TI := [
  ⟨3, Tryz.t3.desc, 1, 8, yI⟩,
  ⟨46, Tryz.t45.desc, 11, 80, .agg #[yU, yU, yW, yH, yH, yU, yW, yB, yU, yU, yS]⟩,
  ⟨39, Tryz.t38.desc, 4, 24, .agg #[yU, yW, yB, yU]⟩,
  ⟨36, Tryz.t36.desc, 1, 8, yU⟩,
  ⟨22, Tryz.t22.desc, 1, 24, yS⟩,
  ⟨121, Tryz.t120.desc, 26, 200, .agg #[yI, yI, yI, yI, yI, yI, yI, yI, yI, .pointer none, yF, yI, yU, yU, yU, yU, yW, yB, yU, .pointer none, .pointer none, .pointer none, .pointer none, .pointer none, .pointer none, .map none]⟩,
  ⟨94, Tryz.t93.desc, 6, 64, .agg #[yI, yI, yU, yI, yI, yS]⟩,
  ⟨55, Tryz.t3.desc, 1, 8, yI⟩,
  ⟨4, Tryz.t4.desc, 1, 1, yF⟩,
  ⟨72, Tryz.t72.desc, 1, 24, yS⟩,
  ⟨5, Tryz.t5.desc, 1, 1, yB⟩,
  ⟨44, Tryz.t44.desc, 1, 2, yH⟩,
  ⟨26, Tryz.t25.desc, 1, 16, yN⟩,
  ⟨37, Tryz.t37.desc, 1, 4, yW⟩,
  ⟨245, Tryz.t245.desc, 1, 24, yS⟩,
  ⟨125, Tryz.t125.desc, 1, 24, yS⟩,
  ⟨128, Tryz.t128.desc, 1, 24, yS⟩,
  ⟨177, Tryz.t177.desc, 1, 24, yS⟩,
  ⟨225, Tryz.t224.desc, 6, 56, .agg #[yU, yW, yB, yU, yU, yS]⟩,
  ⟨247, Tryz.t246.desc, 3, 40, .agg #[yU, .pointer none, yS]⟩,
  ⟨32, Tryz.t31.desc, 7, 56, .agg #[yI, yI, yI, yI, yI, yI, yI]⟩,
  ⟨186, Tryz.t185.desc, 25, 184, .agg #[yU, yU, yW, yH, yH, yU, yW, yB, yU, yU, yS, yI, yI, yI, yU, yU, yW, yH, yH, yU, yW, yB, yU, yU, yS]⟩,
  ⟨51, Tryz.t50.desc, 3, 24, .agg #[yB, yI, yI]⟩,
  ⟨174, Tryz.t174.desc, 1, 24, yS⟩,
  ⟨215, Tryz.t214.desc, 14, 104, .agg #[yU, yW, yI, yU, yU, yW, yH, yH, yU, yW, yB, yU, yU, yS]⟩,
  ⟨78, Tryz.t78.desc, 1, 8, .pointer none⟩,
  ⟨9, Tryz.t9.desc, 1, 16, .string (⟨#[]⟩ : ByteArray)⟩,
  ⟨210, Tryz.t209.desc, 3, 24, .agg #[yU, yI, yI]⟩,
  ⟨34, Tryz.t34.desc, 1, 24, yS⟩,
  ⟨75, Tryz.t75.desc, 1, 24, yS⟩,
  ⟨176, Tryz.t175.desc, 4, 48, .agg #[yU, yI, yI, yS]⟩,
  ⟨74, Tryz.t73.desc, 1, 24, .agg #[yS]⟩,
  ⟨193, Tryz.t193.desc, 1, 24, yS⟩,
  ⟨52, Tryz.t3.desc, 1, 8, yI⟩,
  ⟨77, Tryz.t76.desc, 2, 32, .agg #[yS, .pointer none]⟩,
  ⟨127, Tryz.t126.desc, 1, 24, .agg #[yS]⟩,
  ⟨168, Tryz.t168.desc, 1, 8, .pointer none⟩,
  ⟨179, Tryz.t178.desc, 2, 32, .agg #[yS, yI]⟩,
  ⟨195, Tryz.t194.desc, 5, 72, .agg #[yI, yI, yU, yS, yS]⟩,
  ⟨284, Tryz.t283.desc, 5, 40, .agg #[yF, yU, yI, yI, yI]⟩,
  ⟨130, Tryz.t129.desc, 1, 24, .agg #[yS]⟩,
  ⟨222, Tryz.t221.desc, 2, 24, .agg #[.pointer none, yN]⟩,
  ⟨111, Tryz.t110.desc, 2, 32, .agg #[yS, yI]⟩,
  ⟨29, Tryz.t3.desc, 1, 8, yI⟩,
  ⟨82, Tryz.t82.desc, 1, 8, .pointer none⟩,
  ⟨107, Tryz.t107.desc, 1, 24, yS⟩,
  ⟨149, Tryz.t3.desc, 1, 8, yI⟩,
  ⟨30, Tryz.t30.desc, 1, 24, yS⟩,
  ⟨180, Tryz.t180.desc, 1, 8, .chan none⟩,
  ⟨244, Tryz.t243.desc, 3, 24, .agg #[yI, yU, yU]⟩,
  ⟨109, Tryz.t108.desc, 2, 32, .agg #[yS, .pointer none]⟩,
  ⟨113, Tryz.t113.desc, 1, 8, .pointer none⟩,
  ⟨119, Tryz.t119.desc, 1, 8, .map none⟩,
  ⟨66, Tryz.t66.desc, 1, 24, yS⟩,
  ⟨71, Tryz.t71.desc, 1, 8, .pointer none⟩,
  ⟨116, Tryz.t116.desc, 1, 8, .pointer none⟩,
  ⟨146, Tryz.t146.desc, 1, 24, yS⟩,
  ⟨182, Tryz.t181.desc, 2, 16, .agg #[.chan none, .chan none]⟩,
  ⟨80, Tryz.t80.desc, 1, 8, .pointer none⟩,
  ⟨118, Tryz.t118.desc, 1, 8, .pointer none⟩,
  ⟨157, Tryz.t156.desc, 3, 24, .agg #[.pointer none, .pointer none, yU]⟩,
  ⟨220, Tryz.t219.desc, 1, 16, yN⟩,
  ⟨114, Tryz.t114.desc, 1, 8, .pointer none⟩,
  ⟨117, Tryz.t117.desc, 1, 8, .pointer none⟩,
  ⟨105, Tryz.t105.desc, 1, 8, .pointer none⟩,
  ⟨115, Tryz.t115.desc, 1, 8, .pointer none⟩,
  ⟨167, Tryz.t3.desc, 1, 8, yI⟩,
  ⟨211, Tryz.t211.desc, 1, 8, .pointer none⟩,
  ⟨257, Tryz.t257.desc, 1, 8, .map none⟩,
  ⟨2, Tryz.t2.desc, 1, 8, yI⟩,
  ⟨24, Tryz.t24.desc, 1, 8, .pointer none⟩,
  ⟨162, Tryz.t5.desc, 1, 1, yB⟩,
  ⟨251, Tryz.t251.desc, 1, 8, .pointer none⟩,
  ⟨255, Tryz.t254.desc, 2, 16, .agg #[.pointer none, .pointer none]⟩,
  ⟨256, Tryz.t256.desc, 1, 8, .pointer none⟩,
  ⟨259, Tryz.t258.desc, 4, 32, .agg #[.map none, yI, .pointer none, .pointer none]⟩,
  ⟨260, Tryz.t260.desc, 1, 8, .pointer none⟩,
  ⟨261, Tryz.t261.desc, 1, 8, .map none⟩,
  ⟨263, Tryz.t262.desc, 4, 32, .agg #[.map none, yI, yI, .pointer none]⟩,
  ⟨290, Tryz.t289.desc, 2, 32, .agg #[.pointer none, yS]⟩,
  ⟨296, Tryz.t295.desc, 2, 48, .agg #[yS, yS]⟩,
  ⟨17, Tryz.t17.desc, 1, 8, .pointer none⟩,
  ⟨20, Tryz.t20.desc, 1, 16, yN⟩,
  ⟨155, Tryz.t12.desc, 1, 8, yU⟩,
  ⟨160, Tryz.t159.desc, 1, 16, yN⟩,
  ⟨252, Tryz.t252.desc, 1, 8, .pointer none⟩,
  ⟨286, Tryz.t286.desc, 1, 8, .pointer none⟩,
  ⟨288, Tryz.t288.desc, 1, 24, yS⟩,
  ⟨327, Tryz.t327.desc, 1, 24, yS⟩,
  ⟨329, Tryz.t328.desc, 3, 40, .agg #[yI, yS, yF]⟩,
  ⟨335, Tryz.t335.desc, 1, 24, yS⟩,
  ⟨339, Tryz.t338.desc, 6, 48, .agg #[.string (⟨#[]⟩ : ByteArray), yU, yW, yB, yU, yB]⟩]
theorem tbOk : TabOk Tryz.prog tb := ⟨
  ⟨by kernel_rfl, Tryz.t3, by kernel_rfl, by kernel_rfl, by kernel_rfl, by kernel_rfl⟩,
  ⟨by kernel_rfl, Tryz.t46, by kernel_rfl, by kernel_rfl, by kernel_rfl, by kernel_rfl⟩,
  ⟨by kernel_rfl, Tryz.t39, by kernel_rfl, by kernel_rfl, by kernel_rfl, by kernel_rfl⟩,
  ⟨by kernel_rfl, Tryz.t36, by kernel_rfl, by kernel_rfl, by kernel_rfl, by kernel_rfl⟩,
  ⟨by kernel_rfl, Tryz.t22, by kernel_rfl, by kernel_rfl, by kernel_rfl, by kernel_rfl⟩,
  ⟨by kernel_rfl, Tryz.t121, by kernel_rfl, by kernel_rfl, by kernel_rfl, by kernel_rfl⟩,
  ⟨by kernel_rfl, Tryz.t94, by kernel_rfl, by kernel_rfl, by kernel_rfl, by kernel_rfl⟩,
  ⟨by kernel_rfl, Tryz.t55, by kernel_rfl, by kernel_rfl, by kernel_rfl, by kernel_rfl⟩,
  ⟨by kernel_rfl, Tryz.t4, by kernel_rfl, by kernel_rfl, by kernel_rfl, by kernel_rfl⟩,
  ⟨by kernel_rfl, Tryz.t72, by kernel_rfl, by kernel_rfl, by kernel_rfl, by kernel_rfl⟩,
  ⟨by kernel_rfl, Tryz.t5, by kernel_rfl, by kernel_rfl, by kernel_rfl, by kernel_rfl⟩,
  ⟨by kernel_rfl, Tryz.t44, by kernel_rfl, by kernel_rfl, by kernel_rfl, by kernel_rfl⟩,
  ⟨by kernel_rfl, Tryz.t26, by kernel_rfl, by kernel_rfl, by kernel_rfl, by kernel_rfl⟩,
  ⟨by kernel_rfl, Tryz.t37, by kernel_rfl, by kernel_rfl, by kernel_rfl, by kernel_rfl⟩,
  ⟨by kernel_rfl, Tryz.t245, by kernel_rfl, by kernel_rfl, by kernel_rfl, by kernel_rfl⟩,
  ⟨by kernel_rfl, Tryz.t125, by kernel_rfl, by kernel_rfl, by kernel_rfl, by kernel_rfl⟩,
  ⟨by kernel_rfl, Tryz.t128, by kernel_rfl, by kernel_rfl, by kernel_rfl, by kernel_rfl⟩,
  ⟨by kernel_rfl, Tryz.t177, by kernel_rfl, by kernel_rfl, by kernel_rfl, by kernel_rfl⟩,
  ⟨by kernel_rfl, Tryz.t225, by kernel_rfl, by kernel_rfl, by kernel_rfl, by kernel_rfl⟩,
  ⟨by kernel_rfl, Tryz.t247, by kernel_rfl, by kernel_rfl, by kernel_rfl, by kernel_rfl⟩,
  ⟨by kernel_rfl, Tryz.t32, by kernel_rfl, by kernel_rfl, by kernel_rfl, by kernel_rfl⟩,
  ⟨by kernel_rfl, Tryz.t186, by kernel_rfl, by kernel_rfl, by kernel_rfl, by kernel_rfl⟩,
  ⟨by kernel_rfl, Tryz.t51, by kernel_rfl, by kernel_rfl, by kernel_rfl, by kernel_rfl⟩,
  ⟨by kernel_rfl, Tryz.t174, by kernel_rfl, by kernel_rfl, by kernel_rfl, by kernel_rfl⟩,
  ⟨by kernel_rfl, Tryz.t215, by kernel_rfl, by kernel_rfl, by kernel_rfl, by kernel_rfl⟩,
  ⟨by kernel_rfl, Tryz.t78, by kernel_rfl, by kernel_rfl, by kernel_rfl, by kernel_rfl⟩,
  ⟨by kernel_rfl, Tryz.t9, by kernel_rfl, by kernel_rfl, by kernel_rfl, by kernel_rfl⟩,
  ⟨by kernel_rfl, Tryz.t210, by kernel_rfl, by kernel_rfl, by kernel_rfl, by kernel_rfl⟩,
  ⟨by kernel_rfl, Tryz.t34, by kernel_rfl, by kernel_rfl, by kernel_rfl, by kernel_rfl⟩,
  ⟨by kernel_rfl, Tryz.t75, by kernel_rfl, by kernel_rfl, by kernel_rfl, by kernel_rfl⟩,
  ⟨by kernel_rfl, Tryz.t176, by kernel_rfl, by kernel_rfl, by kernel_rfl, by kernel_rfl⟩,
  ⟨by kernel_rfl, Tryz.t74, by kernel_rfl, by kernel_rfl, by kernel_rfl, by kernel_rfl⟩,
  ⟨by kernel_rfl, Tryz.t193, by kernel_rfl, by kernel_rfl, by kernel_rfl, by kernel_rfl⟩,
  ⟨by kernel_rfl, Tryz.t52, by kernel_rfl, by kernel_rfl, by kernel_rfl, by kernel_rfl⟩,
  ⟨by kernel_rfl, Tryz.t77, by kernel_rfl, by kernel_rfl, by kernel_rfl, by kernel_rfl⟩,
  ⟨by kernel_rfl, Tryz.t127, by kernel_rfl, by kernel_rfl, by kernel_rfl, by kernel_rfl⟩,
  ⟨by kernel_rfl, Tryz.t168, by kernel_rfl, by kernel_rfl, by kernel_rfl, by kernel_rfl⟩,
  ⟨by kernel_rfl, Tryz.t179, by kernel_rfl, by kernel_rfl, by kernel_rfl, by kernel_rfl⟩,
  ⟨by kernel_rfl, Tryz.t195, by kernel_rfl, by kernel_rfl, by kernel_rfl, by kernel_rfl⟩,
  ⟨by kernel_rfl, Tryz.t284, by kernel_rfl, by kernel_rfl, by kernel_rfl, by kernel_rfl⟩,
  ⟨by kernel_rfl, Tryz.t130, by kernel_rfl, by kernel_rfl, by kernel_rfl, by kernel_rfl⟩,
  ⟨by kernel_rfl, Tryz.t222, by kernel_rfl, by kernel_rfl, by kernel_rfl, by kernel_rfl⟩,
  ⟨by kernel_rfl, Tryz.t111, by kernel_rfl, by kernel_rfl, by kernel_rfl, by kernel_rfl⟩,
  ⟨by kernel_rfl, Tryz.t29, by kernel_rfl, by kernel_rfl, by kernel_rfl, by kernel_rfl⟩,
  ⟨by kernel_rfl, Tryz.t82, by kernel_rfl, by kernel_rfl, by kernel_rfl, by kernel_rfl⟩,
  ⟨by kernel_rfl, Tryz.t107, by kernel_rfl, by kernel_rfl, by kernel_rfl, by kernel_rfl⟩,
  ⟨by kernel_rfl, Tryz.t149, by kernel_rfl, by kernel_rfl, by kernel_rfl, by kernel_rfl⟩,
  ⟨by kernel_rfl, Tryz.t30, by kernel_rfl, by kernel_rfl, by kernel_rfl, by kernel_rfl⟩,
  ⟨by kernel_rfl, Tryz.t180, by kernel_rfl, by kernel_rfl, by kernel_rfl, by kernel_rfl⟩,
  ⟨by kernel_rfl, Tryz.t244, by kernel_rfl, by kernel_rfl, by kernel_rfl, by kernel_rfl⟩,
  ⟨by kernel_rfl, Tryz.t109, by kernel_rfl, by kernel_rfl, by kernel_rfl, by kernel_rfl⟩,
  ⟨by kernel_rfl, Tryz.t113, by kernel_rfl, by kernel_rfl, by kernel_rfl, by kernel_rfl⟩,
  ⟨by kernel_rfl, Tryz.t119, by kernel_rfl, by kernel_rfl, by kernel_rfl, by kernel_rfl⟩,
  ⟨by kernel_rfl, Tryz.t66, by kernel_rfl, by kernel_rfl, by kernel_rfl, by kernel_rfl⟩,
  ⟨by kernel_rfl, Tryz.t71, by kernel_rfl, by kernel_rfl, by kernel_rfl, by kernel_rfl⟩,
  ⟨by kernel_rfl, Tryz.t116, by kernel_rfl, by kernel_rfl, by kernel_rfl, by kernel_rfl⟩,
  ⟨by kernel_rfl, Tryz.t146, by kernel_rfl, by kernel_rfl, by kernel_rfl, by kernel_rfl⟩,
  ⟨by kernel_rfl, Tryz.t182, by kernel_rfl, by kernel_rfl, by kernel_rfl, by kernel_rfl⟩,
  ⟨by kernel_rfl, Tryz.t80, by kernel_rfl, by kernel_rfl, by kernel_rfl, by kernel_rfl⟩,
  ⟨by kernel_rfl, Tryz.t118, by kernel_rfl, by kernel_rfl, by kernel_rfl, by kernel_rfl⟩,
  ⟨by kernel_rfl, Tryz.t157, by kernel_rfl, by kernel_rfl, by kernel_rfl, by kernel_rfl⟩,
  ⟨by kernel_rfl, Tryz.t220, by kernel_rfl, by kernel_rfl, by kernel_rfl, by kernel_rfl⟩,
  ⟨by kernel_rfl, Tryz.t114, by kernel_rfl, by kernel_rfl, by kernel_rfl, by kernel_rfl⟩,
  ⟨by kernel_rfl, Tryz.t117, by kernel_rfl, by kernel_rfl, by kernel_rfl, by kernel_rfl⟩,
  ⟨by kernel_rfl, Tryz.t105, by kernel_rfl, by kernel_rfl, by kernel_rfl, by kernel_rfl⟩,
  ⟨by kernel_rfl, Tryz.t115, by kernel_rfl, by kernel_rfl, by kernel_rfl, by kernel_rfl⟩,
  ⟨by kernel_rfl, Tryz.t167, by kernel_rfl, by kernel_rfl, by kernel_rfl, by kernel_rfl⟩,
  ⟨by kernel_rfl, Tryz.t211, by kernel_rfl, by kernel_rfl, by kernel_rfl, by kernel_rfl⟩,
  ⟨by kernel_rfl, Tryz.t257, by kernel_rfl, by kernel_rfl, by kernel_rfl, by kernel_rfl⟩,
  ⟨by kernel_rfl, Tryz.t2, by kernel_rfl, by kernel_rfl, by kernel_rfl, by kernel_rfl⟩,
  ⟨by kernel_rfl, Tryz.t24, by kernel_rfl, by kernel_rfl, by kernel_rfl, by kernel_rfl⟩,
  ⟨by kernel_rfl, Tryz.t162, by kernel_rfl, by kernel_rfl, by kernel_rfl, by kernel_rfl⟩,
  ⟨by kernel_rfl, Tryz.t251, by kernel_rfl, by kernel_rfl, by kernel_rfl, by kernel_rfl⟩,
  ⟨by kernel_rfl, Tryz.t255, by kernel_rfl, by kernel_rfl, by kernel_rfl, by kernel_rfl⟩,
  ⟨by kernel_rfl, Tryz.t256, by kernel_rfl, by kernel_rfl, by kernel_rfl, by kernel_rfl⟩,
  ⟨by kernel_rfl, Tryz.t259, by kernel_rfl, by kernel_rfl, by kernel_rfl, by kernel_rfl⟩,
  ⟨by kernel_rfl, Tryz.t260, by kernel_rfl, by kernel_rfl, by kernel_rfl, by kernel_rfl⟩,
  ⟨by kernel_rfl, Tryz.t261, by kernel_rfl, by kernel_rfl, by kernel_rfl, by kernel_rfl⟩,
  ⟨by kernel_rfl, Tryz.t263, by kernel_rfl, by kernel_rfl, by kernel_rfl, by kernel_rfl⟩,
  ⟨by kernel_rfl, Tryz.t290, by kernel_rfl, by kernel_rfl, by kernel_rfl, by kernel_rfl⟩,
  ⟨by kernel_rfl, Tryz.t296, by kernel_rfl, by kernel_rfl, by kernel_rfl, by kernel_rfl⟩,
  ⟨by kernel_rfl, Tryz.t17, by kernel_rfl, by kernel_rfl, by kernel_rfl, by kernel_rfl⟩,
  ⟨by kernel_rfl, Tryz.t20, by kernel_rfl, by kernel_rfl, by kernel_rfl, by kernel_rfl⟩,
  ⟨by kernel_rfl, Tryz.t155, by kernel_rfl, by kernel_rfl, by kernel_rfl, by kernel_rfl⟩,
  ⟨by kernel_rfl, Tryz.t160, by kernel_rfl, by kernel_rfl, by kernel_rfl, by kernel_rfl⟩,
  ⟨by kernel_rfl, Tryz.t252, by kernel_rfl, by kernel_rfl, by kernel_rfl, by kernel_rfl⟩,
  ⟨by kernel_rfl, Tryz.t286, by kernel_rfl, by kernel_rfl, by kernel_rfl, by kernel_rfl⟩,
  ⟨by kernel_rfl, Tryz.t288, by kernel_rfl, by kernel_rfl, by kernel_rfl, by kernel_rfl⟩,
  ⟨by kernel_rfl, Tryz.t327, by kernel_rfl, by kernel_rfl, by kernel_rfl, by kernel_rfl⟩,
  ⟨by kernel_rfl, Tryz.t329, by kernel_rfl, by kernel_rfl, by kernel_rfl, by kernel_rfl⟩,
  ⟨by kernel_rfl, Tryz.t335, by kernel_rfl, by kernel_rfl, by kernel_rfl, by kernel_rfl⟩,
  ⟨by kernel_rfl, Tryz.t339, by kernel_rfl, by kernel_rfl, by kernel_rfl, by kernel_rfl⟩,
  trivial⟩
section
variable {ops : Array Oper} {Q : Exit → Act → World → Prop} {K : (World → Prop) → Act → World → Prop} {S : World → Prop} {fins : List Nat} {r : List (Nat × Bool)} {a : Act} {w w0 : World} {n d : Nat} {e : Env} {o : Oper} {rest : List Oper} {L : List Chunk}
theorem zR {l : List Oper} (k : Nat) (e' : Env) (hA : Has a n e) (h : runE tb ops n (l.take k) e = some e') (c : ∀ a', Has a' n e' → wpList Tryz.prog ops Q (l.drop k) a' w) : wpList Tryz.prog ops Q l a w := st_run tbOk k hA h c
theorem zW {l : List (Nat × Bool)} (k : Nat) (e' : Env) (hA : Has a n e) (hS : S w) (h : runH tb ops n (l.take k) e = some e') (c : ∀ a', Has a' n e' → wpS Tryz.prog ops Q K S fins (l.drop k) a' w) : wpS Tryz.prog ops Q K S fins l a w := dr_run tbOk k hA hS h c
theorem zL (hA : Has a n e) (hS : St w0 w L) (q : Nat) {b off T T' : Nat} {i : TI} {x : Operand} {l : List Value} {C : Chunk} {v : Value} (hw : wantE ops e o.guard = some true) (hd : o.dst = some d) (hdn : Nat.ble (d + 1) n = true) (ho : o.op = .load T x) (hx : ev e x = some (.pointer (some ⟨b, off, none⟩))) (hi : lkT tb T = some i) (hg : isAggD i.desc = false) (hL : L[q]? = some ((b, rowO l T') :: C)) (hv : l[off]? = some v) (c : ∀ a', Has a' n ((d, v) :: e) → wpList Tryz.prog ops Q rest a' w) : wpList Tryz.prog ops Q (o :: rest) a w :=
  st_val hA hw hd (zle hdn) (rn_load tbOk hA ho hx hi hg (cell_row (hS.heapAt q hL) hv)) c
theorem zLA (hA : Has a n e) (hS : St w0 w L) (q : Nat) (cs : List Value) {b off T T' : Nat} {i : TI} {x : Operand} {l : List Value} {C : Chunk} (hw : wantE ops e o.guard = some true) (hd : o.dst = some d) (hdn : Nat.ble (d + 1) n = true) (ho : o.op = .load T x) (hx : ev e x = some (.pointer (some ⟨b, off, none⟩))) (hi : lkT tb T = some i) (hg : isAggD i.desc = true) (hl : cs.length = i.size) (hL : L[q]? = some ((b, rowO l T') :: C)) (hc : (l.drop off).take cs.length = cs) (c : ∀ a', Has a' n ((d, .agg cs.toArray) :: e) → wpList Tryz.prog ops Q rest a' w) : wpList Tryz.prog ops Q (o :: rest) a w :=
  st_val hA hw hd (zle hdn) (rn_loadA tbOk hA cs ho hx hi hg hl (cells_row (hS.heapAt q hL) hc)) c
theorem zY (hA : Has a n e) (hS : St w0 w L) (q : Nat) {j : Nat} {b off T T' : Nat} {i : TI} {x : Operand} {l : List Value} {C : Chunk} {v : Value} (hj : ops[j]? = some o) (hw : wantE ops e o.guard = some true) (hd : o.dst = some d) (hdn : Nat.ble (d + 1) n = true) (ho : o.op = .load T x) (hx : ev e x = some (.pointer (some ⟨b, off, none⟩))) (hi : lkT tb T = some i) (hg : isAggD i.desc = false) (hL : L[q]? = some ((b, rowO l T') :: C)) (hv : l[off]? = some v) (k : ∀ a', Has a' n ((d, v) :: e) → wpS Tryz.prog ops Q K (fun w' => St w0 w' L) fins r a' w) : wpS Tryz.prog ops Q K (fun w' => St w0 w' L) fins ((j, true) :: r) a w :=
  dr_y hA hj hw hd (zle hdn) hS (fun w' hS' => rn_load tbOk hA ho hx hi hg (cell_row (hS'.heapAt q hL) hv)) k
theorem zYA (hA : Has a n e) (hS : St w0 w L) (q : Nat) (cs : List Value) {j : Nat} {b off T T' : Nat} {i : TI} {x : Operand} {l : List Value} {C : Chunk} (hj : ops[j]? = some o) (hw : wantE ops e o.guard = some true) (hd : o.dst = some d) (hdn : Nat.ble (d + 1) n = true) (ho : o.op = .load T x) (hx : ev e x = some (.pointer (some ⟨b, off, none⟩))) (hi : lkT tb T = some i) (hg : isAggD i.desc = true) (hl : cs.length = i.size) (hL : L[q]? = some ((b, rowO l T') :: C)) (hc : (l.drop off).take cs.length = cs) (k : ∀ a', Has a' n ((d, .agg cs.toArray) :: e) → wpS Tryz.prog ops Q K (fun w' => St w0 w' L) fins r a' w) : wpS Tryz.prog ops Q K (fun w' => St w0 w' L) fins ((j, true) :: r) a w :=
  dr_y hA hj hw hd (zle hdn) hS (fun w' hS' => rn_loadA tbOk hA cs ho hx hi hg hl (cells_row (hS'.heapAt q hL) hc)) k
end
end Go.Proofs.YthiakdmhpfkjbaaGreatDoor
