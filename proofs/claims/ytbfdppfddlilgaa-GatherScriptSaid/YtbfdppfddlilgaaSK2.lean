import Derived.Test.YtbfdppfddlilgaaSK1
set_option linter.unusedVariables false
set_option linter.unusedSimpArgs false
namespace Go.SK
open Go

/-! ### 3. Operations that only compute -/
def pureInt (op : BinOp) (k : IntKind) (x y : Int) : Option Value :=
  match op with
  | .add => some (.int k (k.wrap (x + y)))
  | .sub => some (.int k (k.wrap (x - y)))
  | .mul => some (.int k (k.wrap (x * y)))
  | .eql => some (.bool (x == y))
  | .neq => some (.bool (x != y))
  | .lss => some (.bool (x < y))
  | .leq => some (.bool (x ≤ y))
  | .gtr => some (.bool (x > y))
  | .geq => some (.bool (x ≥ y))
  | .quo => if y = 0 then none else some (.int k (k.wrap (x.tdiv y)))
  | .rem => if y = 0 then none else some (.int k (x.tmod y))
  | _ => none

def isIface : TypeDesc → Bool
  | .interface _ => true
  | _ => false
def isBoolD : TypeDesc → Bool
  | .bool => true
  | _ => false
def isSliceD : TypeDesc → Bool
  | .slice _ => true
  | _ => false
def isStringD : TypeDesc → Bool
  | .string => true
  | _ => false
def isPtrD : TypeDesc → Bool
  | .pointer _ => true
  | _ => false
def isIntD : TypeDesc → Bool
  | .int _ => true
  | _ => false
def descIs (tb : List TI) (f : TypeDesc → Bool) (t : TypeId) : Bool := match lkT tb t with | some i => f i.desc | none => false
def isLit : Operand → Bool
  | .const _ => true
  | _ => false

def pureBin (tb : List TI) (op : BinOp) (lit : Bool) (t : TypeId) (x y : Value) : Option Value :=
  match x, y with
  | .int k a, .int k' b => if k = k' then pureInt op k a b else none
  | .bool a, .bool b => bif descIs tb isBoolD t then (match op with | .eql => some (.bool (a == b)) | .neq => some (.bool (!(a == b))) | _ => none) else none
  | .string a, .string b => (match op with | .eql => some (.bool (a.toList == b.toList)) | .neq => some (.bool (!(a.toList == b.toList))) | _ => none)
  | .iface _ _, .nilIface => bif descIs tb isIface t then (match op with | .eql => some (.bool false) | .neq => some (.bool true) | _ => none) else none
  | .nilIface, .nilIface => bif lit && descIs tb isIface t then (match op with | .eql => some (.bool true) | .neq => some (.bool false) | _ => none) else none
  | .slice a _ _, .slice none _ _ => bif descIs tb isSliceD t then (match op with | .eql => some (.bool a.isNone) | .neq => some (.bool (!a.isNone)) | _ => none) else none
  | .pointer a, .pointer none => bif descIs tb isPtrD t then (match op with | .eql => some (.bool a.isNone) | .neq => some (.bool (!a.isNone)) | _ => none) else none
  | _, _ => none

def fieldOff (tb : List TI) (s f : Nat) : Option Nat :=
  match lkT tb s with
  | some i => match i.desc with
    | .struct fs => match fs[f]? with
      | some fl => match lkT tb fl.type with
        | some j => if j.size = 0 then none else some fl.offset
        | none => none
      | none => none
    | _ => none
  | none => none

def pureField (tb : List TI) (s f : Nat) (cs : Array Value) : Option Value :=
  match lkT tb s with
  | some i => match i.desc with
    | .struct fs => match fs[f]? with
      | some fl => match lkT tb fl.type with
        | some j => bif isAggD j.desc then some (.agg (cs.extract fl.offset (fl.offset + j.size))) else cs[fl.offset]?
        | none => none
      | none => none
    | _ => none
  | none => none

def placesOf (tb : List TI) : List Field → Option (List (Nat × Nat))
  | [] => some []
  | f :: r => match lkT tb f.type, placesOf tb r with
    | some j, some ps => some ((f.offset, j.size) :: ps)
    | _, _ => none

def evps (e : Env) : List (Nat × Operand) → Option (List (Nat × Value))
  | [] => some []
  | (i, x) :: xs => match ev e x, evps e xs with
    | some v, some r => some ((i, v) :: r)
    | _, _ => none

def pureBuild (tb : List TI) (t : Nat) (parts : List (Nat × Value)) : Option Value :=
  match lkT tb t with
  | some i => match i.desc with
    | .struct fs => match placesOf tb fs.toList with
      | some ps => (Instr.fill (fun j => ps[j]?) i.zero.cells parts).map .agg
      | none => none
    | _ => none
  | none => none

def pureBuiltin (tb : List TI) (b : Builtin) (ts : List Nat) (vs : List Value) : Option Value :=
  match b, ts, vs with
  | .len, [t], [.slice _ n _] => bif descIs tb isSliceD t then some (.int .i64 n) else none
  | .len, [t], [.string s] => bif descIs tb isStringD t then some (.int .i64 s.size) else none
  | .cap, [t], [.slice _ _ c] => bif descIs tb isSliceD t then some (.int .i64 c) else none
  | .max, _, [.int k x, .int _ y] => some (.int k (if y > x then y else x))
  | .min, _, [.int k x, .int _ y] => some (.int k (if y < x then y else x))
  | _, _, _ => none

def pureOp (tb : List TI) (e : Env) : Op → Option Value
  | .move x => ev e x
  | .assign x => ev e x
  | .pick c x y => match ev e c with
    | some (.bool true) => ev e x
    | some (.bool false) => ev e y
    | _ => none
  | .extract t i => match ev e t with
    | some (.tuple vs) => vs[i]?
    | _ => none
  | .makeFunc fn first cap => match evs e first.toList, evs e cap.toList with
    | some f, some c => some (.func fn f.toArray c.toArray)
    | _, _ => none
  | .unOp .not _ x => match ev e x with
    | some (.bool b) => some (.bool (!b))
    | _ => none
  | .unOp .neg _ x => match ev e x with
    | some (.int k m) => some (.int k (k.wrap (0 - m)))
    | _ => none
  | .binOp op t x y _ => match ev e x, ev e y with
    | some u, some v => pureBin tb op (isLit x || isLit y) t u v
    | _, _ => none
  | .makeInterface t x => match lkT tb t with
    | some i => bif isIface i.desc then none else (ev e x).map (.iface t)
    | none => none
  | .fieldAddr s x f => match ev e x with
    | some (.pointer (some ⟨b, off, none⟩)) => (fieldOff tb s f).map fun k => .pointer (some ⟨b, off + k, none⟩)
    | _ => none
  | .field s x f => match ev e x with
    | some (.agg cs) => pureField tb s f cs
    | _ => none
  | .convert src dst x => match ev e x, lkT tb src, lkT tb dst with
    | some (.int _ m), some i, some j => match i.desc, j.desc with
      | .int _, .int k => some (.int k (k.wrap m))
      | _, _ => none
    | _, _, _ => none
  | .build t parts => match evps e parts.toList with
    | some vs => pureBuild tb t vs
    | none => none
  | .nilCheck x => match ev e x with
    | some (.pointer (some p)) => some (.pointer (some p))
    | _ => none
  | .call c => match c.callee with
    | .builtin b => match evs e c.args.toList with
      | some vs => pureBuiltin tb b c.argTypes.toList vs
      | none => none
    | _ => none
  | _ => none

section
variable {P : Program} {tb : List TI}
theorem descIs_spec (hT : TabOk P tb) {f : TypeDesc → Bool} {t : Nat} (h : descIs tb f t = true) : ∃ d, P.underlying t = some d ∧ f d = true := by
  unfold descIs at h
  split at h
  · rename_i i hi
    obtain ⟨ht, hok⟩ := hT.at_ hi
    exact ⟨i.desc, ht ▸ hok.1, h⟩
  · cases h

theorem evps_spec {a : Act} {n : Nat} {e : Env} (hA : Has a n e) : ∀ {xs : List (Nat × Operand)} {vs : List (Nat × Value)}, evps e xs = some vs → xs.map (fun p => (p.1, a.eval p.2)) = vs
  | [], vs, h => by simp [evps] at h; simp [h]
  | (i, x) :: xs, vs, h => by
    simp only [evps] at h
    split at h
    · rename_i v r hv hr
      injection h with h
      subst h
      simp [hA.ev hv, evps_spec hA hr]
    · cases h

theorem pureInt_run (w : World) {op : BinOp} {k : IntKind} {x y : Int} {v : Value} (h : pureInt op k x y = some v) (t : TypeId) : (binOp op t (.int k x) (.int k y)).run P w = .ok v w := by
  cases op <;> simp only [pureInt] at h
  case quo =>
    split at h
    · cases h
    · rename_i hy; injection h with h; subst h; simp [binOp, Op.intDiv, hy]
  case rem =>
    split at h
    · cases h
    · rename_i hy; injection h with h; subst h; simp [binOp, Op.intDiv, hy]
  all_goals first
    | (cases h; done)
    | (injection h with h; subst h; simp [binOp, Op.intArith, Op.intCmp])


theorem eqIn_ifv (w : World) (d : Nat) {t u : TypeId} {x : Value} {ms : Array (String × TypeId)} (hm : P.underlying t = some (.interface ms)) : (Op.equalIn (d + 1) t (.iface u x) .nilIface).run P w = .ok false w := by simp [Op.equalIn, run_underlying hm]
theorem eqIn_nn (w : World) (d : Nat) {t : TypeId} {ms : Array (String × TypeId)} (hm : P.underlying t = some (.interface ms)) : (Op.equalIn (d + 1) t .nilIface .nilIface).run P w = .ok true w := by simp [Op.equalIn, run_underlying hm]
theorem eqIn_sl (w : World) (d : Nat) {t m : TypeId} (a : Option Addr) (n c n' c' : Nat) (hm : P.underlying t = some (.slice m)) : (Op.equalIn (d + 1) t (.slice a n c) (.slice none n' c')).run P w = .ok a.isNone w := by cases a <;> simp [Op.equalIn, run_underlying hm]
theorem eqIn_pt (w : World) (d : Nat) {t m : TypeId} (a : Option Addr) (hm : P.underlying t = some (.pointer m)) : (Op.equalIn (d + 1) t (.pointer a) (.pointer none)).run P w = .ok a.isNone w := by cases a <;> simp [Op.equalIn, run_underlying hm]

theorem pureBin_run (hT : TabOk P tb) (w : World) {op : BinOp} {lit : Bool} {t : TypeId} {x y v : Value} (h : pureBin tb op lit t x y = some v) : (binOp op t x y).run P w = .ok v w := by
  unfold pureBin at h
  split at h
  · split at h
    · rename_i hk; subst hk; exact pureInt_run w h t
    · cases h
  · cases hd : descIs tb isBoolD t with
    | false => rw [hd] at h; cases h
    | true =>
      rw [hd] at h
      obtain ⟨d, hu, hf⟩ := descIs_spec hT hd
      have hu' : P.underlying t = some .bool := by cases d <;> first | exact hu | cases hf
      simp only [cond_true] at h
      split at h
      · injection h with h; subst h; exact run_eql_bool w t _ _ hu'
      · injection h with h; subst h; exact run_neq_bool w t _ _ hu'
      · cases h
  · split at h
    · injection h with h; subst h; simp [binOp, Op.stringOp]
    · injection h with h; subst h; simp [binOp, Op.stringOp]
    · cases h
  · cases hd : descIs tb isIface t with
    | false => rw [hd] at h; cases h
    | true =>
      rw [hd] at h
      obtain ⟨d, hu, hf⟩ := descIs_spec hT hd
      obtain ⟨ms, hm⟩ : ∃ ms, P.underlying t = some (.interface ms) := by cases d <;> first | exact ⟨_, hu⟩ | cases hf
      simp only [cond_true] at h
      split at h
      · injection h with h; subst h; simp only [binOp, Sem.run_bind, Op.equal, Op.maxDepth, eqIn_ifv w 9999 hm, Result.andThen_ok, Sem.run_pure]
      · injection h with h; subst h; simp only [binOp, Sem.run_bind, Op.equal, Op.maxDepth, eqIn_ifv w 9999 hm, Result.andThen_ok, Sem.run_pure, Bool.not_false]
      · cases h
  · cases hd : (lit && descIs tb isIface t) with
    | false => rw [hd] at h; cases h
    | true =>
      rw [hd] at h
      obtain ⟨d, hu, hf⟩ := descIs_spec hT (Bool.and_eq_true_iff.1 hd).2
      obtain ⟨ms, hm⟩ : ∃ ms, P.underlying t = some (.interface ms) := by cases d <;> first | exact ⟨_, hu⟩ | cases hf
      simp only [cond_true] at h
      split at h
      · injection h with h; subst h; simp only [binOp, Sem.run_bind, Op.equal, Op.maxDepth, eqIn_nn w 9999 hm, Result.andThen_ok, Sem.run_pure]
      · injection h with h; subst h; simp only [binOp, Sem.run_bind, Op.equal, Op.maxDepth, eqIn_nn w 9999 hm, Result.andThen_ok, Sem.run_pure, Bool.not_true]
      · cases h
  · cases hd : descIs tb isSliceD t with
    | false => rw [hd] at h; cases h
    | true =>
      rw [hd] at h
      obtain ⟨d, hu, hf⟩ := descIs_spec hT hd
      obtain ⟨ms, hm⟩ : ∃ ms, P.underlying t = some (.slice ms) := by cases d <;> first | exact ⟨_, hu⟩ | cases hf
      simp only [cond_true] at h
      split at h
      · injection h with h; subst h; simp only [binOp, Sem.run_bind, Op.equal, Op.maxDepth, eqIn_sl w 9999 _ _ _ _ _ hm, Result.andThen_ok, Sem.run_pure]
      · injection h with h; subst h; simp only [binOp, Sem.run_bind, Op.equal, Op.maxDepth, eqIn_sl w 9999 _ _ _ _ _ hm, Result.andThen_ok, Sem.run_pure]
      · cases h
  · cases hd : descIs tb isPtrD t with
    | false => rw [hd] at h; cases h
    | true =>
      rw [hd] at h
      obtain ⟨d, hu, hf⟩ := descIs_spec hT hd
      obtain ⟨ms, hm⟩ : ∃ ms, P.underlying t = some (.pointer ms) := by cases d <;> first | exact ⟨_, hu⟩ | cases hf
      simp only [cond_true] at h
      split at h
      · injection h with h; subst h; simp only [binOp, Sem.run_bind, Op.equal, Op.maxDepth, eqIn_pt w 9999 _ hm, Result.andThen_ok, Sem.run_pure]
      · injection h with h; subst h; simp only [binOp, Sem.run_bind, Op.equal, Op.maxDepth, eqIn_pt w 9999 _ hm, Result.andThen_ok, Sem.run_pure]
      · cases h
  · cases h

theorem eqGuard_run (w : World) {op : BinOp} {t : TypeId} {x y : Operand} {u v r : Value} (h : pureBin tb op (isLit x || isLit y) t u v = some r) : (eqGuard op t x y u v).run P w = .ok () w := by
  by_cases hn : u = .nilIface ∧ v = .nilIface
  · obtain ⟨rfl, rfl⟩ := hn
    have hd : (isLit x || isLit y) = true := by
      cases hd : (isLit x || isLit y) with
      | true => rfl
      | false => rw [hd] at h; simp [pureBin] at h
    unfold eqGuard
    cases op <;> (try rfl) <;> (cases x <;> cases y <;> first | rfl | (simp [isLit] at hd; done))
  · unfold eqGuard
    unfold pureBin at h
    split at h
    case h_5 => exact absurd ⟨rfl, rfl⟩ hn
    case h_8 => cases h
    all_goals (cases op <;> first | rfl | simp)

theorem places_spec (hT : TabOk P tb) (w : World) : ∀ {fs : List Field} {ps : List (Nat × Nat)}, placesOf tb fs = some ps →
    ((fs.mapM (fun f => (do pure (f.offset, ← Go.sizeOf f.type) : Sem (Nat × Nat)))).run P w = .ok ps w)
  | [], ps, h => by simp [placesOf] at h; subst h; simp
  | f :: fs, ps, h => by
    simp only [placesOf] at h
    split at h
    · rename_i j qs hj hq
      injection h with h
      subst h
      obtain ⟨ht, hok⟩ := hT.at_ hj
      have := hok.sizeOf w
      rw [ht] at this
      have ih := places_spec hT w hq
      simp only [List.mapM_cons, Sem.run_bind, this, Result.andThen_ok, Sem.run_pure, ih]
    · cases h

theorem pureOp_run (hT : TabOk P tb) {a : Act} {n : Nat} {e : Env} (hA : Has a n e) {o : Oper} {v : Value} (h : pureOp tb e o.op = some v) (w : World) : (execOp a.eval o).run P w = .ok (.value v) w := by
  obtain ⟨dst, op, ty, pos, af, g⟩ := o
  unfold execOp
  cases op <;> simp only [pureOp] at h
  case move x => simp [hA.ev h]
  case assign x => simp [hA.ev h]
  case pick c x y =>
    split at h
    · rename_i hc; simp [hA.ev hc, hA.ev h, asBool]
    · rename_i hc; simp [hA.ev hc, hA.ev h, asBool]
    · cases h
  case extract t i =>
    split at h
    · rename_i vs ht; simp [hA.ev ht, Instr.extract, h]
    · cases h
  case makeFunc fn first cap =>
    split at h
    · rename_i f c hf hc
      injection h with h; subst h
      have h1 := hA.evs hf
      have h2 := hA.evs hc
      have e1 : first.map a.eval = f.toArray := by rw [← h1]; apply Array.ext'; simp
      have e2 : cap.map a.eval = c.toArray := by rw [← h2]; apply Array.ext'; simp
      simp [Instr.makeFunc, e1, e2]
    · cases h
  case unOp u t x =>
    cases u <;> simp only [pureOp] at h <;> try (cases h; done)
    · split at h
      · rename_i hx; injection h with h; subst h; simp [hA.ev hx, Op.unary, Op.intArith]
      · cases h
    · split at h
      · rename_i hx; injection h with h; subst h; simp [hA.ev hx, Op.unary]
      · cases h
  case binOp op t x y yt =>
    split at h
    · rename_i u v' hx hy
      simp [hA.ev hx, hA.ev hy, eqGuard_run w h, pureBin_run hT w h]
    · cases h
  case makeInterface t x =>
    split at h
    · rename_i i hi
      obtain ⟨ht, hok⟩ := hT.at_ hi
      cases hd : isIface i.desc with
      | true => rw [hd] at h; cases h
      | false =>
        rw [hd] at h
        simp only [cond_false, Option.map_eq_some_iff] at h
        obtain ⟨u, hu, rfl⟩ := h
        have := hok.und w
        rw [ht] at this
        simp only [Instr.makeInterface, Sem.run_bind, this, Result.andThen_ok, hA.ev hu]
        cases hdd : i.desc <;> rw [hdd] at hd <;> first | rfl | cases hd
    · cases h
  case fieldAddr s x f =>
    split at h
    · rename_i b off hx
      simp only [Option.map_eq_some_iff] at h
      obtain ⟨k, hk, rfl⟩ := h
      unfold fieldOff at hk
      split at hk
      · rename_i i hi
        obtain ⟨ht, hok⟩ := hT.at_ hi
        split at hk
        · rename_i fs hfs
          split at hk
          · rename_i fl hfl
            split at hk
            · rename_i j hj
              obtain ⟨htj, hokj⟩ := hT.at_ hj
              split at hk
              · cases hk
              · rename_i hsz
                injection hk with hk; subst hk
                have h1 := hok.und w
                rw [ht, hfs] at h1
                have h2 := hokj.sizeOf w
                rw [htj] at h2
                have hadd : (⟨b, off, none⟩ : Addr).add fl.offset = ⟨b, off + fl.offset, none⟩ := by unfold Addr.add; split <;> simp_all
                simp [Instr.fieldAt, h1, hfl, Instr.sureAddr, hA.ev hx, fieldPlace, h2, hsz, hadd]
            · cases hk
          · cases hk
        · cases hk
      · cases hk
    · cases h
  case field s x f =>
    split at h
    · rename_i cs hx
      unfold pureField at h
      split at h
      · rename_i i hi
        obtain ⟨ht, hok⟩ := hT.at_ hi
        split at h
        · rename_i fs hfs
          split at h
          · rename_i fl hfl
            split at h
            · rename_i j hj
              obtain ⟨htj, hokj⟩ := hT.at_ hj
              have h1 := hok.und w
              rw [ht, hfs] at h1
              have h2 := hokj.sizeOf w
              rw [htj] at h2
              have h3 := hokj.isAgg w
              rw [htj] at h3
              cases hd : isAggD j.desc with
              | true =>
                rw [hd] at h h3
                simp only [cond_true, Option.some.injEq] at h
                subst h
                simp [Instr.field, h1, hfl, part, h3, h2, hA.ev hx, asAgg]
              | false =>
                rw [hd] at h h3
                simp only [cond_false] at h
                simp [Instr.field, h1, hfl, part, h3, hA.ev hx, asAgg, h]
            · cases h
          · cases h
        · cases h
      · cases h
    · cases h
  case convert src dst x =>
    split at h
    · rename_i k0 m i j hx hi hj
      obtain ⟨hti, hoki⟩ := hT.at_ hi
      obtain ⟨htj, hokj⟩ := hT.at_ hj
      split at h
      · rename_i k1 k hk1 hk
        injection h with h; subst h
        have h1 := hoki.und w
        rw [hti, hk1] at h1
        have h2 := hokj.und w
        rw [htj, hk] at h2
        simp [convert, h1, h2, hA.ev hx, Conv.intToInt]
      · cases h
    · cases h
  case build t parts =>
    split at h
    · rename_i vs hvs
      have hp := evps_spec hA hvs
      unfold pureBuild at h
      split at h
      · rename_i i hi
        obtain ⟨ht, hok⟩ := hT.at_ hi
        split at h
        · rename_i fs hfs
          split at h
          · rename_i ps hps
            simp only [Option.map_eq_some_iff] at h
            obtain ⟨cs, hcs, rfl⟩ := h
            have h1 := hok.und w
            rw [ht, hfs] at h1
            have h2 := hok.zeroValue w
            rw [ht] at h2
            have h3 := places_spec hT w hps
            have h4 : (parts.map fun x => (x.1, a.eval x.2)).toList = vs := by rw [← hp]; simp
            have h5 : (fs.mapM (fun f => (do pure (f.offset, ← Go.sizeOf f.type) : Sem (Nat × Nat)))).run P w = .ok ps.toArray w := by
              rw [← Array.toArray_toList (xs := fs), List.mapM_toArray]
              simp only [Sem.run_map, h3, Result.andThen_ok]
            simp only [Instr.build, Sem.run_bind, h2, h1, Result.andThen_ok, h5]
            rw [h4]
            have h6 : (fun x : Nat => ps.toArray[x]?) = (fun j : Nat => ps[j]?) := by funext j; simp
            simp only [h6, hcs]
            rfl
          · cases h
        · cases h
      · cases h
    · cases h
  case nilCheck x =>
    split at h
    · rename_i p hx; injection h with h; subst h; simp [hA.ev hx]
    · cases h
  case call c =>
    obtain ⟨callee, args, ts⟩ := c
    cases callee <;> simp only at h <;> try (cases h; done)
    rename_i b
    split at h
    · rename_i vs hvs
      have h1 := hA.evs hvs
      have h2 : args.map a.eval = vs.toArray := by rw [← h1]; apply Array.ext'; simp
      unfold pureBuiltin at h
      simp only [resolve, Sem.run_bind, Sem.run_pure, Result.andThen_ok, h2, invoke]
      split at h
      · rename_i t x m c hts
        cases hd : descIs tb isSliceD t with
        | false => rw [hd] at h; cases h
        | true =>
          rw [hd] at h
          simp only [cond_true, Option.some.injEq] at h
          subst h
          obtain ⟨d, hu, hf⟩ := descIs_spec hT hd
          obtain ⟨ms, hm⟩ : ∃ ms, P.underlying t = some (.slice ms) := by cases d <;> first | exact ⟨_, hu⟩ | cases hf
          have : ts = #[t] := by rw [← Array.toArray_toList (xs := ts), hts]
          subst this
          simp [builtin, Builtin.len_, run_underlying hm, goInt]
      · rename_i t s hts
        cases hd : descIs tb isStringD t with
        | false => rw [hd] at h; cases h
        | true =>
          rw [hd] at h
          simp only [cond_true, Option.some.injEq] at h
          subst h
          obtain ⟨d, hu, hf⟩ := descIs_spec hT hd
          have hm : P.underlying t = some .string := by cases d <;> first | exact hu | cases hf
          have : ts = #[t] := by rw [← Array.toArray_toList (xs := ts), hts]
          subst this
          simp [builtin, Builtin.len_, run_underlying hm, goInt]
      · rename_i t x m c hts
        cases hd : descIs tb isSliceD t with
        | false => rw [hd] at h; cases h
        | true =>
          rw [hd] at h
          simp only [cond_true, Option.some.injEq] at h
          subst h
          obtain ⟨d, hu, hf⟩ := descIs_spec hT hd
          obtain ⟨ms, hm⟩ : ∃ ms, P.underlying t = some (.slice ms) := by cases d <;> first | exact ⟨_, hu⟩ | cases hf
          have : ts = #[t] := by rw [← Array.toArray_toList (xs := ts), hts]
          subst this
          simp [builtin, Builtin.cap_, run_underlying hm, goInt]
      · injection h with h; subst h; simp [builtin, Builtin.max_, Builtin.max2]
      · injection h with h; subst h; simp [builtin, Builtin.min_, Builtin.min2]
      · cases h
    · cases h
  all_goals (cases h)
end
end Go.SK
