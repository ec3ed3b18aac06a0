import Derived.Test.YtbfdppfddlilgaaSK5
set_option linter.unusedVariables false
set_option linter.unusedSimpArgs false
namespace Go.SK
open Go

/-! ### 11. Regions whose order is open -/
/-- Does j wait for i, at whatever remove? -/
def waits (ops : Array Oper) : Nat → Nat → Nat → Bool
  | 0, _, _ => false
  | f + 1, j, i => match ops[j]? with
    | some o => o.after.any (fun ed => Region.binds .any ed && (ed.on == i || waits ops f ed.on i))
    | none => false

section
variable {P : Program} {tb : List TI} {ops : Array Oper} {Q : Exit → Act → World → Prop} {K : (World → Prop) → Act → World → Prop} {S : World → Prop} {fins : List Nat}

/-- What is listed has all listed that it waits for. -/
def Down (ops : Array Oper) (listed : Array Bool) : Prop := ∀ j o, ops[j]? = some o → listed.getD j false = true → ∀ ed ∈ o.after, Region.binds .any ed = true → listed.getD ed.on false = true

theorem waits_listed {listed : Array Bool} (hd : Down ops listed) : ∀ (f j i : Nat), waits ops f j i = true → (∀ o, ops[j]? = some o → ∀ ed ∈ o.after, Region.binds .any ed = true → listed.getD ed.on false = true) → listed.getD i false = true
  | 0, j, i, h, _ => by simp [waits] at h
  | f + 1, j, i, h, hj => by
    simp only [waits] at h
    split at h
    · rename_i o ho
      simp only [Array.any_eq_true'] at h
      obtain ⟨ed, hm, hb⟩ := h
      simp only [Bool.and_eq_true, Bool.or_eq_true, beq_iff_eq] at hb
      have hl := hj o ho ed hm hb.1
      rcases hb.2 with he | he
      · rw [← he]; exact hl
      · exact waits_listed hd f ed.on i he (fun o' ho' ed' hm' hb' => hd ed.on o' ho' hl ed' hm' hb')
    · cases h

theorem down_set {listed : Array Bool} (hd : Down ops listed) {i : Nat} (hr : i ∈ Region.ready .any ops listed) : Down ops (listed.setIfInBounds i true) := by
  intro j o ho hl ed hm hb
  obtain ⟨_, oi, hoi, hall⟩ := mem_ready.1 hr
  by_cases hji : j = i
  · subst hji
    rw [hoi] at ho
    injection ho with ho
    subst ho
    exact getD_set_true (hall ed hm hb)
  · have : listed.getD j false = true := by
      rwa [getD_set_ne false (Ne.symm hji)] at hl
    exact getD_set_true (hd j o ho this ed hm hb)

/-- Whatever order is picked from here on; S holds behind each operation that is carried out, but for the last ones ('fins'). -/
def wpX (P : Program) (ops : Array Oper) (Q : Exit → Act → World → Prop) (S : World → Prop) (fins : List Nat) : Nat → Array Bool → Act → World → Prop
  | 0, listed, a, w => Region.ready .any ops listed = [] ∧ Q .normal a w
  | fuel + 1, listed, a, w =>
    (Region.ready .any ops listed = [] → Q .normal a w) ∧
    ∀ i ∈ Region.ready .any ops listed, wpOp P ops Q i (fun a' w' => (i ∈ fins ∨ S w') ∧ wpX P ops Q S fins fuel (listed.setIfInBounds i true) a' w') a w

theorem wpX_any : ∀ (fuel : Nat) (listed : Array Bool) (a : Act) (w : World), wpX P ops Q S fins fuel listed a w → wpAny P .any ops Q fuel listed a w
  | 0, _, _, _, h => h
  | fuel + 1, _, _, _, h => ⟨h.1, fun i hi => wpOp_mono (fun a' w' h' => wpX_any fuel _ a' w' h'.2) (h.2 i hi)⟩

theorem wpX_first {i f : Nat} {oi : Oper} {v : Value} (hi : ops[i]? = some oi) (hsel : Region.noSelect ops = true)
    (hQ : ∀ c a w, ¬ Q (.panic c) a w) (hfin : ∀ j ∈ fins, waits ops f j i = true) :
    ∀ (fuel : Nat) (listed : Array Bool) (a : Act) (w : World), Down ops listed → Region.free .any ops listed i = true → i ∈ Region.ready .any ops listed → YieldsIf P ops S oi v a → S w →
      wpX P ops Q S fins fuel (listed.setIfInBounds i true) (a.put oi.dst v) w → wpX P ops Q S fins (fuel + 1) listed a w := by
  intro fuel listed a w hdown hfree0
  have hfree := Region.free_spec hi hfree0
  clear hfree0
  have hs := Region.noSelect_spec hsel
  induction fuel generalizing listed a w with
  | zero =>
    intro hr hy hS H
    refine ⟨fun h => (by rw [h] at hr; cases hr), fun j hj => ?_⟩
    by_cases hji : j = i
    · subst hji; exact hy.wpOp hi hS ⟨.inr hS, H⟩
    · have := ready_mono hj hji
      rw [H.1] at this
      cases this
  | succ fuel ih =>
    intro hr hy hS H
    refine ⟨fun h => (by rw [h] at hr; cases hr), fun j hj => ?_⟩
    by_cases hji : j = i
    · subst hji; exact hy.wpOp hi hS ⟨.inr hS, H⟩
    · have h1 := H.2 j (ready_mono hj hji)
      obtain ⟨hjun, oj, hoj, hall⟩ := mem_ready.1 hj
      have hun0 : ¬ listed.getD i false = true := by
        have h0 := (mem_ready.1 hr).1
        intro h1
        rcases Nat.lt_or_ge i listed.size with h' | h'
        · simp [h'] at h0 h1; rw [h0] at h1; cases h1
        · simp [Array.getElem?_eq_none h'] at h1
      have hnot : ∀ ed ∈ oj.after, Region.binds .any ed = true → ed.on ≠ i := fun ed he hb heq => by
        have h1 := hall ed he hb
        rw [heq] at h1
        exact hun0 h1
      have hnf : j ∉ fins := fun hm => hun0 (waits_listed hdown f j i (hfin j hm) (fun o ho ed hm hb => by rw [hoj] at ho; injection ho with ho; subst ho; exact hall ed hm hb))
      have h2 := wpOp_putIf hoj (hfree j oj hoj hji hjun hnot) (fun cs b => hs i oi cs b hi) (fun cs b => hs j oj cs b hoj) (fun c a w h => absurd h (hQ c _ w)) hy h1
      refine wpOp_mono (fun a' w' h3 => ⟨h3.2.1, ?_⟩) h2
      have hS' : S w' := h3.2.1.resolve_left hnf
      refine ih (listed.setIfInBounds j true) a' w' (down_set hdown hj) ?_ (ready_mono hr (Ne.symm hji)) h3.1 hS' ?_
      · intro k ok hk hki hun hno
        refine hfree k ok hk hki ?_ hno
        by_cases hjk : j = k
        · subst hjk; exact hjun
        · rw [getD_set_ne true hjk] at hun; exact hun
      · rw [Array.setIfInBounds_comm _ _ hji]
        exact h3.2.2

/-- The operations in an order of ours: 'true': it hands back the same value in each world that meets S, and leaves that world alone. -/
def okP (ops : Array Oper) (fins : List Nat) : List (Nat × Bool) → Array Bool → Option (Array Bool)
  | [], listed => some listed
  | (i, true) :: r, listed => if Region.free .any ops listed i && (Region.ready .any ops listed).contains i && fins.all (fun j => waits ops ops.size j i) then okP ops fins r (listed.setIfInBounds i true) else none
  | (i, false) :: r, listed => if Region.ready .any ops listed == [i] then okP ops fins r (listed.setIfInBounds i true) else none

/-- An order, that forks where two may be the next ones. -/
inductive Tr where
  | L (l : List (Nat × Bool)) : Tr
  | N (l : List (Nat × Bool)) (i : Nat) (t1 : Tr) (j : Nat) (t2 : Tr) : Tr
  | M (l : List (Nat × Bool)) (i : Nat) (t1 : Tr) (j : Nat) (t2 : Tr) (k : Nat) (t3 : Tr) : Tr
def Tr.depth : Tr → Nat
  | .L l => l.length
  | .N l _ t1 _ _ => l.length + (t1.depth + 1)
  | .M l _ t1 _ _ _ _ => l.length + (t1.depth + 1)
def okT (ops : Array Oper) (fins : List Nat) : Tr → Array Bool → Bool
  | .L l, listed => match okP ops fins l listed with
    | some e => (Region.ready .any ops e).isEmpty
    | none => false
  | .N l i t1 j t2, listed => match okP ops fins l listed with
    | some e => (Region.ready .any ops e == [i, j]) && okT ops fins t1 (e.setIfInBounds i true) && okT ops fins t2 (e.setIfInBounds j true) && t1.depth == t2.depth
    | none => false
  | .M l i t1 j t2 k t3, listed => match okP ops fins l listed with
    | some e => (Region.ready .any ops e == [i, j, k]) && okT ops fins t1 (e.setIfInBounds i true) && okT ops fins t2 (e.setIfInBounds j true) && okT ops fins t3 (e.setIfInBounds k true) && t1.depth == t2.depth && t1.depth == t3.depth
    | none => false

def wpS (P : Program) (ops : Array Oper) (Q : Exit → Act → World → Prop) (K : (World → Prop) → Act → World → Prop) : (World → Prop) → List Nat → List (Nat × Bool) → Act → World → Prop
  | S, _, [], a, w => K S a w
  | S, fins, (i, true) :: r, a, w => ∃ oi v, ops[i]? = some oi ∧ YieldsIf P ops S oi v a ∧ S w ∧ wpS P ops Q K S fins r (a.put oi.dst v) w
  | S, fins, (i, false) :: r, a, w => wpOp P ops Q i (fun a' w' => ∃ S2 : World → Prop, (∀ x, S2 x → S x) ∧ (i ∈ fins ∨ S2 w') ∧ wpS P ops Q K S2 fins r a' w') a w

def wpT (P : Program) (ops : Array Oper) (Q : Exit → Act → World → Prop) (fins : List Nat) : Tr → (World → Prop) → Act → World → Prop
  | .L l, S, a, w => wpS P ops Q (fun _ => Q .normal) S fins l a w
  | .N l i t1 j t2, S, a, w => wpS P ops Q (fun S a w => wpS P ops Q (wpT P ops Q fins t1) S fins [(i, false)] a w ∧ wpS P ops Q (wpT P ops Q fins t2) S fins [(j, false)] a w) S fins l a w
  | .M l i t1 j t2 k t3, S, a, w => wpS P ops Q (fun S a w => wpS P ops Q (wpT P ops Q fins t1) S fins [(i, false)] a w ∧ wpS P ops Q (wpT P ops Q fins t2) S fins [(j, false)] a w ∧ wpS P ops Q (wpT P ops Q fins t3) S fins [(k, false)] a w) S fins l a w

theorem wpX_mono {S2 : World → Prop} (hle : ∀ x, S2 x → S x) : ∀ (fuel : Nat) (listed : Array Bool) (a : Act) (w : World), wpX P ops Q S2 fins fuel listed a w → wpX P ops Q S fins fuel listed a w
  | 0, _, _, _, h => h
  | fuel + 1, _, _, _, h => ⟨h.1, fun i hi => wpOp_mono (fun a' w' h' => ⟨h'.1.imp id (hle w'), wpX_mono hle fuel _ a' w' h'.2⟩) (h.2 i hi)⟩

theorem wpS_sound {m : Nat} {e : Array Bool} (hsel : Region.noSelect ops = true) (hQ : ∀ c a w, ¬ Q (.panic c) a w) (hK : Down ops e → ∀ S a w, K S a w → wpX P ops Q S fins m e a w) : ∀ (ord : List (Nat × Bool)) (S : World → Prop) (listed : Array Bool) (a : Act) (w : World), Down ops listed → okP ops fins ord listed = some e →
    wpS P ops Q K S fins ord a w → wpX P ops Q S fins (ord.length + m) listed a w
  | [], S, listed, a, w, hdn, ho, h => by
    simp only [okP, Option.some.injEq] at ho
    subst ho
    simpa using hK hdn S a w h
  | (i, true) :: r, S, listed, a, w, hdn, ho, h => by
    simp only [okP] at ho
    split at ho
    · rename_i hc
      simp only [Bool.and_eq_true] at hc
      obtain ⟨⟨hf, hr⟩, hfi⟩ := hc
      obtain ⟨oi, v, hi, hy, hS, hk⟩ := h
      have hr' : i ∈ Region.ready .any ops listed := by simpa using hr
      rw [List.length_cons, Nat.add_right_comm]
      exact wpX_first hi hsel hQ (fun j hj => List.all_eq_true.1 hfi j hj) (r.length + m) listed a w hdn hf hr' hy hS (wpS_sound hsel hQ hK r S _ _ _ (down_set hdn hr') ho hk)
    · cases ho
  | (i, false) :: r, S, listed, a, w, hdn, ho, h => by
    simp only [okP] at ho
    split at ho
    · rename_i hc
      have hc' : Region.ready .any ops listed = [i] := by simpa using hc
      rw [List.length_cons, Nat.add_right_comm]
      refine ⟨fun h0 => (by rw [hc'] at h0; cases h0), fun j hj => ?_⟩
      have hr' := hj
      rw [hc'] at hj
      have : j = i := by simpa using hj
      subst this
      exact wpOp_mono (fun a' w' ⟨S2, hle, h1, h2⟩ => ⟨h1.imp id (hle w'), wpX_mono hle _ _ _ _ (wpS_sound hsel hQ hK r S2 _ _ _ (down_set hdn hr') ho h2)⟩) h
    · cases ho

theorem wpT_sound (hsel : Region.noSelect ops = true) (hQ : ∀ c a w, ¬ Q (.panic c) a w) : ∀ (t : Tr) (S : World → Prop) (listed : Array Bool) (a : Act) (w : World), Down ops listed → okT ops fins t listed = true →
    wpT P ops Q fins t S a w → wpX P ops Q S fins t.depth listed a w
  | .L l, S, listed, a, w, hdn, ho, h => by
    simp only [okT] at ho
    split at ho
    · rename_i e he
      exact wpS_sound (m := 0) hsel hQ (fun _ S a w h => ⟨by simpa using ho, h⟩) l S listed a w hdn he h
    · cases ho
  | .N l i t1 j t2, S, listed, a, w, hdn, ho, h => by
    simp only [okT] at ho
    split at ho
    · rename_i e he
      simp only [Bool.and_eq_true, beq_iff_eq] at ho
      obtain ⟨⟨⟨hr, ho1⟩, ho2⟩, hd⟩ := ho
      refine wpS_sound (m := t1.depth + 1) hsel hQ (fun hde S a w h => ?_) l S listed a w hdn he h
      refine ⟨fun h0 => (by rw [hr] at h0; cases h0), fun x hx => ?_⟩
      have hx' := hx
      rw [hr] at hx
      have hx2 : x = i ∨ x = j := by simpa using hx
      rcases hx2 with rfl | rfl
      · exact wpOp_mono (fun a' w' ⟨S2, hle, h1, h2⟩ => ⟨h1.imp id (hle w'), wpX_mono hle _ _ _ _ (wpT_sound hsel hQ t1 S2 _ _ _ (down_set hde hx') ho1 h2)⟩) h.1
      · rw [hd]
        exact wpOp_mono (fun a' w' ⟨S2, hle, h1, h2⟩ => ⟨h1.imp id (hle w'), wpX_mono hle _ _ _ _ (wpT_sound hsel hQ t2 S2 _ _ _ (down_set hde hx') ho2 h2)⟩) h.2
    · cases ho
  | .M l i t1 j t2 k t3, S, listed, a, w, hdn, ho, h => by
    simp only [okT] at ho
    split at ho
    · rename_i e he
      simp only [Bool.and_eq_true, beq_iff_eq] at ho
      obtain ⟨⟨⟨⟨⟨hr, ho1⟩, ho2⟩, ho3⟩, hd⟩, hd3⟩ := ho
      refine wpS_sound (m := t1.depth + 1) hsel hQ (fun hde S a w h => ?_) l S listed a w hdn he h
      refine ⟨fun h0 => (by rw [hr] at h0; cases h0), fun x hx => ?_⟩
      have hx' := hx
      rw [hr] at hx
      have hx2 : x = i ∨ x = j ∨ x = k := by simpa using hx
      rcases hx2 with rfl | rfl | rfl
      · exact wpOp_mono (fun a' w' ⟨S2, hle, h1, h2⟩ => ⟨h1.imp id (hle w'), wpX_mono hle _ _ _ _ (wpT_sound hsel hQ t1 S2 _ _ _ (down_set hde hx') ho1 h2)⟩) h.1
      · rw [hd]
        exact wpOp_mono (fun a' w' ⟨S2, hle, h1, h2⟩ => ⟨h1.imp id (hle w'), wpX_mono hle _ _ _ _ (wpT_sound hsel hQ t2 S2 _ _ _ (down_set hde hx') ho2 h2)⟩) h.2.1
      · rw [hd3]
        exact wpOp_mono (fun a' w' ⟨S2, hle, h1, h2⟩ => ⟨h1.imp id (hle w'), wpX_mono hle _ _ _ _ (wpT_sound hsel hQ t3 S2 _ _ _ (down_set hde hx') ho3 h2)⟩) h.2.2
    · cases ho

theorem getD_none_false (m j : Nat) : (Array.replicate m false).getD j false = false := by
  simp only [Array.getD_eq_getD_getElem?, Array.getElem?_replicate]
  split <;> rfl
theorem down_none (ops : Array Oper) (m : Nat) : Down ops (Array.replicate m false) := by
  intro j o _ hl
  rw [getD_none_false] at hl
  cases hl

/-- A region whose order is open, in an order of ours. -/
theorem wp_drawT {id : Nat} {l : List Oper} {a : Act} {w : World} (S : World → Prop) (fins : List Nat) (t : Tr) (hm : P.follows .mixedOrders = true)
    (hsel : Region.noSelect l.toArray = true) (hQ : ∀ c a w, ¬ Q (.panic c) a w) (hlen : t.depth = l.length) (ho : okT l.toArray fins t (Array.replicate l.length false) = true)
    (h : wpT P l.toArray Q fins t S a w.drew) : (Code.region id l.toArray true).wp P Q a w := by
  refine wp_region_any hm ?_
  have := wpT_sound hsel hQ t S _ _ _ (down_none _ _) ho h
  rw [hlen] at this
  have h2 := wpX_any _ _ _ _ this
  have e : l.toArray.size = l.length := by simp
  rw [e]
  exact h2
theorem wp_draw {id : Nat} {l : List Oper} {a : Act} {w : World} (S : World → Prop) (fins : List Nat) (ord : List (Nat × Bool)) (hm : P.follows .mixedOrders = true)
    (hsel : Region.noSelect l.toArray = true) (hQ : ∀ c a w, ¬ Q (.panic c) a w) (hlen : ord.length = l.length) (ho : okT l.toArray fins (.L ord) (Array.replicate l.length false) = true)
    (h : wpS P l.toArray Q (fun _ => Q .normal) S fins ord a w.drew) : (Code.region id l.toArray true).wp P Q a w :=
  wp_drawT S fins (.L ord) hm hsel hQ hlen ho h
theorem wp_drawN {id : Nat} {l : List Oper} {a : Act} {w : World} (S : World → Prop) (fins : List Nat) (pre : List (Nat × Bool)) (i : Nat) (t1 : Tr) (j : Nat) (t2 : Tr) (hm : P.follows .mixedOrders = true)
    (hsel : Region.noSelect l.toArray = true) (hQ : ∀ c a w, ¬ Q (.panic c) a w) (hlen : (Tr.N pre i t1 j t2).depth = l.length) (ho : okT l.toArray fins (.N pre i t1 j t2) (Array.replicate l.length false) = true)
    (h : wpS P l.toArray Q (fun S a w => wpS P l.toArray Q (wpT P l.toArray Q fins t1) S fins [(i, false)] a w ∧ wpS P l.toArray Q (wpT P l.toArray Q fins t2) S fins [(j, false)] a w) S fins pre a w.drew) : (Code.region id l.toArray true).wp P Q a w :=
  wp_drawT S fins (.N pre i t1 j t2) hm hsel hQ hlen ho h

theorem wp_drawM {id : Nat} {l : List Oper} {a : Act} {w : World} (S : World → Prop) (fins : List Nat) (pre : List (Nat × Bool)) (i : Nat) (t1 : Tr) (j : Nat) (t2 : Tr) (k : Nat) (t3 : Tr) (hm : P.follows .mixedOrders = true)
    (hsel : Region.noSelect l.toArray = true) (hQ : ∀ c a w, ¬ Q (.panic c) a w) (hlen : (Tr.M pre i t1 j t2 k t3).depth = l.length) (ho : okT l.toArray fins (.M pre i t1 j t2 k t3) (Array.replicate l.length false) = true)
    (h : wpS P l.toArray Q (fun S a w => wpS P l.toArray Q (wpT P l.toArray Q fins t1) S fins [(i, false)] a w ∧ wpS P l.toArray Q (wpT P l.toArray Q fins t2) S fins [(j, false)] a w ∧ wpS P l.toArray Q (wpT P l.toArray Q fins t3) S fins [(k, false)] a w) S fins pre a w.drew) : (Code.region id l.toArray true).wp P Q a w :=
  wp_drawT S fins (.M pre i t1 j t2 k t3) hm hsel hQ hlen ho h

/-! Steps -/
variable {a : Act} {w : World} {n : Nat} {e : Env} {r : List (Nat × Bool)} {i d : Nat} {o : Oper}

/-- One that yields. -/
theorem dr_y {v : Value} (hA : Has a n e) (hi : ops[i]? = some o) (hw : wantE ops e o.guard = some true) (hd : o.dst = some d) (hdn : d < n) (hS : S w)
    (hr : ∀ w', S w' → (execOp a.eval o).run P w' = .ok (.value v) w') (k : ∀ a', Has a' n ((d, v) :: e) → wpS P ops Q K S fins r a' w) : wpS P ops Q K S fins ((i, true) :: r) a w :=
  ⟨o, v, hi, .inl ⟨hA.want hw, hr⟩, hS, by rw [hd]; exact k _ (hA.put hdn v)⟩
theorem dr_no (hA : Has a n e) (hi : ops[i]? = some o) (hw : wantE ops e o.guard = some false) (hd : o.dst = some d) (hdn : d < n) (hS : S w)
    (k : ∀ a', Has a' n ((d, undef) :: e) → wpS P ops Q K S fins r a' w) : wpS P ops Q K S fins ((i, true) :: r) a w :=
  ⟨o, undef, hi, .inr ⟨hA.want hw, rfl⟩, hS, by rw [hd]; exact k _ (hA.put hdn undef)⟩

def runH (tb : List TI) (ops : Array Oper) (n : Nat) : List (Nat × Bool) → Env → Option Env
  | [], e => some e
  | (i, true) :: l, e => match ops[i]? with
    | some o => match o.dst with
      | none => none
      | some d => bif Nat.blt d n then
          (match wantE ops e o.guard with
          | some true => match pureOp tb e o.op with
            | some v => runH tb ops n l ((d, v) :: e)
            | none => none
          | some false => runH tb ops n l ((d, undef) :: e)
          | none => none)
        else none
    | none => none
  | _ :: _, _ => none

theorem dr_run (hT : TabOk P tb) {l : List (Nat × Bool)} (k : Nat) {e' : Env} (hA : Has a n e) (hS : S w) (h : runH tb ops n (l.take k) e = some e')
    (c : ∀ a', Has a' n e' → wpS P ops Q K S fins (l.drop k) a' w) : wpS P ops Q K S fins l a w := by
  induction k generalizing l a e with
  | zero => simp [runH] at h; subst h; exact c a hA
  | succ k ih =>
    cases l with
    | nil => simp [runH] at h; subst h; exact c a hA
    | cons p l =>
      obtain ⟨i, b⟩ := p
      cases b with
      | false => simp [runH] at h
      | true =>
        simp only [List.take_succ_cons, runH] at h
        split at h
        · rename_i o hi
          split at h
          · cases h
          · rename_i d hd
            cases hb : Nat.blt d n with
            | false => rw [hb] at h; cases h
            | true =>
              rw [hb] at h
              simp only [cond_true] at h
              have hdn : d < n := by simpa [Nat.blt_eq] using hb
              split at h
              · rename_i hw
                split at h
                · rename_i v hv
                  exact dr_y hA hi hw hd hdn hS (fun w' _ => pureOp_run hT hA hv w') (fun a' hA' => ih hA' h (by simpa using c))
                · cases h
              · rename_i hw
                exact dr_no hA hi hw hd hdn hS (fun a' hA' => ih hA' h (by simpa using c))
              · cases h
        · cases h

/-- One that acts: as in a region whose order is fixed. -/
theorem dr_b (hi : ops[i]? = some o) (h : wpList P ops (Exit.then (fun a' w' => ∃ S2 : World → Prop, (∀ x, S2 x → S x) ∧ (i ∈ fins ∨ S2 w') ∧ wpS P ops Q K S2 fins r a' w') Q) [o] a w) : wpS P ops Q K S fins ((i, false) :: r) a w := by
  show wpOp P ops Q i _ a w
  unfold wpOp
  simp only [hi]
  simp only [wpList] at h
  split
  · rename_i hw
    rw [if_pos hw] at h
    rcases h with h | ⟨h1, a0, w0, h2⟩
    · refine .inl ?_
      unfold Oper.wp at *
      generalize (execOp a.eval o).run P w = res at *
      cases res with
      | ok nx w' => cases nx <;> exact h
      | halt x w' => cases x <;> exact h
    · exact .inr ⟨h1, a0, w0, h2⟩
  · rename_i hw
    rw [if_neg hw] at h
    exact h
theorem dr_nil (h1 : i ∈ fins ∨ S w) (h2 : wpS P ops Q K S fins r a w) : wpList P ops (Exit.then (fun a' w' => ∃ S2 : World → Prop, (∀ x, S2 x → S x) ∧ (i ∈ fins ∨ S2 w') ∧ wpS P ops Q K S2 fins r a' w') Q) [] a w := ⟨S, fun _ h => h, h1, h2⟩
/-- From here on more is known of all worlds. -/
theorem dr_nilS (S2 : World → Prop) (hle : ∀ x, S2 x → S x) (h1 : S2 w) (h2 : wpS P ops Q K S2 fins r a w) : wpList P ops (Exit.then (fun a' w' => ∃ S2 : World → Prop, (∀ x, S2 x → S x) ∧ (i ∈ fins ∨ S2 w') ∧ wpS P ops Q K S2 fins r a' w') Q) [] a w := ⟨S2, hle, .inr h1, h2⟩
theorem dr_end (h : Q .normal a w) : wpS P ops Q (fun _ => Q .normal) S fins [] a w := h
theorem dr_fork {t1 t2 : Tr} {i j : Nat} (h1 : wpS P ops Q (wpT P ops Q fins t1) S fins [(i, false)] a w) (h2 : wpS P ops Q (wpT P ops Q fins t2) S fins [(j, false)] a w) :
    wpS P ops Q (fun S a w => wpS P ops Q (wpT P ops Q fins t1) S fins [(i, false)] a w ∧ wpS P ops Q (wpT P ops Q fins t2) S fins [(j, false)] a w) S fins [] a w := ⟨h1, h2⟩
theorem dr_fork3 {t1 t2 t3 : Tr} {i j k : Nat} (h1 : wpS P ops Q (wpT P ops Q fins t1) S fins [(i, false)] a w) (h2 : wpS P ops Q (wpT P ops Q fins t2) S fins [(j, false)] a w) (h3 : wpS P ops Q (wpT P ops Q fins t3) S fins [(k, false)] a w) :
    wpS P ops Q (fun S a w => wpS P ops Q (wpT P ops Q fins t1) S fins [(i, false)] a w ∧ wpS P ops Q (wpT P ops Q fins t2) S fins [(j, false)] a w ∧ wpS P ops Q (wpT P ops Q fins t3) S fins [(k, false)] a w) S fins [] a w := ⟨h1, h2, h3⟩
theorem dr_subL {l : List (Nat × Bool)} (h : wpS P ops Q (fun _ => Q .normal) S fins l a w) : wpS P ops Q (wpT P ops Q fins (.L l)) S fins [] a w := h
theorem dr_subN {l : List (Nat × Bool)} {t1 t2 : Tr} {i j : Nat} (h : wpS P ops Q (fun S a w => wpS P ops Q (wpT P ops Q fins t1) S fins [(i, false)] a w ∧ wpS P ops Q (wpT P ops Q fins t2) S fins [(j, false)] a w) S fins l a w) : wpS P ops Q (wpT P ops Q fins (.N l i t1 j t2)) S fins [] a w := h
theorem dr_subM {l : List (Nat × Bool)} {t1 t2 t3 : Tr} {i j k : Nat} (h : wpS P ops Q (fun S a w => wpS P ops Q (wpT P ops Q fins t1) S fins [(i, false)] a w ∧ wpS P ops Q (wpT P ops Q fins t2) S fins [(j, false)] a w ∧ wpS P ops Q (wpT P ops Q fins t3) S fins [(k, false)] a w) S fins l a w) : wpS P ops Q (wpT P ops Q fins (.M l i t1 j t2 k t3)) S fins [] a w := h
end
end Go.SK
