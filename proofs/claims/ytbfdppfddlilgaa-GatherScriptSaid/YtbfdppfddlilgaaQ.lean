import Derived.Test.YtbfdppfddlilgaaK
set_option linter.unusedVariables false
set_option linter.unusedSimpArgs false
set_option maxRecDepth 4000
namespace Go.Proofs.Ytbfdppfddlilgaa
open Go Go.SK
abbrev OPk := Option Addr × Nat × List Pkt
def oq (x : OPk) : List Pkt := x.2.2
def encO (x : OPk) : List Value := [.slice x.1 x.2.2.length x.2.1]
theorem encO_ok : Enc encO 1 := ⟨fun _ => rfl, fun x u hu => by rw [List.mem_singleton.1 hu]; rfl⟩
def RO (w0 : World) (Q : Chunk) (x : OPk) : Prop := ∀ w', St w0 w' [Q] → Rd w' 6 (.slice x.1 x.2.2.length x.2.1) x.2.2.length (rows encPacket x.2.2)
theorem RO.left {w0 : World} {Q E : Chunk} {x : OPk} (h : RO w0 Q x) : RO w0 (E ++ Q) x := fun w' hS => h w' hS.split.drop1
theorem RO.right {w0 : World} {Q E : Chunk} {x : OPk} (h : RO w0 Q x) : RO w0 (Q ++ E) x := fun w' hS => h w' hS.split.drop2
theorem RO.new {w0 : World} {T c : Nat} {A : Option Addr} {q : List Pkt} {C : Chunk} (ho : Own T 6 (.slice A q.length c) q.length (rows encPacket q) C) : RO w0 C (A, c, q) := fun w' hS => ho.rd (hS.own_ 0 rfl)
theorem RO.nil {w0 : World} {Q : Chunk} : RO w0 Q (none, 0, []) := fun w' _ => Rd.nil w' 6
def pix (x : Pkt) : Int := x.2.2.2.1
def pcn (x : Pkt) : Int := x.2.2.2.2.1
def fq (q : List Pkt) : Nat → Bool := fun i => q.any (fun x => pix x == ((i : Nat) : Int))
def d1 (q : List Pkt) (i : Nat) : List UInt8 := ((q.filter (fun x => pix x == ((i : Nat) : Int))).map pdat).flatten
def dq (n : Nat) (q : List Pkt) : List (List UInt8) := (List.range n).map (d1 q)
def g1 (q : List Pkt) (p : Pkt) : Bool := match q with | [] => true | y :: _ => decide (pcn y = pcn p)
def gd (q : List Pkt) (p : Pkt) : Bool := g1 q p && !(q.any (fun y => pix y == pix p))
def mkq (fr id : Int) (q : List Pkt) : Prop := ∃ y q', q = y :: q' ∧ y.1 = fr ∧ y.2.2.1 = id
theorem up_fq {q : List Pkt} {p : Pkt} {ix : Nat} (hp : pix p = ((ix : Nat) : Int)) : up (fq q) ix = fq (q ++ [p]) := by
  funext i
  rw [up, fq, fq, List.any_append, Bool.or_comm]
  congr 1
  rw [List.any_cons, List.any_nil, Bool.or_false, hp, Bool.eq_iff_iff]
  simp only [beq_iff_eq]; omega
theorem fq_nil : ∀ i, fq [] i = false := fun i => rfl
theorem d1_ne {q : List Pkt} {p : Pkt} {ix i : Nat} (hp : pix p = ((ix : Nat) : Int)) (h : ¬ ix = i) : d1 (q ++ [p]) i = d1 q i := by
  have e : (pix p == ((i : Nat) : Int)) = false := by rw [hp, Bool.eq_false_iff]; simp only [ne_eq, beq_iff_eq]; omega
  rw [d1, d1, List.filter_append, List.filter_cons, e]; simp
theorem d1_at {q : List Pkt} {p : Pkt} {ix : Nat} (hp : pix p = ((ix : Nat) : Int)) (h : fq q ix = false) : d1 (q ++ [p]) ix = pdat p := by
  have e : (pix p == ((ix : Nat) : Int)) = true := by rw [hp]; simp
  have e2 : q.filter (fun x => pix x == ((ix : Nat) : Int)) = [] := by
    rw [List.filter_eq_nil_iff]
    intro x hx hh
    rw [fq, List.any_eq_false] at h
    exact h x hx hh
  rw [d1, List.filter_append, e2, List.filter_cons, e]; simp
theorem dq_set {q : List Pkt} {p : Pkt} {ix n : Nat} (hp : pix p = ((ix : Nat) : Int)) (h : fq q ix = false) (hn : ix < n) : (dq n q).set ix (pdat p) = dq n (q ++ [p]) := by
  apply List.ext_getElem?
  intro i
  by_cases e : ix = i
  · subst e
    rw [List.getElem?_set_self (by rw [dq, List.length_map, List.length_range]; exact hn), dq, map_range_get, if_pos hn, d1_at hp h]
  · rw [List.getElem?_set_ne e, dq, dq, map_range_get, map_range_get, d1_ne hp e]
theorem dq_nil (n : Nat) : dq n [] = List.replicate n [] := by
  apply List.ext_getElem?
  intro i
  rw [dq, map_range_get, List.getElem?_replicate]; rfl
def vof (fr id : Int) (n : Nat) (q : List Pkt) : GV := (fr, 3, id, hv n (fq q), dq n q)
structure RQ (fr id : Int) (n : Nat) (q : List Pkt) : Prop where
  al : ∀ x ∈ q, x.1 = fr ∧ x.2.2.1 = id ∧ pcn x = ((n : Nat) : Int)
  l2 : n ≤ 256
  ct : cnt n (fq q) + q.length = n
def RG (v : GV) (q : List Pkt) : Prop := ∃ fr id n, v = vof fr id n q ∧ RQ fr id n q ∧ 0 < q.length ∧ 1 ≤ cnt n (fq q)
structure RL (vs : List GV) (qs : List (List Pkt)) : Prop where
  len : vs.length = qs.length
  le : vs.length ≤ 16
  at_ : ∀ (k : Nat) (v : GV) (q : List Pkt), vs[k]? = some v → qs[k]? = some q → RG v q
  uq : ∀ (i j : Nat) (v z : GV), vs[i]? = some v → vs[j]? = some z → v.1 = z.1 → v.2.2.1 = z.2.2.1 → i = j
theorem RL.nil : RL [] [] := ⟨rfl, by simp, fun k v q h => by simp at h, fun i j v z h => by simp at h⟩
theorem RL.set {vs : List GV} {qs : List (List Pkt)} (h : RL vs qs) {k : Nat} {v v2 : GV} {q2 : List Pkt} (hv : vs[k]? = some v) (hr : RG v2 q2) (h1 : v2.1 = v.1) (h2 : v2.2.2.1 = v.2.2.1) : RL (vs.set k v2) (qs.set k q2) := by
  have hk := (List.getElem?_eq_some_iff.1 hv).1
  have hl := h.len
  have key : ∀ (i : Nat) (z : GV), (vs.set k v2)[i]? = some z → ∃ z0, vs[i]? = some z0 ∧ z.1 = z0.1 ∧ z.2.2.1 = z0.2.2.1 := fun i z hz => by
    by_cases e : k = i
    · subst e
      rw [List.getElem?_set_self hk] at hz; injection hz with hz; subst hz
      exact ⟨v, hv, h1, h2⟩
    · rw [List.getElem?_set_ne e] at hz; exact ⟨z, hz, rfl, rfl⟩
  refine ⟨by simp [hl], by rw [List.length_set]; exact h.le, fun i z q hz hq => ?_, fun i j z y hz hy e1 e2 => ?_⟩
  · by_cases e : k = i
    · subst e
      rw [List.getElem?_set_self hk] at hz; rw [List.getElem?_set_self (by omega)] at hq
      injection hz with hz; injection hq with hq; subst hz; subst hq; exact hr
    · rw [List.getElem?_set_ne e] at hz hq; exact h.at_ i z q hz hq
  · obtain ⟨z0, a, b, c⟩ := key i z hz
    obtain ⟨y0, a2, b2, c2⟩ := key j y hy
    exact h.uq i j z0 y0 a a2 (by rw [← b, ← b2, e1]) (by rw [← c, ← c2, e2])
theorem td_get {α : Type} {l : List α} {k j : Nat} {x : α} (h : (l.take k ++ l.drop (k + 1))[j]? = some x) : l[if j < k then j else j + 1]? = some x := by
  rw [← List.eraseIdx_eq_take_drop_succ, List.getElem?_eraseIdx] at h
  split at h
  · rename_i h2; rw [if_pos h2]; exact h
  · rename_i h2; rw [if_neg h2]; exact h
theorem RL.del {vs : List GV} {qs : List (List Pkt)} (h : RL vs qs) (k : Nat) : RL (vs.take k ++ vs.drop (k + 1)) (qs.take k ++ qs.drop (k + 1)) := by
  have hl := h.len; have hle := h.le
  refine ⟨by simp only [List.length_append, List.length_take, List.length_drop]; omega, by simp only [List.length_append, List.length_take, List.length_drop]; omega, fun i v q hv hq => h.at_ _ v q (td_get hv) (td_get hq), fun i j v z hv hz e1 e2 => ?_⟩
  have := h.uq _ _ v z (td_get hv) (td_get hz) e1 e2
  split at this <;> split at this <;> omega
theorem RL.drop1 {vs : List GV} {qs : List (List Pkt)} (h : RL vs qs) : RL (vs.drop 1) (qs.drop 1) := by
  have hl := h.len; have hle := h.le
  refine ⟨by simp only [List.length_drop]; omega, by simp only [List.length_drop]; omega, fun i v q hv hq => ?_, fun i j v z hv hz e1 e2 => ?_⟩
  · rw [List.getElem?_drop] at hv hq; exact h.at_ _ v q hv hq
  · rw [List.getElem?_drop] at hv hz; have := h.uq _ _ v z hv hz e1 e2; omega
theorem RL.snoc {vs : List GV} {qs : List (List Pkt)} (h : RL vs qs) {v : GV} {q : List Pkt} (hr : RG v q) (hl : vs.length < 16) (hno : ∀ (i : Nat) (z : GV), vs[i]? = some z → ¬ (z.1 = v.1 ∧ z.2.2.1 = v.2.2.1)) : RL (vs ++ [v]) (qs ++ [q]) := by
  have hlen := h.len
  have sn : ∀ (i : Nat) (z : GV), (vs ++ [v])[i]? = some z → vs[i]? = some z ∨ (i = vs.length ∧ z = v) := fun i z hz => by
    by_cases hi : i < vs.length
    · rw [List.getElem?_append_left hi] at hz; exact .inl hz
    · have hi2 := (List.getElem?_eq_some_iff.1 hz).1
      rw [List.length_append, List.length_singleton] at hi2
      have e : i = vs.length := by omega
      rw [List.getElem?_append_right (by omega), e, Nat.sub_self] at hz
      exact .inr ⟨e, (Option.some.inj hz).symm⟩
  refine ⟨by simp [hlen], by rw [List.length_append, List.length_singleton]; omega, fun i z y hz hy => ?_, fun i j z y hz hy e1 e2 => ?_⟩
  · rcases sn i z hz with hz | ⟨e, rfl⟩
    · have hi := (List.getElem?_eq_some_iff.1 hz).1
      rw [List.getElem?_append_left (by omega)] at hy; exact h.at_ i z y hz hy
    · rw [e, hlen, List.getElem?_append_right (Nat.le_refl _), Nat.sub_self] at hy
      rw [← Option.some.inj hy]; exact hr
  · rcases sn i z hz with ha | ⟨ei, ez⟩
    · rcases sn j y hy with hb | ⟨ej, ey⟩
      · exact h.uq i j z y ha hb e1 e2
      · exact absurd ⟨by rw [e1, ey], by rw [e2, ey]⟩ (hno i z ha)
    · rcases sn j y hy with hb | ⟨ej, ey⟩
      · exact absurd ⟨by rw [← e1, ez], by rw [← e2, ez]⟩ (hno j y hb)
      · omega
theorem RG.key {v : GV} {q : List Pkt} (h : RG v q) {fr id : Int} : vkey fr 3 id v ↔ mkq fr id q := by
  obtain ⟨fr2, id2, n, rfl, hq, hl, _⟩ := h
  cases q with
  | nil => simp at hl
  | cons y q =>
    obtain ⟨a, b, _⟩ := hq.al y List.mem_cons_self
    constructor
    · rintro ⟨h1, _, h3⟩; exact ⟨y, q, rfl, by rw [a]; exact h1, by rw [b]; exact h3⟩
    · rintro ⟨y2, q2, e, h1, h2⟩
      injection e with e1 e2; subst e1
      exact ⟨by rw [← h1, a]; rfl, rfl, by rw [← h2, b]; rfl⟩
/-- One more packet of its message. -/
theorem RQ.put {fr id : Int} {n : Nat} {q : List Pkt} (h : RQ fr id n q) {p : Pkt} {ix : Nat} (hp : pix p = ((ix : Nat) : Int)) (hf : fq q ix = false) (hi : ix < n) (h1 : p.1 = fr) (h2 : p.2.2.1 = id) (h3 : pcn p = ((n : Nat) : Int)) : RQ fr id n (q ++ [p]) := by
  have hc := cnt_up hf n hi
  have ct := h.ct
  rw [up_fq hp] at hc
  refine ⟨fun x hx => ?_, h.l2, by rw [List.length_append, List.length_singleton]; omega⟩
  rcases List.mem_append.1 hx with hx | hx
  · exact h.al x hx
  · rw [List.mem_singleton.1 hx]; exact ⟨h1, h2, h3⟩
theorem RQ.nil (fr id : Int) {n : Nat} (h : n ≤ 256) : RQ fr id n [] := ⟨fun x hx => by simp at hx, h, by rw [cnt_full fq_nil]; rfl⟩
theorem vof_put {fr id : Int} {n : Nat} {q : List Pkt} {p : Pkt} {ix : Nat} (hp : pix p = ((ix : Nat) : Int)) (hf : fq q ix = false) (hi : ix < n) : ((fr, 3, id, (hv n (fq q)).set ix true, (dq n q).set ix (pdat p)) : GV) = vof fr id n (q ++ [p]) := by
  rw [hv_set hi, up_fq hp, dq_set hp hf hi]; rfl
theorem any_more {n : Nat} {q : List Pkt} {ix : Nat} (hf : fq q ix = false) (hi : ix < n) (h : 2 ≤ cnt n (fq q)) : ((hv n (fq q)).set ix true).any (fun y => y == false) = true := any_put hi (up_more hf hi h)
theorem any_last {n : Nat} {q : List Pkt} {ix : Nat} (hf : fq q ix = false) (hi : ix < n) (h : cnt n (fq q) = 1) : ((hv n (fq q)).set ix true).any (fun y => y == false) = false := all_put hi (up_last hf hi h)
def q16 (qs : List (List Pkt)) : List (List Pkt) := if qs.length = 16 then qs.drop 1 else qs
structure NX (vs : List GV) (qs : List (List Pkt)) (k : Nat) (q : List Pkt) (p : Pkt) (cn : Nat) (bsr : List UInt8) (okb : Bool) : Prop where
  ok : okb = (gd q p && decide (q.length + 1 = cn))
  yes : okb = true → bsr = (dq cn (q ++ [p])).flatten
  no : okb = false → bsr = []
  rl : RL vs (if okb = true then qs.take k ++ qs.drop (k + 1) else if gd q p = true then qs.set k (q ++ [p]) else qs)
def AR (vs : List GV) (qs : List (List Pkt)) (p : Pkt) (cn : Nat) (bsr : List UInt8) (okb : Bool) : Prop :=
  ((∀ (j : Nat) (q : List Pkt), qs[j]? = some q → ¬ mkq p.1 p.2.2.1 q) → NX vs (q16 qs ++ [[]]) (q16 qs).length [] p cn bsr okb) ∧ (∀ (k : Nat) (q : List Pkt), qs[k]? = some q → mkq p.1 p.2.2.1 q → NX vs qs k q p cn bsr okb)
theorem AR.hit {vs : List GV} {qs : List (List Pkt)} (hR : RL vs qs) {k : Nat} {q : List Pkt} {p : Pkt} (hq : qs[k]? = some q) (hmk : mkq p.1 p.2.2.1 q) {vs' : List GV} {cn : Nat} {bsr : List UInt8} {okb : Bool} (hN : NX vs' qs k q p cn bsr okb) : AR vs' qs p cn bsr okb := by
  refine ⟨fun h => absurd hmk (h k q hq), fun k2 q2 h2 m2 => ?_⟩
  have hk := (List.getElem?_eq_some_iff.1 hq).1
  have hk2 := (List.getElem?_eq_some_iff.1 h2).1
  have hl := hR.len
  obtain ⟨v, hv⟩ := get_ex (l := vs) (k := k) (by omega)
  obtain ⟨v2, hv2⟩ := get_ex (l := vs) (k := k2) (by omega)
  have a := (hR.at_ k v q hv hq).key.2 hmk
  have b := (hR.at_ k2 v2 q2 hv2 h2).key.2 m2
  have e := hR.uq k k2 v v2 hv hv2 (a.1.trans b.1.symm) (a.2.2.trans b.2.2.symm)
  subst e
  rw [hq] at h2; injection h2 with h2; subst h2; exact hN
theorem AR.new {qs : List (List Pkt)} {p : Pkt} (hno : ∀ (j : Nat) (q : List Pkt), qs[j]? = some q → ¬ mkq p.1 p.2.2.1 q) {vs' : List GV} {cn : Nat} {bsr : List UInt8} {okb : Bool} (hN : NX vs' (q16 qs ++ [[]]) (q16 qs).length [] p cn bsr okb) : AR vs' qs p cn bsr okb :=
  ⟨fun _ => hN, fun k q hq hm => absurd hm (hno k q hq)⟩
theorem g1_eq {fr id : Int} {n : Nat} {q : List Pkt} (h : RQ fr id n q) (hl : 0 < q.length) (p : Pkt) : g1 q p = decide (((n : Nat) : Int) = pcn p) := by
  cases q with
  | nil => simp at hl
  | cons y q => rw [g1, (h.al y List.mem_cons_self).2.2]
theorem set_last {α : Type} {l : List α} {x y : α} : (l ++ [x]).set l.length y = l ++ [y] := by
  rw [List.set_append_right _ _ (Nat.le_refl _), Nat.sub_self]; rfl
theorem del_last {α : Type} {l : List α} {x : α} : (l ++ [x]).take l.length ++ (l ++ [x]).drop (l.length + 1) = l := by
  rw [List.take_left, List.drop_eq_nil_of_le (by simp), List.append_nil]
theorem NX.bad {vs : List GV} {qs : List (List Pkt)} {k : Nat} {q : List Pkt} {p : Pkt} {cn : Nat} (hR : RL vs qs) (hg : gd q p = false) : NX vs qs k q p cn [] false := by
  refine ⟨by rw [hg]; rfl, fun h => (by cases h), fun _ => rfl, ?_⟩
  rw [if_neg (by decide), hg, if_neg (by decide)]; exact hR
theorem NX.put {vs : List GV} {qs : List (List Pkt)} {k : Nat} {q : List Pkt} {p : Pkt} {cn : Nat} (hg : gd q p = true) (hR : RL vs (qs.set k (q ++ [p]))) (hn : ¬ q.length + 1 = cn) : NX vs qs k q p cn [] false := by
  refine ⟨by rw [hg, decide_eq_false hn]; rfl, fun h => (by cases h), fun _ => rfl, ?_⟩
  rw [if_neg (by decide), hg, if_pos rfl]; exact hR
theorem NX.full {vs : List GV} {qs : List (List Pkt)} {k : Nat} {q : List Pkt} {p : Pkt} {cn : Nat} (hg : gd q p = true) (hR : RL vs (qs.take k ++ qs.drop (k + 1))) (hn : q.length + 1 = cn) : NX vs qs k q p cn (dq cn (q ++ [p])).flatten true := by
  refine ⟨by rw [hg, decide_eq_true hn]; rfl, fun _ => rfl, fun h => (by cases h), ?_⟩
  rw [if_pos rfl]; exact hR
def ARP (w0 : World) (F : List Chunk) (b : Nat) (D : Chunk) (qs : List (List Pkt)) (p : Pkt) (cn : Nat) (v : Value) (w' : World) : Prop := ∃ vs' L' E Cb Ab cb bsr okb, GS w0 b vs' L' (E ++ D) ∧ Own 5 1 (.slice Ab bsr.length cb) bsr.length (rows encB bsr) Cb ∧ v = .tuple #[.slice Ab bsr.length cb, .bool okb] ∧ AR vs' qs p cn bsr okb ∧ St w0 w' (Cb :: L' :: (E ++ D) :: F)
theorem addRL {w0 w : World} {F : List Chunk} {L D : Chunk} {b : Nat} {vs : List GV} {qs : List (List Pkt)} (hS : St w0 w (L :: D :: F)) (hM : GS w0 b vs L D) (hR : RL vs qs) (fr id : Int) (ix cn : Nat) {A : Option Addr} {c : Nat} {bs : List UInt8} (hd : RdSX w0 (D :: F) 1 (.slice A bs.length c) bs.length (rows encB bs)) (h1 : ix < cn) (h2 : cn ≤ 256) (h3 : bs.length ≤ 32768) :
    Ret Try.prog 9 #[.pointer (some ⟨b, 0, none⟩), .agg #[.int .i64 fr, .int .i64 3, .int .u64 id, .int .i64 ((ix : Nat) : Int), .int .i64 ((cn : Nat) : Int), .slice A bs.length c]] w (ARP w0 F b D qs (fr, 3, id, ((ix : Nat) : Int), ((cn : Nat) : Int), A, c, bs) cn) := by
  obtain ⟨p, hpe⟩ : ∃ p : Pkt, p = (fr, 3, id, ((ix : Nat) : Int), ((cn : Nat) : Int), A, c, bs) := ⟨_, rfl⟩
  rw [← hpe]
  have hp : pix p = ((ix : Nat) : Int) := by rw [hpe]; rfl
  have hpc : pcn p = ((cn : Nat) : Int) := by rw [hpe]; rfl
  have hp1 : p.1 = fr := by rw [hpe]
  have hp2 : p.2.2.1 = id := by rw [hpe]
  have hpd : pdat p = bs := by rw [hpe]; rfl
  have hlen := hR.len
  by_cases hex : ∃ (k : Nat) (q : List Pkt), qs[k]? = some q ∧ mkq p.1 p.2.2.1 q
  · obtain ⟨k, q, hq, hmk⟩ := hex
    have hk := (List.getElem?_eq_some_iff.1 hq).1
    obtain ⟨v0, hvk⟩ := get_ex (l := vs) (k := k) (by omega)
    have hRG := hR.at_ k v0 q hvk hq
    have hkey := hRG.key.2 hmk
    obtain ⟨fr2, id2, n, rfl, hQ, hl, hc⟩ := hRG
    obtain rfl : fr2 = fr := hkey.1.trans hp1
    obtain rfl : id2 = id := hkey.2.2.trans hp2
    replace hvk : vs[k]? = some (fr2, 3, id2, hv n (fq q), dq n q) := hvk
    have hbf : ∀ (i : Nat) (z : GV), i < k → vs[i]? = some z → ¬ vkey fr2 3 id2 z := fun i z hi hz hkz => by
      have := hR.uq i k z _ hz hvk hkz.1 hkz.2.2
      omega
    have hg1 : g1 q p = decide (((n : Nat) : Int) = ((cn : Nat) : Int)) := by rw [g1_eq hQ hl, hpc]
    have ha : q.any (fun y => pix y == pix p) = fq q ix := by rw [fq, hp]
    by_cases hn : n = cn
    · subst hn
      have hg : gd q p = !(fq q ix) := by rw [gd, hg1, ha, decide_eq_true rfl, Bool.true_and]
      cases hf : fq q ix with
      | true =>
        refine Calls.mono (add_hit_rejT9 hS hM fr2 3 id2 ix n hd h1 h2 h3 hvk hbf (hv_len _ _) (by rw [hv_get h1, hf])) ?_
        rintro e w' ⟨v, hev, L', hM', hv', hS'⟩
        exact ⟨v, hev, vs, L', [], [], none, 0, [], false, hM', Own.nil _ _, hv', AR.hit hR hq hmk (NX.bad hR (by rw [hg, hf]; rfl)), hS'.nil⟩
      | false =>
        have hgt : gd q p = true := by rw [hg, hf]; rfl
        have hcu := cnt_up hf n h1
        rw [up_fq hp] at hcu
        have hct := hQ.ct
        have hQ2 := hQ.put hp hf h1 hp1 hp2 hpc
        have hV := vof_put (fr := fr2) (id := id2) hp hf h1
        rw [hpd] at hV
        have hD : (dq n q).set ix bs = dq n (q ++ [p]) := by have := dq_set hp hf h1; rw [hpd] at this; exact this
        by_cases hcc : 2 ≤ cnt n (fq q)
        · refine Calls.mono (add_hit_put9 hS hM fr2 3 id2 ix n hd h1 h2 h3 hvk hbf (hv_len _ _) (by rw [hv_get h1, hf]) (any_more hf h1 hcc)) ?_
          rintro e w' ⟨v, hev, L', E, hM', hv', hS'⟩
          rw [hV] at hM'
          exact ⟨v, hev, _, L', E, [], none, 0, [], false, hM', Own.nil _ _, hv', AR.hit hR hq hmk (NX.put hgt (hR.set hvk ⟨fr2, id2, n, rfl, hQ2, by rw [List.length_append]; exact Nat.succ_pos _, by omega⟩ rfl rfl) (by omega)), hS'.nil⟩
        · have hc1 : cnt n (fq q) = 1 := by omega
          refine Calls.mono (add_hit_full9 hS hM fr2 3 id2 ix n hd h1 h2 h3 hvk hbf (hv_len _ _) (by rw [hv_get h1, hf]) (any_last hf h1 hc1)) ?_
          rintro e w' ⟨v, hev, L', E, C, v1, hM', hO', hv', hS'⟩
          rw [hD] at hO'
          obtain ⟨A1, c1, rfl, _, _⟩ := hO'.open'
          exact ⟨v, hev, _, L', E, C, A1, c1, _, true, hM', hO', hv', AR.hit hR hq hmk (NX.full hgt (hR.del k) (by omega)), hS'.front 2 (C := C) (L' := L' :: (E ++ D) :: F) rfl rfl⟩
    · refine Calls.mono (add_hit_rejL9 hS hM fr2 3 id2 ix cn hd h1 h2 h3 hvk hbf (by rw [hv_len]; exact hn)) ?_
      rintro e w' ⟨v, hev, L', hM', hv', hS'⟩
      exact ⟨v, hev, vs, L', [], [], none, 0, [], false, hM', Own.nil _ _, hv', AR.hit hR hq hmk (NX.bad hR (by rw [gd, hg1, decide_eq_false (by omega), Bool.false_and])), hS'.nil⟩
  · have hno : ∀ (j : Nat) (q : List Pkt), qs[j]? = some q → ¬ mkq p.1 p.2.2.1 q := fun j q hq hm => hex ⟨j, q, hq, hm⟩
    have hnv : ∀ (i : Nat) (z : GV), vs[i]? = some z → ¬ vkey fr 3 id z := fun i z hz hkz => by
      have hi := (List.getElem?_eq_some_iff.1 hz).1
      obtain ⟨q, hq⟩ := get_ex (l := qs) (k := i) (by omega)
      exact hno i q hq (by rw [hp1, hp2]; exact (hR.at_ i z q hz hq).key.1 hkz)
    have hf : fq [] ix = false := rfl
    have hcn := cnt_full fq_nil cn
    have hcu := cnt_up hf cn h1
    rw [up_fq hp] at hcu
    have hV := vof_put (fr := fr) (id := id) hp hf h1
    rw [hpd, hv_none fq_nil, dq_nil] at hV
    have hD : (List.replicate cn []).set ix bs = dq cn ([] ++ [p]) := by have := dq_set hp hf h1; rw [hpd, dq_nil] at this; exact this
    have hQ2 := (RQ.nil fr id h2).put hp hf h1 hp1 hp2 hpc
    have hgt : gd [] p = true := rfl
    have hm : 2 ≤ cn → ((List.replicate cn false).set ix true).any (fun y => y == false) = true := fun h => by rw [← hv_none (n := cn) fq_nil]; exact any_more hf h1 (by omega)
    have hs : cn = 1 → ((List.replicate cn false).set ix true).any (fun y => y == false) = false := fun h => by rw [← hv_none (n := cn) fq_nil]; exact any_last hf h1 (by omega)
    have hRG : 2 ≤ cn → RG (vof fr id cn ([] ++ [p])) ([] ++ [p]) := fun h => ⟨fr, id, cn, rfl, hQ2, Nat.succ_pos _, by omega⟩
    by_cases hl : vs.length = 16
    · have e16 : q16 qs = qs.drop 1 := if_pos (by omega)
      have hR1 := hR.drop1
      by_cases hc : 2 ≤ cn
      · refine Calls.mono (add_new16_put9 hS hM fr 3 id ix cn hd h1 h2 h3 hnv hl (hm hc)) ?_
        rintro e w' ⟨v, hev, L', E, hM', hv', hS'⟩
        rw [hV] at hM'
        exact ⟨v, hev, _, L', E, [], none, 0, [], false, hM', Own.nil _ _, hv', AR.new hno (NX.put hgt (by rw [set_last, e16]; exact hR1.snoc (hRG hc) (by rw [List.length_drop]; omega) (fun i z hz hk => hnv (1 + i) z (by rw [List.getElem?_drop] at hz; exact hz) ⟨hk.1, by rw [List.getElem?_drop] at hz; have h9 := (List.getElem?_eq_some_iff.1 hz).1; obtain ⟨q9, hq9⟩ := get_ex (l := qs) (k := 1 + i) (by omega); obtain ⟨_, _, _, rfl, _⟩ := hR.at_ _ _ _ hz hq9; rfl, hk.2⟩)) (by show ¬ 0 + 1 = cn; omega)), hS'.nil⟩
      · refine Calls.mono (add_new16_full9 hS hM fr 3 id ix cn hd h1 h2 h3 hnv hl (hs (by omega))) ?_
        rintro e w' ⟨v, hev, L', E, C, v1, hM', hO', hv', hS'⟩
        rw [hD] at hO'
        obtain ⟨A1, c1, rfl, _, _⟩ := hO'.open'
        exact ⟨v, hev, _, L', E, C, A1, c1, _, true, hM', hO', hv', AR.new hno (NX.full hgt (by rw [del_last, e16]; exact hR1) (by show 0 + 1 = cn; omega)), hS'.front 2 (C := C) (L' := L' :: (E ++ D) :: F) rfl rfl⟩
    · have hle := hR.le
      have e16 : q16 qs = qs := if_neg (by omega)
      by_cases hc : 2 ≤ cn
      · refine Calls.mono (add_new_put9 hS hM fr 3 id ix cn hd h1 h2 h3 hnv (by omega) (hm hc)) ?_
        rintro e w' ⟨v, hev, L', E, hM', hv', hS'⟩
        rw [hV] at hM'
        exact ⟨v, hev, _, L', E, [], none, 0, [], false, hM', Own.nil _ _, hv', AR.new hno (NX.put hgt (by rw [set_last, e16]; exact hR.snoc (hRG hc) (by omega) (fun i z hz hk => hnv i z hz ⟨hk.1, by have h9 := (List.getElem?_eq_some_iff.1 hz).1; obtain ⟨q9, hq9⟩ := get_ex (l := qs) (k := i) (by omega); obtain ⟨_, _, _, rfl, _⟩ := hR.at_ _ _ _ hz hq9; rfl, hk.2⟩)) (by show ¬ 0 + 1 = cn; omega)), hS'.nil⟩
      · refine Calls.mono (add_new_full9 hS hM fr 3 id ix cn hd h1 h2 h3 hnv (by omega) (hs (by omega))) ?_
        rintro e w' ⟨v, hev, L', E, C, v1, hM', hO', hv', hS'⟩
        rw [hD] at hO'
        obtain ⟨A1, c1, rfl, _, _⟩ := hO'.open'
        exact ⟨v, hev, _, L', E, C, A1, c1, _, true, hM', hO', hv', AR.new hno (NX.full hgt (by rw [del_last, e16]; exact hR) (by show 0 + 1 = cn; omega)), hS'.front 2 (C := C) (L' := L' :: (E ++ D) :: F) rfl rfl⟩
theorem d1_app (a b : List Pkt) (i : Nat) : d1 (a ++ b) i = d1 a i ++ d1 b i := by
  rw [d1, d1, d1, List.filter_append, List.map_append, List.flatten_append]
theorem d1_one_y {y : Pkt} {i : Nat} (h : pix y = ((i : Nat) : Int)) : d1 [y] i = pdat y := by
  have e : (pix y == ((i : Nat) : Int)) = true := by rw [h]; simp
  rw [d1, List.filter_cons, e]; simp
theorem d1_one_n {y : Pkt} {i : Nat} (h : ¬ pix y = ((i : Nat) : Int)) : d1 [y] i = [] := by
  have e : (pix y == ((i : Nat) : Int)) = false := by rw [Bool.eq_false_iff]; simpa using h
  rw [d1, List.filter_cons, e]; rfl
theorem tk_snoc {α : Type} {q : List α} {j : Nat} {y : α} (h : q[j]? = some y) : q.take (j + 1) = q.take j ++ [y] := by rw [List.take_add_one, h]; rfl
theorem dp_yes {q : List Pkt} {j i : Nat} {y : Pkt} (h : q[j]? = some y) (hy : pix y = ((i : Nat) : Int)) : d1 (q.take (j + 1)) i = d1 (q.take j) i ++ pdat y := by rw [tk_snoc h, d1_app, d1_one_y hy]
theorem dp_no {q : List Pkt} {j i : Nat} {y : Pkt} (h : q[j]? = some y) (hy : ¬ pix y = ((i : Nat) : Int)) : d1 (q.take (j + 1)) i = d1 (q.take j) i := by rw [tk_snoc h, d1_app, d1_one_n hy, List.append_nil]
theorem dq_succ (q : List Pkt) (n : Nat) : (dq (n + 1) q).flatten = (dq n q).flatten ++ d1 q n := by
  rw [dq, dq, List.range_succ, List.map_append, List.flatten_append]; simp
theorem dq_mono (q : List Pkt) (i : Nat) : ∀ n, i ≤ n → (dq i q).flatten.length ≤ (dq n q).flatten.length
  | 0, h => by rw [show i = 0 by omega]; exact Nat.le_refl _
  | n + 1, h => by
    rcases Nat.lt_or_ge n i with h2 | h2
    · rw [show i = n + 1 by omega]; exact Nat.le_refl _
    · have := dq_mono q i n h2
      rw [dq_succ, List.length_append]; omega
theorem dp_len (q : List Pkt) (i j : Nat) {n : Nat} (h : i < n) : (dq i q).flatten.length + (d1 (q.take j) i).length ≤ (dq n q).flatten.length := by
  have h1 := dq_mono q (i + 1) n h
  have h2 : d1 q i = d1 (q.take j) i ++ d1 (q.drop j) i := by rw [← d1_app, List.take_append_drop]
  rw [dq_succ, List.length_append, h2, List.length_append] at h1
  omega
def FI (qs : List (List Pkt)) (fr id : Int) (i : Nat) (aq : Int) : Prop := (aq = -1 ∧ ∀ (j : Nat) (q : List Pkt), j < i → qs[j]? = some q → ¬ mkq fr id q) ∨ ∃ (k : Nat) (q : List Pkt), k < i ∧ aq = ((k : Nat) : Int) ∧ qs[k]? = some q ∧ mkq fr id q
theorem FI.zero {qs : List (List Pkt)} {fr id : Int} : FI qs fr id 0 (-1) := .inl ⟨rfl, fun j q h => absurd h (by omega)⟩
theorem FI.hit {qs : List (List Pkt)} {fr id : Int} {i : Nat} {q : List Pkt} (h : qs[i]? = some q) (hm : mkq fr id q) : FI qs fr id (i + 1) ((i : Nat) : Int) := .inr ⟨i, q, by omega, rfl, h, hm⟩
theorem FI.no {qs : List (List Pkt)} {fr id : Int} {i : Nat} {aq : Int} {q : List Pkt} (h0 : FI qs fr id i aq) (h : qs[i]? = some q) (hm : ¬ mkq fr id q) : FI qs fr id (i + 1) aq := by
  rcases h0 with ⟨e, h1⟩ | ⟨k, q2, h1, h2⟩
  · refine .inl ⟨e, fun j q3 hj h3 => ?_⟩
    rcases Nat.lt_succ_iff_lt_or_eq.1 hj with hj | rfl
    · exact h1 j q3 hj h3
    · rw [h] at h3; injection h3 with h3; rw [← h3]; exact hm
  · exact .inr ⟨k, q2, by omega, h2⟩
theorem FI.bnd {qs : List (List Pkt)} {fr id : Int} {i : Nat} {aq : Int} (h : FI qs fr id i aq) : -1 ≤ aq ∧ aq < ((i : Nat) : Int) := by
  rcases h with ⟨e, _⟩ | ⟨k, q, h1, e, _⟩ <;> omega
theorem mk_of {fr id : Int} {y : Pkt} {q : List Pkt} : mkq fr id (y :: q) ↔ y.1 = fr ∧ y.2.2.1 = id :=
  ⟨fun ⟨y2, q2, e, h1, h2⟩ => by injection e with e1 e2; subst e1; exact ⟨h1, h2⟩, fun h => ⟨y, q, rfl, h.1, h.2⟩⟩
theorem any_succ {q : List Pkt} {f : Pkt → Bool} {i : Nat} {y : Pkt} (h : q[i]? = some y) : (q.take (i + 1)).any f = ((q.take i).any f || f y) := by rw [tk_snoc h, List.any_append]; simp
theorem an_f {q : List Pkt} {f : Pkt → Bool} {i : Nat} {y : Pkt} {a : Bool} (h : q[i]? = some y) (hg : false = (a && !(q.take i).any f)) : false = (a && !(q.take (i + 1)).any f) := by
  rw [any_succ h]
  cases a
  · rfl
  · cases h2 : (q.take i).any f
    · rw [h2] at hg; cases hg
    · rfl
theorem an_y {q : List Pkt} {f : Pkt → Bool} {i : Nat} {y : Pkt} {a : Bool} (h : q[i]? = some y) (hy : f y = true) : false = (a && !(q.take (i + 1)).any f) := by rw [any_succ h, hy, Bool.or_true]; simp
theorem an_n {q : List Pkt} {f : Pkt → Bool} {i : Nat} {y : Pkt} {a : Bool} (h : q[i]? = some y) (hy : f y = false) (hg : true = (a && !(q.take i).any f)) : true = (a && !(q.take (i + 1)).any f) := by rw [any_succ h, hy, Bool.or_false]; exact hg
theorem q16_map {os : List OPk} (h : os.length = 16) : q16 (os.map oq) = (os.drop 1).map oq := by rw [q16, if_pos (by rw [List.length_map]; exact h), List.map_drop]
theorem q16_map' {os : List OPk} (h : ¬ os.length = 16) : q16 (os.map oq) = os.map oq := by rw [q16, if_neg (by rw [List.length_map]; exact h)]
theorem new_map {os : List OPk} {qs : List (List Pkt)} (h : qs = os.map oq) : (os ++ [((none, 0, []) : OPk)]).map oq = qs ++ [[]] ∧ qs.length = os.length := by subst h; exact ⟨by rw [List.map_append]; rfl, List.length_map ..⟩
theorem map_ex {os : List OPk} {k : Nat} {q : List Pkt} (h : (os.map oq)[k]? = some q) : ∃ (A : Option Addr) (c : Nat), os[k]? = some (A, c, q) := by
  rw [List.getElem?_map] at h
  cases hx : os[k]? with
  | none => rw [hx] at h; cases h
  | some x => rw [hx] at h; injection h with h; obtain ⟨A, c, q2⟩ := x; exact ⟨A, c, by rw [← h]; rfl⟩
theorem map_get {os : List OPk} {k : Nat} {A : Option Addr} {c : Nat} {q : List Pkt} (h : os[k]? = some (A, c, q)) : (os.map oq)[k]? = some q := by rw [List.getElem?_map, h]; rfl
theorem map_setq {os : List OPk} {k : Nat} {x : OPk} : (os.set k x).map oq = (os.map oq).set k (oq x) := List.map_set ..
theorem set_td {α : Type} {l : List α} {k : Nat} {x : α} : (l.set k x).take k ++ (l.set k x).drop (k + 1) = l.take k ++ l.drop (k + 1) := by
  rw [← List.eraseIdx_eq_take_drop_succ, ← List.eraseIdx_eq_take_drop_succ, List.eraseIdx_set_eq]
theorem map_td {os : List OPk} {k : Nat} : (os.take k ++ os.drop (k + 1)).map oq = (os.map oq).take k ++ (os.map oq).drop (k + 1) := by rw [List.map_append, List.map_take, List.map_drop]
theorem ro_set {w0 : World} {Q E : Chunk} {os : List OPk} {k : Nat} {x : OPk} (h : ∀ y ∈ os, RO w0 Q y) (hx : RO w0 E x) : ∀ y ∈ os.set k x, RO w0 (E ++ Q) y := fun y hy => by
  rcases List.mem_or_eq_of_mem_set hy with hy | rfl
  · exact (h y hy).left
  · exact hx.right
theorem go_set {w0 : World} {os : List OPk} {k : Nat} {x : OPk} (h : ∀ z ∈ os, ∀ y ∈ oq z, ∀ D, encPacket_dd w0 D y) (hx : ∀ y ∈ oq x, ∀ D, encPacket_dd w0 D y) : ∀ z ∈ os.set k x, ∀ y ∈ oq z, ∀ D, encPacket_dd w0 D y := fun z hz => by
  rcases List.mem_or_eq_of_mem_set hz with hz | rfl
  · exact h z hz
  · exact hx
theorem gp_snoc {w0 : World} {q : List Pkt} {p : Pkt} (h : ∀ y ∈ q, ∀ D, encPacket_dd w0 D y) (hx : ∀ D, encPacket_dd w0 D p) : ∀ y ∈ q ++ [p], ∀ D, encPacket_dd w0 D y := fun y hy => by
  rcases List.mem_append.1 hy with hy | hy
  · exact h y hy
  · rw [List.mem_singleton.1 hy]; exact hx
theorem NX.rlF {vs : List GV} {os : List OPk} {k : Nat} {q : List Pkt} {p : Pkt} {cn : Nat} {bsr : List UInt8} {okb : Bool} (h : NX vs (os.map oq) k q p cn bsr okb) (hg : gd q p = false) : okb = false ∧ RL vs (os.map oq) := by
  have ho := h.ok
  rw [hg, Bool.false_and] at ho
  have hr := h.rl
  rw [ho, if_neg (by decide), hg, if_neg (by decide)] at hr
  exact ⟨ho, hr⟩
theorem NX.rlP {vs : List GV} {os os3 : List OPk} {k : Nat} {q : List Pkt} {p : Pkt} {cn : Nat} {bsr : List UInt8} {okb : Bool} (h : NX vs (os.map oq) k q p cn bsr okb) (hg : gd q p = true) (hn : ¬ q.length + 1 = cn) (h3 : os3.map oq = (os.map oq).set k (q ++ [p])) : okb = false ∧ RL vs (os3.map oq) := by
  have ho := h.ok
  rw [decide_eq_false hn, Bool.and_false] at ho
  have hr := h.rl
  rw [ho, if_neg (by decide), if_pos hg, ← h3] at hr
  exact ⟨ho, hr⟩
theorem NX.rlT {vs : List GV} {os os3 : List OPk} {k : Nat} {q : List Pkt} {p : Pkt} {cn : Nat} {bsr : List UInt8} {okb : Bool} (h : NX vs (os.map oq) k q p cn bsr okb) (hg : gd q p = true) (hn : q.length + 1 = cn) (h3 : os3.map oq = (os.map oq).set k (q ++ [p])) : okb = true ∧ RL vs ((os3.take k ++ os3.drop (k + 1)).map oq) := by
  have ho := h.ok
  rw [decide_eq_true hn, hg] at ho
  have hr := h.rl
  rw [if_pos (show okb = true from ho)] at hr
  rw [map_td, h3, set_td]
  exact ⟨ho, hr⟩
theorem RL.ql {vs : List GV} {qs : List (List Pkt)} (h : RL vs qs) {k : Nat} {q : List Pkt} (hq : qs[k]? = some q) : 0 < q.length ∧ q.length ≤ 256 := by
  have hl := h.len
  have hk := (List.getElem?_eq_some_iff.1 hq).1
  obtain ⟨v, hv⟩ := get_ex (l := vs) (k := k) (by omega)
  obtain ⟨fr, id, n, _, hQ, h0, _⟩ := h.at_ k v q hv hq
  have a := hQ.ct; have b := hQ.l2
  exact ⟨h0, by omega⟩
theorem gd_eq {q : List Pkt} {p : Pkt} {b : Bool} (h : b = (g1 q p && !(q.take q.length).any (fun y => pix y == pix p))) : b = gd q p := by rw [List.take_length] at h; exact h
theorem add_all {P : OPk → Prop} {os : List OPk} {x : OPk} (h : ∀ y ∈ os, P y) (hx : P x) : ∀ y ∈ os ++ [x], P y := fun y hy => (List.mem_append.1 hy).elim (h y) (fun h2 => by rw [List.mem_singleton.1 h2]; exact hx)
theorem dr_all {P : OPk → Prop} {os : List OPk} (h : ∀ y ∈ os, P y) : ∀ y ∈ os.drop 1, P y := fun y hy => h y (List.mem_of_mem_drop hy)
theorem snoc_at {os : List OPk} {x : OPk} : (os ++ [x])[os.length]? = some x := by rw [List.getElem?_append_right (Nat.le_refl _), Nat.sub_self]; rfl
section
open Go.ChangeShapes Go.WideShapes Go.RowKit
def encCome (x : Int × Int × Int × Option Addr × Nat × List UInt8) : List Value := [.int .u8 x.1, .int .i8 x.2.1, .int .i8 x.2.2.1, .slice x.2.2.2.1 x.2.2.2.2.2.length x.2.2.2.2.1]
theorem encCome_ok : Enc encCome 4 := ⟨fun _ => rfl, fun x u hu => by simp only [encCome, List.mem_cons, List.not_mem_nil, or_false] at hu; rcases hu with rfl | rfl | rfl | rfl <;> rfl⟩
def encCome_dd (w0 : World) (D : Chunk) (x : Int × Int × Int × Option Addr × Nat × List UInt8) : Prop := DD w0 D x.2.2.2.1 x.2.2.2.2.1 x.2.2.2.2.2
theorem encCome_left {w0 : World} {D E : Chunk} {x : Int × Int × Int × Option Addr × Nat × List UInt8} (h : encCome_dd w0 D x) : encCome_dd w0 (E ++ D) x := DD.left h
theorem encCome_lefts {w0 : World} {D E : Chunk} {l : List (Int × Int × Int × Option Addr × Nat × List UInt8)} (h : ∀ x ∈ l, encCome_dd w0 D x) : ∀ x ∈ l, encCome_dd w0 (E ++ D) x := fun x hx => encCome_left (h x hx)
def encCome_good (w : World) (x : (Int × Int × Int × Option Addr × Nat × List UInt8)) : Prop := (0 ≤ x.1 ∧ x.1 < 256) ∧ (-128 ≤ x.2.1 ∧ x.2.1 < 128) ∧ (-128 ≤ x.2.2.1 ∧ x.2.2.1 < 128) ∧ (RdX w 1 (.slice x.2.2.2.1 x.2.2.2.2.2.length x.2.2.2.2.1) x.2.2.2.2.2.length (rows encB x.2.2.2.2.2) ∧ x.2.2.2.2.2.length ≤ 140737488351232)
theorem dec_encCome {H : Type} {enc : TypeId × Value → H} {w : World} {spare : Nat → Bool} {held : Bool} : ∀ n cs x, DataW.trod enc Try.prog w 0 spare held n 46 cs = some x → WOk Try.prog 46 x.1 → ∃ a, cs = encCome a ∧ encCome_good w a := fun n cs x h hw => by
  obtain ⟨xs, m, _, hx, hl, hxl, hf⟩ := DataW.trod_struct Try.underlying46 h
  subst hx
  have hc : Try.prog.cellsOf 46 = 4 := by kernel_rfl
  rw [hc] at hl
  obtain ⟨c0, c1, c2, c3, rfl⟩ : ∃ c0 c1 c2 c3, cs = [c0, c1, c2, c3] := by
    match cs, hl with
    | [c0, c1, c2, c3], _ => exact ⟨_, _, _, _, rfl⟩
  obtain ⟨y0, hy0⟩ : ∃ y, xs[0]? = some y := ⟨_, List.getElem?_eq_getElem (by rw [hxl]; decide)⟩
  have h0 : DataW.trod enc Try.prog w 0 spare held m 5 (([c0, c1, c2, c3].drop 0).take (Try.prog.cellsOf 5)) = xs[0]? := hf 0 _ rfl
  have k0 : Try.prog.cellsOf 5 = 1 := by kernel_rfl
  have w0 : WOk Try.prog 5 y0.1 := hw.part Try.underlying46 (i := 0) rfl (by rw [List.getElem?_map, hy0]; rfl)
  rw [k0, hy0] at h0
  obtain ⟨n0, e0, _, g0⟩ := DataW.trod_int Try.underlying5 h0
  simp only [List.drop_succ_cons, List.drop_zero, List.take_succ_cons, List.take_zero] at e0
  injection e0 with e0 _
  obtain ⟨y1, hy1⟩ : ∃ y, xs[1]? = some y := ⟨_, List.getElem?_eq_getElem (by rw [hxl]; decide)⟩
  have h1 : DataW.trod enc Try.prog w 0 spare held m 44 (([c0, c1, c2, c3].drop 1).take (Try.prog.cellsOf 44)) = xs[1]? := hf 1 _ rfl
  have k1 : Try.prog.cellsOf 44 = 1 := by kernel_rfl
  have w1 : WOk Try.prog 44 y1.1 := hw.part Try.underlying46 (i := 1) rfl (by rw [List.getElem?_map, hy1]; rfl)
  rw [k1, hy1] at h1
  obtain ⟨n1, e1, _, g1⟩ := DataW.trod_int Try.underlying44 h1
  simp only [List.drop_succ_cons, List.drop_zero, List.take_succ_cons, List.take_zero] at e1
  injection e1 with e1 _
  obtain ⟨y2, hy2⟩ : ∃ y, xs[2]? = some y := ⟨_, List.getElem?_eq_getElem (by rw [hxl]; decide)⟩
  have h2 : DataW.trod enc Try.prog w 0 spare held m 44 (([c0, c1, c2, c3].drop 2).take (Try.prog.cellsOf 44)) = xs[2]? := hf 2 _ rfl
  have k2 : Try.prog.cellsOf 44 = 1 := by kernel_rfl
  have w2 : WOk Try.prog 44 y2.1 := hw.part Try.underlying46 (i := 2) rfl (by rw [List.getElem?_map, hy2]; rfl)
  rw [k2, hy2] at h2
  obtain ⟨n2, e2, _, g2⟩ := DataW.trod_int Try.underlying44 h2
  simp only [List.drop_succ_cons, List.drop_zero, List.take_succ_cons, List.take_zero] at e2
  injection e2 with e2 _
  obtain ⟨y3, hy3⟩ : ∃ y, xs[3]? = some y := ⟨_, List.getElem?_eq_getElem (by rw [hxl]; decide)⟩
  have h3 : DataW.trod enc Try.prog w 0 spare held m 22 (([c0, c1, c2, c3].drop 3).take (Try.prog.cellsOf 22)) = xs[3]? := hf 3 _ rfl
  have k3 : Try.prog.cellsOf 22 = 1 := by kernel_rfl
  have w3 : WOk Try.prog 22 y3.1 := hw.part Try.underlying46 (i := 3) rfl (by rw [List.getElem?_map, hy3]; rfl)
  rw [k3, hy3] at h3
  obtain ⟨A3, d3, b3, e3, g3⟩ := dec_bytes Try.underlying22 Try.underlying5 (by kernel_rfl) (by kernel_rfl) _ _ _ h3 w3
  simp only [List.drop_succ_cons, List.drop_zero, List.take_succ_cons, List.take_zero] at e3
  injection e3 with e3 _
  subst e0
  subst e1
  subst e2
  subst e3
  exact ⟨(n0, n1, n2, A3, d3, b3), rfl, ⟨wf_u8 g0, wf_i8 g1, wf_i8 g2, g3⟩⟩
theorem encCome_gdd {w : World} {D : Chunk} {x : (Int × Int × Int × Option Addr × Nat × List UInt8)} (h : encCome_good w x) : encCome_dd w D x := DD.of (h.2.2.2).1
end
theorem pkt11 {w0 w : World} {F : List Chunk} (hS : St w0 w F) (f0 f1 f2 : Int) (A : Option Addr) (c : Nat) (b : List UInt8) (h0 : 0 ≤ f0 ∧ f0 < 256) (h1 : -128 ≤ f1 ∧ f1 < 128) (h2 : -128 ≤ f2 ∧ f2 < 128) :
    Ret Try.prog 11 #[.agg #[.int .u8 f0, .int .i8 f1, .int .i8 f2, .slice A b.length c]] w (fun v w' => v = .agg #[.int .i64 (f0.tmod 2), .int .i64 3, .int .u64 (f0.tmod 24), .int .i64 f1, .int .i64 f2, .slice A b.length c] ∧ St w0 w' F) := by
  have hm2 : f0.tmod 2 = f0 % 2 := Int.tmod_eq_emod_of_nonneg (by omega); have hm24 : f0.tmod 24 = f0 % 24 := Int.tmod_eq_emod_of_nonneg (by omega)
  have hq2 : 0 ≤ f0.tmod 2 ∧ f0.tmod 2 < 2 := by omega
  have hq24 : 0 ≤ f0.tmod 24 ∧ f0.tmod 24 < 24 := by omega
  clear hm2 hm24
  refine enter (vs := [.agg #[.int .u8 f0, .int .i8 f1, .int .i8 f2, .slice A b.length c]]) 20 Try.func11 rfl rfl (by simp) ?_; intro a hA
  refine wp_seq ?_
  refine wp_region_lit ?_
  refine st_box hA hS [.int .u8 f0, .int .i8 f1, .int .i8 f2, .slice A b.length c] rfl rfl rfl rfl rfl (by decide) ?_; clear hA hS; intro b1 w2 a hS hA
  refine st_alloc tbOk hA hS [.int .i64 0, .int .i64 0, .int .u64 0, .int .i64 0, .int .i64 0, .slice none 0 0] rfl rfl rfl rfl rfl (by decide) ?_; clear hA hS; intro b3 w4 a hS hA
  refine wpList_nil ?_
  replace hA := hA.sel [1, 2] (e' := [(1, .pointer (some ⟨b1, 0, none⟩)), (2, .pointer (some ⟨b3, 0, none⟩))]) rfl
  refine xt_norm ?_
  refine wp_seq ?_
  refine wp_region_lit ?_
  refine st_run tbOk 1 hA (e' := (3, .pointer (some ⟨b1, 0, none⟩)) :: _) rfl ?_; clear hA; intro a hA
  refine st_val hA rfl rfl (by decide) (rn_load tbOk hA rfl rfl rfl rfl (cell_row (hS.heapAt 1 rfl) rfl)) ?_; clear hA; intro a hA
  refine st_run tbOk 1 hA (e' := (5, .int .u8 (f0.tmod 2)) :: _) rfl ?_; clear hA; intro a hA
  refine st_run tbOk 1 hA (e' := (6, .int .i64 (IntKind.i64.wrap (f0.tmod 2))) :: _) rfl ?_; clear hA; intro a hA
  replace hA := hA.rw 6 (v' := .int .i64 (f0.tmod 2)) rfl (wr64 (by rfl) (by omega) (by omega))
  refine st_run tbOk 1 hA (e' := (7, .pointer (some ⟨b1, 0, none⟩)) :: _) rfl ?_; clear hA; intro a hA
  refine st_val hA rfl rfl (by decide) (rn_load tbOk hA rfl rfl rfl rfl (cell_row (hS.heapAt 1 rfl) rfl)) ?_; clear hA; intro a hA
  refine st_run tbOk 1 hA (e' := (9, .int .u8 (f0.tmod 24)) :: _) rfl ?_; clear hA; intro a hA
  refine st_run tbOk 1 hA (e' := (10, .int .u64 (IntKind.u64.wrap (f0.tmod 24))) :: _) rfl ?_; clear hA; intro a hA
  replace hA := hA.rw 10 (v' := .int .u64 (f0.tmod 24)) rfl (by rw [wrap_u64 (by omega) (by omega)])
  refine st_run tbOk 1 hA (e' := (11, .pointer (some ⟨b1, 1, none⟩)) :: _) rfl ?_; clear hA; intro a hA
  refine st_val hA rfl rfl (by decide) (rn_load tbOk hA rfl rfl rfl rfl (cell_row (hS.heapAt 1 rfl) rfl)) ?_; clear hA; intro a hA
  refine st_run tbOk 1 hA (e' := (13, .int .i64 (IntKind.i64.wrap f1)) :: _) rfl ?_; clear hA; intro a hA
  replace hA := hA.rw 13 (v' := .int .i64 f1) rfl (wr64 (by rfl) (by omega) (by omega))
  refine st_run tbOk 1 hA (e' := (14, .pointer (some ⟨b1, 2, none⟩)) :: _) rfl ?_; clear hA; intro a hA
  refine st_val hA rfl rfl (by decide) (rn_load tbOk hA rfl rfl rfl rfl (cell_row (hS.heapAt 1 rfl) rfl)) ?_; clear hA; intro a hA
  refine st_run tbOk 1 hA (e' := (16, .int .i64 (IntKind.i64.wrap f2)) :: _) rfl ?_; clear hA; intro a hA
  replace hA := hA.rw 16 (v' := .int .i64 f2) rfl (wr64 (by rfl) (by omega) (by omega))
  refine st_run tbOk 1 hA (e' := (17, .pointer (some ⟨b1, 3, none⟩)) :: _) rfl ?_; clear hA; intro a hA
  refine st_val hA rfl rfl (by decide) (rn_load tbOk hA rfl rfl rfl rfl (cell_row (hS.heapAt 1 rfl) rfl)) ?_; clear hA; intro a hA
  refine st_val hA rfl rfl (by decide) (rn_build tbOk hA rfl rfl rfl rfl rfl rfl rfl) ?_; clear hA; intro a hA
  refine st_store tbOk hA hS [.int .i64 (f0.tmod 2), .int .i64 3, .int .u64 (f0.tmod 24), .int .i64 f1, .int .i64 f2, .slice A b.length c] [.int .i64 (f0.tmod 2), .int .i64 3, .int .u64 (f0.tmod 24), .int .i64 f1, .int .i64 f2, .slice A b.length c] rfl rfl rfl rfl rfl rfl (by simp [Value.oneCell']) (Nat.le_of_ble_eq_true rfl) rfl rfl rfl ?_; clear hS; intro w5 hS
  refine wpList_nil ?_
  replace hA := hA.sel [2] (e' := [(2, .pointer (some ⟨b3, 0, none⟩))]) rfl
  refine xt_norm ?_
  refine wp_ret ?_
  refine retc1 tbOk (fn := Try.f11) (cs := [.int .i64 (f0.tmod 2), .int .i64 3, .int .u64 (f0.tmod 24), .int .i64 f1, .int .i64 f2, .slice A b.length c]) hA rfl rfl rfl rfl rfl (cells_row (hS.heapAt 0 rfl) rfl) ?_
  replace hS := hS.drop1
  replace hS := hS.drop1
  exact ⟨rfl, hS⟩
end Go.Proofs.Ytbfdppfddlilgaa
