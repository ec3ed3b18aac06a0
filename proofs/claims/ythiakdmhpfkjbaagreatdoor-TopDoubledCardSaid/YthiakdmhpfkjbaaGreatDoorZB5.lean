import Derived.Test.YthiakdmhpfkjbaaGreatDoorZB4
set_option linter.unusedVariables false
set_option linter.unusedSimpArgs false
set_option linter.unusedVariables false
set_option linter.unusedSimpArgs false
set_option maxRecDepth 4000
namespace Go.Proofs.YthiakdmhpfkjbaaGreatDoor
open Go Go.SK
def gfind (fr to id : Int) : List GV → Option (Nat × GV)
  | [] => none
  | z :: l => if z.1 = fr ∧ z.2.1 = to ∧ z.2.2.1 = id then some (0, z) else (gfind fr to id l).map (fun r => (r.1 + 1, r.2))
theorem gfind_none {fr to id : Int} : ∀ {vs : List GV}, gfind fr to id vs = none → ∀ (i : Nat) (z : GV), vs[i]? = some z → ¬ vkey fr to id z
  | [], _, i, z, h => by cases h
  | y :: l, h, i, z, hz => by
    rw [gfind] at h
    by_cases hy : y.1 = fr ∧ y.2.1 = to ∧ y.2.2.1 = id
    · rw [if_pos hy] at h; cases h
    · rw [if_neg hy] at h
      have h2 : gfind fr to id l = none := by
        cases hq : gfind fr to id l with
        | none => rfl
        | some r => rw [hq] at h; cases h
      cases i with
      | zero => injection hz with hz; subst hz; exact hy
      | succ i => exact gfind_none h2 i z hz
theorem gfind_some {fr to id : Int} : ∀ {vs : List GV} {k : Nat} {z : GV}, gfind fr to id vs = some (k, z) → vs[k]? = some z ∧ vkey fr to id z ∧ ∀ (i : Nat) (y : GV), i < k → vs[i]? = some y → ¬ vkey fr to id y
  | [], k, z, h => by cases h
  | y :: l, k, z, h => by
    rw [gfind] at h
    by_cases hy : y.1 = fr ∧ y.2.1 = to ∧ y.2.2.1 = id
    · rw [if_pos hy] at h; injection h with h; injection h with h1 h2; subst h1; subst h2
      exact ⟨rfl, hy, fun i y hi => absurd hi (Nat.not_lt_zero _)⟩
    · rw [if_neg hy] at h
      cases hq : gfind fr to id l with
      | none => rw [hq] at h; cases h
      | some r =>
        rw [hq] at h; obtain ⟨k2, z2⟩ := r; injection h with h; injection h with h1 h2; subst h1; subst h2
        obtain ⟨a, b, c⟩ := gfind_some hq
        refine ⟨a, b, fun i x hi hx => ?_⟩
        cases i with
        | zero => injection hx with hx; subst hx; exact hy
        | succ i => exact c i x (by omega) hx
def forceS {α β : Type} : List α → (List α → β) → β
  | [], k => k []
  | a :: l, k => forceS l (fun l' => k (a :: l'))
theorem forceS_eq {α β : Type} : ∀ (l : List α) (k : List α → β), forceS l k = k l
  | [], k => rfl
  | a :: l, k => by rw [forceS, forceS_eq]
def gaddM (vs : List GV) (p : PN) : Option (List GV × Option (List UInt8)) :=
  if p.ix < p.cn ∧ p.cn ≤ 256 ∧ p.da.length ≤ 32768 then
    match gfind ((p.fr : Nat) : Int) ((p.to : Nat) : Int) ((p.id : Nat) : Int) vs with
    | some (k, z) =>
      if z.2.2.2.1.length = p.cn then
        (match z.2.2.2.1[p.ix]? with
        | some true => some (vs, none)
        | some false => forceS (z.2.2.2.1.set p.ix true) fun hs => forceS (z.2.2.2.2.set p.ix p.da) fun ds => if hs.any (fun y => y == false) = true then some (vs.set k (((p.fr : Nat) : Int), ((p.to : Nat) : Int), ((p.id : Nat) : Int), hs, ds), none) else some (vs.take k ++ vs.drop (k + 1), some ds.flatten)
        | none => none)
      else none
    | none =>
      if vs.length < 16 then
        if ((List.replicate p.cn false).set p.ix true).any (fun y => y == false) = true then some (vs ++ [(((p.fr : Nat) : Int), ((p.to : Nat) : Int), ((p.id : Nat) : Int), (List.replicate p.cn false).set p.ix true, (List.replicate p.cn []).set p.ix p.da)], none) else some (vs, some ((List.replicate p.cn []).set p.ix p.da).flatten)
      else none
  else none
def pval (p : PN) (d : Value) : Value := .agg #[vI p.fr, vI p.to, vU p.id, vI p.ix, vI p.cn, d]
def GRet (w0 : World) (F : List Chunk) (b : Nat) (vs' : List GV) (D : Chunk) (r : Option (List UInt8)) (v : Value) (w' : World) : Prop := match r with
  | none => ∃ L' D', GS w0 b vs' L' D' ∧ DX w0 D D' ∧ v = .tuple #[.slice none 0 0, .bool false] ∧ St w0 w' (L' :: D' :: F)
  | some bs => ∃ L' D' C A c, GS w0 b vs' L' D' ∧ DX w0 D D' ∧ Own 5 1 (.slice A bs.length c) bs.length (rows encB bs) C ∧ v = .tuple #[.slice A bs.length c, .bool true] ∧ St w0 w' (L' :: D' :: C :: F)
theorem gaddA {w0 w : World} {F : List Chunk} {L D : Chunk} {b : Nat} {vs vs' : List GV} {r : Option (List UInt8)} (hS : St w0 w (L :: D :: F)) (hM : GS w0 b vs L D) (p : PN) {d : Value} (hd : RdSX w0 (D :: F) 1 d p.da.length (rows encB p.da)) (h : gaddM vs p = some (vs', r)) :
    Ret Tryz.prog 60 #[vP b 0, pval p d] w (GRet w0 F b vs' D r) := by
  rw [gaddM] at h
  by_cases h0 : p.ix < p.cn ∧ p.cn ≤ 256 ∧ p.da.length ≤ 32768
  · rw [if_pos h0] at h
    obtain ⟨h1, h2, h3⟩ := h0
    cases hf : gfind ((p.fr : Nat) : Int) ((p.to : Nat) : Int) ((p.id : Nat) : Int) vs with
    | some kz =>
      obtain ⟨k, z⟩ := kz
      obtain ⟨hz, hk, hb⟩ := gfind_some hf
      obtain ⟨z1, z2, z3, has, dat⟩ := z
      obtain ⟨k1, k2, k3⟩ := hk
      dsimp only at k1 k2 k3
      subst k1; subst k2; subst k3
      rw [hf] at h
      dsimp only at h
      by_cases hl : has.length = p.cn
      · rw [if_pos hl] at h
        cases hi : has[p.ix]? with
        | none => rw [hi] at h; cases h
        | some t =>
          rw [hi] at h
          cases t with
          | true =>
            injection h with h; injection h with e1 e2; subst e1; subst e2
            refine Calls.mono (add_hit_rejT60 hS hM _ _ _ p.ix p.cn hd h1 h2 h3 hz hb hl hi) ?_
            rintro e w' ⟨v, he, L', g1, g2, g3⟩
            exact ⟨v, he, L', D, g1, DX.refl, g2, g3⟩
          | false =>
            dsimp only at h
            rw [forceS_eq, forceS_eq] at h
            by_cases ha : (has.set p.ix true).any (fun y => y == false) = true
            · rw [if_pos ha] at h
              injection h with h; injection h with e1 e2; subst e1; subst e2
              refine Calls.mono (add_hit_put60 hS hM _ _ _ p.ix p.cn hd h1 h2 h3 hz hb hl hi ha) ?_
              rintro e w' ⟨v, he, L', E, g1, g2, g3⟩
              exact ⟨v, he, L', E ++ D, g1, DX.refl.step, g2, g3⟩
            · rw [if_neg ha] at h
              injection h with h; injection h with e1 e2; subst e1; subst e2
              refine Calls.mono (add_hit_full60 hS hM _ _ _ p.ix p.cn hd h1 h2 h3 hz hb hl hi (by simpa using ha)) ?_
              rintro e w' ⟨v, he, L', E, C, v1, g1, g2, g3, g4⟩
              obtain ⟨A, c, rfl, _, _⟩ := g2.open'
              exact ⟨v, he, L', E ++ D, C, A, c, g1, DX.refl.step, g2, g3, g4⟩
      · rw [if_neg hl] at h; cases h
    | none =>
      have hno := gfind_none hf
      rw [hf] at h
      dsimp only at h
      by_cases hl : vs.length < 16
      · rw [if_pos hl] at h
        by_cases ha : ((List.replicate p.cn false).set p.ix true).any (fun y => y == false) = true
        · rw [if_pos ha] at h
          injection h with h; injection h with e1 e2; subst e1; subst e2
          refine Calls.mono (add_new_put60 hS hM _ _ _ p.ix p.cn hd h1 h2 h3 hno hl ha) ?_
          rintro e w' ⟨v, he, L', E, g1, g2, g3⟩
          exact ⟨v, he, L', E ++ D, g1, DX.refl.step, g2, g3⟩
        · rw [if_neg ha] at h
          injection h with h; injection h with e1 e2; subst e1; subst e2
          refine Calls.mono (add_new_full60 hS hM _ _ _ p.ix p.cn hd h1 h2 h3 hno hl (by simpa using ha)) ?_
          rintro e w' ⟨v, he, L', E, C, v1, g1, g2, g3, g4⟩
          obtain ⟨A, c, rfl, _, _⟩ := g2.open'
          exact ⟨v, he, L', E ++ D, C, A, c, g1, DX.refl.step, g2, g3, g4⟩
      · rw [if_neg hl] at h; cases h
  · rw [if_neg h0] at h; cases h
def hereM (q : Nat) : MN := ⟨0, 0, 0, 2, 0, 0, 0, 0, 0, q, []⟩
theorem hereM_ok {q : Nat} (h : q < 18446744073709551616) : (hereM q).ok := by
  show (0 : Nat) < 281474976710656 ∧ (0 : Nat) < 281474976710656 ∧ (0 : Nat) < 4294967296 ∧ (2 : Nat) < 65536 ∧ (0 : Nat) < 65536 ∧ (0 : Nat) < 281474976710656 ∧ (0 : Nat) < 16777216 ∧ (0 : Nat) < 256 ∧ (0 : Nat) < 281474976710656 ∧ q < 18446744073709551616 ∧ (0 : Nat) ≤ 4096
  omega
theorem nP_here {q s : Nat} (hs : 1 ≤ s) : nP (encM (hereM q)) s ≤ 256 := by
  have := nP_le (l := encM (hereM q)) hs
  rw [encM_length] at this
  simp only [hereM, List.length_nil] at this ⊢
  omega
def sdput (k v : Nat) : List (Nat × Nat) → List (Nat × Nat)
  | [] => [(k, v)]
  | x :: l => if x.1 = k then (k, v) :: l else x :: sdput k v l
theorem sdv_no {sd : List (Nat × Nat)} {k : Nat} (h : ∀ x ∈ sd, ¬ x.1 = k) : ∀ p ∈ sdv sd, ¬ p.1 = ((k : Nat) : Int) := fun p hp => by
  obtain ⟨x, hx, rfl⟩ := List.mem_map.1 hp
  have := h x hx
  show ¬ ((x.1 : Nat) : Int) = _
  omega
theorem sdv_at {sd : List (Nat × Nat)} {j k z : Nat} (h : sd[j]? = some (k, z)) : (sdv sd)[j]? = some (((k : Nat) : Int), Value.int .i64 ((z : Nat) : Int)) := by rw [sdv, List.getElem?_map, h]; rfl
theorem sdv_bef {sd : List (Nat × Nat)} {j k : Nat} (h : ∀ (q : Nat) (y : Nat × Nat), q < j → sd[q]? = some y → ¬ y.1 = k) : ∀ (q : Nat) (p : Int × Value), q < j → (sdv sd)[q]? = some p → ¬ p.1 = ((k : Nat) : Int) := fun q p hq hp => by
  rw [sdv, List.getElem?_map] at hp
  cases hx : sd[q]? with
  | none => rw [hx] at hp; cases hp
  | some x =>
    rw [hx] at hp; injection hp with hp; subst hp
    have := h q x hq hx
    show ¬ ((x.1 : Nat) : Int) = _
    omega
theorem sdv_app {sd : List (Nat × Nat)} {k z : Nat} {ob : Obj} (h : MapO .u64 (sdv sd ++ [(((k : Nat) : Int), Value.int .i64 ((z : Nat) : Int))]) ob) : MapO .u64 (sdv (sd ++ [(k, z)])) ob := by rw [sdv, List.map_append]; exact h
theorem sdv_set {sd : List (Nat × Nat)} {j k z : Nat} {ob : Obj} (h : MapO .u64 ((sdv sd).set j (((k : Nat) : Int), Value.int .i64 ((z : Nat) : Int))) ob) : MapO .u64 (sdv (sd.set j (k, z))) ob := by rw [sdv, List.map_set]; exact h
set_option maxHeartbeats 8000000 in
theorem narr_no38 {w0 w : World} {F : List Chunk} {b bo : Nat} {st : NS} {sr : Srv} {L D : Chunk} {vs' : List GV} (hS : St w0 w (L :: D :: F)) (hN : NUP w0 b bo st sr L D) (p : PN) (hpt : p.to = st.c.id) {d : Value} (hd : RdSX w0 (D :: F) 1 d p.da.length (rows encB p.da)) (hga : gaddM st.gs p = some (vs', none))  :
 Ret Tryz.prog 38 #[vP b 0, .agg #[vI p.fr, vI p.to, vU p.id, vI p.ix, vI p.cn, d]] w (fun v w' => ∃ L' D', NUP w0 b bo { st with gs := vs' } sr L' D' ∧ DX w0 D D' ∧ v = .slice none 0 0 ∧ St w0 w' (L' :: D' :: F)) := by
 obtain ⟨B, d', rfl, hmd, hdx⟩ := (hd _ (hS.tail 1 rfl)).open'
 obtain ⟨sv, bd, bg, bc, bp, bx, mp, ob, el, cl, ul, pl2, LS, LG, LC, LP, LB, LV, hn, rfl⟩ := hN
 replace hS : St w0 w ([(b, rowO [vI st.c.id, vI st.c.ki, vI st.c.no, vI st.c.pc, vI st.c.wa, vI st.c.tr, vI st.c.ag, vI st.c.pg, vI st.c.ro, vP bo 0, .bool true, vI st.c.now, vU st.c.sent, vU st.c.rep, vU st.c.port, vU st.c.r0, vW st.c.r1, vB st.c.r2, vU st.c.r3, sv, vP bd 0, vP bg 0, vP bc 0, vP bp 0, vP bx 0, .map (some mp)] 121)] :: LS :: LG :: LC :: LP :: LB :: [(mp, ob)] :: LV :: D :: F) := hS.cast (by simp)
 refine enter (vs := [vP b 0, .agg #[vI p.fr, vI p.to, vU p.id, vI p.ix, vI p.cn, .slice B p.da.length d']]) 144 Tryz.func38 rfl rfl (by simp) ?_; intro a hA
 refine zs (zr ?_)
 refine st_box hA hS [vI p.fr, vI p.to, vU p.id, vI p.ix, vI p.cn, .slice B p.da.length d'] rfl rfl rfl rfl rfl (by decide) fun b1 w2 a hS hA => ?_
 refine zR 1 ((4, .slice none 0 0) :: _) hA rfl fun a hA => zn (zx (zs (zs ?_)))
 refine zD0 hS [] [(0, true), (1, true), (2, true), (3, true), (4, true), (5, true), (6, true), (7, true), (8, true), (9, true), (10, true), (11, true), (12, true), (13, true)] mixed (by kernel_rfl) (by rintro c a w ⟨_, _, h, _⟩; cases h) (by rfl) (by kernel_rfl) ?_
 replace hS := hS.drew
 refine zW 3 ((11, vP b 10) :: (10, vP b 0) :: (9, vP b 0) :: _) hA hS rfl fun a hA => zY hA hS 1 rfl rfl rfl rfl rfl rfl rfl rfl rfl rfl fun a hA => zW 3 ((15, vP b1 1) :: (14, .bool false) :: (13, .bool false) :: _) hA hS rfl fun a hA => zY hA hS 0 rfl rfl rfl rfl rfl rfl rfl rfl rfl rfl fun a hA => zW 3 ((19, vP b 0) :: (18, vP b 0) :: (17, vP b 0) :: _) hA hS rfl fun a hA => zY hA hS 1 rfl rfl rfl rfl rfl rfl rfl rfl rfl rfl fun a hA => zW 2 ((22, .bool (((p.to : Nat) : Int) != ((st.c.id : Nat) : Int))) :: (21, .bool (((p.to : Nat) : Int) != ((st.c.id : Nat) : Int))) :: _) hA hS rfl fun a hA => ze (zx ?_)
 have hc3 : ((p.to : Nat) : Int) = ((st.c.id : Nat) : Int) := by omega
 replace hA := hA.rw 22 (v' := .bool false) rfl (vb_ne_f hc3)
 refine cd_cond_f hA rfl (zk (zx (zs ?_)))
 replace hS := hS.m9.m4
 refine zD2 hS [] [(0, true), (1, true), (2, true), (3, true), (4, true), (5, false), (6, true), (7, true), (8, true), (9, true), (10, true)] mixed (by kernel_rfl) (by rintro c a w ⟨_, _, h, _⟩; cases h) (by rfl) (by kernel_rfl) ?_
 replace hS := hS.drew
 refine zW 3 ((26, vP b 21) :: (25, vP b 0) :: (24, vP b 0) :: _) hA (hS.tail 2 rfl) rfl fun a hA => zY hA (hS.tail 2 rfl) 1 rfl rfl rfl rfl rfl rfl rfl rfl rfl rfl fun a hA => zYA hA (hS.tail 2 rfl) 0 [vI p.fr, vI p.to, vU p.id, vI p.ix, vI p.cn, .slice B p.da.length d'] rfl rfl rfl rfl rfl rfl rfl rfl rfl rfl rfl fun a hA => dr_b (o := _) rfl ?_
 replace hS := hS.m1.m1
 refine st_call0 hA rfl rfl rfl isfn60 rfl rfl (by decide) (gaddA hS hn.fgs p (fun w' h => hd _ (St.dmid (R := [[(b1, rowO [vI p.fr, vI p.to, vU p.id, vI p.ix, vI p.cn, .slice B p.da.length d'] 94)], [(b, rowO [vI st.c.id, vI st.c.ki, vI st.c.no, vI st.c.pc, vI st.c.wa, vI st.c.tr, vI st.c.ag, vI st.c.pg, vI st.c.ro, vP bo 0, .bool true, vI st.c.now, vU st.c.sent, vU st.c.rep, vU st.c.port, vU st.c.r0, vW st.c.r1, vB st.c.r2, vU st.c.r3, sv, vP bd 0, vP bg 0, vP bc 0, vP bp 0, vP bx 0, .map (some mp)] 121)], LS, LC, LP, LB, [(mp, ob)], LV]) h)) hga) ?_
 clear hA hS; rintro _ w4 a ⟨LG2, D2, hg2, hXg, rfl, hS⟩ hA
 have hX5 : DX w0 D D2 := hXg
 refine zi (hS.tail 2 rfl) (zW 5 ((6, .bool false) :: (5, .slice none 0 0) :: (31, .bool false) :: (30, .slice none 0 0) :: (23, .tuple #[.slice none 0 0, .bool false]) :: _) hA (hS.tail 2 rfl) rfl fun a hA => ze (zx (zs (zs (zr (zR 2 ((33, .bool true) :: (32, .bool false) :: _) hA rfl fun a hA => zn (zx (cd_cond_t hA rfl (zs (zr (zR 1 ((4, .slice none 0 0) :: _) hA rfl fun a hA => zn (zx ?_))))))))))))
 refine wp_ret (xt_ret ?_)
 refine ret1 (fn := Tryz.f38) hA rfl rfl ?_
 replace hS := hS.m2.d0.m1.m8.m8.m8.m8.m8.m6.m8.m8
 replace hS : St w0 w4 (((b, rowO [vI st.c.id, vI st.c.ki, vI st.c.no, vI st.c.pc, vI st.c.wa, vI st.c.tr, vI st.c.ag, vI st.c.pg, vI st.c.ro, vP bo 0, .bool true, vI st.c.now, vU st.c.sent, vU st.c.rep, vU st.c.port, vU st.c.r0, vW st.c.r1, vB st.c.r2, vU st.c.r3, sv, vP bd 0, vP bg 0, vP bc 0, vP bp 0, vP bx 0, .map (some mp)] 121) :: (LS ++ (LG2 ++ (LC ++ (LP ++ (LB ++ ((mp, ob) :: LV))))))) :: D2 :: F) := hS.cast (by simp)
 exact ⟨_, D2, ⟨_, _, _, _, _, _, _, _, _, _, _, _, _, _, _, _, _, _, ⟨hn.fsr, hg2, hn.fcr, hn.fpm, hn.fbx, hn.fmp, (hn.fsv.dx hX5), hn.fel, (ent_dx hn.fed hX5), hn.fcl, (hX5.calls hn.fcd), hn.ful, (msg_dx hn.fud hX5), hn.fpl, (msg_dx hn.fpd hX5)⟩, rfl⟩, hX5, rfl, hS⟩
set_option maxHeartbeats 8000000 in
theorem narr_locno38 {w0 w : World} {F : List Chunk} {b bo : Nat} {st : NS} {sr : Srv} {L D : Chunk} {vs' : List GV} {bs : List UInt8} (hS : St w0 w (L :: D :: F)) (hN : NUP w0 b bo st sr L D) (p : PN) (hpt : p.to = st.c.id) {d : Value} (hd : RdSX w0 (D :: F) 1 d p.da.length (rows encB p.da)) (hga : gaddM st.gs p = some (vs', some bs)) (m : MN) (hm : m.ok) (hbs : bs = encM m) (h1 : m.to = 0) (h2 : m.op = 1) (h3 : st.c.port = 0 ∨ ¬ m.ar = st.c.port) :
 Ret Tryz.prog 38 #[vP b 0, .agg #[vI p.fr, vI p.to, vU p.id, vI p.ix, vI p.cn, d]] w (fun v w' => ∃ L' D', NUP w0 b bo { st with gs := vs' } sr L' D' ∧ DX w0 D D' ∧ v = .slice none 0 0 ∧ St w0 w' (L' :: D' :: F)) := by
 obtain ⟨B, d', rfl, hmd, hdx⟩ := (hd _ (hS.tail 1 rfl)).open'
 have hm0 := hm
 obtain ⟨hk1, hk2, hk3, hk4, hk5, hk6, hk7, hk8, hk9, hk10, hk11⟩ := hm
 obtain ⟨sv, bd, bg, bc, bp, bx, mp, ob, el, cl, ul, pl2, LS, LG, LC, LP, LB, LV, hn, rfl⟩ := hN
 replace hS : St w0 w ([(b, rowO [vI st.c.id, vI st.c.ki, vI st.c.no, vI st.c.pc, vI st.c.wa, vI st.c.tr, vI st.c.ag, vI st.c.pg, vI st.c.ro, vP bo 0, .bool true, vI st.c.now, vU st.c.sent, vU st.c.rep, vU st.c.port, vU st.c.r0, vW st.c.r1, vB st.c.r2, vU st.c.r3, sv, vP bd 0, vP bg 0, vP bc 0, vP bp 0, vP bx 0, .map (some mp)] 121)] :: LS :: LG :: LC :: LP :: LB :: [(mp, ob)] :: LV :: D :: F) := hS.cast (by simp)
 refine enter (vs := [vP b 0, .agg #[vI p.fr, vI p.to, vU p.id, vI p.ix, vI p.cn, .slice B p.da.length d']]) 144 Tryz.func38 rfl rfl (by simp) ?_; intro a hA
 refine zs (zr ?_)
 refine st_box hA hS [vI p.fr, vI p.to, vU p.id, vI p.ix, vI p.cn, .slice B p.da.length d'] rfl rfl rfl rfl rfl (by decide) fun b1 w2 a hS hA => ?_
 refine zR 1 ((4, .slice none 0 0) :: _) hA rfl fun a hA => zn (zx (zs (zs ?_)))
 refine zD0 hS [] [(0, true), (1, true), (2, true), (3, true), (4, true), (5, true), (6, true), (7, true), (8, true), (9, true), (10, true), (11, true), (12, true), (13, true)] mixed (by kernel_rfl) (by rintro c a w ⟨_, _, h, _⟩; cases h) (by rfl) (by kernel_rfl) ?_
 replace hS := hS.drew
 refine zW 3 ((11, vP b 10) :: (10, vP b 0) :: (9, vP b 0) :: _) hA hS rfl fun a hA => zY hA hS 1 rfl rfl rfl rfl rfl rfl rfl rfl rfl rfl fun a hA => zW 3 ((15, vP b1 1) :: (14, .bool false) :: (13, .bool false) :: _) hA hS rfl fun a hA => zY hA hS 0 rfl rfl rfl rfl rfl rfl rfl rfl rfl rfl fun a hA => zW 3 ((19, vP b 0) :: (18, vP b 0) :: (17, vP b 0) :: _) hA hS rfl fun a hA => zY hA hS 1 rfl rfl rfl rfl rfl rfl rfl rfl rfl rfl fun a hA => zW 2 ((22, .bool (((p.to : Nat) : Int) != ((st.c.id : Nat) : Int))) :: (21, .bool (((p.to : Nat) : Int) != ((st.c.id : Nat) : Int))) :: _) hA hS rfl fun a hA => ze (zx ?_)
 have hc3 : ((p.to : Nat) : Int) = ((st.c.id : Nat) : Int) := by omega
 replace hA := hA.rw 22 (v' := .bool false) rfl (vb_ne_f hc3)
 refine cd_cond_f hA rfl (zk (zx (zs ?_)))
 replace hS := hS.m9.m4
 refine zD2 hS [] [(0, true), (1, true), (2, true), (3, true), (4, true), (5, false), (6, true), (7, true), (8, true), (9, true), (10, true)] mixed (by kernel_rfl) (by rintro c a w ⟨_, _, h, _⟩; cases h) (by rfl) (by kernel_rfl) ?_
 replace hS := hS.drew
 refine zW 3 ((26, vP b 21) :: (25, vP b 0) :: (24, vP b 0) :: _) hA (hS.tail 2 rfl) rfl fun a hA => zY hA (hS.tail 2 rfl) 1 rfl rfl rfl rfl rfl rfl rfl rfl rfl rfl fun a hA => zYA hA (hS.tail 2 rfl) 0 [vI p.fr, vI p.to, vU p.id, vI p.ix, vI p.cn, .slice B p.da.length d'] rfl rfl rfl rfl rfl rfl rfl rfl rfl rfl rfl fun a hA => dr_b (o := _) rfl ?_
 replace hS := hS.m1.m1
 refine st_call0 hA rfl rfl rfl isfn60 rfl rfl (by decide) (gaddA hS hn.fgs p (fun w' h => hd _ (St.dmid (R := [[(b1, rowO [vI p.fr, vI p.to, vU p.id, vI p.ix, vI p.cn, .slice B p.da.length d'] 94)], [(b, rowO [vI st.c.id, vI st.c.ki, vI st.c.no, vI st.c.pc, vI st.c.wa, vI st.c.tr, vI st.c.ag, vI st.c.pg, vI st.c.ro, vP bo 0, .bool true, vI st.c.now, vU st.c.sent, vU st.c.rep, vU st.c.port, vU st.c.r0, vW st.c.r1, vB st.c.r2, vU st.c.r3, sv, vP bd 0, vP bg 0, vP bc 0, vP bp 0, vP bx 0, .map (some mp)] 121)], LS, LC, LP, LB, [(mp, ob)], LV]) h)) hga) ?_
 clear hA hS; rintro _ w4 a ⟨LG2, D2, Cb, Ab, cb, hg2, hXg, hOb, rfl, hS⟩ hA; have hcb := hOb.rcap
 have hX5 : DX w0 D D2 := hXg
 refine zi (hS.tail 3 rfl) (zW 5 ((6, .bool true) :: (5, .slice Ab bs.length cb) :: (31, .bool true) :: (30, .slice Ab bs.length cb) :: (23, .tuple #[.slice Ab bs.length cb, .bool true]) :: _) hA (hS.tail 3 rfl) rfl fun a hA => ze (zx (zs (zs (zr (zR 2 ((33, .bool false) :: (32, .bool true) :: _) hA rfl fun a hA => zn (zx (cd_cond_f hA rfl (zk (zx (zs (zr (zR 1 ((35, .slice Ab bs.length cb) :: _) hA rfl fun a hA => ?_)))))))))))))
 refine st_call0 hA rfl rfl rfl isfn61 rfl rfl (by decide) (hdec61 hS (b := bs) (RdS.own hOb 2 rfl) m hm0 hbs) ?_
 clear hA hS; rintro _ w9 a ⟨A6, c7, C8, hO8, rfl, hS⟩ hA
 obtain ⟨_, _, _, hmc7, hxc7⟩ := hO8.open'
 refine zR 3 ((38, .nilIface) :: (37, .agg #[vU m.to, vU m.rp, vW m.id, vH m.op, vH m.st, vU m.po, vW m.ob, vB m.ri, vU m.ck, vU m.ar, .slice A6 m.da.length c7]) :: (34, .tuple #[.agg #[vU m.to, vU m.rp, vW m.id, vH m.op, vH m.st, vU m.po, vW m.ob, vB m.ri, vU m.ck, vU m.ar, .slice A6 m.da.length c7], .nilIface]) :: _) hA rfl fun a hA => ?_
 refine st_alloc tbOk hA hS [.int .u64 0, .int .u64 0, .int .u32 0, .int .u16 0, .int .u16 0, .int .u64 0, .int .u32 0, .int .u8 0, .int .u64 0, .int .u64 0, .slice none 0 0] rfl rfl rfl rfl rfl (by decide) fun b10 w11 a hS hA => ?_
 refine st_store tbOk hA hS [vU m.to, vU m.rp, vW m.id, vH m.op, vH m.st, vU m.po, vW m.ob, vB m.ri, vU m.ck, vU m.ar, .slice A6 m.da.length c7] [vU m.to, vU m.rp, vW m.id, vH m.op, vH m.st, vU m.po, vW m.ob, vB m.ri, vU m.ck, vU m.ar, .slice A6 m.da.length c7] rfl rfl rfl rfl rfl rfl (zn1 rfl) (zle rfl) rfl rfl rfl fun w12 hS => ?_
 refine zR 1 ((8, .nilIface) :: _) hA rfl fun a hA => zn (zx (zs (zs (zr (zR 2 ((40, .bool false) :: (39, .nilIface) :: _) hA rfl fun a hA => zn (zx (cd_cond_f hA rfl (zk (zx (zs (zb (zs (zr (zR 1 ((42, vP b10 0) :: _) hA rfl fun a hA => zL hA hS 0 rfl rfl rfl rfl rfl rfl rfl rfl rfl fun a hA => zR 2 ((45, .bool (((m.to : Nat) : Int) == 0)) :: (44, .bool (((m.to : Nat) : Int) == 0)) :: _) hA rfl fun a hA => ?_))))))))))))))
 have hc13 : ((m.to : Nat) : Int) = 0 := by omega
 replace hA := hA.rw 44 (v' := .bool true) rfl (vb_eq_t hc13)
 replace hA := hA.rw 45 (v' := .bool true) rfl (vb_eq_t hc13)
 refine zR 1 ((46, vP b10 3) :: _) hA rfl fun a hA => zL hA hS 0 rfl rfl rfl rfl rfl rfl rfl rfl rfl fun a hA => zR 3 ((41, .bool (((m.op : Nat) : Int) == 1)) :: (49, .bool (((m.op : Nat) : Int) == 1)) :: (48, .bool (((m.op : Nat) : Int) == 1)) :: _) hA rfl fun a hA => zn (zx ?_)
 have hc14 : ((m.op : Nat) : Int) = 1 := by omega
 replace hA := hA.rw 41 (v' := .bool true) rfl (vb_eq_t hc14)
 refine cd_cond_t hA rfl (zs (zs ?_))
 refine zD0 hS [] [(0, true), (1, true), (2, true), (3, true), (4, true), (5, true), (6, true), (7, true), (8, true), (9, true), (10, true), (11, true), (12, true), (13, true)] mixed (by kernel_rfl) (by rintro c a w ⟨_, _, h, _⟩; cases h) (by rfl) (by kernel_rfl) ?_
 replace hS := hS.drew
 refine zW 3 ((52, vP b 14) :: (51, vP b 0) :: (50, vP b 0) :: _) hA hS rfl fun a hA => zY hA hS 6 rfl rfl rfl rfl rfl rfl rfl rfl rfl rfl fun a hA => zW 2 ((55, .bool (((st.c.port : Nat) : Int) == 0)) :: (54, .bool (((st.c.port : Nat) : Int) == 0)) :: _) hA hS rfl fun a hA => ?_
 by_cases hc15 : ((st.c.port : Nat) : Int) = 0
 · first
   | (exfalso; omega)
   | (replace hA := hA.rw 54 (v' := .bool true) rfl (vb_eq_t hc15)
      replace hA := hA.rw 55 (v' := .bool true) rfl (vb_eq_t hc15)
      refine zW 8 ((63, .bool true) :: (62, undef) :: (61, undef) :: (60, undef) :: (59, undef) :: (58, undef) :: (57, undef) :: (56, undef) :: _) hA hS rfl fun a hA => ze (zx (cd_cond_t hA rfl (zs (zr (zR 1 ((4, .slice none 0 0) :: _) hA rfl fun a hA => zn (zx ?_))))))
      refine wp_ret (xt_ret (xb_ret (xt_ret ?_)))
      refine ret1 (fn := Tryz.f38) hA rfl rfl ?_
      replace hS := hS.d0.d0.m2.d0.m2.d0.m1.m8.m8.m8.m8.m8.m6.m8.m8
      replace hS : St w0 w12.drew (((b, rowO [vI st.c.id, vI st.c.ki, vI st.c.no, vI st.c.pc, vI st.c.wa, vI st.c.tr, vI st.c.ag, vI st.c.pg, vI st.c.ro, vP bo 0, .bool true, vI st.c.now, vU st.c.sent, vU st.c.rep, vU st.c.port, vU st.c.r0, vW st.c.r1, vB st.c.r2, vU st.c.r3, sv, vP bd 0, vP bg 0, vP bc 0, vP bp 0, vP bx 0, .map (some mp)] 121) :: (LS ++ (LG2 ++ (LC ++ (LP ++ (LB ++ ((mp, ob) :: LV))))))) :: D2 :: F) := hS.cast (by simp)
      exact ⟨_, D2, ⟨_, _, _, _, _, _, _, _, _, _, _, _, _, _, _, _, _, _, ⟨hn.fsr, hg2, hn.fcr, hn.fpm, hn.fbx, hn.fmp, (hn.fsv.dx hX5), hn.fel, (ent_dx hn.fed hX5), hn.fcl, (hX5.calls hn.fcd), hn.ful, (msg_dx hn.fud hX5), hn.fpl, (msg_dx hn.fpd hX5)⟩, rfl⟩, hX5, rfl, hS⟩)
 · first
   | (exfalso; omega)
   | (replace hA := hA.rw 54 (v' := .bool false) rfl (vb_eq_f hc15)
      replace hA := hA.rw 55 (v' := .bool false) rfl (vb_eq_f hc15)
      refine zW 1 ((56, vP b10 9) :: _) hA hS rfl fun a hA => zY hA hS 0 rfl rfl rfl rfl rfl rfl rfl rfl rfl rfl fun a hA => zW 3 ((60, vP b 14) :: (59, vP b 0) :: (58, vP b 0) :: _) hA hS rfl fun a hA => zY hA hS 6 rfl rfl rfl rfl rfl rfl rfl rfl rfl rfl fun a hA => zW 2 ((63, .bool (((m.ar : Nat) : Int) != ((st.c.port : Nat) : Int))) :: (62, .bool (((m.ar : Nat) : Int) != ((st.c.port : Nat) : Int))) :: _) hA hS rfl fun a hA => ze (zx ?_)
      by_cases hc16 : ((m.ar : Nat) : Int) = ((st.c.port : Nat) : Int)
      · first
        | (exfalso; omega)
        | (replace hA := hA.rw 63 (v' := .bool false) rfl (vb_ne_f hc16)
           refine cd_cond_f hA rfl (zk (zx (zs (zr (zR 2 ((65, vP b10 9) :: (64, vP b 0) :: _) hA rfl fun a hA => zL hA hS 0 rfl rfl rfl rfl rfl rfl rfl rfl rfl fun a hA => st_val hA rfl rfl (by decide) (rn_build tbOk hA rfl rfl rfl rfl rfl rfl rfl) fun a hA => zR 1 ((68, vP b1 0) :: _) hA rfl fun a hA => zL hA hS 5 rfl rfl rfl rfl rfl rfl rfl rfl rfl fun a hA => ?_)))))
           replace hS := hS.m3.m6
           refine st_call0 hA rfl rfl rfl isfn62 rfl rfl (by decide) (npackets62 (s := st.c) hS (hereM m.ar) (hereM_ok hk10) p.fr (d := .slice none 0 0) RdSX.nil (by omega) hp1 hp2 (nP_here hp1)) ?_
           clear hA hS; rintro _ w17 a ⟨psq, Aq, cq, Cq, Eq, hOq, hKq, rfl, hS⟩ hA
           have hX18 : DX w0 D2 (Eq ++ D2) := DX.refl.step
           refine zR 1 ((4, .slice Aq psq.length cq) :: _) hA rfl fun a hA => zn (zx ?_)
           refine wp_ret (xb_ret (xt_ret ?_))
           refine ret1 (fn := Tryz.f38) hA rfl rfl ?_
           replace hS := hS.m1.d0.m2.d0.m2.d0.m3.d0.m3.d0.m1.m8.m8.m8.m8.m8.m7.m8.m8
           replace hS : St w0 w17 (((b, rowO [vI st.c.id, vI st.c.ki, vI st.c.no, vI st.c.pc, vI st.c.wa, vI st.c.tr, vI st.c.ag, vI st.c.pg, vI st.c.ro, vP bo 0, .bool true, vI st.c.now, vU (st.c.sent + 1), vU st.c.rep, vU st.c.port, vU st.c.r0, vW st.c.r1, vB st.c.r2, vU st.c.r3, sv, vP bd 0, vP bg 0, vP bc 0, vP bp 0, vP bx 0, .map (some mp)] 121) :: (LS ++ (LG2 ++ (LC ++ (LP ++ (LB ++ ((mp, ob) :: LV))))))) :: (Eq ++ D2) :: F) := hS.cast (by simp)
           exact ⟨_, (Eq ++ D2), ⟨_, _, _, _, _, _, _, _, _, _, _, _, _, _, _, _, _, _, ⟨hn.fsr, (hg2.dx hX18), hn.fcr, hn.fpm, hn.fbx, hn.fmp, (hn.fsv.dx (hX5.trans hX18)), hn.fel, (ent_dx hn.fed (hX5.trans hX18)), hn.fcl, ((hX5.trans hX18).calls hn.fcd), hn.ful, (msg_dx hn.fud (hX5.trans hX18)), hn.fpl, (msg_dx hn.fpd (hX5.trans hX18))⟩, rfl⟩, (hX5.trans hX18), rfl, hS⟩)
      · first
        | (exfalso; omega)
        | (replace hA := hA.rw 63 (v' := .bool true) rfl (vb_ne_t hc16)
           refine cd_cond_t hA rfl (zs (zr (zR 1 ((4, .slice none 0 0) :: _) hA rfl fun a hA => zn (zx ?_))))
           refine wp_ret (xt_ret (xb_ret (xt_ret ?_)))
           refine ret1 (fn := Tryz.f38) hA rfl rfl ?_
           replace hS := hS.d0.d0.m2.d0.m2.d0.m1.m8.m8.m8.m8.m8.m6.m8.m8
           replace hS : St w0 w12.drew (((b, rowO [vI st.c.id, vI st.c.ki, vI st.c.no, vI st.c.pc, vI st.c.wa, vI st.c.tr, vI st.c.ag, vI st.c.pg, vI st.c.ro, vP bo 0, .bool true, vI st.c.now, vU st.c.sent, vU st.c.rep, vU st.c.port, vU st.c.r0, vW st.c.r1, vB st.c.r2, vU st.c.r3, sv, vP bd 0, vP bg 0, vP bc 0, vP bp 0, vP bx 0, .map (some mp)] 121) :: (LS ++ (LG2 ++ (LC ++ (LP ++ (LB ++ ((mp, ob) :: LV))))))) :: D2 :: F) := hS.cast (by simp)
           exact ⟨_, D2, ⟨_, _, _, _, _, _, _, _, _, _, _, _, _, _, _, _, _, _, ⟨hn.fsr, hg2, hn.fcr, hn.fpm, hn.fbx, hn.fmp, (hn.fsv.dx hX5), hn.fel, (ent_dx hn.fed hX5), hn.fcl, (hX5.calls hn.fcd), hn.ful, (msg_dx hn.fud hX5), hn.fpl, (msg_dx hn.fpd hX5)⟩, rfl⟩, hX5, rfl, hS⟩))
set_option maxHeartbeats 8000000 in
theorem narr_loc38 {w0 w : World} {F : List Chunk} {b bo : Nat} {st : NS} {sr : Srv} {L D : Chunk} {vs' : List GV} {bs : List UInt8} (hS : St w0 w (L :: D :: F)) (hN : NUP w0 b bo st sr L D) (p : PN) (hpt : p.to = st.c.id) {d : Value} (hd : RdSX w0 (D :: F) 1 d p.da.length (rows encB p.da)) (hga : gaddM st.gs p = some (vs', some bs)) (m : MN) (hm : m.ok) (hbs : bs = encM m) (h1 : m.to = 0) (h2 : m.op = 1) (h3 : ¬ st.c.port = 0) (h4 : m.ar = st.c.port) (hp1 : 1 ≤ st.c.pc) (hp2 : st.c.pc ≤ 32768) (hsn : st.c.sent < 1000000000) :
 Ret Tryz.prog 38 #[vP b 0, .agg #[vI p.fr, vI p.to, vU p.id, vI p.ix, vI p.cn, d]] w (fun v w' => ∃ L' ps A c C D', NUP w0 b bo { st with gs := vs', c := { st.c with sent := st.c.sent + 1 } } sr L' D' ∧ Own 94 6 (.slice A ps.length c) ps.length (rows encPacket ps) C ∧ PKS w0 D' ps (splitM (encM (hereM m.ar)) st.c.id p.fr (st.c.sent + 1) st.c.pc) ∧ DX w0 D D' ∧ v = .slice A ps.length c ∧ St w0 w' (L' :: C :: D' :: F)) := by
 obtain ⟨B, d', rfl, hmd, hdx⟩ := (hd _ (hS.tail 1 rfl)).open'
 have hm0 := hm
 obtain ⟨hk1, hk2, hk3, hk4, hk5, hk6, hk7, hk8, hk9, hk10, hk11⟩ := hm
 obtain ⟨sv, bd, bg, bc, bp, bx, mp, ob, el, cl, ul, pl2, LS, LG, LC, LP, LB, LV, hn, rfl⟩ := hN
 replace hS : St w0 w ([(b, rowO [vI st.c.id, vI st.c.ki, vI st.c.no, vI st.c.pc, vI st.c.wa, vI st.c.tr, vI st.c.ag, vI st.c.pg, vI st.c.ro, vP bo 0, .bool true, vI st.c.now, vU st.c.sent, vU st.c.rep, vU st.c.port, vU st.c.r0, vW st.c.r1, vB st.c.r2, vU st.c.r3, sv, vP bd 0, vP bg 0, vP bc 0, vP bp 0, vP bx 0, .map (some mp)] 121)] :: LS :: LG :: LC :: LP :: LB :: [(mp, ob)] :: LV :: D :: F) := hS.cast (by simp)
 refine enter (vs := [vP b 0, .agg #[vI p.fr, vI p.to, vU p.id, vI p.ix, vI p.cn, .slice B p.da.length d']]) 144 Tryz.func38 rfl rfl (by simp) ?_; intro a hA
 refine zs (zr ?_)
 refine st_box hA hS [vI p.fr, vI p.to, vU p.id, vI p.ix, vI p.cn, .slice B p.da.length d'] rfl rfl rfl rfl rfl (by decide) fun b1 w2 a hS hA => ?_
 refine zR 1 ((4, .slice none 0 0) :: _) hA rfl fun a hA => zn (zx (zs (zs ?_)))
 refine zD0 hS [] [(0, true), (1, true), (2, true), (3, true), (4, true), (5, true), (6, true), (7, true), (8, true), (9, true), (10, true), (11, true), (12, true), (13, true)] mixed (by kernel_rfl) (by rintro c a w ⟨_, _, h, _⟩; cases h) (by rfl) (by kernel_rfl) ?_
 replace hS := hS.drew
 refine zW 3 ((11, vP b 10) :: (10, vP b 0) :: (9, vP b 0) :: _) hA hS rfl fun a hA => zY hA hS 1 rfl rfl rfl rfl rfl rfl rfl rfl rfl rfl fun a hA => zW 3 ((15, vP b1 1) :: (14, .bool false) :: (13, .bool false) :: _) hA hS rfl fun a hA => zY hA hS 0 rfl rfl rfl rfl rfl rfl rfl rfl rfl rfl fun a hA => zW 3 ((19, vP b 0) :: (18, vP b 0) :: (17, vP b 0) :: _) hA hS rfl fun a hA => zY hA hS 1 rfl rfl rfl rfl rfl rfl rfl rfl rfl rfl fun a hA => zW 2 ((22, .bool (((p.to : Nat) : Int) != ((st.c.id : Nat) : Int))) :: (21, .bool (((p.to : Nat) : Int) != ((st.c.id : Nat) : Int))) :: _) hA hS rfl fun a hA => ze (zx ?_)
 have hc3 : ((p.to : Nat) : Int) = ((st.c.id : Nat) : Int) := by omega
 replace hA := hA.rw 22 (v' := .bool false) rfl (vb_ne_f hc3)
 refine cd_cond_f hA rfl (zk (zx (zs ?_)))
 replace hS := hS.m9.m4
 refine zD2 hS [] [(0, true), (1, true), (2, true), (3, true), (4, true), (5, false), (6, true), (7, true), (8, true), (9, true), (10, true)] mixed (by kernel_rfl) (by rintro c a w ⟨_, _, h, _⟩; cases h) (by rfl) (by kernel_rfl) ?_
 replace hS := hS.drew
 refine zW 3 ((26, vP b 21) :: (25, vP b 0) :: (24, vP b 0) :: _) hA (hS.tail 2 rfl) rfl fun a hA => zY hA (hS.tail 2 rfl) 1 rfl rfl rfl rfl rfl rfl rfl rfl rfl rfl fun a hA => zYA hA (hS.tail 2 rfl) 0 [vI p.fr, vI p.to, vU p.id, vI p.ix, vI p.cn, .slice B p.da.length d'] rfl rfl rfl rfl rfl rfl rfl rfl rfl rfl rfl fun a hA => dr_b (o := _) rfl ?_
 replace hS := hS.m1.m1
 refine st_call0 hA rfl rfl rfl isfn60 rfl rfl (by decide) (gaddA hS hn.fgs p (fun w' h => hd _ (St.dmid (R := [[(b1, rowO [vI p.fr, vI p.to, vU p.id, vI p.ix, vI p.cn, .slice B p.da.length d'] 94)], [(b, rowO [vI st.c.id, vI st.c.ki, vI st.c.no, vI st.c.pc, vI st.c.wa, vI st.c.tr, vI st.c.ag, vI st.c.pg, vI st.c.ro, vP bo 0, .bool true, vI st.c.now, vU st.c.sent, vU st.c.rep, vU st.c.port, vU st.c.r0, vW st.c.r1, vB st.c.r2, vU st.c.r3, sv, vP bd 0, vP bg 0, vP bc 0, vP bp 0, vP bx 0, .map (some mp)] 121)], LS, LC, LP, LB, [(mp, ob)], LV]) h)) hga) ?_
 clear hA hS; rintro _ w4 a ⟨LG2, D2, Cb, Ab, cb, hg2, hXg, hOb, rfl, hS⟩ hA; have hcb := hOb.rcap
 have hX5 : DX w0 D D2 := hXg
 refine zi (hS.tail 3 rfl) (zW 5 ((6, .bool true) :: (5, .slice Ab bs.length cb) :: (31, .bool true) :: (30, .slice Ab bs.length cb) :: (23, .tuple #[.slice Ab bs.length cb, .bool true]) :: _) hA (hS.tail 3 rfl) rfl fun a hA => ze (zx (zs (zs (zr (zR 2 ((33, .bool false) :: (32, .bool true) :: _) hA rfl fun a hA => zn (zx (cd_cond_f hA rfl (zk (zx (zs (zr (zR 1 ((35, .slice Ab bs.length cb) :: _) hA rfl fun a hA => ?_)))))))))))))
 refine st_call0 hA rfl rfl rfl isfn61 rfl rfl (by decide) (hdec61 hS (b := bs) (RdS.own hOb 2 rfl) m hm0 hbs) ?_
 clear hA hS; rintro _ w9 a ⟨A6, c7, C8, hO8, rfl, hS⟩ hA
 obtain ⟨_, _, _, hmc7, hxc7⟩ := hO8.open'
 refine zR 3 ((38, .nilIface) :: (37, .agg #[vU m.to, vU m.rp, vW m.id, vH m.op, vH m.st, vU m.po, vW m.ob, vB m.ri, vU m.ck, vU m.ar, .slice A6 m.da.length c7]) :: (34, .tuple #[.agg #[vU m.to, vU m.rp, vW m.id, vH m.op, vH m.st, vU m.po, vW m.ob, vB m.ri, vU m.ck, vU m.ar, .slice A6 m.da.length c7], .nilIface]) :: _) hA rfl fun a hA => ?_
 refine st_alloc tbOk hA hS [.int .u64 0, .int .u64 0, .int .u32 0, .int .u16 0, .int .u16 0, .int .u64 0, .int .u32 0, .int .u8 0, .int .u64 0, .int .u64 0, .slice none 0 0] rfl rfl rfl rfl rfl (by decide) fun b10 w11 a hS hA => ?_
 refine st_store tbOk hA hS [vU m.to, vU m.rp, vW m.id, vH m.op, vH m.st, vU m.po, vW m.ob, vB m.ri, vU m.ck, vU m.ar, .slice A6 m.da.length c7] [vU m.to, vU m.rp, vW m.id, vH m.op, vH m.st, vU m.po, vW m.ob, vB m.ri, vU m.ck, vU m.ar, .slice A6 m.da.length c7] rfl rfl rfl rfl rfl rfl (zn1 rfl) (zle rfl) rfl rfl rfl fun w12 hS => ?_
 refine zR 1 ((8, .nilIface) :: _) hA rfl fun a hA => zn (zx (zs (zs (zr (zR 2 ((40, .bool false) :: (39, .nilIface) :: _) hA rfl fun a hA => zn (zx (cd_cond_f hA rfl (zk (zx (zs (zb (zs (zr (zR 1 ((42, vP b10 0) :: _) hA rfl fun a hA => zL hA hS 0 rfl rfl rfl rfl rfl rfl rfl rfl rfl fun a hA => zR 2 ((45, .bool (((m.to : Nat) : Int) == 0)) :: (44, .bool (((m.to : Nat) : Int) == 0)) :: _) hA rfl fun a hA => ?_))))))))))))))
 have hc13 : ((m.to : Nat) : Int) = 0 := by omega
 replace hA := hA.rw 44 (v' := .bool true) rfl (vb_eq_t hc13)
 replace hA := hA.rw 45 (v' := .bool true) rfl (vb_eq_t hc13)
 refine zR 1 ((46, vP b10 3) :: _) hA rfl fun a hA => zL hA hS 0 rfl rfl rfl rfl rfl rfl rfl rfl rfl fun a hA => zR 3 ((41, .bool (((m.op : Nat) : Int) == 1)) :: (49, .bool (((m.op : Nat) : Int) == 1)) :: (48, .bool (((m.op : Nat) : Int) == 1)) :: _) hA rfl fun a hA => zn (zx ?_)
 have hc14 : ((m.op : Nat) : Int) = 1 := by omega
 replace hA := hA.rw 41 (v' := .bool true) rfl (vb_eq_t hc14)
 refine cd_cond_t hA rfl (zs (zs ?_))
 refine zD0 hS [] [(0, true), (1, true), (2, true), (3, true), (4, true), (5, true), (6, true), (7, true), (8, true), (9, true), (10, true), (11, true), (12, true), (13, true)] mixed (by kernel_rfl) (by rintro c a w ⟨_, _, h, _⟩; cases h) (by rfl) (by kernel_rfl) ?_
 replace hS := hS.drew
 refine zW 3 ((52, vP b 14) :: (51, vP b 0) :: (50, vP b 0) :: _) hA hS rfl fun a hA => zY hA hS 6 rfl rfl rfl rfl rfl rfl rfl rfl rfl rfl fun a hA => zW 2 ((55, .bool (((st.c.port : Nat) : Int) == 0)) :: (54, .bool (((st.c.port : Nat) : Int) == 0)) :: _) hA hS rfl fun a hA => ?_
 have hc15 : ¬ (((st.c.port : Nat) : Int) = 0) := by omega
 replace hA := hA.rw 54 (v' := .bool false) rfl (vb_eq_f hc15)
 replace hA := hA.rw 55 (v' := .bool false) rfl (vb_eq_f hc15)
 refine zW 1 ((56, vP b10 9) :: _) hA hS rfl fun a hA => zY hA hS 0 rfl rfl rfl rfl rfl rfl rfl rfl rfl rfl fun a hA => zW 3 ((60, vP b 14) :: (59, vP b 0) :: (58, vP b 0) :: _) hA hS rfl fun a hA => zY hA hS 6 rfl rfl rfl rfl rfl rfl rfl rfl rfl rfl fun a hA => zW 2 ((63, .bool (((m.ar : Nat) : Int) != ((st.c.port : Nat) : Int))) :: (62, .bool (((m.ar : Nat) : Int) != ((st.c.port : Nat) : Int))) :: _) hA hS rfl fun a hA => ze (zx ?_)
 have hc16 : ((m.ar : Nat) : Int) = ((st.c.port : Nat) : Int) := by omega
 replace hA := hA.rw 63 (v' := .bool false) rfl (vb_ne_f hc16)
 refine cd_cond_f hA rfl (zk (zx (zs (zr (zR 2 ((65, vP b10 9) :: (64, vP b 0) :: _) hA rfl fun a hA => zL hA hS 0 rfl rfl rfl rfl rfl rfl rfl rfl rfl fun a hA => st_val hA rfl rfl (by decide) (rn_build tbOk hA rfl rfl rfl rfl rfl rfl rfl) fun a hA => zR 1 ((68, vP b1 0) :: _) hA rfl fun a hA => zL hA hS 5 rfl rfl rfl rfl rfl rfl rfl rfl rfl fun a hA => ?_)))))
 replace hS := hS.m3.m6
 refine st_call0 hA rfl rfl rfl isfn62 rfl rfl (by decide) (npackets62 (s := st.c) hS (hereM m.ar) (hereM_ok hk10) p.fr (d := .slice none 0 0) RdSX.nil (by omega) hp1 hp2 (nP_here hp1)) ?_
 clear hA hS; rintro _ w17 a ⟨psq, Aq, cq, Cq, Eq, hOq, hKq, rfl, hS⟩ hA
 have hX18 : DX w0 D2 (Eq ++ D2) := DX.refl.step
 refine zR 1 ((4, .slice Aq psq.length cq) :: _) hA rfl fun a hA => zn (zx ?_)
 refine wp_ret (xb_ret (xt_ret ?_))
 refine ret1 (fn := Tryz.f38) hA rfl rfl ?_
 replace hS := hS.m3.d0.m3.d0.m4.d0.m4.d0.m2.m2.m9.m9.m9.m9.m9.m8.m9.m9
 replace hS : St w0 w17 (((b, rowO [vI st.c.id, vI st.c.ki, vI st.c.no, vI st.c.pc, vI st.c.wa, vI st.c.tr, vI st.c.ag, vI st.c.pg, vI st.c.ro, vP bo 0, .bool true, vI st.c.now, vU (st.c.sent + 1), vU st.c.rep, vU st.c.port, vU st.c.r0, vW st.c.r1, vB st.c.r2, vU st.c.r3, sv, vP bd 0, vP bg 0, vP bc 0, vP bp 0, vP bx 0, .map (some mp)] 121) :: (LS ++ (LG2 ++ (LC ++ (LP ++ (LB ++ ((mp, ob) :: LV))))))) :: Cq :: (Eq ++ D2) :: F) := hS.cast (by simp)
 exact ⟨_, psq, Aq, cq, Cq, (Eq ++ D2), ⟨_, _, _, _, _, _, _, _, _, _, _, _, _, _, _, _, _, _, ⟨hn.fsr, (hg2.dx hX18), hn.fcr, hn.fpm, hn.fbx, hn.fmp, (hn.fsv.dx (hX5.trans hX18)), hn.fel, (ent_dx hn.fed (hX5.trans hX18)), hn.fcl, ((hX5.trans hX18).calls hn.fcd), hn.ful, (msg_dx hn.fud (hX5.trans hX18)), hn.fpl, (msg_dx hn.fpd (hX5.trans hX18))⟩, rfl⟩, hOq, ⟨hKq.1, fun x hx => DD.right (hKq.2 x hx)⟩, (hX5.trans hX18), rfl, hS⟩
set_option maxHeartbeats 8000000 in
theorem narr_here38 {w0 w : World} {F : List Chunk} {b bo : Nat} {st : NS} {sr : Srv} {L D : Chunk} {vs' : List GV} {bs : List UInt8} (hS : St w0 w (L :: D :: F)) (hN : NUP w0 b bo st sr L D) (p : PN) (hpt : p.to = st.c.id) {d : Value} (hd : RdSX w0 (D :: F) 1 d p.da.length (rows encB p.da)) (hga : gaddM st.gs p = some (vs', some bs)) (m : MN) (hm : m.ok) (hbs : bs = encM m) (h1 : m.to = 0) (h2 : m.op = 2) (hpl16 : st.pl.length < 16) :
 Ret Tryz.prog 38 #[vP b 0, .agg #[vI p.fr, vI p.to, vU p.id, vI p.ix, vI p.cn, d]] w (fun v w' => ∃ L' D', NUP w0 b bo { st with gs := vs', pl := st.pl.filter (fun x => !(x.1 == m.ar)) ++ [(m.ar, p.fr, st.c.now)] } sr L' D' ∧ DX w0 D D' ∧ v = .slice none 0 0 ∧ St w0 w' (L' :: D' :: F)) := by
 obtain ⟨B, d', rfl, hmd, hdx⟩ := (hd _ (hS.tail 1 rfl)).open'
 have hm0 := hm
 obtain ⟨hk1, hk2, hk3, hk4, hk5, hk6, hk7, hk8, hk9, hk10, hk11⟩ := hm
 obtain ⟨sv, bd, bg, bc, bp, bx, mp, ob, el, cl, ul, pl2, LS, LG, LC, LP, LB, LV, hn, rfl⟩ := hN
 replace hS : St w0 w ([(b, rowO [vI st.c.id, vI st.c.ki, vI st.c.no, vI st.c.pc, vI st.c.wa, vI st.c.tr, vI st.c.ag, vI st.c.pg, vI st.c.ro, vP bo 0, .bool true, vI st.c.now, vU st.c.sent, vU st.c.rep, vU st.c.port, vU st.c.r0, vW st.c.r1, vB st.c.r2, vU st.c.r3, sv, vP bd 0, vP bg 0, vP bc 0, vP bp 0, vP bx 0, .map (some mp)] 121)] :: LS :: LG :: LC :: LP :: LB :: [(mp, ob)] :: LV :: D :: F) := hS.cast (by simp)
 refine enter (vs := [vP b 0, .agg #[vI p.fr, vI p.to, vU p.id, vI p.ix, vI p.cn, .slice B p.da.length d']]) 144 Tryz.func38 rfl rfl (by simp) ?_; intro a hA
 refine zs (zr ?_)
 refine st_box hA hS [vI p.fr, vI p.to, vU p.id, vI p.ix, vI p.cn, .slice B p.da.length d'] rfl rfl rfl rfl rfl (by decide) fun b1 w2 a hS hA => ?_
 refine zR 1 ((4, .slice none 0 0) :: _) hA rfl fun a hA => zn (zx (zs (zs ?_)))
 refine zD0 hS [] [(0, true), (1, true), (2, true), (3, true), (4, true), (5, true), (6, true), (7, true), (8, true), (9, true), (10, true), (11, true), (12, true), (13, true)] mixed (by kernel_rfl) (by rintro c a w ⟨_, _, h, _⟩; cases h) (by rfl) (by kernel_rfl) ?_
 replace hS := hS.drew
 refine zW 3 ((11, vP b 10) :: (10, vP b 0) :: (9, vP b 0) :: _) hA hS rfl fun a hA => zY hA hS 1 rfl rfl rfl rfl rfl rfl rfl rfl rfl rfl fun a hA => zW 3 ((15, vP b1 1) :: (14, .bool false) :: (13, .bool false) :: _) hA hS rfl fun a hA => zY hA hS 0 rfl rfl rfl rfl rfl rfl rfl rfl rfl rfl fun a hA => zW 3 ((19, vP b 0) :: (18, vP b 0) :: (17, vP b 0) :: _) hA hS rfl fun a hA => zY hA hS 1 rfl rfl rfl rfl rfl rfl rfl rfl rfl rfl fun a hA => zW 2 ((22, .bool (((p.to : Nat) : Int) != ((st.c.id : Nat) : Int))) :: (21, .bool (((p.to : Nat) : Int) != ((st.c.id : Nat) : Int))) :: _) hA hS rfl fun a hA => ze (zx ?_)
 have hc3 : ((p.to : Nat) : Int) = ((st.c.id : Nat) : Int) := by omega
 replace hA := hA.rw 22 (v' := .bool false) rfl (vb_ne_f hc3)
 refine cd_cond_f hA rfl (zk (zx (zs ?_)))
 replace hS := hS.m9.m4
 refine zD2 hS [] [(0, true), (1, true), (2, true), (3, true), (4, true), (5, false), (6, true), (7, true), (8, true), (9, true), (10, true)] mixed (by kernel_rfl) (by rintro c a w ⟨_, _, h, _⟩; cases h) (by rfl) (by kernel_rfl) ?_
 replace hS := hS.drew
 refine zW 3 ((26, vP b 21) :: (25, vP b 0) :: (24, vP b 0) :: _) hA (hS.tail 2 rfl) rfl fun a hA => zY hA (hS.tail 2 rfl) 1 rfl rfl rfl rfl rfl rfl rfl rfl rfl rfl fun a hA => zYA hA (hS.tail 2 rfl) 0 [vI p.fr, vI p.to, vU p.id, vI p.ix, vI p.cn, .slice B p.da.length d'] rfl rfl rfl rfl rfl rfl rfl rfl rfl rfl rfl fun a hA => dr_b (o := _) rfl ?_
 replace hS := hS.m1.m1
 refine st_call0 hA rfl rfl rfl isfn60 rfl rfl (by decide) (gaddA hS hn.fgs p (fun w' h => hd _ (St.dmid (R := [[(b1, rowO [vI p.fr, vI p.to, vU p.id, vI p.ix, vI p.cn, .slice B p.da.length d'] 94)], [(b, rowO [vI st.c.id, vI st.c.ki, vI st.c.no, vI st.c.pc, vI st.c.wa, vI st.c.tr, vI st.c.ag, vI st.c.pg, vI st.c.ro, vP bo 0, .bool true, vI st.c.now, vU st.c.sent, vU st.c.rep, vU st.c.port, vU st.c.r0, vW st.c.r1, vB st.c.r2, vU st.c.r3, sv, vP bd 0, vP bg 0, vP bc 0, vP bp 0, vP bx 0, .map (some mp)] 121)], LS, LC, LP, LB, [(mp, ob)], LV]) h)) hga) ?_
 clear hA hS; rintro _ w4 a ⟨LG2, D2, Cb, Ab, cb, hg2, hXg, hOb, rfl, hS⟩ hA; have hcb := hOb.rcap
 have hX5 : DX w0 D D2 := hXg
 refine zi (hS.tail 3 rfl) (zW 5 ((6, .bool true) :: (5, .slice Ab bs.length cb) :: (31, .bool true) :: (30, .slice Ab bs.length cb) :: (23, .tuple #[.slice Ab bs.length cb, .bool true]) :: _) hA (hS.tail 3 rfl) rfl fun a hA => ze (zx (zs (zs (zr (zR 2 ((33, .bool false) :: (32, .bool true) :: _) hA rfl fun a hA => zn (zx (cd_cond_f hA rfl (zk (zx (zs (zr (zR 1 ((35, .slice Ab bs.length cb) :: _) hA rfl fun a hA => ?_)))))))))))))
 refine st_call0 hA rfl rfl rfl isfn61 rfl rfl (by decide) (hdec61 hS (b := bs) (RdS.own hOb 2 rfl) m hm0 hbs) ?_
 clear hA hS; rintro _ w9 a ⟨A6, c7, C8, hO8, rfl, hS⟩ hA
 obtain ⟨_, _, _, hmc7, hxc7⟩ := hO8.open'
 refine zR 3 ((38, .nilIface) :: (37, .agg #[vU m.to, vU m.rp, vW m.id, vH m.op, vH m.st, vU m.po, vW m.ob, vB m.ri, vU m.ck, vU m.ar, .slice A6 m.da.length c7]) :: (34, .tuple #[.agg #[vU m.to, vU m.rp, vW m.id, vH m.op, vH m.st, vU m.po, vW m.ob, vB m.ri, vU m.ck, vU m.ar, .slice A6 m.da.length c7], .nilIface]) :: _) hA rfl fun a hA => ?_
 refine st_alloc tbOk hA hS [.int .u64 0, .int .u64 0, .int .u32 0, .int .u16 0, .int .u16 0, .int .u64 0, .int .u32 0, .int .u8 0, .int .u64 0, .int .u64 0, .slice none 0 0] rfl rfl rfl rfl rfl (by decide) fun b10 w11 a hS hA => ?_
 refine st_store tbOk hA hS [vU m.to, vU m.rp, vW m.id, vH m.op, vH m.st, vU m.po, vW m.ob, vB m.ri, vU m.ck, vU m.ar, .slice A6 m.da.length c7] [vU m.to, vU m.rp, vW m.id, vH m.op, vH m.st, vU m.po, vW m.ob, vB m.ri, vU m.ck, vU m.ar, .slice A6 m.da.length c7] rfl rfl rfl rfl rfl rfl (zn1 rfl) (zle rfl) rfl rfl rfl fun w12 hS => ?_
 refine zR 1 ((8, .nilIface) :: _) hA rfl fun a hA => zn (zx (zs (zs (zr (zR 2 ((40, .bool false) :: (39, .nilIface) :: _) hA rfl fun a hA => zn (zx (cd_cond_f hA rfl (zk (zx (zs (zb (zs (zr (zR 1 ((42, vP b10 0) :: _) hA rfl fun a hA => zL hA hS 0 rfl rfl rfl rfl rfl rfl rfl rfl rfl fun a hA => zR 2 ((45, .bool (((m.to : Nat) : Int) == 0)) :: (44, .bool (((m.to : Nat) : Int) == 0)) :: _) hA rfl fun a hA => ?_))))))))))))))
 have hc13 : ((m.to : Nat) : Int) = 0 := by omega
 replace hA := hA.rw 44 (v' := .bool true) rfl (vb_eq_t hc13)
 replace hA := hA.rw 45 (v' := .bool true) rfl (vb_eq_t hc13)
 refine zR 1 ((46, vP b10 3) :: _) hA rfl fun a hA => zL hA hS 0 rfl rfl rfl rfl rfl rfl rfl rfl rfl fun a hA => zR 3 ((41, .bool (((m.op : Nat) : Int) == 1)) :: (49, .bool (((m.op : Nat) : Int) == 1)) :: (48, .bool (((m.op : Nat) : Int) == 1)) :: _) hA rfl fun a hA => zn (zx ?_)
 have hc14 : ¬ (((m.op : Nat) : Int) = 1) := by omega
 replace hA := hA.rw 41 (v' := .bool false) rfl (vb_eq_f hc14)
 refine cd_cond_f hA rfl (zs (zr (zR 1 ((72, vP b10 0) :: _) hA rfl fun a hA => zL hA hS 0 rfl rfl rfl rfl rfl rfl rfl rfl rfl fun a hA => zR 2 ((75, .bool (((m.to : Nat) : Int) == 0)) :: (74, .bool (((m.to : Nat) : Int) == 0)) :: _) hA rfl fun a hA => ?_)))
 have hc15 : ((m.to : Nat) : Int) = 0 := by omega
 replace hA := hA.rw 74 (v' := .bool true) rfl (vb_eq_t hc15)
 replace hA := hA.rw 75 (v' := .bool true) rfl (vb_eq_t hc15)
 refine zR 1 ((76, vP b10 3) :: _) hA rfl fun a hA => zL hA hS 0 rfl rfl rfl rfl rfl rfl rfl rfl rfl fun a hA => zR 3 ((71, .bool (((m.op : Nat) : Int) == 2)) :: (79, .bool (((m.op : Nat) : Int) == 2)) :: (78, .bool (((m.op : Nat) : Int) == 2)) :: _) hA rfl fun a hA => zn (zx ?_)
 have hc16 : ((m.op : Nat) : Int) = 2 := by omega
 replace hA := hA.rw 71 (v' := .bool true) rfl (vb_eq_t hc16)
 refine cd_cond_t hA rfl ?_
 replace hS := hS.m9
 refine zD1 hS [] [(0, true), (1, true), (2, true), (3, true), (4, true), (5, true), (6, true), (7, true), (8, true), (9, true), (10, true), (11, true), (12, false)] mixed (by kernel_rfl) (by rintro c a w ⟨_, _, h, _⟩; cases h) (by rfl) (by kernel_rfl) ?_
 replace hS := hS.drew
 refine zW 3 ((82, vP b 23) :: (81, vP b 0) :: (80, vP b 0) :: _) hA (hS.tail 1 rfl) rfl fun a hA => zY hA (hS.tail 1 rfl) 6 rfl rfl rfl rfl rfl rfl rfl rfl rfl rfl fun a hA => zW 1 ((84, vP b10 9) :: _) hA (hS.tail 1 rfl) rfl fun a hA => zY hA (hS.tail 1 rfl) 0 rfl rfl rfl rfl rfl rfl rfl rfl rfl rfl fun a hA => zW 1 ((86, vP b1 0) :: _) hA (hS.tail 1 rfl) rfl fun a hA => zY hA (hS.tail 1 rfl) 5 rfl rfl rfl rfl rfl rfl rfl rfl rfl rfl fun a hA => zW 3 ((90, vP b 11) :: (89, vP b 0) :: (88, vP b 0) :: _) hA (hS.tail 1 rfl) rfl fun a hA => zY hA (hS.tail 1 rfl) 6 rfl rfl rfl rfl rfl rfl rfl rfl rfl rfl fun a hA => dr_b (o := _) rfl ?_
 refine st_call0 hA rfl rfl rfl isfn63 rfl rfl (by decide) (plearn63 hS hn.fpm m.ar p.fr st.c.now hpl16) ?_
 clear hA hS; rintro _ w17 a ⟨LP2, hP2, rfl, hS⟩ hA
 refine zi (hS.tail 1 rfl) (ze (zm (zx (zs (zr (zR 1 ((4, .slice none 0 0) :: _) hA rfl fun a hA => zn (zx ?_)))))))
 refine wp_ret ?_
 refine ret1 (fn := Tryz.f38) hA rfl rfl ?_
 replace hS := hS.m1.d0.m1.d0.m3.d0.m3.d0.m2.m8.m8.m8.m4.m8.m6.m8.m8
 replace hS : St w0 w17 (((b, rowO [vI st.c.id, vI st.c.ki, vI st.c.no, vI st.c.pc, vI st.c.wa, vI st.c.tr, vI st.c.ag, vI st.c.pg, vI st.c.ro, vP bo 0, .bool true, vI st.c.now, vU st.c.sent, vU st.c.rep, vU st.c.port, vU st.c.r0, vW st.c.r1, vB st.c.r2, vU st.c.r3, sv, vP bd 0, vP bg 0, vP bc 0, vP bp 0, vP bx 0, .map (some mp)] 121) :: (LS ++ (LG2 ++ (LC ++ (LP2 ++ (LB ++ ((mp, ob) :: LV))))))) :: D2 :: F) := hS.cast (by simp)
 exact ⟨_, D2, ⟨_, _, _, _, _, _, _, _, _, _, _, _, _, _, _, _, _, _, ⟨hn.fsr, hg2, hn.fcr, hP2, hn.fbx, hn.fmp, (hn.fsv.dx hX5), hn.fel, (ent_dx hn.fed hX5), hn.fcl, (hX5.calls hn.fcd), hn.ful, (msg_dx hn.fud hX5), hn.fpl, (msg_dx hn.fpd hX5)⟩, rfl⟩, hX5, rfl, hS⟩
end Go.Proofs.YthiakdmhpfkjbaaGreatDoor

set_option linter.unusedVariables false
set_option linter.unusedSimpArgs false
set_option maxRecDepth 4000
namespace Go.Proofs.YthiakdmhpfkjbaaGreatDoor
open Go Go.SK
set_option maxHeartbeats 8000000 in
theorem narr_reply38 {w0 w : World} {F : List Chunk} {b bo : Nat} {st : NS} {sr : Srv} {L D : Chunk} {vs' : List GV} {bs : List UInt8} (hS : St w0 w (L :: D :: F)) (hN : NUP w0 b bo st sr L D) (p : PN) (hpt : p.to = st.c.id) {d : Value} (hd : RdSX w0 (D :: F) 1 d p.da.length (rows encB p.da)) (hga : gaddM st.gs p = some (vs', some bs)) (m : MN) (hm : m.ok) (hbs : bs = encM m) (h1 : ¬ m.to = 0) (h2 : m.to = st.c.rep) (hbr : st.us.length < st.c.ro) :
 Ret Tryz.prog 38 #[vP b 0, .agg #[vI p.fr, vI p.to, vU p.id, vI p.ix, vI p.cn, d]] w (fun v w' => ∃ L' D', NUP w0 b bo { st with gs := vs', us := st.us ++ [m] } sr L' D' ∧ DX w0 D D' ∧ v = .slice none 0 0 ∧ St w0 w' (L' :: D' :: F)) := by
 obtain ⟨B, d', rfl, hmd, hdx⟩ := (hd _ (hS.tail 1 rfl)).open'
 have hm0 := hm
 obtain ⟨hk1, hk2, hk3, hk4, hk5, hk6, hk7, hk8, hk9, hk10, hk11⟩ := hm
 obtain ⟨sv, bd, bg, bc, bp, bx, mp, ob, el, cl, ul, pl2, LS, LG, LC, LP, LB, LV, hn, rfl⟩ := hN
 replace hS : St w0 w ([(b, rowO [vI st.c.id, vI st.c.ki, vI st.c.no, vI st.c.pc, vI st.c.wa, vI st.c.tr, vI st.c.ag, vI st.c.pg, vI st.c.ro, vP bo 0, .bool true, vI st.c.now, vU st.c.sent, vU st.c.rep, vU st.c.port, vU st.c.r0, vW st.c.r1, vB st.c.r2, vU st.c.r3, sv, vP bd 0, vP bg 0, vP bc 0, vP bp 0, vP bx 0, .map (some mp)] 121)] :: LS :: LG :: LC :: LP :: LB :: [(mp, ob)] :: LV :: D :: F) := hS.cast (by simp)
 refine enter (vs := [vP b 0, .agg #[vI p.fr, vI p.to, vU p.id, vI p.ix, vI p.cn, .slice B p.da.length d']]) 144 Tryz.func38 rfl rfl (by simp) ?_; intro a hA
 refine zs (zr ?_)
 refine st_box hA hS [vI p.fr, vI p.to, vU p.id, vI p.ix, vI p.cn, .slice B p.da.length d'] rfl rfl rfl rfl rfl (by decide) fun b1 w2 a hS hA => ?_
 refine zR 1 ((4, .slice none 0 0) :: _) hA rfl fun a hA => zn (zx (zs (zs ?_)))
 refine zD0 hS [] [(0, true), (1, true), (2, true), (3, true), (4, true), (5, true), (6, true), (7, true), (8, true), (9, true), (10, true), (11, true), (12, true), (13, true)] mixed (by kernel_rfl) (by rintro c a w ⟨_, _, h, _⟩; cases h) (by rfl) (by kernel_rfl) ?_
 replace hS := hS.drew
 refine zW 3 ((11, vP b 10) :: (10, vP b 0) :: (9, vP b 0) :: _) hA hS rfl fun a hA => zY hA hS 1 rfl rfl rfl rfl rfl rfl rfl rfl rfl rfl fun a hA => zW 3 ((15, vP b1 1) :: (14, .bool false) :: (13, .bool false) :: _) hA hS rfl fun a hA => zY hA hS 0 rfl rfl rfl rfl rfl rfl rfl rfl rfl rfl fun a hA => zW 3 ((19, vP b 0) :: (18, vP b 0) :: (17, vP b 0) :: _) hA hS rfl fun a hA => zY hA hS 1 rfl rfl rfl rfl rfl rfl rfl rfl rfl rfl fun a hA => zW 2 ((22, .bool (((p.to : Nat) : Int) != ((st.c.id : Nat) : Int))) :: (21, .bool (((p.to : Nat) : Int) != ((st.c.id : Nat) : Int))) :: _) hA hS rfl fun a hA => ze (zx ?_)
 have hc3 : ((p.to : Nat) : Int) = ((st.c.id : Nat) : Int) := by omega
 replace hA := hA.rw 22 (v' := .bool false) rfl (vb_ne_f hc3)
 refine cd_cond_f hA rfl (zk (zx (zs ?_)))
 replace hS := hS.m9.m4
 refine zD2 hS [] [(0, true), (1, true), (2, true), (3, true), (4, true), (5, false), (6, true), (7, true), (8, true), (9, true), (10, true)] mixed (by kernel_rfl) (by rintro c a w ⟨_, _, h, _⟩; cases h) (by rfl) (by kernel_rfl) ?_
 replace hS := hS.drew
 refine zW 3 ((26, vP b 21) :: (25, vP b 0) :: (24, vP b 0) :: _) hA (hS.tail 2 rfl) rfl fun a hA => zY hA (hS.tail 2 rfl) 1 rfl rfl rfl rfl rfl rfl rfl rfl rfl rfl fun a hA => zYA hA (hS.tail 2 rfl) 0 [vI p.fr, vI p.to, vU p.id, vI p.ix, vI p.cn, .slice B p.da.length d'] rfl rfl rfl rfl rfl rfl rfl rfl rfl rfl rfl fun a hA => dr_b (o := _) rfl ?_
 replace hS := hS.m1.m1
 refine st_call0 hA rfl rfl rfl isfn60 rfl rfl (by decide) (gaddA hS hn.fgs p (fun w' h => hd _ (St.dmid (R := [[(b1, rowO [vI p.fr, vI p.to, vU p.id, vI p.ix, vI p.cn, .slice B p.da.length d'] 94)], [(b, rowO [vI st.c.id, vI st.c.ki, vI st.c.no, vI st.c.pc, vI st.c.wa, vI st.c.tr, vI st.c.ag, vI st.c.pg, vI st.c.ro, vP bo 0, .bool true, vI st.c.now, vU st.c.sent, vU st.c.rep, vU st.c.port, vU st.c.r0, vW st.c.r1, vB st.c.r2, vU st.c.r3, sv, vP bd 0, vP bg 0, vP bc 0, vP bp 0, vP bx 0, .map (some mp)] 121)], LS, LC, LP, LB, [(mp, ob)], LV]) h)) hga) ?_
 clear hA hS; rintro _ w4 a ⟨LG2, D2, Cb, Ab, cb, hg2, hXg, hOb, rfl, hS⟩ hA; have hcb := hOb.rcap
 have hX5 : DX w0 D D2 := hXg
 refine zi (hS.tail 3 rfl) (zW 5 ((6, .bool true) :: (5, .slice Ab bs.length cb) :: (31, .bool true) :: (30, .slice Ab bs.length cb) :: (23, .tuple #[.slice Ab bs.length cb, .bool true]) :: _) hA (hS.tail 3 rfl) rfl fun a hA => ze (zx (zs (zs (zr (zR 2 ((33, .bool false) :: (32, .bool true) :: _) hA rfl fun a hA => zn (zx (cd_cond_f hA rfl (zk (zx (zs (zr (zR 1 ((35, .slice Ab bs.length cb) :: _) hA rfl fun a hA => ?_)))))))))))))
 refine st_call0 hA rfl rfl rfl isfn61 rfl rfl (by decide) (hdec61 hS (b := bs) (RdS.own hOb 2 rfl) m hm0 hbs) ?_
 clear hA hS; rintro _ w9 a ⟨A6, c7, C8, hO8, rfl, hS⟩ hA
 obtain ⟨_, _, _, hmc7, hxc7⟩ := hO8.open'
 refine zR 3 ((38, .nilIface) :: (37, .agg #[vU m.to, vU m.rp, vW m.id, vH m.op, vH m.st, vU m.po, vW m.ob, vB m.ri, vU m.ck, vU m.ar, .slice A6 m.da.length c7]) :: (34, .tuple #[.agg #[vU m.to, vU m.rp, vW m.id, vH m.op, vH m.st, vU m.po, vW m.ob, vB m.ri, vU m.ck, vU m.ar, .slice A6 m.da.length c7], .nilIface]) :: _) hA rfl fun a hA => ?_
 refine st_alloc tbOk hA hS [.int .u64 0, .int .u64 0, .int .u32 0, .int .u16 0, .int .u16 0, .int .u64 0, .int .u32 0, .int .u8 0, .int .u64 0, .int .u64 0, .slice none 0 0] rfl rfl rfl rfl rfl (by decide) fun b10 w11 a hS hA => ?_
 refine st_store tbOk hA hS [vU m.to, vU m.rp, vW m.id, vH m.op, vH m.st, vU m.po, vW m.ob, vB m.ri, vU m.ck, vU m.ar, .slice A6 m.da.length c7] [vU m.to, vU m.rp, vW m.id, vH m.op, vH m.st, vU m.po, vW m.ob, vB m.ri, vU m.ck, vU m.ar, .slice A6 m.da.length c7] rfl rfl rfl rfl rfl rfl (zn1 rfl) (zle rfl) rfl rfl rfl fun w12 hS => ?_
 refine zR 1 ((8, .nilIface) :: _) hA rfl fun a hA => zn (zx (zs (zs (zr (zR 2 ((40, .bool false) :: (39, .nilIface) :: _) hA rfl fun a hA => zn (zx (cd_cond_f hA rfl (zk (zx (zs (zb (zs (zr (zR 1 ((42, vP b10 0) :: _) hA rfl fun a hA => zL hA hS 0 rfl rfl rfl rfl rfl rfl rfl rfl rfl fun a hA => zR 2 ((45, .bool (((m.to : Nat) : Int) == 0)) :: (44, .bool (((m.to : Nat) : Int) == 0)) :: _) hA rfl fun a hA => ?_))))))))))))))
 have hc13 : ¬ (((m.to : Nat) : Int) = 0) := by omega
 replace hA := hA.rw 44 (v' := .bool false) rfl (vb_eq_f hc13)
 replace hA := hA.rw 45 (v' := .bool false) rfl (vb_eq_f hc13)
 refine zR 5 ((41, .bool false) :: (49, .bool false) :: (48, undef) :: (47, undef) :: (46, undef) :: _) hA rfl fun a hA => zn (zx (cd_cond_f hA rfl (zs (zr (zR 1 ((72, vP b10 0) :: _) hA rfl fun a hA => zL hA hS 0 rfl rfl rfl rfl rfl rfl rfl rfl rfl fun a hA => zR 2 ((75, .bool (((m.to : Nat) : Int) == 0)) :: (74, .bool (((m.to : Nat) : Int) == 0)) :: _) hA rfl fun a hA => ?_)))))
 have hc14 : ¬ (((m.to : Nat) : Int) = 0) := by omega
 replace hA := hA.rw 74 (v' := .bool false) rfl (vb_eq_f hc14)
 replace hA := hA.rw 75 (v' := .bool false) rfl (vb_eq_f hc14)
 refine zR 5 ((71, .bool false) :: (79, .bool false) :: (78, undef) :: (77, undef) :: (76, undef) :: _) hA rfl fun a hA => zn (zx (cd_cond_f hA rfl (zs ?_)))
 refine zD0 hS [] [(0, true), (1, true), (2, true), (3, true), (4, true), (5, true), (6, true), (7, true), (8, true), (9, true), (10, true), (11, true), (12, true), (13, true), (14, true)] mixed (by kernel_rfl) (by rintro c a w ⟨_, _, h, _⟩; cases h) (by rfl) (by kernel_rfl) ?_
 replace hS := hS.drew
 refine zW 1 ((94, vP b10 0) :: _) hA hS rfl fun a hA => zY hA hS 0 rfl rfl rfl rfl rfl rfl rfl rfl rfl rfl fun a hA => zW 3 ((98, vP b 13) :: (97, vP b 0) :: (96, vP b 0) :: _) hA hS rfl fun a hA => zY hA hS 6 rfl rfl rfl rfl rfl rfl rfl rfl rfl rfl fun a hA => zW 2 ((101, .bool (((m.to : Nat) : Int) == ((st.c.rep : Nat) : Int))) :: (100, .bool (((m.to : Nat) : Int) == ((st.c.rep : Nat) : Int))) :: _) hA hS rfl fun a hA => ?_
 have hc15 : ((m.to : Nat) : Int) = ((st.c.rep : Nat) : Int) := by omega
 replace hA := hA.rw 100 (v' := .bool true) rfl (vb_eq_t hc15)
 replace hA := hA.rw 101 (v' := .bool true) rfl (vb_eq_t hc15)
 refine zW 3 ((104, vP b 13) :: (103, vP b 0) :: (102, vP b 0) :: _) hA hS rfl fun a hA => zY hA hS 6 rfl rfl rfl rfl rfl rfl rfl rfl rfl rfl fun a hA => zW 3 ((93, .bool (((st.c.rep : Nat) : Int) != 0)) :: (107, .bool (((st.c.rep : Nat) : Int) != 0)) :: (106, .bool (((st.c.rep : Nat) : Int) != 0)) :: _) hA hS rfl fun a hA => ze (zx ?_)
 have hc16 : ¬ (((st.c.rep : Nat) : Int) = 0) := by omega
 replace hA := hA.rw 93 (v' := .bool true) rfl (vb_ne_t hc16)
 refine cd_cond_t hA rfl ?_
 replace hS := hS.m3.m10
 refine zD2 hS [] [(0, true), (1, true), (2, true), (3, true), (4, true), (5, false)] mixed (by kernel_rfl) (by rintro c a w ⟨_, _, h, _⟩; cases h) (by rfl) (by kernel_rfl) ?_
 replace hS := hS.drew
 refine zW 3 ((110, vP b 24) :: (109, vP b 0) :: (108, vP b 0) :: _) hA (hS.tail 2 rfl) rfl fun a hA => zY hA (hS.tail 2 rfl) 5 rfl rfl rfl rfl rfl rfl rfl rfl rfl rfl fun a hA => zYA hA (hS.tail 2 rfl) 0 [vU m.to, vU m.rp, vW m.id, vH m.op, vH m.st, vU m.po, vW m.ob, vB m.ri, vU m.ck, vU m.ar, .slice A6 m.da.length c7] rfl rfl rfl rfl rfl rfl rfl rfl rfl rfl rfl fun a hA => dr_b (o := _) rfl ?_
 replace hS := hS.m1.m1
 refine st_call0 hA rfl rfl rfl isfn64 rfl rfl (by decide) (put_u_room64 hS hn.fbx ((m.to : Nat) : Int) ((m.rp : Nat) : Int) ((m.id : Nat) : Int) ((m.op : Nat) : Int) ((m.st : Nat) : Int) ((m.po : Nat) : Int) ((m.ob : Nat) : Int) ((m.ri : Nat) : Int) ((m.ck : Nat) : Int) ((m.ar : Nat) : Int) (bs := m.da) (RdS.x (RdS.own hO8 2 rfl)) (by omega) (by rw [map_len9 hn.ful]; exact hbr)) ?_
 clear hA hS; rintro _ w17 a ⟨LB2, E3, A3, c3, hb2, hE3, rfl, hS⟩ hA
 have hX18 : DX w0 D2 (E3 ++ D2) := DX.refl.step
 refine zi (hS.tail 2 rfl) (ze (zm (zx (zs (zr (zR 1 ((4, .slice none 0 0) :: _) hA rfl fun a hA => zn (zx ?_)))))))
 refine wp_ret ?_
 refine ret1 (fn := Tryz.f38) hA rfl rfl ?_
 replace hS := hS.m2.d0.m2.d0.m3.d0.m3.d0.m1.m8.m8.m3.m8.m8.m6.m8.m8
 replace hS : St w0 w17 (((b, rowO [vI st.c.id, vI st.c.ki, vI st.c.no, vI st.c.pc, vI st.c.wa, vI st.c.tr, vI st.c.ag, vI st.c.pg, vI st.c.ro, vP bo 0, .bool true, vI st.c.now, vU st.c.sent, vU st.c.rep, vU st.c.port, vU st.c.r0, vW st.c.r1, vB st.c.r2, vU st.c.r3, sv, vP bd 0, vP bg 0, vP bc 0, vP bp 0, vP bx 0, .map (some mp)] 121) :: (LS ++ (LG2 ++ (LC ++ (LP ++ (LB2 ++ ((mp, ob) :: LV))))))) :: (E3 ++ D2) :: F) := hS.cast (by simp)
 exact ⟨_, (E3 ++ D2), ⟨_, _, _, _, _, _, _, _, _, _, _, _, _, _, _, _, _, _, ⟨hn.fsr, (hg2.dx hX18), hn.fcr, hn.fpm, hb2, hn.fmp, (hn.fsv.dx (hX5.trans hX18)), hn.fel, (ent_dx hn.fed (hX5.trans hX18)), hn.fcl, ((hX5.trans hX18).calls hn.fcd), (map_snoc9 (y := m) hn.ful rfl), (all_snoc9 (msg_dx hn.fud hX5) (fun y hy => encMessage_left hy) hE3.right), hn.fpl, (msg_dx hn.fpd (hX5.trans hX18))⟩, rfl⟩, (hX5.trans hX18), rfl, hS⟩
set_option maxHeartbeats 8000000 in
theorem narr_reqnew38 {w0 w : World} {F : List Chunk} {b bo : Nat} {st : NS} {sr : Srv} {L D : Chunk} {vs' : List GV} {bs : List UInt8} (hS : St w0 w (L :: D :: F)) (hN : NUP w0 b bo st sr L D) (p : PN) (hpt : p.to = st.c.id) {d : Value} (hd : RdSX w0 (D :: F) 1 d p.da.length (rows encB p.da)) (hga : gaddM st.gs p = some (vs', some bs)) (m : MN) (hm : m.ok) (hbs : bs = encM m) (h1 : ¬ m.to = 0) (h2 : ¬ m.to = st.c.rep) (h3 : m.to = st.c.port) (hbr : st.ps.length < st.c.ro) (hsd : ∀ x ∈ st.sd, ¬ x.1 = m.rp) :
 Ret Tryz.prog 38 #[vP b 0, .agg #[vI p.fr, vI p.to, vU p.id, vI p.ix, vI p.cn, d]] w (fun v w' => ∃ L' D', NUP w0 b bo { st with gs := vs', ps := st.ps ++ [m], sd := st.sd ++ [(m.rp, p.fr)] } sr L' D' ∧ DX w0 D D' ∧ v = .slice none 0 0 ∧ St w0 w' (L' :: D' :: F)) := by
 obtain ⟨B, d', rfl, hmd, hdx⟩ := (hd _ (hS.tail 1 rfl)).open'
 have hm0 := hm
 obtain ⟨hk1, hk2, hk3, hk4, hk5, hk6, hk7, hk8, hk9, hk10, hk11⟩ := hm
 obtain ⟨sv, bd, bg, bc, bp, bx, mp, ob, el, cl, ul, pl2, LS, LG, LC, LP, LB, LV, hn, rfl⟩ := hN
 replace hS : St w0 w ([(b, rowO [vI st.c.id, vI st.c.ki, vI st.c.no, vI st.c.pc, vI st.c.wa, vI st.c.tr, vI st.c.ag, vI st.c.pg, vI st.c.ro, vP bo 0, .bool true, vI st.c.now, vU st.c.sent, vU st.c.rep, vU st.c.port, vU st.c.r0, vW st.c.r1, vB st.c.r2, vU st.c.r3, sv, vP bd 0, vP bg 0, vP bc 0, vP bp 0, vP bx 0, .map (some mp)] 121)] :: LS :: LG :: LC :: LP :: LB :: [(mp, ob)] :: LV :: D :: F) := hS.cast (by simp)
 refine enter (vs := [vP b 0, .agg #[vI p.fr, vI p.to, vU p.id, vI p.ix, vI p.cn, .slice B p.da.length d']]) 144 Tryz.func38 rfl rfl (by simp) ?_; intro a hA
 refine zs (zr ?_)
 refine st_box hA hS [vI p.fr, vI p.to, vU p.id, vI p.ix, vI p.cn, .slice B p.da.length d'] rfl rfl rfl rfl rfl (by decide) fun b1 w2 a hS hA => ?_
 refine zR 1 ((4, .slice none 0 0) :: _) hA rfl fun a hA => zn (zx (zs (zs ?_)))
 refine zD0 hS [] [(0, true), (1, true), (2, true), (3, true), (4, true), (5, true), (6, true), (7, true), (8, true), (9, true), (10, true), (11, true), (12, true), (13, true)] mixed (by kernel_rfl) (by rintro c a w ⟨_, _, h, _⟩; cases h) (by rfl) (by kernel_rfl) ?_
 replace hS := hS.drew
 refine zW 3 ((11, vP b 10) :: (10, vP b 0) :: (9, vP b 0) :: _) hA hS rfl fun a hA => zY hA hS 1 rfl rfl rfl rfl rfl rfl rfl rfl rfl rfl fun a hA => zW 3 ((15, vP b1 1) :: (14, .bool false) :: (13, .bool false) :: _) hA hS rfl fun a hA => zY hA hS 0 rfl rfl rfl rfl rfl rfl rfl rfl rfl rfl fun a hA => zW 3 ((19, vP b 0) :: (18, vP b 0) :: (17, vP b 0) :: _) hA hS rfl fun a hA => zY hA hS 1 rfl rfl rfl rfl rfl rfl rfl rfl rfl rfl fun a hA => zW 2 ((22, .bool (((p.to : Nat) : Int) != ((st.c.id : Nat) : Int))) :: (21, .bool (((p.to : Nat) : Int) != ((st.c.id : Nat) : Int))) :: _) hA hS rfl fun a hA => ze (zx ?_)
 have hc3 : ((p.to : Nat) : Int) = ((st.c.id : Nat) : Int) := by omega
 replace hA := hA.rw 22 (v' := .bool false) rfl (vb_ne_f hc3)
 refine cd_cond_f hA rfl (zk (zx (zs ?_)))
 replace hS := hS.m9.m4
 refine zD2 hS [] [(0, true), (1, true), (2, true), (3, true), (4, true), (5, false), (6, true), (7, true), (8, true), (9, true), (10, true)] mixed (by kernel_rfl) (by rintro c a w ⟨_, _, h, _⟩; cases h) (by rfl) (by kernel_rfl) ?_
 replace hS := hS.drew
 refine zW 3 ((26, vP b 21) :: (25, vP b 0) :: (24, vP b 0) :: _) hA (hS.tail 2 rfl) rfl fun a hA => zY hA (hS.tail 2 rfl) 1 rfl rfl rfl rfl rfl rfl rfl rfl rfl rfl fun a hA => zYA hA (hS.tail 2 rfl) 0 [vI p.fr, vI p.to, vU p.id, vI p.ix, vI p.cn, .slice B p.da.length d'] rfl rfl rfl rfl rfl rfl rfl rfl rfl rfl rfl fun a hA => dr_b (o := _) rfl ?_
 replace hS := hS.m1.m1
 refine st_call0 hA rfl rfl rfl isfn60 rfl rfl (by decide) (gaddA hS hn.fgs p (fun w' h => hd _ (St.dmid (R := [[(b1, rowO [vI p.fr, vI p.to, vU p.id, vI p.ix, vI p.cn, .slice B p.da.length d'] 94)], [(b, rowO [vI st.c.id, vI st.c.ki, vI st.c.no, vI st.c.pc, vI st.c.wa, vI st.c.tr, vI st.c.ag, vI st.c.pg, vI st.c.ro, vP bo 0, .bool true, vI st.c.now, vU st.c.sent, vU st.c.rep, vU st.c.port, vU st.c.r0, vW st.c.r1, vB st.c.r2, vU st.c.r3, sv, vP bd 0, vP bg 0, vP bc 0, vP bp 0, vP bx 0, .map (some mp)] 121)], LS, LC, LP, LB, [(mp, ob)], LV]) h)) hga) ?_
 clear hA hS; rintro _ w4 a ⟨LG2, D2, Cb, Ab, cb, hg2, hXg, hOb, rfl, hS⟩ hA; have hcb := hOb.rcap
 have hX5 : DX w0 D D2 := hXg
 refine zi (hS.tail 3 rfl) (zW 5 ((6, .bool true) :: (5, .slice Ab bs.length cb) :: (31, .bool true) :: (30, .slice Ab bs.length cb) :: (23, .tuple #[.slice Ab bs.length cb, .bool true]) :: _) hA (hS.tail 3 rfl) rfl fun a hA => ze (zx (zs (zs (zr (zR 2 ((33, .bool false) :: (32, .bool true) :: _) hA rfl fun a hA => zn (zx (cd_cond_f hA rfl (zk (zx (zs (zr (zR 1 ((35, .slice Ab bs.length cb) :: _) hA rfl fun a hA => ?_)))))))))))))
 refine st_call0 hA rfl rfl rfl isfn61 rfl rfl (by decide) (hdec61 hS (b := bs) (RdS.own hOb 2 rfl) m hm0 hbs) ?_
 clear hA hS; rintro _ w9 a ⟨A6, c7, C8, hO8, rfl, hS⟩ hA
 obtain ⟨_, _, _, hmc7, hxc7⟩ := hO8.open'
 refine zR 3 ((38, .nilIface) :: (37, .agg #[vU m.to, vU m.rp, vW m.id, vH m.op, vH m.st, vU m.po, vW m.ob, vB m.ri, vU m.ck, vU m.ar, .slice A6 m.da.length c7]) :: (34, .tuple #[.agg #[vU m.to, vU m.rp, vW m.id, vH m.op, vH m.st, vU m.po, vW m.ob, vB m.ri, vU m.ck, vU m.ar, .slice A6 m.da.length c7], .nilIface]) :: _) hA rfl fun a hA => ?_
 refine st_alloc tbOk hA hS [.int .u64 0, .int .u64 0, .int .u32 0, .int .u16 0, .int .u16 0, .int .u64 0, .int .u32 0, .int .u8 0, .int .u64 0, .int .u64 0, .slice none 0 0] rfl rfl rfl rfl rfl (by decide) fun b10 w11 a hS hA => ?_
 refine st_store tbOk hA hS [vU m.to, vU m.rp, vW m.id, vH m.op, vH m.st, vU m.po, vW m.ob, vB m.ri, vU m.ck, vU m.ar, .slice A6 m.da.length c7] [vU m.to, vU m.rp, vW m.id, vH m.op, vH m.st, vU m.po, vW m.ob, vB m.ri, vU m.ck, vU m.ar, .slice A6 m.da.length c7] rfl rfl rfl rfl rfl rfl (zn1 rfl) (zle rfl) rfl rfl rfl fun w12 hS => ?_
 refine zR 1 ((8, .nilIface) :: _) hA rfl fun a hA => zn (zx (zs (zs (zr (zR 2 ((40, .bool false) :: (39, .nilIface) :: _) hA rfl fun a hA => zn (zx (cd_cond_f hA rfl (zk (zx (zs (zb (zs (zr (zR 1 ((42, vP b10 0) :: _) hA rfl fun a hA => zL hA hS 0 rfl rfl rfl rfl rfl rfl rfl rfl rfl fun a hA => zR 2 ((45, .bool (((m.to : Nat) : Int) == 0)) :: (44, .bool (((m.to : Nat) : Int) == 0)) :: _) hA rfl fun a hA => ?_))))))))))))))
 have hc13 : ¬ (((m.to : Nat) : Int) = 0) := by omega
 replace hA := hA.rw 44 (v' := .bool false) rfl (vb_eq_f hc13)
 replace hA := hA.rw 45 (v' := .bool false) rfl (vb_eq_f hc13)
 refine zR 5 ((41, .bool false) :: (49, .bool false) :: (48, undef) :: (47, undef) :: (46, undef) :: _) hA rfl fun a hA => zn (zx (cd_cond_f hA rfl (zs (zr (zR 1 ((72, vP b10 0) :: _) hA rfl fun a hA => zL hA hS 0 rfl rfl rfl rfl rfl rfl rfl rfl rfl fun a hA => zR 2 ((75, .bool (((m.to : Nat) : Int) == 0)) :: (74, .bool (((m.to : Nat) : Int) == 0)) :: _) hA rfl fun a hA => ?_)))))
 have hc14 : ¬ (((m.to : Nat) : Int) = 0) := by omega
 replace hA := hA.rw 74 (v' := .bool false) rfl (vb_eq_f hc14)
 replace hA := hA.rw 75 (v' := .bool false) rfl (vb_eq_f hc14)
 refine zR 5 ((71, .bool false) :: (79, .bool false) :: (78, undef) :: (77, undef) :: (76, undef) :: _) hA rfl fun a hA => zn (zx (cd_cond_f hA rfl (zs ?_)))
 refine zD0 hS [] [(0, true), (1, true), (2, true), (3, true), (4, true), (5, true), (6, true), (7, true), (8, true), (9, true), (10, true), (11, true), (12, true), (13, true), (14, true)] mixed (by kernel_rfl) (by rintro c a w ⟨_, _, h, _⟩; cases h) (by rfl) (by kernel_rfl) ?_
 replace hS := hS.drew
 refine zW 1 ((94, vP b10 0) :: _) hA hS rfl fun a hA => zY hA hS 0 rfl rfl rfl rfl rfl rfl rfl rfl rfl rfl fun a hA => zW 3 ((98, vP b 13) :: (97, vP b 0) :: (96, vP b 0) :: _) hA hS rfl fun a hA => zY hA hS 6 rfl rfl rfl rfl rfl rfl rfl rfl rfl rfl fun a hA => zW 2 ((101, .bool (((m.to : Nat) : Int) == ((st.c.rep : Nat) : Int))) :: (100, .bool (((m.to : Nat) : Int) == ((st.c.rep : Nat) : Int))) :: _) hA hS rfl fun a hA => ?_
 have hc15 : ¬ (((m.to : Nat) : Int) = ((st.c.rep : Nat) : Int)) := by omega
 replace hA := hA.rw 100 (v' := .bool false) rfl (vb_eq_f hc15)
 replace hA := hA.rw 101 (v' := .bool false) rfl (vb_eq_f hc15)
 refine zW 7 ((93, .bool false) :: (107, .bool false) :: (106, undef) :: (105, undef) :: (104, undef) :: (103, undef) :: (102, undef) :: _) hA hS rfl fun a hA => ze (zx (cd_cond_f hA rfl (zs ?_)))
 refine zD0 hS [] [(0, true), (1, true), (2, true), (3, true), (4, true), (5, true), (6, true), (7, true), (8, true), (9, true), (10, true), (11, true), (12, true), (13, true), (14, true)] mixed (by kernel_rfl) (by rintro c a w ⟨_, _, h, _⟩; cases h) (by rfl) (by kernel_rfl) ?_
 replace hS := hS.drew
 refine zW 1 ((115, vP b10 0) :: _) hA hS rfl fun a hA => zY hA hS 0 rfl rfl rfl rfl rfl rfl rfl rfl rfl rfl fun a hA => zW 3 ((119, vP b 14) :: (118, vP b 0) :: (117, vP b 0) :: _) hA hS rfl fun a hA => zY hA hS 6 rfl rfl rfl rfl rfl rfl rfl rfl rfl rfl fun a hA => zW 2 ((122, .bool (((m.to : Nat) : Int) == ((st.c.port : Nat) : Int))) :: (121, .bool (((m.to : Nat) : Int) == ((st.c.port : Nat) : Int))) :: _) hA hS rfl fun a hA => ?_
 have hc16 : ((m.to : Nat) : Int) = ((st.c.port : Nat) : Int) := by omega
 replace hA := hA.rw 121 (v' := .bool true) rfl (vb_eq_t hc16)
 replace hA := hA.rw 122 (v' := .bool true) rfl (vb_eq_t hc16)
 refine zW 3 ((125, vP b 14) :: (124, vP b 0) :: (123, vP b 0) :: _) hA hS rfl fun a hA => zY hA hS 6 rfl rfl rfl rfl rfl rfl rfl rfl rfl rfl fun a hA => zW 3 ((114, .bool (((st.c.port : Nat) : Int) != 0)) :: (128, .bool (((st.c.port : Nat) : Int) != 0)) :: (127, .bool (((st.c.port : Nat) : Int) != 0)) :: _) hA hS rfl fun a hA => ze (zx ?_)
 have hc17 : ¬ (((st.c.port : Nat) : Int) = 0) := by omega
 replace hA := hA.rw 114 (v' := .bool true) rfl (vb_ne_t hc17)
 refine cd_cond_t hA rfl (zs ?_)
 replace hS := hS.m3.m10
 refine zD2 hS [] [(0, true), (1, true), (2, true), (3, true), (4, true), (5, false), (6, true)] mixed (by kernel_rfl) (by rintro c a w ⟨_, _, h, _⟩; cases h) (by rfl) (by kernel_rfl) ?_
 replace hS := hS.drew
 refine zW 3 ((131, vP b 24) :: (130, vP b 0) :: (129, vP b 0) :: _) hA (hS.tail 2 rfl) rfl fun a hA => zY hA (hS.tail 2 rfl) 5 rfl rfl rfl rfl rfl rfl rfl rfl rfl rfl fun a hA => zYA hA (hS.tail 2 rfl) 0 [vU m.to, vU m.rp, vW m.id, vH m.op, vH m.st, vU m.po, vW m.ob, vB m.ri, vU m.ck, vU m.ar, .slice A6 m.da.length c7] rfl rfl rfl rfl rfl rfl rfl rfl rfl rfl rfl fun a hA => dr_b (o := _) rfl ?_
 replace hS := hS.m1.m1
 refine st_call0 hA rfl rfl rfl isfn64 rfl rfl (by decide) (put_p_room64 hS hn.fbx ((m.to : Nat) : Int) ((m.rp : Nat) : Int) ((m.id : Nat) : Int) ((m.op : Nat) : Int) ((m.st : Nat) : Int) ((m.po : Nat) : Int) ((m.ob : Nat) : Int) ((m.ri : Nat) : Int) ((m.ck : Nat) : Int) ((m.ar : Nat) : Int) (bs := m.da) (RdS.x (RdS.own hO8 2 rfl)) (by omega) (by rw [map_len9 hn.fpl]; exact hbr)) ?_
 clear hA hS; rintro _ w18 a ⟨LB2, E3, A3, c3, hb2, hE3, rfl, hS⟩ hA
 have hX19 : DX w0 D2 (E3 ++ D2) := DX.refl.step
 refine zi (hS.tail 2 rfl) (zW 1 ((135, .bool true) :: _) hA (hS.tail 2 rfl) rfl fun a hA => ze (zx (cd_cond_t hA rfl ?_)))
 replace hS := hS.m11
 refine zD1 hS [8] [(0, true), (1, true), (2, true), (3, true), (4, true), (5, true), (6, true), (7, true), (8, false)] mixed (by kernel_rfl) (by rintro c a w ⟨_, _, h, _⟩; cases h) (by rfl) (by kernel_rfl) ?_
 replace hS := hS.drew
 refine zW 3 ((138, vP b 25) :: (137, vP b 0) :: (136, vP b 0) :: _) hA (hS.tail 1 rfl) rfl fun a hA => zY hA (hS.tail 1 rfl) 7 rfl rfl rfl rfl rfl rfl rfl rfl rfl rfl fun a hA => zW 1 ((140, vP b10 1) :: _) hA (hS.tail 1 rfl) rfl fun a hA => zY hA (hS.tail 1 rfl) 2 rfl rfl rfl rfl rfl rfl rfl rfl rfl rfl fun a hA => zW 1 ((142, vP b1 0) :: _) hA (hS.tail 1 rfl) rfl fun a hA => zY hA (hS.tail 1 rfl) 6 rfl rfl rfl rfl rfl rfl rfl rfl rfl rfl fun a hA => dr_b (o := _) rfl ?_
 refine st_mapNew tbOk hA hS (by first | exact .inl rfl | exact .inr rfl) rfl rfl rfl rfl rfl rfl rfl hn.fmp (sdv_no hsd) rfl rfl ?_; clear hS; intro w20 ob21 hS hm22
 refine dr_nil (.inl (by decide)) (ze (zm (zx (zs (zr (zR 1 ((4, .slice none 0 0) :: _) hA rfl fun a hA => zn (zx ?_)))))))
 refine wp_ret ?_
 refine ret1 (fn := Tryz.f38) hA rfl rfl ?_
 replace hS := hS.m3.d0.m3.d0.m4.d0.m4.d0.m2.m8.m2.m3.m8.m8.m6.m8.m8
 replace hS : St w0 w20 (((b, rowO [vI st.c.id, vI st.c.ki, vI st.c.no, vI st.c.pc, vI st.c.wa, vI st.c.tr, vI st.c.ag, vI st.c.pg, vI st.c.ro, vP bo 0, .bool true, vI st.c.now, vU st.c.sent, vU st.c.rep, vU st.c.port, vU st.c.r0, vW st.c.r1, vB st.c.r2, vU st.c.r3, sv, vP bd 0, vP bg 0, vP bc 0, vP bp 0, vP bx 0, .map (some mp)] 121) :: (LS ++ (LG2 ++ (LC ++ (LP ++ (LB2 ++ ((mp, ob21) :: LV))))))) :: (E3 ++ D2) :: F) := hS.cast (by simp)
 exact ⟨_, (E3 ++ D2), ⟨_, _, _, _, _, _, _, _, _, _, _, _, _, _, _, _, _, _, ⟨hn.fsr, (hg2.dx hX19), hn.fcr, hn.fpm, hb2, (sdv_app hm22), (hn.fsv.dx (hX5.trans hX19)), hn.fel, (ent_dx hn.fed (hX5.trans hX19)), hn.fcl, ((hX5.trans hX19).calls hn.fcd), hn.ful, (msg_dx hn.fud (hX5.trans hX19)), (map_snoc9 (y := m) hn.fpl rfl), (all_snoc9 (msg_dx hn.fpd hX5) (fun y hy => encMessage_left hy) hE3.right)⟩, rfl⟩, (hX5.trans hX19), rfl, hS⟩
set_option maxHeartbeats 8000000 in
theorem narr_reqhit38 {w0 w : World} {F : List Chunk} {b bo : Nat} {st : NS} {sr : Srv} {L D : Chunk} {vs' : List GV} {bs : List UInt8} (hS : St w0 w (L :: D :: F)) (hN : NUP w0 b bo st sr L D) (p : PN) (hpt : p.to = st.c.id) {d : Value} (hd : RdSX w0 (D :: F) 1 d p.da.length (rows encB p.da)) (hga : gaddM st.gs p = some (vs', some bs)) (m : MN) (hm : m.ok) (hbs : bs = encM m) (h1 : ¬ m.to = 0) (h2 : ¬ m.to = st.c.rep) (h3 : m.to = st.c.port) (hbr : st.ps.length < st.c.ro) {js z0 : Nat} (hj : st.sd[js]? = some (m.rp, z0)) (hjn : ∀ (q : Nat) (y : Nat × Nat), q < js → st.sd[q]? = some y → ¬ y.1 = m.rp) :
 Ret Tryz.prog 38 #[vP b 0, .agg #[vI p.fr, vI p.to, vU p.id, vI p.ix, vI p.cn, d]] w (fun v w' => ∃ L' D', NUP w0 b bo { st with gs := vs', ps := st.ps ++ [m], sd := st.sd.set js (m.rp, p.fr) } sr L' D' ∧ DX w0 D D' ∧ v = .slice none 0 0 ∧ St w0 w' (L' :: D' :: F)) := by
 obtain ⟨B, d', rfl, hmd, hdx⟩ := (hd _ (hS.tail 1 rfl)).open'
 have hm0 := hm
 obtain ⟨hk1, hk2, hk3, hk4, hk5, hk6, hk7, hk8, hk9, hk10, hk11⟩ := hm
 obtain ⟨sv, bd, bg, bc, bp, bx, mp, ob, el, cl, ul, pl2, LS, LG, LC, LP, LB, LV, hn, rfl⟩ := hN
 replace hS : St w0 w ([(b, rowO [vI st.c.id, vI st.c.ki, vI st.c.no, vI st.c.pc, vI st.c.wa, vI st.c.tr, vI st.c.ag, vI st.c.pg, vI st.c.ro, vP bo 0, .bool true, vI st.c.now, vU st.c.sent, vU st.c.rep, vU st.c.port, vU st.c.r0, vW st.c.r1, vB st.c.r2, vU st.c.r3, sv, vP bd 0, vP bg 0, vP bc 0, vP bp 0, vP bx 0, .map (some mp)] 121)] :: LS :: LG :: LC :: LP :: LB :: [(mp, ob)] :: LV :: D :: F) := hS.cast (by simp)
 refine enter (vs := [vP b 0, .agg #[vI p.fr, vI p.to, vU p.id, vI p.ix, vI p.cn, .slice B p.da.length d']]) 144 Tryz.func38 rfl rfl (by simp) ?_; intro a hA
 refine zs (zr ?_)
 refine st_box hA hS [vI p.fr, vI p.to, vU p.id, vI p.ix, vI p.cn, .slice B p.da.length d'] rfl rfl rfl rfl rfl (by decide) fun b1 w2 a hS hA => ?_
 refine zR 1 ((4, .slice none 0 0) :: _) hA rfl fun a hA => zn (zx (zs (zs ?_)))
 refine zD0 hS [] [(0, true), (1, true), (2, true), (3, true), (4, true), (5, true), (6, true), (7, true), (8, true), (9, true), (10, true), (11, true), (12, true), (13, true)] mixed (by kernel_rfl) (by rintro c a w ⟨_, _, h, _⟩; cases h) (by rfl) (by kernel_rfl) ?_
 replace hS := hS.drew
 refine zW 3 ((11, vP b 10) :: (10, vP b 0) :: (9, vP b 0) :: _) hA hS rfl fun a hA => zY hA hS 1 rfl rfl rfl rfl rfl rfl rfl rfl rfl rfl fun a hA => zW 3 ((15, vP b1 1) :: (14, .bool false) :: (13, .bool false) :: _) hA hS rfl fun a hA => zY hA hS 0 rfl rfl rfl rfl rfl rfl rfl rfl rfl rfl fun a hA => zW 3 ((19, vP b 0) :: (18, vP b 0) :: (17, vP b 0) :: _) hA hS rfl fun a hA => zY hA hS 1 rfl rfl rfl rfl rfl rfl rfl rfl rfl rfl fun a hA => zW 2 ((22, .bool (((p.to : Nat) : Int) != ((st.c.id : Nat) : Int))) :: (21, .bool (((p.to : Nat) : Int) != ((st.c.id : Nat) : Int))) :: _) hA hS rfl fun a hA => ze (zx ?_)
 have hc3 : ((p.to : Nat) : Int) = ((st.c.id : Nat) : Int) := by omega
 replace hA := hA.rw 22 (v' := .bool false) rfl (vb_ne_f hc3)
 refine cd_cond_f hA rfl (zk (zx (zs ?_)))
 replace hS := hS.m9.m4
 refine zD2 hS [] [(0, true), (1, true), (2, true), (3, true), (4, true), (5, false), (6, true), (7, true), (8, true), (9, true), (10, true)] mixed (by kernel_rfl) (by rintro c a w ⟨_, _, h, _⟩; cases h) (by rfl) (by kernel_rfl) ?_
 replace hS := hS.drew
 refine zW 3 ((26, vP b 21) :: (25, vP b 0) :: (24, vP b 0) :: _) hA (hS.tail 2 rfl) rfl fun a hA => zY hA (hS.tail 2 rfl) 1 rfl rfl rfl rfl rfl rfl rfl rfl rfl rfl fun a hA => zYA hA (hS.tail 2 rfl) 0 [vI p.fr, vI p.to, vU p.id, vI p.ix, vI p.cn, .slice B p.da.length d'] rfl rfl rfl rfl rfl rfl rfl rfl rfl rfl rfl fun a hA => dr_b (o := _) rfl ?_
 replace hS := hS.m1.m1
 refine st_call0 hA rfl rfl rfl isfn60 rfl rfl (by decide) (gaddA hS hn.fgs p (fun w' h => hd _ (St.dmid (R := [[(b1, rowO [vI p.fr, vI p.to, vU p.id, vI p.ix, vI p.cn, .slice B p.da.length d'] 94)], [(b, rowO [vI st.c.id, vI st.c.ki, vI st.c.no, vI st.c.pc, vI st.c.wa, vI st.c.tr, vI st.c.ag, vI st.c.pg, vI st.c.ro, vP bo 0, .bool true, vI st.c.now, vU st.c.sent, vU st.c.rep, vU st.c.port, vU st.c.r0, vW st.c.r1, vB st.c.r2, vU st.c.r3, sv, vP bd 0, vP bg 0, vP bc 0, vP bp 0, vP bx 0, .map (some mp)] 121)], LS, LC, LP, LB, [(mp, ob)], LV]) h)) hga) ?_
 clear hA hS; rintro _ w4 a ⟨LG2, D2, Cb, Ab, cb, hg2, hXg, hOb, rfl, hS⟩ hA; have hcb := hOb.rcap
 have hX5 : DX w0 D D2 := hXg
 refine zi (hS.tail 3 rfl) (zW 5 ((6, .bool true) :: (5, .slice Ab bs.length cb) :: (31, .bool true) :: (30, .slice Ab bs.length cb) :: (23, .tuple #[.slice Ab bs.length cb, .bool true]) :: _) hA (hS.tail 3 rfl) rfl fun a hA => ze (zx (zs (zs (zr (zR 2 ((33, .bool false) :: (32, .bool true) :: _) hA rfl fun a hA => zn (zx (cd_cond_f hA rfl (zk (zx (zs (zr (zR 1 ((35, .slice Ab bs.length cb) :: _) hA rfl fun a hA => ?_)))))))))))))
 refine st_call0 hA rfl rfl rfl isfn61 rfl rfl (by decide) (hdec61 hS (b := bs) (RdS.own hOb 2 rfl) m hm0 hbs) ?_
 clear hA hS; rintro _ w9 a ⟨A6, c7, C8, hO8, rfl, hS⟩ hA
 obtain ⟨_, _, _, hmc7, hxc7⟩ := hO8.open'
 refine zR 3 ((38, .nilIface) :: (37, .agg #[vU m.to, vU m.rp, vW m.id, vH m.op, vH m.st, vU m.po, vW m.ob, vB m.ri, vU m.ck, vU m.ar, .slice A6 m.da.length c7]) :: (34, .tuple #[.agg #[vU m.to, vU m.rp, vW m.id, vH m.op, vH m.st, vU m.po, vW m.ob, vB m.ri, vU m.ck, vU m.ar, .slice A6 m.da.length c7], .nilIface]) :: _) hA rfl fun a hA => ?_
 refine st_alloc tbOk hA hS [.int .u64 0, .int .u64 0, .int .u32 0, .int .u16 0, .int .u16 0, .int .u64 0, .int .u32 0, .int .u8 0, .int .u64 0, .int .u64 0, .slice none 0 0] rfl rfl rfl rfl rfl (by decide) fun b10 w11 a hS hA => ?_
 refine st_store tbOk hA hS [vU m.to, vU m.rp, vW m.id, vH m.op, vH m.st, vU m.po, vW m.ob, vB m.ri, vU m.ck, vU m.ar, .slice A6 m.da.length c7] [vU m.to, vU m.rp, vW m.id, vH m.op, vH m.st, vU m.po, vW m.ob, vB m.ri, vU m.ck, vU m.ar, .slice A6 m.da.length c7] rfl rfl rfl rfl rfl rfl (zn1 rfl) (zle rfl) rfl rfl rfl fun w12 hS => ?_
 refine zR 1 ((8, .nilIface) :: _) hA rfl fun a hA => zn (zx (zs (zs (zr (zR 2 ((40, .bool false) :: (39, .nilIface) :: _) hA rfl fun a hA => zn (zx (cd_cond_f hA rfl (zk (zx (zs (zb (zs (zr (zR 1 ((42, vP b10 0) :: _) hA rfl fun a hA => zL hA hS 0 rfl rfl rfl rfl rfl rfl rfl rfl rfl fun a hA => zR 2 ((45, .bool (((m.to : Nat) : Int) == 0)) :: (44, .bool (((m.to : Nat) : Int) == 0)) :: _) hA rfl fun a hA => ?_))))))))))))))
 have hc13 : ¬ (((m.to : Nat) : Int) = 0) := by omega
 replace hA := hA.rw 44 (v' := .bool false) rfl (vb_eq_f hc13)
 replace hA := hA.rw 45 (v' := .bool false) rfl (vb_eq_f hc13)
 refine zR 5 ((41, .bool false) :: (49, .bool false) :: (48, undef) :: (47, undef) :: (46, undef) :: _) hA rfl fun a hA => zn (zx (cd_cond_f hA rfl (zs (zr (zR 1 ((72, vP b10 0) :: _) hA rfl fun a hA => zL hA hS 0 rfl rfl rfl rfl rfl rfl rfl rfl rfl fun a hA => zR 2 ((75, .bool (((m.to : Nat) : Int) == 0)) :: (74, .bool (((m.to : Nat) : Int) == 0)) :: _) hA rfl fun a hA => ?_)))))
 have hc14 : ¬ (((m.to : Nat) : Int) = 0) := by omega
 replace hA := hA.rw 74 (v' := .bool false) rfl (vb_eq_f hc14)
 replace hA := hA.rw 75 (v' := .bool false) rfl (vb_eq_f hc14)
 refine zR 5 ((71, .bool false) :: (79, .bool false) :: (78, undef) :: (77, undef) :: (76, undef) :: _) hA rfl fun a hA => zn (zx (cd_cond_f hA rfl (zs ?_)))
 refine zD0 hS [] [(0, true), (1, true), (2, true), (3, true), (4, true), (5, true), (6, true), (7, true), (8, true), (9, true), (10, true), (11, true), (12, true), (13, true), (14, true)] mixed (by kernel_rfl) (by rintro c a w ⟨_, _, h, _⟩; cases h) (by rfl) (by kernel_rfl) ?_
 replace hS := hS.drew
 refine zW 1 ((94, vP b10 0) :: _) hA hS rfl fun a hA => zY hA hS 0 rfl rfl rfl rfl rfl rfl rfl rfl rfl rfl fun a hA => zW 3 ((98, vP b 13) :: (97, vP b 0) :: (96, vP b 0) :: _) hA hS rfl fun a hA => zY hA hS 6 rfl rfl rfl rfl rfl rfl rfl rfl rfl rfl fun a hA => zW 2 ((101, .bool (((m.to : Nat) : Int) == ((st.c.rep : Nat) : Int))) :: (100, .bool (((m.to : Nat) : Int) == ((st.c.rep : Nat) : Int))) :: _) hA hS rfl fun a hA => ?_
 have hc15 : ¬ (((m.to : Nat) : Int) = ((st.c.rep : Nat) : Int)) := by omega
 replace hA := hA.rw 100 (v' := .bool false) rfl (vb_eq_f hc15)
 replace hA := hA.rw 101 (v' := .bool false) rfl (vb_eq_f hc15)
 refine zW 7 ((93, .bool false) :: (107, .bool false) :: (106, undef) :: (105, undef) :: (104, undef) :: (103, undef) :: (102, undef) :: _) hA hS rfl fun a hA => ze (zx (cd_cond_f hA rfl (zs ?_)))
 refine zD0 hS [] [(0, true), (1, true), (2, true), (3, true), (4, true), (5, true), (6, true), (7, true), (8, true), (9, true), (10, true), (11, true), (12, true), (13, true), (14, true)] mixed (by kernel_rfl) (by rintro c a w ⟨_, _, h, _⟩; cases h) (by rfl) (by kernel_rfl) ?_
 replace hS := hS.drew
 refine zW 1 ((115, vP b10 0) :: _) hA hS rfl fun a hA => zY hA hS 0 rfl rfl rfl rfl rfl rfl rfl rfl rfl rfl fun a hA => zW 3 ((119, vP b 14) :: (118, vP b 0) :: (117, vP b 0) :: _) hA hS rfl fun a hA => zY hA hS 6 rfl rfl rfl rfl rfl rfl rfl rfl rfl rfl fun a hA => zW 2 ((122, .bool (((m.to : Nat) : Int) == ((st.c.port : Nat) : Int))) :: (121, .bool (((m.to : Nat) : Int) == ((st.c.port : Nat) : Int))) :: _) hA hS rfl fun a hA => ?_
 have hc16 : ((m.to : Nat) : Int) = ((st.c.port : Nat) : Int) := by omega
 replace hA := hA.rw 121 (v' := .bool true) rfl (vb_eq_t hc16)
 replace hA := hA.rw 122 (v' := .bool true) rfl (vb_eq_t hc16)
 refine zW 3 ((125, vP b 14) :: (124, vP b 0) :: (123, vP b 0) :: _) hA hS rfl fun a hA => zY hA hS 6 rfl rfl rfl rfl rfl rfl rfl rfl rfl rfl fun a hA => zW 3 ((114, .bool (((st.c.port : Nat) : Int) != 0)) :: (128, .bool (((st.c.port : Nat) : Int) != 0)) :: (127, .bool (((st.c.port : Nat) : Int) != 0)) :: _) hA hS rfl fun a hA => ze (zx ?_)
 have hc17 : ¬ (((st.c.port : Nat) : Int) = 0) := by omega
 replace hA := hA.rw 114 (v' := .bool true) rfl (vb_ne_t hc17)
 refine cd_cond_t hA rfl (zs ?_)
 replace hS := hS.m3.m10
 refine zD2 hS [] [(0, true), (1, true), (2, true), (3, true), (4, true), (5, false), (6, true)] mixed (by kernel_rfl) (by rintro c a w ⟨_, _, h, _⟩; cases h) (by rfl) (by kernel_rfl) ?_
 replace hS := hS.drew
 refine zW 3 ((131, vP b 24) :: (130, vP b 0) :: (129, vP b 0) :: _) hA (hS.tail 2 rfl) rfl fun a hA => zY hA (hS.tail 2 rfl) 5 rfl rfl rfl rfl rfl rfl rfl rfl rfl rfl fun a hA => zYA hA (hS.tail 2 rfl) 0 [vU m.to, vU m.rp, vW m.id, vH m.op, vH m.st, vU m.po, vW m.ob, vB m.ri, vU m.ck, vU m.ar, .slice A6 m.da.length c7] rfl rfl rfl rfl rfl rfl rfl rfl rfl rfl rfl fun a hA => dr_b (o := _) rfl ?_
 replace hS := hS.m1.m1
 refine st_call0 hA rfl rfl rfl isfn64 rfl rfl (by decide) (put_p_room64 hS hn.fbx ((m.to : Nat) : Int) ((m.rp : Nat) : Int) ((m.id : Nat) : Int) ((m.op : Nat) : Int) ((m.st : Nat) : Int) ((m.po : Nat) : Int) ((m.ob : Nat) : Int) ((m.ri : Nat) : Int) ((m.ck : Nat) : Int) ((m.ar : Nat) : Int) (bs := m.da) (RdS.x (RdS.own hO8 2 rfl)) (by omega) (by rw [map_len9 hn.fpl]; exact hbr)) ?_
 clear hA hS; rintro _ w18 a ⟨LB2, E3, A3, c3, hb2, hE3, rfl, hS⟩ hA
 have hX19 : DX w0 D2 (E3 ++ D2) := DX.refl.step
 refine zi (hS.tail 2 rfl) (zW 1 ((135, .bool true) :: _) hA (hS.tail 2 rfl) rfl fun a hA => ze (zx (cd_cond_t hA rfl ?_)))
 replace hS := hS.m11
 refine zD1 hS [8] [(0, true), (1, true), (2, true), (3, true), (4, true), (5, true), (6, true), (7, true), (8, false)] mixed (by kernel_rfl) (by rintro c a w ⟨_, _, h, _⟩; cases h) (by rfl) (by kernel_rfl) ?_
 replace hS := hS.drew
 refine zW 3 ((138, vP b 25) :: (137, vP b 0) :: (136, vP b 0) :: _) hA (hS.tail 1 rfl) rfl fun a hA => zY hA (hS.tail 1 rfl) 7 rfl rfl rfl rfl rfl rfl rfl rfl rfl rfl fun a hA => zW 1 ((140, vP b10 1) :: _) hA (hS.tail 1 rfl) rfl fun a hA => zY hA (hS.tail 1 rfl) 2 rfl rfl rfl rfl rfl rfl rfl rfl rfl rfl fun a hA => zW 1 ((142, vP b1 0) :: _) hA (hS.tail 1 rfl) rfl fun a hA => zY hA (hS.tail 1 rfl) 6 rfl rfl rfl rfl rfl rfl rfl rfl rfl rfl fun a hA => dr_b (o := _) rfl ?_
 refine st_mapHit (j := js) tbOk hA hS (by first | exact .inl rfl | exact .inr rfl) rfl rfl rfl rfl rfl rfl rfl hn.fmp (sdv_at hj) (sdv_bef hjn) rfl rfl ?_; clear hS; intro w20 ob21 hS hm22
 refine dr_nil (.inl (by decide)) (ze (zm (zx (zs (zr (zR 1 ((4, .slice none 0 0) :: _) hA rfl fun a hA => zn (zx ?_)))))))
 refine wp_ret ?_
 refine ret1 (fn := Tryz.f38) hA rfl rfl ?_
 replace hS := hS.m3.d0.m3.d0.m4.d0.m4.d0.m2.m8.m2.m3.m8.m8.m6.m8.m8
 replace hS : St w0 w20 (((b, rowO [vI st.c.id, vI st.c.ki, vI st.c.no, vI st.c.pc, vI st.c.wa, vI st.c.tr, vI st.c.ag, vI st.c.pg, vI st.c.ro, vP bo 0, .bool true, vI st.c.now, vU st.c.sent, vU st.c.rep, vU st.c.port, vU st.c.r0, vW st.c.r1, vB st.c.r2, vU st.c.r3, sv, vP bd 0, vP bg 0, vP bc 0, vP bp 0, vP bx 0, .map (some mp)] 121) :: (LS ++ (LG2 ++ (LC ++ (LP ++ (LB2 ++ ((mp, ob21) :: LV))))))) :: (E3 ++ D2) :: F) := hS.cast (by simp)
 exact ⟨_, (E3 ++ D2), ⟨_, _, _, _, _, _, _, _, _, _, _, _, _, _, _, _, _, _, ⟨hn.fsr, (hg2.dx hX19), hn.fcr, hn.fpm, hb2, (sdv_set hm22), (hn.fsv.dx (hX5.trans hX19)), hn.fel, (ent_dx hn.fed (hX5.trans hX19)), hn.fcl, ((hX5.trans hX19).calls hn.fcd), hn.ful, (msg_dx hn.fud (hX5.trans hX19)), (map_snoc9 (y := m) hn.fpl rfl), (all_snoc9 (msg_dx hn.fpd hX5) (fun y hy => encMessage_left hy) hE3.right)⟩, rfl⟩, (hX5.trans hX19), rfl, hS⟩
end Go.Proofs.YthiakdmhpfkjbaaGreatDoor

set_option linter.unusedVariables false
set_option linter.unusedSimpArgs false
set_option maxRecDepth 4000
namespace Go.Proofs.YthiakdmhpfkjbaaGreatDoor
open Go Go.SK
theorem map_cons9 {α β γ : Type} {f : α → γ} {g : β → γ} {l : List α} {y : β} {k : List β} (h : l.map f = (y :: k).map g) : ∃ x l', l = x :: l' ∧ f x = g y ∧ l'.map f = k.map g := by
  cases l with
  | nil => cases h
  | cons x l => rw [List.map_cons, List.map_cons] at h; injection h with h1 h2; exact ⟨x, l, rfl, h1, h2⟩
theorem map_nil9 {α β γ : Type} {f : α → γ} {g : β → γ} {l : List α} (h : l.map f = ([] : List β).map g) : l = [] := by
  cases l with
  | nil => rfl
  | cons x l => cases h
theorem fnd_of {el : List Ent} {es : List EA} {who id : Nat} (h : el.map est = es.map EA.t) (hno : ∀ y ∈ es, ¬ (y.who = who ∧ y.id = id)) : ∀ (i : Nat) (x : Ent), el[i]? = some x → fnd ((who : Nat) : Int) ((id : Nat) : Int) x = false := fun i x hx => by
  obtain ⟨y, hy, e⟩ := map_at9 h.symm hx
  have h1 := hno y (List.mem_of_getElem? hy)
  have e1 : ((y.who : Nat) : Int) = x.1 := congrArg (fun z => z.1) e
  have e2 : ((y.id : Nat) : Int) = x.2.1 := congrArg (fun z => z.2.1) e
  rw [fnd, Bool.and_eq_false_iff, beq_eq_false_iff_ne, beq_eq_false_iff_ne]
  omega
theorem SVO.mk {w0 : World} {b po bo nx bb : Nat} {os : List (Bool × Nat × Int × Int × Int)} {fl : List (Nat × List UInt8)} {L D : Chunk} (h : SVR w0 b po bo os fl nx bb L D) : SVO w0 bo po (.file os fl nx bb) (vP b 0) L D := ⟨b, rfl, h⟩
theorem last_at {α : Type} {l : List α} {x : α} : (l ++ [x])[l.length]? = some x := by simp
theorem bef_last {α : Type} {p : α → Bool} {l : List α} {x : α} (h : ∀ (i : Nat) (y : α), l[i]? = some y → p y = false) : ∀ (i : Nat) (y : α), i < l.length → (l ++ [x])[i]? = some y → p y = false := fun i y hi hy => h i y (by rwa [List.getElem?_append_left hi] at hy)
theorem call_set9 {w0 : World} {D E : Chunk} {cl : List Call} {k : Nat} {x : Call} {s t l : Int} {m0 m1 m2 m3 m4 m5 m6 m7 m8 m9 : Int} {A : Option Addr} {c : Nat} {bs : List UInt8} (h : ∀ x ∈ cl, encCall_dd w0 D x) (hx : cl[k]? = some x) (hE : DD w0 E A c bs) : ∀ z ∈ cl.set k (mkc (rq x) s t l (m0, m1, m2, m3, m4, m5, m6, m7, m8, m9, A, c, bs)), encCall_dd w0 (E ++ D) z := fun z hz => by
  rcases List.mem_or_eq_of_mem_set hz with hz | rfl
  · exact encCall_left (h z hz)
  · exact ⟨DD.left (h x (List.mem_of_getElem? hx)).1, hE.right⟩
set_option maxHeartbeats 8000000 in
theorem nwork_none42 {w0 w : World} {F : List Chunk} {b bo : Nat} {st : NS} {sr : Srv} {L D : Chunk} (hS : St w0 w (L :: D :: F)) (hN : NUP w0 b bo st sr L D) (hus : st.us = []) (hps : st.ps = []) :
 Ret Tryz.prog 42 #[vP b 0] w (fun v w' => ∃ L', NUP w0 b bo st sr L' D ∧ v = .tuple #[.slice none 0 0, .bool false] ∧ St w0 w' (L' :: D :: F)) := by
 obtain ⟨sv, bd, bg, bc, bp, bx, mp, ob, el, cl, ul, pl2, LS, LG, LC, LP, LB, LV, hn, rfl⟩ := hN
 replace hS : St w0 w ([(b, rowO [vI st.c.id, vI st.c.ki, vI st.c.no, vI st.c.pc, vI st.c.wa, vI st.c.tr, vI st.c.ag, vI st.c.pg, vI st.c.ro, vP bo 0, .bool true, vI st.c.now, vU st.c.sent, vU st.c.rep, vU st.c.port, vU st.c.r0, vW st.c.r1, vB st.c.r2, vU st.c.r3, sv, vP bd 0, vP bg 0, vP bc 0, vP bp 0, vP bx 0, .map (some mp)] 121)] :: LS :: LG :: LC :: LP :: LB :: [(mp, ob)] :: LV :: D :: F) := hS.cast (by simp)
 have hu0 : ul = [] := map_nil9 (by rw [hn.ful, hus]); have hp0 : pl2 = [] := map_nil9 (by rw [hn.fpl, hps]); have hbx0 := hn.fbx; rw [hu0, hp0] at hbx0
 refine enter (vs := [vP b 0]) 78 Tryz.func42 rfl rfl (by simp) ?_; intro a hA
 refine zs (zr (zR 2 ((3, .bool false) :: (2, .slice none 0 0) :: _) hA rfl fun a hA => zn (zx (zs (zs (zr (zR 3 ((11, vP b 10) :: (10, vP b 0) :: (9, vP b 0) :: _) hA rfl fun a hA => zL hA hS 0 rfl rfl rfl rfl rfl rfl rfl rfl rfl fun a hA => zR 1 ((13, .bool false) :: _) hA rfl fun a hA => zn (zx (cd_cond_f hA rfl (zk (zx (zs (zr (zR 3 ((17, vP b 24) :: (16, vP b 0) :: (15, vP b 0) :: _) hA rfl fun a hA => zL hA hS 0 rfl rfl rfl rfl rfl rfl rfl rfl rfl fun a hA => ?_))))))))))))))
 replace hS := hS.m5
 refine st_call0 hA rfl rfl rfl isfn66 rfl rfl (by decide) (get_none66 hS hbx0) ?_
 clear hA hS; rintro _ w1 a ⟨LB2, hb2, rfl, hS⟩ hA
 refine zR 3 ((21, .bool false) :: (20, .agg #[.int .u64 0, .int .u64 0, .int .u32 0, .int .u16 0, .int .u16 0, .int .u64 0, .int .u32 0, .int .u8 0, .int .u64 0, .int .u64 0, .slice none 0 0]) :: (14, .tuple #[.agg #[.int .u64 0, .int .u64 0, .int .u32 0, .int .u16 0, .int .u16 0, .int .u64 0, .int .u32 0, .int .u8 0, .int .u64 0, .int .u64 0, .slice none 0 0], .bool false]) :: _) hA rfl fun a hA => ?_
 refine st_alloc tbOk hA hS [.int .u64 0, .int .u64 0, .int .u32 0, .int .u16 0, .int .u16 0, .int .u64 0, .int .u32 0, .int .u8 0, .int .u64 0, .int .u64 0, .slice none 0 0] rfl rfl rfl rfl rfl (by decide) fun b2 w3 a hS hA => ?_
 refine st_store tbOk hA hS [.int .u64 0, .int .u64 0, .int .u32 0, .int .u16 0, .int .u16 0, .int .u64 0, .int .u32 0, .int .u8 0, .int .u64 0, .int .u64 0, .slice none 0 0] [.int .u64 0, .int .u64 0, .int .u32 0, .int .u16 0, .int .u16 0, .int .u64 0, .int .u32 0, .int .u8 0, .int .u64 0, .int .u64 0, .slice none 0 0] rfl rfl rfl rfl rfl rfl (zn1 rfl) (zle rfl) rfl rfl rfl fun w4 hS => ?_
 refine zR 1 ((5, .bool false) :: _) hA rfl fun a hA => zn (zx (zs (zs (zr (zR 2 ((23, .bool true) :: (22, .bool false) :: _) hA rfl fun a hA => zn (zx (cd_cond_t hA rfl (zs (zr (zR 2 ((3, .bool false) :: (2, .slice none 0 0) :: _) hA rfl fun a hA => zn (zx ?_)))))))))))
 refine wp_ret (xt_ret ?_)
 refine ret2 (fn := Tryz.f42) hA rfl rfl rfl ?_
 replace hS := hS.d0.m8.m8.m8.m3.m8.m8.m8.m8.m8
 replace hS : St w0 w4 (((b, rowO [vI st.c.id, vI st.c.ki, vI st.c.no, vI st.c.pc, vI st.c.wa, vI st.c.tr, vI st.c.ag, vI st.c.pg, vI st.c.ro, vP bo 0, .bool true, vI st.c.now, vU st.c.sent, vU st.c.rep, vU st.c.port, vU st.c.r0, vW st.c.r1, vB st.c.r2, vU st.c.r3, sv, vP bd 0, vP bg 0, vP bc 0, vP bp 0, vP bx 0, .map (some mp)] 121) :: (LS ++ (LG ++ (LC ++ (LP ++ (LB2 ++ ((mp, ob) :: LV))))))) :: D :: F) := hS.cast (by simp)
 subst hu0; subst hp0; exact ⟨_, ⟨_, _, _, _, _, _, _, _, _, _, _, _, _, _, _, _, _, _, ⟨hn.fsr, hn.fgs, hn.fcr, hn.fpm, hb2, hn.fmp, hn.fsv, hn.fel, hn.fed, hn.fcl, hn.fcd, hn.ful, hn.fud, hn.fpl, hn.fpd⟩, rfl⟩, rfl, hS⟩
set_option maxHeartbeats 8000000 in
theorem nwork_reply42 {w0 w : World} {F : List Chunk} {b bo : Nat} {st : NS} {sr : Srv} {L D : Chunk} (hS : St w0 w (L :: D :: F)) (hN : NUP w0 b bo st sr L D) (m : MN) (us2 : List MN) (hus : st.us = m :: us2) (h1 : m.to = st.c.rep) {k : Nat} {y : CA} (hy : st.ca[k]? = some y) (hid : m.id = k + 1) (hst : y.st = 1) (hfr : m.rp = y.rq.to) (hcal : st.ca.length ≤ 64) (hml : m.da.length ≤ 4096) :
 Ret Tryz.prog 42 #[vP b 0] w (fun v w' => ∃ L' D', NUP w0 b bo { st with us := us2, ca := st.ca.set k { y with st := 2, rp := m } } sr L' D' ∧ DX w0 D D' ∧ v = .tuple #[.slice none 0 0, .bool true] ∧ St w0 w' (L' :: D' :: F)) := by
 obtain ⟨sv, bd, bg, bc, bp, bx, mp, ob, el, cl, ul, pl2, LS, LG, LC, LP, LB, LV, hn, rfl⟩ := hN
 replace hS : St w0 w ([(b, rowO [vI st.c.id, vI st.c.ki, vI st.c.no, vI st.c.pc, vI st.c.wa, vI st.c.tr, vI st.c.ag, vI st.c.pg, vI st.c.ro, vP bo 0, .bool true, vI st.c.now, vU st.c.sent, vU st.c.rep, vU st.c.port, vU st.c.r0, vW st.c.r1, vB st.c.r2, vU st.c.r3, sv, vP bd 0, vP bg 0, vP bc 0, vP bp 0, vP bx 0, .map (some mp)] 121)] :: LS :: LG :: LC :: LP :: LB :: [(mp, ob)] :: LV :: D :: F) := hS.cast (by simp)
 obtain ⟨x, ul2, hul, e, hum⟩ := map_cons9 (l := ul) (y := m) (k := us2) (by rw [hn.ful, hus]); have hdx := hn.fud x (by rw [hul]; exact List.mem_cons_self); have hbx0 := hn.fbx; rw [hul] at hbx0
 obtain ⟨x0, x1, x2, x3, x4, x5, x6, x7, x8, x9, xA, xc, xb⟩ := x
 simp only [mst, mdat, MN.t, Prod.mk.injEq] at e
 obtain ⟨e0, e1, e2, e3, e4, e5, e6, e7, e8, e9, e10⟩ := e
 subst e0 e1 e2 e3 e4 e5 e6 e7 e8 e9 e10
 obtain ⟨xk, hxk, ek⟩ := map_at9 hn.fcl hy
 obtain ⟨q0, q1, q2, q3, q4, q5, q6, q7, q8, q9, qA, qc, qb, x13, x14, x15, r0, r1, r2, r3, r4, r5, r6, r7, r8, r9, rA, rc, rb⟩ := xk
 simp only [c5, rq, rp, mst, mdat, cst, ctr, clf, CA.t, MN.t, Prod.mk.injEq] at ek
 obtain ⟨⟨e0, e1, e2, e3, e4, e5, e6, e7, e8, e9, e10⟩, e13, e14, e15, ⟨g0, g1, g2, g3, g4, g5, g6, g7, g8, g9, g10⟩⟩ := ek
 subst e0 e1 e2 e3 e4 e5 e6 e7 e8 e9 e10 e13 e14 e15 g0 g1 g2 g3 g4 g5 g6 g7 g8 g9 g10
 refine enter (vs := [vP b 0]) 78 Tryz.func42 rfl rfl (by simp) ?_; intro a hA
 refine zs (zr (zR 2 ((3, .bool false) :: (2, .slice none 0 0) :: _) hA rfl fun a hA => zn (zx (zs (zs (zr (zR 3 ((11, vP b 10) :: (10, vP b 0) :: (9, vP b 0) :: _) hA rfl fun a hA => zL hA hS 0 rfl rfl rfl rfl rfl rfl rfl rfl rfl fun a hA => zR 1 ((13, .bool false) :: _) hA rfl fun a hA => zn (zx (cd_cond_f hA rfl (zk (zx (zs (zr (zR 3 ((17, vP b 24) :: (16, vP b 0) :: (15, vP b 0) :: _) hA rfl fun a hA => zL hA hS 0 rfl rfl rfl rfl rfl rfl rfl rfl rfl fun a hA => ?_))))))))))))))
 replace hS := hS.m5
 refine st_call0 hA rfl rfl rfl isfn66 rfl rfl (by decide) (get_u66 hS hbx0) ?_
 clear hA hS; rintro _ w1 a ⟨LB2, hb2, rfl, hS⟩ hA
 replace hA := hA.rw 19 (v' := .tuple #[.agg #[vU m.to, vU m.rp, vW m.id, vH m.op, vH m.st, vU m.po, vW m.ob, vB m.ri, vU m.ck, vU m.ar, .slice xA m.da.length xc], .bool true]) rfl rfl
 refine zR 3 ((21, .bool true) :: (20, .agg #[vU m.to, vU m.rp, vW m.id, vH m.op, vH m.st, vU m.po, vW m.ob, vB m.ri, vU m.ck, vU m.ar, .slice xA m.da.length xc]) :: (14, .tuple #[.agg #[vU m.to, vU m.rp, vW m.id, vH m.op, vH m.st, vU m.po, vW m.ob, vB m.ri, vU m.ck, vU m.ar, .slice xA m.da.length xc], .bool true]) :: _) hA rfl fun a hA => ?_
 refine st_alloc tbOk hA hS [.int .u64 0, .int .u64 0, .int .u32 0, .int .u16 0, .int .u16 0, .int .u64 0, .int .u32 0, .int .u8 0, .int .u64 0, .int .u64 0, .slice none 0 0] rfl rfl rfl rfl rfl (by decide) fun b2 w3 a hS hA => ?_
 refine st_store tbOk hA hS [vU m.to, vU m.rp, vW m.id, vH m.op, vH m.st, vU m.po, vW m.ob, vB m.ri, vU m.ck, vU m.ar, .slice xA m.da.length xc] [vU m.to, vU m.rp, vW m.id, vH m.op, vH m.st, vU m.po, vW m.ob, vB m.ri, vU m.ck, vU m.ar, .slice xA m.da.length xc] rfl rfl rfl rfl rfl rfl (zn1 rfl) (zle rfl) rfl rfl rfl fun w4 hS => ?_
 refine zR 1 ((5, .bool true) :: _) hA rfl fun a hA => zn (zx (zs (zs (zr (zR 2 ((23, .bool false) :: (22, .bool true) :: _) hA rfl fun a hA => zn (zx (cd_cond_f hA rfl (zk (zx (zs (zs ?_)))))))))))
 refine zD0 hS [] [(0, true), (1, true), (2, true), (3, true), (4, true), (5, true), (6, true)] mixed (by kernel_rfl) (by rintro c a w ⟨_, _, h, _⟩; cases h) (by rfl) (by kernel_rfl) ?_
 replace hS := hS.drew
 refine zW 1 ((24, vP b2 0) :: _) hA hS rfl fun a hA => zY hA hS 0 rfl rfl rfl rfl rfl rfl rfl rfl rfl rfl fun a hA => zW 3 ((28, vP b 13) :: (27, vP b 0) :: (26, vP b 0) :: _) hA hS rfl fun a hA => zY hA hS 2 rfl rfl rfl rfl rfl rfl rfl rfl rfl rfl fun a hA => zW 1 ((30, .bool (((m.to : Nat) : Int) == ((st.c.rep : Nat) : Int))) :: _) hA hS rfl fun a hA => ze (zx ?_)
 have hc5 : ((m.to : Nat) : Int) = ((st.c.rep : Nat) : Int) := by omega
 replace hA := hA.rw 30 (v' := .bool true) rfl (vb_eq_t hc5)
 refine cd_cond_t hA rfl (zs ?_)
 replace hS := hS.m9.m6
 refine zD2 hS [] [(0, true), (1, true), (2, true), (3, true), (4, true), (5, false)] mixed (by kernel_rfl) (by rintro c a w ⟨_, _, h, _⟩; cases h) (by rfl) (by kernel_rfl) ?_
 replace hS := hS.drew
 refine zW 3 ((33, vP b 22) :: (32, vP b 0) :: (31, vP b 0) :: _) hA (hS.tail 2 rfl) rfl fun a hA => zY hA (hS.tail 2 rfl) 2 rfl rfl rfl rfl rfl rfl rfl rfl rfl rfl fun a hA => zYA hA (hS.tail 2 rfl) 0 [vU m.to, vU m.rp, vW m.id, vH m.op, vH m.st, vU m.po, vW m.ob, vB m.ri, vU m.ck, vU m.ar, .slice xA m.da.length xc] rfl rfl rfl rfl rfl rfl rfl rfl rfl rfl rfl fun a hA => dr_b (o := _) rfl ?_
 replace hS := hS.m1.m1
 refine st_call0 hA rfl rfl rfl isfn67 rfl rfl (by decide) (answer_ok67 hS hn.fcr ((m.to : Nat) : Int) ((m.rp : Nat) : Int) ((m.id : Nat) : Int) ((m.op : Nat) : Int) ((m.st : Nat) : Int) ((m.po : Nat) : Int) ((m.ob : Nat) : Int) ((m.ri : Nat) : Int) ((m.ck : Nat) : Int) ((m.ar : Nat) : Int) (bs := m.da) ((DD.rds (F := D :: _) hdx 0 rfl)) (by omega) hxk (by have h := map_len9 hn.fcl; omega) (by omega) (by show ((y.st : Nat) : Int) = 1; omega) (by omega) (by show ((m.rp : Nat) : Int) = ((y.rq.to : Nat) : Int); omega)) ?_
 clear hA hS; rintro _ w6 a ⟨LC2, E1, A1, c1, hcr2, hE1, rfl, hS⟩ hA
 have hX7 : DX w0 D (E1 ++ D) := DX.refl.step
 refine zi (hS.tail 2 rfl) (ze (zx (zs (zr (zR 2 ((3, .bool true) :: (2, .slice none 0 0) :: _) hA rfl fun a hA => zn (zx ?_))))))
 refine wp_ret (xt_ret ?_)
 refine ret2 (fn := Tryz.f42) hA rfl rfl rfl ?_
 replace hS := hS.m2.d0.m1.m8.m8.m4.m8.m5.m8.m8.m8
 replace hS : St w0 w6 (((b, rowO [vI st.c.id, vI st.c.ki, vI st.c.no, vI st.c.pc, vI st.c.wa, vI st.c.tr, vI st.c.ag, vI st.c.pg, vI st.c.ro, vP bo 0, .bool true, vI st.c.now, vU st.c.sent, vU st.c.rep, vU st.c.port, vU st.c.r0, vW st.c.r1, vB st.c.r2, vU st.c.r3, sv, vP bd 0, vP bg 0, vP bc 0, vP bp 0, vP bx 0, .map (some mp)] 121) :: (LS ++ (LG ++ (LC2 ++ (LP ++ (LB2 ++ ((mp, ob) :: LV))))))) :: (E1 ++ D) :: F) := hS.cast (by simp)
 exact ⟨_, (E1 ++ D), ⟨_, _, _, _, _, _, _, _, _, _, _, _, _, _, _, _, _, _, ⟨hn.fsr, (hn.fgs.dx hX7), hcr2, hn.fpm, hb2, hn.fmp, (hn.fsv.dx hX7), hn.fel, (ent_dx hn.fed hX7), (map_set9 (y := { y with st := 2, rp := m }) hn.fcl (by rfl)), (call_set9 hn.fcd hxk hE1), hum, (msg_dx (fun z hz => hn.fud z (by rw [hul]; exact List.mem_cons_of_mem _ hz)) hX7), hn.fpl, (msg_dx hn.fpd hX7)⟩, rfl⟩, hX7, rfl, hS⟩
end Go.Proofs.YthiakdmhpfkjbaaGreatDoor

set_option linter.unusedVariables false
set_option linter.unusedSimpArgs false
set_option maxRecDepth 4000
namespace Go.Proofs.YthiakdmhpfkjbaaGreatDoor
open Go Go.SK
set_option maxHeartbeats 8000000 in
theorem nwork_make42 {w0 w : World} {F : List Chunk} {b bo nx bb : Nat} {st : NS} {os : List (Bool × Nat × Int × Int × Int)} {fl : List (Nat × List UInt8)} {L D : Chunk} {O : Chunk} {en : List (Nat × Nat × Nat)} {ts : List Nat} {k : Nat} (hS : St w0 w (L :: O :: D :: F)) (hN : NUP w0 b bo st (.file os fl nx bb) L D) (hO : ORR bo en ts k O) (m : MN) (hm : m.ok) (ps2 : List MN) (hus : st.us = []) (hps : st.ps = m :: ps2) (h1 : ¬ m.to = st.c.rep) (hop : m.op = 100) (hri : m.ri = 255) (hpo : m.po = st.c.port) (hnew : ∀ y ∈ st.es, ¬ (y.who = m.rp ∧ y.id = m.id)) (hel : st.es.length < 32) {s0 : Nat} {e0 li : Int} (hox : os[m.ob]? = some (true, s0, e0, -1, li)) (hos : s0 < 2 ^ 64) (hock : s0 % 281474976710656 = m.ck) {js z0 : Nat} (hjs : st.sd[js]? = some (m.rp, z0)) (hjsn : ∀ (q : Nat) (y : Nat × Nat), q < js → st.sd[q]? = some y → ¬ y.1 = m.rp) (hp1 : 1 ≤ st.c.pc) (hp2 : st.c.pc ≤ 32768) (hsn : st.c.sent < 1000000000) {x0 : Nat} (hall : ∀ x ∈ os, x.1 = true) (hol : os.length < 64) (hlt : ∀ x ∈ fl, x.1 < nx) (hnx : nx < 1000000) (hbb : bb + m.da.length ≤ 65536) (hx : ts[k]? = some x0) (hrok : (⟨m.rp, m.to, m.id, 100, 0, st.c.port, os.length, 255, x0, 0, []⟩ : MN).ok) (hnr : nP (encM ⟨m.rp, m.to, m.id, 100, 0, st.c.port, os.length, 255, x0, 0, []⟩) st.c.pc ≤ 256) :
 Ret Tryz.prog 42 #[vP b 0] w (fun v w' => ∃ L' ps A c C O' D', NUP w0 b bo { st with c := { st.c with sent := st.c.sent + 1 }, ps := ps2, es := st.es ++ [⟨m.rp, m.id, 2, ⟨m.rp, m.to, m.id, 100, 0, st.c.port, os.length, 255, x0, 0, []⟩⟩] } (.file (os ++ [(true, x0, 0, ((nx : Nat) : Int), 24)]) (fl ++ [(nx, m.da)]) (nx + 1) (bb + m.da.length)) L' D' ∧ Own 94 6 (.slice A ps.length c) ps.length (rows encPacket ps) C ∧ PKS w0 D' ps (splitM (encM ⟨m.rp, m.to, m.id, 100, 0, st.c.port, os.length, 255, x0, 0, []⟩) st.c.id z0 (st.c.sent + 1) st.c.pc) ∧ DX w0 D D' ∧ ORR bo en ts (k + 1) O' ∧ v = .tuple #[.slice A ps.length c, .bool true] ∧ St w0 w' (L' :: C :: O' :: D' :: F)) := by
 have hm0 := hm
 obtain ⟨hk1, hk2, hk3, hk4, hk5, hk6, hk7, hk8, hk9, hk10, hk11⟩ := hm
 obtain ⟨sv, bd, bg, bc, bp, bx, mp, ob, el, cl, ul, pl2, LS, LG, LC, LP, LB, LV, hn, rfl⟩ := hN
 replace hS : St w0 w ([(b, rowO [vI st.c.id, vI st.c.ki, vI st.c.no, vI st.c.pc, vI st.c.wa, vI st.c.tr, vI st.c.ag, vI st.c.pg, vI st.c.ro, vP bo 0, .bool true, vI st.c.now, vU st.c.sent, vU st.c.rep, vU st.c.port, vU st.c.r0, vW st.c.r1, vB st.c.r2, vU st.c.r3, sv, vP bd 0, vP bg 0, vP bc 0, vP bp 0, vP bx 0, .map (some mp)] 121)] :: LS :: LG :: LC :: LP :: LB :: [(mp, ob)] :: LV :: O :: D :: F) := hS.cast (by simp)
 have hu0 : ul = [] := map_nil9 (by rw [hn.ful, hus]); obtain ⟨x, ul2, hul, e, hum⟩ := map_cons9 (l := pl2) (y := m) (k := ps2) (by rw [hn.fpl, hps]); have hdx := hn.fpd x (by rw [hul]; exact List.mem_cons_self); have hbx0 := hn.fbx; rw [hu0, hul] at hbx0
 obtain ⟨x0, x1, x2, x3, x4, x5, x6, x7, x8, x9, xA, xc, xb⟩ := x
 simp only [mst, mdat, MN.t, Prod.mk.injEq] at e
 obtain ⟨e0, e1, e2, e3, e4, e5, e6, e7, e8, e9, e10⟩ := e
 subst e0 e1 e2 e3 e4 e5 e6 e7 e8 e9 e10
 obtain ⟨bsv, hsv, hV⟩ := hn.fsv; subst hsv
 refine enter (vs := [vP b 0]) 78 Tryz.func42 rfl rfl (by simp) ?_; intro a hA
 refine zs (zr (zR 2 ((3, .bool false) :: (2, .slice none 0 0) :: _) hA rfl fun a hA => zn (zx (zs (zs (zr (zR 3 ((11, vP b 10) :: (10, vP b 0) :: (9, vP b 0) :: _) hA rfl fun a hA => zL hA hS 0 rfl rfl rfl rfl rfl rfl rfl rfl rfl fun a hA => zR 1 ((13, .bool false) :: _) hA rfl fun a hA => zn (zx (cd_cond_f hA rfl (zk (zx (zs (zr (zR 3 ((17, vP b 24) :: (16, vP b 0) :: (15, vP b 0) :: _) hA rfl fun a hA => zL hA hS 0 rfl rfl rfl rfl rfl rfl rfl rfl rfl fun a hA => ?_))))))))))))))
 replace hS := hS.m5
 refine st_call0 hA rfl rfl rfl isfn66 rfl rfl (by decide) (get_p66 hS hbx0) ?_
 clear hA hS; rintro _ w1 a ⟨LB2, hb2, rfl, hS⟩ hA
 replace hA := hA.rw 19 (v' := .tuple #[.agg #[vU m.to, vU m.rp, vW m.id, vH m.op, vH m.st, vU m.po, vW m.ob, vB m.ri, vU m.ck, vU m.ar, .slice xA m.da.length xc], .bool true]) rfl rfl
 refine zR 3 ((21, .bool true) :: (20, .agg #[vU m.to, vU m.rp, vW m.id, vH m.op, vH m.st, vU m.po, vW m.ob, vB m.ri, vU m.ck, vU m.ar, .slice xA m.da.length xc]) :: (14, .tuple #[.agg #[vU m.to, vU m.rp, vW m.id, vH m.op, vH m.st, vU m.po, vW m.ob, vB m.ri, vU m.ck, vU m.ar, .slice xA m.da.length xc], .bool true]) :: _) hA rfl fun a hA => ?_
 refine st_alloc tbOk hA hS [.int .u64 0, .int .u64 0, .int .u32 0, .int .u16 0, .int .u16 0, .int .u64 0, .int .u32 0, .int .u8 0, .int .u64 0, .int .u64 0, .slice none 0 0] rfl rfl rfl rfl rfl (by decide) fun b2 w3 a hS hA => ?_
 refine st_store tbOk hA hS [vU m.to, vU m.rp, vW m.id, vH m.op, vH m.st, vU m.po, vW m.ob, vB m.ri, vU m.ck, vU m.ar, .slice xA m.da.length xc] [vU m.to, vU m.rp, vW m.id, vH m.op, vH m.st, vU m.po, vW m.ob, vB m.ri, vU m.ck, vU m.ar, .slice xA m.da.length xc] rfl rfl rfl rfl rfl rfl (zn1 rfl) (zle rfl) rfl rfl rfl fun w4 hS => ?_
 refine zR 1 ((5, .bool true) :: _) hA rfl fun a hA => zn (zx (zs (zs (zr (zR 2 ((23, .bool false) :: (22, .bool true) :: _) hA rfl fun a hA => zn (zx (cd_cond_f hA rfl (zk (zx (zs (zs ?_)))))))))))
 refine zD0 hS [] [(0, true), (1, true), (2, true), (3, true), (4, true), (5, true), (6, true)] mixed (by kernel_rfl) (by rintro c a w ⟨_, _, h, _⟩; cases h) (by rfl) (by kernel_rfl) ?_
 replace hS := hS.drew
 refine zW 1 ((24, vP b2 0) :: _) hA hS rfl fun a hA => zY hA hS 0 rfl rfl rfl rfl rfl rfl rfl rfl rfl rfl fun a hA => zW 3 ((28, vP b 13) :: (27, vP b 0) :: (26, vP b 0) :: _) hA hS rfl fun a hA => zY hA hS 2 rfl rfl rfl rfl rfl rfl rfl rfl rfl rfl fun a hA => zW 1 ((30, .bool (((m.to : Nat) : Int) == ((st.c.rep : Nat) : Int))) :: _) hA hS rfl fun a hA => ze (zx ?_)
 have hc5 : ¬ (((m.to : Nat) : Int) = ((st.c.rep : Nat) : Int)) := by omega
 replace hA := hA.rw 30 (v' := .bool false) rfl (vb_eq_f hc5)
 refine cd_cond_f hA rfl (zk (zx (zs ?_)))
 replace hS := hS.m10.m4
 refine wp_drawN (fun w' => St w0 w' ([(b2, rowO [vU m.to, vU m.rp, vW m.id, vH m.op, vH m.st, vU m.po, vW m.ob, vB m.ri, vU m.ck, vU m.ar, .slice xA m.da.length xc] 46)] :: LB2 :: [(b, rowO [vI st.c.id, vI st.c.ki, vI st.c.no, vI st.c.pc, vI st.c.wa, vI st.c.tr, vI st.c.ag, vI st.c.pg, vI st.c.ro, vP bo 0, .bool true, vI st.c.now, vU st.c.sent, vU st.c.rep, vU st.c.port, vU st.c.r0, vW st.c.r1, vB st.c.r2, vU st.c.r3, vP bsv 0, vP bd 0, vP bg 0, vP bc 0, vP bp 0, vP bx 0, .map (some mp)] 121)] :: LG :: LC :: LP :: [(mp, ob)] :: LV :: O :: F)) [] [(0, true), (1, true), (2, true), (3, true), (4, true)] 5 (.L [(6, true), (7, true), (8, true), (9, true), (10, false), (11, true), (12, false), (13, true)]) 10 (.L [(5, false), (6, true), (7, true), (8, true), (9, true), (11, true), (12, false), (13, true)]) mixed (by kernel_rfl) (by rintro c a w ⟨_, _, h, _⟩; cases h) (by rfl) (by kernel_rfl) ?_
 replace hS := hS.drew
 refine zW 3 ((40, vP b 20) :: (39, vP b 0) :: (38, vP b 0) :: _) hA (hS.tail 2 rfl) rfl fun a hA => zY hA (hS.tail 2 rfl) 2 rfl rfl rfl rfl rfl rfl rfl rfl rfl rfl fun a hA => zYA hA (hS.tail 2 rfl) 0 [vU m.to, vU m.rp, vW m.id, vH m.op, vH m.st, vU m.po, vW m.ob, vB m.ri, vU m.ck, vU m.ar, .slice xA m.da.length xc] rfl rfl rfl rfl rfl rfl rfl rfl rfl rfl rfl fun a hA => ?_
 refine dr_fork ?_ ?_
 · refine dr_b (o := _) rfl ?_
   replace hS := hS.m1.m1
   refine st_call0 hA rfl rfl rfl isfn68 rfl rfl (by decide) (take_new68 hS hn.fsr ((m.to : Nat) : Int) ((m.rp : Nat) : Int) ((m.id : Nat) : Int) ((m.op : Nat) : Int) ((m.st : Nat) : Int) ((m.po : Nat) : Int) ((m.ob : Nat) : Int) ((m.ri : Nat) : Int) ((m.ck : Nat) : Int) ((m.ar : Nat) : Int) _ (fnd_of hn.fel hnew) (by have h := map_len9 hn.fel; omega)) ?_
   clear hA hS; rintro _ w6 a ⟨LS2, hs2, rfl, hS⟩ hA
   refine zi (hS.tail 2 rfl) ?_
   refine dr_subL ?_
   refine zW 4 ((46, .nilIface) :: (45, .agg #[.int .u64 0, .int .u64 0, .int .u32 0, .int .u16 0, .int .u16 0, .int .u64 0, .int .u32 0, .int .u8 0, .int .u64 0, .int .u64 0, .slice none 0 0]) :: (44, .int .i64 0) :: (37, .tuple #[.int .i64 0, .agg #[.int .u64 0, .int .u64 0, .int .u32 0, .int .u16 0, .int .u16 0, .int .u64 0, .int .u32 0, .int .u8 0, .int .u64 0, .int .u64 0, .slice none 0 0], .nilIface]) :: _) hA (hS.tail 2 rfl) rfl fun a hA => dr_b (o := _) rfl ?_
   refine st_alloc tbOk hA hS [.int .u64 0, .int .u64 0, .int .u32 0, .int .u16 0, .int .u16 0, .int .u64 0, .int .u32 0, .int .u8 0, .int .u64 0, .int .u64 0, .slice none 0 0] rfl rfl rfl rfl rfl (by decide) fun b7 w8 a hS hA => ?_
   refine zi (hS.tail 3 rfl) (zW 1 ((6, .int .i64 0) :: _) hA (hS.tail 3 rfl) rfl fun a hA => dr_b (o := _) rfl ?_)
   refine st_store tbOk hA hS [.int .u64 0, .int .u64 0, .int .u32 0, .int .u16 0, .int .u16 0, .int .u64 0, .int .u32 0, .int .u8 0, .int .u64 0, .int .u64 0, .slice none 0 0] [.int .u64 0, .int .u64 0, .int .u32 0, .int .u16 0, .int .u16 0, .int .u64 0, .int .u32 0, .int .u8 0, .int .u64 0, .int .u64 0, .slice none 0 0] rfl rfl rfl rfl rfl rfl (zn1 rfl) (zle rfl) rfl rfl rfl fun w9 hS => ?_
   refine zi (hS.tail 3 rfl) (zW 1 ((8, .nilIface) :: _) hA (hS.tail 3 rfl) rfl fun a hA => ze (zx (zs (zb (zs (zs (zr (zR 3 ((47, .bool false) :: (49, .bool false) :: (48, .nilIface) :: _) hA rfl fun a hA => zn (zx (cd_cond_f hA rfl (zr (zR 3 ((47, .bool false) :: (51, .bool false) :: (50, .int .i64 0) :: _) hA rfl fun a hA => zn (zx (cd_cond_f hA rfl (zs (zr (zR 3 ((52, .bool true) :: (54, .bool true) :: (53, .int .i64 0) :: _) hA rfl fun a hA => zn (zx (cd_cond_t hA rfl (zs ?_))))))))))))))))))))
   replace hS := hS.m2.m11.m11
   refine zD4 hS [] [(0, true), (1, true), (2, true), (3, true), (4, true), (5, false), (6, false)] mixed (by kernel_rfl) (by rintro c a w ⟨_, _, h, _⟩; cases h) (by rfl) (by kernel_rfl) ?_
   replace hS := hS.drew
   refine zW 3 ((57, vP b 19) :: (56, vP b 0) :: (55, vP b 0) :: _) hA (hS.tail 4 rfl) rfl fun a hA => zY hA (hS.tail 4 rfl) 3 rfl rfl rfl rfl rfl rfl rfl rfl rfl rfl fun a hA => zYA hA (hS.tail 4 rfl) 1 [vU m.to, vU m.rp, vW m.id, vH m.op, vH m.st, vU m.po, vW m.ob, vB m.ri, vU m.ck, vU m.ar, .slice xA m.da.length xc] rfl rfl rfl rfl rfl rfl rfl rfl rfl rfl rfl fun a hA => dr_b (o := _) rfl ?_
   replace hA := hA.rw 59 (v' := .agg #[vU m.to, vU m.rp, vW m.id, .int .u16 100, vH m.st, vU st.c.port, vW m.ob, .int .u8 255, vU m.ck, vU m.ar, .slice xA m.da.length xc]) rfl (by first | (rw [hop, hri, hpo]; done) | (rw [hop, hri, hpo]; rfl))
   replace hS := hS.m2.m2.m2
   refine st_call0 hA rfl rfl rfl isfn69 rfl rfl (by decide) (serve_make69 hS hV hO m (by omega) hk7 hk9 hox hos hock (DD.rds (F := D :: _) hdx 0 rfl) (by omega) hall hol hlt hnx hbb hx) ?_
   clear hA hS; rintro _ w10 a ⟨LV2, O2, E1, A1, c1, hV2, hO2, hE1, rfl, hS⟩ hA
   have hX11 : DX w0 D (E1 ++ D) := DX.refl.step
   refine zi (hS.tail 4 rfl) (dr_b (o := _) rfl ?_)
   replace hS := hS.m3
   refine st_store tbOk hA hS [vU m.rp, vU m.to, vW m.id, .int .u16 100, .int .u16 0, vU st.c.port, vW os.length, .int .u8 255, vU x0, .int .u64 0, .slice A1 0 c1] [vU m.rp, vU m.to, vW m.id, .int .u16 100, .int .u16 0, vU st.c.port, vW os.length, .int .u8 255, vU x0, .int .u64 0, .slice A1 0 c1] rfl rfl rfl rfl rfl rfl (zn1 rfl) (zle rfl) rfl rfl rfl fun w12 hS => ?_
   refine zi (hS.tail 4 rfl) (ze (zx ?_))
   replace hS := hS.m3.m4
   refine zD2 hS [] [(0, true), (1, true), (2, true), (3, true), (4, true), (5, true), (6, false)] mixed (by kernel_rfl) (by rintro c a w ⟨_, _, h, _⟩; cases h) (by rfl) (by kernel_rfl) ?_
   replace hS := hS.drew
   refine zW 3 ((63, vP b 20) :: (62, vP b 0) :: (61, vP b 0) :: _) hA (hS.tail 2 rfl) rfl fun a hA => zY hA (hS.tail 2 rfl) 5 rfl rfl rfl rfl rfl rfl rfl rfl rfl rfl fun a hA => zYA hA (hS.tail 2 rfl) 3 [vU m.to, vU m.rp, vW m.id, vH m.op, vH m.st, vU m.po, vW m.ob, vB m.ri, vU m.ck, vU m.ar, .slice xA m.da.length xc] rfl rfl rfl rfl rfl rfl rfl rfl rfl rfl rfl fun a hA => zYA hA (hS.tail 2 rfl) 0 [vU m.rp, vU m.to, vW m.id, .int .u16 100, .int .u16 0, vU st.c.port, vW os.length, .int .u8 255, vU x0, .int .u64 0, .slice A1 0 c1] rfl rfl rfl rfl rfl rfl rfl rfl rfl rfl rfl fun a hA => dr_b (o := _) rfl ?_
   replace hS := hS.m1.m1
   refine st_call0 hA rfl rfl rfl isfn70 rfl rfl (by decide) (reply_ok70 hS hs2 ((m.to : Nat) : Int) ((m.rp : Nat) : Int) ((m.id : Nat) : Int) ((m.op : Nat) : Int) ((m.st : Nat) : Int) ((m.po : Nat) : Int) ((m.ob : Nat) : Int) ((m.ri : Nat) : Int) ((m.ck : Nat) : Int) ((m.ar : Nat) : Int) _ ((m.rp : Nat) : Int) ((m.to : Nat) : Int) ((m.id : Nat) : Int) 100 0 ((st.c.port : Nat) : Int) ((os.length : Nat) : Int) 255 ((x0 : Nat) : Int) 0 (bs := ([] : List UInt8)) (DD.rds (F := (E1 ++ D) :: _) (DD.right hE1) 0 rfl) (by decide) (k := el.length) (x := ((((m.rp : Nat) : Int), ((m.id : Nat) : Int), 1, 0, 0, 0, 0, 0, 0, 0, 0, 0, 0, none, 0, ([] : List UInt8)) : Ent)) last_at (by simp [fnd]) (bef_last (fnd_of hn.fel hnew)) rfl (by have h := map_len9 hn.fel; rw [List.length_append]; show el.length + 1 ≤ _; omega)) ?_
   clear hA hS; rintro _ w13 a ⟨LS3, E2, A2, c2, hs3, hE2, rfl, hS⟩ hA
   have hX14 : DX w0 (E1 ++ D) (E2 ++ (E1 ++ D)) := DX.refl.step
   refine zi (hS.tail 2 rfl) (ze (zm (zx (zs ?_))))
   refine zD0 hS [9, 10, 11] [(0, true), (1, true), (2, true), (3, true), (4, true), (5, true), (6, true), (7, true), (8, false), (9, false), (10, false), (11, false)] mixed (by kernel_rfl) (by rintro c a w ⟨_, _, h, _⟩; cases h) (by rfl) (by kernel_rfl) ?_
   replace hS := hS.drew
   refine zW 1 ((68, vP b 0) :: _) hA hS rfl fun a hA => zYA hA hS 2 [vU m.rp, vU m.to, vW m.id, .int .u16 100, .int .u16 0, vU st.c.port, vW os.length, .int .u8 255, vU x0, .int .u64 0, .slice A1 0 c1] rfl rfl rfl rfl rfl rfl rfl rfl rfl rfl rfl fun a hA => zW 3 ((72, vP b 25) :: (71, vP b 0) :: (70, vP b 0) :: _) hA hS rfl fun a hA => zY hA hS 7 rfl rfl rfl rfl rfl rfl rfl rfl rfl rfl fun a hA => zW 1 ((74, vP b2 1) :: _) hA hS rfl fun a hA => zY hA hS 5 rfl rfl rfl rfl rfl rfl rfl rfl rfl rfl fun a hA => dr_b (o := _) rfl (st_val hA rfl rfl (by decide) (rn_lookup_hit tbOk hA rfl rfl rfl rfl rfl rfl rfl (hS.heapAt 11 rfl) hn.fmp (sdv_at hjs) (sdv_bef hjsn)) fun a hA => zi hS (dr_b (o := _) rfl ?_))
   replace hS := hS.m1.m7
   refine st_call0 hA rfl rfl rfl isfn62 rfl rfl (by decide) (npackets62 (s := st.c) hS ⟨m.rp, m.to, m.id, 100, 0, st.c.port, os.length, 255, x0, 0, []⟩ hrok z0 (DD.rds (F := (E2 ++ (E1 ++ D)) :: _) (DD.left (DD.right hE1)) 0 rfl) (by omega) hp1 hp2 hnr) ?_
   clear hA hS; rintro _ w15 a ⟨psq, Aq, cq, Cq, Eq, hOq, hKq, rfl, hS⟩ hA
   have hX16 : DX w0 (E2 ++ (E1 ++ D)) (Eq ++ (E2 ++ (E1 ++ D))) := DX.refl.step
   refine dr_nil (.inl (by decide)) (dr_b (o := _) rfl (zR 1 ((2, .slice Aq psq.length cq) :: _) hA rfl fun a hA => dr_nil (.inl (by decide)) (dr_b (o := _) rfl (zR 1 ((3, .bool true) :: _) hA rfl fun a hA => dr_nil (.inl (by decide)) (ze (zx ?_))))))
   refine wp_ret ?_
   refine ret2 (fn := Tryz.f42) hA rfl rfl rfl ?_
   replace hS := hS.m4.d0.m6.d0.m2.m5.m3.m5.m10.m7.m10.m10.m10.m10.m10
   replace hS : St w0 w15 (((b, rowO [vI st.c.id, vI st.c.ki, vI st.c.no, vI st.c.pc, vI st.c.wa, vI st.c.tr, vI st.c.ag, vI st.c.pg, vI st.c.ro, vP bo 0, .bool true, vI st.c.now, vU (st.c.sent + 1), vU st.c.rep, vU st.c.port, vU st.c.r0, vW st.c.r1, vB st.c.r2, vU st.c.r3, vP bsv 0, vP bd 0, vP bg 0, vP bc 0, vP bp 0, vP bx 0, .map (some mp)] 121) :: (LS3 ++ (LG ++ (LC ++ (LP ++ (LB2 ++ ((mp, ob) :: LV2))))))) :: Cq :: O2 :: (Eq ++ (E2 ++ (E1 ++ D))) :: F) := hS.cast (by simp)
   exact ⟨_, psq, Aq, cq, Cq, O2, (Eq ++ (E2 ++ (E1 ++ D))), ⟨_, _, _, _, _, _, _, _, _, _, _, _, _, _, _, _, _, _, ⟨hs3, (hn.fgs.dx (hX11.trans (hX14.trans hX16))), hn.fcr, hn.fpm, hb2, hn.fmp, ((SVO.mk hV2).dx (hX14.trans hX16)), (by rw [set_last5]; exact map_snoc9 (y := (⟨m.rp, m.id, 2, ⟨m.rp, m.to, m.id, 100, 0, st.c.port, os.length, 255, x0, 0, []⟩⟩ : EA)) hn.fel (by rfl)), (by rw [set_last5]; exact all_snoc9 hn.fed (fun y hy => DX.dd (hX11.trans (hX14.trans hX16)) hy) (DD.left (DD.right hE2))), hn.fcl, ((hX11.trans (hX14.trans hX16)).calls hn.fcd), (by rw [hus]; rfl), (fun z hz => by cases hz), hum, (msg_dx (fun z hz => hn.fpd z (by rw [hul]; exact List.mem_cons_of_mem _ hz)) (hX11.trans (hX14.trans hX16)))⟩, rfl⟩, hOq, ⟨hKq.1, fun x hx => DD.right (hKq.2 x hx)⟩, (hX11.trans (hX14.trans hX16)), hO2, rfl, hS⟩
 · refine dr_b (o := _) rfl ?_
   refine st_alloc tbOk hA hS [.int .u64 0, .int .u64 0, .int .u32 0, .int .u16 0, .int .u16 0, .int .u64 0, .int .u32 0, .int .u8 0, .int .u64 0, .int .u64 0, .slice none 0 0] rfl rfl rfl rfl rfl (by decide) fun b17 w18 a hS hA => ?_
   refine zi (hS.tail 3 rfl) ?_
   refine dr_subL ?_
   refine dr_b (o := _) rfl ?_
   replace hS := hS.m2.m2
   refine st_call0 hA rfl rfl rfl isfn68 rfl rfl (by decide) (take_new68 hS hn.fsr ((m.to : Nat) : Int) ((m.rp : Nat) : Int) ((m.id : Nat) : Int) ((m.op : Nat) : Int) ((m.st : Nat) : Int) ((m.po : Nat) : Int) ((m.ob : Nat) : Int) ((m.ri : Nat) : Int) ((m.ck : Nat) : Int) ((m.ar : Nat) : Int) _ (fnd_of hn.fel hnew) (by have h := map_len9 hn.fel; omega)) ?_
   clear hA hS; rintro _ w19 a ⟨LS2, hs2, rfl, hS⟩ hA
   refine zi (hS.tail 3 rfl) (zW 5 ((6, .int .i64 0) :: (46, .nilIface) :: (45, .agg #[.int .u64 0, .int .u64 0, .int .u32 0, .int .u16 0, .int .u16 0, .int .u64 0, .int .u32 0, .int .u8 0, .int .u64 0, .int .u64 0, .slice none 0 0]) :: (44, .int .i64 0) :: (37, .tuple #[.int .i64 0, .agg #[.int .u64 0, .int .u64 0, .int .u32 0, .int .u16 0, .int .u16 0, .int .u64 0, .int .u32 0, .int .u8 0, .int .u64 0, .int .u64 0, .slice none 0 0], .nilIface]) :: _) hA (hS.tail 3 rfl) rfl fun a hA => dr_b (o := _) rfl ?_)
   replace hS := hS.m2
   refine st_store tbOk hA hS [.int .u64 0, .int .u64 0, .int .u32 0, .int .u16 0, .int .u16 0, .int .u64 0, .int .u32 0, .int .u8 0, .int .u64 0, .int .u64 0, .slice none 0 0] [.int .u64 0, .int .u64 0, .int .u32 0, .int .u16 0, .int .u16 0, .int .u64 0, .int .u32 0, .int .u8 0, .int .u64 0, .int .u64 0, .slice none 0 0] rfl rfl rfl rfl rfl rfl (zn1 rfl) (zle rfl) rfl rfl rfl fun w20 hS => ?_
   refine zi (hS.tail 3 rfl) (zW 1 ((8, .nilIface) :: _) hA (hS.tail 3 rfl) rfl fun a hA => ze (zx (zs (zb (zs (zs (zr (zR 3 ((47, .bool false) :: (49, .bool false) :: (48, .nilIface) :: _) hA rfl fun a hA => zn (zx (cd_cond_f hA rfl (zr (zR 3 ((47, .bool false) :: (51, .bool false) :: (50, .int .i64 0) :: _) hA rfl fun a hA => zn (zx (cd_cond_f hA rfl (zs (zr (zR 3 ((52, .bool true) :: (54, .bool true) :: (53, .int .i64 0) :: _) hA rfl fun a hA => zn (zx (cd_cond_t hA rfl (zs ?_))))))))))))))))))))
   replace hS := hS.m2.m11.m11
   refine zD4 hS [] [(0, true), (1, true), (2, true), (3, true), (4, true), (5, false), (6, false)] mixed (by kernel_rfl) (by rintro c a w ⟨_, _, h, _⟩; cases h) (by rfl) (by kernel_rfl) ?_
   replace hS := hS.drew
   refine zW 3 ((57, vP b 19) :: (56, vP b 0) :: (55, vP b 0) :: _) hA (hS.tail 4 rfl) rfl fun a hA => zY hA (hS.tail 4 rfl) 3 rfl rfl rfl rfl rfl rfl rfl rfl rfl rfl fun a hA => zYA hA (hS.tail 4 rfl) 1 [vU m.to, vU m.rp, vW m.id, vH m.op, vH m.st, vU m.po, vW m.ob, vB m.ri, vU m.ck, vU m.ar, .slice xA m.da.length xc] rfl rfl rfl rfl rfl rfl rfl rfl rfl rfl rfl fun a hA => dr_b (o := _) rfl ?_
   replace hA := hA.rw 59 (v' := .agg #[vU m.to, vU m.rp, vW m.id, .int .u16 100, vH m.st, vU st.c.port, vW m.ob, .int .u8 255, vU m.ck, vU m.ar, .slice xA m.da.length xc]) rfl (by first | (rw [hop, hri, hpo]; done) | (rw [hop, hri, hpo]; rfl))
   replace hS := hS.m2.m2.m2
   refine st_call0 hA rfl rfl rfl isfn69 rfl rfl (by decide) (serve_make69 hS hV hO m (by omega) hk7 hk9 hox hos hock (DD.rds (F := D :: _) hdx 0 rfl) (by omega) hall hol hlt hnx hbb hx) ?_
   clear hA hS; rintro _ w21 a ⟨LV2, O2, E1, A1, c1, hV2, hO2, hE1, rfl, hS⟩ hA
   have hX22 : DX w0 D (E1 ++ D) := DX.refl.step
   refine zi (hS.tail 4 rfl) (dr_b (o := _) rfl ?_)
   replace hS := hS.m3
   refine st_store tbOk hA hS [vU m.rp, vU m.to, vW m.id, .int .u16 100, .int .u16 0, vU st.c.port, vW os.length, .int .u8 255, vU x0, .int .u64 0, .slice A1 0 c1] [vU m.rp, vU m.to, vW m.id, .int .u16 100, .int .u16 0, vU st.c.port, vW os.length, .int .u8 255, vU x0, .int .u64 0, .slice A1 0 c1] rfl rfl rfl rfl rfl rfl (zn1 rfl) (zle rfl) rfl rfl rfl fun w23 hS => ?_
   refine zi (hS.tail 4 rfl) (ze (zx ?_))
   replace hS := hS.m3.m4
   refine zD2 hS [] [(0, true), (1, true), (2, true), (3, true), (4, true), (5, true), (6, false)] mixed (by kernel_rfl) (by rintro c a w ⟨_, _, h, _⟩; cases h) (by rfl) (by kernel_rfl) ?_
   replace hS := hS.drew
   refine zW 3 ((63, vP b 20) :: (62, vP b 0) :: (61, vP b 0) :: _) hA (hS.tail 2 rfl) rfl fun a hA => zY hA (hS.tail 2 rfl) 5 rfl rfl rfl rfl rfl rfl rfl rfl rfl rfl fun a hA => zYA hA (hS.tail 2 rfl) 3 [vU m.to, vU m.rp, vW m.id, vH m.op, vH m.st, vU m.po, vW m.ob, vB m.ri, vU m.ck, vU m.ar, .slice xA m.da.length xc] rfl rfl rfl rfl rfl rfl rfl rfl rfl rfl rfl fun a hA => zYA hA (hS.tail 2 rfl) 0 [vU m.rp, vU m.to, vW m.id, .int .u16 100, .int .u16 0, vU st.c.port, vW os.length, .int .u8 255, vU x0, .int .u64 0, .slice A1 0 c1] rfl rfl rfl rfl rfl rfl rfl rfl rfl rfl rfl fun a hA => dr_b (o := _) rfl ?_
   replace hS := hS.m1.m1
   refine st_call0 hA rfl rfl rfl isfn70 rfl rfl (by decide) (reply_ok70 hS hs2 ((m.to : Nat) : Int) ((m.rp : Nat) : Int) ((m.id : Nat) : Int) ((m.op : Nat) : Int) ((m.st : Nat) : Int) ((m.po : Nat) : Int) ((m.ob : Nat) : Int) ((m.ri : Nat) : Int) ((m.ck : Nat) : Int) ((m.ar : Nat) : Int) _ ((m.rp : Nat) : Int) ((m.to : Nat) : Int) ((m.id : Nat) : Int) 100 0 ((st.c.port : Nat) : Int) ((os.length : Nat) : Int) 255 ((x0 : Nat) : Int) 0 (bs := ([] : List UInt8)) (DD.rds (F := (E1 ++ D) :: _) (DD.right hE1) 0 rfl) (by decide) (k := el.length) (x := ((((m.rp : Nat) : Int), ((m.id : Nat) : Int), 1, 0, 0, 0, 0, 0, 0, 0, 0, 0, 0, none, 0, ([] : List UInt8)) : Ent)) last_at (by simp [fnd]) (bef_last (fnd_of hn.fel hnew)) rfl (by have h := map_len9 hn.fel; rw [List.length_append]; show el.length + 1 ≤ _; omega)) ?_
   clear hA hS; rintro _ w24 a ⟨LS3, E2, A2, c2, hs3, hE2, rfl, hS⟩ hA
   have hX25 : DX w0 (E1 ++ D) (E2 ++ (E1 ++ D)) := DX.refl.step
   refine zi (hS.tail 2 rfl) (ze (zm (zx (zs ?_))))
   refine zD0 hS [9, 10, 11] [(0, true), (1, true), (2, true), (3, true), (4, true), (5, true), (6, true), (7, true), (8, false), (9, false), (10, false), (11, false)] mixed (by kernel_rfl) (by rintro c a w ⟨_, _, h, _⟩; cases h) (by rfl) (by kernel_rfl) ?_
   replace hS := hS.drew
   refine zW 1 ((68, vP b 0) :: _) hA hS rfl fun a hA => zYA hA hS 2 [vU m.rp, vU m.to, vW m.id, .int .u16 100, .int .u16 0, vU st.c.port, vW os.length, .int .u8 255, vU x0, .int .u64 0, .slice A1 0 c1] rfl rfl rfl rfl rfl rfl rfl rfl rfl rfl rfl fun a hA => zW 3 ((72, vP b 25) :: (71, vP b 0) :: (70, vP b 0) :: _) hA hS rfl fun a hA => zY hA hS 7 rfl rfl rfl rfl rfl rfl rfl rfl rfl rfl fun a hA => zW 1 ((74, vP b2 1) :: _) hA hS rfl fun a hA => zY hA hS 5 rfl rfl rfl rfl rfl rfl rfl rfl rfl rfl fun a hA => dr_b (o := _) rfl (st_val hA rfl rfl (by decide) (rn_lookup_hit tbOk hA rfl rfl rfl rfl rfl rfl rfl (hS.heapAt 11 rfl) hn.fmp (sdv_at hjs) (sdv_bef hjsn)) fun a hA => zi hS (dr_b (o := _) rfl ?_))
   replace hS := hS.m1.m7
   refine st_call0 hA rfl rfl rfl isfn62 rfl rfl (by decide) (npackets62 (s := st.c) hS ⟨m.rp, m.to, m.id, 100, 0, st.c.port, os.length, 255, x0, 0, []⟩ hrok z0 (DD.rds (F := (E2 ++ (E1 ++ D)) :: _) (DD.left (DD.right hE1)) 0 rfl) (by omega) hp1 hp2 hnr) ?_
   clear hA hS; rintro _ w26 a ⟨psq, Aq, cq, Cq, Eq, hOq, hKq, rfl, hS⟩ hA
   have hX27 : DX w0 (E2 ++ (E1 ++ D)) (Eq ++ (E2 ++ (E1 ++ D))) := DX.refl.step
   refine dr_nil (.inl (by decide)) (dr_b (o := _) rfl (zR 1 ((2, .slice Aq psq.length cq) :: _) hA rfl fun a hA => dr_nil (.inl (by decide)) (dr_b (o := _) rfl (zR 1 ((3, .bool true) :: _) hA rfl fun a hA => dr_nil (.inl (by decide)) (ze (zx ?_))))))
   refine wp_ret ?_
   refine ret2 (fn := Tryz.f42) hA rfl rfl rfl ?_
   replace hS := hS.m4.d0.m6.d0.m2.m5.m3.m5.m10.m7.m10.m10.m10.m10.m10
   replace hS : St w0 w26 (((b, rowO [vI st.c.id, vI st.c.ki, vI st.c.no, vI st.c.pc, vI st.c.wa, vI st.c.tr, vI st.c.ag, vI st.c.pg, vI st.c.ro, vP bo 0, .bool true, vI st.c.now, vU (st.c.sent + 1), vU st.c.rep, vU st.c.port, vU st.c.r0, vW st.c.r1, vB st.c.r2, vU st.c.r3, vP bsv 0, vP bd 0, vP bg 0, vP bc 0, vP bp 0, vP bx 0, .map (some mp)] 121) :: (LS3 ++ (LG ++ (LC ++ (LP ++ (LB2 ++ ((mp, ob) :: LV2))))))) :: Cq :: O2 :: (Eq ++ (E2 ++ (E1 ++ D))) :: F) := hS.cast (by simp)
   exact ⟨_, psq, Aq, cq, Cq, O2, (Eq ++ (E2 ++ (E1 ++ D))), ⟨_, _, _, _, _, _, _, _, _, _, _, _, _, _, _, _, _, _, ⟨hs3, (hn.fgs.dx (hX22.trans (hX25.trans hX27))), hn.fcr, hn.fpm, hb2, hn.fmp, ((SVO.mk hV2).dx (hX25.trans hX27)), (by rw [set_last5]; exact map_snoc9 (y := (⟨m.rp, m.id, 2, ⟨m.rp, m.to, m.id, 100, 0, st.c.port, os.length, 255, x0, 0, []⟩⟩ : EA)) hn.fel (by rfl)), (by rw [set_last5]; exact all_snoc9 hn.fed (fun y hy => DX.dd (hX22.trans (hX25.trans hX27)) hy) (DD.left (DD.right hE2))), hn.fcl, ((hX22.trans (hX25.trans hX27)).calls hn.fcd), (by rw [hus]; rfl), (fun z hz => by cases hz), hum, (msg_dx (fun z hz => hn.fpd z (by rw [hul]; exact List.mem_cons_of_mem _ hz)) (hX22.trans (hX25.trans hX27)))⟩, rfl⟩, hOq, ⟨hKq.1, fun x hx => DD.right (hKq.2 x hx)⟩, (hX22.trans (hX25.trans hX27)), hO2, rfl, hS⟩
end Go.Proofs.YthiakdmhpfkjbaaGreatDoor

set_option linter.unusedVariables false
set_option linter.unusedSimpArgs false
set_option maxRecDepth 4000
namespace Go.Proofs.YthiakdmhpfkjbaaGreatDoor
open Go Go.SK
set_option maxHeartbeats 8000000 in
theorem nwork_read42 {w0 w : World} {F : List Chunk} {b bo nx bb : Nat} {st : NS} {os : List (Bool × Nat × Int × Int × Int)} {fl : List (Nat × List UInt8)} {L D : Chunk} (hS : St w0 w (L :: D :: F)) (hN : NUP w0 b bo st (.file os fl nx bb) L D) (m : MN) (hm : m.ok) (ps2 : List MN) (hus : st.us = []) (hps : st.ps = m :: ps2) (h1 : ¬ m.to = st.c.rep) (hop : m.op = 101) (hri : m.ri = 255) (hpo : m.po = st.c.port) (hnew : ∀ y ∈ st.es, ¬ (y.who = m.rp ∧ y.id = m.id)) (hel : st.es.length < 32) {va : Nat} {s0 : Nat} {e0 li : Int} (hox : os[m.ob]? = some (true, s0, e0, ((va : Nat) : Int), li)) (hos : s0 < 2 ^ 64) (hock : s0 % 281474976710656 = m.ck) {js z0 : Nat} (hjs : st.sd[js]? = some (m.rp, z0)) (hjsn : ∀ (q : Nat) (y : Nat × Nat), q < js → st.sd[q]? = some y → ¬ y.1 = m.rp) (hp1 : 1 ≤ st.c.pc) (hp2 : st.c.pc ≤ 32768) (hsn : st.c.sent < 1000000000) (hol : os.length ≤ 64) {j p n : Nat} {bs : List UInt8} (har : m.ar = p * 4294967296 + n) (hj : fl[j]? = some (va, bs)) (hjn : ∀ (q : Nat) (y : Nat × List UInt8), q < j → fl[q]? = some y → ¬ y.1 = va) (hbl : bs.length ≤ 65536) (hn4 : n ≤ 4096) (hpn : p + n ≤ bs.length) (hrok : (⟨m.rp, m.to, m.id, 101, 0, 0, 0, 0, 0, 0, bsub bs p n⟩ : MN).ok) (hnr : nP (encM ⟨m.rp, m.to, m.id, 101, 0, 0, 0, 0, 0, 0, bsub bs p n⟩) st.c.pc ≤ 256) :
 Ret Tryz.prog 42 #[vP b 0] w (fun v w' => ∃ L' ps A c C D', NUP w0 b bo { st with c := { st.c with sent := st.c.sent + 1 }, ps := ps2, es := st.es ++ [⟨m.rp, m.id, 2, ⟨m.rp, m.to, m.id, 101, 0, 0, 0, 0, 0, 0, bsub bs p n⟩⟩] } (.file os fl nx bb) L' D' ∧ Own 94 6 (.slice A ps.length c) ps.length (rows encPacket ps) C ∧ PKS w0 D' ps (splitM (encM ⟨m.rp, m.to, m.id, 101, 0, 0, 0, 0, 0, 0, bsub bs p n⟩) st.c.id z0 (st.c.sent + 1) st.c.pc) ∧ DX w0 D D' ∧ v = .tuple #[.slice A ps.length c, .bool true] ∧ St w0 w' (L' :: C :: D' :: F)) := by
 have hm0 := hm
 obtain ⟨hk1, hk2, hk3, hk4, hk5, hk6, hk7, hk8, hk9, hk10, hk11⟩ := hm
 obtain ⟨sv, bd, bg, bc, bp, bx, mp, ob, el, cl, ul, pl2, LS, LG, LC, LP, LB, LV, hn, rfl⟩ := hN
 replace hS : St w0 w ([(b, rowO [vI st.c.id, vI st.c.ki, vI st.c.no, vI st.c.pc, vI st.c.wa, vI st.c.tr, vI st.c.ag, vI st.c.pg, vI st.c.ro, vP bo 0, .bool true, vI st.c.now, vU st.c.sent, vU st.c.rep, vU st.c.port, vU st.c.r0, vW st.c.r1, vB st.c.r2, vU st.c.r3, sv, vP bd 0, vP bg 0, vP bc 0, vP bp 0, vP bx 0, .map (some mp)] 121)] :: LS :: LG :: LC :: LP :: LB :: [(mp, ob)] :: LV :: D :: F) := hS.cast (by simp)
 have hu0 : ul = [] := map_nil9 (by rw [hn.ful, hus]); obtain ⟨x, ul2, hul, e, hum⟩ := map_cons9 (l := pl2) (y := m) (k := ps2) (by rw [hn.fpl, hps]); have hdx := hn.fpd x (by rw [hul]; exact List.mem_cons_self); have hbx0 := hn.fbx; rw [hu0, hul] at hbx0
 obtain ⟨x0, x1, x2, x3, x4, x5, x6, x7, x8, x9, xA, xc, xb⟩ := x
 simp only [mst, mdat, MN.t, Prod.mk.injEq] at e
 obtain ⟨e0, e1, e2, e3, e4, e5, e6, e7, e8, e9, e10⟩ := e
 subst e0 e1 e2 e3 e4 e5 e6 e7 e8 e9 e10
 obtain ⟨bsv, hsv, hV⟩ := hn.fsv; subst hsv
 refine enter (vs := [vP b 0]) 78 Tryz.func42 rfl rfl (by simp) ?_; intro a hA
 refine zs (zr (zR 2 ((3, .bool false) :: (2, .slice none 0 0) :: _) hA rfl fun a hA => zn (zx (zs (zs (zr (zR 3 ((11, vP b 10) :: (10, vP b 0) :: (9, vP b 0) :: _) hA rfl fun a hA => zL hA hS 0 rfl rfl rfl rfl rfl rfl rfl rfl rfl fun a hA => zR 1 ((13, .bool false) :: _) hA rfl fun a hA => zn (zx (cd_cond_f hA rfl (zk (zx (zs (zr (zR 3 ((17, vP b 24) :: (16, vP b 0) :: (15, vP b 0) :: _) hA rfl fun a hA => zL hA hS 0 rfl rfl rfl rfl rfl rfl rfl rfl rfl fun a hA => ?_))))))))))))))
 replace hS := hS.m5
 refine st_call0 hA rfl rfl rfl isfn66 rfl rfl (by decide) (get_p66 hS hbx0) ?_
 clear hA hS; rintro _ w1 a ⟨LB2, hb2, rfl, hS⟩ hA
 replace hA := hA.rw 19 (v' := .tuple #[.agg #[vU m.to, vU m.rp, vW m.id, vH m.op, vH m.st, vU m.po, vW m.ob, vB m.ri, vU m.ck, vU m.ar, .slice xA m.da.length xc], .bool true]) rfl rfl
 refine zR 3 ((21, .bool true) :: (20, .agg #[vU m.to, vU m.rp, vW m.id, vH m.op, vH m.st, vU m.po, vW m.ob, vB m.ri, vU m.ck, vU m.ar, .slice xA m.da.length xc]) :: (14, .tuple #[.agg #[vU m.to, vU m.rp, vW m.id, vH m.op, vH m.st, vU m.po, vW m.ob, vB m.ri, vU m.ck, vU m.ar, .slice xA m.da.length xc], .bool true]) :: _) hA rfl fun a hA => ?_
 refine st_alloc tbOk hA hS [.int .u64 0, .int .u64 0, .int .u32 0, .int .u16 0, .int .u16 0, .int .u64 0, .int .u32 0, .int .u8 0, .int .u64 0, .int .u64 0, .slice none 0 0] rfl rfl rfl rfl rfl (by decide) fun b2 w3 a hS hA => ?_
 refine st_store tbOk hA hS [vU m.to, vU m.rp, vW m.id, vH m.op, vH m.st, vU m.po, vW m.ob, vB m.ri, vU m.ck, vU m.ar, .slice xA m.da.length xc] [vU m.to, vU m.rp, vW m.id, vH m.op, vH m.st, vU m.po, vW m.ob, vB m.ri, vU m.ck, vU m.ar, .slice xA m.da.length xc] rfl rfl rfl rfl rfl rfl (zn1 rfl) (zle rfl) rfl rfl rfl fun w4 hS => ?_
 refine zR 1 ((5, .bool true) :: _) hA rfl fun a hA => zn (zx (zs (zs (zr (zR 2 ((23, .bool false) :: (22, .bool true) :: _) hA rfl fun a hA => zn (zx (cd_cond_f hA rfl (zk (zx (zs (zs ?_)))))))))))
 refine zD0 hS [] [(0, true), (1, true), (2, true), (3, true), (4, true), (5, true), (6, true)] mixed (by kernel_rfl) (by rintro c a w ⟨_, _, h, _⟩; cases h) (by rfl) (by kernel_rfl) ?_
 replace hS := hS.drew
 refine zW 1 ((24, vP b2 0) :: _) hA hS rfl fun a hA => zY hA hS 0 rfl rfl rfl rfl rfl rfl rfl rfl rfl rfl fun a hA => zW 3 ((28, vP b 13) :: (27, vP b 0) :: (26, vP b 0) :: _) hA hS rfl fun a hA => zY hA hS 2 rfl rfl rfl rfl rfl rfl rfl rfl rfl rfl fun a hA => zW 1 ((30, .bool (((m.to : Nat) : Int) == ((st.c.rep : Nat) : Int))) :: _) hA hS rfl fun a hA => ze (zx ?_)
 have hc5 : ¬ (((m.to : Nat) : Int) = ((st.c.rep : Nat) : Int)) := by omega
 replace hA := hA.rw 30 (v' := .bool false) rfl (vb_eq_f hc5)
 refine cd_cond_f hA rfl (zk (zx (zs ?_)))
 replace hS := hS.m9.m4
 refine wp_drawN (fun w' => St w0 w' ([(b2, rowO [vU m.to, vU m.rp, vW m.id, vH m.op, vH m.st, vU m.po, vW m.ob, vB m.ri, vU m.ck, vU m.ar, .slice xA m.da.length xc] 46)] :: LB2 :: [(b, rowO [vI st.c.id, vI st.c.ki, vI st.c.no, vI st.c.pc, vI st.c.wa, vI st.c.tr, vI st.c.ag, vI st.c.pg, vI st.c.ro, vP bo 0, .bool true, vI st.c.now, vU st.c.sent, vU st.c.rep, vU st.c.port, vU st.c.r0, vW st.c.r1, vB st.c.r2, vU st.c.r3, vP bsv 0, vP bd 0, vP bg 0, vP bc 0, vP bp 0, vP bx 0, .map (some mp)] 121)] :: LG :: LC :: LP :: [(mp, ob)] :: LV :: F)) [] [(0, true), (1, true), (2, true), (3, true), (4, true)] 5 (.L [(6, true), (7, true), (8, true), (9, true), (10, false), (11, true), (12, false), (13, true)]) 10 (.L [(5, false), (6, true), (7, true), (8, true), (9, true), (11, true), (12, false), (13, true)]) mixed (by kernel_rfl) (by rintro c a w ⟨_, _, h, _⟩; cases h) (by rfl) (by kernel_rfl) ?_
 replace hS := hS.drew
 refine zW 3 ((40, vP b 20) :: (39, vP b 0) :: (38, vP b 0) :: _) hA (hS.tail 2 rfl) rfl fun a hA => zY hA (hS.tail 2 rfl) 2 rfl rfl rfl rfl rfl rfl rfl rfl rfl rfl fun a hA => zYA hA (hS.tail 2 rfl) 0 [vU m.to, vU m.rp, vW m.id, vH m.op, vH m.st, vU m.po, vW m.ob, vB m.ri, vU m.ck, vU m.ar, .slice xA m.da.length xc] rfl rfl rfl rfl rfl rfl rfl rfl rfl rfl rfl fun a hA => ?_
 refine dr_fork ?_ ?_
 · refine dr_b (o := _) rfl ?_
   replace hS := hS.m1.m1
   refine st_call0 hA rfl rfl rfl isfn68 rfl rfl (by decide) (take_new68 hS hn.fsr ((m.to : Nat) : Int) ((m.rp : Nat) : Int) ((m.id : Nat) : Int) ((m.op : Nat) : Int) ((m.st : Nat) : Int) ((m.po : Nat) : Int) ((m.ob : Nat) : Int) ((m.ri : Nat) : Int) ((m.ck : Nat) : Int) ((m.ar : Nat) : Int) _ (fnd_of hn.fel hnew) (by have h := map_len9 hn.fel; omega)) ?_
   clear hA hS; rintro _ w6 a ⟨LS2, hs2, rfl, hS⟩ hA
   refine zi (hS.tail 2 rfl) ?_
   refine dr_subL ?_
   refine zW 4 ((46, .nilIface) :: (45, .agg #[.int .u64 0, .int .u64 0, .int .u32 0, .int .u16 0, .int .u16 0, .int .u64 0, .int .u32 0, .int .u8 0, .int .u64 0, .int .u64 0, .slice none 0 0]) :: (44, .int .i64 0) :: (37, .tuple #[.int .i64 0, .agg #[.int .u64 0, .int .u64 0, .int .u32 0, .int .u16 0, .int .u16 0, .int .u64 0, .int .u32 0, .int .u8 0, .int .u64 0, .int .u64 0, .slice none 0 0], .nilIface]) :: _) hA (hS.tail 2 rfl) rfl fun a hA => dr_b (o := _) rfl ?_
   refine st_alloc tbOk hA hS [.int .u64 0, .int .u64 0, .int .u32 0, .int .u16 0, .int .u16 0, .int .u64 0, .int .u32 0, .int .u8 0, .int .u64 0, .int .u64 0, .slice none 0 0] rfl rfl rfl rfl rfl (by decide) fun b7 w8 a hS hA => ?_
   refine zi (hS.tail 3 rfl) (zW 1 ((6, .int .i64 0) :: _) hA (hS.tail 3 rfl) rfl fun a hA => dr_b (o := _) rfl ?_)
   refine st_store tbOk hA hS [.int .u64 0, .int .u64 0, .int .u32 0, .int .u16 0, .int .u16 0, .int .u64 0, .int .u32 0, .int .u8 0, .int .u64 0, .int .u64 0, .slice none 0 0] [.int .u64 0, .int .u64 0, .int .u32 0, .int .u16 0, .int .u16 0, .int .u64 0, .int .u32 0, .int .u8 0, .int .u64 0, .int .u64 0, .slice none 0 0] rfl rfl rfl rfl rfl rfl (zn1 rfl) (zle rfl) rfl rfl rfl fun w9 hS => ?_
   refine zi (hS.tail 3 rfl) (zW 1 ((8, .nilIface) :: _) hA (hS.tail 3 rfl) rfl fun a hA => ze (zx (zs (zb (zs (zs (zr (zR 3 ((47, .bool false) :: (49, .bool false) :: (48, .nilIface) :: _) hA rfl fun a hA => zn (zx (cd_cond_f hA rfl (zr (zR 3 ((47, .bool false) :: (51, .bool false) :: (50, .int .i64 0) :: _) hA rfl fun a hA => zn (zx (cd_cond_f hA rfl (zs (zr (zR 3 ((52, .bool true) :: (54, .bool true) :: (53, .int .i64 0) :: _) hA rfl fun a hA => zn (zx (cd_cond_t hA rfl (zs ?_))))))))))))))))))))
   replace hS := hS.m2.m10
   refine zD3 hS [] [(0, true), (1, true), (2, true), (3, true), (4, true), (5, false), (6, false)] mixed (by kernel_rfl) (by rintro c a w ⟨_, _, h, _⟩; cases h) (by rfl) (by kernel_rfl) ?_
   replace hS := hS.drew
   refine zW 3 ((57, vP b 19) :: (56, vP b 0) :: (55, vP b 0) :: _) hA (hS.tail 3 rfl) rfl fun a hA => zY hA (hS.tail 3 rfl) 3 rfl rfl rfl rfl rfl rfl rfl rfl rfl rfl fun a hA => zYA hA (hS.tail 3 rfl) 1 [vU m.to, vU m.rp, vW m.id, vH m.op, vH m.st, vU m.po, vW m.ob, vB m.ri, vU m.ck, vU m.ar, .slice xA m.da.length xc] rfl rfl rfl rfl rfl rfl rfl rfl rfl rfl rfl fun a hA => dr_b (o := _) rfl ?_
   replace hA := hA.rw 59 (v' := .agg #[vU m.to, vU m.rp, vW m.id, .int .u16 101, vH m.st, vU st.c.port, vW m.ob, .int .u8 255, vU m.ck, vU (p * 4294967296 + n), .slice xA m.da.length xc]) rfl (by first | (rw [hop, hri, hpo, har]; done) | (rw [hop, hri, hpo, har]; rfl))
   replace hS := hS.m1.m1
   refine st_call0 hA rfl rfl rfl isfn69 rfl rfl (by decide) (serve_read69 hS hV _ (by omega) hj hjn hbl hn4 hpn m (by omega) hk7 hk9 hox hos hock) ?_
   clear hA hS; rintro _ w10 a ⟨LV2, E1, A1, c1, hV2, hE1, rfl, hS⟩ hA
   have hX11 : DX w0 D (E1 ++ D) := DX.refl.step
   refine zi (hS.tail 3 rfl) (dr_b (o := _) rfl ?_)
   replace hS := hS.m2
   refine st_store tbOk hA hS [vU m.rp, vU m.to, vW m.id, .int .u16 101, .int .u16 0, .int .u64 0, .int .u32 0, .int .u8 0, .int .u64 0, .int .u64 0, .slice A1 ((bsub bs p n).length) c1] [vU m.rp, vU m.to, vW m.id, .int .u16 101, .int .u16 0, .int .u64 0, .int .u32 0, .int .u8 0, .int .u64 0, .int .u64 0, .slice A1 ((bsub bs p n).length) c1] rfl rfl rfl rfl rfl rfl (zn1 rfl) (zle rfl) rfl rfl rfl fun w12 hS => ?_
   refine zi (hS.tail 3 rfl) (ze (zx ?_))
   replace hS := hS.m2.m3
   refine zD2 hS [] [(0, true), (1, true), (2, true), (3, true), (4, true), (5, true), (6, false)] mixed (by kernel_rfl) (by rintro c a w ⟨_, _, h, _⟩; cases h) (by rfl) (by kernel_rfl) ?_
   replace hS := hS.drew
   refine zW 3 ((63, vP b 20) :: (62, vP b 0) :: (61, vP b 0) :: _) hA (hS.tail 2 rfl) rfl fun a hA => zY hA (hS.tail 2 rfl) 4 rfl rfl rfl rfl rfl rfl rfl rfl rfl rfl fun a hA => zYA hA (hS.tail 2 rfl) 2 [vU m.to, vU m.rp, vW m.id, vH m.op, vH m.st, vU m.po, vW m.ob, vB m.ri, vU m.ck, vU m.ar, .slice xA m.da.length xc] rfl rfl rfl rfl rfl rfl rfl rfl rfl rfl rfl fun a hA => zYA hA (hS.tail 2 rfl) 0 [vU m.rp, vU m.to, vW m.id, .int .u16 101, .int .u16 0, .int .u64 0, .int .u32 0, .int .u8 0, .int .u64 0, .int .u64 0, .slice A1 ((bsub bs p n).length) c1] rfl rfl rfl rfl rfl rfl rfl rfl rfl rfl rfl fun a hA => dr_b (o := _) rfl ?_
   replace hS := hS.m1.m1
   refine st_call0 hA rfl rfl rfl isfn70 rfl rfl (by decide) (reply_ok70 hS hs2 ((m.to : Nat) : Int) ((m.rp : Nat) : Int) ((m.id : Nat) : Int) ((m.op : Nat) : Int) ((m.st : Nat) : Int) ((m.po : Nat) : Int) ((m.ob : Nat) : Int) ((m.ri : Nat) : Int) ((m.ck : Nat) : Int) ((m.ar : Nat) : Int) _ ((m.rp : Nat) : Int) ((m.to : Nat) : Int) ((m.id : Nat) : Int) 101 0 0 0 0 0 0 (bs := bsub bs p n) (DD.rds (F := (E1 ++ D) :: _) (DD.right hE1) 0 rfl) (by rw [bsub_length hpn]; omega) (k := el.length) (x := ((((m.rp : Nat) : Int), ((m.id : Nat) : Int), 1, 0, 0, 0, 0, 0, 0, 0, 0, 0, 0, none, 0, ([] : List UInt8)) : Ent)) last_at (by simp [fnd]) (bef_last (fnd_of hn.fel hnew)) rfl (by have h := map_len9 hn.fel; rw [List.length_append]; show el.length + 1 ≤ _; omega)) ?_
   clear hA hS; rintro _ w13 a ⟨LS3, E2, A2, c2, hs3, hE2, rfl, hS⟩ hA
   have hX14 : DX w0 (E1 ++ D) (E2 ++ (E1 ++ D)) := DX.refl.step
   refine zi (hS.tail 2 rfl) (ze (zm (zx (zs ?_))))
   refine zD0 hS [9, 10, 11] [(0, true), (1, true), (2, true), (3, true), (4, true), (5, true), (6, true), (7, true), (8, false), (9, false), (10, false), (11, false)] mixed (by kernel_rfl) (by rintro c a w ⟨_, _, h, _⟩; cases h) (by rfl) (by kernel_rfl) ?_
   replace hS := hS.drew
   refine zW 1 ((68, vP b 0) :: _) hA hS rfl fun a hA => zYA hA hS 2 [vU m.rp, vU m.to, vW m.id, .int .u16 101, .int .u16 0, .int .u64 0, .int .u32 0, .int .u8 0, .int .u64 0, .int .u64 0, .slice A1 ((bsub bs p n).length) c1] rfl rfl rfl rfl rfl rfl rfl rfl rfl rfl rfl fun a hA => zW 3 ((72, vP b 25) :: (71, vP b 0) :: (70, vP b 0) :: _) hA hS rfl fun a hA => zY hA hS 6 rfl rfl rfl rfl rfl rfl rfl rfl rfl rfl fun a hA => zW 1 ((74, vP b2 1) :: _) hA hS rfl fun a hA => zY hA hS 4 rfl rfl rfl rfl rfl rfl rfl rfl rfl rfl fun a hA => dr_b (o := _) rfl (st_val hA rfl rfl (by decide) (rn_lookup_hit tbOk hA rfl rfl rfl rfl rfl rfl rfl (hS.heapAt 10 rfl) hn.fmp (sdv_at hjs) (sdv_bef hjsn)) fun a hA => zi hS (dr_b (o := _) rfl ?_))
   replace hS := hS.m1.m6
   refine st_call0 hA rfl rfl rfl isfn62 rfl rfl (by decide) (npackets62 (s := st.c) hS ⟨m.rp, m.to, m.id, 101, 0, 0, 0, 0, 0, 0, bsub bs p n⟩ hrok z0 (DD.rds (F := (E2 ++ (E1 ++ D)) :: _) (DD.left (DD.right hE1)) 0 rfl) (by omega) hp1 hp2 hnr) ?_
   clear hA hS; rintro _ w15 a ⟨psq, Aq, cq, Cq, Eq, hOq, hKq, rfl, hS⟩ hA
   have hX16 : DX w0 (E2 ++ (E1 ++ D)) (Eq ++ (E2 ++ (E1 ++ D))) := DX.refl.step
   refine dr_nil (.inl (by decide)) (dr_b (o := _) rfl (zR 1 ((2, .slice Aq psq.length cq) :: _) hA rfl fun a hA => dr_nil (.inl (by decide)) (dr_b (o := _) rfl (zR 1 ((3, .bool true) :: _) hA rfl fun a hA => dr_nil (.inl (by decide)) (ze (zx ?_))))))
   refine wp_ret ?_
   refine ret2 (fn := Tryz.f42) hA rfl rfl rfl ?_
   replace hS := hS.m4.d0.m5.d0.m2.m2.m4.m9.m6.m9.m9.m9.m9.m9
   replace hS : St w0 w15 (((b, rowO [vI st.c.id, vI st.c.ki, vI st.c.no, vI st.c.pc, vI st.c.wa, vI st.c.tr, vI st.c.ag, vI st.c.pg, vI st.c.ro, vP bo 0, .bool true, vI st.c.now, vU (st.c.sent + 1), vU st.c.rep, vU st.c.port, vU st.c.r0, vW st.c.r1, vB st.c.r2, vU st.c.r3, vP bsv 0, vP bd 0, vP bg 0, vP bc 0, vP bp 0, vP bx 0, .map (some mp)] 121) :: (LS3 ++ (LG ++ (LC ++ (LP ++ (LB2 ++ ((mp, ob) :: LV2))))))) :: Cq :: (Eq ++ (E2 ++ (E1 ++ D))) :: F) := hS.cast (by simp)
   exact ⟨_, psq, Aq, cq, Cq, (Eq ++ (E2 ++ (E1 ++ D))), ⟨_, _, _, _, _, _, _, _, _, _, _, _, _, _, _, _, _, _, ⟨hs3, (hn.fgs.dx (hX11.trans (hX14.trans hX16))), hn.fcr, hn.fpm, hb2, hn.fmp, ((SVO.mk hV2).dx (hX14.trans hX16)), (by rw [set_last5]; exact map_snoc9 (y := (⟨m.rp, m.id, 2, ⟨m.rp, m.to, m.id, 101, 0, 0, 0, 0, 0, 0, bsub bs p n⟩⟩ : EA)) hn.fel (by rfl)), (by rw [set_last5]; exact all_snoc9 hn.fed (fun y hy => DX.dd (hX11.trans (hX14.trans hX16)) hy) (DD.left (DD.right hE2))), hn.fcl, ((hX11.trans (hX14.trans hX16)).calls hn.fcd), (by rw [hus]; rfl), (fun z hz => by cases hz), hum, (msg_dx (fun z hz => hn.fpd z (by rw [hul]; exact List.mem_cons_of_mem _ hz)) (hX11.trans (hX14.trans hX16)))⟩, rfl⟩, hOq, ⟨hKq.1, fun x hx => DD.right (hKq.2 x hx)⟩, (hX11.trans (hX14.trans hX16)), rfl, hS⟩
 · refine dr_b (o := _) rfl ?_
   refine st_alloc tbOk hA hS [.int .u64 0, .int .u64 0, .int .u32 0, .int .u16 0, .int .u16 0, .int .u64 0, .int .u32 0, .int .u8 0, .int .u64 0, .int .u64 0, .slice none 0 0] rfl rfl rfl rfl rfl (by decide) fun b17 w18 a hS hA => ?_
   refine zi (hS.tail 3 rfl) ?_
   refine dr_subL ?_
   refine dr_b (o := _) rfl ?_
   replace hS := hS.m2.m2
   refine st_call0 hA rfl rfl rfl isfn68 rfl rfl (by decide) (take_new68 hS hn.fsr ((m.to : Nat) : Int) ((m.rp : Nat) : Int) ((m.id : Nat) : Int) ((m.op : Nat) : Int) ((m.st : Nat) : Int) ((m.po : Nat) : Int) ((m.ob : Nat) : Int) ((m.ri : Nat) : Int) ((m.ck : Nat) : Int) ((m.ar : Nat) : Int) _ (fnd_of hn.fel hnew) (by have h := map_len9 hn.fel; omega)) ?_
   clear hA hS; rintro _ w19 a ⟨LS2, hs2, rfl, hS⟩ hA
   refine zi (hS.tail 3 rfl) (zW 5 ((6, .int .i64 0) :: (46, .nilIface) :: (45, .agg #[.int .u64 0, .int .u64 0, .int .u32 0, .int .u16 0, .int .u16 0, .int .u64 0, .int .u32 0, .int .u8 0, .int .u64 0, .int .u64 0, .slice none 0 0]) :: (44, .int .i64 0) :: (37, .tuple #[.int .i64 0, .agg #[.int .u64 0, .int .u64 0, .int .u32 0, .int .u16 0, .int .u16 0, .int .u64 0, .int .u32 0, .int .u8 0, .int .u64 0, .int .u64 0, .slice none 0 0], .nilIface]) :: _) hA (hS.tail 3 rfl) rfl fun a hA => dr_b (o := _) rfl ?_)
   replace hS := hS.m2
   refine st_store tbOk hA hS [.int .u64 0, .int .u64 0, .int .u32 0, .int .u16 0, .int .u16 0, .int .u64 0, .int .u32 0, .int .u8 0, .int .u64 0, .int .u64 0, .slice none 0 0] [.int .u64 0, .int .u64 0, .int .u32 0, .int .u16 0, .int .u16 0, .int .u64 0, .int .u32 0, .int .u8 0, .int .u64 0, .int .u64 0, .slice none 0 0] rfl rfl rfl rfl rfl rfl (zn1 rfl) (zle rfl) rfl rfl rfl fun w20 hS => ?_
   refine zi (hS.tail 3 rfl) (zW 1 ((8, .nilIface) :: _) hA (hS.tail 3 rfl) rfl fun a hA => ze (zx (zs (zb (zs (zs (zr (zR 3 ((47, .bool false) :: (49, .bool false) :: (48, .nilIface) :: _) hA rfl fun a hA => zn (zx (cd_cond_f hA rfl (zr (zR 3 ((47, .bool false) :: (51, .bool false) :: (50, .int .i64 0) :: _) hA rfl fun a hA => zn (zx (cd_cond_f hA rfl (zs (zr (zR 3 ((52, .bool true) :: (54, .bool true) :: (53, .int .i64 0) :: _) hA rfl fun a hA => zn (zx (cd_cond_t hA rfl (zs ?_))))))))))))))))))))
   replace hS := hS.m2.m10
   refine zD3 hS [] [(0, true), (1, true), (2, true), (3, true), (4, true), (5, false), (6, false)] mixed (by kernel_rfl) (by rintro c a w ⟨_, _, h, _⟩; cases h) (by rfl) (by kernel_rfl) ?_
   replace hS := hS.drew
   refine zW 3 ((57, vP b 19) :: (56, vP b 0) :: (55, vP b 0) :: _) hA (hS.tail 3 rfl) rfl fun a hA => zY hA (hS.tail 3 rfl) 3 rfl rfl rfl rfl rfl rfl rfl rfl rfl rfl fun a hA => zYA hA (hS.tail 3 rfl) 1 [vU m.to, vU m.rp, vW m.id, vH m.op, vH m.st, vU m.po, vW m.ob, vB m.ri, vU m.ck, vU m.ar, .slice xA m.da.length xc] rfl rfl rfl rfl rfl rfl rfl rfl rfl rfl rfl fun a hA => dr_b (o := _) rfl ?_
   replace hA := hA.rw 59 (v' := .agg #[vU m.to, vU m.rp, vW m.id, .int .u16 101, vH m.st, vU st.c.port, vW m.ob, .int .u8 255, vU m.ck, vU (p * 4294967296 + n), .slice xA m.da.length xc]) rfl (by first | (rw [hop, hri, hpo, har]; done) | (rw [hop, hri, hpo, har]; rfl))
   replace hS := hS.m1.m1
   refine st_call0 hA rfl rfl rfl isfn69 rfl rfl (by decide) (serve_read69 hS hV _ (by omega) hj hjn hbl hn4 hpn m (by omega) hk7 hk9 hox hos hock) ?_
   clear hA hS; rintro _ w21 a ⟨LV2, E1, A1, c1, hV2, hE1, rfl, hS⟩ hA
   have hX22 : DX w0 D (E1 ++ D) := DX.refl.step
   refine zi (hS.tail 3 rfl) (dr_b (o := _) rfl ?_)
   replace hS := hS.m2
   refine st_store tbOk hA hS [vU m.rp, vU m.to, vW m.id, .int .u16 101, .int .u16 0, .int .u64 0, .int .u32 0, .int .u8 0, .int .u64 0, .int .u64 0, .slice A1 ((bsub bs p n).length) c1] [vU m.rp, vU m.to, vW m.id, .int .u16 101, .int .u16 0, .int .u64 0, .int .u32 0, .int .u8 0, .int .u64 0, .int .u64 0, .slice A1 ((bsub bs p n).length) c1] rfl rfl rfl rfl rfl rfl (zn1 rfl) (zle rfl) rfl rfl rfl fun w23 hS => ?_
   refine zi (hS.tail 3 rfl) (ze (zx ?_))
   replace hS := hS.m2.m3
   refine zD2 hS [] [(0, true), (1, true), (2, true), (3, true), (4, true), (5, true), (6, false)] mixed (by kernel_rfl) (by rintro c a w ⟨_, _, h, _⟩; cases h) (by rfl) (by kernel_rfl) ?_
   replace hS := hS.drew
   refine zW 3 ((63, vP b 20) :: (62, vP b 0) :: (61, vP b 0) :: _) hA (hS.tail 2 rfl) rfl fun a hA => zY hA (hS.tail 2 rfl) 4 rfl rfl rfl rfl rfl rfl rfl rfl rfl rfl fun a hA => zYA hA (hS.tail 2 rfl) 2 [vU m.to, vU m.rp, vW m.id, vH m.op, vH m.st, vU m.po, vW m.ob, vB m.ri, vU m.ck, vU m.ar, .slice xA m.da.length xc] rfl rfl rfl rfl rfl rfl rfl rfl rfl rfl rfl fun a hA => zYA hA (hS.tail 2 rfl) 0 [vU m.rp, vU m.to, vW m.id, .int .u16 101, .int .u16 0, .int .u64 0, .int .u32 0, .int .u8 0, .int .u64 0, .int .u64 0, .slice A1 ((bsub bs p n).length) c1] rfl rfl rfl rfl rfl rfl rfl rfl rfl rfl rfl fun a hA => dr_b (o := _) rfl ?_
   replace hS := hS.m1.m1
   refine st_call0 hA rfl rfl rfl isfn70 rfl rfl (by decide) (reply_ok70 hS hs2 ((m.to : Nat) : Int) ((m.rp : Nat) : Int) ((m.id : Nat) : Int) ((m.op : Nat) : Int) ((m.st : Nat) : Int) ((m.po : Nat) : Int) ((m.ob : Nat) : Int) ((m.ri : Nat) : Int) ((m.ck : Nat) : Int) ((m.ar : Nat) : Int) _ ((m.rp : Nat) : Int) ((m.to : Nat) : Int) ((m.id : Nat) : Int) 101 0 0 0 0 0 0 (bs := bsub bs p n) (DD.rds (F := (E1 ++ D) :: _) (DD.right hE1) 0 rfl) (by rw [bsub_length hpn]; omega) (k := el.length) (x := ((((m.rp : Nat) : Int), ((m.id : Nat) : Int), 1, 0, 0, 0, 0, 0, 0, 0, 0, 0, 0, none, 0, ([] : List UInt8)) : Ent)) last_at (by simp [fnd]) (bef_last (fnd_of hn.fel hnew)) rfl (by have h := map_len9 hn.fel; rw [List.length_append]; show el.length + 1 ≤ _; omega)) ?_
   clear hA hS; rintro _ w24 a ⟨LS3, E2, A2, c2, hs3, hE2, rfl, hS⟩ hA
   have hX25 : DX w0 (E1 ++ D) (E2 ++ (E1 ++ D)) := DX.refl.step
   refine zi (hS.tail 2 rfl) (ze (zm (zx (zs ?_))))
   refine zD0 hS [9, 10, 11] [(0, true), (1, true), (2, true), (3, true), (4, true), (5, true), (6, true), (7, true), (8, false), (9, false), (10, false), (11, false)] mixed (by kernel_rfl) (by rintro c a w ⟨_, _, h, _⟩; cases h) (by rfl) (by kernel_rfl) ?_
   replace hS := hS.drew
   refine zW 1 ((68, vP b 0) :: _) hA hS rfl fun a hA => zYA hA hS 2 [vU m.rp, vU m.to, vW m.id, .int .u16 101, .int .u16 0, .int .u64 0, .int .u32 0, .int .u8 0, .int .u64 0, .int .u64 0, .slice A1 ((bsub bs p n).length) c1] rfl rfl rfl rfl rfl rfl rfl rfl rfl rfl rfl fun a hA => zW 3 ((72, vP b 25) :: (71, vP b 0) :: (70, vP b 0) :: _) hA hS rfl fun a hA => zY hA hS 6 rfl rfl rfl rfl rfl rfl rfl rfl rfl rfl fun a hA => zW 1 ((74, vP b2 1) :: _) hA hS rfl fun a hA => zY hA hS 4 rfl rfl rfl rfl rfl rfl rfl rfl rfl rfl fun a hA => dr_b (o := _) rfl (st_val hA rfl rfl (by decide) (rn_lookup_hit tbOk hA rfl rfl rfl rfl rfl rfl rfl (hS.heapAt 10 rfl) hn.fmp (sdv_at hjs) (sdv_bef hjsn)) fun a hA => zi hS (dr_b (o := _) rfl ?_))
   replace hS := hS.m1.m6
   refine st_call0 hA rfl rfl rfl isfn62 rfl rfl (by decide) (npackets62 (s := st.c) hS ⟨m.rp, m.to, m.id, 101, 0, 0, 0, 0, 0, 0, bsub bs p n⟩ hrok z0 (DD.rds (F := (E2 ++ (E1 ++ D)) :: _) (DD.left (DD.right hE1)) 0 rfl) (by omega) hp1 hp2 hnr) ?_
   clear hA hS; rintro _ w26 a ⟨psq, Aq, cq, Cq, Eq, hOq, hKq, rfl, hS⟩ hA
   have hX27 : DX w0 (E2 ++ (E1 ++ D)) (Eq ++ (E2 ++ (E1 ++ D))) := DX.refl.step
   refine dr_nil (.inl (by decide)) (dr_b (o := _) rfl (zR 1 ((2, .slice Aq psq.length cq) :: _) hA rfl fun a hA => dr_nil (.inl (by decide)) (dr_b (o := _) rfl (zR 1 ((3, .bool true) :: _) hA rfl fun a hA => dr_nil (.inl (by decide)) (ze (zx ?_))))))
   refine wp_ret ?_
   refine ret2 (fn := Tryz.f42) hA rfl rfl rfl ?_
   replace hS := hS.m4.d0.m5.d0.m2.m2.m4.m9.m6.m9.m9.m9.m9.m9
   replace hS : St w0 w26 (((b, rowO [vI st.c.id, vI st.c.ki, vI st.c.no, vI st.c.pc, vI st.c.wa, vI st.c.tr, vI st.c.ag, vI st.c.pg, vI st.c.ro, vP bo 0, .bool true, vI st.c.now, vU (st.c.sent + 1), vU st.c.rep, vU st.c.port, vU st.c.r0, vW st.c.r1, vB st.c.r2, vU st.c.r3, vP bsv 0, vP bd 0, vP bg 0, vP bc 0, vP bp 0, vP bx 0, .map (some mp)] 121) :: (LS3 ++ (LG ++ (LC ++ (LP ++ (LB2 ++ ((mp, ob) :: LV2))))))) :: Cq :: (Eq ++ (E2 ++ (E1 ++ D))) :: F) := hS.cast (by simp)
   exact ⟨_, psq, Aq, cq, Cq, (Eq ++ (E2 ++ (E1 ++ D))), ⟨_, _, _, _, _, _, _, _, _, _, _, _, _, _, _, _, _, _, ⟨hs3, (hn.fgs.dx (hX22.trans (hX25.trans hX27))), hn.fcr, hn.fpm, hb2, hn.fmp, ((SVO.mk hV2).dx (hX25.trans hX27)), (by rw [set_last5]; exact map_snoc9 (y := (⟨m.rp, m.id, 2, ⟨m.rp, m.to, m.id, 101, 0, 0, 0, 0, 0, 0, bsub bs p n⟩⟩ : EA)) hn.fel (by rfl)), (by rw [set_last5]; exact all_snoc9 hn.fed (fun y hy => DX.dd (hX22.trans (hX25.trans hX27)) hy) (DD.left (DD.right hE2))), hn.fcl, ((hX22.trans (hX25.trans hX27)).calls hn.fcd), (by rw [hus]; rfl), (fun z hz => by cases hz), hum, (msg_dx (fun z hz => hn.fpd z (by rw [hul]; exact List.mem_cons_of_mem _ hz)) (hX22.trans (hX25.trans hX27)))⟩, rfl⟩, hOq, ⟨hKq.1, fun x hx => DD.right (hKq.2 x hx)⟩, (hX22.trans (hX25.trans hX27)), rfl, hS⟩
end Go.Proofs.YthiakdmhpfkjbaaGreatDoor

set_option linter.unusedVariables false
set_option linter.unusedSimpArgs false
set_option maxRecDepth 4000
namespace Go.Proofs.YthiakdmhpfkjbaaGreatDoor
open Go Go.SK
theorem node_of28 {w0 w : World} {F : List Chunk} (hS : St w0 w F) (s : NC) (bo : Nat) :
 Ret Tryz.prog 28 #[vI s.id, vI s.ki, .agg #[vI s.no, vI s.pc, vI s.wa, vI s.tr, vI s.ag, vI s.pg, vI s.ro], vP bo 0] w (fun v w' => ∃ b, v = vP b 0 ∧ St w0 w' ([(b, rowO [vI s.id, vI s.ki, vI s.no, vI s.pc, vI s.wa, vI s.tr, vI s.ag, vI s.pg, vI s.ro, vP bo 0, .bool false, .int .i64 0, .int .u64 0, .int .u64 0, .int .u64 0, .int .u64 0, .int .u32 0, .int .u8 0, .int .u64 0, .pointer none, .pointer none, .pointer none, .pointer none, .pointer none, .pointer none, .map none] 121)] :: F)) := by
 refine enter (vs := [vI s.id, vI s.ki, .agg #[vI s.no, vI s.pc, vI s.wa, vI s.tr, vI s.ag, vI s.pg, vI s.ro], vP bo 0]) 15 Tryz.func28 rfl rfl (by simp) ?_; intro a hA
 refine zs (zr ?_)
 refine st_box hA hS [vI s.no, vI s.pc, vI s.wa, vI s.tr, vI s.ag, vI s.pg, vI s.ro] rfl rfl rfl rfl rfl (by decide) fun b1 w2 a hS hA => ?_
 refine zR 1 ((8, .pointer none) :: _) hA rfl fun a hA => zn (zx (zs (zr (zR 2 ((10, vI s.ki) :: (9, vI s.id) :: _) hA rfl fun a hA => zLA hA hS 0 [vI s.no, vI s.pc, vI s.wa, vI s.tr, vI s.ag, vI s.pg, vI s.ro] rfl rfl rfl rfl rfl rfl rfl rfl rfl rfl fun a hA => zR 1 ((12, vP bo 0) :: _) hA rfl fun a hA => st_val hA rfl rfl (by decide) (rn_build tbOk hA rfl rfl rfl rfl rfl rfl rfl) fun a hA => ?_))))
 refine st_box hA hS [vI s.id, vI s.ki, vI s.no, vI s.pc, vI s.wa, vI s.tr, vI s.ag, vI s.pg, vI s.ro, vP bo 0, .bool false, .int .i64 0, .int .u64 0, .int .u64 0, .int .u64 0, .int .u64 0, .int .u32 0, .int .u8 0, .int .u64 0, .pointer none, .pointer none, .pointer none, .pointer none, .pointer none, .pointer none, .map none] rfl rfl rfl rfl rfl (by decide) fun b3 w4 a hS hA => ?_
 refine zR 1 ((8, vP b3 0) :: _) hA rfl fun a hA => zn (zx ?_)
 refine wp_ret ?_
 refine ret1 (fn := Tryz.f28) hA rfl rfl ?_
 replace hS := hS.m1.d0
 exact ⟨_, rfl, hS⟩
set_option maxHeartbeats 4000000 in
theorem nserve1_50 {w0 w : World} {F : List Chunk} {b bo rp g po x : Nat} {s : NC} {D : Chunk} {O : Chunk} {en : List (Nat × Nat × Nat)} {ts : List Nat} {k : Nat} (hS : St w0 w ([(b, rowO [vI s.id, .int .i64 1, vI s.no, vI s.pc, vI s.wa, vI s.tr, vI s.ag, .int .i64 10, vI s.ro, vP bo 0, .bool false, vI s.now, vU s.sent, vU rp, .int .u64 0, .int .u64 0, .int .u32 0, .int .u8 0, .int .u64 0, .pointer none, .pointer none, .pointer none, .pointer none, .pointer none, .pointer none, .map none] 121)] :: O :: F)) (hO : ORR bo en ts k O) (hx0 : ts[k]? = some g) (hx1 : ts[k + 1]? = some po) (hx2 : ts[k + 1 + 1]? = some x) (hg : g < 281474976710656) (hno : ∀ x ∈ en, ¬ (x.1 = 0 ∧ x.2.1 = g % 281474976710656)) (hel : en.length ≤ 1000) :
 Ret Tryz.prog 50 #[vP b 0] w (fun v w' => ∃ sv LV O', SVO w0 bo po .other sv LV D ∧ ORR bo (en ++ [(0, g % 281474976710656, po)]) ts (k + 1 + 1 + 1) O' ∧ v = .nilIface ∧ St w0 w' ([(b, rowO [vI s.id, .int .i64 1, vI s.no, vI s.pc, vI s.wa, vI s.tr, vI s.ag, .int .i64 10, vI s.ro, vP bo 0, .bool false, vI s.now, vU s.sent, vU rp, vU po, vU po, .int .u32 0, .int .u8 255, vU x, sv, .pointer none, .pointer none, .pointer none, .pointer none, .pointer none, .map none] 121)] :: LV :: O' :: F)) := by
 refine enter (vs := [vP b 0]) 96 Tryz.func50 rfl rfl (by simp) ?_; intro a hA
 refine zs (zr (zR 1 ((2, .nilIface) :: _) hA rfl fun a hA => zn (zx (zs (zr (zR 3 ((10, vP b 9) :: (9, vP b 0) :: (8, vP b 0) :: _) hA rfl fun a hA => zL hA hS 0 rfl rfl rfl rfl rfl rfl rfl rfl rfl fun a hA => ?_))))))
 replace hS := hS.m1
 refine st_call0 hA rfl rfl rfl isfn48 rfl rfl (by decide) (odraw48 hS hO (x := g) hx0) ?_
 clear hA hS; rintro _ w1 a ⟨O2, hO3, rfl, hS⟩ hA
 refine zR 5 ((4, .nilIface) :: (3, vU g) :: (14, .nilIface) :: (13, vU g) :: (7, .tuple #[vU g, .nilIface]) :: _) hA rfl fun a hA => zn (zx (zs (zs (zr (zR 2 ((16, .bool false) :: (15, .nilIface) :: _) hA rfl fun a hA => zn (zx (cd_cond_f hA rfl (zk (zx (zs (zr (zR 3 ((21, vP b 9) :: (20, vP b 0) :: (19, vP b 0) :: _) hA rfl fun a hA => zL hA hS 1 rfl rfl rfl rfl rfl rfl rfl rfl rfl fun a hA => zR 1 ((23, vU g) :: _) hA rfl fun a hA => ?_))))))))))))
 refine st_call0 hA rfl rfl rfl isfn49 rfl rfl (by decide) (tport49 hS hO3 g (by omega) hno (x := po) hx1 (by omega)) ?_
 clear hA hS; rintro _ w4 a ⟨O5, hO6, rfl, hS⟩ hA
 refine zR 5 ((4, .nilIface) :: (5, vU po) :: (26, .nilIface) :: (25, vU po) :: (18, .tuple #[vU po, .nilIface]) :: _) hA rfl fun a hA => zn (zx (zs (zs (zr (zR 2 ((28, .bool false) :: (27, .nilIface) :: _) hA rfl fun a hA => zn (zx (cd_cond_f hA rfl (zk (zx (zs (zr (zR 4 ((33, vP b 9) :: (32, vP b 0) :: (31, vP b 0) :: (30, vU po) :: _) hA rfl fun a hA => zL hA hS 1 rfl rfl rfl rfl rfl rfl rfl rfl rfl fun a hA => ?_))))))))))))
 refine st_call0 hA rfl rfl rfl isfn78 rfl rfl (by decide) (obj_of78 hS po bo) ?_
 clear hA hS; rintro _ w7 a ⟨bt, LT, hT, rfl, hS⟩ hA
 refine zR 1 ((6, vP bt 0) :: _) hA rfl fun a hA => zn (zx (zs (zs (zr (zR 3 ((38, vP b 1) :: (37, vP b 0) :: (36, vP b 0) :: _) hA rfl fun a hA => zL hA hS 2 rfl rfl rfl rfl rfl rfl rfl rfl rfl fun a hA => zn (zx (zb (zs (zr (zR 2 ((52, .bool true) :: (53, .bool true) :: _) hA rfl fun a hA => zn (zx (cd_cond_t hA rfl (zr (zR 7 ((61, vP b 7) :: (60, vP b 2) :: (59, vP b 0) :: (58, vP b 0) :: (57, vP bt 0) :: (56, vP b 0) :: (55, vP b 0) :: _) hA rfl fun a hA => zL hA hS 2 rfl rfl rfl rfl rfl rfl rfl rfl rfl fun a hA => ?_))))))))))))))
 replace hS := hS.m1.m1
 refine st_call0 hA rfl rfl rfl isfn79 rfl rfl (by decide) (mem_of79 hS hT hO6 (x := x) hx2) ?_
 clear hA hS; rintro _ w8 a ⟨bs, LV, O9, rfl, hO9, hS⟩ hA
 refine zR 6 ((68, vP b 19) :: (67, vP b 0) :: (66, .nilIface) :: (65, .agg #[vU po, .int .u32 0, .int .u8 255, vU x]) :: (64, vP bs 0) :: (54, .tuple #[vP bs 0, .agg #[vU po, .int .u32 0, .int .u8 255, vU x], .nilIface]) :: _) hA rfl fun a hA => ?_
 replace hS := hS.m2
 refine st_store tbOk hA hS [vP bs 0] [vI s.id, .int .i64 1, vI s.no, vI s.pc, vI s.wa, vI s.tr, vI s.ag, .int .i64 10, vI s.ro, vP bo 0, .bool false, vI s.now, vU s.sent, vU rp, .int .u64 0, .int .u64 0, .int .u32 0, .int .u8 0, .int .u64 0, vP bs 0, .pointer none, .pointer none, .pointer none, .pointer none, .pointer none, .map none] rfl rfl rfl rfl rfl rfl (by intro u hu; rw [List.mem_singleton.1 hu]; rfl) (zle rfl) rfl rfl rfl fun w9 hS => ?_
 refine zR 2 ((70, vP b 15) :: (69, vP b 0) :: _) hA rfl fun a hA => ?_
 refine st_store tbOk hA hS [vU po, .int .u32 0, .int .u8 255, vU x] [vI s.id, .int .i64 1, vI s.no, vI s.pc, vI s.wa, vI s.tr, vI s.ag, .int .i64 10, vI s.ro, vP bo 0, .bool false, vI s.now, vU s.sent, vU rp, .int .u64 0, vU po, .int .u32 0, .int .u8 255, vU x, vP bs 0, .pointer none, .pointer none, .pointer none, .pointer none, .pointer none, .map none] rfl rfl rfl rfl rfl rfl (zn1 rfl) (zle rfl) rfl rfl rfl fun w10 hS => ?_
 refine zR 1 ((4, .nilIface) :: _) hA rfl fun a hA => zn (zm (zx (zs (zs (zr (zR 2 ((90, .bool true) :: (89, .nilIface) :: _) hA rfl fun a hA => zn (zx (cd_cond_t hA rfl (zr (zR 4 ((94, vP b 14) :: (93, vP b 0) :: (92, vU po) :: (91, vP b 0) :: _) hA rfl fun a hA => ?_))))))))))
 refine st_store tbOk hA hS [vU po] [vI s.id, .int .i64 1, vI s.no, vI s.pc, vI s.wa, vI s.tr, vI s.ag, .int .i64 10, vI s.ro, vP bo 0, .bool false, vI s.now, vU s.sent, vU rp, vU po, vU po, .int .u32 0, .int .u8 255, vU x, vP bs 0, .pointer none, .pointer none, .pointer none, .pointer none, .pointer none, .map none] rfl rfl rfl rfl rfl rfl (by intro u hu; rw [List.mem_singleton.1 hu]; rfl) (zle rfl) rfl rfl rfl fun w11 hS => ?_
 refine zn (zx (zs (zr (zR 2 ((2, .nilIface) :: (95, .nilIface) :: _) hA rfl fun a hA => zn (zx ?_)))))
 refine wp_ret ?_
 refine ret1 (fn := Tryz.f50) hA rfl rfl ?_
 replace hS := hS.m2.m2.m2
 exact ⟨_, _, O9, ⟨bs, rfl⟩, hO9, rfl, hS⟩
set_option maxHeartbeats 4000000 in
theorem nserve2_50 {w0 w : World} {F : List Chunk} {b bo rp g po x : Nat} {s : NC} {D : Chunk} {O : Chunk} {en : List (Nat × Nat × Nat)} {ts : List Nat} {k : Nat} (hS : St w0 w ([(b, rowO [vI s.id, .int .i64 2, vI s.no, vI s.pc, vI s.wa, vI s.tr, vI s.ag, vI s.pg, vI s.ro, vP bo 0, .bool false, vI s.now, vU s.sent, vU rp, .int .u64 0, .int .u64 0, .int .u32 0, .int .u8 0, .int .u64 0, .pointer none, .pointer none, .pointer none, .pointer none, .pointer none, .pointer none, .map none] 121)] :: O :: F)) (hO : ORR bo en ts k O) (hx0 : ts[k]? = some g) (hx1 : ts[k + 1]? = some po) (hx2 : ts[k + 1 + 1]? = some x) (hg : g < 281474976710656) (hno : ∀ x ∈ en, ¬ (x.1 = 0 ∧ x.2.1 = g % 281474976710656)) (hel : en.length ≤ 1000) :
 Ret Tryz.prog 50 #[vP b 0] w (fun v w' => ∃ sv LV O', SVO w0 bo po .other sv LV D ∧ ORR bo (en ++ [(0, g % 281474976710656, po)]) ts (k + 1 + 1 + 1) O' ∧ v = .nilIface ∧ St w0 w' ([(b, rowO [vI s.id, .int .i64 2, vI s.no, vI s.pc, vI s.wa, vI s.tr, vI s.ag, vI s.pg, vI s.ro, vP bo 0, .bool false, vI s.now, vU s.sent, vU rp, vU po, vU po, .int .u32 0, .int .u8 255, vU x, sv, .pointer none, .pointer none, .pointer none, .pointer none, .pointer none, .map none] 121)] :: LV :: O' :: F)) := by
 refine enter (vs := [vP b 0]) 96 Tryz.func50 rfl rfl (by simp) ?_; intro a hA
 refine zs (zr (zR 1 ((2, .nilIface) :: _) hA rfl fun a hA => zn (zx (zs (zr (zR 3 ((10, vP b 9) :: (9, vP b 0) :: (8, vP b 0) :: _) hA rfl fun a hA => zL hA hS 0 rfl rfl rfl rfl rfl rfl rfl rfl rfl fun a hA => ?_))))))
 replace hS := hS.m1
 refine st_call0 hA rfl rfl rfl isfn48 rfl rfl (by decide) (odraw48 hS hO (x := g) hx0) ?_
 clear hA hS; rintro _ w1 a ⟨O2, hO3, rfl, hS⟩ hA
 refine zR 5 ((4, .nilIface) :: (3, vU g) :: (14, .nilIface) :: (13, vU g) :: (7, .tuple #[vU g, .nilIface]) :: _) hA rfl fun a hA => zn (zx (zs (zs (zr (zR 2 ((16, .bool false) :: (15, .nilIface) :: _) hA rfl fun a hA => zn (zx (cd_cond_f hA rfl (zk (zx (zs (zr (zR 3 ((21, vP b 9) :: (20, vP b 0) :: (19, vP b 0) :: _) hA rfl fun a hA => zL hA hS 1 rfl rfl rfl rfl rfl rfl rfl rfl rfl fun a hA => zR 1 ((23, vU g) :: _) hA rfl fun a hA => ?_))))))))))))
 refine st_call0 hA rfl rfl rfl isfn49 rfl rfl (by decide) (tport49 hS hO3 g (by omega) hno (x := po) hx1 (by omega)) ?_
 clear hA hS; rintro _ w4 a ⟨O5, hO6, rfl, hS⟩ hA
 refine zR 5 ((4, .nilIface) :: (5, vU po) :: (26, .nilIface) :: (25, vU po) :: (18, .tuple #[vU po, .nilIface]) :: _) hA rfl fun a hA => zn (zx (zs (zs (zr (zR 2 ((28, .bool false) :: (27, .nilIface) :: _) hA rfl fun a hA => zn (zx (cd_cond_f hA rfl (zk (zx (zs (zr (zR 4 ((33, vP b 9) :: (32, vP b 0) :: (31, vP b 0) :: (30, vU po) :: _) hA rfl fun a hA => zL hA hS 1 rfl rfl rfl rfl rfl rfl rfl rfl rfl fun a hA => ?_))))))))))))
 refine st_call0 hA rfl rfl rfl isfn78 rfl rfl (by decide) (obj_of78 hS po bo) ?_
 clear hA hS; rintro _ w7 a ⟨bt, LT, hT, rfl, hS⟩ hA
 refine zR 1 ((6, vP bt 0) :: _) hA rfl fun a hA => zn (zx (zs (zs (zr (zR 3 ((38, vP b 1) :: (37, vP b 0) :: (36, vP b 0) :: _) hA rfl fun a hA => zL hA hS 2 rfl rfl rfl rfl rfl rfl rfl rfl rfl fun a hA => zn (zx (zb (zs (zr (zR 2 ((52, .bool false) :: (53, .bool false) :: _) hA rfl fun a hA => zn (zx (cd_cond_f hA rfl (zs (zr (zR 2 ((71, .bool true) :: (72, .bool true) :: _) hA rfl fun a hA => zn (zx (cd_cond_t hA rfl (zr (zR 6 ((79, vP b 9) :: (78, vP b 0) :: (77, vP b 0) :: (76, vP bt 0) :: (75, vP b 0) :: (74, vP b 0) :: _) hA rfl fun a hA => zL hA hS 2 rfl rfl rfl rfl rfl rfl rfl rfl rfl fun a hA => ?_)))))))))))))))))))
 replace hS := hS.m1.m1
 refine st_call0 hA rfl rfl rfl isfn80 rfl rfl (by decide) (dir_of80 hS hT hO6 (x := x) hx2) ?_
 clear hA hS; rintro _ w8 a ⟨bs, LV, O9, rfl, hO9, hS⟩ hA
 refine zR 6 ((86, vP b 19) :: (85, vP b 0) :: (84, .nilIface) :: (83, .agg #[vU po, .int .u32 0, .int .u8 255, vU x]) :: (82, vP bs 0) :: (73, .tuple #[vP bs 0, .agg #[vU po, .int .u32 0, .int .u8 255, vU x], .nilIface]) :: _) hA rfl fun a hA => ?_
 replace hS := hS.m2
 refine st_store tbOk hA hS [vP bs 0] [vI s.id, .int .i64 2, vI s.no, vI s.pc, vI s.wa, vI s.tr, vI s.ag, vI s.pg, vI s.ro, vP bo 0, .bool false, vI s.now, vU s.sent, vU rp, .int .u64 0, .int .u64 0, .int .u32 0, .int .u8 0, .int .u64 0, vP bs 0, .pointer none, .pointer none, .pointer none, .pointer none, .pointer none, .map none] rfl rfl rfl rfl rfl rfl (by intro u hu; rw [List.mem_singleton.1 hu]; rfl) (zle rfl) rfl rfl rfl fun w9 hS => ?_
 refine zR 2 ((88, vP b 15) :: (87, vP b 0) :: _) hA rfl fun a hA => ?_
 refine st_store tbOk hA hS [vU po, .int .u32 0, .int .u8 255, vU x] [vI s.id, .int .i64 2, vI s.no, vI s.pc, vI s.wa, vI s.tr, vI s.ag, vI s.pg, vI s.ro, vP bo 0, .bool false, vI s.now, vU s.sent, vU rp, .int .u64 0, vU po, .int .u32 0, .int .u8 255, vU x, vP bs 0, .pointer none, .pointer none, .pointer none, .pointer none, .pointer none, .map none] rfl rfl rfl rfl rfl rfl (zn1 rfl) (zle rfl) rfl rfl rfl fun w10 hS => ?_
 refine zR 1 ((4, .nilIface) :: _) hA rfl fun a hA => zn (zm (zx (zs (zs (zr (zR 2 ((90, .bool true) :: (89, .nilIface) :: _) hA rfl fun a hA => zn (zx (cd_cond_t hA rfl (zr (zR 4 ((94, vP b 14) :: (93, vP b 0) :: (92, vU po) :: (91, vP b 0) :: _) hA rfl fun a hA => ?_))))))))))
 refine st_store tbOk hA hS [vU po] [vI s.id, .int .i64 2, vI s.no, vI s.pc, vI s.wa, vI s.tr, vI s.ag, vI s.pg, vI s.ro, vP bo 0, .bool false, vI s.now, vU s.sent, vU rp, vU po, vU po, .int .u32 0, .int .u8 255, vU x, vP bs 0, .pointer none, .pointer none, .pointer none, .pointer none, .pointer none, .map none] rfl rfl rfl rfl rfl rfl (by intro u hu; rw [List.mem_singleton.1 hu]; rfl) (zle rfl) rfl rfl rfl fun w11 hS => ?_
 refine zn (zx (zs (zr (zR 2 ((2, .nilIface) :: (95, .nilIface) :: _) hA rfl fun a hA => zn (zx ?_)))))
 refine wp_ret ?_
 refine ret1 (fn := Tryz.f50) hA rfl rfl ?_
 replace hS := hS.m2.m2.m2
 exact ⟨_, _, O9, ⟨bs, rfl⟩, hO9, rfl, hS⟩
set_option maxHeartbeats 4000000 in
theorem nserve3_50 {w0 w : World} {F : List Chunk} {b bo rp g po x : Nat} {s : NC} {D : Chunk} {O : Chunk} {en : List (Nat × Nat × Nat)} {ts : List Nat} {k : Nat} (hS : St w0 w ([(b, rowO [vI s.id, .int .i64 3, vI s.no, vI s.pc, vI s.wa, vI s.tr, vI s.ag, vI s.pg, vI s.ro, vP bo 0, .bool false, vI s.now, vU s.sent, vU rp, .int .u64 0, .int .u64 0, .int .u32 0, .int .u8 0, .int .u64 0, .pointer none, .pointer none, .pointer none, .pointer none, .pointer none, .pointer none, .map none] 121)] :: O :: F)) (hO : ORR bo en ts k O) (hx0 : ts[k]? = some g) (hx1 : ts[k + 1]? = some po) (hx2 : ts[k + 1 + 1]? = some x) (hg : g < 281474976710656) (hno : ∀ x ∈ en, ¬ (x.1 = 0 ∧ x.2.1 = g % 281474976710656)) (hel : en.length ≤ 1000) :
 Ret Tryz.prog 50 #[vP b 0] w (fun v w' => ∃ sv LV O', SVO w0 bo po (.file [(true, x, 0, -1, 24)] [] 0 0) sv LV D ∧ ORR bo (en ++ [(0, g % 281474976710656, po)]) ts (k + 1 + 1 + 1) O' ∧ v = .nilIface ∧ St w0 w' ([(b, rowO [vI s.id, .int .i64 3, vI s.no, vI s.pc, vI s.wa, vI s.tr, vI s.ag, vI s.pg, vI s.ro, vP bo 0, .bool false, vI s.now, vU s.sent, vU rp, vU po, vU po, .int .u32 0, .int .u8 255, vU x, sv, .pointer none, .pointer none, .pointer none, .pointer none, .pointer none, .map none] 121)] :: LV :: O' :: F)) := by
 refine enter (vs := [vP b 0]) 96 Tryz.func50 rfl rfl (by simp) ?_; intro a hA
 refine zs (zr (zR 1 ((2, .nilIface) :: _) hA rfl fun a hA => zn (zx (zs (zr (zR 3 ((10, vP b 9) :: (9, vP b 0) :: (8, vP b 0) :: _) hA rfl fun a hA => zL hA hS 0 rfl rfl rfl rfl rfl rfl rfl rfl rfl fun a hA => ?_))))))
 replace hS := hS.m1
 refine st_call0 hA rfl rfl rfl isfn48 rfl rfl (by decide) (odraw48 hS hO (x := g) hx0) ?_
 clear hA hS; rintro _ w1 a ⟨O2, hO3, rfl, hS⟩ hA
 refine zR 5 ((4, .nilIface) :: (3, vU g) :: (14, .nilIface) :: (13, vU g) :: (7, .tuple #[vU g, .nilIface]) :: _) hA rfl fun a hA => zn (zx (zs (zs (zr (zR 2 ((16, .bool false) :: (15, .nilIface) :: _) hA rfl fun a hA => zn (zx (cd_cond_f hA rfl (zk (zx (zs (zr (zR 3 ((21, vP b 9) :: (20, vP b 0) :: (19, vP b 0) :: _) hA rfl fun a hA => zL hA hS 1 rfl rfl rfl rfl rfl rfl rfl rfl rfl fun a hA => zR 1 ((23, vU g) :: _) hA rfl fun a hA => ?_))))))))))))
 refine st_call0 hA rfl rfl rfl isfn49 rfl rfl (by decide) (tport49 hS hO3 g (by omega) hno (x := po) hx1 (by omega)) ?_
 clear hA hS; rintro _ w4 a ⟨O5, hO6, rfl, hS⟩ hA
 refine zR 5 ((4, .nilIface) :: (5, vU po) :: (26, .nilIface) :: (25, vU po) :: (18, .tuple #[vU po, .nilIface]) :: _) hA rfl fun a hA => zn (zx (zs (zs (zr (zR 2 ((28, .bool false) :: (27, .nilIface) :: _) hA rfl fun a hA => zn (zx (cd_cond_f hA rfl (zk (zx (zs (zr (zR 4 ((33, vP b 9) :: (32, vP b 0) :: (31, vP b 0) :: (30, vU po) :: _) hA rfl fun a hA => zL hA hS 1 rfl rfl rfl rfl rfl rfl rfl rfl rfl fun a hA => ?_))))))))))))
 refine st_call0 hA rfl rfl rfl isfn78 rfl rfl (by decide) (obj_of78 hS po bo) ?_
 clear hA hS; rintro _ w7 a ⟨bt, LT, hT, rfl, hS⟩ hA
 refine zR 1 ((6, vP bt 0) :: _) hA rfl fun a hA => zn (zx (zs (zs (zr (zR 3 ((38, vP b 1) :: (37, vP b 0) :: (36, vP b 0) :: _) hA rfl fun a hA => zL hA hS 2 rfl rfl rfl rfl rfl rfl rfl rfl rfl fun a hA => zn (zx (zb (zs (zr (zR 2 ((52, .bool false) :: (53, .bool false) :: _) hA rfl fun a hA => zn (zx (cd_cond_f hA rfl (zs (zr (zR 2 ((71, .bool false) :: (72, .bool false) :: _) hA rfl fun a hA => zn (zx (cd_cond_f hA rfl (zr (zR 3 ((43, vP bt 0) :: (42, vP b 0) :: (41, vP b 0) :: _) hA rfl fun a hA => ?_)))))))))))))))))))
 replace hS := hS.m1.m1
 refine st_call0 hA rfl rfl rfl isfn81 rfl rfl (by decide) (file_of81 (D := D) hS hT hO6 (x := x) hx2) ?_
 clear hA hS; rintro _ w8 a ⟨bs, bf, LV0, O9, hV, hO9, rfl, hS⟩ hA
 refine zR 6 ((49, vP b 19) :: (48, vP b 0) :: (47, .nilIface) :: (46, .agg #[vU po, .int .u32 0, .int .u8 255, vU x]) :: (45, vP bs 0) :: (40, .tuple #[vP bs 0, .agg #[vU po, .int .u32 0, .int .u8 255, vU x], .nilIface]) :: _) hA rfl fun a hA => ?_
 replace hS := hS.m2
 refine st_store tbOk hA hS [vP bs 0] [vI s.id, .int .i64 3, vI s.no, vI s.pc, vI s.wa, vI s.tr, vI s.ag, vI s.pg, vI s.ro, vP bo 0, .bool false, vI s.now, vU s.sent, vU rp, .int .u64 0, .int .u64 0, .int .u32 0, .int .u8 0, .int .u64 0, vP bs 0, .pointer none, .pointer none, .pointer none, .pointer none, .pointer none, .map none] rfl rfl rfl rfl rfl rfl (by intro u hu; rw [List.mem_singleton.1 hu]; rfl) (zle rfl) rfl rfl rfl fun w9 hS => ?_
 refine zR 2 ((51, vP b 15) :: (50, vP b 0) :: _) hA rfl fun a hA => ?_
 refine st_store tbOk hA hS [vU po, .int .u32 0, .int .u8 255, vU x] [vI s.id, .int .i64 3, vI s.no, vI s.pc, vI s.wa, vI s.tr, vI s.ag, vI s.pg, vI s.ro, vP bo 0, .bool false, vI s.now, vU s.sent, vU rp, .int .u64 0, vU po, .int .u32 0, .int .u8 255, vU x, vP bs 0, .pointer none, .pointer none, .pointer none, .pointer none, .pointer none, .map none] rfl rfl rfl rfl rfl rfl (zn1 rfl) (zle rfl) rfl rfl rfl fun w10 hS => ?_
 refine zR 1 ((4, .nilIface) :: _) hA rfl fun a hA => zn (zm (zx (zs (zs (zr (zR 2 ((90, .bool true) :: (89, .nilIface) :: _) hA rfl fun a hA => zn (zx (cd_cond_t hA rfl (zr (zR 4 ((94, vP b 14) :: (93, vP b 0) :: (92, vU po) :: (91, vP b 0) :: _) hA rfl fun a hA => ?_))))))))))
 refine st_store tbOk hA hS [vU po] [vI s.id, .int .i64 3, vI s.no, vI s.pc, vI s.wa, vI s.tr, vI s.ag, vI s.pg, vI s.ro, vP bo 0, .bool false, vI s.now, vU s.sent, vU rp, vU po, vU po, .int .u32 0, .int .u8 255, vU x, vP bs 0, .pointer none, .pointer none, .pointer none, .pointer none, .pointer none, .map none] rfl rfl rfl rfl rfl rfl (by intro u hu; rw [List.mem_singleton.1 hu]; rfl) (zle rfl) rfl rfl rfl fun w11 hS => ?_
 refine zn (zx (zs (zr (zR 2 ((2, .nilIface) :: (95, .nilIface) :: _) hA rfl fun a hA => zn (zx ?_)))))
 refine wp_ret ?_
 refine ret1 (fn := Tryz.f50) hA rfl rfl ?_
 replace hS := hS.m2.m2.m2
 exact ⟨_, _, O9, ⟨bs, rfl, ⟨bf, bt, LV0, hV, rfl⟩⟩, hO9, rfl, hS⟩
end Go.Proofs.YthiakdmhpfkjbaaGreatDoor

set_option linter.unusedVariables false
set_option linter.unusedSimpArgs false
set_option maxRecDepth 4000
namespace Go.Proofs.YthiakdmhpfkjbaaGreatDoor
open Go Go.SK
theorem DX.bot {w0 : World} {D : Chunk} : DX w0 [] D := fun w' h => h.drop1.nil
theorem max1 {n : Nat} (h : 1 ≤ n) : (if ((n : Nat) : Int) > 1 then ((n : Nat) : Int) else 1) = ((n : Nat) : Int) := by split <;> omega
end Go.Proofs.YthiakdmhpfkjbaaGreatDoor

set_option linter.unusedVariables false
set_option linter.unusedSimpArgs false
set_option maxRecDepth 4000
namespace Go.Proofs.YthiakdmhpfkjbaaGreatDoor
open Go Go.SK
set_option maxHeartbeats 8000000 in
theorem nbootX_29 {w0 w : World} {F : List Chunk} {b bo : Nat} {s : NC} {D : Chunk} {kn pn : Nat} {O : Chunk} {en : List (Nat × Nat × Nat)} {ts : List Nat} {k : Nat} (hS : St w0 w ([(b, rowO [vI s.id, vI kn, vI s.no, vI s.pc, vI s.wa, vI s.tr, vI s.ag, vI pn, vI s.ro, vP bo 0, .bool false, vI s.now, vU s.sent, .int .u64 0, .int .u64 0, .int .u64 0, .int .u32 0, .int .u8 0, .int .u64 0, .pointer none, .pointer none, .pointer none, .pointer none, .pointer none, .pointer none, .map none] 121)] :: O :: F)) (hO : ORR bo en ts k O) {g rp : Nat} (hx0 : ts[k]? = some g) (hx1 : ts[k + 1]? = some rp) (hg : g < 281474976710656) (hno : ∀ x ∈ en, ¬ (x.1 = 0 ∧ x.2.1 = g % 281474976710656)) (hel : en.length ≤ 900) (hwa : 1 ≤ s.wa) (htr : 1 ≤ s.tr) (hag : 1 ≤ s.ag) (hro : s.ro ≤ 64) {po r0 r1 r2 r3 k2 : Nat} {en2 : List (Nat × Nat × Nat)} {srv : Srv} (h0 : kn = 0 → en2 = en ++ [(0, g % 281474976710656, rp)] ∧ k2 = k + 1 + 1 ∧ po = 0 ∧ r0 = 0 ∧ r1 = 0 ∧ r2 = 0 ∧ r3 = 0 ∧ srv = .none) (hsrv : ¬ kn = 0 → ∀ (w : World) (O : Chunk), St w0 w ([(b, rowO [vI s.id, vI kn, vI s.no, vI s.pc, vI s.wa, vI s.tr, vI s.ag, vI pn, vI s.ro, vP bo 0, .bool false, vI s.now, vU s.sent, vU rp, .int .u64 0, .int .u64 0, .int .u32 0, .int .u8 0, .int .u64 0, .pointer none, .pointer none, .pointer none, .pointer none, .pointer none, .pointer none, .map none] 121)] :: O :: F) → ORR bo (en ++ [(0, g % 281474976710656, rp)]) ts (k + 1 + 1) O → Ret Tryz.prog 50 #[vP b 0] w (fun v w' => ∃ sv LV O', SVO w0 bo po srv sv LV D ∧ ORR bo en2 ts k2 O' ∧ v = .nilIface ∧ St w0 w' ([(b, rowO [vI s.id, vI kn, vI s.no, vI s.pc, vI s.wa, vI s.tr, vI s.ag, vI pn, vI s.ro, vP bo 0, .bool false, vI s.now, vU s.sent, vU rp, vU po, vU r0, vW r1, vB r2, vU r3, sv, .pointer none, .pointer none, .pointer none, .pointer none, .pointer none, .map none] 121)] :: LV :: O' :: F)))  :
 Ret Tryz.prog 29 #[vP b 0] w (fun v w' => ∃ L' O', NUP w0 b bo ⟨⟨s.id, kn, s.no, s.pc, s.wa, s.tr, s.ag, pn, s.ro, s.now, s.sent, rp, po, r0, r1, r2, r3⟩, [], [], [], [], [], [], []⟩ srv L' D ∧ ORR bo (en2) ts (k2) O' ∧ v = .nilIface ∧ St w0 w' (L' :: O' :: F)) := by
 refine enter (vs := [vP b 0]) 109 Tryz.func29 rfl rfl (by simp) ?_; intro a hA
 refine zs (zr (zR 1 ((2, .nilIface) :: _) hA rfl fun a hA => zn (zx (zs (zs (zr (zR 3 ((9, vP b 10) :: (8, vP b 0) :: (7, vP b 0) :: _) hA rfl fun a hA => zL hA hS 0 rfl rfl rfl rfl rfl rfl rfl rfl rfl fun a hA => zn (zx (cd_cond_f hA rfl (zk (zx (zs (zr (zR 3 ((15, vP b 9) :: (14, vP b 0) :: (13, vP b 0) :: _) hA rfl fun a hA => zL hA hS 0 rfl rfl rfl rfl rfl rfl rfl rfl rfl fun a hA => ?_))))))))))))))
 replace hS := hS.m1
 refine st_call0 hA rfl rfl rfl isfn48 rfl rfl (by decide) (odraw48 hS hO (x := g) hx0) ?_
 clear hA hS; rintro _ w1 a ⟨O2, hO3, rfl, hS⟩ hA
 refine zR 5 ((4, .nilIface) :: (3, vU g) :: (19, .nilIface) :: (18, vU g) :: (12, .tuple #[vU g, .nilIface]) :: _) hA rfl fun a hA => zn (zx (zs (zs (zr (zR 2 ((21, .bool false) :: (20, .nilIface) :: _) hA rfl fun a hA => zn (zx (cd_cond_f hA rfl (zk (zx (zs (zr (zR 3 ((26, vP b 9) :: (25, vP b 0) :: (24, vP b 0) :: _) hA rfl fun a hA => zL hA hS 1 rfl rfl rfl rfl rfl rfl rfl rfl rfl fun a hA => zR 1 ((28, vU g) :: _) hA rfl fun a hA => ?_))))))))))))
 refine st_call0 hA rfl rfl rfl isfn49 rfl rfl (by decide) (tport49 hS hO3 g (by omega) hno (x := rp) hx1 (by omega)) ?_
 clear hA hS; rintro _ w4 a ⟨O5, hO6, rfl, hS⟩ hA
 refine zR 5 ((4, .nilIface) :: (5, vU rp) :: (31, .nilIface) :: (30, vU rp) :: (23, .tuple #[vU rp, .nilIface]) :: _) hA rfl fun a hA => zn (zx (zs (zs (zr (zR 2 ((33, .bool false) :: (32, .nilIface) :: _) hA rfl fun a hA => zn (zx (cd_cond_f hA rfl (zk (zx (zs (zr (zR 8 ((42, vP b 13) :: (41, vP b 0) :: (40, .agg #[.int .u64 0, .int .u32 0, .int .u8 0, .int .u64 0]) :: (39, vU rp) :: (38, vP b 0) :: (37, vP b 0) :: (36, vP b 0) :: (35, vP b 0) :: _) hA rfl fun a hA => ?_))))))))))))
 replace hS := hS.m1
 refine st_store tbOk hA hS [vU rp] [vI s.id, vI kn, vI s.no, vI s.pc, vI s.wa, vI s.tr, vI s.ag, vI pn, vI s.ro, vP bo 0, .bool false, vI s.now, vU s.sent, vU rp, .int .u64 0, .int .u64 0, .int .u32 0, .int .u8 0, .int .u64 0, .pointer none, .pointer none, .pointer none, .pointer none, .pointer none, .pointer none, .map none] rfl rfl rfl rfl rfl rfl (by intro u hu; rw [List.mem_singleton.1 hu]; rfl) (zle rfl) rfl rfl rfl fun w7 hS => ?_
 refine zR 2 ((44, vP b 14) :: (43, vP b 0) :: _) hA rfl fun a hA => ?_
 refine st_store tbOk hA hS [.int .u64 0] [vI s.id, vI kn, vI s.no, vI s.pc, vI s.wa, vI s.tr, vI s.ag, vI pn, vI s.ro, vP bo 0, .bool false, vI s.now, vU s.sent, vU rp, .int .u64 0, .int .u64 0, .int .u32 0, .int .u8 0, .int .u64 0, .pointer none, .pointer none, .pointer none, .pointer none, .pointer none, .pointer none, .map none] rfl rfl rfl rfl rfl rfl (by intro u hu; rw [List.mem_singleton.1 hu]; rfl) (zle rfl) rfl rfl rfl fun w8 hS => ?_
 refine zR 2 ((46, vP b 15) :: (45, vP b 0) :: _) hA rfl fun a hA => ?_
 refine st_store tbOk hA hS [.int .u64 0, .int .u32 0, .int .u8 0, .int .u64 0] [vI s.id, vI kn, vI s.no, vI s.pc, vI s.wa, vI s.tr, vI s.ag, vI pn, vI s.ro, vP bo 0, .bool false, vI s.now, vU s.sent, vU rp, .int .u64 0, .int .u64 0, .int .u32 0, .int .u8 0, .int .u64 0, .pointer none, .pointer none, .pointer none, .pointer none, .pointer none, .pointer none, .map none] rfl rfl rfl rfl rfl rfl (zn1 rfl) (zle rfl) rfl rfl rfl fun w9 hS => ?_
 refine zR 2 ((48, vP b 19) :: (47, vP b 0) :: _) hA rfl fun a hA => ?_
 refine st_store tbOk hA hS [.pointer none] [vI s.id, vI kn, vI s.no, vI s.pc, vI s.wa, vI s.tr, vI s.ag, vI pn, vI s.ro, vP bo 0, .bool false, vI s.now, vU s.sent, vU rp, .int .u64 0, .int .u64 0, .int .u32 0, .int .u8 0, .int .u64 0, .pointer none, .pointer none, .pointer none, .pointer none, .pointer none, .pointer none, .map none] rfl rfl rfl rfl rfl rfl (by intro u hu; rw [List.mem_singleton.1 hu]; rfl) (zle rfl) rfl rfl rfl fun w10 hS => ?_
 refine zn (zx ?_)
 refine wp_seq_join (fun a w => ∃ (sv : Value) (LV : Chunk) (O9 : Chunk), Has a 109 [(0, vP b 0), (5, vU rp)] ∧ St w0 w ([(b, rowO [vI s.id, vI kn, vI s.no, vI s.pc, vI s.wa, vI s.tr, vI s.ag, vI pn, vI s.ro, vP bo 0, .bool false, vI s.now, vU s.sent, vU rp, vU po, vU r0, vW r1, vB r2, vU r3, sv, .pointer none, .pointer none, .pointer none, .pointer none, .pointer none, .map none] 121)] :: LV :: O9 :: F) ∧ (SVO w0 bo po srv sv LV D) ∧ (ORR bo en2 ts k2 O9)) ?_ ?_
 · refine zs (zr (zR 3 ((51, vP b 1) :: (50, vP b 0) :: (49, vP b 0) :: _) hA rfl fun a hA => zL hA hS 0 rfl rfl rfl rfl rfl rfl rfl rfl rfl fun a hA => zR 1 ((53, .bool (((kn : Nat) : Int) != 0)) :: _) hA rfl fun a hA => zn (zx ?_)))
   by_cases hc11 : ((kn : Nat) : Int) = 0
   · first
     | (exfalso; omega)
     | (replace hA := hA.rw 53 (v' := .bool false) rfl (vb_ne_f hc11)
        refine cd_cond_f hA rfl (zk (zx ?_))
        obtain ⟨rfl, rfl, rfl, rfl, rfl, rfl, rfl, rfl⟩ := h0 (by omega)
        replace hS := hS.nil
        replace hS := hS.m1
        exact ⟨(.pointer none), ([]), O5, (hA.sel [0, 5] rfl), hS, ⟨rfl, rfl⟩, hO6⟩)
   · first
     | (exfalso; omega)
     | (replace hA := hA.rw 53 (v' := .bool true) rfl (vb_ne_t hc11)
        refine cd_cond_t hA rfl (zs (zr (zR 1 ((54, vP b 0) :: _) hA rfl fun a hA => ?_)))
        replace hS := hS.m1.m1
        refine st_call0 hA rfl rfl rfl isfn50 rfl rfl (by decide) (hsrv (by omega) _ _ hS hO6) ?_
        clear hA hS; rintro _ w12 a ⟨sv, LV, O9, hV, hO9, rfl, hS⟩ hA
        refine zR 1 ((6, .nilIface) :: _) hA rfl fun a hA => zn (zx (zs (zr (zR 2 ((57, .bool false) :: (56, .nilIface) :: _) hA rfl fun a hA => zn (zx (cd_cond_f hA rfl (zk (zx ?_))))))))
        exact ⟨sv, LV, O9, (hA.sel [0, 5] rfl), hS, hV, hO9⟩)
 · clear hA hS; rintro a w13 ⟨sv, LV, O9, hA, hS, hV, hO9⟩
   refine wp_seq_join (fun a w => ∃ (bd : Nat) (bg : Nat) (bc : Nat) (LC : Chunk), Has a 109 [(0, vP b 0)] ∧ St w0 w ([(b, rowO [vI s.id, vI kn, vI s.no, vI s.pc, vI s.wa, vI s.tr, vI s.ag, vI pn, vI s.ro, vP bo 0, .bool false, vI s.now, vU s.sent, vU rp, vU po, vU r0, vW r1, vB r2, vU r3, sv, vP bd 0, vP bg 0, vP bc 0, .pointer none, .pointer none, .map none] 121)] :: [(bd, rowO [.slice none 0 0] 127)] :: [(bg, rowO [.slice none 0 0] 130)] :: LC :: LV :: O9 :: F) ∧ (CR bc ((rp : Nat) : Int) ((s.wa : Nat) : Int) ((s.tr : Nat) : Int) [] LC)) ?_ ?_
   · refine wp_drawM (fun w' => ∃ z1 z2 z3, St w0 w' ([(b, rowO [vI s.id, vI kn, vI s.no, vI s.pc, vI s.wa, vI s.tr, vI s.ag, vI pn, vI s.ro, vP bo 0, .bool false, vI s.now, vU s.sent, vU rp, vU po, vU r0, vW r1, vB r2, vU r3, sv, z1, z2, z3, .pointer none, .pointer none, .map none] 121)] :: LV :: O9 :: F)) [] [(0, true), (1, true), (2, true), (3, true), (5, true), (7, true), (8, true), (9, true), (10, true), (11, true), (12, true), (13, true), (14, true), (15, true), (16, true), (17, true)] 4 (.N [] 6 (.L [(18, false), (19, true), (20, true), (21, false), (22, true), (23, true), (24, false), (25, true), (26, true), (27, false)]) 18 (.N [(19, true), (20, true)] 6 (.L [(21, false), (22, true), (23, true), (24, false), (25, true), (26, true), (27, false)]) 21 (.L [(6, false), (22, true), (23, true), (24, false), (25, true), (26, true), (27, false)]))) 6 (.N [] 4 (.L [(18, false), (19, true), (20, true), (21, false), (22, true), (23, true), (24, false), (25, true), (26, true), (27, false)]) 18 (.L [(4, false), (19, true), (20, true), (21, false), (22, true), (23, true), (24, false), (25, true), (26, true), (27, false)])) 18 (.N [] 4 (.N [(19, true), (20, true)] 6 (.L [(21, false), (22, true), (23, true), (24, false), (25, true), (26, true), (27, false)]) 21 (.L [(6, false), (22, true), (23, true), (24, false), (25, true), (26, true), (27, false)])) 6 (.L [(4, false), (19, true), (20, true), (21, false), (22, true), (23, true), (24, false), (25, true), (26, true), (27, false)])) mixed (by kernel_rfl) (by rintro c a w ⟨_, _, h, _⟩; cases h) (by rfl) (by kernel_rfl) ?_
     replace hS := hS.drew
     refine dr_run tbOk 10 hA ⟨_, _, _, hS⟩ (e' := (70, vP b 4) :: (69, vP b 2) :: (68, vP b 0) :: (67, vP b 0) :: (66, vU rp) :: (64, .agg #[.slice none 0 0]) :: (62, .agg #[.slice none 0 0]) :: (61, vP b 0) :: (60, vP b 0) :: (59, vP b 0) :: _) rfl fun a hA => dr_y hA rfl rfl rfl (by decide) ⟨_, _, _, hS⟩ (fun w' ⟨z1, z2, z3, hS'⟩ => rn_load tbOk hA rfl rfl rfl rfl (cell_row (hS'.heapAt 0 rfl) rfl)) fun a hA => dr_run tbOk 4 hA ⟨_, _, _, hS⟩ (e' := (75, vP b 5) :: (74, vP b 2) :: (73, vP b 0) :: (72, vP b 0) :: _) rfl fun a hA => dr_y hA rfl rfl rfl (by decide) ⟨_, _, _, hS⟩ (fun w' ⟨z1, z2, z3, hS'⟩ => rn_load tbOk hA rfl rfl rfl rfl (cell_row (hS'.heapAt 0 rfl) rfl)) fun a hA => ?_
     refine dr_fork3 ?_ ?_ ?_
     · refine dr_b (o := _) rfl ?_
       refine st_box hA hS [.slice none 0 0] rfl rfl rfl rfl rfl (by decide) fun b14 w15 a hS hA => ?_
       refine dr_nil (.inr ⟨_, _, _, (hS.tail 1 rfl)⟩) ?_
       refine dr_subN ?_
       refine dr_fork ?_ ?_
       · refine dr_b (o := _) rfl ?_
         refine st_box hA hS [.slice none 0 0] rfl rfl rfl rfl rfl (by decide) fun b16 w17 a hS hA => ?_
         refine dr_nil (.inr ⟨_, _, _, (hS.tail 2 rfl)⟩) ?_
         refine dr_subL ?_
         refine dr_b (o := _) rfl ?_
         refine st_call0 hA rfl rfl rfl isfn51 rfl rfl (by decide) (cof51 hS _ _ _) ?_
         clear hA hS; rintro _ w18 a ⟨bc19, LC20, hc21, rfl, hS⟩ hA; rw [max1 hwa, max1 htr] at hc21
         refine dr_nil (.inr ⟨_, _, _, (hS.tail 3 rfl)⟩) (dr_run tbOk 2 hA ⟨_, _, _, (hS.tail 3 rfl)⟩ (e' := (79, vP b 20) :: (78, vP b 0) :: _) rfl fun a hA => dr_b (o := _) rfl ?_)
         replace hS := hS.m3
         refine st_store tbOk hA hS [vP b14 0] [vI s.id, vI kn, vI s.no, vI s.pc, vI s.wa, vI s.tr, vI s.ag, vI pn, vI s.ro, vP bo 0, .bool false, vI s.now, vU s.sent, vU rp, vU po, vU r0, vW r1, vB r2, vU r3, sv, vP b14 0, .pointer none, .pointer none, .pointer none, .pointer none, .map none] rfl rfl rfl rfl rfl rfl (by intro u hu; rw [List.mem_singleton.1 hu]; rfl) (zle rfl) rfl rfl rfl fun w22 hS => ?_
         replace hS := hS.m3.m3.m3
         refine dr_nil (.inr ⟨_, _, _, (hS.tail 3 rfl)⟩) (dr_run tbOk 2 hA ⟨_, _, _, (hS.tail 3 rfl)⟩ (e' := (81, vP b 21) :: (80, vP b 0) :: _) rfl fun a hA => dr_b (o := _) rfl ?_)
         replace hS := hS.m3
         refine st_store tbOk hA hS [vP b16 0] [vI s.id, vI kn, vI s.no, vI s.pc, vI s.wa, vI s.tr, vI s.ag, vI pn, vI s.ro, vP bo 0, .bool false, vI s.now, vU s.sent, vU rp, vU po, vU r0, vW r1, vB r2, vU r3, sv, vP b14 0, vP b16 0, .pointer none, .pointer none, .pointer none, .map none] rfl rfl rfl rfl rfl rfl (by intro u hu; rw [List.mem_singleton.1 hu]; rfl) (zle rfl) rfl rfl rfl fun w23 hS => ?_
         replace hS := hS.m3.m3.m3
         refine dr_nil (.inr ⟨_, _, _, (hS.tail 3 rfl)⟩) (dr_run tbOk 2 hA ⟨_, _, _, (hS.tail 3 rfl)⟩ (e' := (83, vP b 22) :: (82, vP b 0) :: _) rfl fun a hA => dr_b (o := _) rfl ?_)
         replace hS := hS.m3
         refine st_store tbOk hA hS [vP bc19 0] [vI s.id, vI kn, vI s.no, vI s.pc, vI s.wa, vI s.tr, vI s.ag, vI pn, vI s.ro, vP bo 0, .bool false, vI s.now, vU s.sent, vU rp, vU po, vU r0, vW r1, vB r2, vU r3, sv, vP b14 0, vP b16 0, vP bc19 0, .pointer none, .pointer none, .map none] rfl rfl rfl rfl rfl rfl (by intro u hu; rw [List.mem_singleton.1 hu]; rfl) (zle rfl) rfl rfl rfl fun w24 hS => ?_
         replace hS := hS.m3.m3.m3
         refine dr_nil (.inr ⟨_, _, _, (hS.tail 3 rfl)⟩) (ze (zx ?_))
         replace hS := hS.m1.m2.m3
         exact ⟨b14, b16, bc19, LC20, (hA.sel [0] rfl), hS, hc21⟩
       · refine dr_b (o := _) rfl ?_
         refine st_call0 hA rfl rfl rfl isfn51 rfl rfl (by decide) (cof51 hS _ _ _) ?_
         clear hA hS; rintro _ w25 a ⟨bc26, LC27, hc28, rfl, hS⟩ hA; rw [max1 hwa, max1 htr] at hc28
         refine dr_nil (.inr ⟨_, _, _, (hS.tail 2 rfl)⟩) ?_
         refine dr_subN ?_
         refine dr_run tbOk 2 hA ⟨_, _, _, (hS.tail 2 rfl)⟩ (e' := (79, vP b 20) :: (78, vP b 0) :: _) rfl fun a hA => ?_
         refine dr_fork ?_ ?_
         · refine dr_b (o := _) rfl ?_
           refine st_box hA hS [.slice none 0 0] rfl rfl rfl rfl rfl (by decide) fun b29 w30 a hS hA => ?_
           refine dr_nil (.inr ⟨_, _, _, (hS.tail 3 rfl)⟩) ?_
           refine dr_subL ?_
           refine dr_b (o := _) rfl ?_
           replace hS := hS.m3
           refine st_store tbOk hA hS [vP b14 0] [vI s.id, vI kn, vI s.no, vI s.pc, vI s.wa, vI s.tr, vI s.ag, vI pn, vI s.ro, vP bo 0, .bool false, vI s.now, vU s.sent, vU rp, vU po, vU r0, vW r1, vB r2, vU r3, sv, vP b14 0, .pointer none, .pointer none, .pointer none, .pointer none, .map none] rfl rfl rfl rfl rfl rfl (by intro u hu; rw [List.mem_singleton.1 hu]; rfl) (zle rfl) rfl rfl rfl fun w31 hS => ?_
           replace hS := hS.m3.m3.m3
           refine dr_nil (.inr ⟨_, _, _, (hS.tail 3 rfl)⟩) (dr_run tbOk 2 hA ⟨_, _, _, (hS.tail 3 rfl)⟩ (e' := (81, vP b 21) :: (80, vP b 0) :: _) rfl fun a hA => dr_b (o := _) rfl ?_)
           replace hS := hS.m3
           refine st_store tbOk hA hS [vP b29 0] [vI s.id, vI kn, vI s.no, vI s.pc, vI s.wa, vI s.tr, vI s.ag, vI pn, vI s.ro, vP bo 0, .bool false, vI s.now, vU s.sent, vU rp, vU po, vU r0, vW r1, vB r2, vU r3, sv, vP b14 0, vP b29 0, .pointer none, .pointer none, .pointer none, .map none] rfl rfl rfl rfl rfl rfl (by intro u hu; rw [List.mem_singleton.1 hu]; rfl) (zle rfl) rfl rfl rfl fun w32 hS => ?_
           replace hS := hS.m3.m3.m3
           refine dr_nil (.inr ⟨_, _, _, (hS.tail 3 rfl)⟩) (dr_run tbOk 2 hA ⟨_, _, _, (hS.tail 3 rfl)⟩ (e' := (83, vP b 22) :: (82, vP b 0) :: _) rfl fun a hA => dr_b (o := _) rfl ?_)
           replace hS := hS.m3
           refine st_store tbOk hA hS [vP bc26 0] [vI s.id, vI kn, vI s.no, vI s.pc, vI s.wa, vI s.tr, vI s.ag, vI pn, vI s.ro, vP bo 0, .bool false, vI s.now, vU s.sent, vU rp, vU po, vU r0, vW r1, vB r2, vU r3, sv, vP b14 0, vP b29 0, vP bc26 0, .pointer none, .pointer none, .map none] rfl rfl rfl rfl rfl rfl (by intro u hu; rw [List.mem_singleton.1 hu]; rfl) (zle rfl) rfl rfl rfl fun w33 hS => ?_
           replace hS := hS.m3.m3.m3
           refine dr_nil (.inr ⟨_, _, _, (hS.tail 3 rfl)⟩) (ze (zx ?_))
           replace hS := hS.m2.m3
           exact ⟨b14, b29, bc26, LC27, (hA.sel [0] rfl), hS, hc28⟩
         · refine dr_b (o := _) rfl ?_
           replace hS := hS.m2
           refine st_store tbOk hA hS [vP b14 0] [vI s.id, vI kn, vI s.no, vI s.pc, vI s.wa, vI s.tr, vI s.ag, vI pn, vI s.ro, vP bo 0, .bool false, vI s.now, vU s.sent, vU rp, vU po, vU r0, vW r1, vB r2, vU r3, sv, vP b14 0, .pointer none, .pointer none, .pointer none, .pointer none, .map none] rfl rfl rfl rfl rfl rfl (by intro u hu; rw [List.mem_singleton.1 hu]; rfl) (zle rfl) rfl rfl rfl fun w34 hS => ?_
           replace hS := hS.m2.m2
           refine dr_nil (.inr ⟨_, _, _, (hS.tail 2 rfl)⟩) ?_
           refine dr_subL ?_
           refine dr_b (o := _) rfl ?_
           refine st_box hA hS [.slice none 0 0] rfl rfl rfl rfl rfl (by decide) fun b35 w36 a hS hA => ?_
           refine dr_nil (.inr ⟨_, _, _, (hS.tail 3 rfl)⟩) (dr_run tbOk 2 hA ⟨_, _, _, (hS.tail 3 rfl)⟩ (e' := (81, vP b 21) :: (80, vP b 0) :: _) rfl fun a hA => dr_b (o := _) rfl ?_)
           replace hS := hS.m3
           refine st_store tbOk hA hS [vP b35 0] [vI s.id, vI kn, vI s.no, vI s.pc, vI s.wa, vI s.tr, vI s.ag, vI pn, vI s.ro, vP bo 0, .bool false, vI s.now, vU s.sent, vU rp, vU po, vU r0, vW r1, vB r2, vU r3, sv, vP b14 0, vP b35 0, .pointer none, .pointer none, .pointer none, .map none] rfl rfl rfl rfl rfl rfl (by intro u hu; rw [List.mem_singleton.1 hu]; rfl) (zle rfl) rfl rfl rfl fun w37 hS => ?_
           replace hS := hS.m3.m3.m3
           refine dr_nil (.inr ⟨_, _, _, (hS.tail 3 rfl)⟩) (dr_run tbOk 2 hA ⟨_, _, _, (hS.tail 3 rfl)⟩ (e' := (83, vP b 22) :: (82, vP b 0) :: _) rfl fun a hA => dr_b (o := _) rfl ?_)
           replace hS := hS.m3
           refine st_store tbOk hA hS [vP bc26 0] [vI s.id, vI kn, vI s.no, vI s.pc, vI s.wa, vI s.tr, vI s.ag, vI pn, vI s.ro, vP bo 0, .bool false, vI s.now, vU s.sent, vU rp, vU po, vU r0, vW r1, vB r2, vU r3, sv, vP b14 0, vP b35 0, vP bc26 0, .pointer none, .pointer none, .map none] rfl rfl rfl rfl rfl rfl (by intro u hu; rw [List.mem_singleton.1 hu]; rfl) (zle rfl) rfl rfl rfl fun w38 hS => ?_
           replace hS := hS.m3.m3.m3
           refine dr_nil (.inr ⟨_, _, _, (hS.tail 3 rfl)⟩) (ze (zx ?_))
           replace hS := hS.m2.m3
           exact ⟨b14, b35, bc26, LC27, (hA.sel [0] rfl), hS, hc28⟩
     · refine dr_b (o := _) rfl ?_
       refine st_box hA hS [.slice none 0 0] rfl rfl rfl rfl rfl (by decide) fun b39 w40 a hS hA => ?_
       refine dr_nil (.inr ⟨_, _, _, (hS.tail 1 rfl)⟩) ?_
       refine dr_subN ?_
       refine dr_fork ?_ ?_
       · refine dr_b (o := _) rfl ?_
         refine st_box hA hS [.slice none 0 0] rfl rfl rfl rfl rfl (by decide) fun b41 w42 a hS hA => ?_
         refine dr_nil (.inr ⟨_, _, _, (hS.tail 2 rfl)⟩) ?_
         refine dr_subL ?_
         refine dr_b (o := _) rfl ?_
         refine st_call0 hA rfl rfl rfl isfn51 rfl rfl (by decide) (cof51 hS _ _ _) ?_
         clear hA hS; rintro _ w43 a ⟨bc44, LC45, hc46, rfl, hS⟩ hA; rw [max1 hwa, max1 htr] at hc46
         refine dr_nil (.inr ⟨_, _, _, (hS.tail 3 rfl)⟩) (dr_run tbOk 2 hA ⟨_, _, _, (hS.tail 3 rfl)⟩ (e' := (79, vP b 20) :: (78, vP b 0) :: _) rfl fun a hA => dr_b (o := _) rfl ?_)
         replace hS := hS.m3
         refine st_store tbOk hA hS [vP b41 0] [vI s.id, vI kn, vI s.no, vI s.pc, vI s.wa, vI s.tr, vI s.ag, vI pn, vI s.ro, vP bo 0, .bool false, vI s.now, vU s.sent, vU rp, vU po, vU r0, vW r1, vB r2, vU r3, sv, vP b41 0, .pointer none, .pointer none, .pointer none, .pointer none, .map none] rfl rfl rfl rfl rfl rfl (by intro u hu; rw [List.mem_singleton.1 hu]; rfl) (zle rfl) rfl rfl rfl fun w47 hS => ?_
         replace hS := hS.m3.m3.m3
         refine dr_nil (.inr ⟨_, _, _, (hS.tail 3 rfl)⟩) (dr_run tbOk 2 hA ⟨_, _, _, (hS.tail 3 rfl)⟩ (e' := (81, vP b 21) :: (80, vP b 0) :: _) rfl fun a hA => dr_b (o := _) rfl ?_)
         replace hS := hS.m3
         refine st_store tbOk hA hS [vP b39 0] [vI s.id, vI kn, vI s.no, vI s.pc, vI s.wa, vI s.tr, vI s.ag, vI pn, vI s.ro, vP bo 0, .bool false, vI s.now, vU s.sent, vU rp, vU po, vU r0, vW r1, vB r2, vU r3, sv, vP b41 0, vP b39 0, .pointer none, .pointer none, .pointer none, .map none] rfl rfl rfl rfl rfl rfl (by intro u hu; rw [List.mem_singleton.1 hu]; rfl) (zle rfl) rfl rfl rfl fun w48 hS => ?_
         replace hS := hS.m3.m3.m3
         refine dr_nil (.inr ⟨_, _, _, (hS.tail 3 rfl)⟩) (dr_run tbOk 2 hA ⟨_, _, _, (hS.tail 3 rfl)⟩ (e' := (83, vP b 22) :: (82, vP b 0) :: _) rfl fun a hA => dr_b (o := _) rfl ?_)
         replace hS := hS.m3
         refine st_store tbOk hA hS [vP bc44 0] [vI s.id, vI kn, vI s.no, vI s.pc, vI s.wa, vI s.tr, vI s.ag, vI pn, vI s.ro, vP bo 0, .bool false, vI s.now, vU s.sent, vU rp, vU po, vU r0, vW r1, vB r2, vU r3, sv, vP b41 0, vP b39 0, vP bc44 0, .pointer none, .pointer none, .map none] rfl rfl rfl rfl rfl rfl (by intro u hu; rw [List.mem_singleton.1 hu]; rfl) (zle rfl) rfl rfl rfl fun w49 hS => ?_
         replace hS := hS.m3.m3.m3
         refine dr_nil (.inr ⟨_, _, _, (hS.tail 3 rfl)⟩) (ze (zx ?_))
         replace hS := hS.m2.m2.m3
         exact ⟨b41, b39, bc44, LC45, (hA.sel [0] rfl), hS, hc46⟩
       · refine dr_b (o := _) rfl ?_
         refine st_call0 hA rfl rfl rfl isfn51 rfl rfl (by decide) (cof51 hS _ _ _) ?_
         clear hA hS; rintro _ w50 a ⟨bc51, LC52, hc53, rfl, hS⟩ hA; rw [max1 hwa, max1 htr] at hc53
         refine dr_nil (.inr ⟨_, _, _, (hS.tail 2 rfl)⟩) ?_
         refine dr_subL ?_
         refine dr_b (o := _) rfl ?_
         refine st_box hA hS [.slice none 0 0] rfl rfl rfl rfl rfl (by decide) fun b54 w55 a hS hA => ?_
         refine dr_nil (.inr ⟨_, _, _, (hS.tail 3 rfl)⟩) (dr_run tbOk 2 hA ⟨_, _, _, (hS.tail 3 rfl)⟩ (e' := (79, vP b 20) :: (78, vP b 0) :: _) rfl fun a hA => dr_b (o := _) rfl ?_)
         replace hS := hS.m3
         refine st_store tbOk hA hS [vP b54 0] [vI s.id, vI kn, vI s.no, vI s.pc, vI s.wa, vI s.tr, vI s.ag, vI pn, vI s.ro, vP bo 0, .bool false, vI s.now, vU s.sent, vU rp, vU po, vU r0, vW r1, vB r2, vU r3, sv, vP b54 0, .pointer none, .pointer none, .pointer none, .pointer none, .map none] rfl rfl rfl rfl rfl rfl (by intro u hu; rw [List.mem_singleton.1 hu]; rfl) (zle rfl) rfl rfl rfl fun w56 hS => ?_
         replace hS := hS.m3.m3.m3
         refine dr_nil (.inr ⟨_, _, _, (hS.tail 3 rfl)⟩) (dr_run tbOk 2 hA ⟨_, _, _, (hS.tail 3 rfl)⟩ (e' := (81, vP b 21) :: (80, vP b 0) :: _) rfl fun a hA => dr_b (o := _) rfl ?_)
         replace hS := hS.m3
         refine st_store tbOk hA hS [vP b39 0] [vI s.id, vI kn, vI s.no, vI s.pc, vI s.wa, vI s.tr, vI s.ag, vI pn, vI s.ro, vP bo 0, .bool false, vI s.now, vU s.sent, vU rp, vU po, vU r0, vW r1, vB r2, vU r3, sv, vP b54 0, vP b39 0, .pointer none, .pointer none, .pointer none, .map none] rfl rfl rfl rfl rfl rfl (by intro u hu; rw [List.mem_singleton.1 hu]; rfl) (zle rfl) rfl rfl rfl fun w57 hS => ?_
         replace hS := hS.m3.m3.m3
         refine dr_nil (.inr ⟨_, _, _, (hS.tail 3 rfl)⟩) (dr_run tbOk 2 hA ⟨_, _, _, (hS.tail 3 rfl)⟩ (e' := (83, vP b 22) :: (82, vP b 0) :: _) rfl fun a hA => dr_b (o := _) rfl ?_)
         replace hS := hS.m3
         refine st_store tbOk hA hS [vP bc51 0] [vI s.id, vI kn, vI s.no, vI s.pc, vI s.wa, vI s.tr, vI s.ag, vI pn, vI s.ro, vP bo 0, .bool false, vI s.now, vU s.sent, vU rp, vU po, vU r0, vW r1, vB r2, vU r3, sv, vP b54 0, vP b39 0, vP bc51 0, .pointer none, .pointer none, .map none] rfl rfl rfl rfl rfl rfl (by intro u hu; rw [List.mem_singleton.1 hu]; rfl) (zle rfl) rfl rfl rfl fun w58 hS => ?_
         replace hS := hS.m3.m3.m3
         refine dr_nil (.inr ⟨_, _, _, (hS.tail 3 rfl)⟩) (ze (zx ?_))
         replace hS := hS.m2.m1.m3
         exact ⟨b54, b39, bc51, LC52, (hA.sel [0] rfl), hS, hc53⟩
     · refine dr_b (o := _) rfl ?_
       refine st_call0 hA rfl rfl rfl isfn51 rfl rfl (by decide) (cof51 hS _ _ _) ?_
       clear hA hS; rintro _ w59 a ⟨bc60, LC61, hc62, rfl, hS⟩ hA; rw [max1 hwa, max1 htr] at hc62
       refine dr_nil (.inr ⟨_, _, _, (hS.tail 1 rfl)⟩) ?_
       refine dr_subN ?_
       refine dr_fork ?_ ?_
       · refine dr_b (o := _) rfl ?_
         refine st_box hA hS [.slice none 0 0] rfl rfl rfl rfl rfl (by decide) fun b63 w64 a hS hA => ?_
         refine dr_nil (.inr ⟨_, _, _, (hS.tail 2 rfl)⟩) ?_
         refine dr_subN ?_
         refine dr_run tbOk 2 hA ⟨_, _, _, (hS.tail 2 rfl)⟩ (e' := (79, vP b 20) :: (78, vP b 0) :: _) rfl fun a hA => ?_
         refine dr_fork ?_ ?_
         · refine dr_b (o := _) rfl ?_
           refine st_box hA hS [.slice none 0 0] rfl rfl rfl rfl rfl (by decide) fun b65 w66 a hS hA => ?_
           refine dr_nil (.inr ⟨_, _, _, (hS.tail 3 rfl)⟩) ?_
           refine dr_subL ?_
           refine dr_b (o := _) rfl ?_
           replace hS := hS.m3
           refine st_store tbOk hA hS [vP b63 0] [vI s.id, vI kn, vI s.no, vI s.pc, vI s.wa, vI s.tr, vI s.ag, vI pn, vI s.ro, vP bo 0, .bool false, vI s.now, vU s.sent, vU rp, vU po, vU r0, vW r1, vB r2, vU r3, sv, vP b63 0, .pointer none, .pointer none, .pointer none, .pointer none, .map none] rfl rfl rfl rfl rfl rfl (by intro u hu; rw [List.mem_singleton.1 hu]; rfl) (zle rfl) rfl rfl rfl fun w67 hS => ?_
           replace hS := hS.m3.m3.m3
           refine dr_nil (.inr ⟨_, _, _, (hS.tail 3 rfl)⟩) (dr_run tbOk 2 hA ⟨_, _, _, (hS.tail 3 rfl)⟩ (e' := (81, vP b 21) :: (80, vP b 0) :: _) rfl fun a hA => dr_b (o := _) rfl ?_)
           replace hS := hS.m3
           refine st_store tbOk hA hS [vP b65 0] [vI s.id, vI kn, vI s.no, vI s.pc, vI s.wa, vI s.tr, vI s.ag, vI pn, vI s.ro, vP bo 0, .bool false, vI s.now, vU s.sent, vU rp, vU po, vU r0, vW r1, vB r2, vU r3, sv, vP b63 0, vP b65 0, .pointer none, .pointer none, .pointer none, .map none] rfl rfl rfl rfl rfl rfl (by intro u hu; rw [List.mem_singleton.1 hu]; rfl) (zle rfl) rfl rfl rfl fun w68 hS => ?_
           replace hS := hS.m3.m3.m3
           refine dr_nil (.inr ⟨_, _, _, (hS.tail 3 rfl)⟩) (dr_run tbOk 2 hA ⟨_, _, _, (hS.tail 3 rfl)⟩ (e' := (83, vP b 22) :: (82, vP b 0) :: _) rfl fun a hA => dr_b (o := _) rfl ?_)
           replace hS := hS.m3
           refine st_store tbOk hA hS [vP bc60 0] [vI s.id, vI kn, vI s.no, vI s.pc, vI s.wa, vI s.tr, vI s.ag, vI pn, vI s.ro, vP bo 0, .bool false, vI s.now, vU s.sent, vU rp, vU po, vU r0, vW r1, vB r2, vU r3, sv, vP b63 0, vP b65 0, vP bc60 0, .pointer none, .pointer none, .map none] rfl rfl rfl rfl rfl rfl (by intro u hu; rw [List.mem_singleton.1 hu]; rfl) (zle rfl) rfl rfl rfl fun w69 hS => ?_
           replace hS := hS.m3.m3.m3
           refine dr_nil (.inr ⟨_, _, _, (hS.tail 3 rfl)⟩) (ze (zx ?_))
           replace hS := hS.m1.m3
           exact ⟨b63, b65, bc60, LC61, (hA.sel [0] rfl), hS, hc62⟩
         · refine dr_b (o := _) rfl ?_
           replace hS := hS.m2
           refine st_store tbOk hA hS [vP b63 0] [vI s.id, vI kn, vI s.no, vI s.pc, vI s.wa, vI s.tr, vI s.ag, vI pn, vI s.ro, vP bo 0, .bool false, vI s.now, vU s.sent, vU rp, vU po, vU r0, vW r1, vB r2, vU r3, sv, vP b63 0, .pointer none, .pointer none, .pointer none, .pointer none, .map none] rfl rfl rfl rfl rfl rfl (by intro u hu; rw [List.mem_singleton.1 hu]; rfl) (zle rfl) rfl rfl rfl fun w70 hS => ?_
           replace hS := hS.m2.m2
           refine dr_nil (.inr ⟨_, _, _, (hS.tail 2 rfl)⟩) ?_
           refine dr_subL ?_
           refine dr_b (o := _) rfl ?_
           refine st_box hA hS [.slice none 0 0] rfl rfl rfl rfl rfl (by decide) fun b71 w72 a hS hA => ?_
           refine dr_nil (.inr ⟨_, _, _, (hS.tail 3 rfl)⟩) (dr_run tbOk 2 hA ⟨_, _, _, (hS.tail 3 rfl)⟩ (e' := (81, vP b 21) :: (80, vP b 0) :: _) rfl fun a hA => dr_b (o := _) rfl ?_)
           replace hS := hS.m3
           refine st_store tbOk hA hS [vP b71 0] [vI s.id, vI kn, vI s.no, vI s.pc, vI s.wa, vI s.tr, vI s.ag, vI pn, vI s.ro, vP bo 0, .bool false, vI s.now, vU s.sent, vU rp, vU po, vU r0, vW r1, vB r2, vU r3, sv, vP b63 0, vP b71 0, .pointer none, .pointer none, .pointer none, .map none] rfl rfl rfl rfl rfl rfl (by intro u hu; rw [List.mem_singleton.1 hu]; rfl) (zle rfl) rfl rfl rfl fun w73 hS => ?_
           replace hS := hS.m3.m3.m3
           refine dr_nil (.inr ⟨_, _, _, (hS.tail 3 rfl)⟩) (dr_run tbOk 2 hA ⟨_, _, _, (hS.tail 3 rfl)⟩ (e' := (83, vP b 22) :: (82, vP b 0) :: _) rfl fun a hA => dr_b (o := _) rfl ?_)
           replace hS := hS.m3
           refine st_store tbOk hA hS [vP bc60 0] [vI s.id, vI kn, vI s.no, vI s.pc, vI s.wa, vI s.tr, vI s.ag, vI pn, vI s.ro, vP bo 0, .bool false, vI s.now, vU s.sent, vU rp, vU po, vU r0, vW r1, vB r2, vU r3, sv, vP b63 0, vP b71 0, vP bc60 0, .pointer none, .pointer none, .map none] rfl rfl rfl rfl rfl rfl (by intro u hu; rw [List.mem_singleton.1 hu]; rfl) (zle rfl) rfl rfl rfl fun w74 hS => ?_
           replace hS := hS.m3.m3.m3
           refine dr_nil (.inr ⟨_, _, _, (hS.tail 3 rfl)⟩) (ze (zx ?_))
           replace hS := hS.m1.m3
           exact ⟨b63, b71, bc60, LC61, (hA.sel [0] rfl), hS, hc62⟩
       · refine dr_b (o := _) rfl ?_
         refine st_box hA hS [.slice none 0 0] rfl rfl rfl rfl rfl (by decide) fun b75 w76 a hS hA => ?_
         refine dr_nil (.inr ⟨_, _, _, (hS.tail 2 rfl)⟩) ?_
         refine dr_subL ?_
         refine dr_b (o := _) rfl ?_
         refine st_box hA hS [.slice none 0 0] rfl rfl rfl rfl rfl (by decide) fun b77 w78 a hS hA => ?_
         refine dr_nil (.inr ⟨_, _, _, (hS.tail 3 rfl)⟩) (dr_run tbOk 2 hA ⟨_, _, _, (hS.tail 3 rfl)⟩ (e' := (79, vP b 20) :: (78, vP b 0) :: _) rfl fun a hA => dr_b (o := _) rfl ?_)
         replace hS := hS.m3
         refine st_store tbOk hA hS [vP b77 0] [vI s.id, vI kn, vI s.no, vI s.pc, vI s.wa, vI s.tr, vI s.ag, vI pn, vI s.ro, vP bo 0, .bool false, vI s.now, vU s.sent, vU rp, vU po, vU r0, vW r1, vB r2, vU r3, sv, vP b77 0, .pointer none, .pointer none, .pointer none, .pointer none, .map none] rfl rfl rfl rfl rfl rfl (by intro u hu; rw [List.mem_singleton.1 hu]; rfl) (zle rfl) rfl rfl rfl fun w79 hS => ?_
         replace hS := hS.m3.m3.m3
         refine dr_nil (.inr ⟨_, _, _, (hS.tail 3 rfl)⟩) (dr_run tbOk 2 hA ⟨_, _, _, (hS.tail 3 rfl)⟩ (e' := (81, vP b 21) :: (80, vP b 0) :: _) rfl fun a hA => dr_b (o := _) rfl ?_)
         replace hS := hS.m3
         refine st_store tbOk hA hS [vP b75 0] [vI s.id, vI kn, vI s.no, vI s.pc, vI s.wa, vI s.tr, vI s.ag, vI pn, vI s.ro, vP bo 0, .bool false, vI s.now, vU s.sent, vU rp, vU po, vU r0, vW r1, vB r2, vU r3, sv, vP b77 0, vP b75 0, .pointer none, .pointer none, .pointer none, .map none] rfl rfl rfl rfl rfl rfl (by intro u hu; rw [List.mem_singleton.1 hu]; rfl) (zle rfl) rfl rfl rfl fun w80 hS => ?_
         replace hS := hS.m3.m3.m3
         refine dr_nil (.inr ⟨_, _, _, (hS.tail 3 rfl)⟩) (dr_run tbOk 2 hA ⟨_, _, _, (hS.tail 3 rfl)⟩ (e' := (83, vP b 22) :: (82, vP b 0) :: _) rfl fun a hA => dr_b (o := _) rfl ?_)
         replace hS := hS.m3
         refine st_store tbOk hA hS [vP bc60 0] [vI s.id, vI kn, vI s.no, vI s.pc, vI s.wa, vI s.tr, vI s.ag, vI pn, vI s.ro, vP bo 0, .bool false, vI s.now, vU s.sent, vU rp, vU po, vU r0, vW r1, vB r2, vU r3, sv, vP b77 0, vP b75 0, vP bc60 0, .pointer none, .pointer none, .map none] rfl rfl rfl rfl rfl rfl (by intro u hu; rw [List.mem_singleton.1 hu]; rfl) (zle rfl) rfl rfl rfl fun w81 hS => ?_
         replace hS := hS.m3.m3.m3
         refine dr_nil (.inr ⟨_, _, _, (hS.tail 3 rfl)⟩) (ze (zx ?_))
         replace hS := hS.m3
         exact ⟨b77, b75, bc60, LC61, (hA.sel [0] rfl), hS, hc62⟩
   · clear hA hS; rintro a w82 ⟨bd, bg, bc, LC, hA, hS, hcr⟩
     refine wp_seq_join (fun a w => ∃ (bp : Nat) (bx : Nat) (mp : Nat) (LP : Chunk) (LB : Chunk), Has a 109 [(0, vP b 0)] ∧ St w0 w ([(b, rowO [vI s.id, vI kn, vI s.no, vI s.pc, vI s.wa, vI s.tr, vI s.ag, vI pn, vI s.ro, vP bo 0, .bool false, vI s.now, vU s.sent, vU rp, vU po, vU r0, vW r1, vB r2, vU r3, sv, vP bd 0, vP bg 0, vP bc 0, vP bp 0, vP bx 0, .map (some mp)] 121)] :: [(bd, rowO [.slice none 0 0] 127)] :: [(bg, rowO [.slice none 0 0] 130)] :: LC :: LP :: LB :: [(mp, .map #[] 0)] :: LV :: O9 :: F) ∧ (PMR bp ((s.ag : Nat) : Int) [] LP) ∧ (BX bx s.ro [] [] LB)) ?_ ?_
     · refine wp_drawN (fun w' => ∃ z1 z2 z3, St w0 w' ([(b, rowO [vI s.id, vI kn, vI s.no, vI s.pc, vI s.wa, vI s.tr, vI s.ag, vI pn, vI s.ro, vP bo 0, .bool false, vI s.now, vU s.sent, vU rp, vU po, vU r0, vW r1, vB r2, vU r3, sv, vP bd 0, vP bg 0, vP bc 0, z1, z2, z3] 121)] :: [(bd, rowO [.slice none 0 0] 127)] :: [(bg, rowO [.slice none 0 0] 130)] :: LC :: LV :: O9 :: F)) [] [(0, true), (1, true), (2, true), (3, true), (4, true), (5, true), (6, true), (7, true), (9, true), (10, true), (11, true), (12, true), (13, true)] 8 (.N [] 14 (.N [(16, true), (17, true)] 15 (.L [(18, false), (19, true), (20, true), (21, false), (22, true), (23, true), (24, false)]) 18 (.N [(19, true), (20, true)] 15 (.L [(21, false), (22, true), (23, true), (24, false)]) 21 (.L [(15, false), (22, true), (23, true), (24, false)]))) 15 (.L [(14, false), (16, true), (17, true), (18, false), (19, true), (20, true), (21, false), (22, true), (23, true), (24, false)])) 15 (.L [(8, false), (14, false), (16, true), (17, true), (18, false), (19, true), (20, true), (21, false), (22, true), (23, true), (24, false)]) mixed (by kernel_rfl) (by rintro c a w ⟨_, _, h, _⟩; cases h) (by rfl) (by kernel_rfl) ?_
       replace hS := hS.drew
       refine dr_run tbOk 7 hA ⟨_, _, _, hS⟩ (e' := (90, vP b 6) :: (89, vP b 2) :: (88, vP b 0) :: (87, vP b 0) :: (86, vP b 0) :: (85, vP b 0) :: (84, vP b 0) :: _) rfl fun a hA => dr_y hA rfl rfl rfl (by decide) ⟨_, _, _, hS⟩ (fun w' ⟨z1, z2, z3, hS'⟩ => rn_load tbOk hA rfl rfl rfl rfl (cell_row (hS'.heapAt 0 rfl) rfl)) fun a hA => dr_run tbOk 4 hA ⟨_, _, _, hS⟩ (e' := (96, vP b 8) :: (95, vP b 2) :: (94, vP b 0) :: (93, vP b 0) :: _) rfl fun a hA => dr_y hA rfl rfl rfl (by decide) ⟨_, _, _, hS⟩ (fun w' ⟨z1, z2, z3, hS'⟩ => rn_load tbOk hA rfl rfl rfl rfl (cell_row (hS'.heapAt 0 rfl) rfl)) fun a hA => ?_
       refine dr_fork ?_ ?_
       · refine dr_b (o := _) rfl ?_
         refine st_call0 hA rfl rfl rfl isfn52 rfl rfl (by decide) (pm_of52 hS _ (by omega)) ?_
         clear hA hS; rintro _ w83 a ⟨bp84, LP85, hp86, rfl, hS⟩ hA
         refine dr_nil (.inr ⟨_, _, _, (hS.tail 1 rfl)⟩) ?_
         refine dr_subN ?_
         refine dr_fork ?_ ?_
         · refine dr_b (o := _) rfl ?_
           refine st_call0 hA rfl rfl rfl isfn53 rfl rfl (by decide) (of53 hS _ s.ro (.inr (.inl ⟨by omega, by omega, rfl⟩))) ?_
           clear hA hS; rintro _ w87 a ⟨bx88, LB89, hb90, rfl, hS⟩ hA
           refine dr_nil (.inr ⟨_, _, _, (hS.tail 2 rfl)⟩) ?_
           refine dr_subN ?_
           refine dr_run tbOk 2 hA ⟨_, _, _, (hS.tail 2 rfl)⟩ (e' := (101, vP b 23) :: (100, vP b 0) :: _) rfl fun a hA => ?_
           refine dr_fork ?_ ?_
           · refine dr_b (o := _) rfl ?_
             refine st_makeMap hA hS rfl rfl rfl (by decide) fun m91 w92 a hS hA => ?_
             refine dr_nil (.inr ⟨_, _, _, (hS.tail 3 rfl)⟩) ?_
             refine dr_subL ?_
             refine dr_b (o := _) rfl ?_
             replace hS := hS.m3
             refine st_store tbOk hA hS [vP bp84 0] [vI s.id, vI kn, vI s.no, vI s.pc, vI s.wa, vI s.tr, vI s.ag, vI pn, vI s.ro, vP bo 0, .bool false, vI s.now, vU s.sent, vU rp, vU po, vU r0, vW r1, vB r2, vU r3, sv, vP bd 0, vP bg 0, vP bc 0, vP bp84 0, .pointer none, .map none] rfl rfl rfl rfl rfl rfl (by intro u hu; rw [List.mem_singleton.1 hu]; rfl) (zle rfl) rfl rfl rfl fun w93 hS => ?_
             replace hS := hS.m3.m3.m3
             refine dr_nil (.inr ⟨_, _, _, (hS.tail 3 rfl)⟩) (dr_run tbOk 2 hA ⟨_, _, _, (hS.tail 3 rfl)⟩ (e' := (103, vP b 24) :: (102, vP b 0) :: _) rfl fun a hA => dr_b (o := _) rfl ?_)
             replace hS := hS.m3
             refine st_store tbOk hA hS [vP bx88 0] [vI s.id, vI kn, vI s.no, vI s.pc, vI s.wa, vI s.tr, vI s.ag, vI pn, vI s.ro, vP bo 0, .bool false, vI s.now, vU s.sent, vU rp, vU po, vU r0, vW r1, vB r2, vU r3, sv, vP bd 0, vP bg 0, vP bc 0, vP bp84 0, vP bx88 0, .map none] rfl rfl rfl rfl rfl rfl (by intro u hu; rw [List.mem_singleton.1 hu]; rfl) (zle rfl) rfl rfl rfl fun w94 hS => ?_
             replace hS := hS.m3.m3.m3
             refine dr_nil (.inr ⟨_, _, _, (hS.tail 3 rfl)⟩) (dr_run tbOk 2 hA ⟨_, _, _, (hS.tail 3 rfl)⟩ (e' := (105, vP b 25) :: (104, vP b 0) :: _) rfl fun a hA => dr_b (o := _) rfl ?_)
             replace hS := hS.m3
             refine st_store tbOk hA hS [.map (some m91)] [vI s.id, vI kn, vI s.no, vI s.pc, vI s.wa, vI s.tr, vI s.ag, vI pn, vI s.ro, vP bo 0, .bool false, vI s.now, vU s.sent, vU rp, vU po, vU r0, vW r1, vB r2, vU r3, sv, vP bd 0, vP bg 0, vP bc 0, vP bp84 0, vP bx88 0, .map (some m91)] rfl rfl rfl rfl rfl rfl (by intro u hu; rw [List.mem_singleton.1 hu]; rfl) (zle rfl) rfl rfl rfl fun w95 hS => ?_
             replace hS := hS.m3.m3.m3
             refine dr_nil (.inr ⟨_, _, _, (hS.tail 3 rfl)⟩) (ze (zx ?_))
             replace hS := hS.m1.m2.m6.m6.m6.m6
             exact ⟨bp84, bx88, m91, LP85, LB89, (hA.sel [0] rfl), hS, hp86, hb90⟩
           · refine dr_b (o := _) rfl ?_
             replace hS := hS.m2
             refine st_store tbOk hA hS [vP bp84 0] [vI s.id, vI kn, vI s.no, vI s.pc, vI s.wa, vI s.tr, vI s.ag, vI pn, vI s.ro, vP bo 0, .bool false, vI s.now, vU s.sent, vU rp, vU po, vU r0, vW r1, vB r2, vU r3, sv, vP bd 0, vP bg 0, vP bc 0, vP bp84 0, .pointer none, .map none] rfl rfl rfl rfl rfl rfl (by intro u hu; rw [List.mem_singleton.1 hu]; rfl) (zle rfl) rfl rfl rfl fun w96 hS => ?_
             replace hS := hS.m2.m2
             refine dr_nil (.inr ⟨_, _, _, (hS.tail 2 rfl)⟩) ?_
             refine dr_subN ?_
             refine dr_run tbOk 2 hA ⟨_, _, _, (hS.tail 2 rfl)⟩ (e' := (103, vP b 24) :: (102, vP b 0) :: _) rfl fun a hA => ?_
             refine dr_fork ?_ ?_
             · refine dr_b (o := _) rfl ?_
               refine st_makeMap hA hS rfl rfl rfl (by decide) fun m97 w98 a hS hA => ?_
               refine dr_nil (.inr ⟨_, _, _, (hS.tail 3 rfl)⟩) ?_
               refine dr_subL ?_
               refine dr_b (o := _) rfl ?_
               replace hS := hS.m3
               refine st_store tbOk hA hS [vP bx88 0] [vI s.id, vI kn, vI s.no, vI s.pc, vI s.wa, vI s.tr, vI s.ag, vI pn, vI s.ro, vP bo 0, .bool false, vI s.now, vU s.sent, vU rp, vU po, vU r0, vW r1, vB r2, vU r3, sv, vP bd 0, vP bg 0, vP bc 0, vP bp84 0, vP bx88 0, .map none] rfl rfl rfl rfl rfl rfl (by intro u hu; rw [List.mem_singleton.1 hu]; rfl) (zle rfl) rfl rfl rfl fun w99 hS => ?_
               replace hS := hS.m3.m3.m3
               refine dr_nil (.inr ⟨_, _, _, (hS.tail 3 rfl)⟩) (dr_run tbOk 2 hA ⟨_, _, _, (hS.tail 3 rfl)⟩ (e' := (105, vP b 25) :: (104, vP b 0) :: _) rfl fun a hA => dr_b (o := _) rfl ?_)
               replace hS := hS.m3
               refine st_store tbOk hA hS [.map (some m97)] [vI s.id, vI kn, vI s.no, vI s.pc, vI s.wa, vI s.tr, vI s.ag, vI pn, vI s.ro, vP bo 0, .bool false, vI s.now, vU s.sent, vU rp, vU po, vU r0, vW r1, vB r2, vU r3, sv, vP bd 0, vP bg 0, vP bc 0, vP bp84 0, vP bx88 0, .map (some m97)] rfl rfl rfl rfl rfl rfl (by intro u hu; rw [List.mem_singleton.1 hu]; rfl) (zle rfl) rfl rfl rfl fun w100 hS => ?_
               replace hS := hS.m3.m3.m3
               refine dr_nil (.inr ⟨_, _, _, (hS.tail 3 rfl)⟩) (ze (zx ?_))
               replace hS := hS.m1.m2.m6.m6.m6.m6
               exact ⟨bp84, bx88, m97, LP85, LB89, (hA.sel [0] rfl), hS, hp86, hb90⟩
             · refine dr_b (o := _) rfl ?_
               replace hS := hS.m2
               refine st_store tbOk hA hS [vP bx88 0] [vI s.id, vI kn, vI s.no, vI s.pc, vI s.wa, vI s.tr, vI s.ag, vI pn, vI s.ro, vP bo 0, .bool false, vI s.now, vU s.sent, vU rp, vU po, vU r0, vW r1, vB r2, vU r3, sv, vP bd 0, vP bg 0, vP bc 0, vP bp84 0, vP bx88 0, .map none] rfl rfl rfl rfl rfl rfl (by intro u hu; rw [List.mem_singleton.1 hu]; rfl) (zle rfl) rfl rfl rfl fun w101 hS => ?_
               replace hS := hS.m2.m2
               refine dr_nil (.inr ⟨_, _, _, (hS.tail 2 rfl)⟩) ?_
               refine dr_subL ?_
               refine dr_b (o := _) rfl ?_
               refine st_makeMap hA hS rfl rfl rfl (by decide) fun m102 w103 a hS hA => ?_
               refine dr_nil (.inr ⟨_, _, _, (hS.tail 3 rfl)⟩) (dr_run tbOk 2 hA ⟨_, _, _, (hS.tail 3 rfl)⟩ (e' := (105, vP b 25) :: (104, vP b 0) :: _) rfl fun a hA => dr_b (o := _) rfl ?_)
               replace hS := hS.m3
               refine st_store tbOk hA hS [.map (some m102)] [vI s.id, vI kn, vI s.no, vI s.pc, vI s.wa, vI s.tr, vI s.ag, vI pn, vI s.ro, vP bo 0, .bool false, vI s.now, vU s.sent, vU rp, vU po, vU r0, vW r1, vB r2, vU r3, sv, vP bd 0, vP bg 0, vP bc 0, vP bp84 0, vP bx88 0, .map (some m102)] rfl rfl rfl rfl rfl rfl (by intro u hu; rw [List.mem_singleton.1 hu]; rfl) (zle rfl) rfl rfl rfl fun w104 hS => ?_
               replace hS := hS.m3.m3.m3
               refine dr_nil (.inr ⟨_, _, _, (hS.tail 3 rfl)⟩) (ze (zx ?_))
               replace hS := hS.m1.m2.m6.m6.m6.m6
               exact ⟨bp84, bx88, m102, LP85, LB89, (hA.sel [0] rfl), hS, hp86, hb90⟩
         · refine dr_b (o := _) rfl ?_
           refine st_makeMap hA hS rfl rfl rfl (by decide) fun m105 w106 a hS hA => ?_
           refine dr_nil (.inr ⟨_, _, _, (hS.tail 2 rfl)⟩) ?_
           refine dr_subL ?_
           refine dr_b (o := _) rfl ?_
           refine st_call0 hA rfl rfl rfl isfn53 rfl rfl (by decide) (of53 hS _ s.ro (.inr (.inl ⟨by omega, by omega, rfl⟩))) ?_
           clear hA hS; rintro _ w107 a ⟨bx108, LB109, hb110, rfl, hS⟩ hA
           refine dr_nil (.inr ⟨_, _, _, (hS.tail 3 rfl)⟩) (dr_run tbOk 2 hA ⟨_, _, _, (hS.tail 3 rfl)⟩ (e' := (101, vP b 23) :: (100, vP b 0) :: _) rfl fun a hA => dr_b (o := _) rfl ?_)
           replace hS := hS.m3
           refine st_store tbOk hA hS [vP bp84 0] [vI s.id, vI kn, vI s.no, vI s.pc, vI s.wa, vI s.tr, vI s.ag, vI pn, vI s.ro, vP bo 0, .bool false, vI s.now, vU s.sent, vU rp, vU po, vU r0, vW r1, vB r2, vU r3, sv, vP bd 0, vP bg 0, vP bc 0, vP bp84 0, .pointer none, .map none] rfl rfl rfl rfl rfl rfl (by intro u hu; rw [List.mem_singleton.1 hu]; rfl) (zle rfl) rfl rfl rfl fun w111 hS => ?_
           replace hS := hS.m3.m3.m3
           refine dr_nil (.inr ⟨_, _, _, (hS.tail 3 rfl)⟩) (dr_run tbOk 2 hA ⟨_, _, _, (hS.tail 3 rfl)⟩ (e' := (103, vP b 24) :: (102, vP b 0) :: _) rfl fun a hA => dr_b (o := _) rfl ?_)
           replace hS := hS.m3
           refine st_store tbOk hA hS [vP bx108 0] [vI s.id, vI kn, vI s.no, vI s.pc, vI s.wa, vI s.tr, vI s.ag, vI pn, vI s.ro, vP bo 0, .bool false, vI s.now, vU s.sent, vU rp, vU po, vU r0, vW r1, vB r2, vU r3, sv, vP bd 0, vP bg 0, vP bc 0, vP bp84 0, vP bx108 0, .map none] rfl rfl rfl rfl rfl rfl (by intro u hu; rw [List.mem_singleton.1 hu]; rfl) (zle rfl) rfl rfl rfl fun w112 hS => ?_
           replace hS := hS.m3.m3.m3
           refine dr_nil (.inr ⟨_, _, _, (hS.tail 3 rfl)⟩) (dr_run tbOk 2 hA ⟨_, _, _, (hS.tail 3 rfl)⟩ (e' := (105, vP b 25) :: (104, vP b 0) :: _) rfl fun a hA => dr_b (o := _) rfl ?_)
           replace hS := hS.m3
           refine st_store tbOk hA hS [.map (some m105)] [vI s.id, vI kn, vI s.no, vI s.pc, vI s.wa, vI s.tr, vI s.ag, vI pn, vI s.ro, vP bo 0, .bool false, vI s.now, vU s.sent, vU rp, vU po, vU r0, vW r1, vB r2, vU r3, sv, vP bd 0, vP bg 0, vP bc 0, vP bp84 0, vP bx108 0, .map (some m105)] rfl rfl rfl rfl rfl rfl (by intro u hu; rw [List.mem_singleton.1 hu]; rfl) (zle rfl) rfl rfl rfl fun w113 hS => ?_
           replace hS := hS.m3.m3.m3
           refine dr_nil (.inr ⟨_, _, _, (hS.tail 3 rfl)⟩) (ze (zx ?_))
           replace hS := hS.m2.m6.m6.m6.m6
           exact ⟨bp84, bx108, m105, LP85, LB109, (hA.sel [0] rfl), hS, hp86, hb110⟩
       · refine dr_b (o := _) rfl ?_
         refine st_makeMap hA hS rfl rfl rfl (by decide) fun m114 w115 a hS hA => ?_
         refine dr_nil (.inr ⟨_, _, _, (hS.tail 1 rfl)⟩) ?_
         refine dr_subL ?_
         refine dr_b (o := _) rfl ?_
         refine st_call0 hA rfl rfl rfl isfn52 rfl rfl (by decide) (pm_of52 hS _ (by omega)) ?_
         clear hA hS; rintro _ w116 a ⟨bp117, LP118, hp119, rfl, hS⟩ hA
         refine dr_nil (.inr ⟨_, _, _, (hS.tail 2 rfl)⟩) (dr_b (o := _) rfl ?_)
         refine st_call0 hA rfl rfl rfl isfn53 rfl rfl (by decide) (of53 hS _ s.ro (.inr (.inl ⟨by omega, by omega, rfl⟩))) ?_
         clear hA hS; rintro _ w120 a ⟨bx121, LB122, hb123, rfl, hS⟩ hA
         refine dr_nil (.inr ⟨_, _, _, (hS.tail 3 rfl)⟩) (dr_run tbOk 2 hA ⟨_, _, _, (hS.tail 3 rfl)⟩ (e' := (101, vP b 23) :: (100, vP b 0) :: _) rfl fun a hA => dr_b (o := _) rfl ?_)
         replace hS := hS.m3
         refine st_store tbOk hA hS [vP bp117 0] [vI s.id, vI kn, vI s.no, vI s.pc, vI s.wa, vI s.tr, vI s.ag, vI pn, vI s.ro, vP bo 0, .bool false, vI s.now, vU s.sent, vU rp, vU po, vU r0, vW r1, vB r2, vU r3, sv, vP bd 0, vP bg 0, vP bc 0, vP bp117 0, .pointer none, .map none] rfl rfl rfl rfl rfl rfl (by intro u hu; rw [List.mem_singleton.1 hu]; rfl) (zle rfl) rfl rfl rfl fun w124 hS => ?_
         replace hS := hS.m3.m3.m3
         refine dr_nil (.inr ⟨_, _, _, (hS.tail 3 rfl)⟩) (dr_run tbOk 2 hA ⟨_, _, _, (hS.tail 3 rfl)⟩ (e' := (103, vP b 24) :: (102, vP b 0) :: _) rfl fun a hA => dr_b (o := _) rfl ?_)
         replace hS := hS.m3
         refine st_store tbOk hA hS [vP bx121 0] [vI s.id, vI kn, vI s.no, vI s.pc, vI s.wa, vI s.tr, vI s.ag, vI pn, vI s.ro, vP bo 0, .bool false, vI s.now, vU s.sent, vU rp, vU po, vU r0, vW r1, vB r2, vU r3, sv, vP bd 0, vP bg 0, vP bc 0, vP bp117 0, vP bx121 0, .map none] rfl rfl rfl rfl rfl rfl (by intro u hu; rw [List.mem_singleton.1 hu]; rfl) (zle rfl) rfl rfl rfl fun w125 hS => ?_
         replace hS := hS.m3.m3.m3
         refine dr_nil (.inr ⟨_, _, _, (hS.tail 3 rfl)⟩) (dr_run tbOk 2 hA ⟨_, _, _, (hS.tail 3 rfl)⟩ (e' := (105, vP b 25) :: (104, vP b 0) :: _) rfl fun a hA => dr_b (o := _) rfl ?_)
         replace hS := hS.m3
         refine st_store tbOk hA hS [.map (some m114)] [vI s.id, vI kn, vI s.no, vI s.pc, vI s.wa, vI s.tr, vI s.ag, vI pn, vI s.ro, vP bo 0, .bool false, vI s.now, vU s.sent, vU rp, vU po, vU r0, vW r1, vB r2, vU r3, sv, vP bd 0, vP bg 0, vP bc 0, vP bp117 0, vP bx121 0, .map (some m114)] rfl rfl rfl rfl rfl rfl (by intro u hu; rw [List.mem_singleton.1 hu]; rfl) (zle rfl) rfl rfl rfl fun w126 hS => ?_
         replace hS := hS.m3.m3.m3
         refine dr_nil (.inr ⟨_, _, _, (hS.tail 3 rfl)⟩) (ze (zx ?_))
         replace hS := hS.m1.m6.m6.m6.m6
         exact ⟨bp117, bx121, m114, LP118, LB122, (hA.sel [0] rfl), hS, hp119, hb123⟩
     · clear hA hS; rintro a w127 ⟨bp, bx, mp, LP, LB, hA, hS, hpm, hbx⟩
       refine zs (zr (zR 3 ((108, vP b 10) :: (107, vP b 0) :: (106, vP b 0) :: _) hA rfl fun a hA => ?_))
       refine st_store tbOk hA hS [.bool true] [vI s.id, vI kn, vI s.no, vI s.pc, vI s.wa, vI s.tr, vI s.ag, vI pn, vI s.ro, vP bo 0, .bool true, vI s.now, vU s.sent, vU rp, vU po, vU r0, vW r1, vB r2, vU r3, sv, vP bd 0, vP bg 0, vP bc 0, vP bp 0, vP bx 0, .map (some mp)] rfl rfl rfl rfl rfl rfl (by intro u hu; rw [List.mem_singleton.1 hu]; rfl) (zle rfl) rfl rfl rfl fun w128 hS => ?_
       refine zn (zx (zs (zr (zR 1 ((2, .nilIface) :: _) hA rfl fun a hA => zn (zx ?_)))))
       refine wp_ret ?_
       refine ret1 (fn := Tryz.f29) hA rfl rfl ?_
       replace hS : St w0 w128 (((b, rowO [vI s.id, vI kn, vI s.no, vI s.pc, vI s.wa, vI s.tr, vI s.ag, vI pn, vI s.ro, vP bo 0, .bool true, vI s.now, vU s.sent, vU rp, vU po, vU r0, vW r1, vB r2, vU r3, sv, vP bd 0, vP bg 0, vP bc 0, vP bp 0, vP bx 0, .map (some mp)] 121) :: ([(bd, rowO [.slice none 0 0] 127)] ++ ([(bg, rowO [.slice none 0 0] 130)] ++ (LC ++ (LP ++ (LB ++ ((mp, .map #[] 0) :: LV))))))) :: O9 :: F) := hS.cast (by simp)
       exact ⟨_, _, ⟨_, _, _, _, _, _, _, _, [], [], [], [], _, _, _, _, _, _, ⟨SR.new _, (GS.new w0 _).dx DX.bot, hcr, hpm, hbx, MapO.new .u64, hV, rfl, (fun x hx => by cases hx), rfl, (fun x hx => by cases hx), rfl, (fun x hx => by cases hx), rfl, (fun x hx => by cases hx)⟩, rfl⟩, hO9, rfl, hS⟩
theorem nboot0_29 {w0 w : World} {F : List Chunk} {b bo : Nat} {s : NC} {D : Chunk} {O : Chunk} {en : List (Nat × Nat × Nat)} {ts : List Nat} {k : Nat} (hS : St w0 w ([(b, rowO [vI s.id, .int .i64 0, vI s.no, vI s.pc, vI s.wa, vI s.tr, vI s.ag, vI s.pg, vI s.ro, vP bo 0, .bool false, vI s.now, vU s.sent, .int .u64 0, .int .u64 0, .int .u64 0, .int .u32 0, .int .u8 0, .int .u64 0, .pointer none, .pointer none, .pointer none, .pointer none, .pointer none, .pointer none, .map none] 121)] :: O :: F)) (hO : ORR bo en ts k O) {g rp : Nat} (hx0 : ts[k]? = some g) (hx1 : ts[k + 1]? = some rp) (hg : g < 281474976710656) (hno : ∀ x ∈ en, ¬ (x.1 = 0 ∧ x.2.1 = g % 281474976710656)) (hel : en.length ≤ 900) (hwa : 1 ≤ s.wa) (htr : 1 ≤ s.tr) (hag : 1 ≤ s.ag) (hro : s.ro ≤ 64) :
    Ret Tryz.prog 29 #[vP b 0] w (fun v w' => ∃ L' O', NUP w0 b bo ⟨⟨s.id, 0, s.no, s.pc, s.wa, s.tr, s.ag, s.pg, s.ro, s.now, s.sent, rp, 0, 0, 0, 0, 0⟩, [], [], [], [], [], [], []⟩ .none L' D ∧ ORR bo (en ++ [(0, g % 281474976710656, rp)]) ts (k + 1 + 1) O' ∧ v = .nilIface ∧ St w0 w' (L' :: O' :: F)) := by
  exact nbootX_29 (kn := 0) (pn := s.pg) (po := 0) (r0 := 0) (r1 := 0) (r2 := 0) (r3 := 0) (srv := .none) hS hO hx0 hx1 hg hno hel hwa htr hag hro (fun _ => ⟨rfl, rfl, rfl, rfl, rfl, rfl, rfl, rfl⟩) (fun h => absurd rfl h)
theorem nboot1_29 {w0 w : World} {F : List Chunk} {b bo : Nat} {s : NC} {D : Chunk} {O : Chunk} {en : List (Nat × Nat × Nat)} {ts : List Nat} {k : Nat} (hS : St w0 w ([(b, rowO [vI s.id, .int .i64 1, vI s.no, vI s.pc, vI s.wa, vI s.tr, vI s.ag, .int .i64 10, vI s.ro, vP bo 0, .bool false, vI s.now, vU s.sent, .int .u64 0, .int .u64 0, .int .u64 0, .int .u32 0, .int .u8 0, .int .u64 0, .pointer none, .pointer none, .pointer none, .pointer none, .pointer none, .pointer none, .map none] 121)] :: O :: F)) (hO : ORR bo en ts k O) {g rp : Nat} (hx0 : ts[k]? = some g) (hx1 : ts[k + 1]? = some rp) (hg : g < 281474976710656) (hno : ∀ x ∈ en, ¬ (x.1 = 0 ∧ x.2.1 = g % 281474976710656)) (hel : en.length ≤ 900) (hwa : 1 ≤ s.wa) (htr : 1 ≤ s.tr) (hag : 1 ≤ s.ag) (hro : s.ro ≤ 64) {g2 po x : Nat} (hx2 : ts[k + 1 + 1]? = some g2) (hx3 : ts[k + 1 + 1 + 1]? = some po) (hx4 : ts[k + 1 + 1 + 1 + 1]? = some x) (hg2 : g2 < 281474976710656) (hno2 : ∀ x ∈ en ++ [(0, g % 281474976710656, rp)], ¬ (x.1 = 0 ∧ x.2.1 = g2 % 281474976710656)) :
    Ret Tryz.prog 29 #[vP b 0] w (fun v w' => ∃ L' O', NUP w0 b bo ⟨⟨s.id, 1, s.no, s.pc, s.wa, s.tr, s.ag, 10, s.ro, s.now, s.sent, rp, po, po, 0, 255, x⟩, [], [], [], [], [], [], []⟩ .other L' D ∧ ORR bo (en ++ [(0, g % 281474976710656, rp)] ++ [(0, g2 % 281474976710656, po)]) ts (k + 1 + 1 + 1 + 1 + 1) O' ∧ v = .nilIface ∧ St w0 w' (L' :: O' :: F)) := by
  exact nbootX_29 (kn := 1) (pn := 10) (po := po) (r0 := po) (r1 := 0) (r2 := 255) (r3 := x) hS hO hx0 hx1 hg hno hel hwa htr hag hro (fun h => by cases h) (fun _ w9 O9 h9 hO9 => nserve1_50 (D := D) h9 hO9 hx2 hx3 hx4 hg2 hno2 (by rw [List.length_append]; show en.length + 1 ≤ _; omega))
theorem nboot2_29 {w0 w : World} {F : List Chunk} {b bo : Nat} {s : NC} {D : Chunk} {O : Chunk} {en : List (Nat × Nat × Nat)} {ts : List Nat} {k : Nat} (hS : St w0 w ([(b, rowO [vI s.id, .int .i64 2, vI s.no, vI s.pc, vI s.wa, vI s.tr, vI s.ag, vI s.pg, vI s.ro, vP bo 0, .bool false, vI s.now, vU s.sent, .int .u64 0, .int .u64 0, .int .u64 0, .int .u32 0, .int .u8 0, .int .u64 0, .pointer none, .pointer none, .pointer none, .pointer none, .pointer none, .pointer none, .map none] 121)] :: O :: F)) (hO : ORR bo en ts k O) {g rp : Nat} (hx0 : ts[k]? = some g) (hx1 : ts[k + 1]? = some rp) (hg : g < 281474976710656) (hno : ∀ x ∈ en, ¬ (x.1 = 0 ∧ x.2.1 = g % 281474976710656)) (hel : en.length ≤ 900) (hwa : 1 ≤ s.wa) (htr : 1 ≤ s.tr) (hag : 1 ≤ s.ag) (hro : s.ro ≤ 64) {g2 po x : Nat} (hx2 : ts[k + 1 + 1]? = some g2) (hx3 : ts[k + 1 + 1 + 1]? = some po) (hx4 : ts[k + 1 + 1 + 1 + 1]? = some x) (hg2 : g2 < 281474976710656) (hno2 : ∀ x ∈ en ++ [(0, g % 281474976710656, rp)], ¬ (x.1 = 0 ∧ x.2.1 = g2 % 281474976710656)) :
    Ret Tryz.prog 29 #[vP b 0] w (fun v w' => ∃ L' O', NUP w0 b bo ⟨⟨s.id, 2, s.no, s.pc, s.wa, s.tr, s.ag, s.pg, s.ro, s.now, s.sent, rp, po, po, 0, 255, x⟩, [], [], [], [], [], [], []⟩ .other L' D ∧ ORR bo (en ++ [(0, g % 281474976710656, rp)] ++ [(0, g2 % 281474976710656, po)]) ts (k + 1 + 1 + 1 + 1 + 1) O' ∧ v = .nilIface ∧ St w0 w' (L' :: O' :: F)) := by
  exact nbootX_29 (kn := 2) (pn := s.pg) (po := po) (r0 := po) (r1 := 0) (r2 := 255) (r3 := x) hS hO hx0 hx1 hg hno hel hwa htr hag hro (fun h => by cases h) (fun _ w9 O9 h9 hO9 => nserve2_50 (D := D) h9 hO9 hx2 hx3 hx4 hg2 hno2 (by rw [List.length_append]; show en.length + 1 ≤ _; omega))
theorem nboot3_29 {w0 w : World} {F : List Chunk} {b bo : Nat} {s : NC} {D : Chunk} {O : Chunk} {en : List (Nat × Nat × Nat)} {ts : List Nat} {k : Nat} (hS : St w0 w ([(b, rowO [vI s.id, .int .i64 3, vI s.no, vI s.pc, vI s.wa, vI s.tr, vI s.ag, vI s.pg, vI s.ro, vP bo 0, .bool false, vI s.now, vU s.sent, .int .u64 0, .int .u64 0, .int .u64 0, .int .u32 0, .int .u8 0, .int .u64 0, .pointer none, .pointer none, .pointer none, .pointer none, .pointer none, .pointer none, .map none] 121)] :: O :: F)) (hO : ORR bo en ts k O) {g rp : Nat} (hx0 : ts[k]? = some g) (hx1 : ts[k + 1]? = some rp) (hg : g < 281474976710656) (hno : ∀ x ∈ en, ¬ (x.1 = 0 ∧ x.2.1 = g % 281474976710656)) (hel : en.length ≤ 900) (hwa : 1 ≤ s.wa) (htr : 1 ≤ s.tr) (hag : 1 ≤ s.ag) (hro : s.ro ≤ 64) {g2 po x : Nat} (hx2 : ts[k + 1 + 1]? = some g2) (hx3 : ts[k + 1 + 1 + 1]? = some po) (hx4 : ts[k + 1 + 1 + 1 + 1]? = some x) (hg2 : g2 < 281474976710656) (hno2 : ∀ x ∈ en ++ [(0, g % 281474976710656, rp)], ¬ (x.1 = 0 ∧ x.2.1 = g2 % 281474976710656)) :
    Ret Tryz.prog 29 #[vP b 0] w (fun v w' => ∃ L' O', NUP w0 b bo ⟨⟨s.id, 3, s.no, s.pc, s.wa, s.tr, s.ag, s.pg, s.ro, s.now, s.sent, rp, po, po, 0, 255, x⟩, [], [], [], [], [], [], []⟩ (.file [(true, x, 0, -1, 24)] [] 0 0) L' D ∧ ORR bo (en ++ [(0, g % 281474976710656, rp)] ++ [(0, g2 % 281474976710656, po)]) ts (k + 1 + 1 + 1 + 1 + 1) O' ∧ v = .nilIface ∧ St w0 w' (L' :: O' :: F)) := by
  exact nbootX_29 (kn := 3) (pn := s.pg) (po := po) (r0 := po) (r1 := 0) (r2 := 255) (r3 := x) hS hO hx0 hx1 hg hno hel hwa htr hag hro (fun h => by cases h) (fun _ w9 O9 h9 hO9 => nserve3_50 (D := D) h9 hO9 hx2 hx3 hx4 hg2 hno2 (by rw [List.length_append]; show en.length + 1 ≤ _; omega))
end Go.Proofs.YthiakdmhpfkjbaaGreatDoor

set_option linter.unusedVariables false
set_option linter.unusedSimpArgs false
set_option maxRecDepth 4000
namespace Go.Proofs.YthiakdmhpfkjbaaGreatDoor
open Go Go.SK
theorem fnd_bef {el : List Ent} {es : List EA} {who id j : Nat} (h : el.map est = es.map EA.t) (hno : ∀ (q : Nat) (y : EA), q < j → es[q]? = some y → ¬ (y.who = who ∧ y.id = id)) : ∀ (i : Nat) (x : Ent), i < j → el[i]? = some x → fnd ((who : Nat) : Int) ((id : Nat) : Int) x = false := fun i x hi hx => by
  obtain ⟨y, hy, e⟩ := map_at9 h.symm hx
  have h1 := hno i y hi hy
  have e1 : ((y.who : Nat) : Int) = x.1 := congrArg (fun z => z.1) e
  have e2 : ((y.id : Nat) : Int) = x.2.1 := congrArg (fun z => z.2.1) e
  rw [fnd, Bool.and_eq_false_iff, beq_eq_false_iff_ne, beq_eq_false_iff_ne]
  omega
theorem ent_len {el : List Ent} {es : List EA} (h : el.map est = es.map EA.t) (hall : ∀ y ∈ es, y.rep.da.length ≤ 4096) : ∀ x ∈ el, (x.2.2.2.2.2.2.2.2.2.2.2.2.2.2.2).length ≤ 140737488351232 := fun x hx => by
  have h1 : est x ∈ es.map EA.t := h ▸ List.mem_map_of_mem (f := est) hx
  obtain ⟨y, hy, e⟩ := List.mem_map.1 h1
  have e1 : y.rep.da = x.2.2.2.2.2.2.2.2.2.2.2.2.2.2.2 := congrArg (fun z => z.2.2.2.2.2.2.2.2.2.2.2.2.2) e
  have h2 := hall y hy
  rw [← e1]; omega
set_option maxHeartbeats 8000000 in
theorem nwork_ign42 {w0 w : World} {F : List Chunk} {b bo : Nat} {st : NS} {sr : Srv} {L D : Chunk} (hS : St w0 w (L :: D :: F)) (hN : NUP w0 b bo st sr L D) (m : MN) (us2 : List MN) (hus : st.us = m :: us2) (h1 : m.to = st.c.rep) {k : Nat} {y : CA} (hy : st.ca[k]? = some y) (hid : m.id = k + 1) (hst : ¬ y.st = 1) (hcal : st.ca.length ≤ 64) :
 Ret Tryz.prog 42 #[vP b 0] w (fun v w' => ∃ L', NUP w0 b bo { st with us := us2 } sr L' D ∧ v = .tuple #[.slice none 0 0, .bool true] ∧ St w0 w' (L' :: D :: F)) := by
 obtain ⟨sv, bd, bg, bc, bp, bx, mp, ob, el, cl, ul, pl2, LS, LG, LC, LP, LB, LV, hn, rfl⟩ := hN
 replace hS : St w0 w ([(b, rowO [vI st.c.id, vI st.c.ki, vI st.c.no, vI st.c.pc, vI st.c.wa, vI st.c.tr, vI st.c.ag, vI st.c.pg, vI st.c.ro, vP bo 0, .bool true, vI st.c.now, vU st.c.sent, vU st.c.rep, vU st.c.port, vU st.c.r0, vW st.c.r1, vB st.c.r2, vU st.c.r3, sv, vP bd 0, vP bg 0, vP bc 0, vP bp 0, vP bx 0, .map (some mp)] 121)] :: LS :: LG :: LC :: LP :: LB :: [(mp, ob)] :: LV :: D :: F) := hS.cast (by simp)
 obtain ⟨x, ul2, hul, e, hum⟩ := map_cons9 (l := ul) (y := m) (k := us2) (by rw [hn.ful, hus]); have hdx := hn.fud x (by rw [hul]; exact List.mem_cons_self); have hbx0 := hn.fbx; rw [hul] at hbx0
 obtain ⟨x0, x1, x2, x3, x4, x5, x6, x7, x8, x9, xA, xc, xb⟩ := x
 simp only [mst, mdat, MN.t, Prod.mk.injEq] at e
 obtain ⟨e0, e1, e2, e3, e4, e5, e6, e7, e8, e9, e10⟩ := e
 subst e0 e1 e2 e3 e4 e5 e6 e7 e8 e9 e10
 obtain ⟨xk, hxk, ek⟩ := map_at9 hn.fcl hy
 obtain ⟨q0, q1, q2, q3, q4, q5, q6, q7, q8, q9, qA, qc, qb, x13, x14, x15, r0, r1, r2, r3, r4, r5, r6, r7, r8, r9, rA, rc, rb⟩ := xk
 simp only [c5, rq, rp, mst, mdat, cst, ctr, clf, CA.t, MN.t, Prod.mk.injEq] at ek
 obtain ⟨⟨e0, e1, e2, e3, e4, e5, e6, e7, e8, e9, e10⟩, e13, e14, e15, ⟨g0, g1, g2, g3, g4, g5, g6, g7, g8, g9, g10⟩⟩ := ek
 subst e0 e1 e2 e3 e4 e5 e6 e7 e8 e9 e10 e13 e14 e15 g0 g1 g2 g3 g4 g5 g6 g7 g8 g9 g10
 refine enter (vs := [vP b 0]) 78 Tryz.func42 rfl rfl (by simp) ?_; intro a hA
 refine zs (zr (zR 2 ((3, .bool false) :: (2, .slice none 0 0) :: _) hA rfl fun a hA => zn (zx (zs (zs (zr (zR 3 ((11, vP b 10) :: (10, vP b 0) :: (9, vP b 0) :: _) hA rfl fun a hA => zL hA hS 0 rfl rfl rfl rfl rfl rfl rfl rfl rfl fun a hA => zR 1 ((13, .bool false) :: _) hA rfl fun a hA => zn (zx (cd_cond_f hA rfl (zk (zx (zs (zr (zR 3 ((17, vP b 24) :: (16, vP b 0) :: (15, vP b 0) :: _) hA rfl fun a hA => zL hA hS 0 rfl rfl rfl rfl rfl rfl rfl rfl rfl fun a hA => ?_))))))))))))))
 replace hS := hS.m5
 refine st_call0 hA rfl rfl rfl isfn66 rfl rfl (by decide) (get_u66 hS hbx0) ?_
 clear hA hS; rintro _ w1 a ⟨LB2, hb2, rfl, hS⟩ hA
 replace hA := hA.rw 19 (v' := .tuple #[.agg #[vU m.to, vU m.rp, vW m.id, vH m.op, vH m.st, vU m.po, vW m.ob, vB m.ri, vU m.ck, vU m.ar, .slice xA m.da.length xc], .bool true]) rfl rfl
 refine zR 3 ((21, .bool true) :: (20, .agg #[vU m.to, vU m.rp, vW m.id, vH m.op, vH m.st, vU m.po, vW m.ob, vB m.ri, vU m.ck, vU m.ar, .slice xA m.da.length xc]) :: (14, .tuple #[.agg #[vU m.to, vU m.rp, vW m.id, vH m.op, vH m.st, vU m.po, vW m.ob, vB m.ri, vU m.ck, vU m.ar, .slice xA m.da.length xc], .bool true]) :: _) hA rfl fun a hA => ?_
 refine st_alloc tbOk hA hS [.int .u64 0, .int .u64 0, .int .u32 0, .int .u16 0, .int .u16 0, .int .u64 0, .int .u32 0, .int .u8 0, .int .u64 0, .int .u64 0, .slice none 0 0] rfl rfl rfl rfl rfl (by decide) fun b2 w3 a hS hA => ?_
 refine st_store tbOk hA hS [vU m.to, vU m.rp, vW m.id, vH m.op, vH m.st, vU m.po, vW m.ob, vB m.ri, vU m.ck, vU m.ar, .slice xA m.da.length xc] [vU m.to, vU m.rp, vW m.id, vH m.op, vH m.st, vU m.po, vW m.ob, vB m.ri, vU m.ck, vU m.ar, .slice xA m.da.length xc] rfl rfl rfl rfl rfl rfl (zn1 rfl) (zle rfl) rfl rfl rfl fun w4 hS => ?_
 refine zR 1 ((5, .bool true) :: _) hA rfl fun a hA => zn (zx (zs (zs (zr (zR 2 ((23, .bool false) :: (22, .bool true) :: _) hA rfl fun a hA => zn (zx (cd_cond_f hA rfl (zk (zx (zs (zs ?_)))))))))))
 refine zD0 hS [] [(0, true), (1, true), (2, true), (3, true), (4, true), (5, true), (6, true)] mixed (by kernel_rfl) (by rintro c a w ⟨_, _, h, _⟩; cases h) (by rfl) (by kernel_rfl) ?_
 replace hS := hS.drew
 refine zW 1 ((24, vP b2 0) :: _) hA hS rfl fun a hA => zY hA hS 0 rfl rfl rfl rfl rfl rfl rfl rfl rfl rfl fun a hA => zW 3 ((28, vP b 13) :: (27, vP b 0) :: (26, vP b 0) :: _) hA hS rfl fun a hA => zY hA hS 2 rfl rfl rfl rfl rfl rfl rfl rfl rfl rfl fun a hA => zW 1 ((30, .bool (((m.to : Nat) : Int) == ((st.c.rep : Nat) : Int))) :: _) hA hS rfl fun a hA => ze (zx ?_)
 have hc5 : ((m.to : Nat) : Int) = ((st.c.rep : Nat) : Int) := by omega
 replace hA := hA.rw 30 (v' := .bool true) rfl (vb_eq_t hc5)
 refine cd_cond_t hA rfl (zs ?_)
 replace hS := hS.m9.m6
 refine zD2 hS [] [(0, true), (1, true), (2, true), (3, true), (4, true), (5, false)] mixed (by kernel_rfl) (by rintro c a w ⟨_, _, h, _⟩; cases h) (by rfl) (by kernel_rfl) ?_
 replace hS := hS.drew
 refine zW 3 ((33, vP b 22) :: (32, vP b 0) :: (31, vP b 0) :: _) hA (hS.tail 2 rfl) rfl fun a hA => zY hA (hS.tail 2 rfl) 2 rfl rfl rfl rfl rfl rfl rfl rfl rfl rfl fun a hA => zYA hA (hS.tail 2 rfl) 0 [vU m.to, vU m.rp, vW m.id, vH m.op, vH m.st, vU m.po, vW m.ob, vB m.ri, vU m.ck, vU m.ar, .slice xA m.da.length xc] rfl rfl rfl rfl rfl rfl rfl rfl rfl rfl rfl fun a hA => dr_b (o := _) rfl ?_
 replace hS := hS.m1.m1
 refine st_call0 hA rfl rfl rfl isfn67 rfl rfl (by decide) (answer_no67 hS hn.fcr ((m.to : Nat) : Int) ((m.rp : Nat) : Int) ((m.id : Nat) : Int) ((m.op : Nat) : Int) ((m.st : Nat) : Int) ((m.po : Nat) : Int) ((m.ob : Nat) : Int) ((m.ri : Nat) : Int) ((m.ck : Nat) : Int) ((m.ar : Nat) : Int) _ hxk (by have h := map_len9 hn.fcl; omega) (by omega) (fun h9 => hst (by have h8 : ((y.st : Nat) : Int) = 1 := h9.1; omega))) ?_
 clear hA hS; rintro _ w6 a ⟨LC2, hcr2, rfl, hS⟩ hA
 refine zi (hS.tail 2 rfl) (ze (zx (zs (zr (zR 2 ((3, .bool true) :: (2, .slice none 0 0) :: _) hA rfl fun a hA => zn (zx ?_))))))
 refine wp_ret (xt_ret ?_)
 refine ret2 (fn := Tryz.f42) hA rfl rfl rfl ?_
 replace hS := hS.m2.d0.m1.m8.m8.m4.m8.m5.m8.m8.m8
 replace hS : St w0 w6 (((b, rowO [vI st.c.id, vI st.c.ki, vI st.c.no, vI st.c.pc, vI st.c.wa, vI st.c.tr, vI st.c.ag, vI st.c.pg, vI st.c.ro, vP bo 0, .bool true, vI st.c.now, vU st.c.sent, vU st.c.rep, vU st.c.port, vU st.c.r0, vW st.c.r1, vB st.c.r2, vU st.c.r3, sv, vP bd 0, vP bg 0, vP bc 0, vP bp 0, vP bx 0, .map (some mp)] 121) :: (LS ++ (LG ++ (LC2 ++ (LP ++ (LB2 ++ ((mp, ob) :: LV))))))) :: D :: F) := hS.cast (by simp)
 exact ⟨_, ⟨_, _, _, _, _, _, _, _, _, _, _, _, _, _, _, _, _, _, ⟨hn.fsr, hn.fgs, hcr2, hn.fpm, hb2, hn.fmp, hn.fsv, hn.fel, hn.fed, hn.fcl, hn.fcd, hum, (fun z hz => hn.fud z (by rw [hul]; exact List.mem_cons_of_mem _ hz)), hn.fpl, hn.fpd⟩, rfl⟩, rfl, hS⟩
set_option maxHeartbeats 8000000 in
theorem nwork_again42 {w0 w : World} {F : List Chunk} {b bo : Nat} {st : NS} {sr : Srv} {L D : Chunk} (hS : St w0 w (L :: D :: F)) (hN : NUP w0 b bo st sr L D) (m : MN) (ps2 : List MN) (hus : st.us = []) (hps : st.ps = m :: ps2) (h1 : ¬ m.to = st.c.rep) {je : Nat} {ye : EA} (hj : st.es[je]? = some ye) (hwho : ye.who = m.rp) (hidm : ye.id = m.id) (hst2 : ye.st = 2) (hjn : ∀ (q : Nat) (y : EA), q < je → st.es[q]? = some y → ¬ (y.who = m.rp ∧ y.id = m.id)) (hall : ∀ y ∈ st.es, y.rep.da.length ≤ 4096) (hell : st.es.length ≤ 32) {js z0 : Nat} (hjs : st.sd[js]? = some (m.rp, z0)) (hjsn : ∀ (q : Nat) (y : Nat × Nat), q < js → st.sd[q]? = some y → ¬ y.1 = m.rp) (hp1 : 1 ≤ st.c.pc) (hp2 : st.c.pc ≤ 32768) (hsn : st.c.sent < 1000000000) (hrok : ye.rep.ok) (hnr : nP (encM ye.rep) st.c.pc ≤ 256) :
 Ret Tryz.prog 42 #[vP b 0] w (fun v w' => ∃ L' ps A c C D', NUP w0 b bo { st with c := { st.c with sent := st.c.sent + 1 }, ps := ps2 } sr L' D' ∧ Own 94 6 (.slice A ps.length c) ps.length (rows encPacket ps) C ∧ PKS w0 D' ps (splitM (encM ye.rep) st.c.id z0 (st.c.sent + 1) st.c.pc) ∧ DX w0 D D' ∧ v = .tuple #[.slice A ps.length c, .bool true] ∧ St w0 w' (L' :: C :: D' :: F)) := by
 obtain ⟨sv, bd, bg, bc, bp, bx, mp, ob, el, cl, ul, pl2, LS, LG, LC, LP, LB, LV, hn, rfl⟩ := hN
 replace hS : St w0 w ([(b, rowO [vI st.c.id, vI st.c.ki, vI st.c.no, vI st.c.pc, vI st.c.wa, vI st.c.tr, vI st.c.ag, vI st.c.pg, vI st.c.ro, vP bo 0, .bool true, vI st.c.now, vU st.c.sent, vU st.c.rep, vU st.c.port, vU st.c.r0, vW st.c.r1, vB st.c.r2, vU st.c.r3, sv, vP bd 0, vP bg 0, vP bc 0, vP bp 0, vP bx 0, .map (some mp)] 121)] :: LS :: LG :: LC :: LP :: LB :: [(mp, ob)] :: LV :: D :: F) := hS.cast (by simp)
 have hu0 : ul = [] := map_nil9 (by rw [hn.ful, hus]); obtain ⟨x, ul2, hul, e, hum⟩ := map_cons9 (l := pl2) (y := m) (k := ps2) (by rw [hn.fpl, hps]); have hdx := hn.fpd x (by rw [hul]; exact List.mem_cons_self); have hbx0 := hn.fbx; rw [hu0, hul] at hbx0
 obtain ⟨x0, x1, x2, x3, x4, x5, x6, x7, x8, x9, xA, xc, xb⟩ := x
 simp only [mst, mdat, MN.t, Prod.mk.injEq] at e
 obtain ⟨e0, e1, e2, e3, e4, e5, e6, e7, e8, e9, e10⟩ := e
 subst e0 e1 e2 e3 e4 e5 e6 e7 e8 e9 e10
 obtain ⟨xe, hxe, ee⟩ := map_at9 hn.fel hj; have hel := ent_len hn.fel hall
 obtain ⟨y0, y1, y2, y3, y4, y5, y6, y7, y8, y9, y10, y11, y12, yA, yc, yb⟩ := xe
 simp only [est, EA.t, MN.t, Prod.mk.injEq] at ee
 obtain ⟨g0, g1, g2, g3, g4, g5, g6, g7, g8, g9, g10, g11, g12, g13⟩ := ee
 subst g0 g1 g2 g3 g4 g5 g6 g7 g8 g9 g10 g11 g12 g13
 refine enter (vs := [vP b 0]) 78 Tryz.func42 rfl rfl (by simp) ?_; intro a hA
 refine zs (zr (zR 2 ((3, .bool false) :: (2, .slice none 0 0) :: _) hA rfl fun a hA => zn (zx (zs (zs (zr (zR 3 ((11, vP b 10) :: (10, vP b 0) :: (9, vP b 0) :: _) hA rfl fun a hA => zL hA hS 0 rfl rfl rfl rfl rfl rfl rfl rfl rfl fun a hA => zR 1 ((13, .bool false) :: _) hA rfl fun a hA => zn (zx (cd_cond_f hA rfl (zk (zx (zs (zr (zR 3 ((17, vP b 24) :: (16, vP b 0) :: (15, vP b 0) :: _) hA rfl fun a hA => zL hA hS 0 rfl rfl rfl rfl rfl rfl rfl rfl rfl fun a hA => ?_))))))))))))))
 replace hS := hS.m5
 refine st_call0 hA rfl rfl rfl isfn66 rfl rfl (by decide) (get_p66 hS hbx0) ?_
 clear hA hS; rintro _ w1 a ⟨LB2, hb2, rfl, hS⟩ hA
 replace hA := hA.rw 19 (v' := .tuple #[.agg #[vU m.to, vU m.rp, vW m.id, vH m.op, vH m.st, vU m.po, vW m.ob, vB m.ri, vU m.ck, vU m.ar, .slice xA m.da.length xc], .bool true]) rfl rfl
 refine zR 3 ((21, .bool true) :: (20, .agg #[vU m.to, vU m.rp, vW m.id, vH m.op, vH m.st, vU m.po, vW m.ob, vB m.ri, vU m.ck, vU m.ar, .slice xA m.da.length xc]) :: (14, .tuple #[.agg #[vU m.to, vU m.rp, vW m.id, vH m.op, vH m.st, vU m.po, vW m.ob, vB m.ri, vU m.ck, vU m.ar, .slice xA m.da.length xc], .bool true]) :: _) hA rfl fun a hA => ?_
 refine st_alloc tbOk hA hS [.int .u64 0, .int .u64 0, .int .u32 0, .int .u16 0, .int .u16 0, .int .u64 0, .int .u32 0, .int .u8 0, .int .u64 0, .int .u64 0, .slice none 0 0] rfl rfl rfl rfl rfl (by decide) fun b2 w3 a hS hA => ?_
 refine st_store tbOk hA hS [vU m.to, vU m.rp, vW m.id, vH m.op, vH m.st, vU m.po, vW m.ob, vB m.ri, vU m.ck, vU m.ar, .slice xA m.da.length xc] [vU m.to, vU m.rp, vW m.id, vH m.op, vH m.st, vU m.po, vW m.ob, vB m.ri, vU m.ck, vU m.ar, .slice xA m.da.length xc] rfl rfl rfl rfl rfl rfl (zn1 rfl) (zle rfl) rfl rfl rfl fun w4 hS => ?_
 refine zR 1 ((5, .bool true) :: _) hA rfl fun a hA => zn (zx (zs (zs (zr (zR 2 ((23, .bool false) :: (22, .bool true) :: _) hA rfl fun a hA => zn (zx (cd_cond_f hA rfl (zk (zx (zs (zs ?_)))))))))))
 refine zD0 hS [] [(0, true), (1, true), (2, true), (3, true), (4, true), (5, true), (6, true)] mixed (by kernel_rfl) (by rintro c a w ⟨_, _, h, _⟩; cases h) (by rfl) (by kernel_rfl) ?_
 replace hS := hS.drew
 refine zW 1 ((24, vP b2 0) :: _) hA hS rfl fun a hA => zY hA hS 0 rfl rfl rfl rfl rfl rfl rfl rfl rfl rfl fun a hA => zW 3 ((28, vP b 13) :: (27, vP b 0) :: (26, vP b 0) :: _) hA hS rfl fun a hA => zY hA hS 2 rfl rfl rfl rfl rfl rfl rfl rfl rfl rfl fun a hA => zW 1 ((30, .bool (((m.to : Nat) : Int) == ((st.c.rep : Nat) : Int))) :: _) hA hS rfl fun a hA => ze (zx ?_)
 have hc5 : ¬ (((m.to : Nat) : Int) = ((st.c.rep : Nat) : Int)) := by omega
 replace hA := hA.rw 30 (v' := .bool false) rfl (vb_eq_f hc5)
 refine cd_cond_f hA rfl (zk (zx (zs ?_)))
 replace hS := hS.m9.m4
 refine wp_drawN (fun w' => St w0 w' ([(b2, rowO [vU m.to, vU m.rp, vW m.id, vH m.op, vH m.st, vU m.po, vW m.ob, vB m.ri, vU m.ck, vU m.ar, .slice xA m.da.length xc] 46)] :: LB2 :: [(b, rowO [vI st.c.id, vI st.c.ki, vI st.c.no, vI st.c.pc, vI st.c.wa, vI st.c.tr, vI st.c.ag, vI st.c.pg, vI st.c.ro, vP bo 0, .bool true, vI st.c.now, vU st.c.sent, vU st.c.rep, vU st.c.port, vU st.c.r0, vW st.c.r1, vB st.c.r2, vU st.c.r3, sv, vP bd 0, vP bg 0, vP bc 0, vP bp 0, vP bx 0, .map (some mp)] 121)] :: LG :: LC :: LP :: [(mp, ob)] :: LV :: F)) [] [(0, true), (1, true), (2, true), (3, true), (4, true)] 5 (.L [(6, true), (7, true), (8, true), (9, true), (10, false), (11, true), (12, false), (13, true)]) 10 (.L [(5, false), (6, true), (7, true), (8, true), (9, true), (11, true), (12, false), (13, true)]) mixed (by kernel_rfl) (by rintro c a w ⟨_, _, h, _⟩; cases h) (by rfl) (by kernel_rfl) ?_
 replace hS := hS.drew
 refine zW 3 ((40, vP b 20) :: (39, vP b 0) :: (38, vP b 0) :: _) hA (hS.tail 2 rfl) rfl fun a hA => zY hA (hS.tail 2 rfl) 2 rfl rfl rfl rfl rfl rfl rfl rfl rfl rfl fun a hA => zYA hA (hS.tail 2 rfl) 0 [vU m.to, vU m.rp, vW m.id, vH m.op, vH m.st, vU m.po, vW m.ob, vB m.ri, vU m.ck, vU m.ar, .slice xA m.da.length xc] rfl rfl rfl rfl rfl rfl rfl rfl rfl rfl rfl fun a hA => ?_
 refine dr_fork ?_ ?_
 · refine dr_b (o := _) rfl ?_
   replace hS := hS.m1.m1
   refine st_call0 hA rfl rfl rfl isfn68 rfl rfl (by decide) (take_known68 hS hn.fsr ((m.to : Nat) : Int) ((m.rp : Nat) : Int) ((m.id : Nat) : Int) ((m.op : Nat) : Int) ((m.st : Nat) : Int) ((m.po : Nat) : Int) ((m.ob : Nat) : Int) ((m.ri : Nat) : Int) ((m.ck : Nat) : Int) ((m.ar : Nat) : Int) _ hxe (by simp [fnd, hwho, hidm]) (fnd_bef hn.fel hjn) hn.fed hel (by have h := map_len9 hn.fel; omega)) ?_
   clear hA hS; rintro _ w6 a ⟨LS2, E1, A1, c1, hs2, hE1, rfl, hS⟩ hA
   have hX7 : DX w0 D (E1 ++ D) := DX.refl.step
   replace hA := hA.rw 43 (v' := .tuple #[.int .i64 2, .agg #[vU ye.rep.to, vU ye.rep.rp, vW ye.rep.id, vH ye.rep.op, vH ye.rep.st, vU ye.rep.po, vW ye.rep.ob, vB ye.rep.ri, vU ye.rep.ck, vU ye.rep.ar, .slice A1 ye.rep.da.length c1], .nilIface]) rfl (congrArg (fun z => Value.tuple #[.int .i64 z, .agg #[vU ye.rep.to, vU ye.rep.rp, vW ye.rep.id, vH ye.rep.op, vH ye.rep.st, vU ye.rep.po, vW ye.rep.ob, vB ye.rep.ri, vU ye.rep.ck, vU ye.rep.ar, .slice A1 ye.rep.da.length c1], .nilIface]) (by show ((ye.st : Nat) : Int) = 2; omega))
   refine zi (hS.tail 2 rfl) ?_
   refine dr_subL ?_
   refine zW 4 ((46, .nilIface) :: (45, .agg #[vU ye.rep.to, vU ye.rep.rp, vW ye.rep.id, vH ye.rep.op, vH ye.rep.st, vU ye.rep.po, vW ye.rep.ob, vB ye.rep.ri, vU ye.rep.ck, vU ye.rep.ar, .slice A1 ye.rep.da.length c1]) :: (44, .int .i64 2) :: (37, .tuple #[.int .i64 2, .agg #[vU ye.rep.to, vU ye.rep.rp, vW ye.rep.id, vH ye.rep.op, vH ye.rep.st, vU ye.rep.po, vW ye.rep.ob, vB ye.rep.ri, vU ye.rep.ck, vU ye.rep.ar, .slice A1 ye.rep.da.length c1], .nilIface]) :: _) hA (hS.tail 2 rfl) rfl fun a hA => dr_b (o := _) rfl ?_
   refine st_alloc tbOk hA hS [.int .u64 0, .int .u64 0, .int .u32 0, .int .u16 0, .int .u16 0, .int .u64 0, .int .u32 0, .int .u8 0, .int .u64 0, .int .u64 0, .slice none 0 0] rfl rfl rfl rfl rfl (by decide) fun b8 w9 a hS hA => ?_
   refine zi (hS.tail 3 rfl) (zW 1 ((6, .int .i64 2) :: _) hA (hS.tail 3 rfl) rfl fun a hA => dr_b (o := _) rfl ?_)
   refine st_store tbOk hA hS [vU ye.rep.to, vU ye.rep.rp, vW ye.rep.id, vH ye.rep.op, vH ye.rep.st, vU ye.rep.po, vW ye.rep.ob, vB ye.rep.ri, vU ye.rep.ck, vU ye.rep.ar, .slice A1 ye.rep.da.length c1] [vU ye.rep.to, vU ye.rep.rp, vW ye.rep.id, vH ye.rep.op, vH ye.rep.st, vU ye.rep.po, vW ye.rep.ob, vB ye.rep.ri, vU ye.rep.ck, vU ye.rep.ar, .slice A1 ye.rep.da.length c1] rfl rfl rfl rfl rfl rfl (zn1 rfl) (zle rfl) rfl rfl rfl fun w10 hS => ?_
   refine zi (hS.tail 3 rfl) (zW 1 ((8, .nilIface) :: _) hA (hS.tail 3 rfl) rfl fun a hA => ze (zx (zs (zb (zs (zs (zr (zR 3 ((47, .bool false) :: (49, .bool false) :: (48, .nilIface) :: _) hA rfl fun a hA => zn (zx (cd_cond_f hA rfl (zr (zR 3 ((47, .bool false) :: (51, .bool false) :: (50, .int .i64 2) :: _) hA rfl fun a hA => zn (zx (cd_cond_f hA rfl (zs (zr (zR 3 ((52, .bool false) :: (54, .bool false) :: (53, .int .i64 2) :: _) hA rfl fun a hA => zn (zx (cd_cond_f hA rfl (zk (zm (zx (zs ?_)))))))))))))))))))))))
   refine zD0 hS [9, 10, 11] [(0, true), (1, true), (2, true), (3, true), (4, true), (5, true), (6, true), (7, true), (8, false), (9, false), (10, false), (11, false)] mixed (by kernel_rfl) (by rintro c a w ⟨_, _, h, _⟩; cases h) (by rfl) (by kernel_rfl) ?_
   replace hS := hS.drew
   refine zW 1 ((68, vP b 0) :: _) hA hS rfl fun a hA => zYA hA hS 0 [vU ye.rep.to, vU ye.rep.rp, vW ye.rep.id, vH ye.rep.op, vH ye.rep.st, vU ye.rep.po, vW ye.rep.ob, vB ye.rep.ri, vU ye.rep.ck, vU ye.rep.ar, .slice A1 ye.rep.da.length c1] rfl rfl rfl rfl rfl rfl rfl rfl rfl rfl rfl fun a hA => zW 3 ((72, vP b 25) :: (71, vP b 0) :: (70, vP b 0) :: _) hA hS rfl fun a hA => zY hA hS 5 rfl rfl rfl rfl rfl rfl rfl rfl rfl rfl fun a hA => zW 1 ((74, vP b2 1) :: _) hA hS rfl fun a hA => zY hA hS 3 rfl rfl rfl rfl rfl rfl rfl rfl rfl rfl fun a hA => dr_b (o := _) rfl (st_val hA rfl rfl (by decide) (rn_lookup_hit tbOk hA rfl rfl rfl rfl rfl rfl rfl (hS.heapAt 9 rfl) hn.fmp (sdv_at hjs) (sdv_bef hjsn)) fun a hA => zi hS (dr_b (o := _) rfl ?_))
   replace hS := hS.m2.m5
   refine st_call0 hA rfl rfl rfl isfn62 rfl rfl (by decide) (npackets62 (s := st.c) hS ye.rep hrok z0 (DD.rds (F := (E1 ++ D) :: _) (DD.right hE1) 0 rfl) (by omega) hp1 hp2 hnr) ?_
   clear hA hS; rintro _ w11 a ⟨psq, Aq, cq, Cq, Eq, hOq, hKq, rfl, hS⟩ hA
   have hX12 : DX w0 (E1 ++ D) (Eq ++ (E1 ++ D)) := DX.refl.step
   refine dr_nil (.inl (by decide)) (dr_b (o := _) rfl (zR 1 ((2, .slice Aq psq.length cq) :: _) hA rfl fun a hA => dr_nil (.inl (by decide)) (dr_b (o := _) rfl (zR 1 ((3, .bool true) :: _) hA rfl fun a hA => dr_nil (.inl (by decide)) (ze (zx ?_))))))
   refine wp_ret ?_
   refine ret2 (fn := Tryz.f42) hA rfl rfl rfl ?_
   replace hS := hS.m3.d0.m4.d0.m2.m2.m9.m9.m6.m9.m9.m9.m9.m9
   replace hS : St w0 w11 (((b, rowO [vI st.c.id, vI st.c.ki, vI st.c.no, vI st.c.pc, vI st.c.wa, vI st.c.tr, vI st.c.ag, vI st.c.pg, vI st.c.ro, vP bo 0, .bool true, vI st.c.now, vU (st.c.sent + 1), vU st.c.rep, vU st.c.port, vU st.c.r0, vW st.c.r1, vB st.c.r2, vU st.c.r3, sv, vP bd 0, vP bg 0, vP bc 0, vP bp 0, vP bx 0, .map (some mp)] 121) :: (LS2 ++ (LG ++ (LC ++ (LP ++ (LB2 ++ ((mp, ob) :: LV))))))) :: Cq :: (Eq ++ (E1 ++ D)) :: F) := hS.cast (by simp)
   exact ⟨_, psq, Aq, cq, Cq, (Eq ++ (E1 ++ D)), ⟨_, _, _, _, _, _, _, _, _, _, _, _, _, _, _, _, _, _, ⟨hs2, (hn.fgs.dx (hX7.trans hX12)), hn.fcr, hn.fpm, hb2, hn.fmp, (hn.fsv.dx (hX7.trans hX12)), hn.fel, (ent_dx hn.fed (hX7.trans hX12)), hn.fcl, ((hX7.trans hX12).calls hn.fcd), (by rw [hus]; rfl), (fun z hz => by cases hz), hum, (msg_dx (fun z hz => hn.fpd z (by rw [hul]; exact List.mem_cons_of_mem _ hz)) (hX7.trans hX12))⟩, rfl⟩, hOq, ⟨hKq.1, fun x hx => DD.right (hKq.2 x hx)⟩, (hX7.trans hX12), rfl, hS⟩
 · refine dr_b (o := _) rfl ?_
   refine st_alloc tbOk hA hS [.int .u64 0, .int .u64 0, .int .u32 0, .int .u16 0, .int .u16 0, .int .u64 0, .int .u32 0, .int .u8 0, .int .u64 0, .int .u64 0, .slice none 0 0] rfl rfl rfl rfl rfl (by decide) fun b13 w14 a hS hA => ?_
   refine zi (hS.tail 3 rfl) ?_
   refine dr_subL ?_
   refine dr_b (o := _) rfl ?_
   replace hS := hS.m2.m2
   refine st_call0 hA rfl rfl rfl isfn68 rfl rfl (by decide) (take_known68 hS hn.fsr ((m.to : Nat) : Int) ((m.rp : Nat) : Int) ((m.id : Nat) : Int) ((m.op : Nat) : Int) ((m.st : Nat) : Int) ((m.po : Nat) : Int) ((m.ob : Nat) : Int) ((m.ri : Nat) : Int) ((m.ck : Nat) : Int) ((m.ar : Nat) : Int) _ hxe (by simp [fnd, hwho, hidm]) (fnd_bef hn.fel hjn) hn.fed hel (by have h := map_len9 hn.fel; omega)) ?_
   clear hA hS; rintro _ w15 a ⟨LS2, E1, A1, c1, hs2, hE1, rfl, hS⟩ hA
   have hX16 : DX w0 D (E1 ++ D) := DX.refl.step
   replace hA := hA.rw 43 (v' := .tuple #[.int .i64 2, .agg #[vU ye.rep.to, vU ye.rep.rp, vW ye.rep.id, vH ye.rep.op, vH ye.rep.st, vU ye.rep.po, vW ye.rep.ob, vB ye.rep.ri, vU ye.rep.ck, vU ye.rep.ar, .slice A1 ye.rep.da.length c1], .nilIface]) rfl (congrArg (fun z => Value.tuple #[.int .i64 z, .agg #[vU ye.rep.to, vU ye.rep.rp, vW ye.rep.id, vH ye.rep.op, vH ye.rep.st, vU ye.rep.po, vW ye.rep.ob, vB ye.rep.ri, vU ye.rep.ck, vU ye.rep.ar, .slice A1 ye.rep.da.length c1], .nilIface]) (by show ((ye.st : Nat) : Int) = 2; omega))
   refine zi (hS.tail 3 rfl) (zW 5 ((6, .int .i64 2) :: (46, .nilIface) :: (45, .agg #[vU ye.rep.to, vU ye.rep.rp, vW ye.rep.id, vH ye.rep.op, vH ye.rep.st, vU ye.rep.po, vW ye.rep.ob, vB ye.rep.ri, vU ye.rep.ck, vU ye.rep.ar, .slice A1 ye.rep.da.length c1]) :: (44, .int .i64 2) :: (37, .tuple #[.int .i64 2, .agg #[vU ye.rep.to, vU ye.rep.rp, vW ye.rep.id, vH ye.rep.op, vH ye.rep.st, vU ye.rep.po, vW ye.rep.ob, vB ye.rep.ri, vU ye.rep.ck, vU ye.rep.ar, .slice A1 ye.rep.da.length c1], .nilIface]) :: _) hA (hS.tail 3 rfl) rfl fun a hA => dr_b (o := _) rfl ?_)
   replace hS := hS.m2
   refine st_store tbOk hA hS [vU ye.rep.to, vU ye.rep.rp, vW ye.rep.id, vH ye.rep.op, vH ye.rep.st, vU ye.rep.po, vW ye.rep.ob, vB ye.rep.ri, vU ye.rep.ck, vU ye.rep.ar, .slice A1 ye.rep.da.length c1] [vU ye.rep.to, vU ye.rep.rp, vW ye.rep.id, vH ye.rep.op, vH ye.rep.st, vU ye.rep.po, vW ye.rep.ob, vB ye.rep.ri, vU ye.rep.ck, vU ye.rep.ar, .slice A1 ye.rep.da.length c1] rfl rfl rfl rfl rfl rfl (zn1 rfl) (zle rfl) rfl rfl rfl fun w17 hS => ?_
   refine zi (hS.tail 3 rfl) (zW 1 ((8, .nilIface) :: _) hA (hS.tail 3 rfl) rfl fun a hA => ze (zx (zs (zb (zs (zs (zr (zR 3 ((47, .bool false) :: (49, .bool false) :: (48, .nilIface) :: _) hA rfl fun a hA => zn (zx (cd_cond_f hA rfl (zr (zR 3 ((47, .bool false) :: (51, .bool false) :: (50, .int .i64 2) :: _) hA rfl fun a hA => zn (zx (cd_cond_f hA rfl (zs (zr (zR 3 ((52, .bool false) :: (54, .bool false) :: (53, .int .i64 2) :: _) hA rfl fun a hA => zn (zx (cd_cond_f hA rfl (zk (zm (zx (zs ?_)))))))))))))))))))))))
   refine zD0 hS [9, 10, 11] [(0, true), (1, true), (2, true), (3, true), (4, true), (5, true), (6, true), (7, true), (8, false), (9, false), (10, false), (11, false)] mixed (by kernel_rfl) (by rintro c a w ⟨_, _, h, _⟩; cases h) (by rfl) (by kernel_rfl) ?_
   replace hS := hS.drew
   refine zW 1 ((68, vP b 0) :: _) hA hS rfl fun a hA => zYA hA hS 0 [vU ye.rep.to, vU ye.rep.rp, vW ye.rep.id, vH ye.rep.op, vH ye.rep.st, vU ye.rep.po, vW ye.rep.ob, vB ye.rep.ri, vU ye.rep.ck, vU ye.rep.ar, .slice A1 ye.rep.da.length c1] rfl rfl rfl rfl rfl rfl rfl rfl rfl rfl rfl fun a hA => zW 3 ((72, vP b 25) :: (71, vP b 0) :: (70, vP b 0) :: _) hA hS rfl fun a hA => zY hA hS 5 rfl rfl rfl rfl rfl rfl rfl rfl rfl rfl fun a hA => zW 1 ((74, vP b2 1) :: _) hA hS rfl fun a hA => zY hA hS 3 rfl rfl rfl rfl rfl rfl rfl rfl rfl rfl fun a hA => dr_b (o := _) rfl (st_val hA rfl rfl (by decide) (rn_lookup_hit tbOk hA rfl rfl rfl rfl rfl rfl rfl (hS.heapAt 9 rfl) hn.fmp (sdv_at hjs) (sdv_bef hjsn)) fun a hA => zi hS (dr_b (o := _) rfl ?_))
   replace hS := hS.m2.m5
   refine st_call0 hA rfl rfl rfl isfn62 rfl rfl (by decide) (npackets62 (s := st.c) hS ye.rep hrok z0 (DD.rds (F := (E1 ++ D) :: _) (DD.right hE1) 0 rfl) (by omega) hp1 hp2 hnr) ?_
   clear hA hS; rintro _ w18 a ⟨psq, Aq, cq, Cq, Eq, hOq, hKq, rfl, hS⟩ hA
   have hX19 : DX w0 (E1 ++ D) (Eq ++ (E1 ++ D)) := DX.refl.step
   refine dr_nil (.inl (by decide)) (dr_b (o := _) rfl (zR 1 ((2, .slice Aq psq.length cq) :: _) hA rfl fun a hA => dr_nil (.inl (by decide)) (dr_b (o := _) rfl (zR 1 ((3, .bool true) :: _) hA rfl fun a hA => dr_nil (.inl (by decide)) (ze (zx ?_))))))
   refine wp_ret ?_
   refine ret2 (fn := Tryz.f42) hA rfl rfl rfl ?_
   replace hS := hS.m3.d0.m4.d0.m2.m2.m9.m9.m6.m9.m9.m9.m9.m9
   replace hS : St w0 w18 (((b, rowO [vI st.c.id, vI st.c.ki, vI st.c.no, vI st.c.pc, vI st.c.wa, vI st.c.tr, vI st.c.ag, vI st.c.pg, vI st.c.ro, vP bo 0, .bool true, vI st.c.now, vU (st.c.sent + 1), vU st.c.rep, vU st.c.port, vU st.c.r0, vW st.c.r1, vB st.c.r2, vU st.c.r3, sv, vP bd 0, vP bg 0, vP bc 0, vP bp 0, vP bx 0, .map (some mp)] 121) :: (LS2 ++ (LG ++ (LC ++ (LP ++ (LB2 ++ ((mp, ob) :: LV))))))) :: Cq :: (Eq ++ (E1 ++ D)) :: F) := hS.cast (by simp)
   exact ⟨_, psq, Aq, cq, Cq, (Eq ++ (E1 ++ D)), ⟨_, _, _, _, _, _, _, _, _, _, _, _, _, _, _, _, _, _, ⟨hs2, (hn.fgs.dx (hX16.trans hX19)), hn.fcr, hn.fpm, hb2, hn.fmp, (hn.fsv.dx (hX16.trans hX19)), hn.fel, (ent_dx hn.fed (hX16.trans hX19)), hn.fcl, ((hX16.trans hX19).calls hn.fcd), (by rw [hus]; rfl), (fun z hz => by cases hz), hum, (msg_dx (fun z hz => hn.fpd z (by rw [hul]; exact List.mem_cons_of_mem _ hz)) (hX16.trans hX19))⟩, rfl⟩, hOq, ⟨hKq.1, fun x hx => DD.right (hKq.2 x hx)⟩, (hX16.trans hX19), rfl, hS⟩
end Go.Proofs.YthiakdmhpfkjbaaGreatDoor

set_option linter.unusedVariables false
set_option linter.unusedSimpArgs false
set_option maxRecDepth 4000
namespace Go.Proofs.YthiakdmhpfkjbaaGreatDoor
open Go Go.SK
def encPt (b : Nat) : List Value := [vP b 0]
theorem encPt_ok : Enc encPt 1 := ⟨fun _ => rfl, fun x u hu => by simp only [encPt, List.mem_cons, List.not_mem_nil, or_false] at hu; rcases hu with rfl <;> rfl⟩
inductive NX where
  | up (st : NS) (sr : Srv) : NX
  | down (c : NC) : NX
def NOD (w0 : World) (b bo : Nat) : NX → Chunk → Chunk → Prop
  | .up st sr, L, D => NUP w0 b bo st sr L D
  | .down s, L, _ => L = [(b, rowO [vI s.id, vI s.ki, vI s.no, vI s.pc, vI s.wa, vI s.tr, vI s.ag, vI s.pg, vI s.ro, vP bo 0, .bool false, vI s.now, vU s.sent, .int .u64 0, .int .u64 0, .int .u64 0, .int .u32 0, .int .u8 0, .int .u64 0, .pointer none, .pointer none, .pointer none, .pointer none, .pointer none, .pointer none, .map none] 121)]
theorem NOD.dx {w0 : World} {b bo : Nat} {x : NX} {L D D' : Chunk} (h : NOD w0 b bo x L D) (k : DX w0 D D') : NOD w0 b bo x L D' := by
  cases x with
  | up st sr => exact NUP.dx h k
  | down c => exact h
def NDS (w0 : World) (bo : Nat) : List Nat → List NX → Chunk → Chunk → Prop
  | [], [], L, _ => L = []
  | b :: bs, x :: xs, L, D => ∃ L1 L2, NOD w0 b bo x L1 D ∧ NDS w0 bo bs xs L2 D ∧ L = L1 ++ L2
  | _, _, _, _ => False
theorem NDS.dx {w0 : World} {bo : Nat} {D D' : Chunk} (k : DX w0 D D') : ∀ {bs : List Nat} {xs : List NX} {L : Chunk}, NDS w0 bo bs xs L D → NDS w0 bo bs xs L D'
  | [], [], _, h => h
  | [], _ :: _, _, h => h.elim
  | _ :: _, [], _, h => h.elim
  | b :: bs, x :: xs, L, h => by
    obtain ⟨L1, L2, h1, h2, h3⟩ := h
    exact ⟨L1, L2, h1.dx k, NDS.dx k h2, h3⟩
theorem NDS.len {w0 : World} {bo : Nat} {D : Chunk} : ∀ {bs : List Nat} {xs : List NX} {L : Chunk}, NDS w0 bo bs xs L D → bs.length = xs.length
  | [], [], _, h => rfl
  | [], _ :: _, _, h => h.elim
  | _ :: _, [], _, h => h.elim
  | b :: bs, x :: xs, L, h => by
    obtain ⟨L1, L2, h1, h2, h3⟩ := h
    rw [List.length_cons, List.length_cons, NDS.len h2]
theorem NDS.app {w0 : World} {bo : Nat} {D : Chunk} {b : Nat} {x : NX} {L2 : Chunk} (h2 : NOD w0 b bo x L2 D) : ∀ {bs : List Nat} {xs : List NX} {L : Chunk}, NDS w0 bo bs xs L D → NDS w0 bo (bs ++ [b]) (xs ++ [x]) (L ++ L2) D
  | [], [], _, h => by
    have e : _ = [] := h
    subst e
    exact ⟨L2, [], h2, rfl, by simp⟩
  | [], _ :: _, _, h => h.elim
  | _ :: _, [], _, h => h.elim
  | b :: bs, x :: xs, L, h => by
    obtain ⟨L1, L3, h1, h4, h3⟩ := h
    subst h3
    exact ⟨L1, L3 ++ L2, h1, NDS.app h2 h4, by simp⟩
theorem NDS.at_ {w0 : World} {bo : Nat} {D : Chunk} : ∀ {bs : List Nat} {xs : List NX} {L : Chunk} {i b : Nat} {x : NX}, NDS w0 bo bs xs L D → bs[i]? = some b → xs[i]? = some x → ∃ La Li Lb, L = La ++ (Li ++ Lb) ∧ NOD w0 b bo x Li D ∧ ∀ x' Li' D', DX w0 D D' → NOD w0 b bo x' Li' D' → NDS w0 bo bs (xs.set i x') (La ++ (Li' ++ Lb)) D'
  | [], [], _, i, _, _, _, hb, _ => by cases hb
  | [], _ :: _, _, _, _, _, h, _, _ => h.elim
  | _ :: _, [], _, _, _, _, h, _, _ => h.elim
  | b0 :: bs, x0 :: xs, L, 0, b, x, h, hb, hx => by
    obtain ⟨L1, L2, h1, h2, h3⟩ := h
    injection hb with hb; injection hx with hx; subst hb; subst hx; subst h3
    exact ⟨[], L1, L2, rfl, h1, fun x' Li' D' k h' => ⟨Li', L2, h', NDS.dx k h2, rfl⟩⟩
  | b0 :: bs, x0 :: xs, L, i + 1, b, x, h, hb, hx => by
    obtain ⟨L1, L2, h1, h2, h3⟩ := h
    obtain ⟨La, Li, Lb, g1, g2, g3⟩ := NDS.at_ h2 (by simpa using hb) (by simpa using hx)
    subst h3; subst g1
    refine ⟨L1 ++ La, Li, Lb, by simp, g2, fun x' Li' D' k h' => ⟨L1, La ++ (Li' ++ Lb), h1.dx k, g3 x' Li' D' k h', by simp⟩⟩
def WRA (w0 : World) (b : Nat) (pn : List PN) (L D : Chunk) : Prop := ∃ ps, WR b ps L ∧ PKS w0 D ps pn
theorem PKS.dx {w0 : World} {D D' : Chunk} {ps : List Pkt} {pn : List PN} (h : PKS w0 D ps pn) (k : DX w0 D D') : PKS w0 D' ps pn := ⟨h.1, fun x hx => k.dd (h.2 x hx)⟩
theorem WRA.dx {w0 : World} {b : Nat} {pn : List PN} {L D D' : Chunk} (h : WRA w0 b pn L D) (k : DX w0 D D') : WRA w0 b pn L D' := by
  obtain ⟨ps, h1, h2⟩ := h
  exact ⟨ps, h1, h2.dx k⟩
theorem PKS.at_ {w0 : World} {D : Chunk} {ps : List Pkt} {pn : List PN} {j : Nat} {x : Pkt} (h : PKS w0 D ps pn) (hx : ps[j]? = some x) : ∃ p, pn[j]? = some p ∧ pst x = p.t ∧ encPacket_dd w0 D x := by
  obtain ⟨p, hp, e⟩ := map_at9 h.1.symm hx
  exact ⟨p, hp, e.symm, h.2 x (List.mem_of_getElem? hx)⟩
theorem PKS.snoc {w0 : World} {D E : Chunk} {ps : List Pkt} {pn : List PN} {p : PN} {A : Option Addr} {c : Nat} (h : PKS w0 D ps pn) (hE : DD w0 E A c p.da) : PKS w0 (E ++ D) (ps ++ [(((p.fr : Nat) : Int), ((p.to : Nat) : Int), ((p.id : Nat) : Int), ((p.ix : Nat) : Int), ((p.cn : Nat) : Int), A, c, p.da)]) (pn ++ [p]) := ⟨by rw [List.map_append, List.map_append, h.1]; rfl, fun x hx => by
  rcases List.mem_append.1 hx with hx | hx
  · exact encPacket_left (h.2 x hx)
  · rw [List.mem_singleton.1 hx]; exact hE.right⟩
structure SY where
  nx : List NX
  wi : List PN
  en : List (Nat × Nat × Nat)
  k : Nat
structure SYS0 (w0 : World) (ts : List Nat) (s : SY) (D : Chunk) (bw bo : Nat) (bs : List Nat) (A : Option Addr) (c : Nat) (C NL WL OL : Chunk) : Prop where
  fn : NDS w0 bo bs s.nx NL D
  fw : WRA w0 bw s.wi WL D
  fo : ORR bo s.en ts s.k OL
  fr : Own 82 1 (.slice A bs.length c) bs.length (rows encPt bs) C
def SYS (w0 : World) (b : Nat) (ts : List Nat) (s : SY) (L D : Chunk) : Prop := ∃ bw bo bs A c C NL WL OL, SYS0 w0 ts s D bw bo bs A c C NL WL OL ∧ L = (b, rowO [.slice A bs.length c, vP bw 0] 77) :: (C ++ (NL ++ (WL ++ OL)))
set_option maxHeartbeats 4000000 in
theorem ssend34 {w0 w : World} {F : List Chunk} {b bw n0 c0 c : Nat} {A0 A : Option Addr} {WL Cq D : Chunk} {wi pn : List PN} {ps : List Pkt} (hS : St w0 w ([(b, rowO [.slice A0 n0 c0, vP bw 0] 77)] :: WL :: Cq :: D :: F)) (hW : WRA w0 bw wi WL D) (hO : Own 94 6 (.slice A ps.length c) ps.length (rows encPacket ps) Cq) (hK : PKS w0 D ps pn) (hl : wi.length + pn.length ≤ 1024) (hsz : ∀ p ∈ pn, p.da.length ≤ 1000000) :
 Ret Tryz.prog 34 #[vP b 0, .slice A ps.length c] w (fun v w' => ∃ WL' D', WRA w0 bw (wi ++ pn) WL' D' ∧ DX w0 D D' ∧ v = .tuple #[] ∧ St w0 w' ([(b, rowO [.slice A0 n0 c0, vP bw 0] 77)] :: WL' :: D' :: F)) := by
 have hcap := hO.rcap; have hpl := hK.len
 refine enter (vs := [vP b 0, .slice A ps.length c]) 20 Tryz.func34 rfl rfl (by simp) ?_; intro a hA
 refine zs (zr (zR 3 ((8, .int .i64 0) :: (7, vI ps.length) :: (6, .slice A ps.length c) :: _) hA rfl fun a hA => zn (zx (zb ?_))))
 replace hS := hS.m3.m2.m2
 refine wp_loop_ghost (fun m a w => ∃ (j : Nat) (WL' : Chunk) (D' : Chunk), m = ps.length - j ∧ Has a 20 [(0, vP b 0), (6, .slice A ps.length c), (7, vI ps.length), (8, vI j)] ∧ St w0 w ([(b, rowO [.slice A0 n0 c0, vP bw 0] 77)] :: WL' :: D' :: Cq :: F) ∧ (j ≤ ps.length) ∧ (WRA w0 bw (wi ++ pn.take j) WL' D') ∧ (DX w0 D D')) (ps.length - 0)
  ⟨0, WL, D, rfl, (hA.sel [0, 6, 7, 8] rfl), hS, Nat.zero_le _, (by rw [List.take_zero, List.append_nil]; exact hW), DX.refl⟩ ?_
 clear hA hS; rintro m0 a w1 ⟨j, WL', D', rfl, hA, hS, hj, hW, hX⟩
 refine zs (zr (zR 1 ((9, .bool (decide (((j : Nat) : Int) < ((ps.length : Nat) : Int)))) :: _) hA rfl fun a hA => zn (zx (zs ?_))))
 by_cases hc2 : ((j : Nat) : Int) < ((ps.length : Nat) : Int)
 · first
   | (exfalso; omega)
   | (replace hA := hA.rw 9 (v' := .bool true) rfl (vb_true hc2)
      refine cd_cond_t hA rfl (zk (zx (zs (zb (zs (zr ?_))))))
      obtain ⟨x, hx⟩ := get_ex (l := ps) (k := j) (by omega)
      obtain ⟨p, hpj, e, hdx⟩ := (hK.dx hX).at_ hx; have hps := hsz p (List.mem_of_getElem? hpj)
      obtain ⟨k0, k1, k2, k3, k4, kA, kc, kb⟩ := x
      simp only [pst, pdat, PN.t, Prod.mk.injEq] at e
      obtain ⟨e0, e1, e2, e3, e4, e5⟩ := e
      subst e0 e1 e2 e3 e4 e5
      obtain ⟨b3, o4, rfl⟩ := hO.isSome (k := j) (by omega)
      refine st_val hA rfl rfl (by decide) (rn_indexAddr tbOk hA j (o4 + (j * 6)) rfl rfl rfl rfl rfl rfl (by rfl) (by omega) (by first | rfl | simp [Nat.mul_one, Nat.zero_add] | omega)) fun a hA => st_val hA rfl rfl (by decide) (rn_loadA tbOk hA ([vI p.fr, vI p.to, vU p.id, vI p.ix, vI p.cn, .slice kA p.da.length kc]) rfl rfl rfl rfl (by rfl) ((hO.rd (hS.own_ 3 rfl)).elem (k := j) encPacket_ok hx)) fun a hA => ?_
      refine st_alloc tbOk hA hS [.int .i64 0, .int .i64 0, .int .u64 0, .int .i64 0, .int .i64 0, .slice none 0 0] rfl rfl rfl rfl rfl (by decide) fun b5 w6 a hS hA => ?_
      refine st_store tbOk hA hS [vI p.fr, vI p.to, vU p.id, vI p.ix, vI p.cn, .slice kA p.da.length kc] [vI p.fr, vI p.to, vU p.id, vI p.ix, vI p.cn, .slice kA p.da.length kc] rfl rfl rfl rfl rfl rfl (zn1 rfl) (zle rfl) rfl rfl rfl fun w7 hS => ?_
      refine zn (zx (zs ?_))
      replace hS := hS.m3.m3
      refine zD2 hS [] [(0, true), (1, true), (2, true), (3, true), (4, true), (5, false), (6, true)] mixed (by kernel_rfl) (by rintro c a w ⟨_, _, h, _⟩; cases h) (by rfl) (by kernel_rfl) ?_
      replace hS := hS.drew
      refine zW 3 ((14, vP b 1) :: (13, vP b 0) :: (12, vP b 0) :: _) hA (hS.tail 2 rfl) rfl fun a hA => zY hA (hS.tail 2 rfl) 1 rfl rfl rfl rfl rfl rfl rfl rfl rfl rfl fun a hA => zYA hA (hS.tail 2 rfl) 0 [vI p.fr, vI p.to, vU p.id, vI p.ix, vI p.cn, .slice kA p.da.length kc] rfl rfl rfl rfl rfl rfl rfl rfl rfl rfl rfl fun a hA => dr_b (o := _) rfl ?_
      replace hS := hS.m1.m1
      obtain ⟨wp, hwr, hWK⟩ := hW; have hwl := hWK.len; rw [List.length_append, List.length_take] at hwl
      refine st_call0 hA rfl rfl rfl isfn57 rfl rfl (by decide) (send_ok57 hS hwr ((p.fr : Nat) : Int) ((p.to : Nat) : Int) ((p.id : Nat) : Int) ((p.ix : Nat) : Int) ((p.cn : Nat) : Int) (DD.rds (F := D' :: _) hdx 0 rfl) (by omega) (by omega)) ?_
      clear hA hS; rintro _ w8 a ⟨WL2, E2, A2, c2, hwr2, hE2, rfl, hS⟩ hA
      refine zi (hS.tail 2 rfl) (zW 1 ((18, .bool false) :: _) hA (hS.tail 2 rfl) rfl fun a hA => ze (zx (cd_cond_f hA rfl (zk (zm (zx (zr (zR 1 ((19, .int .i64 (IntKind.i64.wrap (((j : Nat) : Int) + 1))) :: _) hA rfl fun a hA => ?_))))))))
      replace hA := hA.rw 19 (v' := vI (j + 1)) rfl (wr64 (by omega) (by omega) (by omega))
      refine zR 1 ((8, vI (j + 1)) :: _) hA rfl fun a hA => zn ?_
      replace hS := hS.d2.m2
      have hW9 : WRA w0 bw (wi ++ pn.take (j + 1)) WL2 (E2 ++ D') := by rw [List.take_add_one, hpj, ← List.append_assoc]; exact ⟨_, hwr2, hWK.snoc hE2⟩
      exact lp_next _ (by omega) ⟨(j + 1), WL2, (E2 ++ D'), rfl, (hA.sel [0, 6, 7, 8] rfl), hS, by omega, hW9, (hX.trans DX.refl.step)⟩)
 · first
   | (exfalso; omega)
   | (replace hA := hA.rw 9 (v' := .bool false) rfl (vb_false hc2)
      refine cd_cond_f hA rfl ?_
      refine wp_exit ?_
      refine xt_exit (xt_exit (cd_exit_eq ?_))
      refine ret0n (fn := Tryz.f34) hA rfl ?_
      replace hS := hS.d3
      have hj9 : pn.take j = pn := List.take_of_length_le (by omega)
      rw [hj9] at hW; exact ⟨_, _, hW, hX, rfl, hS⟩)
theorem sat31 {w0 w : World} {F : List Chunk} {b bw c i bi : Nat} {A : Option Addr} {C : Chunk} {bs : List Nat} (hS : St w0 w ([(b, rowO [.slice A bs.length c, vP bw 0] 77)] :: C :: F)) (hr : Own 82 1 (.slice A bs.length c) bs.length (rows encPt bs) C) (hi : bs[i]? = some bi) :
 Ret Tryz.prog 31 #[vP b 0, vI i] w (fun v w' => v = vP bi 0 ∧ St w0 w' ([(b, rowO [.slice A bs.length c, vP bw 0] 77)] :: C :: F)) := by
 have hil := (List.getElem?_eq_some_iff.1 hi).1
 refine enter (vs := [vP b 0, vI i]) 23 Tryz.func31 rfl rfl (by simp) ?_; intro a hA
 refine zs (zr (zR 1 ((4, .pointer none) :: _) hA rfl fun a hA => zn (zx (zs (zs (zr (zR 3 ((7, .bool (decide (((i : Nat) : Int) < 0))) :: (6, .bool (decide (((i : Nat) : Int) < 0))) :: (5, vI i) :: _) hA rfl fun a hA => ?_)))))))
 have hc1 : ¬ (((i : Nat) : Int) < 0) := by omega
 replace hA := hA.rw 6 (v' := .bool false) rfl (vb_false hc1)
 replace hA := hA.rw 7 (v' := .bool false) rfl (vb_false hc1)
 refine zR 4 ((11, vP b 0) :: (10, vP b 0) :: (9, vP b 0) :: (8, vI i) :: _) hA rfl fun a hA => zL hA hS 0 rfl rfl rfl rfl rfl rfl rfl rfl rfl fun a hA => zR 3 ((15, .bool (decide (((i : Nat) : Int) ≥ ((bs.length : Nat) : Int)))) :: (14, .bool (decide (((i : Nat) : Int) ≥ ((bs.length : Nat) : Int)))) :: (13, vI bs.length) :: _) hA rfl fun a hA => zn (zx ?_)
 have hc2 : ¬ (((i : Nat) : Int) ≥ ((bs.length : Nat) : Int)) := by omega
 replace hA := hA.rw 15 (v' := .bool false) rfl (vb_false hc2)
 refine cd_cond_f hA rfl (zk (zx (zs (zr (zR 3 ((18, vP b 0) :: (17, vP b 0) :: (16, vP b 0) :: _) hA rfl fun a hA => zL hA hS 0 rfl rfl rfl rfl rfl rfl rfl rfl rfl fun a hA => zR 1 ((20, vI i) :: _) hA rfl fun a hA => ?_)))))
 obtain ⟨b3, o4, rfl⟩ := hr.isSome (k := i) (by omega)
 refine st_val hA rfl rfl (by decide) (rn_indexAddr tbOk hA i (o4 + i) rfl rfl rfl rfl rfl rfl (by rfl) (by omega) (by first | rfl | simp [Nat.mul_one, Nat.zero_add] | omega)) fun a hA => st_val hA rfl rfl (by decide) (rn_load tbOk hA rfl rfl rfl rfl ((hr.rd (hS.own_ 1 rfl)).elem0 (k := i) encPt_ok hi rfl)) fun a hA => zR 1 ((4, vP bi 0) :: _) hA rfl fun a hA => zn (zx ?_)
 refine wp_ret ?_
 refine ret1 (fn := Tryz.f31) hA rfl rfl ?_
 exact ⟨rfl, hS⟩
end Go.Proofs.YthiakdmhpfkjbaaGreatDoor
