import Derived.Test.YthiakdmhpfkjbaaGreatDoorZD5
set_option linter.unusedVariables false
set_option linter.unusedSimpArgs false
set_option linter.unusedVariables false
set_option linter.unusedSimpArgs false
set_option maxRecDepth 4000
namespace Go.Proofs.YthiakdmhpfkjbaaGreatDoor
open Go Go.SK
def encKi (x : Nat) : List Value := [vI x]
theorem encKi_ok : Enc encKi 1 := ⟨fun _ => rfl, fun x u hu => by simp only [encKi, List.mem_cons, List.not_mem_nil, or_false] at hu; rcases hu with rfl <;> rfl⟩
def kNC (c : NC) (j ki n : Nat) : NC := ⟨j, ki, n, c.pc, c.wa, c.tr, c.ag, c.pg, c.ro, 0, 0, 0, 0, 0, 0, 0, 0⟩
def bootM (c : NC) (en : List (Nat × Nat × Nat)) (ts : List Nat) (k : Nat) : Option (NX × List (Nat × Nat × Nat) × Nat) :=
  match ts[k]?, ts[k + 1]? with
  | some g, some rp =>
    if g < 281474976710656 ∧ (∀ x ∈ en, ¬ (x.1 = 0 ∧ x.2.1 = g % 281474976710656)) ∧ en.length ≤ 900 ∧ 1 ≤ c.wa ∧ 1 ≤ c.tr ∧ 1 ≤ c.ag ∧ c.ro ≤ 64 then
      if c.ki = 0 then some (.up ⟨⟨c.id, 0, c.no, c.pc, c.wa, c.tr, c.ag, c.pg, c.ro, c.now, c.sent, rp, 0, 0, 0, 0, 0⟩, [], [], [], [], [], [], []⟩ .none, en ++ [(0, g % 281474976710656, rp)], k + 1 + 1)
      else
        match ts[k + 1 + 1]?, ts[k + 1 + 1 + 1]?, ts[k + 1 + 1 + 1 + 1]? with
        | some g2, some po, some x =>
          if g2 < 281474976710656 ∧ (∀ x ∈ en ++ [(0, g % 281474976710656, rp)], ¬ (x.1 = 0 ∧ x.2.1 = g2 % 281474976710656)) then
            if c.ki = 1 ∧ c.pg = 10 then some (.up ⟨⟨c.id, 1, c.no, c.pc, c.wa, c.tr, c.ag, 10, c.ro, c.now, c.sent, rp, po, po, 0, 255, x⟩, [], [], [], [], [], [], []⟩ .other, en ++ [(0, g % 281474976710656, rp)] ++ [(0, g2 % 281474976710656, po)], k + 1 + 1 + 1 + 1 + 1)
            else if c.ki = 2 then some (.up ⟨⟨c.id, 2, c.no, c.pc, c.wa, c.tr, c.ag, c.pg, c.ro, c.now, c.sent, rp, po, po, 0, 255, x⟩, [], [], [], [], [], [], []⟩ .other, en ++ [(0, g % 281474976710656, rp)] ++ [(0, g2 % 281474976710656, po)], k + 1 + 1 + 1 + 1 + 1)
            else if c.ki = 3 then some (.up ⟨⟨c.id, 3, c.no, c.pc, c.wa, c.tr, c.ag, c.pg, c.ro, c.now, c.sent, rp, po, po, 0, 255, x⟩, [], [], [], [], [], [], []⟩ (.file [(true, x, 0, -1, 24)] [] 0 0), en ++ [(0, g % 281474976710656, rp)] ++ [(0, g2 % 281474976710656, po)], k + 1 + 1 + 1 + 1 + 1)
            else none
          else none
        | _, _, _ => none
    else none
  | _, _ => none
theorem bootX29 {w0 w : World} {F : List Chunk} {b bo : Nat} {c : NC} {L D O : Chunk} {en en' : List (Nat × Nat × Nat)} {ts : List Nat} {k k' : Nat} {x' : NX} (hS : St w0 w (L :: O :: F)) (hN : NOD w0 b bo (.down c) L D) (hO : ORR bo en ts k O) (h : bootM c en ts k = some (x', en', k')) :
    Ret Tryz.prog 29 #[vP b 0] w (fun v w' => ∃ L' O', NOD w0 b bo x' L' D ∧ ORR bo en' ts k' O' ∧ v = .nilIface ∧ St w0 w' (L' :: O' :: F)) := by
  have hL : L = _ := hN
  subst hL
  rw [bootM] at h
  cases hg : ts[k]? with
  | none => rw [hg] at h; cases h
  | some g =>
    rw [hg] at h
    cases hp : ts[k + 1]? with
    | none => rw [hp] at h; cases h
    | some rp =>
      rw [hp] at h; dsimp only at h
      by_cases hc : g < 281474976710656 ∧ (∀ x ∈ en, ¬ (x.1 = 0 ∧ x.2.1 = g % 281474976710656)) ∧ en.length ≤ 900 ∧ 1 ≤ c.wa ∧ 1 ≤ c.tr ∧ 1 ≤ c.ag ∧ c.ro ≤ 64
      · rw [if_pos hc] at h
        obtain ⟨c1, c2, c3, c4, c5, c6, c7⟩ := hc
        by_cases k0 : c.ki = 0
        · rw [if_pos k0] at h
          injection h with h; injection h with e1 h; injection h with e2 e3; subst e1; subst e2; subst e3
          rw [k0] at hS
          exact nboot0_29 hS hO hg hp c1 c2 c3 c4 c5 c6 c7
        · rw [if_neg k0] at h
          cases h2 : ts[k + 1 + 1]? with
          | none => rw [h2] at h; cases h
          | some g2 =>
            rw [h2] at h
            cases h3 : ts[k + 1 + 1 + 1]? with
            | none => rw [h3] at h; cases h
            | some po =>
              rw [h3] at h
              cases h4 : ts[k + 1 + 1 + 1 + 1]? with
              | none => rw [h4] at h; cases h
              | some x =>
                rw [h4] at h; dsimp only at h
                by_cases hd : g2 < 281474976710656 ∧ (∀ x ∈ en ++ [(0, g % 281474976710656, rp)], ¬ (x.1 = 0 ∧ x.2.1 = g2 % 281474976710656))
                · rw [if_pos hd] at h
                  by_cases k1 : c.ki = 1 ∧ c.pg = 10
                  · rw [if_pos k1] at h
                    injection h with h; injection h with e1 h; injection h with e2 e3; subst e1; subst e2; subst e3
                    rw [k1.1, k1.2] at hS
                    exact nboot1_29 hS hO hg hp c1 c2 c3 c4 c5 c6 c7 h2 h3 h4 hd.1 hd.2
                  · rw [if_neg k1] at h
                    by_cases k2 : c.ki = 2
                    · rw [if_pos k2] at h
                      injection h with h; injection h with e1 h; injection h with e2 e3; subst e1; subst e2; subst e3
                      rw [k2] at hS
                      exact nboot2_29 hS hO hg hp c1 c2 c3 c4 c5 c6 c7 h2 h3 h4 hd.1 hd.2
                    · rw [if_neg k2] at h
                      by_cases k3 : c.ki = 3
                      · rw [if_pos k3] at h
                        injection h with h; injection h with e1 h; injection h with e2 e3; subst e1; subst e2; subst e3
                        rw [k3] at hS
                        exact nboot3_29 hS hO hg hp c1 c2 c3 c4 c5 c6 c7 h2 h3 h4 hd.1 hd.2
                      · rw [if_neg k3] at h; cases h
                · rw [if_neg hd] at h; cases h
      · rw [if_neg hc] at h; cases h
def ofsM (ks : List Nat) (c : NC) (ts : List Nat) : Nat → Option (List NX × List (Nat × Nat × Nat) × Nat)
  | 0 => some ([], [], 0)
  | j + 1 => match ofsM ks c ts j with
    | none => none
    | some (nx, en, k) => match ks[j]? with
      | none => none
      | some ki => match bootM (kNC c j ki ks.length) en ts k with
        | none => none
        | some (x, en', k') => some (nx ++ [x], en', k')
def ofM (ks : List Nat) (c : NC) (ts : List Nat) : Option SY := (ofsM ks c ts ks.length).map (fun r => ⟨r.1, [], r.2.1, r.2.2⟩)
theorem ofsM_le {ks : List Nat} {c : NC} {ts : List Nat} {n : Nat} {r : List NX × List (Nat × Nat × Nat) × Nat} (h : ofsM ks c ts n = some r) : ∀ j ≤ n, ∃ y, ofsM ks c ts j = some y := by
  induction n generalizing r with
  | zero => intro j hj; obtain rfl : j = 0 := by omega
            exact ⟨r, h⟩
  | succ n ih =>
    intro j hj
    by_cases hjn : j = n + 1
    · subst hjn; exact ⟨r, h⟩
    · rw [ofsM] at h
      cases hm : ofsM ks c ts n with
      | none => rw [hm] at h; cases h
      | some y => exact ih hm j (by omega)
theorem ofsM_some {ks : List Nat} {c : NC} {ts : List Nat} {j k : Nat} {nx : List NX} {en : List (Nat × Nat × Nat)} {y : List NX × List (Nat × Nat × Nat) × Nat} (hj : ofsM ks c ts j = some (nx, en, k)) (h : ofsM ks c ts (j + 1) = some y) : ∃ ki x en' k', ks[j]? = some ki ∧ bootM (kNC c j ki ks.length) en ts k = some (x, en', k') ∧ y = (nx ++ [x], en', k') := by
  rw [ofsM, hj] at h; dsimp only at h
  cases hk : ks[j]? with
  | none => rw [hk] at h; cases h
  | some ki =>
    rw [hk] at h; dsimp only at h
    cases hb : bootM (kNC c j ki ks.length) en ts k with
    | none => rw [hb] at h; cases h
    | some r =>
      obtain ⟨x, en', k'⟩ := r
      rw [hb] at h; injection h with h
      exact ⟨ki, x, en', k', rfl, hb, h.symm⟩
theorem ofM_some {ks : List Nat} {c : NC} {ts : List Nat} {s : SY} (h : ofM ks c ts = some s) : ∃ nx en k, ofsM ks c ts ks.length = some (nx, en, k) ∧ s = ⟨nx, [], en, k⟩ := by
  rw [ofM] at h
  cases hm : ofsM ks c ts ks.length with
  | none => rw [hm] at h; cases h
  | some r =>
    rw [hm] at h; injection h with h
    exact ⟨r.1, r.2.1, r.2.2, rfl, h.symm⟩
theorem ofsM_len {ks : List Nat} {c : NC} {ts : List Nat} : ∀ {j : Nat} {nx : List NX} {en : List (Nat × Nat × Nat)} {k : Nat}, ofsM ks c ts j = some (nx, en, k) → nx.length = j
  | 0, nx, en, k, h => by injection h with h; injection h with h _; subst h; rfl
  | j + 1, nx, en, k, h => by
    obtain ⟨⟨nx0, en0, k0⟩, h0⟩ := ofsM_le h j (by omega)
    obtain ⟨ki, x, en', k', h1, h2, h3⟩ := ofsM_some h0 h
    injection h3 with h3 _; subst h3
    rw [List.length_append, ofsM_len h0]; rfl
set_option maxHeartbeats 4000000 in
theorem of8 {w0 w : World} {F : List Chunk} {ks : List Nat} {kv de : Value} {c : NC} {ts0 ts : List Nat} {s : SY} (hS : St w0 w F) (hk : RdS w0 F 1 kv ks.length (rows encKi ks)) (he : RdS w0 F 1 de ts0.length (rows encW ts0)) (hel : ts0.length ≤ 10000) (hew : ∀ x ∈ ts0, x < 2 ^ 64) (hts : cutl ts0 = ts) (hks1 : 1 ≤ ks.length) (hks2 : ks.length ≤ 8) (hM : ofM ks c ts = some s) :
 Ret Tryz.prog 8 #[kv, .agg #[vI c.no, vI c.pc, vI c.wa, vI c.tr, vI c.ag, vI c.pg, vI c.ro], de] w (fun v w' => ∃ b L, SYS w0 b ts s L [] ∧ v = .tuple #[vP b 0, .nilIface] ∧ St w0 w' (L :: [] :: F)) := by
 obtain ⟨Bk, dk, rfl, hmk, hxk⟩ := (hk _ hS).open'
 obtain ⟨nx, en, k, hof, rfl⟩ := ofM_some hM
 refine enter (vs := [.slice Bk ks.length dk, .agg #[vI c.no, vI c.pc, vI c.wa, vI c.tr, vI c.ag, vI c.pg, vI c.ro], de]) 58 Tryz.func8 rfl rfl (by simp) ?_; intro a hA
 refine zs (zr ?_)
 refine st_box hA hS [vI c.no, vI c.pc, vI c.wa, vI c.tr, vI c.ag, vI c.pg, vI c.ro] rfl rfl rfl rfl rfl (by decide) fun b1 w2 a hS hA => ?_
 refine zR 2 ((7, .nilIface) :: (6, .pointer none) :: _) hA rfl fun a hA => zn (zx (zs (zs (zr (zR 4 ((16, .bool (decide (((ks.length : Nat) : Int) < 1))) :: (15, .bool (decide (((ks.length : Nat) : Int) < 1))) :: (14, vI ks.length) :: (13, .slice Bk ks.length dk) :: _) hA rfl fun a hA => ?_)))))
 have hc3 : ¬ (((ks.length : Nat) : Int) < 1) := by omega
 replace hA := hA.rw 15 (v' := .bool false) rfl (vb_false hc3)
 replace hA := hA.rw 16 (v' := .bool false) rfl (vb_false hc3)
 refine zR 4 ((20, .bool (decide (((ks.length : Nat) : Int) > 8))) :: (19, .bool (decide (((ks.length : Nat) : Int) > 8))) :: (18, vI ks.length) :: (17, .slice Bk ks.length dk) :: _) hA rfl fun a hA => zn (zx ?_)
 have hc4 : ¬ (((ks.length : Nat) : Int) > 8) := by omega
 replace hA := hA.rw 20 (v' := .bool false) rfl (vb_false hc4)
 refine cd_cond_f hA rfl (zk (zx (zs (zr (zR 3 ((24, vP b1 0) :: (23, vI ks.length) :: (22, .slice Bk ks.length dk) :: _) hA rfl fun a hA => ?_)))))
 refine st_store tbOk hA hS [vI ks.length] [vI ks.length, vI c.pc, vI c.wa, vI c.tr, vI c.ag, vI c.pg, vI c.ro] rfl rfl rfl rfl rfl rfl (by intro u hu; rw [List.mem_singleton.1 hu]; rfl) (zle rfl) rfl rfl rfl fun w5 hS => ?_
 refine zn (zx (zs (zr (zR 1 ((25, .agg #[.slice none 0 0]) :: _) hA rfl fun a hA => ?_))))
 refine st_box hA hS [.slice none 0 0] rfl rfl rfl rfl rfl (by decide) fun b6 w7 a hS hA => ?_
 refine zR 1 ((27, .agg #[.slice none 0 0, vP b6 0]) :: _) hA rfl fun a hA => ?_
 refine st_box hA hS [.slice none 0 0, vP b6 0] rfl rfl rfl rfl rfl (by decide) fun b8 w9 a hS hA => ?_
 refine zR 1 ((8, vP b8 0) :: _) hA rfl fun a hA => zn (zx (zs (zr (zR 1 ((29, de) :: _) hA rfl fun a hA => ?_))))
 refine st_call0 hA rfl rfl rfl isfn27 rfl rfl (by decide) (tape_of27 hS (fun w9 h9 => he w9 (h9.tail 3 rfl)) hel hew) ?_
 clear hA hS; rintro _ w10 a ⟨bt, LT, hT, rfl, hS⟩ hA
 refine st_call0 hA rfl rfl rfl isfn26 rfl rfl (by decide) (oracle_of26 hS hT) ?_
 clear hA hS; rintro _ w11 a ⟨bo, OL, hO, rfl, hS⟩ hA; rw [hts] at hO
 refine zR 1 ((9, vP bo 0) :: _) hA rfl fun a hA => zn (zx (zs (zs (zr (zR 3 ((34, .int .i64 0) :: (33, vI ks.length) :: (32, .slice Bk ks.length dk) :: _) hA rfl fun a hA => zn (zx (zb ?_)))))))
 have hks0 : ks.length ≤ 8 := hks2
 replace hS := hS.nil
 replace hS := hS.nil
 replace hS := hS.m4.m2.m2.m4
 refine wp_loop_ghost (fun m a w => ∃ (j : Nat) (nxj : List NX) (enj : List (Nat × Nat × Nat)) (kj : Nat) (bs' : List Nat) (A' : Option Addr) (c' : Nat) (C' : Chunk) (NL' : Chunk) (OL' : Chunk), m = ks.length - j ∧ Has a 58 [(4, vP b1 0), (8, vP b8 0), (9, vP bo 0), (32, .slice Bk ks.length dk), (33, vI ks.length), (34, vI j)] ∧ St w0 w ([(b8, rowO [.slice A' bs'.length c', vP b6 0] 77)] :: C' :: NL' :: [(b6, rowO [.slice none 0 0] 74)] :: OL' :: [(b1, rowO [vI ks.length, vI c.pc, vI c.wa, vI c.tr, vI c.ag, vI c.pg, vI c.ro] 32)] :: F) ∧ (j ≤ ks.length) ∧ (ofsM ks c ts j = some (nxj, enj, kj)) ∧ (NDS w0 bo bs' nxj NL' []) ∧ (ORR bo enj ts kj OL') ∧ (Own 82 1 (.slice A' bs'.length c') bs'.length (rows encPt bs') C')) (ks.length - 0)
  ⟨0, ([]), ([]), 0, ([]), none, 0, ([]), ([]), OL, rfl, (hA.sel [4, 8, 9, 32, 33, 34] rfl), hS, Nat.zero_le _, rfl, rfl, hO, (Own.nil _ _)⟩ ?_
 clear hA hS; rintro m0 a w12 ⟨j, nxj, enj, kj, bs', A', c', C', NL', OL', rfl, hA, hS, hj, hoj, hND, hO, hr⟩
 refine zs (zr (zR 1 ((35, .bool (decide (((j : Nat) : Int) < ((ks.length : Nat) : Int)))) :: _) hA rfl fun a hA => zn (zx (zs ?_))))
 by_cases hc13 : ((j : Nat) : Int) < ((ks.length : Nat) : Int)
 · first
   | (exfalso; omega)
   | (replace hA := hA.rw 35 (v' := .bool true) rfl (vb_true hc13)
      refine cd_cond_t hA rfl (zk (zx (zs (zb (zs (zr ?_))))))
      obtain ⟨y, hof2⟩ := ofsM_le hof (j + 1) (by omega); obtain ⟨ki, x, en', k', hki, hb, rfl⟩ := ofsM_some hoj hof2; have hof3 := hof2; have hbl := hND.len; have hnl : nxj.length = j := ofsM_len hoj
      refine zR 1 ((36, vI j) :: _) hA rfl fun a hA => ?_
      obtain ⟨b14, o15, rfl⟩ := (hk _ (hS.tail 6 rfl)).isSome (k := j) (by omega)
      refine st_val hA rfl rfl (by decide) (rn_indexAddr tbOk hA j (o15 + j) rfl rfl rfl rfl rfl rfl (by rfl) (by omega) (by first | rfl | simp [Nat.mul_one, Nat.zero_add] | omega)) fun a hA => st_val hA rfl rfl (by decide) (rn_load tbOk hA rfl rfl rfl rfl ((hk _ (hS.tail 6 rfl)).elem0 (k := j) encKi_ok hki rfl)) fun a hA => zR 2 ((11, vI ki) :: (10, vI j) :: _) hA rfl fun a hA => zn (zx (zs (zr (zR 2 ((40, vI ki) :: (39, vI j) :: _) hA rfl fun a hA => zLA hA hS 5 [vI ks.length, vI c.pc, vI c.wa, vI c.tr, vI c.ag, vI c.pg, vI c.ro] rfl rfl rfl rfl rfl rfl rfl rfl rfl rfl fun a hA => zR 1 ((42, vP bo 0) :: _) hA rfl fun a hA => ?_))))
      refine st_call0 hA rfl rfl rfl isfn28 rfl rfl (by decide) (node_of28 hS (kNC c j ki ks.length) bo) ?_
      clear hA hS; rintro _ w16 a ⟨bn, rfl, hS⟩ hA
      have hN9 : NOD w0 bn bo (.down (kNC c j ki ks.length)) _ [] := rfl
      refine zR 1 ((12, vP bn 0) :: _) hA rfl fun a hA => zn (zx (zs (zr (zR 1 ((44, vP bn 0) :: _) hA rfl fun a hA => ?_))))
      replace hS := hS.m5.m1
      refine st_call0 hA rfl rfl rfl isfn29 rfl rfl (by decide) (bootX29 hS hN9 hO hb) ?_
      clear hA hS; rintro _ w17 a ⟨Ln, O2, hN2, hO2, rfl, hS⟩ hA
      refine zn (zx (zr (zR 4 ((49, vP b8 0) :: (48, vP b8 0) :: (47, vP b8 0) :: (46, vP b8 0) :: _) hA rfl fun a hA => zL hA hS 2 rfl rfl rfl rfl rfl rfl rfl rfl rfl fun a hA => zR 1 ((51, vP bn 0) :: _) hA rfl fun a hA => ?_)))
      refine st_buildSlice tbOk hA hS [vP bn 0] rfl rfl rfl rfl rfl (by decide) (by kernel_rfl) rfl rfl (by decide) fun b18 w19 a hS hA => ?_
      replace hS := hS.m4
      refine st_append tbOk hA (m := bs'.length) (q := 1) (xs := rows encPt bs') (news := rows encPt ([bn] : List Nat)) rfl rfl rfl rfl rfl rfl rfl rfl (by decide) hr hS (((Own.full (T := 82) (size := 1) (g := b18) (m := 1) rfl (by decide)).rd (hS.own_ 1 rfl)).x) (rows_one encPt_ok _) (maxLen_le (by first | omega | (simp only [List.length_append, be_length, capb_length, List.length_cons, List.length_nil, List.length_drop, List.length_take]; omega))) (by show (bs'.length + 1) * 8 ≤ 140737488355328; first | omega | (simp only [List.length_append, be_length, capb_length, List.length_cons, List.length_nil, List.length_drop, List.length_take]; omega)) rfl rfl (by decide) ?_
      clear hA hS; intro v20 w21 C22 a hO22 hS hA
      replace hO22 := Own.app (l := bs') (l2 := ([bn] : List Nat)) hO22
      obtain ⟨A23, c24, rfl, hmc24, hxc24⟩ := hO22.open'
      refine zR 2 ((55, vP b8 0) :: (54, vP b8 0) :: _) hA rfl fun a hA => ?_
      replace hS := hS.m4
      refine st_store tbOk hA hS [.slice A23 ((bs' ++ ([bn] : List Nat)).length) c24] [.slice A23 ((bs' ++ ([bn] : List Nat)).length) c24, vP b6 0] rfl rfl rfl rfl rfl rfl (by intro u hu; rw [List.mem_singleton.1 hu]; rfl) (zle rfl) rfl rfl rfl fun w25 hS => ?_
      refine zn (zm (zx (zr (zR 1 ((56, .int .i64 (IntKind.i64.wrap (((j : Nat) : Int) + 1))) :: _) hA rfl fun a hA => ?_))))
      replace hA := hA.rw 56 (v' := vI (j + 1)) rfl (wr64 (by omega) (by omega) (by omega))
      refine zR 1 ((34, vI (j + 1)) :: _) hA rfl fun a hA => zn ?_
      replace hS := hS.d2.m5.m3.m5.m4.m4
      replace hS : St w0 w25 ([(b8, rowO [.slice A23 ((bs' ++ ([bn] : List Nat)).length) c24, vP b6 0] 77)] :: C22 :: (NL' ++ Ln) :: [(b6, rowO [.slice none 0 0] 74)] :: O2 :: [(b1, rowO [vI ks.length, vI c.pc, vI c.wa, vI c.tr, vI c.ag, vI c.pg, vI c.ro] 32)] :: F) := hS.cast (by simp)
      exact lp_next _ (by omega) ⟨(j + 1), (nxj ++ [x]), en', k', (bs' ++ [bn]), A23, c24, C22, (NL' ++ Ln), O2, rfl, (hA.sel [4, 8, 9, 32, 33, 34] rfl), hS, by omega, hof3, (NDS.app hN2 hND), hO2, hO22⟩)
 · first
   | (exfalso; omega)
   | (replace hA := hA.rw 35 (v' := .bool false) rfl (vb_false hc13)
      refine cd_cond_f hA rfl ?_
      refine wp_exit ?_
      refine xt_exit (xt_exit (cd_exit_eq (zx (zs (zr (zR 3 ((7, .nilIface) :: (6, vP b8 0) :: (57, vP b8 0) :: _) hA rfl fun a hA => zn (zx ?_)))))))
      refine wp_ret ?_
      refine ret2 (fn := Tryz.f8) hA rfl rfl rfl ?_
      have hj9 : j = ks.length := by omega
      subst hj9; rw [hof] at hoj; injection hoj with hoj; injection hoj with e1 hoj; injection hoj with e2 e3; subst e1; subst e2; subst e3
      replace hS := hS.d5
      replace hS : St w0 w12 (((b8, rowO [.slice A' bs'.length c', vP b6 0] 77) :: (C' ++ (NL' ++ (([(b6, rowO [.slice none 0 0] 74)] ++ []) ++ OL')))) :: [] :: F) := hS.cast (by simp)
      exact ⟨_, _, ⟨_, bo, bs', A', c', C', NL', _, OL', ⟨hND, ⟨[], ⟨_, [], Own.nil _ _, rfl⟩, PKS.nil⟩, hO, hr⟩, rfl⟩, rfl, hS⟩)
end Go.Proofs.YthiakdmhpfkjbaaGreatDoor

set_option linter.unusedVariables false
set_option linter.unusedSimpArgs false
set_option maxRecDepth 4000
namespace Go.Proofs.YthiakdmhpfkjbaaGreatDoor
open Go Go.SK
def get0M (s : SY) (k : Nat) : Option CA :=
  match (s.nx[0]? : Option NX) with
  | some (.up st _) => match st.ca[k]? with
    | some y => if st.ca.length ≤ 64 ∧ cal st.ca then some y else none
    | none => none
  | _ => none
theorem get0M_some {s : SY} {k : Nat} {y : CA} (h : get0M s k = some y) : ∃ st sr, s.nx[0]? = some (.up st sr) ∧ st.ca[k]? = some y ∧ st.ca.length ≤ 64 ∧ cal st.ca := by
  rw [get0M] at h
  cases hx : s.nx[0]? with
  | none => rw [hx] at h; cases h
  | some x =>
    cases x with
    | down c => rw [hx] at h; cases h
    | up st sr =>
      rw [hx] at h; dsimp only at h
      cases hy : st.ca[k]? with
      | none => rw [hy] at h; cases h
      | some z =>
        rw [hy] at h; dsimp only at h
        by_cases hc : st.ca.length ≤ 64 ∧ cal st.ca
        · rw [if_pos hc] at h; injection h with h; subst h; exact ⟨st, sr, rfl, hy, hc.1, hc.2⟩
        · rw [if_neg hc] at h; cases h
def transR (ts : List Nat) : Nat → SY → Nat → Option (SY × MN × Bool)
  | 0, s, _ => some (s, MN.zero, false)
  | f + 1, s, k => match settleM ts 2000 s 0 5000 with
    | none => none
    | some (s2, _) => match get0M s2 k with
      | none => none
      | some y =>
        if y.st = 3 then some (s2, MN.zero, false)
        else if y.st = 1 then
          (match ticksM s2 s2.nx.length with
          | none => none
          | some s3 => transR ts f s3 k)
        else some (s2, y.rp, true)
theorem transR_cases {ts : List Nat} {f k : Nat} {s s' : SY} {r : MN} {ok : Bool} (h : transR ts f s k = some (s', r, ok)) : (f = 0 ∧ s' = s ∧ r = MN.zero ∧ ok = false) ∨ (∃ f2 s2 d y, f = f2 + 1 ∧ settleM ts 2000 s 0 5000 = some (s2, d) ∧ get0M s2 k = some y ∧ ((y.st = 3 ∧ s' = s2 ∧ r = MN.zero ∧ ok = false) ∨ (y.st = 1 ∧ ∃ s3, ticksM s2 s2.nx.length = some s3 ∧ transR ts f2 s3 k = some (s', r, ok)) ∨ (¬ y.st = 3 ∧ ¬ y.st = 1 ∧ s' = s2 ∧ r = y.rp ∧ ok = true))) := by
  cases f with
  | zero => injection h with h; injection h with h1 h; injection h with h2 h3; exact .inl ⟨rfl, h1.symm, h2.symm, h3.symm⟩
  | succ f =>
    rw [transR] at h
    cases hs : settleM ts 2000 s 0 5000 with
    | none => rw [hs] at h; cases h
    | some q =>
      obtain ⟨s2, d⟩ := q
      rw [hs] at h; dsimp only at h
      cases hg : get0M s2 k with
      | none => rw [hg] at h; cases h
      | some y =>
        rw [hg] at h; dsimp only at h
        refine .inr ⟨f, s2, d, y, rfl, rfl, hg, ?_⟩
        by_cases h3 : y.st = 3
        · rw [if_pos h3] at h
          injection h with h; injection h with h1 h; injection h with h2 h4; exact .inl ⟨h3, h1.symm, h2.symm, h4.symm⟩
        · rw [if_neg h3] at h
          by_cases h1 : y.st = 1
          · rw [if_pos h1] at h
            cases ht : ticksM s2 s2.nx.length with
            | none => rw [ht] at h; cases h
            | some s3 => rw [ht] at h; exact .inr (.inl ⟨h1, s3, rfl, h⟩)
          · rw [if_neg h1] at h
            injection h with h; injection h with e1 h; injection h with e2 e3; exact .inr (.inr ⟨h3, h1, e1.symm, e2.symm, e3.symm⟩)
def callM (s : SY) (i : Nat) (m : MN) : Option (SY × Nat) :=
  match s.nx[i]? with
  | some (.up st sr) => match ncallM st m with
    | some (st', out) => if sendC s.wi out then some ({ s with nx := s.nx.set i (.up st' sr), wi := s.wi ++ out }, st.ca.length) else none
    | none => none
  | _ => none
theorem callM_some {s s' : SY} {i k : Nat} {m : MN} (h : callM s i m = some (s', k)) : ∃ st sr st' out, s.nx[i]? = some (.up st sr) ∧ ncallM st m = some (st', out) ∧ sendC s.wi out ∧ s' = { s with nx := s.nx.set i (.up st' sr), wi := s.wi ++ out } ∧ k = st.ca.length := by
  rw [callM] at h
  cases hx : s.nx[i]? with
  | none => rw [hx] at h; cases h
  | some x =>
    cases x with
    | down c => rw [hx] at h; cases h
    | up st sr =>
      rw [hx] at h; dsimp only at h
      cases hy : ncallM st m with
      | none => rw [hy] at h; cases h
      | some z =>
        obtain ⟨st', out⟩ := z
        rw [hy] at h; dsimp only at h
        by_cases hc : sendC s.wi out
        · rw [if_pos hc] at h; injection h with h; injection h with h1 h2; exact ⟨st, sr, st', out, rfl, hy, hc, h1.symm, h2.symm⟩
        · rw [if_neg hc] at h; cases h
def transM (ts : List Nat) (s : SY) (m : MN) : Option (SY × MN × Bool) :=
  match callM s 0 m with
  | none => none
  | some (s', k) => transR ts 6 s' k
theorem transM_some {ts : List Nat} {s s' : SY} {m r : MN} {ok : Bool} (h : transM ts s m = some (s', r, ok)) : ∃ s1 k, callM s 0 m = some (s1, k) ∧ transR ts 6 s1 k = some (s', r, ok) := by
  rw [transM] at h
  cases hc : callM s 0 m with
  | none => rw [hc] at h; cases h
  | some q => obtain ⟨s1, k⟩ := q; rw [hc] at h; exact ⟨s1, k, rfl, h⟩
def cfgN (p : Nat) : NC := ⟨0, 0, 2, p, 1, 5, 20, 10, 10, 0, 0, 0, 0, 0, 0, 0, 0⟩
def netM (p : Nat) : Option SY := ofM [0, 1, 2, 3] (cfgN p) (cutl (spread 400))
theorem cfg30 {w0 w : World} {F : List Chunk} (hS : St w0 w F) {q : Nat} (hq : q < 256) :
 Ret Tryz.prog 30 #[vB q, .int .u8 0, .int .u8 4, .int .u8 19, .int .u8 9] w (fun v w' => v = .agg #[vI ((cfgN (1 + q % 120)).no), vI ((cfgN (1 + q % 120)).pc), vI ((cfgN (1 + q % 120)).wa), vI ((cfgN (1 + q % 120)).tr), vI ((cfgN (1 + q % 120)).ag), vI ((cfgN (1 + q % 120)).pg), vI ((cfgN (1 + q % 120)).ro)] ∧ St w0 w' F) := by
 refine enter (vs := [vB q, .int .u8 0, .int .u8 4, .int .u8 19, .int .u8 9]) 32 Tryz.func30 rfl rfl (by simp) ?_; intro a hA
 refine zs (zr ?_)
 refine st_alloc tbOk hA hS [.int .i64 0, .int .i64 0, .int .i64 0, .int .i64 0, .int .i64 0, .int .i64 0, .int .i64 0] rfl rfl rfl rfl rfl (by decide) fun b1 w2 a hS hA => ?_
 refine zn (zx (zs (zr (zR 2 ((12, .int .u8 (((q : Nat) : Int).tmod 120)) :: (11, vB q) :: _) hA rfl fun a hA => ?_))))
 replace hA := hA.rw 12 (v' := vB (q % 120)) rfl (vint (Int.ofNat_tmod _ _).symm)
 refine zR 1 ((13, .int .i64 (IntKind.i64.wrap ((q % 120 : Nat) : Int))) :: _) hA rfl fun a hA => ?_
 replace hA := hA.rw 13 (v' := vI (q % 120)) rfl (wr64 (by first | rfl | omega) (by omega) (by omega))
 refine zR 1 ((14, .int .i64 (IntKind.i64.wrap (1 + ((q % 120 : Nat) : Int)))) :: _) hA rfl fun a hA => ?_
 replace hA := hA.rw 14 (v' := vI (1 + (q % 120))) rfl (wr64 (by omega) (by omega) (by omega))
 refine zR 2 ((16, .int .u8 ((0 : Int).tmod 5)) :: (15, .int .u8 0) :: _) hA rfl fun a hA => ?_
 replace hA := hA.rw 16 (v' := .int .u8 0) rfl (vint (by decide))
 refine zR 1 ((17, .int .i64 (IntKind.i64.wrap 0)) :: _) hA rfl fun a hA => ?_
 replace hA := hA.rw 17 (v' := .int .i64 0) rfl (wr64 (by first | rfl | omega) (by omega) (by omega))
 refine zR 1 ((18, .int .i64 (IntKind.i64.wrap (1 + 0))) :: _) hA rfl fun a hA => ?_
 replace hA := hA.rw 18 (v' := .int .i64 1) rfl (wr64 (by omega) (by omega) (by omega))
 refine zR 2 ((20, .int .u8 ((4 : Int).tmod 5)) :: (19, .int .u8 4) :: _) hA rfl fun a hA => ?_
 replace hA := hA.rw 20 (v' := .int .u8 4) rfl (vint (by decide))
 refine zR 1 ((21, .int .i64 (IntKind.i64.wrap 4)) :: _) hA rfl fun a hA => ?_
 replace hA := hA.rw 21 (v' := .int .i64 4) rfl (wr64 (by first | rfl | omega) (by omega) (by omega))
 refine zR 1 ((22, .int .i64 (IntKind.i64.wrap (1 + 4))) :: _) hA rfl fun a hA => ?_
 replace hA := hA.rw 22 (v' := .int .i64 5) rfl (wr64 (by omega) (by omega) (by omega))
 refine zR 2 ((24, .int .u8 ((19 : Int).tmod 20)) :: (23, .int .u8 19) :: _) hA rfl fun a hA => ?_
 replace hA := hA.rw 24 (v' := .int .u8 19) rfl (vint (by decide))
 refine zR 1 ((25, .int .i64 (IntKind.i64.wrap 19)) :: _) hA rfl fun a hA => ?_
 replace hA := hA.rw 25 (v' := .int .i64 19) rfl (wr64 (by first | rfl | omega) (by omega) (by omega))
 refine zR 1 ((26, .int .i64 (IntKind.i64.wrap (1 + 19))) :: _) hA rfl fun a hA => ?_
 replace hA := hA.rw 26 (v' := .int .i64 20) rfl (wr64 (by omega) (by omega) (by omega))
 refine zR 2 ((28, .int .u8 ((9 : Int).tmod 10)) :: (27, .int .u8 9) :: _) hA rfl fun a hA => ?_
 replace hA := hA.rw 28 (v' := .int .u8 9) rfl (vint (by decide))
 refine zR 1 ((29, .int .i64 (IntKind.i64.wrap 9)) :: _) hA rfl fun a hA => ?_
 replace hA := hA.rw 29 (v' := .int .i64 9) rfl (wr64 (by first | rfl | omega) (by omega) (by omega))
 refine zR 1 ((30, .int .i64 (IntKind.i64.wrap (1 + 9))) :: _) hA rfl fun a hA => ?_
 replace hA := hA.rw 30 (v' := .int .i64 10) rfl (wr64 (by omega) (by omega) (by omega))
 refine st_val hA rfl rfl (by decide) (rn_build tbOk hA rfl rfl rfl rfl rfl rfl rfl) fun a hA => ?_
 refine st_store tbOk hA hS [.int .i64 2, vI (1 + (q % 120)), .int .i64 1, .int .i64 5, .int .i64 20, .int .i64 10, .int .i64 10] [.int .i64 2, vI (1 + (q % 120)), .int .i64 1, .int .i64 5, .int .i64 20, .int .i64 10, .int .i64 10] rfl rfl rfl rfl rfl rfl (zn1 rfl) (zle rfl) rfl rfl rfl fun w3 hS => ?_
 refine zn (zx ?_)
 refine wp_ret ?_
 refine retc1 tbOk (fn := Tryz.f30) (cs := [.int .i64 2, vI (1 + (q % 120)), .int .i64 1, .int .i64 5, .int .i64 20, .int .i64 10, .int .i64 10]) hA rfl rfl rfl rfl rfl (cells_row (hS.heapAt 0 rfl) rfl) ?_
 replace hS := hS.d0
 exact ⟨rfl, hS⟩
theorem config9 {w0 w : World} {F : List Chunk} (hS : St w0 w F) {x : Int} {q : Nat} (hor : Go.bits .or .u8 x 31 = ((q : Nat) : Int)) (hq : q < 256) :
 Ret Tryz.prog 9 #[.int .u8 x] w (fun v w' => v = .agg #[vI ((cfgN (1 + q % 120)).no), vI ((cfgN (1 + q % 120)).pc), vI ((cfgN (1 + q % 120)).wa), vI ((cfgN (1 + q % 120)).tr), vI ((cfgN (1 + q % 120)).ag), vI ((cfgN (1 + q % 120)).pg), vI ((cfgN (1 + q % 120)).ro)] ∧ St w0 w' F) := by
 refine enter (vs := [.int .u8 x]) 6 Tryz.func9 rfl rfl (by simp) ?_; intro a hA
 refine zs (zr ?_)
 refine st_alloc tbOk hA hS [.int .i64 0, .int .i64 0, .int .i64 0, .int .i64 0, .int .i64 0, .int .i64 0, .int .i64 0] rfl rfl rfl rfl rfl (by decide) fun b1 w2 a hS hA => ?_
 refine zn (zx (zs (zr (zR 1 ((3, .int .u8 x) :: _) hA rfl fun a hA => st_val hA rfl rfl (by decide) (rn_or hA rfl rfl rfl) fun a hA => ?_))))
 replace hA := hA.rw 4 (v' := vB q) rfl (vint hor)
 refine st_call0 hA rfl rfl rfl isfn30 rfl rfl (by decide) (cfg30 hS hq) ?_
 clear hA hS; rintro _ w3 a ⟨rfl, hS⟩ hA
 refine st_store tbOk hA hS [vI ((cfgN (1 + q % 120)).no), vI ((cfgN (1 + q % 120)).pc), vI ((cfgN (1 + q % 120)).wa), vI ((cfgN (1 + q % 120)).tr), vI ((cfgN (1 + q % 120)).ag), vI ((cfgN (1 + q % 120)).pg), vI ((cfgN (1 + q % 120)).ro)] [vI ((cfgN (1 + q % 120)).no), vI ((cfgN (1 + q % 120)).pc), vI ((cfgN (1 + q % 120)).wa), vI ((cfgN (1 + q % 120)).tr), vI ((cfgN (1 + q % 120)).ag), vI ((cfgN (1 + q % 120)).pg), vI ((cfgN (1 + q % 120)).ro)] rfl rfl rfl rfl rfl rfl (zn1 rfl) (zle rfl) rfl rfl rfl fun w4 hS => ?_
 refine zn (zx ?_)
 refine wp_ret ?_
 refine retc1 tbOk (fn := Tryz.f9) (cs := [vI ((cfgN (1 + q % 120)).no), vI ((cfgN (1 + q % 120)).pc), vI ((cfgN (1 + q % 120)).wa), vI ((cfgN (1 + q % 120)).tr), vI ((cfgN (1 + q % 120)).ag), vI ((cfgN (1 + q % 120)).pg), vI ((cfgN (1 + q % 120)).ro)]) hA rfl rfl rfl rfl rfl (cells_row (hS.heapAt 0 rfl) rfl) ?_
 replace hS := hS.d0
 exact ⟨rfl, hS⟩
theorem network20 {w0 w : World} {F : List Chunk} (hS : St w0 w F) {x : Int} {q : Nat} {s : SY} (hor : Go.bits .or .u8 x 31 = ((q : Nat) : Int)) (hq : q < 256) (hM : netM (1 + q % 120) = some s) :
 Ret Tryz.prog 20 #[.int .u8 x] w (fun v w' => ∃ b L, SYS w0 b (cutl (spread 400)) s L [] ∧ v = .tuple #[vP b 0, .bool true] ∧ St w0 w' (L :: [] :: F)) := by
 refine enter (vs := [.int .u8 x]) 21 Tryz.func20 rfl rfl (by simp) ?_; intro a hA
 refine zs (zr (zR 2 ((3, .bool false) :: (2, .pointer none) :: _) hA rfl fun a hA => zn (zx (zs (zr ?_)))))
 refine st_buildSlice tbOk hA hS [.int .i64 0, .int .i64 1, .int .i64 2, .int .i64 3] rfl rfl rfl rfl rfl (by decide) (by kernel_rfl) rfl rfl (by decide) fun b1 w2 a hS hA => ?_
 refine zR 1 ((8, .int .u8 x) :: _) hA rfl fun a hA => ?_
 refine st_call0 hA rfl rfl rfl isfn9 rfl rfl (by decide) (config9 hS (q := q) hor hq) ?_
 clear hA hS; rintro _ w3 a ⟨rfl, hS⟩ hA
 refine st_call0 hA rfl rfl rfl isfn10 rfl rfl (by decide) (spread_10 hS 400 (by omega)) ?_
 clear hA hS; rintro _ w4 a ⟨As, cs, Cs, hOs, rfl, hS⟩ hA
 refine st_call0 hA rfl rfl rfl isfn8 rfl rfl (by decide) (of8 (ks := [0, 1, 2, 3]) (c := cfgN (1 + q % 120)) (ts := cutl (spread 400)) (ts0 := spread 400) (s := s) hS (fun w9 h9 => (Own.full (T := 29) (size := 1) (g := b1) (m := 4) (xs := rows encKi [0, 1, 2, 3]) rfl (by decide)).rd (h9.own_ 1 rfl)) (fun w9 h9 => hOs.rd (h9.own_ 0 rfl)) (by rw [spread_length]; decide) (by intro x hx; obtain ⟨k, hk, rfl⟩ := List.mem_map.1 hx; have := List.mem_range.1 hk; omega) rfl (by decide) (by decide) hM) ?_
 clear hA hS; rintro _ w5 a ⟨b, L, hY, rfl, hS⟩ hA
 refine zR 5 ((5, .nilIface) :: (4, vP b 0) :: (13, .nilIface) :: (12, vP b 0) :: (6, .tuple #[vP b 0, .nilIface]) :: _) hA rfl fun a hA => zn (zx (zs (zr (zR 9 ((3, .bool true) :: (2, vP b 0) :: (20, .bool true) :: (19, .bool true) :: (18, vP b 0) :: (17, .bool true) :: (16, .bool true) :: (15, .nilIface) :: (14, vP b 0) :: _) hA rfl fun a hA => zn (zx ?_)))))
 refine wp_ret ?_
 refine ret2 (fn := Tryz.f20) hA rfl rfl rfl ?_
 replace hS := hS.d3.d2
 exact ⟨_, _, hY, rfl, hS⟩
set_option maxHeartbeats 4000000 in
theorem trans18 {w0 w : World} {F : List Chunk} {b : Nat} {ts : List Nat} {s : SY} {L D : Chunk} {s' : SY} {r : MN} {ok : Bool} (hS : St w0 w (L :: D :: F)) (hY : SYS w0 b ts s L D) (m : MN) {d : Value} (hd : RdSX w0 (D :: F) 1 d m.da.length (rows encB m.da)) (hM : transM ts s m = some (s', r, ok)) :
 Ret Tryz.prog 18 #[vP b 0, .agg #[vU m.to, vU m.rp, vW m.id, vH m.op, vH m.st, vU m.po, vW m.ob, vB m.ri, vU m.ck, vU m.ar, d]] w (fun v w' => ∃ L' D' A c, SYS w0 b ts s' L' D' ∧ DX w0 D D' ∧ DD w0 D' A c r.da ∧ v = .tuple #[.agg #[vU r.to, vU r.rp, vW r.id, vH r.op, vH r.st, vU r.po, vW r.ob, vB r.ri, vU r.ck, vU r.ar, .slice A r.da.length c], .bool ok] ∧ St w0 w' (L' :: D' :: F)) := by
 obtain ⟨B, d', rfl, hmd, hdx⟩ := (hd _ (hS.tail 1 rfl)).open'
 obtain ⟨s1, k, hcm, htr⟩ := transM_some hM
 obtain ⟨st, sr, st1, out, hx, hc, hsc, rfl, rfl⟩ := callM_some hcm
 refine enter (vs := [vP b 0, .agg #[vU m.to, vU m.rp, vW m.id, vH m.op, vH m.st, vU m.po, vW m.ob, vB m.ri, vU m.ck, vU m.ar, .slice B m.da.length d']]) 41 Tryz.func18 rfl rfl (by simp) ?_; intro a hA
 refine zs (zr ?_)
 refine st_box hA hS [vU m.to, vU m.rp, vW m.id, vH m.op, vH m.st, vU m.po, vW m.ob, vB m.ri, vU m.ck, vU m.ar, .slice B m.da.length d'] rfl rfl rfl rfl rfl (by decide) fun b1 w2 a hS hA => ?_
 refine st_alloc tbOk hA hS [.int .u64 0, .int .u64 0, .int .u32 0, .int .u16 0, .int .u16 0, .int .u64 0, .int .u32 0, .int .u8 0, .int .u64 0, .int .u64 0, .slice none 0 0] rfl rfl rfl rfl rfl (by decide) fun b3 w4 a hS hA => ?_
 refine zR 1 ((5, .bool false) :: _) hA rfl fun a hA => zn (zx (zs (zr (zR 1 ((12, vP b 0) :: _) hA rfl fun a hA => zLA hA hS 1 [vU m.to, vU m.rp, vW m.id, vH m.op, vH m.st, vU m.po, vW m.ob, vB m.ri, vU m.ck, vU m.ar, .slice B m.da.length d'] rfl rfl rfl rfl rfl rfl rfl rfl rfl rfl fun a hA => ?_))))
 replace hS := hS.m3.m3
 refine st_call0 hA rfl rfl rfl isfn12 rfl rfl (by decide) (scall12 hS hY (i := 0) hx m (fun w' h => hd _ (St.dmid (R := [[(b3, rowO [.int .u64 0, .int .u64 0, .int .u32 0, .int .u16 0, .int .u16 0, .int .u64 0, .int .u32 0, .int .u8 0, .int .u64 0, .int .u64 0, .slice none 0 0] 46)], [(b1, rowO [vU m.to, vU m.rp, vW m.id, vH m.op, vH m.st, vU m.po, vW m.ob, vB m.ri, vU m.ck, vU m.ar, .slice B m.da.length d'] 46)]]) h)) hc hsc) ?_
 clear hA hS; rintro _ w5 a ⟨L1, D1, hY1, hX1, rfl, hS⟩ hA
 refine zR 5 ((7, .nilIface) :: (6, vW (st.ca.length + 1)) :: (16, .nilIface) :: (15, vW (st.ca.length + 1)) :: (11, .tuple #[vW (st.ca.length + 1), .nilIface]) :: _) hA rfl fun a hA => zn (zx (zs (zs (zr (zR 2 ((18, .bool false) :: (17, .nilIface) :: _) hA rfl fun a hA => zn (zx (cd_cond_f hA rfl (zk (zx (zs (zs (zr (zR 1 ((20, .int .i64 0) :: _) hA rfl fun a hA => zn (zx (zb ?_)))))))))))))))
 replace hS := hS.d3
 refine wp_loop_ghost (fun m a w => ∃ (j : Nat) (f' : Nat) (sj : SY) (L' : Chunk) (D' : Chunk), m = f' ∧ Has a 41 [(0, vP b 0), (4, vP b3 0), (6, vW (st.ca.length + 1)), (20, vI j)] ∧ St w0 w (L' :: D' :: [(b3, rowO [.int .u64 0, .int .u64 0, .int .u32 0, .int .u16 0, .int .u16 0, .int .u64 0, .int .u32 0, .int .u8 0, .int .u64 0, .int .u64 0, .slice none 0 0] 46)] :: F) ∧ (j + f' = 6) ∧ (transR ts f' sj st.ca.length = some (s', r, ok)) ∧ (SYS w0 b ts sj L' D') ∧ (DX w0 D D')) (6)
  ⟨0, 6, _, L1, D1, rfl, (hA.sel [0, 4, 6, 20] rfl), hS, rfl, htr, hY1, hX1⟩ ?_
 clear hA hS; rintro m0 a w6 ⟨j, f', sj, L', D', rfl, hA, hS, hj, hR, hY, hX⟩
 refine zs (zr ?_)
 rcases transR_cases hR with ⟨rfl, e1, e2, e3⟩ | ⟨f2, s2, d9, y, rfl, hst, hg0, ⟨h3, e1, e2, e3⟩ | ⟨h1, s3, htk, hM2⟩ | ⟨h3, h1, e1, e2, e3⟩⟩
 · refine zR 1 ((21, .bool (decide (((j : Nat) : Int) < 6))) :: _) hA rfl fun a hA => zn (zx (zs ?_))
   have hc7 : ¬ (((j : Nat) : Int) < 6) := by omega
   replace hA := hA.rw 21 (v' := .bool false) rfl (vb_false hc7)
   refine cd_cond_f hA rfl ?_
   refine wp_exit ?_
   refine xt_exit (xt_exit (cd_exit_eq (zx (zs (zr (st_val hA rfl rfl (by decide) (rn_build tbOk hA rfl rfl rfl rfl rfl rfl rfl) fun a hA => ?_))))))
   replace hS := hS.m2
   refine st_store tbOk hA hS [.int .u64 0, .int .u64 0, .int .u32 0, .int .u16 0, .int .u16 0, .int .u64 0, .int .u32 0, .int .u8 0, .int .u64 0, .int .u64 0, .slice none 0 0] [.int .u64 0, .int .u64 0, .int .u32 0, .int .u16 0, .int .u16 0, .int .u64 0, .int .u32 0, .int .u8 0, .int .u64 0, .int .u64 0, .slice none 0 0] rfl rfl rfl rfl rfl rfl (zn1 rfl) (zle rfl) rfl rfl rfl fun w8 hS => ?_
   refine zR 1 ((5, .bool false) :: _) hA rfl fun a hA => zn (zx ?_)
   refine wp_ret ?_
   refine retc2 tbOk (fn := Tryz.f18) (cs := [.int .u64 0, .int .u64 0, .int .u32 0, .int .u16 0, .int .u16 0, .int .u64 0, .int .u32 0, .int .u8 0, .int .u64 0, .int .u64 0, .slice none 0 0]) hA rfl rfl rfl rfl rfl rfl (cells_row (hS.heapAt 0 rfl) rfl) ?_
   rw [e1, e2, e3]
   replace hS := hS.d0
   exact ⟨_, _, none, 0, hY, hX, DD.nil, rfl, hS⟩
 · refine zR 1 ((21, .bool (decide (((j : Nat) : Int) < 6))) :: _) hA rfl fun a hA => zn (zx (zs ?_))
   have hc9 : ((j : Nat) : Int) < 6 := by omega
   replace hA := hA.rw 21 (v' := .bool true) rfl (vb_true hc9)
   refine cd_cond_t hA rfl (zk (zx (zs (zb (zs (zr (zR 1 ((22, vP b 0) :: _) hA rfl fun a hA => ?_)))))))
   replace hS := hS.m1.m1
   refine st_call0 hA rfl rfl rfl isfn19 rfl rfl (by decide) (settle19 hS hY hst (by decide)) ?_
   clear hA hS; rintro _ w10 a ⟨L2, D2, hY2, hX2, rfl, hS⟩ hA
   refine zn (zx (zs (zs (zr (zR 2 ((26, vW (st.ca.length + 1)) :: (25, vP b 0) :: _) hA rfl fun a hA => ?_)))))
   replace hS := hS.m1.m1
   obtain ⟨st9, sr9, g1, g2, g3, g4⟩ := get0M_some hg0
   refine st_call0 hA rfl rfl rfl isfn16 rfl rfl (by decide) (sget_failed16 hS hY2 (i := 0) g1 g2 g3 g4 h3) ?_
   clear hA hS; rintro _ w11 a ⟨L3, hY3, rfl, hS⟩ hA
   refine zR 4 ((30, .iface 55 (.int .i64 10)) :: (29, .agg #[.int .u64 0, .int .u64 0, .int .u32 0, .int .u16 0, .int .u16 0, .int .u64 0, .int .u32 0, .int .u8 0, .int .u64 0, .int .u64 0, .slice none 0 0]) :: (28, .int .i64 3) :: (24, .tuple #[.int .i64 3, .agg #[.int .u64 0, .int .u64 0, .int .u32 0, .int .u16 0, .int .u16 0, .int .u64 0, .int .u32 0, .int .u8 0, .int .u64 0, .int .u64 0, .slice none 0 0], .iface 55 (.int .i64 10)]) :: _) hA rfl fun a hA => ?_
   refine st_alloc tbOk hA hS [.int .u64 0, .int .u64 0, .int .u32 0, .int .u16 0, .int .u16 0, .int .u64 0, .int .u32 0, .int .u8 0, .int .u64 0, .int .u64 0, .slice none 0 0] rfl rfl rfl rfl rfl (by decide) fun b12 w13 a hS hA => ?_
   refine zR 1 ((8, .int .i64 3) :: _) hA rfl fun a hA => ?_
   refine st_store tbOk hA hS [.int .u64 0, .int .u64 0, .int .u32 0, .int .u16 0, .int .u16 0, .int .u64 0, .int .u32 0, .int .u8 0, .int .u64 0, .int .u64 0, .slice none 0 0] [.int .u64 0, .int .u64 0, .int .u32 0, .int .u16 0, .int .u16 0, .int .u64 0, .int .u32 0, .int .u8 0, .int .u64 0, .int .u64 0, .slice none 0 0] rfl rfl rfl rfl rfl rfl (zn1 rfl) (zle rfl) rfl rfl rfl fun w14 hS => ?_
   refine zR 1 ((10, .iface 55 (.int .i64 10)) :: _) hA rfl fun a hA => zn (zx (zs (zr (zR 2 ((32, .bool true) :: (31, .int .i64 3) :: _) hA rfl fun a hA => zn (zx (cd_cond_t hA rfl (zs ?_)))))))
   replace hS := hS.m3
   refine zD1 hS [] [(0, true), (1, true), (2, true), (3, false), (4, true)] mixed (by kernel_rfl) (by rintro c a w ⟨_, _, h, _⟩; cases h) (by rfl) (by kernel_rfl) ?_
   replace hS := hS.drew
   refine zYA hA (hS.tail 1 rfl) 0 [.int .u64 0, .int .u64 0, .int .u32 0, .int .u16 0, .int .u16 0, .int .u64 0, .int .u32 0, .int .u8 0, .int .u64 0, .int .u64 0, .slice none 0 0] rfl rfl rfl rfl rfl rfl rfl rfl rfl rfl rfl fun a hA => zW 2 ((35, .bool false) :: (34, .iface 55 (.int .i64 10)) :: _) hA (hS.tail 1 rfl) rfl fun a hA => dr_b (o := _) rfl ?_
   refine st_store tbOk hA hS [.int .u64 0, .int .u64 0, .int .u32 0, .int .u16 0, .int .u16 0, .int .u64 0, .int .u32 0, .int .u8 0, .int .u64 0, .int .u64 0, .slice none 0 0] [.int .u64 0, .int .u64 0, .int .u32 0, .int .u16 0, .int .u16 0, .int .u64 0, .int .u32 0, .int .u8 0, .int .u64 0, .int .u64 0, .slice none 0 0] rfl rfl rfl rfl rfl rfl (zn1 rfl) (zle rfl) rfl rfl rfl fun w15 hS => ?_
   refine zi (hS.tail 1 rfl) (zW 1 ((5, .bool false) :: _) hA (hS.tail 1 rfl) rfl fun a hA => ze (zx ?_))
   refine wp_ret (xt_ret (xb_ret (xt_ret (xt_ret (xb_ret (xt_ret ?_))))))
   refine retc2 tbOk (fn := Tryz.f18) (cs := [.int .u64 0, .int .u64 0, .int .u32 0, .int .u16 0, .int .u16 0, .int .u64 0, .int .u32 0, .int .u8 0, .int .u64 0, .int .u64 0, .slice none 0 0]) hA rfl rfl rfl rfl rfl rfl (cells_row (hS.heapAt 0 rfl) rfl) ?_
   rw [e1, e2, e3]
   replace hS := hS.d1.d0
   exact ⟨_, _, none, 0, hY3, (hX.trans hX2), DD.nil, rfl, hS⟩
 · refine zR 1 ((21, .bool (decide (((j : Nat) : Int) < 6))) :: _) hA rfl fun a hA => zn (zx (zs ?_))
   have hc16 : ((j : Nat) : Int) < 6 := by omega
   replace hA := hA.rw 21 (v' := .bool true) rfl (vb_true hc16)
   refine cd_cond_t hA rfl (zk (zx (zs (zb (zs (zr (zR 1 ((22, vP b 0) :: _) hA rfl fun a hA => ?_)))))))
   replace hS := hS.m1.m1
   refine st_call0 hA rfl rfl rfl isfn19 rfl rfl (by decide) (settle19 hS hY hst (by decide)) ?_
   clear hA hS; rintro _ w17 a ⟨L2, D2, hY2, hX2, rfl, hS⟩ hA
   refine zn (zx (zs (zs (zr (zR 2 ((26, vW (st.ca.length + 1)) :: (25, vP b 0) :: _) hA rfl fun a hA => ?_)))))
   replace hS := hS.m1.m1
   obtain ⟨st9, sr9, g1, g2, g3, g4⟩ := get0M_some hg0
   refine st_call0 hA rfl rfl rfl isfn16 rfl rfl (by decide) (sget_ok16 hS hY2 (i := 0) g1 g2 g3 g4 (by omega)) ?_
   clear hA hS; rintro _ w18 a ⟨L3, E3, A3, c3, hY3, hE3, rfl, hS⟩ hA
   refine zR 4 ((30, .nilIface) :: (29, .agg #[vU y.rp.to, vU y.rp.rp, vW y.rp.id, vH y.rp.op, vH y.rp.st, vU y.rp.po, vW y.rp.ob, vB y.rp.ri, vU y.rp.ck, vU y.rp.ar, .slice A3 y.rp.da.length c3]) :: (28, vI y.st) :: (24, .tuple #[vI y.st, .agg #[vU y.rp.to, vU y.rp.rp, vW y.rp.id, vH y.rp.op, vH y.rp.st, vU y.rp.po, vW y.rp.ob, vB y.rp.ri, vU y.rp.ck, vU y.rp.ar, .slice A3 y.rp.da.length c3], .nilIface]) :: _) hA rfl fun a hA => ?_
   refine st_alloc tbOk hA hS [.int .u64 0, .int .u64 0, .int .u32 0, .int .u16 0, .int .u16 0, .int .u64 0, .int .u32 0, .int .u8 0, .int .u64 0, .int .u64 0, .slice none 0 0] rfl rfl rfl rfl rfl (by decide) fun b19 w20 a hS hA => ?_
   refine zR 1 ((8, vI y.st) :: _) hA rfl fun a hA => ?_
   refine st_store tbOk hA hS [vU y.rp.to, vU y.rp.rp, vW y.rp.id, vH y.rp.op, vH y.rp.st, vU y.rp.po, vW y.rp.ob, vB y.rp.ri, vU y.rp.ck, vU y.rp.ar, .slice A3 y.rp.da.length c3] [vU y.rp.to, vU y.rp.rp, vW y.rp.id, vH y.rp.op, vH y.rp.st, vU y.rp.po, vW y.rp.ob, vB y.rp.ri, vU y.rp.ck, vU y.rp.ar, .slice A3 y.rp.da.length c3] rfl rfl rfl rfl rfl rfl (zn1 rfl) (zle rfl) rfl rfl rfl fun w21 hS => ?_
   refine zR 1 ((10, .nilIface) :: _) hA rfl fun a hA => zn (zx (zs (zr (zR 2 ((32, .bool (((y.st : Nat) : Int) != 1)) :: (31, vI y.st) :: _) hA rfl fun a hA => zn (zx ?_)))))
   have hc22 : ((y.st : Nat) : Int) = 1 := by omega
   replace hA := hA.rw 32 (v' := .bool false) rfl (vb_ne_f hc22)
   refine cd_cond_f hA rfl (zk (zx (zr (zR 2 ((37, .agg #[.int .u8 4, .int .i64 0, .int .i64 0]) :: (36, vP b 0) :: _) hA rfl fun a hA => ?_))))
   replace hS := hS.m2.m2
   refine st_call0 hA rfl rfl rfl isfn15 rfl rfl (by decide) (do_tick15 hS hY3 htk) ?_
   clear hA hS; rintro _ w23 a ⟨L4, D4, hY4, hX4, rfl, hS⟩ hA
   refine zn (zm (zx (zr (zR 1 ((39, .int .i64 (IntKind.i64.wrap (((j : Nat) : Int) + 1))) :: _) hA rfl fun a hA => ?_))))
   replace hA := hA.rw 39 (v' := vI (j + 1)) rfl (wr64 (by omega) (by omega) (by omega))
   refine zR 1 ((20, vI (j + 1)) :: _) hA rfl fun a hA => zn ?_
   replace hS := hS.d2
   exact lp_next _ (by omega) ⟨(j + 1), f2, s3, L4, D4, rfl, (hA.sel [0, 4, 6, 20] rfl), hS, by omega, hM2, hY4, ((hX.trans hX2).trans (DX.refl.step.trans hX4))⟩
 · refine zR 1 ((21, .bool (decide (((j : Nat) : Int) < 6))) :: _) hA rfl fun a hA => zn (zx (zs ?_))
   have hc24 : ((j : Nat) : Int) < 6 := by omega
   replace hA := hA.rw 21 (v' := .bool true) rfl (vb_true hc24)
   refine cd_cond_t hA rfl (zk (zx (zs (zb (zs (zr (zR 1 ((22, vP b 0) :: _) hA rfl fun a hA => ?_)))))))
   replace hS := hS.m1.m1
   refine st_call0 hA rfl rfl rfl isfn19 rfl rfl (by decide) (settle19 hS hY hst (by decide)) ?_
   clear hA hS; rintro _ w25 a ⟨L2, D2, hY2, hX2, rfl, hS⟩ hA
   refine zn (zx (zs (zs (zr (zR 2 ((26, vW (st.ca.length + 1)) :: (25, vP b 0) :: _) hA rfl fun a hA => ?_)))))
   replace hS := hS.m1.m1
   obtain ⟨st9, sr9, g1, g2, g3, g4⟩ := get0M_some hg0
   refine st_call0 hA rfl rfl rfl isfn16 rfl rfl (by decide) (sget_ok16 hS hY2 (i := 0) g1 g2 g3 g4 h3) ?_
   clear hA hS; rintro _ w26 a ⟨L3, E3, A3, c3, hY3, hE3, rfl, hS⟩ hA
   refine zR 4 ((30, .nilIface) :: (29, .agg #[vU y.rp.to, vU y.rp.rp, vW y.rp.id, vH y.rp.op, vH y.rp.st, vU y.rp.po, vW y.rp.ob, vB y.rp.ri, vU y.rp.ck, vU y.rp.ar, .slice A3 y.rp.da.length c3]) :: (28, vI y.st) :: (24, .tuple #[vI y.st, .agg #[vU y.rp.to, vU y.rp.rp, vW y.rp.id, vH y.rp.op, vH y.rp.st, vU y.rp.po, vW y.rp.ob, vB y.rp.ri, vU y.rp.ck, vU y.rp.ar, .slice A3 y.rp.da.length c3], .nilIface]) :: _) hA rfl fun a hA => ?_
   refine st_alloc tbOk hA hS [.int .u64 0, .int .u64 0, .int .u32 0, .int .u16 0, .int .u16 0, .int .u64 0, .int .u32 0, .int .u8 0, .int .u64 0, .int .u64 0, .slice none 0 0] rfl rfl rfl rfl rfl (by decide) fun b27 w28 a hS hA => ?_
   refine zR 1 ((8, vI y.st) :: _) hA rfl fun a hA => ?_
   refine st_store tbOk hA hS [vU y.rp.to, vU y.rp.rp, vW y.rp.id, vH y.rp.op, vH y.rp.st, vU y.rp.po, vW y.rp.ob, vB y.rp.ri, vU y.rp.ck, vU y.rp.ar, .slice A3 y.rp.da.length c3] [vU y.rp.to, vU y.rp.rp, vW y.rp.id, vH y.rp.op, vH y.rp.st, vU y.rp.po, vW y.rp.ob, vB y.rp.ri, vU y.rp.ck, vU y.rp.ar, .slice A3 y.rp.da.length c3] rfl rfl rfl rfl rfl rfl (zn1 rfl) (zle rfl) rfl rfl rfl fun w29 hS => ?_
   refine zR 1 ((10, .nilIface) :: _) hA rfl fun a hA => zn (zx (zs (zr (zR 2 ((32, .bool (((y.st : Nat) : Int) != 1)) :: (31, vI y.st) :: _) hA rfl fun a hA => zn (zx ?_)))))
   have hc30 : ¬ (((y.st : Nat) : Int) = 1) := by omega
   replace hA := hA.rw 32 (v' := .bool true) rfl (vb_ne_t hc30)
   refine cd_cond_t hA rfl (zs ?_)
   replace hS := hS.m3
   refine zD1 hS [] [(0, true), (1, true), (2, true), (3, false), (4, true)] mixed (by kernel_rfl) (by rintro c a w ⟨_, _, h, _⟩; cases h) (by rfl) (by kernel_rfl) ?_
   replace hS := hS.drew
   refine zYA hA (hS.tail 1 rfl) 0 [vU y.rp.to, vU y.rp.rp, vW y.rp.id, vH y.rp.op, vH y.rp.st, vU y.rp.po, vW y.rp.ob, vB y.rp.ri, vU y.rp.ck, vU y.rp.ar, .slice A3 y.rp.da.length c3] rfl rfl rfl rfl rfl rfl rfl rfl rfl rfl rfl fun a hA => zW 2 ((35, .bool true) :: (34, .nilIface) :: _) hA (hS.tail 1 rfl) rfl fun a hA => dr_b (o := _) rfl ?_
   refine st_store tbOk hA hS [vU y.rp.to, vU y.rp.rp, vW y.rp.id, vH y.rp.op, vH y.rp.st, vU y.rp.po, vW y.rp.ob, vB y.rp.ri, vU y.rp.ck, vU y.rp.ar, .slice A3 y.rp.da.length c3] [vU y.rp.to, vU y.rp.rp, vW y.rp.id, vH y.rp.op, vH y.rp.st, vU y.rp.po, vW y.rp.ob, vB y.rp.ri, vU y.rp.ck, vU y.rp.ar, .slice A3 y.rp.da.length c3] rfl rfl rfl rfl rfl rfl (zn1 rfl) (zle rfl) rfl rfl rfl fun w31 hS => ?_
   refine zi (hS.tail 1 rfl) (zW 1 ((5, .bool true) :: _) hA (hS.tail 1 rfl) rfl fun a hA => ze (zx ?_))
   refine wp_ret (xt_ret (xb_ret (xt_ret (xt_ret (xb_ret (xt_ret ?_))))))
   refine retc2 tbOk (fn := Tryz.f18) (cs := [vU y.rp.to, vU y.rp.rp, vW y.rp.id, vH y.rp.op, vH y.rp.st, vU y.rp.po, vW y.rp.ob, vB y.rp.ri, vU y.rp.ck, vU y.rp.ar, .slice A3 y.rp.da.length c3]) hA rfl rfl rfl rfl rfl rfl (cells_row (hS.heapAt 0 rfl) rfl) ?_
   rw [e1, e2, e3]
   replace hS := hS.d1.d0
   exact ⟨_, _, _, _, hY3, ((hX.trans hX2).trans DX.refl.step), DD.right hE3, rfl, hS⟩
end Go.Proofs.YthiakdmhpfkjbaaGreatDoor

set_option linter.unusedVariables false
set_option linter.unusedSimpArgs false
set_option maxRecDepth 4000
namespace Go.Proofs.YthiakdmhpfkjbaaGreatDoor
open Go Go.SK
def upM (s : SY) (i : Nat) : Option NC :=
  match (s.nx[i]? : Option NX) with
  | some (.up st _) => some st.c
  | _ => none
theorem upM_some {s : SY} {i : Nat} {c : NC} (h : upM s i = some c) : ∃ st sr, s.nx[i]? = some (.up st sr) ∧ st.c = c := by
  rw [upM] at h
  cases hx : s.nx[i]? with
  | none => rw [hx] at h; cases h
  | some x =>
    cases x with
    | down c => rw [hx] at h; cases h
    | up st sr => rw [hx] at h; injection h with h; exact ⟨st, sr, rfl, h⟩
def dnM (s : SY) (i : Nat) : Option NC :=
  match (s.nx[i]? : Option NX) with
  | some (.down c) => some c
  | _ => none
theorem dnM_some {s : SY} {i : Nat} {c : NC} (h : dnM s i = some c) : s.nx[i]? = some (.down c) := by
  rw [dnM] at h
  cases hx : s.nx[i]? with
  | none => rw [hx] at h; cases h
  | some x =>
    cases x with
    | down c => rw [hx] at h; injection h with h; rw [h]
    | up st sr => rw [hx] at h; cases h
def mkM (po ob ri ck : Nat) (da : List UInt8) : MN := ⟨po, 0, 0, 100, 0, po, ob, ri, ck, 0, da⟩
def sgM (po ob ri ck n : Nat) : MN := ⟨po, 0, 0, 100, 0, po, ob, ri, ck, n, []⟩
def rdM (po ob ri ck p n : Nat) : MN := ⟨po, 0, 0, 101, 0, po, ob, ri, ck, p * 4294967296 + n, []⟩
theorem upd_setCell {w : World} {b : Nat} {x v : Value} {T : TypeId} (hb : w.heap[b]? = some (rowO [x] T)) : Upd w (w.setCell ⟨b, 0, none⟩ v) b (rowO [v] T) := by
  refine ⟨rfl, rfl, rfl, by simp [World.setCell], ?_, fun k _ hk => RowKit.Below.heap_setCell w _ _ k hk⟩
  simp only [World.setCell, Array.getElem?_modify, if_true, hb]
  rfl
def HG (w : World) : Prop := w.cell? ⟨0, 0, none⟩ = some (.iface 230 (.agg #[vP 1 26]))
theorem asHit {w0 w : World} {F : List Chunk} {b : Nat} {x : Value} (hS : St w0 w ([(b, rowO [x] 55)] :: F)) (hg : HG w0) (n : Int) :
    Ret Tryz.prog 45 #[.iface 55 (.int .i64 n), .iface 105 (vP b 0)] w (fun v w' => v = .bool true ∧ St w0 w' ([(b, rowO [.int .i64 n] 55)] :: F)) := by
  have hb := hS.heapAt 0 rfl
  refine Calls.mono (as_hit n ⟨b, 0, none⟩ x w (hS.old hg) (cell_row hb rfl) (by simp [World.frozen?, hb, rowO])) fun e w' ⟨he, hw⟩ => ⟨_, he, rfl, ?_⟩
  subst hw
  have h4 := (((hS.alloc (.cells #[vP b 0] 105)).alloc (.cells #[vP 1 105, vP w.heap.size 0, .int .u64 150] 157)).alloc (.cells #[vP 1 105, vP w.heap.size 0, .int .u64 150] 157)).alloc (.cells #[.int .i64 n] 55)
  have h5 := h4.drop1.drop1.drop1.drop1
  exact h5.upd (upd_setCell (h5.heapAt 0 rfl))
theorem number_hit17 {w0 w : World} {F : List Chunk} (hS : St w0 w F) (hg : HG w0) (n : Int) :
 Ret Tryz.prog 17 #[.iface 55 (.int .i64 n)] w (fun v w' => v = .int .i64 n ∧ St w0 w' F) := by
 refine enter (vs := [.iface 55 (.int .i64 n)]) 8 Tryz.func17 rfl rfl (by simp) ?_; intro a hA
 refine zs (zr (zR 1 ((2, .int .i64 0) :: _) hA rfl fun a hA => zn (zx (zs (zr ?_)))))
 refine st_alloc tbOk hA hS [.int .i64 0] rfl rfl rfl rfl rfl (by decide) fun b1 w2 a hS hA => ?_
 refine zn (zx (zs (zs (zr (zR 2 ((5, .iface 105 (vP b1 0)) :: (4, .iface 55 (.int .i64 n)) :: _) hA rfl fun a hA => ?_)))))
 refine st_call0 hA rfl rfl rfl isfn45 rfl rfl (by decide) (asHit hS hg n) ?_
 clear hA hS; rintro v w3 a ⟨rfl, hS⟩ hA
 refine zn (zx (cd_cond_t hA rfl (zs (zr (zL hA hS 0 rfl rfl rfl rfl rfl rfl rfl rfl rfl fun a hA => zR 1 ((2, .int .i64 n) :: _) hA rfl fun a hA => zn (zx ?_))))))
 refine wp_ret (xt_ret ?_)
 refine ret1 (fn := Tryz.f17) hA rfl rfl ?_
 replace hS := hS.d0
 exact ⟨rfl, hS⟩
theorem ndroot32 {w0 w : World} {F : List Chunk} {b bo : Nat} {s : NC} (hS : St w0 w ([(b, rowO [vI s.id, vI s.ki, vI s.no, vI s.pc, vI s.wa, vI s.tr, vI s.ag, vI s.pg, vI s.ro, vP bo 0, .bool false, vI s.now, vU s.sent, .int .u64 0, .int .u64 0, .int .u64 0, .int .u32 0, .int .u8 0, .int .u64 0, .pointer none, .pointer none, .pointer none, .pointer none, .pointer none, .pointer none, .map none] 121)] :: F)) :
 Ret Tryz.prog 32 #[vP b 0] w (fun v w' => v = .tuple #[.agg #[.int .u64 0, .int .u32 0, .int .u8 0, .int .u64 0], .bool false] ∧ St w0 w' ([(b, rowO [vI s.id, vI s.ki, vI s.no, vI s.pc, vI s.wa, vI s.tr, vI s.ag, vI s.pg, vI s.ro, vP bo 0, .bool false, vI s.now, vU s.sent, .int .u64 0, .int .u64 0, .int .u64 0, .int .u32 0, .int .u8 0, .int .u64 0, .pointer none, .pointer none, .pointer none, .pointer none, .pointer none, .pointer none, .map none] 121)] :: F)) := by
 refine enter (vs := [vP b 0]) 19 Tryz.func32 rfl rfl (by simp) ?_; intro a hA
 refine zs (zr ?_)
 refine st_alloc tbOk hA hS [.int .u64 0, .int .u32 0, .int .u8 0, .int .u64 0] rfl rfl rfl rfl rfl (by decide) fun b1 w2 a hS hA => ?_
 refine zR 1 ((3, .bool false) :: _) hA rfl fun a hA => zn (zx (zs ?_))
 refine zD0 hS [] [(0, true), (1, true), (2, true), (3, true), (4, true), (5, true), (6, true), (7, true), (8, true), (9, true), (10, true), (11, true), (12, true), (13, true), (14, true), (15, false), (16, true)] mixed (by kernel_rfl) (by rintro c a w ⟨_, _, h, _⟩; cases h) (by rfl) (by kernel_rfl) ?_
 replace hS := hS.drew
 refine zW 3 ((6, vP b 15) :: (5, vP b 0) :: (4, vP b 0) :: _) hA hS rfl fun a hA => zYA hA hS 1 [.int .u64 0, .int .u32 0, .int .u8 0, .int .u64 0] rfl rfl rfl rfl rfl rfl rfl rfl rfl rfl rfl fun a hA => zW 3 ((10, vP b 10) :: (9, vP b 0) :: (8, vP b 0) :: _) hA hS rfl fun a hA => zY hA hS 1 rfl rfl rfl rfl rfl rfl rfl rfl rfl rfl fun a hA => zW 7 ((18, .bool false) :: (17, undef) :: (16, undef) :: (15, undef) :: (14, undef) :: (13, undef) :: (12, .bool false) :: _) hA hS rfl fun a hA => dr_b (o := _) rfl ?_
 refine st_store tbOk hA hS [.int .u64 0, .int .u32 0, .int .u8 0, .int .u64 0] [.int .u64 0, .int .u32 0, .int .u8 0, .int .u64 0] rfl rfl rfl rfl rfl rfl (zn1 rfl) (zle rfl) rfl rfl rfl fun w3 hS => ?_
 refine zi hS (zW 1 ((3, .bool false) :: _) hA hS rfl fun a hA => ze (zx ?_))
 refine wp_ret ?_
 refine retc2 tbOk (fn := Tryz.f32) (cs := [.int .u64 0, .int .u32 0, .int .u8 0, .int .u64 0]) hA rfl rfl rfl rfl rfl rfl (cells_row (hS.heapAt 0 rfl) rfl) ?_
 replace hS := hS.d0
 exact ⟨rfl, hS⟩
set_option maxHeartbeats 4000000 in
theorem sroot_down11 {w0 w : World} {F : List Chunk} {b : Nat} {ts : List Nat} {s : SY} {L D : Chunk} {i : Nat} {nc : NC} (hS : St w0 w (L :: D :: F)) (hY : SYS w0 b ts s L D) (hx : s.nx[i]? = some (.down nc)) :
 Ret Tryz.prog 11 #[vP b 0, vI i] w (fun v w' => ∃ L', SYS w0 b ts s L' D ∧ v = .tuple #[.agg #[.int .u64 0, .int .u32 0, .int .u8 0, .int .u64 0], .bool false] ∧ St w0 w' (L' :: D :: F)) := by
 obtain ⟨bw, bo, bs, A, c, C, NL, WL, OL, hs, rfl⟩ := hY
 replace hS : St w0 w ([(b, rowO [.slice A bs.length c, vP bw 0] 77)] :: C :: NL :: WL :: OL :: D :: F) := hS.cast (by simp)
 have hlen := hs.fn.len; obtain ⟨bi, hbi⟩ := get_ex (l := bs) (k := i) (by have h := (List.getElem?_eq_some_iff.1 hx).1; omega)
 obtain ⟨La, Li, Lb, hNLe, hNi, hback⟩ := hs.fn.at_ hbi hx; subst hNLe
 replace hS : St w0 w ([(b, rowO [.slice A bs.length c, vP bw 0] 77)] :: C :: La :: Li :: Lb :: WL :: OL :: D :: F) := hS.cast (by simp)
 refine enter (vs := [vP b 0, vI i]) 17 Tryz.func11 rfl rfl (by simp) ?_; intro a hA
 refine zs (zr ?_)
 refine st_alloc tbOk hA hS [.int .u64 0, .int .u32 0, .int .u8 0, .int .u64 0] rfl rfl rfl rfl rfl (by decide) fun b1 w2 a hS hA => ?_
 refine zR 1 ((5, .bool false) :: _) hA rfl fun a hA => zn (zx (zs (zr (zR 2 ((8, vI i) :: (7, vP b 0) :: _) hA rfl fun a hA => ?_))))
 replace hS := hS.m2.m2
 refine st_call0 hA rfl rfl rfl isfn31 rfl rfl (by decide) (sat31 (i := i) hS hs.fr hbi) ?_
 clear hA hS; rintro _ w3 a ⟨rfl, hS⟩ hA
 refine zR 1 ((6, vP bi 0) :: _) hA rfl fun a hA => zn (zx (zs (zs (zr (zR 2 ((11, .bool false) :: (10, vP bi 0) :: _) hA rfl fun a hA => zn (zx (cd_cond_f hA rfl (zk (zx (zs (zr (zR 1 ((13, vP bi 0) :: _) hA rfl fun a hA => ?_))))))))))))
 replace hS := hS.m4
 have hLi : Li = _ := hNi; subst hLi
 refine st_call0 hA rfl rfl rfl isfn32 rfl rfl (by decide) (ndroot32 (s := nc) hS) ?_
 clear hA hS; rintro _ w4 a ⟨rfl, hS⟩ hA
 have hN2 : NOD w0 bi bo (.down nc) _ D := hNi; revert hN2 hS; generalize hLg : [(bi, rowO [vI nc.id, vI nc.ki, vI nc.no, vI nc.pc, vI nc.wa, vI nc.tr, vI nc.ag, vI nc.pg, vI nc.ro, vP bo 0, .bool false, vI nc.now, vU nc.sent, .int .u64 0, .int .u64 0, .int .u64 0, .int .u32 0, .int .u8 0, .int .u64 0, .pointer none, .pointer none, .pointer none, .pointer none, .pointer none, .pointer none, .map none] 121)] = Li2; intro hS hN2
 refine zR 2 ((16, .bool false) :: (15, .agg #[.int .u64 0, .int .u32 0, .int .u8 0, .int .u64 0]) :: _) hA rfl fun a hA => ?_
 replace hS := hS.m3
 refine st_store tbOk hA hS [.int .u64 0, .int .u32 0, .int .u8 0, .int .u64 0] [.int .u64 0, .int .u32 0, .int .u8 0, .int .u64 0] rfl rfl rfl rfl rfl rfl (zn1 rfl) (zle rfl) rfl rfl rfl fun w5 hS => ?_
 refine zR 1 ((5, .bool false) :: _) hA rfl fun a hA => zn (zx ?_)
 refine wp_ret ?_
 refine retc2 tbOk (fn := Tryz.f11) (cs := [.int .u64 0, .int .u32 0, .int .u8 0, .int .u64 0]) hA rfl rfl rfl rfl rfl rfl (cells_row (hS.heapAt 0 rfl) rfl) ?_
 replace hS := hS.d0.m3.m3.m3
 replace hS : St w0 w5 (((b, rowO [.slice A bs.length c, vP bw 0] 77) :: (C ++ ((La ++ (Li2 ++ Lb)) ++ (WL ++ OL)))) :: D :: F) := hS.cast (by simp)
 have hY2 : SYS w0 b ts { s with nx := s.nx.set i (.down nc) } _ D := ⟨bw, bo, bs, A, c, C, _, _, _, ⟨hback _ _ _ DX.refl (NOD.dx hN2 DX.refl), hs.fw, hs.fo, hs.fr⟩, rfl⟩
 rw [set_same9 hx] at hY2; exact ⟨_, hY2, rfl, hS⟩
set_option maxHeartbeats 4000000 in
theorem scall_down12 {w0 w : World} {F : List Chunk} {b : Nat} {ts : List Nat} {s : SY} {L D : Chunk} {i : Nat} {nc : NC} (hS : St w0 w (L :: D :: F)) (hY : SYS w0 b ts s L D) (hx : s.nx[i]? = some (.down nc)) (m0 m1 m2 m3 m4 m5 m6 m7 m8 m9 : Int) (d : Value) :
 Ret Tryz.prog 12 #[vP b 0, vI i, .agg #[.int .u64 m0, .int .u64 m1, .int .u32 m2, .int .u16 m3, .int .u16 m4, .int .u64 m5, .int .u32 m6, .int .u8 m7, .int .u64 m8, .int .u64 m9, d]] w (fun v w' => ∃ L', SYS w0 b ts s L' D ∧ v = .tuple #[.int .u32 0, .iface 55 (.int .i64 15)] ∧ St w0 w' (L' :: D :: F)) := by
 obtain ⟨bw, bo, bs, A, c, C, NL, WL, OL, hs, rfl⟩ := hY
 replace hS : St w0 w ([(b, rowO [.slice A bs.length c, vP bw 0] 77)] :: C :: NL :: WL :: OL :: D :: F) := hS.cast (by simp)
 have hlen := hs.fn.len; obtain ⟨bi, hbi⟩ := get_ex (l := bs) (k := i) (by have h := (List.getElem?_eq_some_iff.1 hx).1; omega)
 obtain ⟨La, Li, Lb, hNLe, hNi, hback⟩ := hs.fn.at_ hbi hx; subst hNLe
 replace hS : St w0 w ([(b, rowO [.slice A bs.length c, vP bw 0] 77)] :: C :: La :: Li :: Lb :: WL :: OL :: D :: F) := hS.cast (by simp)
 refine enter (vs := [vP b 0, vI i, .agg #[.int .u64 m0, .int .u64 m1, .int .u32 m2, .int .u16 m3, .int .u16 m4, .int .u64 m5, .int .u32 m6, .int .u8 m7, .int .u64 m8, .int .u64 m9, d]]) 32 Tryz.func12 rfl rfl (by simp) ?_; intro a hA
 refine zs (zr ?_)
 refine st_box hA hS [.int .u64 m0, .int .u64 m1, .int .u32 m2, .int .u16 m3, .int .u16 m4, .int .u64 m5, .int .u32 m6, .int .u8 m7, .int .u64 m8, .int .u64 m9, d] rfl rfl rfl rfl rfl (by decide) fun b1 w2 a hS hA => ?_
 refine zR 2 ((7, .nilIface) :: (6, .int .u32 0) :: _) hA rfl fun a hA => zn (zx (zs (zr (zR 2 ((13, vI i) :: (12, vP b 0) :: _) hA rfl fun a hA => ?_))))
 replace hS := hS.m2.m2
 refine st_call0 hA rfl rfl rfl isfn31 rfl rfl (by decide) (sat31 (i := i) hS hs.fr hbi) ?_
 clear hA hS; rintro _ w3 a ⟨rfl, hS⟩ hA
 refine zR 1 ((8, vP bi 0) :: _) hA rfl fun a hA => zn (zx (zs (zs (zr (zR 2 ((16, .bool false) :: (15, vP bi 0) :: _) hA rfl fun a hA => zn (zx (cd_cond_f hA rfl (zk (zx (zs (zr (zR 1 ((19, vP bi 0) :: _) hA rfl fun a hA => zLA hA hS 2 [.int .u64 m0, .int .u64 m1, .int .u32 m2, .int .u16 m3, .int .u16 m4, .int .u64 m5, .int .u32 m6, .int .u8 m7, .int .u64 m8, .int .u64 m9, d] rfl rfl rfl rfl rfl rfl rfl rfl rfl rfl fun a hA => ?_))))))))))))
 replace hS := hS.m4
 have hLi : Li = _ := hNi; subst hLi
 refine st_call0 hA rfl rfl rfl isfn33 rfl rfl (by decide) (ndcall33 (s := nc) hS m0 m1 m2 m3 m4 m5 m6 m7 m8 m9 d) ?_
 clear hA hS; rintro _ w4 a ⟨rfl, hS⟩ hA
 have hN2 : NOD w0 bi bo (.down nc) _ D := hNi; revert hN2 hS; generalize hLg : [(bi, rowO [vI nc.id, vI nc.ki, vI nc.no, vI nc.pc, vI nc.wa, vI nc.tr, vI nc.ag, vI nc.pg, vI nc.ro, vP bo 0, .bool false, vI nc.now, vU nc.sent, .int .u64 0, .int .u64 0, .int .u64 0, .int .u32 0, .int .u8 0, .int .u64 0, .pointer none, .pointer none, .pointer none, .pointer none, .pointer none, .pointer none, .map none] 121)] = Li2; intro hS hN2
 refine zR 7 ((11, .iface 55 (.int .i64 15)) :: (10, .slice none 0 0) :: (9, .int .u32 0) :: (24, .iface 55 (.int .i64 15)) :: (23, .slice none 0 0) :: (22, .int .u32 0) :: (18, .tuple #[.int .u32 0, .slice none 0 0, .iface 55 (.int .i64 15)]) :: _) hA rfl fun a hA => zn (zx (zs (zs (zr (zR 2 ((26, .bool true) :: (25, .iface 55 (.int .i64 15)) :: _) hA rfl fun a hA => zn (zx (cd_cond_t hA rfl (zs (zr (zR 3 ((7, .iface 55 (.int .i64 15)) :: (6, .int .u32 0) :: (27, .iface 55 (.int .i64 15)) :: _) hA rfl fun a hA => zn (zx ?_)))))))))))
 refine wp_ret (xt_ret ?_)
 refine ret2 (fn := Tryz.f12) hA rfl rfl rfl ?_
 replace hS := hS.d3.m3.m3.m3
 replace hS : St w0 w4 (((b, rowO [.slice A bs.length c, vP bw 0] 77) :: (C ++ ((La ++ (Li2 ++ Lb)) ++ (WL ++ OL)))) :: D :: F) := hS.cast (by simp)
 have hY2 : SYS w0 b ts { s with nx := s.nx.set i (.down nc) } _ D := ⟨bw, bo, bs, A, c, C, _, _, _, ⟨hback _ _ _ DX.refl (NOD.dx hN2 DX.refl), hs.fw, hs.fo, hs.fr⟩, rfl⟩
 rw [set_same9 hx] at hY2; exact ⟨_, hY2, rfl, hS⟩
theorem stseg21 {w0 w : World} {F : List Chunk} (hS : St w0 w F) (po ob ri ck : Nat) {n : Nat} (hn : n < 4294967296) :
 Ret Tryz.prog 21 #[.agg #[vU po, vW ob, vB ri, vU ck], vW n] w (fun v w' => ∃ A c C, Own 5 1 (.slice A (([] : List UInt8)).length c) (([] : List UInt8)).length (rows encB (([] : List UInt8))) C ∧ v = .agg #[vU po, .int .u64 0, .int .u32 0, .int .u16 100, .int .u16 0, vU po, vW ob, vB ri, vU ck, vU n, .slice A 0 c] ∧ St w0 w' (C :: F)) := by
 refine enter (vs := [.agg #[vU po, vW ob, vB ri, vU ck], vW n]) 9 Tryz.func21 rfl rfl (by simp) ?_; intro a hA
 refine zs (zr ?_)
 refine st_box hA hS [vU po, vW ob, vB ri, vU ck] rfl rfl rfl rfl rfl (by decide) fun b1 w2 a hS hA => ?_
 refine st_alloc tbOk hA hS [.int .u64 0, .int .u64 0, .int .u32 0, .int .u16 0, .int .u16 0, .int .u64 0, .int .u32 0, .int .u8 0, .int .u64 0, .int .u64 0, .slice none 0 0] rfl rfl rfl rfl rfl (by decide) fun b3 w4 a hS hA => ?_
 refine zn (zx (zs (zr (zLA hA hS 1 [vU po, vW ob, vB ri, vU ck] rfl rfl rfl rfl rfl rfl rfl rfl rfl rfl fun a hA => zR 2 ((7, .int .u64 (IntKind.u64.wrap ((n : Nat) : Int))) :: (6, vW n) :: _) hA rfl fun a hA => ?_))))
 replace hA := hA.rw 7 (v' := vU n) rfl (vint (wrap_u64 (by omega) (by omega)))
 refine st_call0 hA rfl rfl rfl isfn35 rfl rfl (by decide) (ask_35 hS po ob ri ck 100 n (da := []) (RdSX.nil) (Nat.zero_le _)) ?_
 clear hA hS; rintro _ w5 a ⟨A, c, C, hO, rfl, hS⟩ hA
 replace hS := hS.m1
 refine st_store tbOk hA hS [vU po, .int .u64 0, .int .u32 0, .int .u16 100, .int .u16 0, vU po, vW ob, vB ri, vU ck, vU n, .slice A 0 c] [vU po, .int .u64 0, .int .u32 0, .int .u16 100, .int .u16 0, vU po, vW ob, vB ri, vU ck, vU n, .slice A 0 c] rfl rfl rfl rfl rfl rfl (zn1 rfl) (zle rfl) rfl rfl rfl fun w6 hS => ?_
 refine zn (zx ?_)
 refine wp_ret ?_
 refine retc1 tbOk (fn := Tryz.f21) (cs := [vU po, .int .u64 0, .int .u32 0, .int .u16 100, .int .u16 0, vU po, vW ob, vB ri, vU ck, vU n, .slice A 0 c]) hA rfl rfl rfl rfl rfl (cells_row (hS.heapAt 0 rfl) rfl) ?_
 replace hS := hS.d2.d0
 exact ⟨_, _, _, hO, rfl, hS⟩
end Go.Proofs.YthiakdmhpfkjbaaGreatDoor

set_option linter.unusedVariables false
set_option linter.unusedSimpArgs false
set_option maxRecDepth 4000
namespace Go.Proofs.YthiakdmhpfkjbaaGreatDoor
open Go Go.SK
def awM : Option Unit :=
  (netM 8).bind fun s0 => (upM s0 3).bind fun c => (transM (cutl (spread 400)) s0 (mkM c.r0 c.r1 c.r2 c.r3 [120, 121, 122])).bind fun x =>
  (transM (cutl (spread 400)) x.1 (rdM x.2.1.po x.2.1.ob x.2.1.ri x.2.1.ck 1 2)).bind fun y => if ¬ c.port = 0 ∧ x.2.2 = true ∧ y.2.2 = true ∧ y.2.1.da = [121, 122] then some () else none
theorem awM_is : awM = some () := by kernel_rfl
theorem awM_ex : ∃ s0 c s1 r1 s2 r2, netM 8 = some s0 ∧ upM s0 3 = some c ∧ transM (cutl (spread 400)) s0 (mkM c.r0 c.r1 c.r2 c.r3 [120, 121, 122]) = some (s1, r1, true) ∧ transM (cutl (spread 400)) s1 (rdM r1.po r1.ob r1.ri r1.ck 1 2) = some (s2, r2, true) ∧ ¬ c.port = 0 ∧ r2.da = [121, 122] := by
  have h := awM_is
  unfold awM at h
  obtain ⟨s0, h1, h⟩ := Option.bind_eq_some_iff.1 h
  obtain ⟨c, h2, h⟩ := Option.bind_eq_some_iff.1 h
  obtain ⟨⟨s1, r1, o1⟩, h3, h⟩ := Option.bind_eq_some_iff.1 h
  obtain ⟨⟨s2, r2, o2⟩, h4, h⟩ := Option.bind_eq_some_iff.1 h
  dsimp only at h h4
  by_cases hc : ¬ c.port = 0 ∧ o1 = true ∧ o2 = true ∧ r2.da = [121, 122]
  · obtain ⟨a, rfl, rfl, b⟩ := hc
    exact ⟨s0, c, s1, r1, s2, r2, h1, h2, h3, h4, a, b⟩
  · rw [if_neg hc] at h; cases h
set_option maxHeartbeats 4000000 in
theorem awake7 {w0 w : World} {F : List Chunk} (hS : St w0 w F) :
 Ret Tryz.prog 7 #[] w (fun v w' => v = .bool true ∧ St w0 w' F) := by
 obtain ⟨s0, c, s1, r1, s2, r2, h1, h2, h3, h4, hp, hda⟩ := awM_ex
 refine enter (vs := []) 50 Tryz.func7 rfl rfl (by simp) ?_; intro a hA
 refine zs (zr (zR 1 ((0, .bool false) :: _) hA rfl fun a hA => zn (zx (zs (zr ?_)))))
 refine st_call0 hA rfl rfl rfl isfn20 rfl rfl (by decide) (network20 hS (q := 127) (s := s0) (by rfl) (by decide) h1) ?_
 clear hA hS; rintro _ w1 a ⟨b2, L3, hY4, rfl, hS⟩ hA
 refine zR 5 ((2, .bool true) :: (1, vP b2 0) :: (12, .bool true) :: (11, vP b2 0) :: (9, .tuple #[vP b2 0, .bool true]) :: _) hA rfl fun a hA => zn (zx (zs (zs (zr (zR 2 ((14, .bool false) :: (13, .bool true) :: _) hA rfl fun a hA => zn (zx (cd_cond_f hA rfl (zk (zx (zs (zr (zR 1 ((16, vP b2 0) :: _) hA rfl fun a hA => ?_))))))))))))
 replace hS := hS.m1.m1
 obtain ⟨st6, sr7, hu8, hc9⟩ := upM_some h2
 refine st_call0 hA rfl rfl rfl isfn11 rfl rfl (by decide) (sroot11 hS hY4 (i := 3) hu8) ?_
 rw [hc9]
 clear hA hS; rintro _ w5 a ⟨L10, hY11, rfl, hS⟩ hA
 refine zR 3 ((19, .bool (((c.port : Nat) : Int) != 0)) :: (18, .agg #[vU c.r0, vW c.r1, vB c.r2, vU c.r3]) :: (15, .tuple #[.agg #[vU c.r0, vW c.r1, vB c.r2, vU c.r3], .bool (((c.port : Nat) : Int) != 0)]) :: _) hA rfl fun a hA => ?_
 refine st_alloc tbOk hA hS [.int .u64 0, .int .u32 0, .int .u8 0, .int .u64 0] rfl rfl rfl rfl rfl (by decide) fun b13 w14 a hS hA => ?_
 refine st_store tbOk hA hS [vU c.r0, vW c.r1, vB c.r2, vU c.r3] [vU c.r0, vW c.r1, vB c.r2, vU c.r3] rfl rfl rfl rfl rfl rfl (zn1 rfl) (zle rfl) rfl rfl rfl fun w15 hS => ?_
 replace hA := hA.rw 19 (v' := .bool true) rfl (vbool (by rw [bne_iff_ne]; exact fun h => hp (Int.ofNat.inj h)))
 refine zR 1 ((4, .bool true) :: _) hA rfl fun a hA => zn (zx (zs (zr (zR 1 ((21, vP b2 0) :: _) hA rfl fun a hA => zLA hA hS 0 [vU c.r0, vW c.r1, vB c.r2, vU c.r3] rfl rfl rfl rfl rfl rfl rfl rfl rfl rfl fun a hA => ?_))))
 refine st_buildSlice tbOk hA hS [.int .u8 120, .int .u8 121, .int .u8 122] rfl rfl rfl rfl rfl (by decide) (by kernel_rfl) rfl rfl (by decide) fun b16 w17 a hS hA => ?_
 refine st_mark tbOk hA ([120, 121, 122] : List UInt8) hS rfl rfl rfl rfl rfl rfl rfl rfl (by decide) (by decide) (by decide) fun C18 w19 a hDC18 hS hA => ?_
 refine st_call0 hA rfl rfl rfl isfn13 rfl rfl (by decide) (stmake13 hS c.r0 c.r1 c.r2 c.r3 (da := ([120, 121, 122] : List UInt8)) (fun w' h => ((hDC18 _ (h.only 0 rfl))).x) (by first | omega | exact Nat.zero_le _ | (simp only [List.length_take, List.drop_zero]; omega) | decide)) ?_
 clear hA hS; rintro _ w20 a ⟨Am21, cm22, Cm23, hm24, rfl, hS⟩ hA
 replace hS := hS.m4.m4
 refine st_call0 hA rfl rfl rfl isfn18 rfl rfl (by decide) (trans18 hS hY11 (mkM c.r0 c.r1 c.r2 c.r3 ([120, 121, 122] : List UInt8)) (fun w9 h9 => (hm24.rd (h9.own_ 1 rfl)).x) h3) ?_
 clear hA hS; rintro _ w25 a ⟨L29, D31, Ar26, cr27, hY30, hX32, hr28, rfl, hS⟩ hA
 refine zR 3 ((28, .bool true) :: (27, .agg #[vU r1.to, vU r1.rp, vW r1.id, vH r1.op, vH r1.st, vU r1.po, vW r1.ob, vB r1.ri, vU r1.ck, vU r1.ar, .slice Ar26 r1.da.length cr27]) :: (20, .tuple #[.agg #[vU r1.to, vU r1.rp, vW r1.id, vH r1.op, vH r1.st, vU r1.po, vW r1.ob, vB r1.ri, vU r1.ck, vU r1.ar, .slice Ar26 r1.da.length cr27], .bool true]) :: _) hA rfl fun a hA => ?_
 refine st_alloc tbOk hA hS [.int .u64 0, .int .u64 0, .int .u32 0, .int .u16 0, .int .u16 0, .int .u64 0, .int .u32 0, .int .u8 0, .int .u64 0, .int .u64 0, .slice none 0 0] rfl rfl rfl rfl rfl (by decide) fun b33 w34 a hS hA => ?_
 refine st_store tbOk hA hS [vU r1.to, vU r1.rp, vW r1.id, vH r1.op, vH r1.st, vU r1.po, vW r1.ob, vB r1.ri, vU r1.ck, vU r1.ar, .slice Ar26 r1.da.length cr27] [vU r1.to, vU r1.rp, vW r1.id, vH r1.op, vH r1.st, vU r1.po, vW r1.ob, vB r1.ri, vU r1.ck, vU r1.ar, .slice Ar26 r1.da.length cr27] rfl rfl rfl rfl rfl rfl (zn1 rfl) (zle rfl) rfl rfl rfl fun w35 hS => ?_
 refine zR 1 ((6, .bool true) :: _) hA rfl fun a hA => zn (zx (zs (zr (zR 2 ((31, vP b33 5) :: (30, vP b2 0) :: _) hA rfl fun a hA => zLA hA hS 0 [vU r1.po, vW r1.ob, vB r1.ri, vU r1.ck] rfl rfl rfl rfl rfl rfl rfl rfl rfl rfl fun a hA => ?_))))
 refine st_call0 hA rfl rfl rfl isfn25 rfl rfl (by decide) (stread25 hS r1.po r1.ob r1.ri r1.ck (p := 1) (n := 2) (by omega) (by omega)) ?_
 clear hA hS; rintro _ w36 a ⟨Am37, cm38, Cm39, hm40, rfl, hS⟩ hA
 replace hS := hS.m3.m3
 refine st_call0 hA rfl rfl rfl isfn18 rfl rfl (by decide) (trans18 hS hY30 (rdM r1.po r1.ob r1.ri r1.ck 1 2) (fun w9 h9 => (hm40.rd (h9.own_ 1 rfl)).x) h4) ?_
 clear hA hS; rintro _ w41 a ⟨L45, D47, Ar42, cr43, hY46, hX48, hr44, rfl, hS⟩ hA
 refine zR 3 ((36, .bool true) :: (35, .agg #[vU r2.to, vU r2.rp, vW r2.id, vH r2.op, vH r2.st, vU r2.po, vW r2.ob, vB r2.ri, vU r2.ck, vU r2.ar, .slice Ar42 r2.da.length cr43]) :: (29, .tuple #[.agg #[vU r2.to, vU r2.rp, vW r2.id, vH r2.op, vH r2.st, vU r2.po, vW r2.ob, vB r2.ri, vU r2.ck, vU r2.ar, .slice Ar42 r2.da.length cr43], .bool true]) :: _) hA rfl fun a hA => ?_
 refine st_alloc tbOk hA hS [.int .u64 0, .int .u64 0, .int .u32 0, .int .u16 0, .int .u16 0, .int .u64 0, .int .u32 0, .int .u8 0, .int .u64 0, .int .u64 0, .slice none 0 0] rfl rfl rfl rfl rfl (by decide) fun b49 w50 a hS hA => ?_
 refine st_store tbOk hA hS [vU r2.to, vU r2.rp, vW r2.id, vH r2.op, vH r2.st, vU r2.po, vW r2.ob, vB r2.ri, vU r2.ck, vU r2.ar, .slice Ar42 r2.da.length cr43] [vU r2.to, vU r2.rp, vW r2.id, vH r2.op, vH r2.st, vU r2.po, vW r2.ob, vB r2.ri, vU r2.ck, vU r2.ar, .slice Ar42 r2.da.length cr43] rfl rfl rfl rfl rfl rfl (zn1 rfl) (zle rfl) rfl rfl rfl fun w51 hS => ?_
 refine zR 1 ((8, .bool true) :: _) hA rfl fun a hA => zn (zx (zs (zr (zR 9 ((45, vP b49 10) :: (44, .bool true) :: (43, .bool true) :: (42, .bool true) :: (41, .bool true) :: (40, .bool true) :: (39, .bool true) :: (38, .bool true) :: (37, .bool true) :: _) hA rfl fun a hA => zL hA hS 0 rfl rfl rfl rfl rfl rfl rfl rfl rfl fun a hA => st_val hA rfl rfl (by decide) (rn_bstr tbOk hA (bs := r2.da) rfl rfl rfl rfl rfl rfl rfl rfl (hr44 _ (hS.only 2 rfl))) fun a hA => zR 1 ((48, .bool ((bsv r2.da).toList == (⟨#[121, 122]⟩ : ByteArray).toList)) :: _) hA rfl fun a hA => ?_))))
 replace hA := hA.rw 48 (v' := .bool true) rfl (vbool (by rw [hda]; exact (bsv_eq [121, 122] [121, 122]).trans (by decide)))
 refine zR 2 ((0, .bool true) :: (49, .bool true) :: _) hA rfl fun a hA => zn (zx ?_)
 refine wp_ret ?_
 refine ret1 (fn := Tryz.f7) hA rfl rfl ?_
 replace hS := hS.d0.d0.d0.d0.d0.d0.d0.d0
 exact ⟨rfl, hS⟩
end Go.Proofs.YthiakdmhpfkjbaaGreatDoor

set_option linter.unusedVariables false
set_option linter.unusedSimpArgs false
set_option maxRecDepth 4000
namespace Go.Proofs.YthiakdmhpfkjbaaGreatDoor
open Go Go.SK
def tdM (l : List UInt8) : Option Unit :=
  (netM 8).bind fun s0 => (upM s0 3).bind fun c3 => (upM s0 1).bind fun c1 => (workM (cutl (spread 400)) { s0 with nx := s0.nx.set 1 (.down c1) } 1).bind fun x =>
  (transM (cutl (spread 400)) x.1 (mkM c3.r0 c3.r1 c3.r2 c3.r3 l)).bind fun y => (transM (cutl (spread 400)) y.1 (sgM c1.r0 c1.r1 c1.r2 c1.r3 5)).bind fun z => (dnM z.1 1).bind fun c => if x.2 = false ∧ y.2.2 = true ∧ y.2.1.st = 0 ∧ z.2.2 = false then some () else none
theorem tdM_ex {l : List UInt8} (h : tdM l = some ()) : ∃ s0 c3 c1 s1 s2 r2 s3 r3 c, netM 8 = some s0 ∧ upM s0 3 = some c3 ∧ upM s0 1 = some c1 ∧ workM (cutl (spread 400)) { s0 with nx := s0.nx.set 1 (.down c1) } 1 = some (s1, false) ∧ transM (cutl (spread 400)) s1 (mkM c3.r0 c3.r1 c3.r2 c3.r3 l) = some (s2, r2, true) ∧ r2.st = 0 ∧ transM (cutl (spread 400)) s2 (sgM c1.r0 c1.r1 c1.r2 c1.r3 5) = some (s3, r3, false) ∧ dnM s3 1 = some c := by
  unfold tdM at h
  obtain ⟨s0, h1, h⟩ := Option.bind_eq_some_iff.1 h
  obtain ⟨c3, h2, h⟩ := Option.bind_eq_some_iff.1 h
  obtain ⟨c1, h3, h⟩ := Option.bind_eq_some_iff.1 h
  obtain ⟨⟨s1, o1⟩, h4, h⟩ := Option.bind_eq_some_iff.1 h
  obtain ⟨⟨s2, r2, o2⟩, h5, h⟩ := Option.bind_eq_some_iff.1 h
  obtain ⟨⟨s3, r3, o3⟩, h6, h⟩ := Option.bind_eq_some_iff.1 h
  obtain ⟨c, h7, h⟩ := Option.bind_eq_some_iff.1 h
  dsimp only at h h4 h5 h6 h7
  by_cases hc : o1 = false ∧ o2 = true ∧ r2.st = 0 ∧ o3 = false
  · obtain ⟨rfl, rfl, b, rfl⟩ := hc
    exact ⟨s0, c3, c1, s1, s2, r2, s3, r3, c, h1, h2, h3, h4, h5, b, h6, h7⟩
  · rw [if_neg hc] at h; cases h
theorem min50 (n : Nat) : (if (50 : Int) < ((n : Nat) : Int) then (50 : Int) else ((n : Nat) : Int)) = ((min n 50 : Nat) : Int) := by split <;> omega
set_option maxHeartbeats 8000000 in
theorem topDown5 {w0 w : World} {F : List Chunk} (hS : St w0 w F) (hg : HG w0) (m0 m1 m2 m3 m4 m5 m6 m7 m8 m9 : Int) (d : Value) (hone : d.oneCell' = true) {v1 : Value} {l1 : List UInt8} (hr : RdS w0 F 1 v1 l1.length (rows encB l1)) (hall : ∀ x : List UInt8, x.length ≤ 50 → tdM x = some ()) :
 Ret Tryz.prog 5 #[.agg #[.int .u64 m0, .int .u64 m1, .int .u32 m2, .int .u16 m3, .int .u16 m4, .int .u64 m5, .int .u32 m6, .int .u8 m7, .int .u64 m8, .int .u64 m9, d], v1] w (fun v w' => v = .bool true ∧ St w0 w' F) := by
 obtain ⟨B1, d1, rfl, hmd, hdx⟩ := (hr w hS).open'
 obtain ⟨s0, c3, c1, s1, s2, r2, s3, r3, c, h1, h2, h3, h4, h5, hst, h6, h7⟩ := tdM_ex (hall ((l1.take (min l1.length 50)).drop 0) (by rw [List.drop_zero, List.length_take]; omega))
 obtain ⟨st9, sr9, hu9, hc9⟩ := upM_some h3; have hl9 := (List.getElem?_eq_some_iff.1 hu9).1; have hd9 : (s0.nx.set 1 (.down c1))[1]? = some (.down c1) := get_set9 hu9
 refine enter (vs := [.agg #[.int .u64 m0, .int .u64 m1, .int .u32 m2, .int .u16 m3, .int .u16 m4, .int .u64 m5, .int .u32 m6, .int .u8 m7, .int .u64 m8, .int .u64 m9, d], .slice B1 l1.length d1]) 110 Tryz.func5 rfl rfl (by simp) ?_; intro a hA
 refine zs (zr ?_)
 refine st_box hA hS [.int .u64 m0, .int .u64 m1, .int .u32 m2, .int .u16 m3, .int .u16 m4, .int .u64 m5, .int .u32 m6, .int .u8 m7, .int .u64 m8, .int .u64 m9, d] rfl rfl rfl rfl rfl (by decide) fun b1 w2 a hS hA => ?_
 refine zR 1 ((4, .bool false) :: _) hA rfl fun a hA => zn (zx (zs (zs (zr ?_))))
 refine st_call0 hA rfl rfl rfl isfn7 rfl rfl (by decide) (awake7 hS) ?_
 clear hA hS; rintro _ w3 a ⟨rfl, hS⟩ hA
 refine zR 1 ((23, .bool false) :: _) hA rfl fun a hA => zn (zx (cd_cond_f hA rfl (zk (zx (zs (zr ?_))))))
 refine st_call0 hA rfl rfl rfl isfn20 rfl rfl (by decide) (network20 hS (q := 127) (s := s0) (by rfl) (by decide) h1) ?_
 clear hA hS; rintro _ w4 a ⟨b5, L6, hY7, rfl, hS⟩ hA
 refine zR 5 ((6, .bool true) :: (5, vP b5 0) :: (27, .bool true) :: (26, vP b5 0) :: (24, .tuple #[vP b5 0, .bool true]) :: _) hA rfl fun a hA => zn (zx (zs (zr (zR 1 ((29, vP b5 0) :: _) hA rfl fun a hA => ?_))))
 replace hS := hS.m1.m1
 obtain ⟨st9, sr10, hu11, hc12⟩ := upM_some h2
 refine st_call0 hA rfl rfl rfl isfn11 rfl rfl (by decide) (sroot11 hS hY7 (i := 3) hu11) ?_
 rw [hc12]
 clear hA hS; rintro _ w8 a ⟨L13, hY14, rfl, hS⟩ hA
 refine zR 3 ((32, .bool (((c3.port : Nat) : Int) != 0)) :: (31, .agg #[vU c3.r0, vW c3.r1, vB c3.r2, vU c3.r3]) :: (28, .tuple #[.agg #[vU c3.r0, vW c3.r1, vB c3.r2, vU c3.r3], .bool (((c3.port : Nat) : Int) != 0)]) :: _) hA rfl fun a hA => ?_
 refine st_alloc tbOk hA hS [.int .u64 0, .int .u32 0, .int .u8 0, .int .u64 0] rfl rfl rfl rfl rfl (by decide) fun b16 w17 a hS hA => ?_
 refine st_store tbOk hA hS [vU c3.r0, vW c3.r1, vB c3.r2, vU c3.r3] [vU c3.r0, vW c3.r1, vB c3.r2, vU c3.r3] rfl rfl rfl rfl rfl rfl (zn1 rfl) (zle rfl) rfl rfl rfl fun w18 hS => ?_
 refine zR 1 ((8, .bool (((c3.port : Nat) : Int) != 0)) :: _) hA rfl fun a hA => zn (zx (zs (zr (zR 1 ((34, vP b5 0) :: _) hA rfl fun a hA => ?_))))
 replace hS := hS.m2.m2
 obtain ⟨st20, sr21, hu22, hc23⟩ := upM_some h3
 refine st_call0 hA rfl rfl rfl isfn11 rfl rfl (by decide) (sroot11 hS hY14 (i := 1) hu22) ?_
 rw [hc23]
 clear hA hS; rintro _ w19 a ⟨L24, hY25, rfl, hS⟩ hA
 refine zR 3 ((37, .bool (((c1.port : Nat) : Int) != 0)) :: (36, .agg #[vU c1.r0, vW c1.r1, vB c1.r2, vU c1.r3]) :: (33, .tuple #[.agg #[vU c1.r0, vW c1.r1, vB c1.r2, vU c1.r3], .bool (((c1.port : Nat) : Int) != 0)]) :: _) hA rfl fun a hA => ?_
 refine st_alloc tbOk hA hS [.int .u64 0, .int .u32 0, .int .u8 0, .int .u64 0] rfl rfl rfl rfl rfl (by decide) fun b27 w28 a hS hA => ?_
 refine st_store tbOk hA hS [vU c1.r0, vW c1.r1, vB c1.r2, vU c1.r3] [vU c1.r0, vW c1.r1, vB c1.r2, vU c1.r3] rfl rfl rfl rfl rfl rfl (zn1 rfl) (zle rfl) rfl rfl rfl fun w29 hS => ?_
 refine zR 1 ((10, .bool (((c1.port : Nat) : Int) != 0)) :: _) hA rfl fun a hA => zn (zx (zs (zr (zR 2 ((39, .agg #[.int .u8 5, .int .i64 1, .int .i64 0]) :: (38, vP b5 0) :: _) hA rfl fun a hA => ?_))))
 replace hS := hS.m2.m2
 refine st_call0 hA rfl rfl rfl isfn15 rfl rfl (by decide) (do_crash_up15 hS hY25 (i := 1) hu9) ?_
 rw [hc9]
 clear hA hS; rintro _ w30 a ⟨L31, hY32, rfl, hS⟩ hA
 refine zR 1 ((11, .nilIface) :: _) hA rfl fun a hA => zn (zx (zs (zr (zR 1 ((42, vP b5 0) :: _) hA rfl fun a hA => zLA hA hS 4 [.int .u64 m0, .int .u64 m1, .int .u32 m2, .int .u16 m3, .int .u16 m4, .int .u64 m5, .int .u32 m6, .int .u8 m7, .int .u64 m8, .int .u64 m9, d] rfl rfl rfl rfl rfl rfl rfl rfl rfl rfl fun a hA => ?_))))
 replace hS := hS.m1.m1
 refine st_call0 hA rfl rfl rfl isfn12 rfl rfl (by decide) (scall_down12 hS hY32 (i := 1) hd9 m0 m1 m2 m3 m4 m5 m6 m7 m8 m9 d) ?_
 clear hA hS; rintro _ w34 a ⟨L35, hY36, rfl, hS⟩ hA
 refine zR 5 ((13, .iface 55 (.int .i64 15)) :: (12, .int .u32 0) :: (46, .iface 55 (.int .i64 15)) :: (45, .int .u32 0) :: (41, .tuple #[.int .u32 0, .iface 55 (.int .i64 15)]) :: _) hA rfl fun a hA => zn (zx (zs (zr (zR 1 ((48, vP b5 0) :: _) hA rfl fun a hA => ?_))))
 replace hS := hS.m1.m1
 refine st_call0 hA rfl rfl rfl isfn11 rfl rfl (by decide) (sroot_down11 hS hY36 (i := 1) hd9) ?_
 clear hA hS; rintro _ w38 a ⟨L39, hY40, rfl, hS⟩ hA
 refine zR 3 ((51, .bool false) :: (50, .agg #[.int .u64 0, .int .u32 0, .int .u8 0, .int .u64 0]) :: (47, .tuple #[.agg #[.int .u64 0, .int .u32 0, .int .u8 0, .int .u64 0], .bool false]) :: _) hA rfl fun a hA => ?_
 refine st_alloc tbOk hA hS [.int .u64 0, .int .u32 0, .int .u8 0, .int .u64 0] rfl rfl rfl rfl rfl (by decide) fun b42 w43 a hS hA => ?_
 refine st_store tbOk hA hS [.int .u64 0, .int .u32 0, .int .u8 0, .int .u64 0] [.int .u64 0, .int .u32 0, .int .u8 0, .int .u64 0] rfl rfl rfl rfl rfl rfl (zn1 rfl) (zle rfl) rfl rfl rfl fun w44 hS => ?_
 refine zR 1 ((15, .bool false) :: _) hA rfl fun a hA => zn (zx (zs (zr (zR 2 ((53, .agg #[.int .u8 3, .int .i64 1, .int .i64 0]) :: (52, vP b5 0) :: _) hA rfl fun a hA => ?_))))
 replace hS := hS.m2.m2
 refine st_call0 hA rfl rfl rfl isfn15 rfl rfl (by decide) (do_work_f15 hS hY40 (i := 1) h4) ?_
 clear hA hS; rintro _ w45 a ⟨L46, D48, hY47, hX49, rfl, hS⟩ hA
 refine zR 1 ((16, .iface 55 (.int .i64 12)) :: _) hA rfl fun a hA => zn (zx (zs ?_))
 replace hS := hS.m1.m1
 refine wp_drawN (fun w' => St w0 w' ([(b42, rowO [.int .u64 0, .int .u32 0, .int .u8 0, .int .u64 0] 39)] :: [(b27, rowO [vU c1.r0, vW c1.r1, vB c1.r2, vU c1.r3] 39)] :: [(b16, rowO [vU c3.r0, vW c3.r1, vB c3.r2, vU c3.r3] 39)] :: [(b1, rowO [.int .u64 m0, .int .u64 m1, .int .u32 m2, .int .u16 m3, .int .u16 m4, .int .u64 m5, .int .u32 m6, .int .u8 m7, .int .u64 m8, .int .u64 m9, d] 46)] :: F)) [] [(0, true), (1, true), (2, true), (3, true), (4, true), (5, true), (6, true)] 7 (.N [] 8 (.L [(9, true), (10, true), (11, true), (12, false), (13, false), (14, true)]) 12 (.L [(8, false), (9, true), (10, true), (11, true), (13, false), (14, true)])) 12 (.L [(7, false), (8, false), (9, true), (10, true), (11, true), (13, false), (14, true)]) mixed (by kernel_rfl) (by rintro c a w ⟨_, _, h, _⟩; cases h) (by rfl) (by kernel_rfl) ?_
 replace hS := hS.drew
 refine zW 1 ((56, vP b5 0) :: _) hA (hS.tail 2 rfl) rfl fun a hA => zYA hA (hS.tail 2 rfl) 2 [vU c3.r0, vW c3.r1, vB c3.r2, vU c3.r3] rfl rfl rfl rfl rfl rfl rfl rfl rfl rfl rfl fun a hA => zW 4 ((61, .int .i64 (if 50 < ((l1.length : Nat) : Int) then 50 else ((l1.length : Nat) : Int))) :: (60, vI l1.length) :: (59, .slice B1 l1.length d1) :: (58, .slice B1 l1.length d1) :: _) hA (hS.tail 2 rfl) rfl fun a hA => ?_
 replace hA := hA.rw 61 (v' := vI (min l1.length 50)) rfl (vint (min50 _))
 refine dr_y hA rfl rfl rfl (by decide) (hS.tail 2 rfl) (fun w' hS' => rn_slice_h tbOk hA (min l1.length 50) rfl rfl rfl rfl rfl rfl (by rfl) (by omega)) fun a hA => ?_
 replace hA := hA.rw 62 (v' := .slice B1 ((l1.take (min l1.length 50)).length) d1) rfl (congrArg (fun m => Value.slice _ m _) (by rw [List.length_take]; omega))
 refine dr_fork ?_ ?_
 · refine dr_b (o := _) rfl ?_
   refine st_call0 hA rfl rfl rfl isfn13 rfl rfl (by decide) (stmake13 hS c3.r0 c3.r1 c3.r2 c3.r3 (da := l1.take (min l1.length 50)) (fun w' h => (((hr _ (h.tail 6 rfl)).rhead encB_ok (min l1.length 50) (by omega))).x) (by first | omega | exact Nat.zero_le _ | (simp only [List.length_take, List.drop_zero]; omega) | decide)) ?_
   clear hA hS; rintro _ w50 a ⟨Am51, cm52, Cm53, hm54, rfl, hS⟩ hA
   refine zi (hS.tail 3 rfl) ?_
   refine dr_subN ?_
   refine dr_fork ?_ ?_
   · refine dr_b (o := _) rfl ?_
     replace hS := hS.m2.m2
     refine st_call0 hA rfl rfl rfl isfn18 rfl rfl (by decide) (trans18 hS hY47 (mkM c3.r0 c3.r1 c3.r2 c3.r3 (l1.take (min l1.length 50))) (fun w9 h9 => (hm54.rd (h9.own_ 1 rfl)).x) h5) ?_
     clear hA hS; rintro _ w55 a ⟨L59, D61, Ar56, cr57, hY60, hX62, hr58, rfl, hS⟩ hA
     refine zi (hS.tail 3 rfl) ?_
     refine dr_subL ?_
     refine zW 3 ((66, .bool true) :: (65, .agg #[vU r2.to, vU r2.rp, vW r2.id, vH r2.op, vH r2.st, vU r2.po, vW r2.ob, vB r2.ri, vU r2.ck, vU r2.ar, .slice Ar56 r2.da.length cr57]) :: (55, .tuple #[.agg #[vU r2.to, vU r2.rp, vW r2.id, vH r2.op, vH r2.st, vU r2.po, vW r2.ob, vB r2.ri, vU r2.ck, vU r2.ar, .slice Ar56 r2.da.length cr57], .bool true]) :: _) hA (hS.tail 3 rfl) rfl fun a hA => dr_b (o := _) rfl ?_
     refine st_alloc tbOk hA hS [.int .u64 0, .int .u64 0, .int .u32 0, .int .u16 0, .int .u16 0, .int .u64 0, .int .u32 0, .int .u8 0, .int .u64 0, .int .u64 0, .slice none 0 0] rfl rfl rfl rfl rfl (by decide) fun b63 w64 a hS hA => ?_
     refine zi (hS.tail 4 rfl) (dr_b (o := _) rfl ?_)
     refine st_store tbOk hA hS [vU r2.to, vU r2.rp, vW r2.id, vH r2.op, vH r2.st, vU r2.po, vW r2.ob, vB r2.ri, vU r2.ck, vU r2.ar, .slice Ar56 r2.da.length cr57] [vU r2.to, vU r2.rp, vW r2.id, vH r2.op, vH r2.st, vU r2.po, vW r2.ob, vB r2.ri, vU r2.ck, vU r2.ar, .slice Ar56 r2.da.length cr57] rfl rfl rfl rfl rfl rfl (zn1 rfl) (zle rfl) rfl rfl rfl fun w65 hS => ?_
     refine zi (hS.tail 4 rfl) (zW 1 ((18, .bool true) :: _) hA (hS.tail 4 rfl) rfl fun a hA => ze (zx (zs (zr (zR 1 ((68, vP b5 0) :: _) hA rfl fun a hA => zLA hA hS 5 [vU c1.r0, vW c1.r1, vB c1.r2, vU c1.r3] rfl rfl rfl rfl rfl rfl rfl rfl rfl rfl fun a hA => ?_)))))
     refine st_call0 hA rfl rfl rfl isfn21 rfl rfl (by decide) (stseg21 hS c1.r0 c1.r1 c1.r2 c1.r3 (n := 5) (by omega)) ?_
     clear hA hS; rintro _ w66 a ⟨Am67, cm68, Cm69, hm70, rfl, hS⟩ hA
     replace hS := hS.m3.m3
     refine st_call0 hA rfl rfl rfl isfn18 rfl rfl (by decide) (trans18 hS hY60 (sgM c1.r0 c1.r1 c1.r2 c1.r3 5) (fun w9 h9 => (hm70.rd (h9.own_ 1 rfl)).x) h6) ?_
     clear hA hS; rintro _ w71 a ⟨L75, D77, Ar72, cr73, hY76, hX78, hr74, rfl, hS⟩ hA
     refine zR 3 ((73, .bool false) :: (72, .agg #[vU r3.to, vU r3.rp, vW r3.id, vH r3.op, vH r3.st, vU r3.po, vW r3.ob, vB r3.ri, vU r3.ck, vU r3.ar, .slice Ar72 r3.da.length cr73]) :: (67, .tuple #[.agg #[vU r3.to, vU r3.rp, vW r3.id, vH r3.op, vH r3.st, vU r3.po, vW r3.ob, vB r3.ri, vU r3.ck, vU r3.ar, .slice Ar72 r3.da.length cr73], .bool false]) :: _) hA rfl fun a hA => ?_
     refine st_alloc tbOk hA hS [.int .u64 0, .int .u64 0, .int .u32 0, .int .u16 0, .int .u16 0, .int .u64 0, .int .u32 0, .int .u8 0, .int .u64 0, .int .u64 0, .slice none 0 0] rfl rfl rfl rfl rfl (by decide) fun b79 w80 a hS hA => ?_
     refine st_store tbOk hA hS [vU r3.to, vU r3.rp, vW r3.id, vH r3.op, vH r3.st, vU r3.po, vW r3.ob, vB r3.ri, vU r3.ck, vU r3.ar, .slice Ar72 r3.da.length cr73] [vU r3.to, vU r3.rp, vW r3.id, vH r3.op, vH r3.st, vU r3.po, vW r3.ob, vB r3.ri, vU r3.ck, vU r3.ar, .slice Ar72 r3.da.length cr73] rfl rfl rfl rfl rfl rfl (zn1 rfl) (zle rfl) rfl rfl rfl fun w81 hS => ?_
     refine zR 1 ((20, .bool false) :: _) hA rfl fun a hA => zn (zx (zs (zr (zR 2 ((75, .agg #[.int .u8 5, .int .i64 1, .int .i64 0]) :: (74, vP b5 0) :: _) hA rfl fun a hA => ?_))))
     replace hS := hS.m2.m2
     refine st_call0 hA rfl rfl rfl isfn15 rfl rfl (by decide) (do_crash_down15 hS hY76 (i := 1) (dnM_some h7)) ?_
     clear hA hS; rintro _ w82 a ⟨L83, hY84, rfl, hS⟩ hA
     refine zR 1 ((21, .iface 55 (.int .i64 15)) :: _) hA rfl fun a hA => zn (zx (zs (zr (zR 4 ((80, .iface 55 (.int .i64 15)) :: (79, .bool true) :: (78, .bool true) :: (77, .nilIface) :: _) hA rfl fun a hA => ?_))))
     refine st_call0 hA rfl rfl rfl isfn17 rfl rfl (by decide) (number_hit17 hS hg 15) ?_
     clear hA hS; rintro v w86 a ⟨rfl, hS⟩ hA
     refine zR 8 ((89, .iface 55 (.int .i64 12)) :: (88, .bool true) :: (87, .bool true) :: (86, .bool true) :: (85, .bool false) :: (84, .bool true) :: (83, .bool true) :: (82, .bool true) :: _) hA rfl fun a hA => ?_
     refine st_call0 hA rfl rfl rfl isfn17 rfl rfl (by decide) (number_hit17 hS hg 12) ?_
     clear hA hS; rintro v w87 a ⟨rfl, hS⟩ hA
     refine zR 7 ((97, vP b63 4) :: (96, .bool true) :: (95, .bool true) :: (94, .bool true) :: (93, .bool true) :: (92, .bool true) :: (91, .bool true) :: _) hA rfl fun a hA => zL hA hS 4 rfl rfl rfl rfl rfl rfl rfl rfl rfl fun a hA => zR 1 ((99, .bool (((r2.st : Nat) : Int) == 0)) :: _) hA rfl fun a hA => ?_
     replace hA := hA.rw 99 (v' := .bool true) rfl (vbool (by rw [hst]; rfl))
     refine zR 7 ((106, .iface 55 (.int .i64 15)) :: (105, .bool true) :: (104, .bool true) :: (103, .bool true) :: (102, .bool false) :: (101, .bool true) :: (100, .bool true) :: _) hA rfl fun a hA => ?_
     refine st_call0 hA rfl rfl rfl isfn17 rfl rfl (by decide) (number_hit17 hS hg 15) ?_
     clear hA hS; rintro v w88 a ⟨rfl, hS⟩ hA
     refine zR 3 ((4, .bool true) :: (109, .bool true) :: (108, .bool true) :: _) hA rfl fun a hA => zn (zx ?_)
     refine wp_ret ?_
     refine ret1 (fn := Tryz.f5) hA rfl rfl ?_
     replace hS := hS.d0.d0.d0.d0.d0.d0.d0.d0.d0.d0
     exact ⟨rfl, hS⟩
   · refine dr_b (o := _) rfl ?_
     refine st_alloc tbOk hA hS [.int .u64 0, .int .u64 0, .int .u32 0, .int .u16 0, .int .u16 0, .int .u64 0, .int .u32 0, .int .u8 0, .int .u64 0, .int .u64 0, .slice none 0 0] rfl rfl rfl rfl rfl (by decide) fun b89 w90 a hS hA => ?_
     refine zi (hS.tail 4 rfl) ?_
     refine dr_subL ?_
     refine dr_b (o := _) rfl ?_
     replace hS := hS.m3.m3
     refine st_call0 hA rfl rfl rfl isfn18 rfl rfl (by decide) (trans18 hS hY47 (mkM c3.r0 c3.r1 c3.r2 c3.r3 (l1.take (min l1.length 50))) (fun w9 h9 => (hm54.rd (h9.own_ 2 rfl)).x) h5) ?_
     clear hA hS; rintro _ w91 a ⟨L95, D97, Ar92, cr93, hY96, hX98, hr94, rfl, hS⟩ hA
     refine zi (hS.tail 4 rfl) (zW 3 ((66, .bool true) :: (65, .agg #[vU r2.to, vU r2.rp, vW r2.id, vH r2.op, vH r2.st, vU r2.po, vW r2.ob, vB r2.ri, vU r2.ck, vU r2.ar, .slice Ar92 r2.da.length cr93]) :: (55, .tuple #[.agg #[vU r2.to, vU r2.rp, vW r2.id, vH r2.op, vH r2.st, vU r2.po, vW r2.ob, vB r2.ri, vU r2.ck, vU r2.ar, .slice Ar92 r2.da.length cr93], .bool true]) :: _) hA (hS.tail 4 rfl) rfl fun a hA => dr_b (o := _) rfl ?_)
     replace hS := hS.m2
     refine st_store tbOk hA hS [vU r2.to, vU r2.rp, vW r2.id, vH r2.op, vH r2.st, vU r2.po, vW r2.ob, vB r2.ri, vU r2.ck, vU r2.ar, .slice Ar92 r2.da.length cr93] [vU r2.to, vU r2.rp, vW r2.id, vH r2.op, vH r2.st, vU r2.po, vW r2.ob, vB r2.ri, vU r2.ck, vU r2.ar, .slice Ar92 r2.da.length cr93] rfl rfl rfl rfl rfl rfl (zn1 rfl) (zle rfl) rfl rfl rfl fun w99 hS => ?_
     refine zi (hS.tail 4 rfl) (zW 1 ((18, .bool true) :: _) hA (hS.tail 4 rfl) rfl fun a hA => ze (zx (zs (zr (zR 1 ((68, vP b5 0) :: _) hA rfl fun a hA => zLA hA hS 5 [vU c1.r0, vW c1.r1, vB c1.r2, vU c1.r3] rfl rfl rfl rfl rfl rfl rfl rfl rfl rfl fun a hA => ?_)))))
     refine st_call0 hA rfl rfl rfl isfn21 rfl rfl (by decide) (stseg21 hS c1.r0 c1.r1 c1.r2 c1.r3 (n := 5) (by omega)) ?_
     clear hA hS; rintro _ w100 a ⟨Am101, cm102, Cm103, hm104, rfl, hS⟩ hA
     replace hS := hS.m3.m3
     refine st_call0 hA rfl rfl rfl isfn18 rfl rfl (by decide) (trans18 hS hY96 (sgM c1.r0 c1.r1 c1.r2 c1.r3 5) (fun w9 h9 => (hm104.rd (h9.own_ 1 rfl)).x) h6) ?_
     clear hA hS; rintro _ w105 a ⟨L109, D111, Ar106, cr107, hY110, hX112, hr108, rfl, hS⟩ hA
     refine zR 3 ((73, .bool false) :: (72, .agg #[vU r3.to, vU r3.rp, vW r3.id, vH r3.op, vH r3.st, vU r3.po, vW r3.ob, vB r3.ri, vU r3.ck, vU r3.ar, .slice Ar106 r3.da.length cr107]) :: (67, .tuple #[.agg #[vU r3.to, vU r3.rp, vW r3.id, vH r3.op, vH r3.st, vU r3.po, vW r3.ob, vB r3.ri, vU r3.ck, vU r3.ar, .slice Ar106 r3.da.length cr107], .bool false]) :: _) hA rfl fun a hA => ?_
     refine st_alloc tbOk hA hS [.int .u64 0, .int .u64 0, .int .u32 0, .int .u16 0, .int .u16 0, .int .u64 0, .int .u32 0, .int .u8 0, .int .u64 0, .int .u64 0, .slice none 0 0] rfl rfl rfl rfl rfl (by decide) fun b113 w114 a hS hA => ?_
     refine st_store tbOk hA hS [vU r3.to, vU r3.rp, vW r3.id, vH r3.op, vH r3.st, vU r3.po, vW r3.ob, vB r3.ri, vU r3.ck, vU r3.ar, .slice Ar106 r3.da.length cr107] [vU r3.to, vU r3.rp, vW r3.id, vH r3.op, vH r3.st, vU r3.po, vW r3.ob, vB r3.ri, vU r3.ck, vU r3.ar, .slice Ar106 r3.da.length cr107] rfl rfl rfl rfl rfl rfl (zn1 rfl) (zle rfl) rfl rfl rfl fun w115 hS => ?_
     refine zR 1 ((20, .bool false) :: _) hA rfl fun a hA => zn (zx (zs (zr (zR 2 ((75, .agg #[.int .u8 5, .int .i64 1, .int .i64 0]) :: (74, vP b5 0) :: _) hA rfl fun a hA => ?_))))
     replace hS := hS.m2.m2
     refine st_call0 hA rfl rfl rfl isfn15 rfl rfl (by decide) (do_crash_down15 hS hY110 (i := 1) (dnM_some h7)) ?_
     clear hA hS; rintro _ w116 a ⟨L117, hY118, rfl, hS⟩ hA
     refine zR 1 ((21, .iface 55 (.int .i64 15)) :: _) hA rfl fun a hA => zn (zx (zs (zr (zR 4 ((80, .iface 55 (.int .i64 15)) :: (79, .bool true) :: (78, .bool true) :: (77, .nilIface) :: _) hA rfl fun a hA => ?_))))
     refine st_call0 hA rfl rfl rfl isfn17 rfl rfl (by decide) (number_hit17 hS hg 15) ?_
     clear hA hS; rintro v w120 a ⟨rfl, hS⟩ hA
     refine zR 8 ((89, .iface 55 (.int .i64 12)) :: (88, .bool true) :: (87, .bool true) :: (86, .bool true) :: (85, .bool false) :: (84, .bool true) :: (83, .bool true) :: (82, .bool true) :: _) hA rfl fun a hA => ?_
     refine st_call0 hA rfl rfl rfl isfn17 rfl rfl (by decide) (number_hit17 hS hg 12) ?_
     clear hA hS; rintro v w121 a ⟨rfl, hS⟩ hA
     refine zR 7 ((97, vP b89 4) :: (96, .bool true) :: (95, .bool true) :: (94, .bool true) :: (93, .bool true) :: (92, .bool true) :: (91, .bool true) :: _) hA rfl fun a hA => zL hA hS 4 rfl rfl rfl rfl rfl rfl rfl rfl rfl fun a hA => zR 1 ((99, .bool (((r2.st : Nat) : Int) == 0)) :: _) hA rfl fun a hA => ?_
     replace hA := hA.rw 99 (v' := .bool true) rfl (vbool (by rw [hst]; rfl))
     refine zR 7 ((106, .iface 55 (.int .i64 15)) :: (105, .bool true) :: (104, .bool true) :: (103, .bool true) :: (102, .bool false) :: (101, .bool true) :: (100, .bool true) :: _) hA rfl fun a hA => ?_
     refine st_call0 hA rfl rfl rfl isfn17 rfl rfl (by decide) (number_hit17 hS hg 15) ?_
     clear hA hS; rintro v w122 a ⟨rfl, hS⟩ hA
     refine zR 3 ((4, .bool true) :: (109, .bool true) :: (108, .bool true) :: _) hA rfl fun a hA => zn (zx ?_)
     refine wp_ret ?_
     refine ret1 (fn := Tryz.f5) hA rfl rfl ?_
     replace hS := hS.d0.d0.d0.d0.d0.d0.d0.d0.d0.d0
     exact ⟨rfl, hS⟩
 · refine dr_b (o := _) rfl ?_
   refine st_alloc tbOk hA hS [.int .u64 0, .int .u64 0, .int .u32 0, .int .u16 0, .int .u16 0, .int .u64 0, .int .u32 0, .int .u8 0, .int .u64 0, .int .u64 0, .slice none 0 0] rfl rfl rfl rfl rfl (by decide) fun b123 w124 a hS hA => ?_
   refine zi (hS.tail 3 rfl) ?_
   refine dr_subL ?_
   refine dr_b (o := _) rfl ?_
   refine st_call0 hA rfl rfl rfl isfn13 rfl rfl (by decide) (stmake13 hS c3.r0 c3.r1 c3.r2 c3.r3 (da := l1.take (min l1.length 50)) (fun w' h => (((hr _ (h.tail 7 rfl)).rhead encB_ok (min l1.length 50) (by omega))).x) (by first | omega | exact Nat.zero_le _ | (simp only [List.length_take, List.drop_zero]; omega) | decide)) ?_
   clear hA hS; rintro _ w125 a ⟨Am126, cm127, Cm128, hm129, rfl, hS⟩ hA
   refine zi (hS.tail 4 rfl) (dr_b (o := _) rfl ?_)
   replace hS := hS.m3.m3
   refine st_call0 hA rfl rfl rfl isfn18 rfl rfl (by decide) (trans18 hS hY47 (mkM c3.r0 c3.r1 c3.r2 c3.r3 (l1.take (min l1.length 50))) (fun w9 h9 => (hm129.rd (h9.own_ 1 rfl)).x) h5) ?_
   clear hA hS; rintro _ w130 a ⟨L134, D136, Ar131, cr132, hY135, hX137, hr133, rfl, hS⟩ hA
   refine zi (hS.tail 4 rfl) (zW 3 ((66, .bool true) :: (65, .agg #[vU r2.to, vU r2.rp, vW r2.id, vH r2.op, vH r2.st, vU r2.po, vW r2.ob, vB r2.ri, vU r2.ck, vU r2.ar, .slice Ar131 r2.da.length cr132]) :: (55, .tuple #[.agg #[vU r2.to, vU r2.rp, vW r2.id, vH r2.op, vH r2.st, vU r2.po, vW r2.ob, vB r2.ri, vU r2.ck, vU r2.ar, .slice Ar131 r2.da.length cr132], .bool true]) :: _) hA (hS.tail 4 rfl) rfl fun a hA => dr_b (o := _) rfl ?_)
   replace hS := hS.m3
   refine st_store tbOk hA hS [vU r2.to, vU r2.rp, vW r2.id, vH r2.op, vH r2.st, vU r2.po, vW r2.ob, vB r2.ri, vU r2.ck, vU r2.ar, .slice Ar131 r2.da.length cr132] [vU r2.to, vU r2.rp, vW r2.id, vH r2.op, vH r2.st, vU r2.po, vW r2.ob, vB r2.ri, vU r2.ck, vU r2.ar, .slice Ar131 r2.da.length cr132] rfl rfl rfl rfl rfl rfl (zn1 rfl) (zle rfl) rfl rfl rfl fun w138 hS => ?_
   refine zi (hS.tail 4 rfl) (zW 1 ((18, .bool true) :: _) hA (hS.tail 4 rfl) rfl fun a hA => ze (zx (zs (zr (zR 1 ((68, vP b5 0) :: _) hA rfl fun a hA => zLA hA hS 5 [vU c1.r0, vW c1.r1, vB c1.r2, vU c1.r3] rfl rfl rfl rfl rfl rfl rfl rfl rfl rfl fun a hA => ?_)))))
   refine st_call0 hA rfl rfl rfl isfn21 rfl rfl (by decide) (stseg21 hS c1.r0 c1.r1 c1.r2 c1.r3 (n := 5) (by omega)) ?_
   clear hA hS; rintro _ w139 a ⟨Am140, cm141, Cm142, hm143, rfl, hS⟩ hA
   replace hS := hS.m3.m3
   refine st_call0 hA rfl rfl rfl isfn18 rfl rfl (by decide) (trans18 hS hY135 (sgM c1.r0 c1.r1 c1.r2 c1.r3 5) (fun w9 h9 => (hm143.rd (h9.own_ 1 rfl)).x) h6) ?_
   clear hA hS; rintro _ w144 a ⟨L148, D150, Ar145, cr146, hY149, hX151, hr147, rfl, hS⟩ hA
   refine zR 3 ((73, .bool false) :: (72, .agg #[vU r3.to, vU r3.rp, vW r3.id, vH r3.op, vH r3.st, vU r3.po, vW r3.ob, vB r3.ri, vU r3.ck, vU r3.ar, .slice Ar145 r3.da.length cr146]) :: (67, .tuple #[.agg #[vU r3.to, vU r3.rp, vW r3.id, vH r3.op, vH r3.st, vU r3.po, vW r3.ob, vB r3.ri, vU r3.ck, vU r3.ar, .slice Ar145 r3.da.length cr146], .bool false]) :: _) hA rfl fun a hA => ?_
   refine st_alloc tbOk hA hS [.int .u64 0, .int .u64 0, .int .u32 0, .int .u16 0, .int .u16 0, .int .u64 0, .int .u32 0, .int .u8 0, .int .u64 0, .int .u64 0, .slice none 0 0] rfl rfl rfl rfl rfl (by decide) fun b152 w153 a hS hA => ?_
   refine st_store tbOk hA hS [vU r3.to, vU r3.rp, vW r3.id, vH r3.op, vH r3.st, vU r3.po, vW r3.ob, vB r3.ri, vU r3.ck, vU r3.ar, .slice Ar145 r3.da.length cr146] [vU r3.to, vU r3.rp, vW r3.id, vH r3.op, vH r3.st, vU r3.po, vW r3.ob, vB r3.ri, vU r3.ck, vU r3.ar, .slice Ar145 r3.da.length cr146] rfl rfl rfl rfl rfl rfl (zn1 rfl) (zle rfl) rfl rfl rfl fun w154 hS => ?_
   refine zR 1 ((20, .bool false) :: _) hA rfl fun a hA => zn (zx (zs (zr (zR 2 ((75, .agg #[.int .u8 5, .int .i64 1, .int .i64 0]) :: (74, vP b5 0) :: _) hA rfl fun a hA => ?_))))
   replace hS := hS.m2.m2
   refine st_call0 hA rfl rfl rfl isfn15 rfl rfl (by decide) (do_crash_down15 hS hY149 (i := 1) (dnM_some h7)) ?_
   clear hA hS; rintro _ w155 a ⟨L156, hY157, rfl, hS⟩ hA
   refine zR 1 ((21, .iface 55 (.int .i64 15)) :: _) hA rfl fun a hA => zn (zx (zs (zr (zR 4 ((80, .iface 55 (.int .i64 15)) :: (79, .bool true) :: (78, .bool true) :: (77, .nilIface) :: _) hA rfl fun a hA => ?_))))
   refine st_call0 hA rfl rfl rfl isfn17 rfl rfl (by decide) (number_hit17 hS hg 15) ?_
   clear hA hS; rintro v w159 a ⟨rfl, hS⟩ hA
   refine zR 8 ((89, .iface 55 (.int .i64 12)) :: (88, .bool true) :: (87, .bool true) :: (86, .bool true) :: (85, .bool false) :: (84, .bool true) :: (83, .bool true) :: (82, .bool true) :: _) hA rfl fun a hA => ?_
   refine st_call0 hA rfl rfl rfl isfn17 rfl rfl (by decide) (number_hit17 hS hg 12) ?_
   clear hA hS; rintro v w160 a ⟨rfl, hS⟩ hA
   refine zR 7 ((97, vP b123 4) :: (96, .bool true) :: (95, .bool true) :: (94, .bool true) :: (93, .bool true) :: (92, .bool true) :: (91, .bool true) :: _) hA rfl fun a hA => zL hA hS 4 rfl rfl rfl rfl rfl rfl rfl rfl rfl fun a hA => zR 1 ((99, .bool (((r2.st : Nat) : Int) == 0)) :: _) hA rfl fun a hA => ?_
   replace hA := hA.rw 99 (v' := .bool true) rfl (vbool (by rw [hst]; rfl))
   refine zR 7 ((106, .iface 55 (.int .i64 15)) :: (105, .bool true) :: (104, .bool true) :: (103, .bool true) :: (102, .bool false) :: (101, .bool true) :: (100, .bool true) :: _) hA rfl fun a hA => ?_
   refine st_call0 hA rfl rfl rfl isfn17 rfl rfl (by decide) (number_hit17 hS hg 15) ?_
   clear hA hS; rintro v w161 a ⟨rfl, hS⟩ hA
   refine zR 3 ((4, .bool true) :: (109, .bool true) :: (108, .bool true) :: _) hA rfl fun a hA => zn (zx ?_)
   refine wp_ret ?_
   refine ret1 (fn := Tryz.f5) hA rfl rfl ?_
   replace hS := hS.d0.d0.d0.d0.d0.d0.d0.d0.d0.d0
   exact ⟨rfl, hS⟩
end Go.Proofs.YthiakdmhpfkjbaaGreatDoor

set_option linter.unusedVariables false
set_option linter.unusedSimpArgs false
set_option maxRecDepth 4000
namespace Go.Proofs.YthiakdmhpfkjbaaGreatDoor
open Go Go.SK
set_option maxRecDepth 100000
theorem td_0 : tdM [] = some () := by kernel_rfl
theorem td_1 (a : UInt8) : tdM [a] = some () := by kernel_rfl
theorem td_2 (a b : UInt8) : tdM [a, b] = some () := by kernel_rfl
theorem td_3 (a b c : UInt8) : tdM [a, b, c] = some () := by kernel_rfl
theorem td_4 (a b c d : UInt8) : tdM [a, b, c, d] = some () := by kernel_rfl
theorem td_5 (a b c d e : UInt8) : tdM [a, b, c, d, e] = some () := by kernel_rfl
theorem td_6 (a b c d e f : UInt8) : tdM [a, b, c, d, e, f] = some () := by kernel_rfl
theorem td_7 (a b c d e f g : UInt8) : tdM [a, b, c, d, e, f, g] = some () := by kernel_rfl
theorem td_8 (a b c d e f g h : UInt8) : tdM [a, b, c, d, e, f, g, h] = some () := by kernel_rfl
theorem td_9 (a b c d e f g h i : UInt8) : tdM [a, b, c, d, e, f, g, h, i] = some () := by kernel_rfl
theorem td_10 (a b c d e f g h i j : UInt8) : tdM [a, b, c, d, e, f, g, h, i, j] = some () := by kernel_rfl
theorem td_11 (a b c d e f g h i j k : UInt8) : tdM [a, b, c, d, e, f, g, h, i, j, k] = some () := by kernel_rfl
theorem td_12 (a b c d e f g h i j k l : UInt8) : tdM [a, b, c, d, e, f, g, h, i, j, k, l] = some () := by kernel_rfl
theorem td_13 (a b c d e f g h i j k l m : UInt8) : tdM [a, b, c, d, e, f, g, h, i, j, k, l, m] = some () := by kernel_rfl
theorem td_14 (a b c d e f g h i j k l m n : UInt8) : tdM [a, b, c, d, e, f, g, h, i, j, k, l, m, n] = some () := by kernel_rfl
theorem td_15 (a b c d e f g h i j k l m n o : UInt8) : tdM [a, b, c, d, e, f, g, h, i, j, k, l, m, n, o] = some () := by kernel_rfl
theorem td_16 (a b c d e f g h i j k l m n o p : UInt8) : tdM [a, b, c, d, e, f, g, h, i, j, k, l, m, n, o, p] = some () := by kernel_rfl
theorem td_17 (a b c d e f g h i j k l m n o p q : UInt8) : tdM [a, b, c, d, e, f, g, h, i, j, k, l, m, n, o, p, q] = some () := by kernel_rfl
theorem td_18 (a b c d e f g h i j k l m n o p q r : UInt8) : tdM [a, b, c, d, e, f, g, h, i, j, k, l, m, n, o, p, q, r] = some () := by kernel_rfl
theorem td_19 (a b c d e f g h i j k l m n o p q r s : UInt8) : tdM [a, b, c, d, e, f, g, h, i, j, k, l, m, n, o, p, q, r, s] = some () := by kernel_rfl
theorem td_20 (a b c d e f g h i j k l m n o p q r s t : UInt8) : tdM [a, b, c, d, e, f, g, h, i, j, k, l, m, n, o, p, q, r, s, t] = some () := by kernel_rfl
theorem td_21 (a b c d e f g h i j k l m n o p q r s t u : UInt8) : tdM [a, b, c, d, e, f, g, h, i, j, k, l, m, n, o, p, q, r, s, t, u] = some () := by kernel_rfl
theorem td_22 (a b c d e f g h i j k l m n o p q r s t u v : UInt8) : tdM [a, b, c, d, e, f, g, h, i, j, k, l, m, n, o, p, q, r, s, t, u, v] = some () := by kernel_rfl
theorem td_23 (a b c d e f g h i j k l m n o p q r s t u v w : UInt8) : tdM [a, b, c, d, e, f, g, h, i, j, k, l, m, n, o, p, q, r, s, t, u, v, w] = some () := by kernel_rfl
theorem td_24 (a b c d e f g h i j k l m n o p q r s t u v w x : UInt8) : tdM [a, b, c, d, e, f, g, h, i, j, k, l, m, n, o, p, q, r, s, t, u, v, w, x] = some () := by kernel_rfl
theorem td_25 (a b c d e f g h i j k l m n o p q r s t u v w x y : UInt8) : tdM [a, b, c, d, e, f, g, h, i, j, k, l, m, n, o, p, q, r, s, t, u, v, w, x, y] = some () := by kernel_rfl
theorem td_26 (a b c d e f g h i j k l m n o p q r s t u v w x y z : UInt8) : tdM [a, b, c, d, e, f, g, h, i, j, k, l, m, n, o, p, q, r, s, t, u, v, w, x, y, z] = some () := by kernel_rfl
theorem td_27 (a b c d e f g h i j k l m n o p q r s t u v w x y z xa : UInt8) : tdM [a, b, c, d, e, f, g, h, i, j, k, l, m, n, o, p, q, r, s, t, u, v, w, x, y, z, xa] = some () := by kernel_rfl
theorem td_28 (a b c d e f g h i j k l m n o p q r s t u v w x y z xa xb : UInt8) : tdM [a, b, c, d, e, f, g, h, i, j, k, l, m, n, o, p, q, r, s, t, u, v, w, x, y, z, xa, xb] = some () := by kernel_rfl
theorem td_29 (a b c d e f g h i j k l m n o p q r s t u v w x y z xa xb xc : UInt8) : tdM [a, b, c, d, e, f, g, h, i, j, k, l, m, n, o, p, q, r, s, t, u, v, w, x, y, z, xa, xb, xc] = some () := by kernel_rfl
theorem td_30 (a b c d e f g h i j k l m n o p q r s t u v w x y z xa xb xc xd : UInt8) : tdM [a, b, c, d, e, f, g, h, i, j, k, l, m, n, o, p, q, r, s, t, u, v, w, x, y, z, xa, xb, xc, xd] = some () := by kernel_rfl
theorem td_31 (a b c d e f g h i j k l m n o p q r s t u v w x y z xa xb xc xd xe : UInt8) : tdM [a, b, c, d, e, f, g, h, i, j, k, l, m, n, o, p, q, r, s, t, u, v, w, x, y, z, xa, xb, xc, xd, xe] = some () := by kernel_rfl
theorem td_32 (a b c d e f g h i j k l m n o p q r s t u v w x y z xa xb xc xd xe xf : UInt8) : tdM [a, b, c, d, e, f, g, h, i, j, k, l, m, n, o, p, q, r, s, t, u, v, w, x, y, z, xa, xb, xc, xd, xe, xf] = some () := by kernel_rfl
theorem td_33 (a b c d e f g h i j k l m n o p q r s t u v w x y z xa xb xc xd xe xf xg : UInt8) : tdM [a, b, c, d, e, f, g, h, i, j, k, l, m, n, o, p, q, r, s, t, u, v, w, x, y, z, xa, xb, xc, xd, xe, xf, xg] = some () := by kernel_rfl
theorem td_34 (a b c d e f g h i j k l m n o p q r s t u v w x y z xa xb xc xd xe xf xg xh : UInt8) : tdM [a, b, c, d, e, f, g, h, i, j, k, l, m, n, o, p, q, r, s, t, u, v, w, x, y, z, xa, xb, xc, xd, xe, xf, xg, xh] = some () := by kernel_rfl
theorem td_35 (a b c d e f g h i j k l m n o p q r s t u v w x y z xa xb xc xd xe xf xg xh xi : UInt8) : tdM [a, b, c, d, e, f, g, h, i, j, k, l, m, n, o, p, q, r, s, t, u, v, w, x, y, z, xa, xb, xc, xd, xe, xf, xg, xh, xi] = some () := by kernel_rfl
theorem td_36 (a b c d e f g h i j k l m n o p q r s t u v w x y z xa xb xc xd xe xf xg xh xi xj : UInt8) : tdM [a, b, c, d, e, f, g, h, i, j, k, l, m, n, o, p, q, r, s, t, u, v, w, x, y, z, xa, xb, xc, xd, xe, xf, xg, xh, xi, xj] = some () := by kernel_rfl
theorem td_37 (a b c d e f g h i j k l m n o p q r s t u v w x y z xa xb xc xd xe xf xg xh xi xj xk : UInt8) : tdM [a, b, c, d, e, f, g, h, i, j, k, l, m, n, o, p, q, r, s, t, u, v, w, x, y, z, xa, xb, xc, xd, xe, xf, xg, xh, xi, xj, xk] = some () := by kernel_rfl
theorem td_38 (a b c d e f g h i j k l m n o p q r s t u v w x y z xa xb xc xd xe xf xg xh xi xj xk xl : UInt8) : tdM [a, b, c, d, e, f, g, h, i, j, k, l, m, n, o, p, q, r, s, t, u, v, w, x, y, z, xa, xb, xc, xd, xe, xf, xg, xh, xi, xj, xk, xl] = some () := by kernel_rfl
theorem td_39 (a b c d e f g h i j k l m n o p q r s t u v w x y z xa xb xc xd xe xf xg xh xi xj xk xl xm : UInt8) : tdM [a, b, c, d, e, f, g, h, i, j, k, l, m, n, o, p, q, r, s, t, u, v, w, x, y, z, xa, xb, xc, xd, xe, xf, xg, xh, xi, xj, xk, xl, xm] = some () := by kernel_rfl
theorem td_40 (a b c d e f g h i j k l m n o p q r s t u v w x y z xa xb xc xd xe xf xg xh xi xj xk xl xm xn : UInt8) : tdM [a, b, c, d, e, f, g, h, i, j, k, l, m, n, o, p, q, r, s, t, u, v, w, x, y, z, xa, xb, xc, xd, xe, xf, xg, xh, xi, xj, xk, xl, xm, xn] = some () := by kernel_rfl
theorem td_41 (a b c d e f g h i j k l m n o p q r s t u v w x y z xa xb xc xd xe xf xg xh xi xj xk xl xm xn xo : UInt8) : tdM [a, b, c, d, e, f, g, h, i, j, k, l, m, n, o, p, q, r, s, t, u, v, w, x, y, z, xa, xb, xc, xd, xe, xf, xg, xh, xi, xj, xk, xl, xm, xn, xo] = some () := by kernel_rfl
theorem td_42 (a b c d e f g h i j k l m n o p q r s t u v w x y z xa xb xc xd xe xf xg xh xi xj xk xl xm xn xo xp : UInt8) : tdM [a, b, c, d, e, f, g, h, i, j, k, l, m, n, o, p, q, r, s, t, u, v, w, x, y, z, xa, xb, xc, xd, xe, xf, xg, xh, xi, xj, xk, xl, xm, xn, xo, xp] = some () := by kernel_rfl
theorem td_43 (a b c d e f g h i j k l m n o p q r s t u v w x y z xa xb xc xd xe xf xg xh xi xj xk xl xm xn xo xp xq : UInt8) : tdM [a, b, c, d, e, f, g, h, i, j, k, l, m, n, o, p, q, r, s, t, u, v, w, x, y, z, xa, xb, xc, xd, xe, xf, xg, xh, xi, xj, xk, xl, xm, xn, xo, xp, xq] = some () := by kernel_rfl
theorem td_44 (a b c d e f g h i j k l m n o p q r s t u v w x y z xa xb xc xd xe xf xg xh xi xj xk xl xm xn xo xp xq xr : UInt8) : tdM [a, b, c, d, e, f, g, h, i, j, k, l, m, n, o, p, q, r, s, t, u, v, w, x, y, z, xa, xb, xc, xd, xe, xf, xg, xh, xi, xj, xk, xl, xm, xn, xo, xp, xq, xr] = some () := by kernel_rfl
theorem td_45 (a b c d e f g h i j k l m n o p q r s t u v w x y z xa xb xc xd xe xf xg xh xi xj xk xl xm xn xo xp xq xr xs : UInt8) : tdM [a, b, c, d, e, f, g, h, i, j, k, l, m, n, o, p, q, r, s, t, u, v, w, x, y, z, xa, xb, xc, xd, xe, xf, xg, xh, xi, xj, xk, xl, xm, xn, xo, xp, xq, xr, xs] = some () := by kernel_rfl
theorem td_46 (a b c d e f g h i j k l m n o p q r s t u v w x y z xa xb xc xd xe xf xg xh xi xj xk xl xm xn xo xp xq xr xs xt : UInt8) : tdM [a, b, c, d, e, f, g, h, i, j, k, l, m, n, o, p, q, r, s, t, u, v, w, x, y, z, xa, xb, xc, xd, xe, xf, xg, xh, xi, xj, xk, xl, xm, xn, xo, xp, xq, xr, xs, xt] = some () := by kernel_rfl
theorem td_47 (a b c d e f g h i j k l m n o p q r s t u v w x y z xa xb xc xd xe xf xg xh xi xj xk xl xm xn xo xp xq xr xs xt xu : UInt8) : tdM [a, b, c, d, e, f, g, h, i, j, k, l, m, n, o, p, q, r, s, t, u, v, w, x, y, z, xa, xb, xc, xd, xe, xf, xg, xh, xi, xj, xk, xl, xm, xn, xo, xp, xq, xr, xs, xt, xu] = some () := by kernel_rfl
theorem td_48 (a b c d e f g h i j k l m n o p q r s t u v w x y z xa xb xc xd xe xf xg xh xi xj xk xl xm xn xo xp xq xr xs xt xu xv : UInt8) : tdM [a, b, c, d, e, f, g, h, i, j, k, l, m, n, o, p, q, r, s, t, u, v, w, x, y, z, xa, xb, xc, xd, xe, xf, xg, xh, xi, xj, xk, xl, xm, xn, xo, xp, xq, xr, xs, xt, xu, xv] = some () := by kernel_rfl
theorem td_49 (a b c d e f g h i j k l m n o p q r s t u v w x y z xa xb xc xd xe xf xg xh xi xj xk xl xm xn xo xp xq xr xs xt xu xv xw : UInt8) : tdM [a, b, c, d, e, f, g, h, i, j, k, l, m, n, o, p, q, r, s, t, u, v, w, x, y, z, xa, xb, xc, xd, xe, xf, xg, xh, xi, xj, xk, xl, xm, xn, xo, xp, xq, xr, xs, xt, xu, xv, xw] = some () := by kernel_rfl
theorem td_50 (a b c d e f g h i j k l m n o p q r s t u v w x y z xa xb xc xd xe xf xg xh xi xj xk xl xm xn xo xp xq xr xs xt xu xv xw xx : UInt8) : tdM [a, b, c, d, e, f, g, h, i, j, k, l, m, n, o, p, q, r, s, t, u, v, w, x, y, z, xa, xb, xc, xd, xe, xf, xg, xh, xi, xj, xk, xl, xm, xn, xo, xp, xq, xr, xs, xt, xu, xv, xw, xx] = some () := by kernel_rfl
theorem td_all (x : List UInt8) (h : x.length ≤ 50) : tdM x = some () := by
  rcases x with _ | ⟨a0, x⟩
  · exact td_0 ..
  rcases x with _ | ⟨a1, x⟩
  · exact td_1 ..
  rcases x with _ | ⟨a2, x⟩
  · exact td_2 ..
  rcases x with _ | ⟨a3, x⟩
  · exact td_3 ..
  rcases x with _ | ⟨a4, x⟩
  · exact td_4 ..
  rcases x with _ | ⟨a5, x⟩
  · exact td_5 ..
  rcases x with _ | ⟨a6, x⟩
  · exact td_6 ..
  rcases x with _ | ⟨a7, x⟩
  · exact td_7 ..
  rcases x with _ | ⟨a8, x⟩
  · exact td_8 ..
  rcases x with _ | ⟨a9, x⟩
  · exact td_9 ..
  rcases x with _ | ⟨a10, x⟩
  · exact td_10 ..
  rcases x with _ | ⟨a11, x⟩
  · exact td_11 ..
  rcases x with _ | ⟨a12, x⟩
  · exact td_12 ..
  rcases x with _ | ⟨a13, x⟩
  · exact td_13 ..
  rcases x with _ | ⟨a14, x⟩
  · exact td_14 ..
  rcases x with _ | ⟨a15, x⟩
  · exact td_15 ..
  rcases x with _ | ⟨a16, x⟩
  · exact td_16 ..
  rcases x with _ | ⟨a17, x⟩
  · exact td_17 ..
  rcases x with _ | ⟨a18, x⟩
  · exact td_18 ..
  rcases x with _ | ⟨a19, x⟩
  · exact td_19 ..
  rcases x with _ | ⟨a20, x⟩
  · exact td_20 ..
  rcases x with _ | ⟨a21, x⟩
  · exact td_21 ..
  rcases x with _ | ⟨a22, x⟩
  · exact td_22 ..
  rcases x with _ | ⟨a23, x⟩
  · exact td_23 ..
  rcases x with _ | ⟨a24, x⟩
  · exact td_24 ..
  rcases x with _ | ⟨a25, x⟩
  · exact td_25 ..
  rcases x with _ | ⟨a26, x⟩
  · exact td_26 ..
  rcases x with _ | ⟨a27, x⟩
  · exact td_27 ..
  rcases x with _ | ⟨a28, x⟩
  · exact td_28 ..
  rcases x with _ | ⟨a29, x⟩
  · exact td_29 ..
  rcases x with _ | ⟨a30, x⟩
  · exact td_30 ..
  rcases x with _ | ⟨a31, x⟩
  · exact td_31 ..
  rcases x with _ | ⟨a32, x⟩
  · exact td_32 ..
  rcases x with _ | ⟨a33, x⟩
  · exact td_33 ..
  rcases x with _ | ⟨a34, x⟩
  · exact td_34 ..
  rcases x with _ | ⟨a35, x⟩
  · exact td_35 ..
  rcases x with _ | ⟨a36, x⟩
  · exact td_36 ..
  rcases x with _ | ⟨a37, x⟩
  · exact td_37 ..
  rcases x with _ | ⟨a38, x⟩
  · exact td_38 ..
  rcases x with _ | ⟨a39, x⟩
  · exact td_39 ..
  rcases x with _ | ⟨a40, x⟩
  · exact td_40 ..
  rcases x with _ | ⟨a41, x⟩
  · exact td_41 ..
  rcases x with _ | ⟨a42, x⟩
  · exact td_42 ..
  rcases x with _ | ⟨a43, x⟩
  · exact td_43 ..
  rcases x with _ | ⟨a44, x⟩
  · exact td_44 ..
  rcases x with _ | ⟨a45, x⟩
  · exact td_45 ..
  rcases x with _ | ⟨a46, x⟩
  · exact td_46 ..
  rcases x with _ | ⟨a47, x⟩
  · exact td_47 ..
  rcases x with _ | ⟨a48, x⟩
  · exact td_48 ..
  rcases x with _ | ⟨a49, x⟩
  · exact td_49 ..
  rcases x with _ | ⟨a50, x⟩
  · exact td_50 ..
  simp only [List.length_cons] at h; omega
end Go.Proofs.YthiakdmhpfkjbaaGreatDoor

set_option linter.unusedSimpArgs false
set_option linter.unusedVariables false
set_option maxRecDepth 4000
namespace Go.Proofs.YthiakdmhpfkjbaaGreatDoor
open Go Go.SK Go.ChangeShapes Go.WideShapes Go.RowKit
def encCap (x : Int × Int × Int × Int) : List Value := [.int .u64 x.1, .int .u32 x.2.1, .int .u8 x.2.2.1, .int .u64 x.2.2.2]
theorem encCap_ok : Enc encCap 4 := ⟨fun _ => rfl, fun x u hu => by simp only [encCap, List.mem_cons, List.not_mem_nil, or_false] at hu; rcases hu with rfl | rfl | rfl | rfl <;> rfl⟩
def encCap_dd (w0 : World) (D : Chunk) (x : Int × Int × Int × Int) : Prop := True
theorem encCap_left {w0 : World} {D E : Chunk} {x : Int × Int × Int × Int} (h : encCap_dd w0 D x) : encCap_dd w0 (E ++ D) x := trivial
theorem encCap_lefts {w0 : World} {D E : Chunk} {l : List (Int × Int × Int × Int)} (h : ∀ x ∈ l, encCap_dd w0 D x) : ∀ x ∈ l, encCap_dd w0 (E ++ D) x := fun x hx => encCap_left (h x hx)
def encCap_good (w : World) (x : (Int × Int × Int × Int)) : Prop := (0 ≤ x.1 ∧ x.1 < 18446744073709551616) ∧ (0 ≤ x.2.1 ∧ x.2.1 < 4294967296) ∧ (0 ≤ x.2.2.1 ∧ x.2.2.1 < 256) ∧ (0 ≤ x.2.2.2 ∧ x.2.2.2 < 18446744073709551616)
theorem dec_encCap {H : Type} {enc : TypeId × Value → H} {w : World} {spare : Nat → Bool} {held : Bool} : ∀ n cs x, DataW.trod enc Tryz.prog w 0 spare held n 39 cs = some x → WOk Tryz.prog 39 x.1 → ∃ a, cs = encCap a ∧ encCap_good w a := fun n cs x h hw => by
  obtain ⟨xs, m, _, hx, hl, hxl, hf⟩ := DataW.trod_struct Tryz.underlying39 h
  subst hx
  have hc : Tryz.prog.cellsOf 39 = 4 := by kernel_rfl
  rw [hc] at hl
  obtain ⟨c0, c1, c2, c3, rfl⟩ : ∃ c0 c1 c2 c3, cs = [c0, c1, c2, c3] := by
    match cs, hl with
    | [c0, c1, c2, c3], _ => exact ⟨_, _, _, _, rfl⟩
  obtain ⟨y0, hy0⟩ : ∃ y, xs[0]? = some y := ⟨_, List.getElem?_eq_getElem (by rw [hxl]; decide)⟩
  have h0 : DataW.trod enc Tryz.prog w 0 spare held m 36 (([c0, c1, c2, c3].drop 0).take (Tryz.prog.cellsOf 36)) = xs[0]? := hf 0 _ rfl
  have k0 : Tryz.prog.cellsOf 36 = 1 := by kernel_rfl
  have w0 : WOk Tryz.prog 36 y0.1 := hw.part Tryz.underlying39 (i := 0) rfl (by rw [List.getElem?_map, hy0]; rfl)
  rw [k0, hy0] at h0
  obtain ⟨n0, e0, _, g0⟩ := DataW.trod_int Tryz.underlying36 h0
  simp only [List.drop_succ_cons, List.drop_zero, List.take_succ_cons, List.take_zero] at e0
  injection e0 with e0 _
  obtain ⟨y1, hy1⟩ : ∃ y, xs[1]? = some y := ⟨_, List.getElem?_eq_getElem (by rw [hxl]; decide)⟩
  have h1 : DataW.trod enc Tryz.prog w 0 spare held m 37 (([c0, c1, c2, c3].drop 1).take (Tryz.prog.cellsOf 37)) = xs[1]? := hf 1 _ rfl
  have k1 : Tryz.prog.cellsOf 37 = 1 := by kernel_rfl
  have w1 : WOk Tryz.prog 37 y1.1 := hw.part Tryz.underlying39 (i := 1) rfl (by rw [List.getElem?_map, hy1]; rfl)
  rw [k1, hy1] at h1
  obtain ⟨n1, e1, _, g1⟩ := DataW.trod_int Tryz.underlying37 h1
  simp only [List.drop_succ_cons, List.drop_zero, List.take_succ_cons, List.take_zero] at e1
  injection e1 with e1 _
  obtain ⟨y2, hy2⟩ : ∃ y, xs[2]? = some y := ⟨_, List.getElem?_eq_getElem (by rw [hxl]; decide)⟩
  have h2 : DataW.trod enc Tryz.prog w 0 spare held m 5 (([c0, c1, c2, c3].drop 2).take (Tryz.prog.cellsOf 5)) = xs[2]? := hf 2 _ rfl
  have k2 : Tryz.prog.cellsOf 5 = 1 := by kernel_rfl
  have w2 : WOk Tryz.prog 5 y2.1 := hw.part Tryz.underlying39 (i := 2) rfl (by rw [List.getElem?_map, hy2]; rfl)
  rw [k2, hy2] at h2
  obtain ⟨n2, e2, _, g2⟩ := DataW.trod_int Tryz.underlying5 h2
  simp only [List.drop_succ_cons, List.drop_zero, List.take_succ_cons, List.take_zero] at e2
  injection e2 with e2 _
  obtain ⟨y3, hy3⟩ : ∃ y, xs[3]? = some y := ⟨_, List.getElem?_eq_getElem (by rw [hxl]; decide)⟩
  have h3 : DataW.trod enc Tryz.prog w 0 spare held m 36 (([c0, c1, c2, c3].drop 3).take (Tryz.prog.cellsOf 36)) = xs[3]? := hf 3 _ rfl
  have k3 : Tryz.prog.cellsOf 36 = 1 := by kernel_rfl
  have w3 : WOk Tryz.prog 36 y3.1 := hw.part Tryz.underlying39 (i := 3) rfl (by rw [List.getElem?_map, hy3]; rfl)
  rw [k3, hy3] at h3
  obtain ⟨n3, e3, _, g3⟩ := DataW.trod_int Tryz.underlying36 h3
  simp only [List.drop_succ_cons, List.drop_zero, List.take_succ_cons, List.take_zero] at e3
  injection e3 with e3 _
  subst e0
  subst e1
  subst e2
  subst e3
  exact ⟨(n0, n1, n2, n3), rfl, ⟨wf_u64 g0, wf_u32 g1, wf_u8 g2, wf_u64 g3⟩⟩
def encMessage_good (w : World) (x : (Int × Int × Int × Int × Int × Int × Int × Int × Int × Int × Option Addr × Nat × List UInt8)) : Prop := (0 ≤ x.1 ∧ x.1 < 18446744073709551616) ∧ (0 ≤ x.2.1 ∧ x.2.1 < 18446744073709551616) ∧ (0 ≤ x.2.2.1 ∧ x.2.2.1 < 4294967296) ∧ (0 ≤ x.2.2.2.1 ∧ x.2.2.2.1 < 65536) ∧ (0 ≤ x.2.2.2.2.1 ∧ x.2.2.2.2.1 < 65536) ∧ (0 ≤ x.2.2.2.2.2.1 ∧ x.2.2.2.2.2.1 < 18446744073709551616) ∧ (0 ≤ x.2.2.2.2.2.2.1 ∧ x.2.2.2.2.2.2.1 < 4294967296) ∧ (0 ≤ x.2.2.2.2.2.2.2.1 ∧ x.2.2.2.2.2.2.2.1 < 256) ∧ (0 ≤ x.2.2.2.2.2.2.2.2.1 ∧ x.2.2.2.2.2.2.2.2.1 < 18446744073709551616) ∧ (0 ≤ x.2.2.2.2.2.2.2.2.2.1 ∧ x.2.2.2.2.2.2.2.2.2.1 < 18446744073709551616) ∧ (RdX w 1 (.slice x.2.2.2.2.2.2.2.2.2.2.1 x.2.2.2.2.2.2.2.2.2.2.2.2.length x.2.2.2.2.2.2.2.2.2.2.2.1) x.2.2.2.2.2.2.2.2.2.2.2.2.length (rows encB x.2.2.2.2.2.2.2.2.2.2.2.2) ∧ x.2.2.2.2.2.2.2.2.2.2.2.2.length ≤ 140737488351232)
theorem dec_encMessage {H : Type} {enc : TypeId × Value → H} {w : World} {spare : Nat → Bool} {held : Bool} : ∀ n cs x, DataW.trod enc Tryz.prog w 0 spare held n 46 cs = some x → WOk Tryz.prog 46 x.1 → ∃ a, cs = encMessage a ∧ encMessage_good w a := fun n cs x h hw => by
  obtain ⟨xs, m, _, hx, hl, hxl, hf⟩ := DataW.trod_struct Tryz.underlying46 h
  subst hx
  have hc : Tryz.prog.cellsOf 46 = 11 := by kernel_rfl
  rw [hc] at hl
  obtain ⟨c0, c1, c2, c3, c4, c5, c6, c7, c8, c9, c10, rfl⟩ : ∃ c0 c1 c2 c3 c4 c5 c6 c7 c8 c9 c10, cs = [c0, c1, c2, c3, c4, c5, c6, c7, c8, c9, c10] := by
    match cs, hl with
    | [c0, c1, c2, c3, c4, c5, c6, c7, c8, c9, c10], _ => exact ⟨_, _, _, _, _, _, _, _, _, _, _, rfl⟩
  obtain ⟨y0, hy0⟩ : ∃ y, xs[0]? = some y := ⟨_, List.getElem?_eq_getElem (by rw [hxl]; decide)⟩
  have h0 : DataW.trod enc Tryz.prog w 0 spare held m 36 (([c0, c1, c2, c3, c4, c5, c6, c7, c8, c9, c10].drop 0).take (Tryz.prog.cellsOf 36)) = xs[0]? := hf 0 _ rfl
  have k0 : Tryz.prog.cellsOf 36 = 1 := by kernel_rfl
  have w0 : WOk Tryz.prog 36 y0.1 := hw.part Tryz.underlying46 (i := 0) rfl (by rw [List.getElem?_map, hy0]; rfl)
  rw [k0, hy0] at h0
  obtain ⟨n0, e0, _, g0⟩ := DataW.trod_int Tryz.underlying36 h0
  simp only [List.drop_succ_cons, List.drop_zero, List.take_succ_cons, List.take_zero] at e0
  injection e0 with e0 _
  obtain ⟨y1, hy1⟩ : ∃ y, xs[1]? = some y := ⟨_, List.getElem?_eq_getElem (by rw [hxl]; decide)⟩
  have h1 : DataW.trod enc Tryz.prog w 0 spare held m 36 (([c0, c1, c2, c3, c4, c5, c6, c7, c8, c9, c10].drop 1).take (Tryz.prog.cellsOf 36)) = xs[1]? := hf 1 _ rfl
  have k1 : Tryz.prog.cellsOf 36 = 1 := by kernel_rfl
  have w1 : WOk Tryz.prog 36 y1.1 := hw.part Tryz.underlying46 (i := 1) rfl (by rw [List.getElem?_map, hy1]; rfl)
  rw [k1, hy1] at h1
  obtain ⟨n1, e1, _, g1⟩ := DataW.trod_int Tryz.underlying36 h1
  simp only [List.drop_succ_cons, List.drop_zero, List.take_succ_cons, List.take_zero] at e1
  injection e1 with e1 _
  obtain ⟨y2, hy2⟩ : ∃ y, xs[2]? = some y := ⟨_, List.getElem?_eq_getElem (by rw [hxl]; decide)⟩
  have h2 : DataW.trod enc Tryz.prog w 0 spare held m 37 (([c0, c1, c2, c3, c4, c5, c6, c7, c8, c9, c10].drop 2).take (Tryz.prog.cellsOf 37)) = xs[2]? := hf 2 _ rfl
  have k2 : Tryz.prog.cellsOf 37 = 1 := by kernel_rfl
  have w2 : WOk Tryz.prog 37 y2.1 := hw.part Tryz.underlying46 (i := 2) rfl (by rw [List.getElem?_map, hy2]; rfl)
  rw [k2, hy2] at h2
  obtain ⟨n2, e2, _, g2⟩ := DataW.trod_int Tryz.underlying37 h2
  simp only [List.drop_succ_cons, List.drop_zero, List.take_succ_cons, List.take_zero] at e2
  injection e2 with e2 _
  obtain ⟨y3, hy3⟩ : ∃ y, xs[3]? = some y := ⟨_, List.getElem?_eq_getElem (by rw [hxl]; decide)⟩
  have h3 : DataW.trod enc Tryz.prog w 0 spare held m 44 (([c0, c1, c2, c3, c4, c5, c6, c7, c8, c9, c10].drop 3).take (Tryz.prog.cellsOf 44)) = xs[3]? := hf 3 _ rfl
  have k3 : Tryz.prog.cellsOf 44 = 1 := by kernel_rfl
  have w3 : WOk Tryz.prog 44 y3.1 := hw.part Tryz.underlying46 (i := 3) rfl (by rw [List.getElem?_map, hy3]; rfl)
  rw [k3, hy3] at h3
  obtain ⟨n3, e3, _, g3⟩ := DataW.trod_int Tryz.underlying44 h3
  simp only [List.drop_succ_cons, List.drop_zero, List.take_succ_cons, List.take_zero] at e3
  injection e3 with e3 _
  obtain ⟨y4, hy4⟩ : ∃ y, xs[4]? = some y := ⟨_, List.getElem?_eq_getElem (by rw [hxl]; decide)⟩
  have h4 : DataW.trod enc Tryz.prog w 0 spare held m 44 (([c0, c1, c2, c3, c4, c5, c6, c7, c8, c9, c10].drop 4).take (Tryz.prog.cellsOf 44)) = xs[4]? := hf 4 _ rfl
  have k4 : Tryz.prog.cellsOf 44 = 1 := by kernel_rfl
  have w4 : WOk Tryz.prog 44 y4.1 := hw.part Tryz.underlying46 (i := 4) rfl (by rw [List.getElem?_map, hy4]; rfl)
  rw [k4, hy4] at h4
  obtain ⟨n4, e4, _, g4⟩ := DataW.trod_int Tryz.underlying44 h4
  simp only [List.drop_succ_cons, List.drop_zero, List.take_succ_cons, List.take_zero] at e4
  injection e4 with e4 _
  obtain ⟨y5, hy5⟩ : ∃ y, xs[5]? = some y := ⟨_, List.getElem?_eq_getElem (by rw [hxl]; decide)⟩
  have h5 : DataW.trod enc Tryz.prog w 0 spare held m 39 (([c0, c1, c2, c3, c4, c5, c6, c7, c8, c9, c10].drop 5).take (Tryz.prog.cellsOf 39)) = xs[5]? := hf 5 _ rfl
  have k5 : Tryz.prog.cellsOf 39 = 4 := by kernel_rfl
  have w5 : WOk Tryz.prog 39 y5.1 := hw.part Tryz.underlying46 (i := 5) rfl (by rw [List.getElem?_map, hy5]; rfl)
  rw [k5, hy5] at h5
  obtain ⟨⟨m5_0, m5_1, m5_2, m5_3⟩, e5, g5⟩ := dec_encCap _ _ _ h5 w5
  obtain ⟨g5_0, g5_1, g5_2, g5_3⟩ := g5
  simp only [List.drop_succ_cons, List.drop_zero, List.take_succ_cons, List.take_zero, encCap, List.cons.injEq, and_true] at e5
  obtain ⟨e5_0, e5_1, e5_2, e5_3⟩ := e5
  obtain ⟨y6, hy6⟩ : ∃ y, xs[6]? = some y := ⟨_, List.getElem?_eq_getElem (by rw [hxl]; decide)⟩
  have h6 : DataW.trod enc Tryz.prog w 0 spare held m 36 (([c0, c1, c2, c3, c4, c5, c6, c7, c8, c9, c10].drop 9).take (Tryz.prog.cellsOf 36)) = xs[6]? := hf 6 _ rfl
  have k6 : Tryz.prog.cellsOf 36 = 1 := by kernel_rfl
  have w6 : WOk Tryz.prog 36 y6.1 := hw.part Tryz.underlying46 (i := 6) rfl (by rw [List.getElem?_map, hy6]; rfl)
  rw [k6, hy6] at h6
  obtain ⟨n6, e6, _, g6⟩ := DataW.trod_int Tryz.underlying36 h6
  simp only [List.drop_succ_cons, List.drop_zero, List.take_succ_cons, List.take_zero] at e6
  injection e6 with e6 _
  obtain ⟨y7, hy7⟩ : ∃ y, xs[7]? = some y := ⟨_, List.getElem?_eq_getElem (by rw [hxl]; decide)⟩
  have h7 : DataW.trod enc Tryz.prog w 0 spare held m 22 (([c0, c1, c2, c3, c4, c5, c6, c7, c8, c9, c10].drop 10).take (Tryz.prog.cellsOf 22)) = xs[7]? := hf 7 _ rfl
  have k7 : Tryz.prog.cellsOf 22 = 1 := by kernel_rfl
  have w7 : WOk Tryz.prog 22 y7.1 := hw.part Tryz.underlying46 (i := 7) rfl (by rw [List.getElem?_map, hy7]; rfl)
  rw [k7, hy7] at h7
  obtain ⟨A7, d7, b7, e7, g7⟩ := dec_bytes Tryz.underlying22 Tryz.underlying5 (by kernel_rfl) (by kernel_rfl) _ _ _ h7 w7
  simp only [List.drop_succ_cons, List.drop_zero, List.take_succ_cons, List.take_zero] at e7
  injection e7 with e7 _
  subst e0
  subst e1
  subst e2
  subst e3
  subst e4
  subst e5_0
  subst e5_1
  subst e5_2
  subst e5_3
  subst e6
  subst e7
  exact ⟨(n0, n1, n2, n3, n4, m5_0, m5_1, m5_2, m5_3, n6, A7, d7, b7), rfl, ⟨wf_u64 g0, wf_u64 g1, wf_u32 g2, wf_u16 g3, wf_u16 g4, g5_0, g5_1, g5_2, g5_3, wf_u64 g6, g7⟩⟩
theorem encMessage_gdd {w : World} {D : Chunk} {x : (Int × Int × Int × Int × Int × Int × Int × Int × Int × Int × Option Addr × Nat × List UInt8)} (h : encMessage_good w x) : encMessage_dd w D x := DD.of (h.2.2.2.2.2.2.2.2.2.2).1
end Go.Proofs.YthiakdmhpfkjbaaGreatDoor
