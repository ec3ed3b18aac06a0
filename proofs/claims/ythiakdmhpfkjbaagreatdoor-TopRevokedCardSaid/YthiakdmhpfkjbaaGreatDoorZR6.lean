import Derived.Test.YthiakdmhpfkjbaaGreatDoorZR5
set_option linter.unusedVariables false
set_option linter.unusedSimpArgs false
set_option linter.unusedVariables false
set_option linter.unusedSimpArgs false
set_option maxRecDepth 4000
namespace Go.Proofs.YthiakdmhpfkjbaaGreatDoor
open Go Go.SK
section
variable {Q : Exit → Act → World → Prop} {a : Act} {w : World}
theorem xs_ret (h : Q .ret a w) : Exit.noGoto Q .ret a w := h
end
def worksM (ts : List Nat) (s : SY) : Nat → Nat → Option (SY × Bool)
  | 0, _ => some (s, false)
  | m + 1, i => match workM ts s i with
    | none => none
    | some (s', true) => some (s', true)
    | some (s', false) => worksM ts s' m (i + 1)
def settleM (ts : List Nat) : Nat → SY → Nat → Nat → Option (SY × Nat)
  | 0, _, _, _ => none
  | f + 1, s, d, lim =>
    if d < lim then
      match s.wi with
      | [] => match worksM ts s s.nx.length 0 with
        | none => none
        | some (s', true) => settleM ts f s' (d + 1) lim
        | some (s', false) => some (s', d)
      | _ :: _ => match arrM s with
        | none => none
        | some s' => settleM ts f s' (d + 1) lim
    else some (s, d)
theorem worksM_cases {ts : List Nat} {s s1 : SY} {m i : Nat} {ok : Bool} (h : worksM ts s m i = some (s1, ok)) : (m = 0 ∧ s1 = s ∧ ok = false) ∨ (∃ m', m = m' + 1 ∧ workM ts s i = some (s1, true) ∧ ok = true) ∨ (∃ m' s2, m = m' + 1 ∧ workM ts s i = some (s2, false) ∧ worksM ts s2 m' (i + 1) = some (s1, ok)) := by
  cases m with
  | zero => injection h with h; injection h with h1 h2; exact .inl ⟨rfl, h1.symm, h2.symm⟩
  | succ m =>
    rw [worksM] at h
    cases hw : workM ts s i with
    | none => rw [hw] at h; cases h
    | some r =>
      obtain ⟨s2, ok2⟩ := r
      rw [hw] at h
      cases ok2 with
      | true => injection h with h; injection h with h1 h2; subst h1; exact .inr (.inl ⟨m, rfl, rfl, h2.symm⟩)
      | false => exact .inr (.inr ⟨m, s2, rfl, rfl, h⟩)
theorem settleM_cases {ts : List Nat} {f d lim e : Nat} {s s' : SY} (h : settleM ts f s d lim = some (s', e)) : ∃ f2, f = f2 + 1 ∧ ((¬ d < lim ∧ s' = s ∧ e = d) ∨ (d < lim ∧ ∃ s1, arrM s = some s1 ∧ settleM ts f2 s1 (d + 1) lim = some (s', e)) ∨ (d < lim ∧ s.wi = [] ∧ ∃ s1 ok, worksM ts s s.nx.length 0 = some (s1, ok) ∧ ((ok = true ∧ settleM ts f2 s1 (d + 1) lim = some (s', e)) ∨ (ok = false ∧ s' = s1 ∧ e = d)))) := by
  cases f with
  | zero => cases h
  | succ f =>
    refine ⟨f, rfl, ?_⟩
    rw [settleM] at h
    by_cases hd : d < lim
    · rw [if_pos hd] at h
      cases hw : s.wi with
      | nil =>
        rw [hw] at h; dsimp only at h
        cases hk : worksM ts s s.nx.length 0 with
        | none => rw [hk] at h; cases h
        | some r =>
          obtain ⟨s1, ok⟩ := r
          rw [hk] at h
          cases ok with
          | true => exact .inr (.inr ⟨hd, rfl, s1, true, rfl, .inl ⟨rfl, h⟩⟩)
          | false => injection h with h; injection h with h1 h2; exact .inr (.inr ⟨hd, rfl, s1, false, rfl, .inr ⟨rfl, h1.symm, h2.symm⟩⟩)
      | cons p wi =>
        rw [hw] at h; dsimp only at h
        cases ha : arrM s with
        | none => rw [ha] at h; cases h
        | some s1 => rw [ha] at h; exact .inr (.inl ⟨hd, s1, rfl, h⟩)
    · rw [if_neg hd] at h
      injection h with h; injection h with h1 h2
      exact .inl ⟨hd, h1.symm, h2.symm⟩
set_option maxHeartbeats 4000000 in
theorem settle19 {w0 w : World} {F : List Chunk} {b : Nat} {ts : List Nat} {s : SY} {L D : Chunk} {s' : SY} {f d lim : Nat} (hg : HG w0) (hS : St w0 w (L :: D :: F)) (hY : SYS w0 b ts s L D) (hM : settleM ts f s 0 lim = some (s', d)) (hlim : lim < 1000000) :
 Ret Tryz.prog 19 #[vP b 0, vI lim] w (fun v w' => ∃ L' D', SYS w0 b ts s' L' D' ∧ DX w0 D D' ∧ v = vI d ∧ St w0 w' (L' :: D' :: F)) := by
 refine enter (vs := [vP b 0, vI lim]) 33 Tryz.func19 rfl rfl (by simp) ?_; intro a hA
 refine zs (zr (zR 1 ((4, yI) :: _) hA rfl fun a hA => zn (zx ?_)))
 refine wp_scope_straight ?_
 refine zs (zr (zR 1 ((5, yI) :: _) hA rfl fun a hA => zn (zx (zs ?_))))
 refine wp_label ?_
 refine zx (zs (zb ?_))
 refine wp_loop_ghost (fun m a w => ∃ (f' : Nat) (dj : Nat) (sj : SY) (L' : Chunk) (D' : Chunk), m = f' ∧ Has a 33 [(0, vP b 0), (1, vI lim), (5, vI dj)] ∧ St w0 w (L' :: D' :: F) ∧ (settleM ts f' sj dj lim = some (s', d)) ∧ (SYS w0 b ts sj L' D') ∧ (DX w0 D D')) (f)
  ⟨f, 0, s, L, D, rfl, (hA.sel [0, 1, 5] rfl), hS, hM, hY, DX.refl⟩ ?_
 clear hA hS; rintro m0 a w1 ⟨f', dj, sj, L', D', rfl, hA, hS, hM, hY, hX⟩
 refine zs (zs (zr ?_))
 obtain ⟨f2, rfl, hMc⟩ := settleM_cases hM; clear hM
 rcases hMc with ⟨hlt, e1, e2⟩ | ⟨hlt, s1, ha, hM2⟩ | ⟨hlt, hwi, s1, ok, hW0, hEnd⟩
 · refine zR 3 ((9, .bool (decide (((dj : Nat) : Int) < ((lim : Nat) : Int)))) :: (8, vI lim) :: (7, vI dj) :: _) hA rfl fun a hA => zn (zx ?_)
   have hc2 : ¬ (((dj : Nat) : Int) < ((lim : Nat) : Int)) := by omega
   replace hA := hA.rw 9 (v' := yF) rfl (vb_false hc2)
   refine cd_cond_f hA rfl ?_
   refine wp_exit ?_
   refine xt_exit (xt_exit (cd_exit_eq (zx (zs (zr (zR 2 ((4, vI dj) :: (32, vI dj) :: _) hA rfl fun a hA => zn (zx ?_)))))))
   refine wp_ret (xs_ret ?_)
   refine ret1 (fn := Tryz.f19) hA rfl rfl ?_
   rw [e1, e2]
   exact ⟨_, _, hY, hX, rfl, hS⟩
 · refine zR 3 ((9, .bool (decide (((dj : Nat) : Int) < ((lim : Nat) : Int)))) :: (8, vI lim) :: (7, vI dj) :: _) hA rfl fun a hA => zn (zx ?_)
   have hc3 : ((dj : Nat) : Int) < ((lim : Nat) : Int) := by omega
   replace hA := hA.rw 9 (v' := yT) rfl (vb_true hc3)
   refine cd_cond_t hA rfl (zk (zx (zb (zs (zs (zr (zR 2 ((11, .agg #[yB, yI, yI]) :: (10, vP b 0) :: _) hA rfl fun a hA => ?_)))))))
   refine st_call0 hA rfl rfl rfl isfn15 rfl rfl (by decide) (do_arr15 hS hY ha) ?_
   clear hA hS; rintro _ w4 a ⟨L2, D2, hY2, hX2, rfl, hS⟩ hA
   refine zR 1 ((13, yT) :: _) hA rfl fun a hA => zn (zx (cd_cond_t hA rfl (zs (zr (zR 2 ((15, .int .i64 (IntKind.i64.wrap (((dj : Nat) : Int) + 1))) :: (14, vI dj) :: _) hA rfl fun a hA => ?_)))))
   replace hA := hA.rw 15 (v' := vI (dj + 1)) rfl (wr64 (by omega) (by omega) (by omega))
   refine zR 1 ((5, vI (dj + 1)) :: _) hA rfl fun a hA => zn (zx ?_)
   refine wp_exit ?_
   refine xt_exit (cd_exit_eq ?_)
   exact lp_next _ (by omega) ⟨f2, (dj + 1), s1, L2, D2, rfl, (hA.sel [0, 1, 5] rfl), hS, hM2, hY2, (hX.trans hX2)⟩
 · refine zR 3 ((9, .bool (decide (((dj : Nat) : Int) < ((lim : Nat) : Int)))) :: (8, vI lim) :: (7, vI dj) :: _) hA rfl fun a hA => zn (zx ?_)
   have hc5 : ((dj : Nat) : Int) < ((lim : Nat) : Int) := by omega
   replace hA := hA.rw 9 (v' := yT) rfl (vb_true hc5)
   refine cd_cond_t hA rfl (zk (zx (zb (zs (zs (zr (zR 2 ((11, .agg #[yB, yI, yI]) :: (10, vP b 0) :: _) hA rfl fun a hA => ?_)))))))
   refine st_call0 hA rfl rfl rfl isfn15 rfl rfl (by decide) (do_arr015 hS hY hwi) ?_
   clear hA hS; rintro _ w6 a ⟨L2, hY2, rfl, hS⟩ hA
   refine zR 1 ((13, yF) :: _) hA rfl fun a hA => zn (zx (cd_cond_f hA rfl (zk (zx (zs (zs (zr ?_)))))))
   obtain ⟨bw, bo, bs, A, c, C, NL, WL, OL, hs, rfl⟩ := hY2; have hlen := hs.fn.len; have hcapb := hs.fr.rcap
   replace hS : St w0 w6 ([(b, rowO [.slice A bs.length c, vP bw 0] 77)] :: C :: NL :: WL :: OL :: D' :: F) := hS.cast (by simp)
   refine zR 3 ((18, vP b 0) :: (17, vP b 0) :: (16, vP b 0) :: _) hA rfl fun a hA => zL hA hS 0 rfl rfl rfl rfl rfl rfl rfl rfl rfl fun a hA => zR 1 ((20, vI bs.length) :: _) hA rfl fun a hA => ?_
   replace hA := hA.rw 20 (v' := vI sj.nx.length) rfl (by rw [hlen])
   refine zR 1 ((21, yI) :: _) hA rfl fun a hA => zn (zx (zb ?_))
   replace hS : St w0 w6 (((b, rowO [.slice A bs.length c, vP bw 0] 77) :: (C ++ (NL ++ (WL ++ OL)))) :: D' :: F) := hS.cast (by simp)
   have hY9 := (show SYS w0 b ts sj _ D' from ⟨bw, bo, bs, A, c, C, _, _, _, ⟨NDS.dx DX.refl hs.fn, hs.fw, hs.fo, hs.fr⟩, rfl⟩)
   replace hS : St w0 w6 (_ :: D' :: F) := hS; revert hS hY9; generalize ((b, rowO [.slice A bs.length c, vP bw 0] 77) :: (C ++ (NL ++ (WL ++ OL)))) = L9; intro hY9 hS
   refine wp_loop_ghost (fun m a w => ∃ (i : Nat) (si : SY) (Li : Chunk) (Di : Chunk), m = sj.nx.length - i ∧ Has a 33 [(0, vP b 0), (1, vI lim), (5, vI dj), (20, vI sj.nx.length), (21, vI i)] ∧ St w0 w (Li :: Di :: F) ∧ (i ≤ sj.nx.length) ∧ (worksM ts si (sj.nx.length - i) i = some (s1, ok)) ∧ (SYS w0 b ts si Li Di) ∧ (DX w0 D' Di)) (sj.nx.length - 0)
    ⟨0, sj, L9, D', rfl, (hA.sel [0, 1, 5, 20, 21] rfl), hS, Nat.zero_le _, hW0, hY9, DX.refl⟩ ?_
   clear hA hS; rintro m0 a w7 ⟨i, si, Li, Di, rfl, hA, hS, hi, hW, hYi, hXi⟩
   refine zs (zr ?_)
   rcases worksM_cases hW with ⟨hm0, rfl, rfl⟩ | ⟨m2, hm0, hw, rfl⟩ | ⟨m2, s2, hm0, hw, hW2⟩
   · obtain ⟨hf, _⟩ | ⟨_, e1, e2⟩ := hEnd; cases hf
     refine zR 1 ((22, .bool (decide (((i : Nat) : Int) < ((sj.nx.length : Nat) : Int)))) :: _) hA rfl fun a hA => zn (zx (zs ?_))
     have hc8 : ¬ (((i : Nat) : Int) < ((sj.nx.length : Nat) : Int)) := by omega
     replace hA := hA.rw 22 (v' := yF) rfl (vb_false hc8)
     refine cd_cond_f hA rfl ?_
     refine wp_exit ?_
     refine xt_exit (xt_exit (cd_exit_eq (zx ?_)))
     refine wp_exit ?_
     refine cd_exit_ne (by decide) (xt_exit (cd_exit_eq (zx (zs (zr (zR 2 ((4, vI dj) :: (32, vI dj) :: _) hA rfl fun a hA => zn (zx ?_)))))))
     refine wp_ret (xs_ret ?_)
     refine ret1 (fn := Tryz.f19) hA rfl rfl ?_
     rw [e1, e2]
     exact ⟨_, _, hYi, (hX.trans hXi), rfl, hS⟩
   · obtain ⟨_, hM2⟩ | ⟨hf, _⟩ := hEnd; rotate_left; cases hf
     refine zR 1 ((22, .bool (decide (((i : Nat) : Int) < ((sj.nx.length : Nat) : Int)))) :: _) hA rfl fun a hA => zn (zx (zs ?_))
     have hc9 : ((i : Nat) : Int) < ((sj.nx.length : Nat) : Int) := by omega
     replace hA := hA.rw 22 (v' := yT) rfl (vb_true hc9)
     refine cd_cond_t hA rfl (zk (zx (zs (zb (zs (zr (zR 2 ((6, vI i) :: (23, vI i) :: _) hA rfl fun a hA => zn (zx (zs (zr (zR 3 ((26, .agg #[.int .u8 3, vI i, yI]) :: (25, vI i) :: (24, vP b 0) :: _) hA rfl fun a hA => ?_)))))))))))
     refine st_call0 hA rfl rfl rfl isfn15 rfl rfl (by decide) (do_work_t15 hg hS hYi hw) ?_
     clear hA hS; rintro _ w10 a ⟨L4, D4, hY4, hX4, rfl, hS⟩ hA
     refine zR 1 ((28, yT) :: _) hA rfl fun a hA => zn (zx (cd_cond_t hA rfl (zs (zr (zR 2 ((30, .int .i64 (IntKind.i64.wrap (((dj : Nat) : Int) + 1))) :: (29, vI dj) :: _) hA rfl fun a hA => ?_)))))
     replace hA := hA.rw 30 (v' := vI (dj + 1)) rfl (wr64 (by omega) (by omega) (by omega))
     refine zR 1 ((5, vI (dj + 1)) :: _) hA rfl fun a hA => zn (zx ?_)
     refine wp_exit ?_
     refine cd_exit_ne (by decide) (xt_exit (xt_exit (cd_exit_ne (by decide) (xt_exit (cd_exit_eq ?_)))))
     exact lp_next _ (by omega) ⟨f2, (dj + 1), s1, L4, D4, rfl, (hA.sel [0, 1, 5] rfl), hS, hM2, hY4, (hX.trans (hXi.trans hX4))⟩
   · refine zR 1 ((22, .bool (decide (((i : Nat) : Int) < ((sj.nx.length : Nat) : Int)))) :: _) hA rfl fun a hA => zn (zx (zs ?_))
     have hc11 : ((i : Nat) : Int) < ((sj.nx.length : Nat) : Int) := by omega
     replace hA := hA.rw 22 (v' := yT) rfl (vb_true hc11)
     refine cd_cond_t hA rfl (zk (zx (zs (zb (zs (zr (zR 2 ((6, vI i) :: (23, vI i) :: _) hA rfl fun a hA => zn (zx (zs (zr (zR 3 ((26, .agg #[.int .u8 3, vI i, yI]) :: (25, vI i) :: (24, vP b 0) :: _) hA rfl fun a hA => ?_)))))))))))
     refine st_call0 hA rfl rfl rfl isfn15 rfl rfl (by decide) (do_work_f15 hg hS hYi hw) ?_
     clear hA hS; rintro _ w12 a ⟨L4, D4, hY4, hX4, rfl, hS⟩ hA
     refine zR 1 ((28, yF) :: _) hA rfl fun a hA => zn (zx (cd_cond_f hA rfl (zk (zm (zx (zr (zR 1 ((31, .int .i64 (IntKind.i64.wrap (((i : Nat) : Int) + 1))) :: _) hA rfl fun a hA => ?_)))))))
     replace hA := hA.rw 31 (v' := vI (i + 1)) rfl (wr64 (by omega) (by omega) (by omega))
     refine zR 1 ((21, vI (i + 1)) :: _) hA rfl fun a hA => zn ?_
     exact lp_next _ (by omega) ⟨(i + 1), s2, L4, D4, rfl, (hA.sel [0, 1, 5, 20, 21] rfl), hS, by omega, (show worksM ts s2 (sj.nx.length - (i + 1)) (i + 1) = some (s1, ok) by rw [show sj.nx.length - (i + 1) = m2 by omega]; exact hW2), hY4, (hXi.trans hX4)⟩
end Go.Proofs.YthiakdmhpfkjbaaGreatDoor

set_option linter.unusedVariables false
set_option linter.unusedSimpArgs false
set_option maxRecDepth 4000
namespace Go.Proofs.YthiakdmhpfkjbaaGreatDoor
open Go Go.SK
def encKi (x : Nat) : List Value := [vI x]
theorem encKi_ok : Enc encKi 1 := ⟨fun _ => rfl, fun x u hu => by simp only [encKi, List.mem_cons, List.not_mem_nil, or_false] at hu; rcases hu with rfl <;> rfl⟩
def kNC (c : NC) (j ki n : Nat) : NC := ⟨j, ki, n, c.pc, c.wa, c.tr, c.ag, c.pg, c.ro, 0, 0, 0, 0, 0, 0, 0, 0⟩
def bootM (c : NC) (en : List (Nat × Nat × Nat)) (ts : List Nat) (k : Nat) : Option (NX × List (Nat × Nat × Nat) × Nat) :=
  match ts[k]?, ts[k + 1]? with
  | some g, some rp =>
    if g < 281474976710656 ∧ (∀ x ∈ en, ¬ (x.1 = 0 ∧ x.2.1 = g % 281474976710656)) ∧ en.length ≤ 900 ∧ 1 ≤ c.wa ∧ 1 ≤ c.tr ∧ 1 ≤ c.ag ∧ c.ro ≤ 64 then
      if c.ki = 0 then some (.up ⟨⟨c.id, 0, c.no, c.pc, c.wa, c.tr, c.ag, c.pg, c.ro, c.now, c.sent, rp, 0, 0, 0, 0, 0⟩, [], [], [], [], [], [], []⟩ .none, en ++ [(0, g % 281474976710656, rp)], k + 1 + 1)
      else
        match ts[k + 1 + 1]?, ts[k + 1 + 1 + 1]?, ts[k + 1 + 1 + 1 + 1]? with
        | some g2, some po, some x =>
          if g2 < 281474976710656 ∧ (∀ x ∈ en ++ [(0, g % 281474976710656, rp)], ¬ (x.1 = 0 ∧ x.2.1 = g2 % 281474976710656)) then
            if c.ki = 1 ∧ c.pg = 10 then some (.up ⟨⟨c.id, 1, c.no, c.pc, c.wa, c.tr, c.ag, 10, c.ro, c.now, c.sent, rp, po, po, 0, 255, x⟩, [], [], [], [], [], [], []⟩ .other, en ++ [(0, g % 281474976710656, rp)] ++ [(0, g2 % 281474976710656, po)], k + 1 + 1 + 1 + 1 + 1)
            else if c.ki = 2 then some (.up ⟨⟨c.id, 2, c.no, c.pc, c.wa, c.tr, c.ag, c.pg, c.ro, c.now, c.sent, rp, po, po, 0, 255, x⟩, [], [], [], [], [], [], []⟩ .other, en ++ [(0, g % 281474976710656, rp)] ++ [(0, g2 % 281474976710656, po)], k + 1 + 1 + 1 + 1 + 1)
            else if c.ki = 3 then some (.up ⟨⟨c.id, 3, c.no, c.pc, c.wa, c.tr, c.ag, c.pg, c.ro, c.now, c.sent, rp, po, po, 0, 255, x⟩, [], [], [], [], [], [], []⟩ (.file [(true, x, 0, -1, 24)] [] 0 0), en ++ [(0, g % 281474976710656, rp)] ++ [(0, g2 % 281474976710656, po)], k + 1 + 1 + 1 + 1 + 1)
            else none
          else none
        | _, _, _ => none
    else none
  | _, _ => none
theorem bootX29 {w0 w : World} {F : List Chunk} {b bo : Nat} {c : NC} {L D O : Chunk} {en en' : List (Nat × Nat × Nat)} {ts : List Nat} {k k' : Nat} {x' : NX} (hS : St w0 w (L :: O :: F)) (hN : NOD w0 b bo (.down c) L D) (hO : ORR bo en ts k O) (h : bootM c en ts k = some (x', en', k')) :
    Ret Tryz.prog 29 #[vP b 0] w (fun v w' => ∃ L' O', NOD w0 b bo x' L' D ∧ ORR bo en' ts k' O' ∧ v = yN ∧ St w0 w' (L' :: O' :: F)) := by
  have hL : L = _ := hN
  subst hL
  rw [bootM] at h
  cases hg : ts[k]? with
  | none => rw [hg] at h; cases h
  | some g =>
    rw [hg] at h
    cases hp : ts[k + 1]? with
    | none => rw [hp] at h; cases h
    | some rp =>
      rw [hp] at h; dsimp only at h
      by_cases hc : g < 281474976710656 ∧ (∀ x ∈ en, ¬ (x.1 = 0 ∧ x.2.1 = g % 281474976710656)) ∧ en.length ≤ 900 ∧ 1 ≤ c.wa ∧ 1 ≤ c.tr ∧ 1 ≤ c.ag ∧ c.ro ≤ 64
      · rw [if_pos hc] at h
        obtain ⟨c1, c2, c3, c4, c5, c6, c7⟩ := hc
        by_cases k0 : c.ki = 0
        · rw [if_pos k0] at h
          injection h with h; injection h with e1 h; injection h with e2 e3; subst e1; subst e2; subst e3
          rw [k0] at hS
          exact nboot0_29 hS hO hg hp c1 c2 c3 c4 c5 c6 c7
        · rw [if_neg k0] at h
          cases h2 : ts[k + 1 + 1]? with
          | none => rw [h2] at h; cases h
          | some g2 =>
            rw [h2] at h
            cases h3 : ts[k + 1 + 1 + 1]? with
            | none => rw [h3] at h; cases h
            | some po =>
              rw [h3] at h
              cases h4 : ts[k + 1 + 1 + 1 + 1]? with
              | none => rw [h4] at h; cases h
              | some x =>
                rw [h4] at h; dsimp only at h
                by_cases hd : g2 < 281474976710656 ∧ (∀ x ∈ en ++ [(0, g % 281474976710656, rp)], ¬ (x.1 = 0 ∧ x.2.1 = g2 % 281474976710656))
                · rw [if_pos hd] at h
                  by_cases k1 : c.ki = 1 ∧ c.pg = 10
                  · rw [if_pos k1] at h
                    injection h with h; injection h with e1 h; injection h with e2 e3; subst e1; subst e2; subst e3
                    rw [k1.1, k1.2] at hS
                    exact nboot1_29 hS hO hg hp c1 c2 c3 c4 c5 c6 c7 h2 h3 h4 hd.1 hd.2
                  · rw [if_neg k1] at h
                    by_cases k2 : c.ki = 2
                    · rw [if_pos k2] at h
                      injection h with h; injection h with e1 h; injection h with e2 e3; subst e1; subst e2; subst e3
                      rw [k2] at hS
                      exact nboot2_29 hS hO hg hp c1 c2 c3 c4 c5 c6 c7 h2 h3 h4 hd.1 hd.2
                    · rw [if_neg k2] at h
                      by_cases k3 : c.ki = 3
                      · rw [if_pos k3] at h
                        injection h with h; injection h with e1 h; injection h with e2 e3; subst e1; subst e2; subst e3
                        rw [k3] at hS
                        exact nboot3_29 hS hO hg hp c1 c2 c3 c4 c5 c6 c7 h2 h3 h4 hd.1 hd.2
                      · rw [if_neg k3] at h; cases h
                · rw [if_neg hd] at h; cases h
      · rw [if_neg hc] at h; cases h
def ofsM (ks : List Nat) (c : NC) (ts : List Nat) : Nat → Option (List NX × List (Nat × Nat × Nat) × Nat)
  | 0 => some ([], [], 0)
  | j + 1 => match ofsM ks c ts j with
    | none => none
    | some (nx, en, k) => match ks[j]? with
      | none => none
      | some ki => match bootM (kNC c j ki ks.length) en ts k with
        | none => none
        | some (x, en', k') => some (nx ++ [x], en', k')
def ofM (ks : List Nat) (c : NC) (ts : List Nat) : Option SY := (ofsM ks c ts ks.length).map (fun r => ⟨r.1, [], r.2.1, r.2.2⟩)
theorem ofsM_le {ks : List Nat} {c : NC} {ts : List Nat} {n : Nat} {r : List NX × List (Nat × Nat × Nat) × Nat} (h : ofsM ks c ts n = some r) : ∀ j ≤ n, ∃ y, ofsM ks c ts j = some y := by
  induction n generalizing r with
  | zero => intro j hj; obtain rfl : j = 0 := by omega
            exact ⟨r, h⟩
  | succ n ih =>
    intro j hj
    by_cases hjn : j = n + 1
    · subst hjn; exact ⟨r, h⟩
    · rw [ofsM] at h
      cases hm : ofsM ks c ts n with
      | none => rw [hm] at h; cases h
      | some y => exact ih hm j (by omega)
theorem ofsM_some {ks : List Nat} {c : NC} {ts : List Nat} {j k : Nat} {nx : List NX} {en : List (Nat × Nat × Nat)} {y : List NX × List (Nat × Nat × Nat) × Nat} (hj : ofsM ks c ts j = some (nx, en, k)) (h : ofsM ks c ts (j + 1) = some y) : ∃ ki x en' k', ks[j]? = some ki ∧ bootM (kNC c j ki ks.length) en ts k = some (x, en', k') ∧ y = (nx ++ [x], en', k') := by
  rw [ofsM, hj] at h; dsimp only at h
  cases hk : ks[j]? with
  | none => rw [hk] at h; cases h
  | some ki =>
    rw [hk] at h; dsimp only at h
    cases hb : bootM (kNC c j ki ks.length) en ts k with
    | none => rw [hb] at h; cases h
    | some r =>
      obtain ⟨x, en', k'⟩ := r
      rw [hb] at h; injection h with h
      exact ⟨ki, x, en', k', rfl, hb, h.symm⟩
theorem ofM_some {ks : List Nat} {c : NC} {ts : List Nat} {s : SY} (h : ofM ks c ts = some s) : ∃ nx en k, ofsM ks c ts ks.length = some (nx, en, k) ∧ s = ⟨nx, [], en, k⟩ := by
  rw [ofM] at h
  cases hm : ofsM ks c ts ks.length with
  | none => rw [hm] at h; cases h
  | some r =>
    rw [hm] at h; injection h with h
    exact ⟨r.1, r.2.1, r.2.2, rfl, h.symm⟩
theorem ofsM_len {ks : List Nat} {c : NC} {ts : List Nat} : ∀ {j : Nat} {nx : List NX} {en : List (Nat × Nat × Nat)} {k : Nat}, ofsM ks c ts j = some (nx, en, k) → nx.length = j
  | 0, nx, en, k, h => by injection h with h; injection h with h _; subst h; rfl
  | j + 1, nx, en, k, h => by
    obtain ⟨⟨nx0, en0, k0⟩, h0⟩ := ofsM_le h j (by omega)
    obtain ⟨ki, x, en', k', h1, h2, h3⟩ := ofsM_some h0 h
    injection h3 with h3 _; subst h3
    rw [List.length_append, ofsM_len h0]; rfl
set_option maxHeartbeats 4000000 in
theorem of8 {w0 w : World} {F : List Chunk} {ks : List Nat} {kv de : Value} {c : NC} {ts0 ts : List Nat} {s : SY} (hS : St w0 w F) (hk : RdS w0 F 1 kv ks.length (rows encKi ks)) (he : RdS w0 F 1 de ts0.length (rows encW ts0)) (hel : ts0.length ≤ 10000) (hew : ∀ x ∈ ts0, x < 2 ^ 64) (hts : cutl ts0 = ts) (hks1 : 1 ≤ ks.length) (hks2 : ks.length ≤ 8) (hM : ofM ks c ts = some s) :
 Ret Tryz.prog 8 #[kv, .agg #[vI c.no, vI c.pc, vI c.wa, vI c.tr, vI c.ag, vI c.pg, vI c.ro], de] w (fun v w' => ∃ b L, SYS w0 b ts s L [] ∧ v = .tuple #[vP b 0, yN] ∧ St w0 w' (L :: [] :: F)) := by
 obtain ⟨Bk, dk, rfl, hmk, hxk⟩ := (hk _ hS).open'
 obtain ⟨nx, en, k, hof, rfl⟩ := ofM_some hM
 refine enter (vs := [.slice Bk ks.length dk, .agg #[vI c.no, vI c.pc, vI c.wa, vI c.tr, vI c.ag, vI c.pg, vI c.ro], de]) 58 Tryz.func8 rfl rfl (by simp) ?_; intro a hA
 refine zs (zr ?_)
 refine st_box hA hS [vI c.no, vI c.pc, vI c.wa, vI c.tr, vI c.ag, vI c.pg, vI c.ro] rfl rfl rfl rfl rfl (by decide) fun b1 w2 a hS hA => ?_
 refine zR 2 ((7, yN) :: (6, .pointer none) :: _) hA rfl fun a hA => zn (zx (zs (zs (zr (zR 4 ((16, .bool (decide (((ks.length : Nat) : Int) < 1))) :: (15, .bool (decide (((ks.length : Nat) : Int) < 1))) :: (14, vI ks.length) :: (13, .slice Bk ks.length dk) :: _) hA rfl fun a hA => ?_)))))
 have hc3 : ¬ (((ks.length : Nat) : Int) < 1) := by omega
 replace hA := hA.rw 15 (v' := yF) rfl (vb_false hc3)
 replace hA := hA.rw 16 (v' := yF) rfl (vb_false hc3)
 refine zR 4 ((20, .bool (decide (((ks.length : Nat) : Int) > 8))) :: (19, .bool (decide (((ks.length : Nat) : Int) > 8))) :: (18, vI ks.length) :: (17, .slice Bk ks.length dk) :: _) hA rfl fun a hA => zn (zx ?_)
 have hc4 : ¬ (((ks.length : Nat) : Int) > 8) := by omega
 replace hA := hA.rw 20 (v' := yF) rfl (vb_false hc4)
 refine cd_cond_f hA rfl (zk (zx (zs (zr (zR 3 ((24, vP b1 0) :: (23, vI ks.length) :: (22, .slice Bk ks.length dk) :: _) hA rfl fun a hA => ?_)))))
 refine st_store tbOk hA hS [vI ks.length] [vI ks.length, vI c.pc, vI c.wa, vI c.tr, vI c.ag, vI c.pg, vI c.ro] rfl rfl rfl rfl rfl rfl (by intro u hu; rw [List.mem_singleton.1 hu]; rfl) (zle rfl) rfl rfl rfl fun w5 hS => ?_
 refine zn (zx (zs (zr (zR 1 ((25, .agg #[yS]) :: _) hA rfl fun a hA => ?_))))
 refine st_box hA hS [yS] rfl rfl rfl rfl rfl (by decide) fun b6 w7 a hS hA => ?_
 refine zR 1 ((27, .agg #[yS, vP b6 0]) :: _) hA rfl fun a hA => ?_
 refine st_box hA hS [yS, vP b6 0] rfl rfl rfl rfl rfl (by decide) fun b8 w9 a hS hA => ?_
 refine zR 1 ((8, vP b8 0) :: _) hA rfl fun a hA => zn (zx (zs (zr (zR 1 ((29, de) :: _) hA rfl fun a hA => ?_))))
 refine st_call0 hA rfl rfl rfl isfn27 rfl rfl (by decide) (tape_of27 hS (fun w9 h9 => he w9 (h9.tail 3 rfl)) hel hew) ?_
 clear hA hS; rintro _ w10 a ⟨bt, LT, hT, rfl, hS⟩ hA
 refine st_call0 hA rfl rfl rfl isfn26 rfl rfl (by decide) (oracle_of26 hS hT) ?_
 clear hA hS; rintro _ w11 a ⟨bo, OL, hO, rfl, hS⟩ hA; rw [hts] at hO
 refine zR 1 ((9, vP bo 0) :: _) hA rfl fun a hA => zn (zx (zs (zs (zr (zR 3 ((34, yI) :: (33, vI ks.length) :: (32, .slice Bk ks.length dk) :: _) hA rfl fun a hA => zn (zx (zb ?_)))))))
 have hks0 : ks.length ≤ 8 := hks2
 replace hS := hS.nil
 replace hS := hS.nil
 replace hS := hS.m4.m2.m2.m4
 refine wp_loop_ghost (fun m a w => ∃ (j : Nat) (nxj : List NX) (enj : List (Nat × Nat × Nat)) (kj : Nat) (bs' : List Nat) (A' : Option Addr) (c' : Nat) (C' : Chunk) (NL' : Chunk) (OL' : Chunk), m = ks.length - j ∧ Has a 58 [(4, vP b1 0), (8, vP b8 0), (9, vP bo 0), (32, .slice Bk ks.length dk), (33, vI ks.length), (34, vI j)] ∧ St w0 w ([(b8, rowO [.slice A' bs'.length c', vP b6 0] 77)] :: C' :: NL' :: [(b6, rowO [yS] 74)] :: OL' :: [(b1, rowO [vI ks.length, vI c.pc, vI c.wa, vI c.tr, vI c.ag, vI c.pg, vI c.ro] 32)] :: F) ∧ (j ≤ ks.length) ∧ (ofsM ks c ts j = some (nxj, enj, kj)) ∧ (NDS w0 bo bs' nxj NL' []) ∧ (ORR bo enj ts kj OL') ∧ (Own 82 1 (.slice A' bs'.length c') bs'.length (rows encPt bs') C')) (ks.length - 0)
  ⟨0, ([]), ([]), 0, ([]), none, 0, ([]), ([]), OL, rfl, (hA.sel [4, 8, 9, 32, 33, 34] rfl), hS, Nat.zero_le _, rfl, rfl, hO, (Own.nil _ _)⟩ ?_
 clear hA hS; rintro m0 a w12 ⟨j, nxj, enj, kj, bs', A', c', C', NL', OL', rfl, hA, hS, hj, hoj, hND, hO, hr⟩
 refine zs (zr (zR 1 ((35, .bool (decide (((j : Nat) : Int) < ((ks.length : Nat) : Int)))) :: _) hA rfl fun a hA => zn (zx (zs ?_))))
 by_cases hc13 : ((j : Nat) : Int) < ((ks.length : Nat) : Int)
 · first
   | (exfalso; omega)
   | (replace hA := hA.rw 35 (v' := yT) rfl (vb_true hc13)
      refine cd_cond_t hA rfl (zk (zx (zs (zb (zs (zr ?_))))))
      obtain ⟨y, hof2⟩ := ofsM_le hof (j + 1) (by omega); obtain ⟨ki, x, en', k', hki, hb, rfl⟩ := ofsM_some hoj hof2; have hof3 := hof2; have hbl := hND.len; have hnl : nxj.length = j := ofsM_len hoj
      refine zR 1 ((36, vI j) :: _) hA rfl fun a hA => ?_
      obtain ⟨b14, o15, rfl⟩ := (hk _ (hS.tail 6 rfl)).isSome (k := j) (by omega)
      refine st_val hA rfl rfl (by decide) (rn_indexAddr tbOk hA j (o15 + j) rfl rfl rfl rfl rfl rfl (by rfl) (by omega) (by first | rfl | simp [Nat.mul_one, Nat.zero_add] | omega)) fun a hA => st_val hA rfl rfl (by decide) (rn_load tbOk hA rfl rfl rfl rfl ((hk _ (hS.tail 6 rfl)).elem0 (k := j) encKi_ok hki rfl)) fun a hA => zR 2 ((11, vI ki) :: (10, vI j) :: _) hA rfl fun a hA => zn (zx (zs (zr (zR 2 ((40, vI ki) :: (39, vI j) :: _) hA rfl fun a hA => zLA hA hS 5 [vI ks.length, vI c.pc, vI c.wa, vI c.tr, vI c.ag, vI c.pg, vI c.ro] rfl rfl rfl rfl rfl rfl rfl rfl rfl rfl fun a hA => zR 1 ((42, vP bo 0) :: _) hA rfl fun a hA => ?_))))
      refine st_call0 hA rfl rfl rfl isfn28 rfl rfl (by decide) (node_of28 hS (kNC c j ki ks.length) bo) ?_
      clear hA hS; rintro _ w16 a ⟨bn, rfl, hS⟩ hA
      have hN9 : NOD w0 bn bo (.down (kNC c j ki ks.length)) _ [] := rfl
      refine zR 1 ((12, vP bn 0) :: _) hA rfl fun a hA => zn (zx (zs (zr (zR 1 ((44, vP bn 0) :: _) hA rfl fun a hA => ?_))))
      replace hS := hS.m5.m1
      refine st_call0 hA rfl rfl rfl isfn29 rfl rfl (by decide) (bootX29 hS hN9 hO hb) ?_
      clear hA hS; rintro _ w17 a ⟨Ln, O2, hN2, hO2, rfl, hS⟩ hA
      refine zn (zx (zr (zR 4 ((49, vP b8 0) :: (48, vP b8 0) :: (47, vP b8 0) :: (46, vP b8 0) :: _) hA rfl fun a hA => zL hA hS 2 rfl rfl rfl rfl rfl rfl rfl rfl rfl fun a hA => zR 1 ((51, vP bn 0) :: _) hA rfl fun a hA => ?_)))
      refine st_buildSlice tbOk hA hS [vP bn 0] rfl rfl rfl rfl rfl (by decide) (by kernel_rfl) rfl rfl (by decide) fun b18 w19 a hS hA => ?_
      replace hS := hS.m4
      refine st_append tbOk hA (m := bs'.length) (q := 1) (xs := rows encPt bs') (news := rows encPt ([bn] : List Nat)) rfl rfl rfl rfl rfl rfl rfl rfl (by decide) hr hS (((Own.full (T := 82) (size := 1) (g := b18) (m := 1) rfl (by decide)).rd (hS.own_ 1 rfl)).x) (rows_one encPt_ok _) (maxLen_le (by first | omega | (simp only [List.length_append, be_length, capb_length, List.length_cons, List.length_nil, List.length_drop, List.length_take]; omega))) (by show (bs'.length + 1) * 8 ≤ 140737488355328; first | omega | (simp only [List.length_append, be_length, capb_length, List.length_cons, List.length_nil, List.length_drop, List.length_take]; omega)) rfl rfl (by decide) ?_
      clear hA hS; intro v20 w21 C22 a hO22 hS hA
      replace hO22 := Own.app (l := bs') (l2 := ([bn] : List Nat)) hO22
      obtain ⟨A23, c24, rfl, hmc24, hxc24⟩ := hO22.open'
      refine zR 2 ((55, vP b8 0) :: (54, vP b8 0) :: _) hA rfl fun a hA => ?_
      replace hS := hS.m4
      refine st_store tbOk hA hS [.slice A23 ((bs' ++ ([bn] : List Nat)).length) c24] [.slice A23 ((bs' ++ ([bn] : List Nat)).length) c24, vP b6 0] rfl rfl rfl rfl rfl rfl (by intro u hu; rw [List.mem_singleton.1 hu]; rfl) (zle rfl) rfl rfl rfl fun w25 hS => ?_
      refine zn (zm (zx (zr (zR 1 ((56, .int .i64 (IntKind.i64.wrap (((j : Nat) : Int) + 1))) :: _) hA rfl fun a hA => ?_))))
      replace hA := hA.rw 56 (v' := vI (j + 1)) rfl (wr64 (by omega) (by omega) (by omega))
      refine zR 1 ((34, vI (j + 1)) :: _) hA rfl fun a hA => zn ?_
      replace hS := hS.d2.m5.m3.m5.m4.m4
      replace hS : St w0 w25 ([(b8, rowO [.slice A23 ((bs' ++ ([bn] : List Nat)).length) c24, vP b6 0] 77)] :: C22 :: (NL' ++ Ln) :: [(b6, rowO [yS] 74)] :: O2 :: [(b1, rowO [vI ks.length, vI c.pc, vI c.wa, vI c.tr, vI c.ag, vI c.pg, vI c.ro] 32)] :: F) := hS.cast (by simp)
      exact lp_next _ (by omega) ⟨(j + 1), (nxj ++ [x]), en', k', (bs' ++ [bn]), A23, c24, C22, (NL' ++ Ln), O2, rfl, (hA.sel [4, 8, 9, 32, 33, 34] rfl), hS, by omega, hof3, (NDS.app hN2 hND), hO2, hO22⟩)
 · first
   | (exfalso; omega)
   | (replace hA := hA.rw 35 (v' := yF) rfl (vb_false hc13)
      refine cd_cond_f hA rfl ?_
      refine wp_exit ?_
      refine xt_exit (xt_exit (cd_exit_eq (zx (zs (zr (zR 3 ((7, yN) :: (6, vP b8 0) :: (57, vP b8 0) :: _) hA rfl fun a hA => zn (zx ?_)))))))
      refine wp_ret ?_
      refine ret2 (fn := Tryz.f8) hA rfl rfl rfl ?_
      have hj9 : j = ks.length := by omega
      subst hj9; rw [hof] at hoj; injection hoj with hoj; injection hoj with e1 hoj; injection hoj with e2 e3; subst e1; subst e2; subst e3
      replace hS := hS.d5
      replace hS : St w0 w12 (((b8, rowO [.slice A' bs'.length c', vP b6 0] 77) :: (C' ++ (NL' ++ (([(b6, rowO [yS] 74)] ++ []) ++ OL')))) :: [] :: F) := hS.cast (by simp)
      exact ⟨_, _, ⟨_, bo, bs', A', c', C', NL', _, OL', ⟨hND, ⟨[], ⟨_, [], Own.nil _ _, rfl⟩, PKS.nil⟩, hO, hr⟩, rfl⟩, rfl, hS⟩)
end Go.Proofs.YthiakdmhpfkjbaaGreatDoor

set_option linter.unusedVariables false
set_option linter.unusedSimpArgs false
set_option maxRecDepth 4000
namespace Go.Proofs.YthiakdmhpfkjbaaGreatDoor
open Go Go.SK
def get0M (s : SY) (k : Nat) : Option CA :=
  match (s.nx[0]? : Option NX) with
  | some (.up st _) => match st.ca[k]? with
    | some y => if st.ca.length ≤ 64 ∧ cal st.ca then some y else none
    | none => none
  | _ => none
theorem get0M_some {s : SY} {k : Nat} {y : CA} (h : get0M s k = some y) : ∃ st sr, s.nx[0]? = some (.up st sr) ∧ st.ca[k]? = some y ∧ st.ca.length ≤ 64 ∧ cal st.ca := by
  rw [get0M] at h
  cases hx : s.nx[0]? with
  | none => rw [hx] at h; cases h
  | some x =>
    cases x with
    | down c => rw [hx] at h; cases h
    | up st sr =>
      rw [hx] at h; dsimp only at h
      cases hy : st.ca[k]? with
      | none => rw [hy] at h; cases h
      | some z =>
        rw [hy] at h; dsimp only at h
        by_cases hc : st.ca.length ≤ 64 ∧ cal st.ca
        · rw [if_pos hc] at h; injection h with h; subst h; exact ⟨st, sr, rfl, hy, hc.1, hc.2⟩
        · rw [if_neg hc] at h; cases h
def transR (ts : List Nat) : Nat → SY → Nat → Option (SY × MN × Bool)
  | 0, s, _ => some (s, MN.zero, false)
  | f + 1, s, k => match settleM ts 2000 s 0 5000 with
    | none => none
    | some (s2, _) => match get0M s2 k with
      | none => none
      | some y =>
        if y.st = 3 then some (s2, MN.zero, false)
        else if y.st = 1 then
          (match ticksM s2 s2.nx.length with
          | none => none
          | some s3 => transR ts f s3 k)
        else some (s2, y.rp, true)
theorem transR_cases {ts : List Nat} {f k : Nat} {s s' : SY} {r : MN} {ok : Bool} (h : transR ts f s k = some (s', r, ok)) : (f = 0 ∧ s' = s ∧ r = MN.zero ∧ ok = false) ∨ (∃ f2 s2 d y, f = f2 + 1 ∧ settleM ts 2000 s 0 5000 = some (s2, d) ∧ get0M s2 k = some y ∧ ((y.st = 3 ∧ s' = s2 ∧ r = MN.zero ∧ ok = false) ∨ (y.st = 1 ∧ ∃ s3, ticksM s2 s2.nx.length = some s3 ∧ transR ts f2 s3 k = some (s', r, ok)) ∨ (¬ y.st = 3 ∧ ¬ y.st = 1 ∧ s' = s2 ∧ r = y.rp ∧ ok = true))) := by
  cases f with
  | zero => injection h with h; injection h with h1 h; injection h with h2 h3; exact .inl ⟨rfl, h1.symm, h2.symm, h3.symm⟩
  | succ f =>
    rw [transR] at h
    cases hs : settleM ts 2000 s 0 5000 with
    | none => rw [hs] at h; cases h
    | some q =>
      obtain ⟨s2, d⟩ := q
      rw [hs] at h; dsimp only at h
      cases hg : get0M s2 k with
      | none => rw [hg] at h; cases h
      | some y =>
        rw [hg] at h; dsimp only at h
        refine .inr ⟨f, s2, d, y, rfl, rfl, hg, ?_⟩
        by_cases h3 : y.st = 3
        · rw [if_pos h3] at h
          injection h with h; injection h with h1 h; injection h with h2 h4; exact .inl ⟨h3, h1.symm, h2.symm, h4.symm⟩
        · rw [if_neg h3] at h
          by_cases h1 : y.st = 1
          · rw [if_pos h1] at h
            cases ht : ticksM s2 s2.nx.length with
            | none => rw [ht] at h; cases h
            | some s3 => rw [ht] at h; exact .inr (.inl ⟨h1, s3, rfl, h⟩)
          · rw [if_neg h1] at h
            injection h with h; injection h with e1 h; injection h with e2 e3; exact .inr (.inr ⟨h3, h1, e1.symm, e2.symm, e3.symm⟩)
def callM (s : SY) (i : Nat) (m : MN) : Option (SY × Nat) :=
  match s.nx[i]? with
  | some (.up st sr) => match ncallM st m with
    | some (st', out) => if sendC s.wi out then some ({ s with nx := s.nx.set i (.up st' sr), wi := app s.wi out }, st.ca.length) else none
    | none => none
  | _ => none
theorem callM_some {s s' : SY} {i k : Nat} {m : MN} (h : callM s i m = some (s', k)) : ∃ st sr st' out, s.nx[i]? = some (.up st sr) ∧ ncallM st m = some (st', out) ∧ sendC s.wi out ∧ s' = { s with nx := s.nx.set i (.up st' sr), wi := s.wi ++ out } ∧ k = st.ca.length := by
  rw [callM] at h
  cases hx : s.nx[i]? with
  | none => rw [hx] at h; cases h
  | some x =>
    cases x with
    | down c => rw [hx] at h; cases h
    | up st sr =>
      rw [hx] at h; dsimp only at h
      cases hy : ncallM st m with
      | none => rw [hy] at h; cases h
      | some z =>
        obtain ⟨st', out⟩ := z
        rw [hy] at h; dsimp only at h
        by_cases hc : sendC s.wi out
        · rw [if_pos hc, app_eq] at h; injection h with h; injection h with h1 h2; exact ⟨st, sr, st', out, rfl, hy, hc, h1.symm, h2.symm⟩
        · rw [if_neg hc] at h; cases h
def transM (ts : List Nat) (s : SY) (m : MN) : Option (SY × MN × Bool) :=
  match callM s 0 m with
  | none => none
  | some (s', k) => transR ts 6 s' k
theorem transM_some {ts : List Nat} {s s' : SY} {m r : MN} {ok : Bool} (h : transM ts s m = some (s', r, ok)) : ∃ s1 k, callM s 0 m = some (s1, k) ∧ transR ts 6 s1 k = some (s', r, ok) := by
  rw [transM] at h
  cases hc : callM s 0 m with
  | none => rw [hc] at h; cases h
  | some q => obtain ⟨s1, k⟩ := q; rw [hc] at h; exact ⟨s1, k, rfl, h⟩
def cfgN (p : Nat) : NC := ⟨0, 0, 2, p, 1, 5, 20, 10, 10, 0, 0, 0, 0, 0, 0, 0, 0⟩
def netM (p : Nat) : Option SY := ofM [0, 1, 2, 3] (cfgN p) (cutl (spread 400))
theorem cfg30 {w0 w : World} {F : List Chunk} (hS : St w0 w F) {q : Nat} (hq : q < 256) :
 Ret Tryz.prog 30 #[vB q, yB, .int .u8 4, .int .u8 19, .int .u8 9] w (fun v w' => v = .agg #[vI ((cfgN (1 + q % 120)).no), vI ((cfgN (1 + q % 120)).pc), vI ((cfgN (1 + q % 120)).wa), vI ((cfgN (1 + q % 120)).tr), vI ((cfgN (1 + q % 120)).ag), vI ((cfgN (1 + q % 120)).pg), vI ((cfgN (1 + q % 120)).ro)] ∧ St w0 w' F) := by
 refine enter (vs := [vB q, yB, .int .u8 4, .int .u8 19, .int .u8 9]) 32 Tryz.func30 rfl rfl (by simp) ?_; intro a hA
 refine zs (zr ?_)
 refine st_alloc tbOk hA hS [yI, yI, yI, yI, yI, yI, yI] rfl rfl rfl rfl rfl (by decide) fun b1 w2 a hS hA => ?_
 refine zn (zx (zs (zr (zR 2 ((12, .int .u8 (((q : Nat) : Int).tmod 120)) :: (11, vB q) :: _) hA rfl fun a hA => ?_))))
 replace hA := hA.rw 12 (v' := vB (q % 120)) rfl (vint (Int.ofNat_tmod _ _).symm)
 refine zR 1 ((13, .int .i64 (IntKind.i64.wrap ((q % 120 : Nat) : Int))) :: _) hA rfl fun a hA => ?_
 replace hA := hA.rw 13 (v' := vI (q % 120)) rfl (wr64 (by first | rfl | omega) (by omega) (by omega))
 refine zR 1 ((14, .int .i64 (IntKind.i64.wrap (1 + ((q % 120 : Nat) : Int)))) :: _) hA rfl fun a hA => ?_
 replace hA := hA.rw 14 (v' := vI (1 + (q % 120))) rfl (wr64 (by omega) (by omega) (by omega))
 refine zR 2 ((16, .int .u8 ((0 : Int).tmod 5)) :: (15, yB) :: _) hA rfl fun a hA => ?_
 replace hA := hA.rw 16 (v' := yB) rfl (vint (by decide))
 refine zR 1 ((17, .int .i64 (IntKind.i64.wrap 0)) :: _) hA rfl fun a hA => ?_
 replace hA := hA.rw 17 (v' := yI) rfl (wr64 (by first | rfl | omega) (by omega) (by omega))
 refine zR 1 ((18, .int .i64 (IntKind.i64.wrap (1 + 0))) :: _) hA rfl fun a hA => ?_
 replace hA := hA.rw 18 (v' := .int .i64 1) rfl (wr64 (by omega) (by omega) (by omega))
 refine zR 2 ((20, .int .u8 ((4 : Int).tmod 5)) :: (19, .int .u8 4) :: _) hA rfl fun a hA => ?_
 replace hA := hA.rw 20 (v' := .int .u8 4) rfl (vint (by decide))
 refine zR 1 ((21, .int .i64 (IntKind.i64.wrap 4)) :: _) hA rfl fun a hA => ?_
 replace hA := hA.rw 21 (v' := .int .i64 4) rfl (wr64 (by first | rfl | omega) (by omega) (by omega))
 refine zR 1 ((22, .int .i64 (IntKind.i64.wrap (1 + 4))) :: _) hA rfl fun a hA => ?_
 replace hA := hA.rw 22 (v' := .int .i64 5) rfl (wr64 (by omega) (by omega) (by omega))
 refine zR 2 ((24, .int .u8 ((19 : Int).tmod 20)) :: (23, .int .u8 19) :: _) hA rfl fun a hA => ?_
 replace hA := hA.rw 24 (v' := .int .u8 19) rfl (vint (by decide))
 refine zR 1 ((25, .int .i64 (IntKind.i64.wrap 19)) :: _) hA rfl fun a hA => ?_
 replace hA := hA.rw 25 (v' := .int .i64 19) rfl (wr64 (by first | rfl | omega) (by omega) (by omega))
 refine zR 1 ((26, .int .i64 (IntKind.i64.wrap (1 + 19))) :: _) hA rfl fun a hA => ?_
 replace hA := hA.rw 26 (v' := .int .i64 20) rfl (wr64 (by omega) (by omega) (by omega))
 refine zR 2 ((28, .int .u8 ((9 : Int).tmod 10)) :: (27, .int .u8 9) :: _) hA rfl fun a hA => ?_
 replace hA := hA.rw 28 (v' := .int .u8 9) rfl (vint (by decide))
 refine zR 1 ((29, .int .i64 (IntKind.i64.wrap 9)) :: _) hA rfl fun a hA => ?_
 replace hA := hA.rw 29 (v' := .int .i64 9) rfl (wr64 (by first | rfl | omega) (by omega) (by omega))
 refine zR 1 ((30, .int .i64 (IntKind.i64.wrap (1 + 9))) :: _) hA rfl fun a hA => ?_
 replace hA := hA.rw 30 (v' := .int .i64 10) rfl (wr64 (by omega) (by omega) (by omega))
 refine st_val hA rfl rfl (by decide) (rn_build tbOk hA rfl rfl rfl rfl rfl rfl rfl) fun a hA => ?_
 refine st_store tbOk hA hS [.int .i64 2, vI (1 + (q % 120)), .int .i64 1, .int .i64 5, .int .i64 20, .int .i64 10, .int .i64 10] [.int .i64 2, vI (1 + (q % 120)), .int .i64 1, .int .i64 5, .int .i64 20, .int .i64 10, .int .i64 10] rfl rfl rfl rfl rfl rfl (zn1 rfl) (zle rfl) rfl rfl rfl fun w3 hS => ?_
 refine zn (zx ?_)
 refine wp_ret ?_
 refine retc1 tbOk (fn := Tryz.f30) (cs := [.int .i64 2, vI (1 + (q % 120)), .int .i64 1, .int .i64 5, .int .i64 20, .int .i64 10, .int .i64 10]) hA rfl rfl rfl rfl rfl (cells_row (hS.heapAt 0 rfl) rfl) ?_
 replace hS := hS.d0
 exact ⟨rfl, hS⟩
theorem config9 {w0 w : World} {F : List Chunk} (hS : St w0 w F) {x : Int} {q : Nat} (hor : Go.bits .or .u8 x 31 = ((q : Nat) : Int)) (hq : q < 256) :
 Ret Tryz.prog 9 #[.int .u8 x] w (fun v w' => v = .agg #[vI ((cfgN (1 + q % 120)).no), vI ((cfgN (1 + q % 120)).pc), vI ((cfgN (1 + q % 120)).wa), vI ((cfgN (1 + q % 120)).tr), vI ((cfgN (1 + q % 120)).ag), vI ((cfgN (1 + q % 120)).pg), vI ((cfgN (1 + q % 120)).ro)] ∧ St w0 w' F) := by
 refine enter (vs := [.int .u8 x]) 6 Tryz.func9 rfl rfl (by simp) ?_; intro a hA
 refine zs (zr ?_)
 refine st_alloc tbOk hA hS [yI, yI, yI, yI, yI, yI, yI] rfl rfl rfl rfl rfl (by decide) fun b1 w2 a hS hA => ?_
 refine zn (zx (zs (zr (zR 1 ((3, .int .u8 x) :: _) hA rfl fun a hA => st_val hA rfl rfl (by decide) (rn_or hA rfl rfl rfl) fun a hA => ?_))))
 replace hA := hA.rw 4 (v' := vB q) rfl (vint hor)
 refine st_call0 hA rfl rfl rfl isfn30 rfl rfl (by decide) (cfg30 hS hq) ?_
 clear hA hS; rintro _ w3 a ⟨rfl, hS⟩ hA
 refine st_store tbOk hA hS [vI ((cfgN (1 + q % 120)).no), vI ((cfgN (1 + q % 120)).pc), vI ((cfgN (1 + q % 120)).wa), vI ((cfgN (1 + q % 120)).tr), vI ((cfgN (1 + q % 120)).ag), vI ((cfgN (1 + q % 120)).pg), vI ((cfgN (1 + q % 120)).ro)] [vI ((cfgN (1 + q % 120)).no), vI ((cfgN (1 + q % 120)).pc), vI ((cfgN (1 + q % 120)).wa), vI ((cfgN (1 + q % 120)).tr), vI ((cfgN (1 + q % 120)).ag), vI ((cfgN (1 + q % 120)).pg), vI ((cfgN (1 + q % 120)).ro)] rfl rfl rfl rfl rfl rfl (zn1 rfl) (zle rfl) rfl rfl rfl fun w4 hS => ?_
 refine zn (zx ?_)
 refine wp_ret ?_
 refine retc1 tbOk (fn := Tryz.f9) (cs := [vI ((cfgN (1 + q % 120)).no), vI ((cfgN (1 + q % 120)).pc), vI ((cfgN (1 + q % 120)).wa), vI ((cfgN (1 + q % 120)).tr), vI ((cfgN (1 + q % 120)).ag), vI ((cfgN (1 + q % 120)).pg), vI ((cfgN (1 + q % 120)).ro)]) hA rfl rfl rfl rfl rfl (cells_row (hS.heapAt 0 rfl) rfl) ?_
 replace hS := hS.d0
 exact ⟨rfl, hS⟩
theorem network20 {w0 w : World} {F : List Chunk} (hS : St w0 w F) {x : Int} {q : Nat} {s : SY} (hor : Go.bits .or .u8 x 31 = ((q : Nat) : Int)) (hq : q < 256) (hM : netM (1 + q % 120) = some s) :
 Ret Tryz.prog 20 #[.int .u8 x] w (fun v w' => ∃ b L, SYS w0 b (cutl (spread 400)) s L [] ∧ v = .tuple #[vP b 0, yT] ∧ St w0 w' (L :: [] :: F)) := by
 refine enter (vs := [.int .u8 x]) 21 Tryz.func20 rfl rfl (by simp) ?_; intro a hA
 refine zs (zr (zR 2 ((3, yF) :: (2, .pointer none) :: _) hA rfl fun a hA => zn (zx (zs (zr ?_)))))
 refine st_buildSlice tbOk hA hS [yI, .int .i64 1, .int .i64 2, .int .i64 3] rfl rfl rfl rfl rfl (by decide) (by kernel_rfl) rfl rfl (by decide) fun b1 w2 a hS hA => ?_
 refine zR 1 ((8, .int .u8 x) :: _) hA rfl fun a hA => ?_
 refine st_call0 hA rfl rfl rfl isfn9 rfl rfl (by decide) (config9 hS (q := q) hor hq) ?_
 clear hA hS; rintro _ w3 a ⟨rfl, hS⟩ hA
 refine st_call0 hA rfl rfl rfl isfn10 rfl rfl (by decide) (spread_10 hS 400 (by omega)) ?_
 clear hA hS; rintro _ w4 a ⟨As, cs, Cs, hOs, rfl, hS⟩ hA
 refine st_call0 hA rfl rfl rfl isfn8 rfl rfl (by decide) (of8 (ks := [0, 1, 2, 3]) (c := cfgN (1 + q % 120)) (ts := cutl (spread 400)) (ts0 := spread 400) (s := s) hS (fun w9 h9 => (Own.full (T := 29) (size := 1) (g := b1) (m := 4) (xs := rows encKi [0, 1, 2, 3]) rfl (by decide)).rd (h9.own_ 1 rfl)) (fun w9 h9 => hOs.rd (h9.own_ 0 rfl)) (by rw [spread_length]; decide) (by intro x hx; obtain ⟨k, hk, rfl⟩ := List.mem_map.1 hx; have := List.mem_range.1 hk; omega) rfl (by decide) (by decide) hM) ?_
 clear hA hS; rintro _ w5 a ⟨b, L, hY, rfl, hS⟩ hA
 refine zR 5 ((5, yN) :: (4, vP b 0) :: (13, yN) :: (12, vP b 0) :: (6, .tuple #[vP b 0, yN]) :: _) hA rfl fun a hA => zn (zx (zs (zr (zR 9 ((3, yT) :: (2, vP b 0) :: (20, yT) :: (19, yT) :: (18, vP b 0) :: (17, yT) :: (16, yT) :: (15, yN) :: (14, vP b 0) :: _) hA rfl fun a hA => zn (zx ?_)))))
 refine wp_ret ?_
 refine ret2 (fn := Tryz.f20) hA rfl rfl rfl ?_
 replace hS := hS.d3.d2
 exact ⟨_, _, hY, rfl, hS⟩
set_option maxHeartbeats 4000000 in
theorem trans18 {w0 w : World} {F : List Chunk} {b : Nat} {ts : List Nat} {s : SY} {L D : Chunk} {s' : SY} {r : MN} {ok : Bool} (hg : HG w0) (hS : St w0 w (L :: D :: F)) (hY : SYS w0 b ts s L D) (m : MN) {d : Value} (hd : RdSX w0 (D :: F) 1 d m.da.length (rows encB m.da)) (hM : transM ts s m = some (s', r, ok)) :
 Ret Tryz.prog 18 #[vP b 0, .agg #[vU m.to, vU m.rp, vW m.id, vH m.op, vH m.st, vU m.po, vW m.ob, vB m.ri, vU m.ck, vU m.ar, d]] w (fun v w' => ∃ L' D' A c, SYS w0 b ts s' L' D' ∧ DX w0 D D' ∧ DD w0 D' A c r.da ∧ v = .tuple #[.agg #[vU r.to, vU r.rp, vW r.id, vH r.op, vH r.st, vU r.po, vW r.ob, vB r.ri, vU r.ck, vU r.ar, .slice A r.da.length c], .bool ok] ∧ St w0 w' (L' :: D' :: F)) := by
 obtain ⟨B, d', rfl, hmd, hdx⟩ := (hd _ (hS.tail 1 rfl)).open'
 obtain ⟨s1, k, hcm, htr⟩ := transM_some hM
 obtain ⟨st, sr, st1, out, hx, hc, hsc, rfl, rfl⟩ := callM_some hcm
 refine enter (vs := [vP b 0, .agg #[vU m.to, vU m.rp, vW m.id, vH m.op, vH m.st, vU m.po, vW m.ob, vB m.ri, vU m.ck, vU m.ar, .slice B m.da.length d']]) 41 Tryz.func18 rfl rfl (by simp) ?_; intro a hA
 refine zs (zr ?_)
 refine st_box hA hS [vU m.to, vU m.rp, vW m.id, vH m.op, vH m.st, vU m.po, vW m.ob, vB m.ri, vU m.ck, vU m.ar, .slice B m.da.length d'] rfl rfl rfl rfl rfl (by decide) fun b1 w2 a hS hA => ?_
 refine st_alloc tbOk hA hS [yU, yU, yW, yH, yH, yU, yW, yB, yU, yU, yS] rfl rfl rfl rfl rfl (by decide) fun b3 w4 a hS hA => ?_
 refine zR 1 ((5, yF) :: _) hA rfl fun a hA => zn (zx (zs (zr (zR 1 ((12, vP b 0) :: _) hA rfl fun a hA => zLA hA hS 1 [vU m.to, vU m.rp, vW m.id, vH m.op, vH m.st, vU m.po, vW m.ob, vB m.ri, vU m.ck, vU m.ar, .slice B m.da.length d'] rfl rfl rfl rfl rfl rfl rfl rfl rfl rfl fun a hA => ?_))))
 replace hS := hS.m3.m3
 refine st_call0 hA rfl rfl rfl isfn12 rfl rfl (by decide) (scall12 hS hY (i := 0) hx m (fun w' h => hd _ (St.dmid (R := [[(b3, rowO [yU, yU, yW, yH, yH, yU, yW, yB, yU, yU, yS] 46)], [(b1, rowO [vU m.to, vU m.rp, vW m.id, vH m.op, vH m.st, vU m.po, vW m.ob, vB m.ri, vU m.ck, vU m.ar, .slice B m.da.length d'] 46)]]) h)) hc hsc) ?_
 clear hA hS; rintro _ w5 a ⟨L1, D1, hY1, hX1, rfl, hS⟩ hA
 refine zR 5 ((7, yN) :: (6, vW (st.ca.length + 1)) :: (16, yN) :: (15, vW (st.ca.length + 1)) :: (11, .tuple #[vW (st.ca.length + 1), yN]) :: _) hA rfl fun a hA => zn (zx (zs (zs (zr (zR 2 ((18, yF) :: (17, yN) :: _) hA rfl fun a hA => zn (zx (cd_cond_f hA rfl (zk (zx (zs (zs (zr (zR 1 ((20, yI) :: _) hA rfl fun a hA => zn (zx (zb ?_)))))))))))))))
 replace hS := hS.d3
 refine wp_loop_ghost (fun m a w => ∃ (j : Nat) (f' : Nat) (sj : SY) (L' : Chunk) (D' : Chunk), m = f' ∧ Has a 41 [(0, vP b 0), (4, vP b3 0), (6, vW (st.ca.length + 1)), (20, vI j)] ∧ St w0 w (L' :: D' :: [(b3, rowO [yU, yU, yW, yH, yH, yU, yW, yB, yU, yU, yS] 46)] :: F) ∧ (j + f' = 6) ∧ (transR ts f' sj st.ca.length = some (s', r, ok)) ∧ (SYS w0 b ts sj L' D') ∧ (DX w0 D D')) (6)
  ⟨0, 6, _, L1, D1, rfl, (hA.sel [0, 4, 6, 20] rfl), hS, rfl, htr, hY1, hX1⟩ ?_
 clear hA hS; rintro m0 a w6 ⟨j, f', sj, L', D', rfl, hA, hS, hj, hR, hY, hX⟩
 refine zs (zr ?_)
 rcases transR_cases hR with ⟨rfl, e1, e2, e3⟩ | ⟨f2, s2, d9, y, rfl, hst, hg0, ⟨h3, e1, e2, e3⟩ | ⟨h1, s3, htk, hM2⟩ | ⟨h3, h1, e1, e2, e3⟩⟩
 · refine zR 1 ((21, .bool (decide (((j : Nat) : Int) < 6))) :: _) hA rfl fun a hA => zn (zx (zs ?_))
   have hc7 : ¬ (((j : Nat) : Int) < 6) := by omega
   replace hA := hA.rw 21 (v' := yF) rfl (vb_false hc7)
   refine cd_cond_f hA rfl ?_
   refine wp_exit ?_
   refine xt_exit (xt_exit (cd_exit_eq (zx (zs (zr (st_val hA rfl rfl (by decide) (rn_build tbOk hA rfl rfl rfl rfl rfl rfl rfl) fun a hA => ?_))))))
   replace hS := hS.m2
   refine st_store tbOk hA hS [yU, yU, yW, yH, yH, yU, yW, yB, yU, yU, yS] [yU, yU, yW, yH, yH, yU, yW, yB, yU, yU, yS] rfl rfl rfl rfl rfl rfl (zn1 rfl) (zle rfl) rfl rfl rfl fun w8 hS => ?_
   refine zR 1 ((5, yF) :: _) hA rfl fun a hA => zn (zx ?_)
   refine wp_ret ?_
   refine retc2 tbOk (fn := Tryz.f18) (cs := [yU, yU, yW, yH, yH, yU, yW, yB, yU, yU, yS]) hA rfl rfl rfl rfl rfl rfl (cells_row (hS.heapAt 0 rfl) rfl) ?_
   rw [e1, e2, e3]
   replace hS := hS.d0
   exact ⟨_, _, none, 0, hY, hX, DD.nil, rfl, hS⟩
 · refine zR 1 ((21, .bool (decide (((j : Nat) : Int) < 6))) :: _) hA rfl fun a hA => zn (zx (zs ?_))
   have hc9 : ((j : Nat) : Int) < 6 := by omega
   replace hA := hA.rw 21 (v' := yT) rfl (vb_true hc9)
   refine cd_cond_t hA rfl (zk (zx (zs (zb (zs (zr (zR 1 ((22, vP b 0) :: _) hA rfl fun a hA => ?_)))))))
   replace hS := hS.m1.m1
   refine st_call0 hA rfl rfl rfl isfn19 rfl rfl (by decide) (settle19 hg hS hY hst (by decide)) ?_
   clear hA hS; rintro _ w10 a ⟨L2, D2, hY2, hX2, rfl, hS⟩ hA
   refine zn (zx (zs (zs (zr (zR 2 ((26, vW (st.ca.length + 1)) :: (25, vP b 0) :: _) hA rfl fun a hA => ?_)))))
   replace hS := hS.m1.m1
   obtain ⟨st9, sr9, g1, g2, g3, g4⟩ := get0M_some hg0
   refine st_call0 hA rfl rfl rfl isfn16 rfl rfl (by decide) (sget_failed16 hS hY2 (i := 0) g1 g2 g3 g4 h3) ?_
   clear hA hS; rintro _ w11 a ⟨L3, hY3, rfl, hS⟩ hA
   refine zR 4 ((30, .iface 55 (.int .i64 10)) :: (29, .agg #[yU, yU, yW, yH, yH, yU, yW, yB, yU, yU, yS]) :: (28, .int .i64 3) :: (24, .tuple #[.int .i64 3, .agg #[yU, yU, yW, yH, yH, yU, yW, yB, yU, yU, yS], .iface 55 (.int .i64 10)]) :: _) hA rfl fun a hA => ?_
   refine st_alloc tbOk hA hS [yU, yU, yW, yH, yH, yU, yW, yB, yU, yU, yS] rfl rfl rfl rfl rfl (by decide) fun b12 w13 a hS hA => ?_
   refine zR 1 ((8, .int .i64 3) :: _) hA rfl fun a hA => ?_
   refine st_store tbOk hA hS [yU, yU, yW, yH, yH, yU, yW, yB, yU, yU, yS] [yU, yU, yW, yH, yH, yU, yW, yB, yU, yU, yS] rfl rfl rfl rfl rfl rfl (zn1 rfl) (zle rfl) rfl rfl rfl fun w14 hS => ?_
   refine zR 1 ((10, .iface 55 (.int .i64 10)) :: _) hA rfl fun a hA => zn (zx (zs (zr (zR 2 ((32, yT) :: (31, .int .i64 3) :: _) hA rfl fun a hA => zn (zx (cd_cond_t hA rfl (zs ?_)))))))
   replace hS := hS.m3
   refine zD1 hS [] [(0, true), (1, true), (2, true), (3, false), (4, true)] mixed (by kernel_rfl) (by rintro c a w ⟨_, _, h, _⟩; cases h) (by rfl) (by kernel_rfl) ?_
   replace hS := hS.drew
   refine zYA hA (hS.tail 1 rfl) 0 [yU, yU, yW, yH, yH, yU, yW, yB, yU, yU, yS] rfl rfl rfl rfl rfl rfl rfl rfl rfl rfl rfl fun a hA => zW 2 ((35, yF) :: (34, .iface 55 (.int .i64 10)) :: _) hA (hS.tail 1 rfl) rfl fun a hA => dr_b (o := _) rfl ?_
   refine st_store tbOk hA hS [yU, yU, yW, yH, yH, yU, yW, yB, yU, yU, yS] [yU, yU, yW, yH, yH, yU, yW, yB, yU, yU, yS] rfl rfl rfl rfl rfl rfl (zn1 rfl) (zle rfl) rfl rfl rfl fun w15 hS => ?_
   refine zi (hS.tail 1 rfl) (zW 1 ((5, yF) :: _) hA (hS.tail 1 rfl) rfl fun a hA => ze (zx ?_))
   refine wp_ret (xt_ret (xb_ret (xt_ret (xt_ret (xb_ret (xt_ret ?_))))))
   refine retc2 tbOk (fn := Tryz.f18) (cs := [yU, yU, yW, yH, yH, yU, yW, yB, yU, yU, yS]) hA rfl rfl rfl rfl rfl rfl (cells_row (hS.heapAt 0 rfl) rfl) ?_
   rw [e1, e2, e3]
   replace hS := hS.d1.d0
   exact ⟨_, _, none, 0, hY3, (hX.trans hX2), DD.nil, rfl, hS⟩
 · refine zR 1 ((21, .bool (decide (((j : Nat) : Int) < 6))) :: _) hA rfl fun a hA => zn (zx (zs ?_))
   have hc16 : ((j : Nat) : Int) < 6 := by omega
   replace hA := hA.rw 21 (v' := yT) rfl (vb_true hc16)
   refine cd_cond_t hA rfl (zk (zx (zs (zb (zs (zr (zR 1 ((22, vP b 0) :: _) hA rfl fun a hA => ?_)))))))
   replace hS := hS.m1.m1
   refine st_call0 hA rfl rfl rfl isfn19 rfl rfl (by decide) (settle19 hg hS hY hst (by decide)) ?_
   clear hA hS; rintro _ w17 a ⟨L2, D2, hY2, hX2, rfl, hS⟩ hA
   refine zn (zx (zs (zs (zr (zR 2 ((26, vW (st.ca.length + 1)) :: (25, vP b 0) :: _) hA rfl fun a hA => ?_)))))
   replace hS := hS.m1.m1
   obtain ⟨st9, sr9, g1, g2, g3, g4⟩ := get0M_some hg0
   refine st_call0 hA rfl rfl rfl isfn16 rfl rfl (by decide) (sget_ok16 hS hY2 (i := 0) g1 g2 g3 g4 (by omega)) ?_
   clear hA hS; rintro _ w18 a ⟨L3, E3, A3, c3, hY3, hE3, rfl, hS⟩ hA
   refine zR 4 ((30, yN) :: (29, .agg #[vU y.rp.to, vU y.rp.rp, vW y.rp.id, vH y.rp.op, vH y.rp.st, vU y.rp.po, vW y.rp.ob, vB y.rp.ri, vU y.rp.ck, vU y.rp.ar, .slice A3 y.rp.da.length c3]) :: (28, vI y.st) :: (24, .tuple #[vI y.st, .agg #[vU y.rp.to, vU y.rp.rp, vW y.rp.id, vH y.rp.op, vH y.rp.st, vU y.rp.po, vW y.rp.ob, vB y.rp.ri, vU y.rp.ck, vU y.rp.ar, .slice A3 y.rp.da.length c3], yN]) :: _) hA rfl fun a hA => ?_
   refine st_alloc tbOk hA hS [yU, yU, yW, yH, yH, yU, yW, yB, yU, yU, yS] rfl rfl rfl rfl rfl (by decide) fun b19 w20 a hS hA => ?_
   refine zR 1 ((8, vI y.st) :: _) hA rfl fun a hA => ?_
   refine st_store tbOk hA hS [vU y.rp.to, vU y.rp.rp, vW y.rp.id, vH y.rp.op, vH y.rp.st, vU y.rp.po, vW y.rp.ob, vB y.rp.ri, vU y.rp.ck, vU y.rp.ar, .slice A3 y.rp.da.length c3] [vU y.rp.to, vU y.rp.rp, vW y.rp.id, vH y.rp.op, vH y.rp.st, vU y.rp.po, vW y.rp.ob, vB y.rp.ri, vU y.rp.ck, vU y.rp.ar, .slice A3 y.rp.da.length c3] rfl rfl rfl rfl rfl rfl (zn1 rfl) (zle rfl) rfl rfl rfl fun w21 hS => ?_
   refine zR 1 ((10, yN) :: _) hA rfl fun a hA => zn (zx (zs (zr (zR 2 ((32, .bool (((y.st : Nat) : Int) != 1)) :: (31, vI y.st) :: _) hA rfl fun a hA => zn (zx ?_)))))
   have hc22 : ((y.st : Nat) : Int) = 1 := by omega
   replace hA := hA.rw 32 (v' := yF) rfl (vb_ne_f hc22)
   refine cd_cond_f hA rfl (zk (zx (zr (zR 2 ((37, .agg #[.int .u8 4, yI, yI]) :: (36, vP b 0) :: _) hA rfl fun a hA => ?_))))
   replace hS := hS.m2.m2
   refine st_call0 hA rfl rfl rfl isfn15 rfl rfl (by decide) (do_tick15 hS hY3 htk) ?_
   clear hA hS; rintro _ w23 a ⟨L4, D4, hY4, hX4, rfl, hS⟩ hA
   refine zn (zm (zx (zr (zR 1 ((39, .int .i64 (IntKind.i64.wrap (((j : Nat) : Int) + 1))) :: _) hA rfl fun a hA => ?_))))
   replace hA := hA.rw 39 (v' := vI (j + 1)) rfl (wr64 (by omega) (by omega) (by omega))
   refine zR 1 ((20, vI (j + 1)) :: _) hA rfl fun a hA => zn ?_
   replace hS := hS.d2
   exact lp_next _ (by omega) ⟨(j + 1), f2, s3, L4, D4, rfl, (hA.sel [0, 4, 6, 20] rfl), hS, by omega, hM2, hY4, ((hX.trans hX2).trans (DX.refl.step.trans hX4))⟩
 · refine zR 1 ((21, .bool (decide (((j : Nat) : Int) < 6))) :: _) hA rfl fun a hA => zn (zx (zs ?_))
   have hc24 : ((j : Nat) : Int) < 6 := by omega
   replace hA := hA.rw 21 (v' := yT) rfl (vb_true hc24)
   refine cd_cond_t hA rfl (zk (zx (zs (zb (zs (zr (zR 1 ((22, vP b 0) :: _) hA rfl fun a hA => ?_)))))))
   replace hS := hS.m1.m1
   refine st_call0 hA rfl rfl rfl isfn19 rfl rfl (by decide) (settle19 hg hS hY hst (by decide)) ?_
   clear hA hS; rintro _ w25 a ⟨L2, D2, hY2, hX2, rfl, hS⟩ hA
   refine zn (zx (zs (zs (zr (zR 2 ((26, vW (st.ca.length + 1)) :: (25, vP b 0) :: _) hA rfl fun a hA => ?_)))))
   replace hS := hS.m1.m1
   obtain ⟨st9, sr9, g1, g2, g3, g4⟩ := get0M_some hg0
   refine st_call0 hA rfl rfl rfl isfn16 rfl rfl (by decide) (sget_ok16 hS hY2 (i := 0) g1 g2 g3 g4 h3) ?_
   clear hA hS; rintro _ w26 a ⟨L3, E3, A3, c3, hY3, hE3, rfl, hS⟩ hA
   refine zR 4 ((30, yN) :: (29, .agg #[vU y.rp.to, vU y.rp.rp, vW y.rp.id, vH y.rp.op, vH y.rp.st, vU y.rp.po, vW y.rp.ob, vB y.rp.ri, vU y.rp.ck, vU y.rp.ar, .slice A3 y.rp.da.length c3]) :: (28, vI y.st) :: (24, .tuple #[vI y.st, .agg #[vU y.rp.to, vU y.rp.rp, vW y.rp.id, vH y.rp.op, vH y.rp.st, vU y.rp.po, vW y.rp.ob, vB y.rp.ri, vU y.rp.ck, vU y.rp.ar, .slice A3 y.rp.da.length c3], yN]) :: _) hA rfl fun a hA => ?_
   refine st_alloc tbOk hA hS [yU, yU, yW, yH, yH, yU, yW, yB, yU, yU, yS] rfl rfl rfl rfl rfl (by decide) fun b27 w28 a hS hA => ?_
   refine zR 1 ((8, vI y.st) :: _) hA rfl fun a hA => ?_
   refine st_store tbOk hA hS [vU y.rp.to, vU y.rp.rp, vW y.rp.id, vH y.rp.op, vH y.rp.st, vU y.rp.po, vW y.rp.ob, vB y.rp.ri, vU y.rp.ck, vU y.rp.ar, .slice A3 y.rp.da.length c3] [vU y.rp.to, vU y.rp.rp, vW y.rp.id, vH y.rp.op, vH y.rp.st, vU y.rp.po, vW y.rp.ob, vB y.rp.ri, vU y.rp.ck, vU y.rp.ar, .slice A3 y.rp.da.length c3] rfl rfl rfl rfl rfl rfl (zn1 rfl) (zle rfl) rfl rfl rfl fun w29 hS => ?_
   refine zR 1 ((10, yN) :: _) hA rfl fun a hA => zn (zx (zs (zr (zR 2 ((32, .bool (((y.st : Nat) : Int) != 1)) :: (31, vI y.st) :: _) hA rfl fun a hA => zn (zx ?_)))))
   have hc30 : ¬ (((y.st : Nat) : Int) = 1) := by omega
   replace hA := hA.rw 32 (v' := yT) rfl (vb_ne_t hc30)
   refine cd_cond_t hA rfl (zs ?_)
   replace hS := hS.m3
   refine zD1 hS [] [(0, true), (1, true), (2, true), (3, false), (4, true)] mixed (by kernel_rfl) (by rintro c a w ⟨_, _, h, _⟩; cases h) (by rfl) (by kernel_rfl) ?_
   replace hS := hS.drew
   refine zYA hA (hS.tail 1 rfl) 0 [vU y.rp.to, vU y.rp.rp, vW y.rp.id, vH y.rp.op, vH y.rp.st, vU y.rp.po, vW y.rp.ob, vB y.rp.ri, vU y.rp.ck, vU y.rp.ar, .slice A3 y.rp.da.length c3] rfl rfl rfl rfl rfl rfl rfl rfl rfl rfl rfl fun a hA => zW 2 ((35, yT) :: (34, yN) :: _) hA (hS.tail 1 rfl) rfl fun a hA => dr_b (o := _) rfl ?_
   refine st_store tbOk hA hS [vU y.rp.to, vU y.rp.rp, vW y.rp.id, vH y.rp.op, vH y.rp.st, vU y.rp.po, vW y.rp.ob, vB y.rp.ri, vU y.rp.ck, vU y.rp.ar, .slice A3 y.rp.da.length c3] [vU y.rp.to, vU y.rp.rp, vW y.rp.id, vH y.rp.op, vH y.rp.st, vU y.rp.po, vW y.rp.ob, vB y.rp.ri, vU y.rp.ck, vU y.rp.ar, .slice A3 y.rp.da.length c3] rfl rfl rfl rfl rfl rfl (zn1 rfl) (zle rfl) rfl rfl rfl fun w31 hS => ?_
   refine zi (hS.tail 1 rfl) (zW 1 ((5, yT) :: _) hA (hS.tail 1 rfl) rfl fun a hA => ze (zx ?_))
   refine wp_ret (xt_ret (xb_ret (xt_ret (xt_ret (xb_ret (xt_ret ?_))))))
   refine retc2 tbOk (fn := Tryz.f18) (cs := [vU y.rp.to, vU y.rp.rp, vW y.rp.id, vH y.rp.op, vH y.rp.st, vU y.rp.po, vW y.rp.ob, vB y.rp.ri, vU y.rp.ck, vU y.rp.ar, .slice A3 y.rp.da.length c3]) hA rfl rfl rfl rfl rfl rfl (cells_row (hS.heapAt 0 rfl) rfl) ?_
   rw [e1, e2, e3]
   replace hS := hS.d1.d0
   exact ⟨_, _, _, _, hY3, ((hX.trans hX2).trans DX.refl.step), DD.right hE3, rfl, hS⟩
end Go.Proofs.YthiakdmhpfkjbaaGreatDoor

set_option linter.unusedVariables false
set_option linter.unusedSimpArgs false
set_option maxRecDepth 4000
namespace Go.Proofs.YthiakdmhpfkjbaaGreatDoor
open Go Go.SK
def upM (s : SY) (i : Nat) : Option NC :=
  match (s.nx[i]? : Option NX) with
  | some (.up st _) => some st.c
  | _ => none
theorem upM_some {s : SY} {i : Nat} {c : NC} (h : upM s i = some c) : ∃ st sr, s.nx[i]? = some (.up st sr) ∧ st.c = c := by
  rw [upM] at h
  cases hx : s.nx[i]? with
  | none => rw [hx] at h; cases h
  | some x =>
    cases x with
    | down c => rw [hx] at h; cases h
    | up st sr => rw [hx] at h; injection h with h; exact ⟨st, sr, rfl, h⟩
def mkM (po ob ri ck : Nat) (da : List UInt8) : MN := ⟨po, 0, 0, 100, 0, po, ob, ri, ck, 0, da⟩
def rdM (po ob ri ck p n : Nat) : MN := ⟨po, 0, 0, 101, 0, po, ob, ri, ck, p * 4294967296 + n, []⟩
end Go.Proofs.YthiakdmhpfkjbaaGreatDoor

set_option linter.unusedVariables false
set_option linter.unusedSimpArgs false
set_option maxRecDepth 4000
namespace Go.Proofs.YthiakdmhpfkjbaaGreatDoor
open Go Go.SK
def awM : Option Unit :=
  (netM 8).bind fun s0 => (upM s0 3).bind fun c => (transM (cutl (spread 400)) s0 (mkM c.r0 c.r1 c.r2 c.r3 [120, 121, 122])).bind fun x =>
  (transM (cutl (spread 400)) x.1 (rdM x.2.1.po x.2.1.ob x.2.1.ri x.2.1.ck 1 2)).bind fun y => if ¬ c.port = 0 ∧ x.2.2 = true ∧ y.2.2 = true ∧ y.2.1.da = [121, 122] then some () else none
theorem awM_is : awM = some () := by kernel_rfl
theorem awM_ex : ∃ s0 c s1 r1 s2 r2, netM 8 = some s0 ∧ upM s0 3 = some c ∧ transM (cutl (spread 400)) s0 (mkM c.r0 c.r1 c.r2 c.r3 [120, 121, 122]) = some (s1, r1, true) ∧ transM (cutl (spread 400)) s1 (rdM r1.po r1.ob r1.ri r1.ck 1 2) = some (s2, r2, true) ∧ ¬ c.port = 0 ∧ r2.da = [121, 122] := by
  have h := awM_is
  unfold awM at h
  obtain ⟨s0, h1, h⟩ := Option.bind_eq_some_iff.1 h
  obtain ⟨c, h2, h⟩ := Option.bind_eq_some_iff.1 h
  obtain ⟨⟨s1, r1, o1⟩, h3, h⟩ := Option.bind_eq_some_iff.1 h
  obtain ⟨⟨s2, r2, o2⟩, h4, h⟩ := Option.bind_eq_some_iff.1 h
  dsimp only at h h4
  by_cases hc : ¬ c.port = 0 ∧ o1 = true ∧ o2 = true ∧ r2.da = [121, 122]
  · obtain ⟨a, rfl, rfl, b⟩ := hc
    exact ⟨s0, c, s1, r1, s2, r2, h1, h2, h3, h4, a, b⟩
  · rw [if_neg hc] at h; cases h
set_option maxHeartbeats 4000000 in
theorem awake7 {w0 w : World} {F : List Chunk} (hg : HG w0) (hS : St w0 w F) :
 Ret Tryz.prog 7 #[] w (fun v w' => v = yT ∧ St w0 w' F) := by
 obtain ⟨s0, c, s1, r1, s2, r2, h1, h2, h3, h4, hp, hda⟩ := awM_ex
 refine enter (vs := []) 50 Tryz.func7 rfl rfl (by simp) ?_; intro a hA
 refine zs (zr (zR 1 ((0, yF) :: _) hA rfl fun a hA => zn (zx (zs (zr ?_)))))
 refine st_call0 hA rfl rfl rfl isfn20 rfl rfl (by decide) (network20 hS (q := 127) (s := s0) (by rfl) (by decide) h1) ?_
 clear hA hS; rintro _ w1 a ⟨b2, L3, hY4, rfl, hS⟩ hA
 refine zR 5 ((2, yT) :: (1, vP b2 0) :: (12, yT) :: (11, vP b2 0) :: (9, .tuple #[vP b2 0, yT]) :: _) hA rfl fun a hA => zn (zx (zs (zs (zr (zR 2 ((14, yF) :: (13, yT) :: _) hA rfl fun a hA => zn (zx (cd_cond_f hA rfl (zk (zx (zs (zr (zR 1 ((16, vP b2 0) :: _) hA rfl fun a hA => ?_))))))))))))
 replace hS := hS.m1.m1
 obtain ⟨st6, sr7, hu8, hc9⟩ := upM_some h2
 refine st_call0 hA rfl rfl rfl isfn11 rfl rfl (by decide) (sroot11 hS hY4 (i := 3) hu8) ?_
 rw [hc9]
 clear hA hS; rintro _ w5 a ⟨L10, hY11, rfl, hS⟩ hA
 refine zR 3 ((19, .bool (((c.port : Nat) : Int) != 0)) :: (18, .agg #[vU c.r0, vW c.r1, vB c.r2, vU c.r3]) :: (15, .tuple #[.agg #[vU c.r0, vW c.r1, vB c.r2, vU c.r3], .bool (((c.port : Nat) : Int) != 0)]) :: _) hA rfl fun a hA => ?_
 refine st_alloc tbOk hA hS [yU, yW, yB, yU] rfl rfl rfl rfl rfl (by decide) fun b13 w14 a hS hA => ?_
 refine st_store tbOk hA hS [vU c.r0, vW c.r1, vB c.r2, vU c.r3] [vU c.r0, vW c.r1, vB c.r2, vU c.r3] rfl rfl rfl rfl rfl rfl (zn1 rfl) (zle rfl) rfl rfl rfl fun w15 hS => ?_
 replace hA := hA.rw 19 (v' := yT) rfl (vbool (by rw [bne_iff_ne]; exact fun h => hp (Int.ofNat.inj h)))
 refine zR 1 ((4, yT) :: _) hA rfl fun a hA => zn (zx (zs (zr (zR 1 ((21, vP b2 0) :: _) hA rfl fun a hA => zLA hA hS 0 [vU c.r0, vW c.r1, vB c.r2, vU c.r3] rfl rfl rfl rfl rfl rfl rfl rfl rfl rfl fun a hA => ?_))))
 refine st_buildSlice tbOk hA hS [.int .u8 120, .int .u8 121, .int .u8 122] rfl rfl rfl rfl rfl (by decide) (by kernel_rfl) rfl rfl (by decide) fun b16 w17 a hS hA => ?_
 refine st_mark tbOk hA ([120, 121, 122] : List UInt8) hS rfl rfl rfl rfl rfl rfl rfl rfl (by decide) (by decide) (by decide) fun C18 w19 a hDC18 hS hA => ?_
 refine st_call0 hA rfl rfl rfl isfn13 rfl rfl (by decide) (stmake13 hS c.r0 c.r1 c.r2 c.r3 (da := ([120, 121, 122] : List UInt8)) (fun w' h => ((hDC18 _ (h.only 0 rfl))).x) (by first | omega | exact Nat.zero_le _ | (simp only [List.length_take, List.drop_zero]; omega) | decide)) ?_
 clear hA hS; rintro _ w20 a ⟨Am21, cm22, Cm23, hm24, rfl, hS⟩ hA
 replace hS := hS.m4.m4
 refine st_call0 hA rfl rfl rfl isfn18 rfl rfl (by decide) (trans18 hg hS hY11 (mkM c.r0 c.r1 c.r2 c.r3 ([120, 121, 122] : List UInt8)) (fun w9 h9 => (hm24.rd (h9.own_ 1 rfl)).x) h3) ?_
 clear hA hS; rintro _ w25 a ⟨L29, D31, Ar26, cr27, hY30, hX32, hr28, rfl, hS⟩ hA
 refine zR 3 ((28, yT) :: (27, .agg #[vU r1.to, vU r1.rp, vW r1.id, vH r1.op, vH r1.st, vU r1.po, vW r1.ob, vB r1.ri, vU r1.ck, vU r1.ar, .slice Ar26 r1.da.length cr27]) :: (20, .tuple #[.agg #[vU r1.to, vU r1.rp, vW r1.id, vH r1.op, vH r1.st, vU r1.po, vW r1.ob, vB r1.ri, vU r1.ck, vU r1.ar, .slice Ar26 r1.da.length cr27], yT]) :: _) hA rfl fun a hA => ?_
 refine st_alloc tbOk hA hS [yU, yU, yW, yH, yH, yU, yW, yB, yU, yU, yS] rfl rfl rfl rfl rfl (by decide) fun b33 w34 a hS hA => ?_
 refine st_store tbOk hA hS [vU r1.to, vU r1.rp, vW r1.id, vH r1.op, vH r1.st, vU r1.po, vW r1.ob, vB r1.ri, vU r1.ck, vU r1.ar, .slice Ar26 r1.da.length cr27] [vU r1.to, vU r1.rp, vW r1.id, vH r1.op, vH r1.st, vU r1.po, vW r1.ob, vB r1.ri, vU r1.ck, vU r1.ar, .slice Ar26 r1.da.length cr27] rfl rfl rfl rfl rfl rfl (zn1 rfl) (zle rfl) rfl rfl rfl fun w35 hS => ?_
 refine zR 1 ((6, yT) :: _) hA rfl fun a hA => zn (zx (zs (zr (zR 2 ((31, vP b33 5) :: (30, vP b2 0) :: _) hA rfl fun a hA => zLA hA hS 0 [vU r1.po, vW r1.ob, vB r1.ri, vU r1.ck] rfl rfl rfl rfl rfl rfl rfl rfl rfl rfl fun a hA => ?_))))
 refine st_call0 hA rfl rfl rfl isfn25 rfl rfl (by decide) (stread25 hS r1.po r1.ob r1.ri r1.ck (p := 1) (n := 2) (by omega) (by omega)) ?_
 clear hA hS; rintro _ w36 a ⟨Am37, cm38, Cm39, hm40, rfl, hS⟩ hA
 replace hS := hS.m3.m3
 refine st_call0 hA rfl rfl rfl isfn18 rfl rfl (by decide) (trans18 hg hS hY30 (rdM r1.po r1.ob r1.ri r1.ck 1 2) (fun w9 h9 => (hm40.rd (h9.own_ 1 rfl)).x) h4) ?_
 clear hA hS; rintro _ w41 a ⟨L45, D47, Ar42, cr43, hY46, hX48, hr44, rfl, hS⟩ hA
 refine zR 3 ((36, yT) :: (35, .agg #[vU r2.to, vU r2.rp, vW r2.id, vH r2.op, vH r2.st, vU r2.po, vW r2.ob, vB r2.ri, vU r2.ck, vU r2.ar, .slice Ar42 r2.da.length cr43]) :: (29, .tuple #[.agg #[vU r2.to, vU r2.rp, vW r2.id, vH r2.op, vH r2.st, vU r2.po, vW r2.ob, vB r2.ri, vU r2.ck, vU r2.ar, .slice Ar42 r2.da.length cr43], yT]) :: _) hA rfl fun a hA => ?_
 refine st_alloc tbOk hA hS [yU, yU, yW, yH, yH, yU, yW, yB, yU, yU, yS] rfl rfl rfl rfl rfl (by decide) fun b49 w50 a hS hA => ?_
 refine st_store tbOk hA hS [vU r2.to, vU r2.rp, vW r2.id, vH r2.op, vH r2.st, vU r2.po, vW r2.ob, vB r2.ri, vU r2.ck, vU r2.ar, .slice Ar42 r2.da.length cr43] [vU r2.to, vU r2.rp, vW r2.id, vH r2.op, vH r2.st, vU r2.po, vW r2.ob, vB r2.ri, vU r2.ck, vU r2.ar, .slice Ar42 r2.da.length cr43] rfl rfl rfl rfl rfl rfl (zn1 rfl) (zle rfl) rfl rfl rfl fun w51 hS => ?_
 refine zR 1 ((8, yT) :: _) hA rfl fun a hA => zn (zx (zs (zr (zR 9 ((45, vP b49 10) :: (44, yT) :: (43, yT) :: (42, yT) :: (41, yT) :: (40, yT) :: (39, yT) :: (38, yT) :: (37, yT) :: _) hA rfl fun a hA => zL hA hS 0 rfl rfl rfl rfl rfl rfl rfl rfl rfl fun a hA => st_val hA rfl rfl (by decide) (rn_bstr tbOk hA (bs := r2.da) rfl rfl rfl rfl rfl rfl rfl rfl (hr44 _ (hS.only 2 rfl))) fun a hA => zR 1 ((48, .bool ((bsv r2.da).toList == (⟨#[121, 122]⟩ : ByteArray).toList)) :: _) hA rfl fun a hA => ?_))))
 replace hA := hA.rw 48 (v' := yT) rfl (vbool (by rw [hda]; exact (bsv_eq [121, 122] [121, 122]).trans (by decide)))
 refine zR 2 ((0, yT) :: (49, yT) :: _) hA rfl fun a hA => zn (zx ?_)
 refine wp_ret ?_
 refine ret1 (fn := Tryz.f7) hA rfl rfl ?_
 replace hS := hS.d0.d0.d0.d0.d0.d0.d0.d0
 exact ⟨rfl, hS⟩
end Go.Proofs.YthiakdmhpfkjbaaGreatDoor

set_option linter.unusedVariables false
set_option linter.unusedSimpArgs false
set_option maxRecDepth 4000
namespace Go.Proofs.YthiakdmhpfkjbaaGreatDoor
open Go Go.SK
theorem encM_drop (m : MN) : (encM m).drop 46 = m.da := by
  rw [encM]
  exact List.drop_left' (by simp only [List.length_append, be_length, capb_length])
theorem decM_enc {m : MN} (h : m.ok) : decM (encM m) = some m := by
  have hl := encM_length m
  have hd : (encM m).drop 46 = m.da := encM_drop m
  have e5 : beval (bsub (encM m) 20 6) = m.po := beval_at (p := be 6 m.to ++ be 6 m.rp ++ be 4 m.id ++ be 2 m.op ++ be 2 m.st) (x := be 6 m.po) (by simp only [encM, capb, List.append_assoc]; rfl) (by simp [be_length]) rfl h.2.2.2.2.2.1
  have e6 : beval (bsub (encM m) 26 3) = m.ob := beval_at (p := be 6 m.to ++ be 6 m.rp ++ be 4 m.id ++ be 2 m.op ++ be 2 m.st ++ be 6 m.po) (x := be 3 m.ob) (by simp only [encM, capb, List.append_assoc]; rfl) (by simp [be_length]) rfl h.2.2.2.2.2.2.1
  have e7 : beval (bsub (encM m) 29 1) = m.ri := beval_at (p := be 6 m.to ++ be 6 m.rp ++ be 4 m.id ++ be 2 m.op ++ be 2 m.st ++ be 6 m.po ++ be 3 m.ob) (x := be 1 m.ri) (by simp only [encM, capb, List.append_assoc]; rfl) (by simp [be_length]) rfl h.2.2.2.2.2.2.2.1
  have e8 : beval (bsub (encM m) 30 6) = m.ck := beval_at (p := be 6 m.to ++ be 6 m.rp ++ be 4 m.id ++ be 2 m.op ++ be 2 m.st ++ be 6 m.po ++ be 3 m.ob ++ be 1 m.ri) (x := be 6 m.ck) (by simp only [encM, capb, List.append_assoc]; rfl) (by simp [be_length]) rfl h.2.2.2.2.2.2.2.2.1
  have hk := h.2.2.2.2.2.2.2.2.2.2
  rw [decM_eq, if_pos ⟨by rw [List.length_drop]; omega, by rw [hd, dec_ln m h], by rw [hd]; exact hk⟩]
  rw [decR, dec_to m h, dec_rp m h, dec_id m h, dec_op m h, dec_st m h, dec_ar m h, hd, e5, e6, e7, e8]
theorem pcs_flat (l : List UInt8) (s : Nat) : ∀ j : Nat, ((List.range j).map (piece l s)).flatten = l.take (j * s)
  | 0 => by simp
  | j + 1 => by
    rw [List.range_succ, List.map_append, List.flatten_append, pcs_flat l s j]
    simp only [List.map_cons, List.map_nil, List.flatten_cons, List.flatten_nil, List.append_nil, piece_eq]
    rw [Nat.succ_mul, List.take_add]
theorem nP_ge {l : List UInt8} {s : Nat} (hs : 1 ≤ s) : l.length ≤ nP l s * s := by
  have h1 := Nat.div_add_mod (l.length + s - 1) s
  have h2 := Nat.mod_lt (l.length + s - 1) hs
  have h3 : (l.length + s - 1) / s * s ≤ nP l s * s := Nat.mul_le_mul_right _ (by unfold nP; omega)
  rw [Nat.mul_comm] at h1
  omega
theorem hs_set {n j : Nat} (h : j < n) : (List.replicate j true ++ List.replicate (n - j) false).set j true = List.replicate (j + 1) true ++ List.replicate (n - (j + 1)) false := by
  obtain ⟨q, hq⟩ : ∃ q, n - j = q + 1 := ⟨n - j - 1, by omega⟩
  rw [List.set_append_right _ _ (by simp), List.length_replicate, Nat.sub_self, hq, List.replicate_succ, List.set_cons_zero, show n - (j + 1) = q by omega, List.replicate_succ', List.append_assoc]
  rfl
theorem ds_set {l : List UInt8} {s n j : Nat} (h : j < n) : ((List.range j).map (piece l s) ++ List.replicate (n - j) []).set j (piece l s j) = (List.range (j + 1)).map (piece l s) ++ List.replicate (n - (j + 1)) [] := by
  obtain ⟨q, hq⟩ : ∃ q, n - j = q + 1 := ⟨n - j - 1, by omega⟩
  rw [List.set_append_right _ _ (by simp), List.length_map, List.length_range, Nat.sub_self, hq, List.replicate_succ, List.set_cons_zero, show n - (j + 1) = q by omega, List.range_succ, List.map_append, List.append_assoc]
  rfl
theorem hs_get {n j : Nat} (h : j < n) : (List.replicate j true ++ List.replicate (n - j) false)[j]? = some false := by
  rw [List.getElem?_append_right (by simp), List.length_replicate, Nat.sub_self]
  obtain ⟨q, hq⟩ : ∃ q, n - j = q + 1 := ⟨n - j - 1, by omega⟩
  rw [hq]; rfl
theorem hs_any {n j : Nat} (h : j < n) : (List.replicate j true ++ List.replicate (n - j) false).any (fun y => y == false) = true := by
  obtain ⟨q, hq⟩ : ∃ q, n - j = q + 1 := ⟨n - j - 1, by omega⟩
  rw [List.any_append, hq, List.replicate_succ, List.any_cons]; simp
theorem hs_all {n : Nat} : (List.replicate n true ++ List.replicate (n - n) false).any (fun y => y == false) = false := by
  rw [Nat.sub_self]; simp
def gsj (l : List UInt8) (fr to id s j : Nat) : List GV := if j = 0 then [] else [(((fr : Nat) : Int), ((to : Nat) : Int), ((id : Nat) : Int), List.replicate j true ++ List.replicate (nP l s - j) false, (List.range j).map (piece l s) ++ List.replicate (nP l s - j) [])]
theorem gadd_j {l : List UInt8} {fr to id s j : Nat} (hn : nP l s ≤ 256) (hs : s ≤ 32768) (hj : j + 1 < nP l s) : gaddM (gsj l fr to id s j) ⟨fr, to, id, j, nP l s, piece l s j⟩ = some (gsj l fr to id s (j + 1), none) := by
  have hp := piece_le l s j
  have h1 : j < nP l s := by omega
  have a1 := hs_any (n := nP l s) (j := j + 1) hj
  rw [gaddM, if_pos ⟨h1, hn, (by show (piece l s j).length ≤ 32768; omega)⟩]
  by_cases h0 : j = 0
  · subst h0
    have e1 := hs_set (n := nP l s) (j := 0) h1
    have e2 := ds_set (l := l) (s := s) (n := nP l s) (j := 0) h1
    simp only [List.replicate_zero, List.nil_append, Nat.sub_zero, List.range_zero, List.map_nil] at e1 e2
    rw [gsj, if_pos rfl, gsj, if_neg (Nat.succ_ne_zero 0)]
    dsimp only [gfind]
    rw [if_pos (by decide : ([] : List GV).length < 16), e1, e2, if_pos a1]
    rfl
  · rw [gsj, if_neg h0, gsj, if_neg (Nat.succ_ne_zero j)]
    dsimp only [gfind]
    rw [if_pos ⟨rfl, rfl, rfl⟩]
    dsimp only
    rw [if_pos (by simp; omega), hs_get h1]
    dsimp only
    rw [forceS_eq, forceS_eq, hs_set h1, ds_set h1, if_pos a1]
    rfl
theorem gadd_last {l : List UInt8} {fr to id s j : Nat} (hs1 : 1 ≤ s) (hn : nP l s ≤ 256) (hs : s ≤ 32768) (hj : j + 1 = nP l s) (h0 : ¬ j = 0) : gaddM (gsj l fr to id s j) ⟨fr, to, id, j, nP l s, piece l s j⟩ = some ([], some l) := by
  have hp := piece_le l s j
  have h1 : j < nP l s := by omega
  have hg := nP_ge (l := l) hs1
  rw [gaddM, if_pos ⟨h1, hn, (by show (piece l s j).length ≤ 32768; omega)⟩]
  rw [gsj, if_neg h0]
  dsimp only [gfind]
  rw [if_pos ⟨rfl, rfl, rfl⟩]
  dsimp only
  rw [if_pos (by simp; omega), hs_get h1]
  dsimp only
  have a2 := hs_all (n := nP l s)
  rw [forceS_eq, forceS_eq, hs_set h1, ds_set h1, hj, if_neg (by rw [a2]; decide), Nat.sub_self]
  have e : ((List.range (nP l s)).map (piece l s) ++ List.replicate 0 []).flatten = l := by
    rw [List.replicate_zero, List.append_nil, pcs_flat, List.take_of_length_le hg]
  rw [e]
  rfl
theorem narr_j {st : NS} {l : List UInt8} {fr id s j : Nat} (hn : nP l s ≤ 256) (hs : s ≤ 32768) (hj : j + 1 < nP l s) : narrM { st with gs := gsj l fr st.c.id id s j } ⟨fr, st.c.id, id, j, nP l s, piece l s j⟩ = some ({ st with gs := gsj l fr st.c.id id s (j + 1) }, []) := by
  rw [narrM, if_pos rfl, gadd_j hn hs hj]
theorem splitM_drop {l : List UInt8} {fr to id s j : Nat} (h : j < nP l s) : (splitM l fr to id s).drop j = (⟨fr, to, id, j, nP l s, piece l s j⟩ : PN) :: (splitM l fr to id s).drop (j + 1) := by
  rw [splitM_eq, List.drop_eq_getElem_cons (by rw [List.length_map, List.length_range]; exact h)]
  congr 1
  simp
theorem settle_s {ts : List Nat} {f d lim : Nat} {s s' : SY} {p : PN} {wi : List PN} (hd : d < lim) (hw : s.wi = p :: wi) (ha : arrM s = some s') : settleM ts (f + 1) s d lim = settleM ts f s' (d + 1) lim := by
  rw [settleM, if_pos hd, hw]; dsimp only; rw [ha]
theorem settle_w {ts : List Nat} {f d lim : Nat} {s s' : SY} (hd : d < lim) (hw : s.wi = []) (ha : worksM ts s s.nx.length 0 = some (s', true)) : settleM ts (f + 1) s d lim = settleM ts f s' (d + 1) lim := by
  rw [settleM, if_pos hd, hw]; dsimp only; rw [ha]
theorem settle_e {ts : List Nat} {f d lim : Nat} {s s' : SY} (hd : d < lim) (hw : s.wi = []) (ha : worksM ts s s.nx.length 0 = some (s', false)) : settleM ts (f + 1) s d lim = some (s', d) := by
  rw [settleM, if_pos hd, hw]; dsimp only; rw [ha]
theorem arr_one {s : SY} {p : PN} {wi : List PN} {st st' : NS} {sr : Srv} (hw : s.wi = p :: wi) (hx : s.nx[p.to]? = some (.up st sr)) (hn : narrM st p = some (st', [])) (hl : wi.length ≤ 1000) : arrM s = some { s with nx := s.nx.set p.to (.up st' sr), wi := wi } := by
  rw [arrM, hw]; dsimp only
  rw [hx]; dsimp only
  rw [narrX, hn]; dsimp only
  rw [if_pos ⟨⟨by show wi.length + 0 ≤ 1024; omega, fun p hp => by cases hp⟩, by omega⟩]
  rfl
theorem settle_arrs {ts : List Nat} {s : SY} {i : Nat} {st stF : NS} {sr : Srv} {l : List UInt8} {fr id pc f d lim : Nat} (hx : s.nx[i]? = some (.up st sr)) (hid : st.c.id = i) (hgs : st.gs = []) (hwi : s.wi = splitM l fr i id pc) (h2 : 2 ≤ nP l pc) (hn : nP l pc ≤ 256) (hpc : pc ≤ 32768)
    (hF : narrM { st with gs := gsj l fr i id pc (nP l pc - 1) } ⟨fr, i, id, nP l pc - 1, nP l pc, piece l pc (nP l pc - 1)⟩ = some (stF, [])) (hd : d + nP l pc ≤ lim) :
    settleM ts (f + nP l pc) s d lim = settleM ts f { s with nx := s.nx.set i (.up stF sr), wi := [] } (d + nP l pc) lim := by
  have hil := (List.getElem?_eq_some_iff.1 hx).1
  have key : ∀ q j : Nat, j + q + 1 = nP l pc → ∀ d : Nat, d + q + 1 ≤ lim → settleM ts (f + (q + 1)) { s with nx := s.nx.set i (.up { st with gs := gsj l fr i id pc j } sr), wi := (splitM l fr i id pc).drop j } d lim = settleM ts f { s with nx := s.nx.set i (.up stF sr), wi := [] } (d + (q + 1)) lim := by
    intro q
    induction q with
    | zero =>
      intro j hj d hd
      have hj' : j = nP l pc - 1 := by omega
      have hw := splitM_drop (l := l) (fr := fr) (to := i) (id := id) (s := pc) (j := j) (by omega)
      have hlen : ((splitM l fr i id pc).drop (j + 1)).length = 0 := by rw [List.length_drop, splitM_length]; omega
      have he : (splitM l fr i id pc).drop (j + 1) = [] := List.eq_nil_of_length_eq_zero hlen
      rw [settle_s (f := f) (s' := { s with nx := s.nx.set i (.up stF sr), wi := [] }) (by omega) hw]
      have h := arr_one (s := { s with nx := s.nx.set i (.up { st with gs := gsj l fr i id pc j } sr), wi := (splitM l fr i id pc).drop j }) (st := { st with gs := gsj l fr i id pc j }) (st' := stF) (sr := sr) hw (List.getElem?_set_self hil) (by rw [hj']; exact hF) (by omega)
      rw [h]
      dsimp only
      rw [List.set_set, he]
    | succ q ih =>
      intro j hj d hd
      have hw := splitM_drop (l := l) (fr := fr) (to := i) (id := id) (s := pc) (j := j) (by omega)
      have hlen : ((splitM l fr i id pc).drop (j + 1)).length ≤ 1000 := by rw [List.length_drop, splitM_length]; omega
      have hnj : narrM { st with gs := gsj l fr i id pc j } ⟨fr, i, id, j, nP l pc, piece l pc j⟩ = some ({ st with gs := gsj l fr i id pc (j + 1) }, []) := by
        have h9 := narr_j (st := st) (l := l) (fr := fr) (id := id) (s := pc) (j := j) hn hpc (by omega)
        rw [hid] at h9; exact h9
      have h := arr_one (s := { s with nx := s.nx.set i (.up { st with gs := gsj l fr i id pc j } sr), wi := (splitM l fr i id pc).drop j }) (st := { st with gs := gsj l fr i id pc j }) (sr := sr) hw (List.getElem?_set_self hil) hnj hlen
      have h3 := settle_s (ts := ts) (f := f + (q + 1)) (d := d) (lim := lim) (by omega) hw h
      rw [show f + (q + 1 + 1) = f + (q + 1) + 1 by omega, h3]
      dsimp only
      rw [List.set_set, ih (j + 1) (by omega) (d + 1) (by omega), show d + 1 + (q + 1) = d + (q + 1 + 1) by omega]
  have h0 := key (nP l pc - 1) 0 (by omega) d (by omega)
  have hs0 : ({ s with nx := s.nx.set i (.up { st with gs := gsj l fr i id pc 0 } sr), wi := (splitM l fr i id pc).drop 0 } : SY) = s := by
    have e1 : ({ st with gs := gsj l fr i id pc 0 } : NS) = st := by rw [gsj, if_pos rfl, ← hgs]
    rw [e1, set_same9 hx, List.drop_zero, ← hwi]
  rw [hs0, show nP l pc - 1 + 1 = nP l pc by omega] at h0
  exact h0
theorem work_idle {ts : List Nat} {s : SY} {i : Nat} {st : NS} {sr : Srv} (hx : s.nx[i]? = some (.up st sr)) (hu : st.us = []) (hp : st.ps = []) (hw : s.wi = []) : workM ts s i = some (s, false) := by
  rw [workM, hx]; dsimp only
  rw [nworkX, nworkM, hu]; dsimp only
  rw [hp]; dsimp only
  rw [if_pos ⟨by rw [hw]; decide, fun p hp => by cases hp⟩, set_same9 hx]
  rfl
theorem sdof_put (k v : Nat) : ∀ sd : List (Nat × Nat), sdof (sdput k v sd) k = some v
  | [] => by rw [sdput, sdof, List.find?_cons]; simp
  | x :: l => by
    by_cases h : x.1 = k
    · rw [sdput, if_pos h, sdof, List.find?_cons]; simp
    · rw [sdput, if_neg h]
      have ih := sdof_put k v l
      rw [sdof] at ih ⊢
      rw [List.find?_cons, show (x.1 == k) = false from beq_eq_false_iff_ne.2 h]
      exact ih
theorem works_yes {ts : List Nat} {s s' : SY} {m i : Nat} (h : workM ts s i = some (s', true)) : worksM ts s (m + 1) i = some (s', true) := by rw [worksM, h]
theorem works_no {ts : List Nat} {s : SY} {m i : Nat} (h : workM ts s i = some (s, false)) : worksM ts s (m + 1) i = worksM ts s m (i + 1) := by rw [worksM, h]
def mq (st0 st1 st2 st3 : NS) (fo : Srv) (wi : List PN) (en : List (Nat × Nat × Nat)) (k : Nat) : SY := ⟨[.up st0 .none, .up st1 .other, .up st2 .other, .up st3 fo], wi, en, k⟩
theorem nP_two {m : MN} : 2 ≤ nP (encM m) 8 := by
  have := encM_length m
  unfold nP; omega
theorem nP_14 {m : MN} (h : m.da.length ≤ 60) : nP (encM m) 8 ≤ 14 := by
  have := encM_length m
  unfold nP; omega
def qA0 (st0 : NS) (m : MN) : NS := { st0 with c := { st0.c with sent := st0.c.sent + 1 }, ca := st0.ca ++ [⟨calM st0 m, 1, 1, st0.c.wa, MN.zero⟩] }
def qA3 (st0 st3 : NS) (m : MN) : NS := { st3 with gs := [], ps := [calM st0 m], sd := sdput st0.c.rep 0 st3.sd }
def qB3 (st0 st3 : NS) (m r : MN) : NS := { st3 with c := { st3.c with sent := st3.c.sent + 1 }, gs := [], ps := [], sd := sdput st0.c.rep 0 st3.sd, es := st3.es ++ [⟨st0.c.rep, st0.ca.length + 1, 2, r⟩] }
def qB0 (st0 : NS) (m r : MN) : NS := { qA0 st0 m with gs := [], us := [r] }
def qC0 (st0 : NS) (m r : MN) : NS := { st0 with c := { st0.c with sent := st0.c.sent + 1 }, gs := [], us := [], ca := st0.ca ++ [⟨calM st0 m, 2, 1, st0.c.wa, r⟩] }
theorem nwork_sv {st : NS} {sr sr2 : Srv} {en en2 : List (Nat × Nat × Nat)} {ts : List Nat} {k k2 z0 : Nat} {m r : MN} (hu : st.us = []) (hp : st.ps = [m]) (h1 : ¬ m.to = st.c.rep) (hsv : svM sr st.c.port en ts k m = some (sr2, en2, k2, r)) (hs : sdof st.sd m.rp = some z0) (hw : wokC st m r) : nworkM st sr en ts k = some ({ st with c := { st.c with sent := st.c.sent + 1 }, ps := [], es := st.es ++ [⟨m.rp, m.id, 2, r⟩] }, sr2, en2, k2, true, splitM (encM r) st.c.id z0 (st.c.sent + 1) st.c.pc) := by
  simp only [nworkM, hu, hp, h1, hsv, hs, hw, if_false, if_true]
theorem nwork_rp {st : NS} {sr : Srv} {en : List (Nat × Nat × Nat)} {ts : List Nat} {k : Nat} {m : MN} {y : CA} (hu : st.us = [m]) (hy : st.ca[m.id - 1]? = some y) (hc : m.to = st.c.rep ∧ 1 ≤ m.id ∧ y.st = 1 ∧ m.rp = y.rq.to ∧ st.ca.length ≤ 64 ∧ m.da.length ≤ 4096) : nworkM st sr en ts k = some ({ st with us := [], ca := st.ca.set (m.id - 1) { y with st := 2, rp := m } }, sr, en, k, true, []) := by
  rw [nworkM, hu]; dsimp only
  rw [hy]; dsimp only
  rw [if_pos hc]
theorem trans_q {ts : List Nat} {st0 st1 st2 st3 : NS} {fo fo2 : Srv} {en en2 : List (Nat × Nat × Nat)} {k k2 : Nat} {m r : MN} {x : Nat × Nat × Nat}
    (h0u : st0.us = []) (h0p : st0.ps = []) (h0g : st0.gs = []) (h1u : st1.us = []) (h1p : st1.ps = []) (h2u : st2.us = []) (h2p : st2.ps = []) (h3u : st3.us = []) (h3p : st3.ps = []) (h3g : st3.gs = [])
    (i0 : st0.c.id = 0) (i3 : st3.c.id = 3) (p0 : st0.c.pc = 8) (p3 : st3.c.pc = 8) (r0 : 0 < st0.c.ro) (r3 : 0 < st3.c.ro) (hrp : ¬ st0.c.rep = 0) (hpt : ¬ m.to = st0.c.port)
    (hP : m.to = st3.c.port) (hP0 : ¬ m.to = 0) (hPr : ¬ m.to = st3.c.rep)
    (hf : st0.pl.find? (pfit m.to st0.c.now ((st0.c.ag : Nat) : Int)) = some x) (hx3 : x.2.1 = 3) (hb : bndC st0.c st0.pl)
    (hm : m.ok) (hcm : (calM st0 m).ok) (hml : m.da.length ≤ 60) (hca : st0.ca.length < 60) (hcal : cal st0.ca)
    (hsv : svM fo st3.c.port en ts k (calM st0 m) = some (fo2, en2, k2, r)) (hnew : ∀ y ∈ st3.es, ¬ (y.who = st0.c.rep ∧ y.id = st0.ca.length + 1)) (hel : st3.es.length < 32) (hsn : st3.c.sent < 1000000000) (hr : r.ok) (hrl : r.da.length ≤ 60) (hrt : r.to = st0.c.rep) (hrr : r.rp = m.to) (hri : r.id = st0.ca.length + 1) :
    transM ts (mq st0 st1 st2 st3 fo [] en k) m = some (mq (qC0 st0 m r) st1 st2 (qB3 st0 st3 m r) fo2 [] en2 k2, r, true) := by
  have n1 := nP_14 (m := calM st0 m) hml
  have n2 := nP_14 hrl
  have t1 := nP_two (m := calM st0 m)
  have t2 := nP_two (m := r)
  have hreq : reqP st0.c st0.pl (calM st0 m) = (splitM (encM (calM st0 m)) 0 3 (st0.c.sent + 1) 8, st0.c.sent + 1) := by
    rw [reqP, show (calM st0 m).to = m.to from rfl, hf]; dsimp only; rw [hx3, i0, p0]
  have hcall : callM (mq st0 st1 st2 st3 fo [] en k) 0 m = some (mq (qA0 st0 m) st1 st2 st3 fo (splitM (encM (calM st0 m)) 0 3 (st0.c.sent + 1) 8) en k, st0.ca.length) := by
    have hn : ncallM st0 m = some (qA0 st0 m, splitM (encM (calM st0 m)) 0 3 (st0.c.sent + 1) 8) := by
      rw [ncallM, if_pos ⟨hm, by omega, by rw [p0]; omega, hb, hpt⟩, hreq]; rfl
    rw [callM]
    show (match (some (NX.up st0 .none) : Option NX) with
      | some (.up st sr) => match ncallM st m with
        | some (st', out) => if sendC (mq st0 st1 st2 st3 fo [] en k).wi out then some ({ (mq st0 st1 st2 st3 fo [] en k) with nx := (mq st0 st1 st2 st3 fo [] en k).nx.set 0 (.up st' sr), wi := app (mq st0 st1 st2 st3 fo [] en k).wi out }, st.ca.length) else none
        | none => none
      | _ => none) = _
    dsimp only
    rw [hn]; dsimp only
    rw [if_pos ⟨by show 0 + (splitM _ _ _ _ _).length ≤ 1024; rw [splitM_length]; omega, fun p hp => by
      rw [splitM_eq] at hp; obtain ⟨j, _, rfl⟩ := List.mem_map.1 hp
      have := piece_le (encM (calM st0 m)) 8 j
      show (piece (encM (calM st0 m)) 8 j).length ≤ 1000000; omega⟩, app_eq]
    rfl
  rw [transM, hcall]; dsimp only
  have hF3 : narrM { st3 with gs := gsj (encM (calM st0 m)) 0 3 (st0.c.sent + 1) 8 (nP (encM (calM st0 m)) 8 - 1) } ⟨0, 3, st0.c.sent + 1, nP (encM (calM st0 m)) 8 - 1, nP (encM (calM st0 m)) 8, piece (encM (calM st0 m)) 8 (nP (encM (calM st0 m)) 8 - 1)⟩ = some (qA3 st0 st3 m, []) := by
    rw [narrM, if_pos (show (3 : Nat) = st3.c.id from i3.symm)]
    dsimp only
    rw [gadd_last (by decide) (by omega) (by decide) (by omega) (by omega)]
    dsimp only
    rw [decM_enc hcm]; dsimp only
    rw [if_neg (show ¬ (calM st0 m).to = 0 from hP0), if_neg (show ¬ (calM st0 m).to = st3.c.rep from hPr), if_pos (show (calM st0 m).to = st3.c.port from hP), h3p, if_pos (show ([] : List MN).length < st3.c.ro from r3)]
    rfl
  have A1 : ∀ f : Nat, settleM ts (f + nP (encM (calM st0 m)) 8) (mq (qA0 st0 m) st1 st2 st3 fo (splitM (encM (calM st0 m)) 0 3 (st0.c.sent + 1) 8) en k) 0 5000 = settleM ts f (mq (qA0 st0 m) st1 st2 (qA3 st0 st3 m) fo [] en k) (0 + nP (encM (calM st0 m)) 8) 5000 := fun f =>
    settle_arrs (i := 3) (st := st3) (sr := fo) rfl i3 h3g rfl t1 (by omega) (by decide) hF3 (by omega)
  have hw3 : workM ts (mq (qA0 st0 m) st1 st2 (qA3 st0 st3 m) fo [] en k) 3 = some (mq (qA0 st0 m) st1 st2 (qB3 st0 st3 m r) fo2 (splitM (encM r) 3 0 (st3.c.sent + 1) 8) en2 k2, true) := by
    have hn : nworkM (qA3 st0 st3 m) fo en ts k = some (qB3 st0 st3 m r, fo2, en2, k2, true, splitM (encM r) 3 0 (st3.c.sent + 1) 8) := by
      rw [nwork_sv (st := qA3 st0 st3 m) (m := calM st0 m) (r := r) h3u rfl hPr hsv (sdof_put _ _ _) ⟨hcm, hnew, hel, by show 1 ≤ st3.c.pc; omega, by show st3.c.pc ≤ 32768; omega, hsn, hr, by show nP (encM r) st3.c.pc ≤ 256; rw [p3]; omega⟩]
      show some (qB3 st0 st3 m r, fo2, en2, k2, true, splitM (encM r) st3.c.id 0 (st3.c.sent + 1) st3.c.pc) = _
      rw [i3, p3]
    rw [workM]
    show (match (some (NX.up (qA3 st0 st3 m) fo) : Option NX) with
      | some x => match nworkX x en ts k with
        | some (x', en', k', ok, out) => if sendC ([] : List PN) out then some ({ (mq (qA0 st0 m) st1 st2 (qA3 st0 st3 m) fo [] en k) with nx := (mq (qA0 st0 m) st1 st2 (qA3 st0 st3 m) fo [] en k).nx.set 3 x', en := en', k := k', wi := app [] (if ok then out else []) }, ok) else none
        | none => none
      | none => none) = _
    dsimp only
    rw [nworkX, hn]; dsimp only
    rw [if_pos ⟨by show 0 + (splitM _ _ _ _ _).length ≤ 1024; rw [splitM_length]; omega, fun p hp => by
      rw [splitM_eq] at hp; obtain ⟨j, _, rfl⟩ := List.mem_map.1 hp
      have := piece_le (encM r) 8 j
      show (piece (encM r) 8 j).length ≤ 1000000; omega⟩, app_eq]
    rfl
  have hW : worksM ts (mq (qA0 st0 m) st1 st2 (qA3 st0 st3 m) fo [] en k) 4 0 = some (mq (qA0 st0 m) st1 st2 (qB3 st0 st3 m r) fo2 (splitM (encM r) 3 0 (st3.c.sent + 1) 8) en2 k2, true) := by
    rw [works_no (work_idle (st := qA0 st0 m) (sr := .none) rfl h0u h0p rfl), works_no (work_idle (st := st1) (sr := .other) rfl h1u h1p rfl), works_no (work_idle (st := st2) (sr := .other) rfl h2u h2p rfl), works_yes hw3]
  have hF0 : narrM { qA0 st0 m with gs := gsj (encM r) 3 0 (st3.c.sent + 1) 8 (nP (encM r) 8 - 1) } ⟨3, 0, st3.c.sent + 1, nP (encM r) 8 - 1, nP (encM r) 8, piece (encM r) 8 (nP (encM r) 8 - 1)⟩ = some (qB0 st0 m r, []) := by
    rw [narrM, if_pos (show (0 : Nat) = (qA0 st0 m).c.id from i0.symm)]
    dsimp only
    rw [gadd_last (by decide) (by omega) (by decide) (by omega) (by omega)]
    dsimp only
    rw [decM_enc hr]; dsimp only
    rw [if_neg (show ¬ r.to = 0 by rw [hrt]; exact hrp), if_pos (show r.to = (qA0 st0 m).c.rep from hrt), show (qA0 st0 m).us = [] from h0u, if_pos (show ([] : List MN).length < (qA0 st0 m).c.ro from r0)]
    rfl
  have A2 : ∀ f d : Nat, d + nP (encM r) 8 ≤ 5000 → settleM ts (f + nP (encM r) 8) (mq (qA0 st0 m) st1 st2 (qB3 st0 st3 m r) fo2 (splitM (encM r) 3 0 (st3.c.sent + 1) 8) en2 k2) d 5000 = settleM ts f (mq (qB0 st0 m r) st1 st2 (qB3 st0 st3 m r) fo2 [] en2 k2) (d + nP (encM r) 8) 5000 := fun f d hd =>
    settle_arrs (i := 0) (st := qA0 st0 m) (sr := .none) rfl i0 h0g rfl t2 (by omega) (by decide) hF0 hd
  have hw0 : workM ts (mq (qB0 st0 m r) st1 st2 (qB3 st0 st3 m r) fo2 [] en2 k2) 0 = some (mq (qC0 st0 m r) st1 st2 (qB3 st0 st3 m r) fo2 [] en2 k2, true) := by
    have hn : nworkM (qB0 st0 m r) .none en2 ts k2 = some (qC0 st0 m r, .none, en2, k2, true, []) := by
      have hy : (qB0 st0 m r).ca[r.id - 1]? = some ⟨calM st0 m, 1, 1, st0.c.wa, MN.zero⟩ := by
        rw [hri, Nat.add_sub_cancel]; exact last_at
      have e : (qB0 st0 m r).ca.set (r.id - 1) ⟨calM st0 m, 2, 1, st0.c.wa, r⟩ = st0.ca ++ [⟨calM st0 m, 2, 1, st0.c.wa, r⟩] := by
        rw [hri, Nat.add_sub_cancel]; exact set_last5
      rw [nwork_rp (st := qB0 st0 m r) rfl hy ⟨hrt, by omega, rfl, hrr, by show (st0.ca ++ [_]).length ≤ 64; rw [List.length_append]; show st0.ca.length + 1 ≤ 64; omega, by omega⟩]
      exact congrArg (fun z => some (({ qB0 st0 m r with us := [], ca := z } : NS), Srv.none, en2, k2, true, ([] : List PN))) e
    rw [workM]
    show (match (some (NX.up (qB0 st0 m r) .none) : Option NX) with
      | some x => match nworkX x en2 ts k2 with
        | some (x', en', k', ok, out) => if sendC ([] : List PN) out then some ({ (mq (qB0 st0 m r) st1 st2 (qB3 st0 st3 m r) fo2 [] en2 k2) with nx := (mq (qB0 st0 m r) st1 st2 (qB3 st0 st3 m r) fo2 [] en2 k2).nx.set 0 x', en := en', k := k', wi := app [] (if ok then out else []) }, ok) else none
        | none => none
      | none => none) = _
    dsimp only
    rw [nworkX, hn]; dsimp only
    rw [if_pos ⟨by decide, fun p hp => by cases hp⟩]
    rfl
  have hW0 : worksM ts (mq (qB0 st0 m r) st1 st2 (qB3 st0 st3 m r) fo2 [] en2 k2) 4 0 = some (mq (qC0 st0 m r) st1 st2 (qB3 st0 st3 m r) fo2 [] en2 k2, true) := works_yes hw0
  have hW9 : worksM ts (mq (qC0 st0 m r) st1 st2 (qB3 st0 st3 m r) fo2 [] en2 k2) 4 0 = some (mq (qC0 st0 m r) st1 st2 (qB3 st0 st3 m r) fo2 [] en2 k2, false) := by
    rw [works_no (work_idle (st := qC0 st0 m r) (sr := .none) rfl rfl h0p rfl), works_no (work_idle (st := st1) (sr := .other) rfl h1u h1p rfl), works_no (work_idle (st := st2) (sr := .other) rfl h2u h2p rfl), works_no (work_idle (st := qB3 st0 st3 m r) (sr := fo2) rfl h3u rfl rfl)]
    rfl
  have hS : ∃ d, settleM ts 2000 (mq (qA0 st0 m) st1 st2 st3 fo (splitM (encM (calM st0 m)) 0 3 (st0.c.sent + 1) 8) en k) 0 5000 = some (mq (qC0 st0 m r) st1 st2 (qB3 st0 st3 m r) fo2 [] en2 k2, d) := by
    refine ⟨0 + nP (encM (calM st0 m)) 8 + 1 + nP (encM r) 8 + 1, ?_⟩
    rw [show (2000 : Nat) = (1997 - nP (encM (calM st0 m)) 8 - nP (encM r) 8 + 1 + 1 + nP (encM r) 8 + 1) + nP (encM (calM st0 m)) 8 by omega, A1]
    rw [settle_w (by omega) rfl hW, A2 _ _ (by omega), settle_w (by omega) rfl hW0, settle_e (by omega) rfl hW9]
  obtain ⟨d, hS⟩ := hS
  have hcc : cal (qC0 st0 m r).ca := fun y hy => by
    rcases List.mem_append.1 hy with hy | hy
    · exact hcal y hy
    · rw [List.mem_singleton.1 hy]; exact ⟨by show m.da.length ≤ 4096; omega, by show r.da.length ≤ 4096; omega⟩
  have hg : get0M (mq (qC0 st0 m r) st1 st2 (qB3 st0 st3 m r) fo2 [] en2 k2) st0.ca.length = some ⟨calM st0 m, 2, 1, st0.c.wa, r⟩ := by
    rw [get0M]
    show (match (some (NX.up (qC0 st0 m r) .none) : Option NX) with
      | some (.up st _) => match st.ca[st0.ca.length]? with
        | some y => if st.ca.length ≤ 64 ∧ cal st.ca then some y else none
        | none => none
      | _ => none) = _
    dsimp only
    rw [show (qC0 st0 m r).ca[st0.ca.length]? = some ⟨calM st0 m, 2, 1, st0.c.wa, r⟩ from last_at]
    dsimp only
    rw [if_pos ⟨by show (st0.ca ++ [_]).length ≤ 64; rw [List.length_append]; show st0.ca.length + 1 ≤ 64; omega, hcc⟩]
  rw [transR, hS]; dsimp only
  rw [hg]; dsimp only
  rfl
end Go.Proofs.YthiakdmhpfkjbaaGreatDoor

set_option linter.unusedVariables false
set_option linter.unusedSimpArgs false
set_option maxRecDepth 4000
namespace Go.Proofs.YthiakdmhpfkjbaaGreatDoor
open Go Go.SK
abbrev T4 : List Nat := cutl (spread 400)
def rsM (a : MN) (n : Nat) : MN := ⟨a.po, 0, 0, 3, 0, a.po, a.ob, a.ri, a.ck, n, []⟩
def rvkM (a : MN) : MN := ⟨a.po, 0, 0, 4, 0, a.po, a.ob, a.ri, a.ck, 0, []⟩
def szM (c : Nat × Nat × Nat × Nat) : MN := ⟨c.1, 0, 0, 102, 0, c.1, c.2.1, c.2.2.1, c.2.2.2, 0, []⟩
def capn (a : MN) : Nat × Nat × Nat × Nat := (a.po, a.ob, a.ri, a.ck)
def rssM (a : MN) (ms : List UInt8) (s : SY) : Nat → Option (SY × List (Nat × Nat × Nat × Nat))
  | 0 => some (s, [capn a])
  | j + 1 => match rssM a ms s j with
    | none => none
    | some (s', cs) => if j < 4 then
        match ms[j]? with
        | none => none
        | some x => match transM T4 s' (rsM a x.toNat) with
          | none => none
          | some (s2, r, ok) => if ok = true ∧ r.st = 0 then some (s2, cs ++ [capn r]) else none
      else some (s', cs)
theorem rssM_le {a : MN} {ms : List UInt8} {s : SY} {x : SY × List (Nat × Nat × Nat × Nat)} {n : Nat} (h : rssM a ms s n = some x) : ∀ j ≤ n, ∃ y, rssM a ms s j = some y := by
  induction n generalizing x with
  | zero =>
    intro j hj
    obtain rfl : j = 0 := by omega
    exact ⟨x, h⟩
  | succ n ih =>
    intro j hj
    by_cases hjn : j = n + 1
    · subst hjn; exact ⟨x, h⟩
    · rw [rssM] at h
      cases hm : rssM a ms s n with
      | none => rw [hm] at h; cases h
      | some y => exact ih hm j (by omega)
theorem rssM_lt {a : MN} {ms : List UInt8} {s s' : SY} {cs : List (Nat × Nat × Nat × Nat)} {y : SY × List (Nat × Nat × Nat × Nat)} {j : Nat} (hj : rssM a ms s j = some (s', cs)) (h4 : j < 4) (h : rssM a ms s (j + 1) = some y) : ∃ x s2 r, ms[j]? = some x ∧ transM T4 s' (rsM a x.toNat) = some (s2, r, true) ∧ r.st = 0 ∧ y = (s2, cs ++ [capn r]) := by
  rw [rssM, hj] at h; dsimp only at h
  rw [if_pos h4] at h
  cases hx : ms[j]? with
  | none => rw [hx] at h; cases h
  | some x =>
    rw [hx] at h; dsimp only at h
    cases ht : transM T4 s' (rsM a x.toNat) with
    | none => rw [ht] at h; cases h
    | some t =>
      obtain ⟨s2, r, ok⟩ := t
      rw [ht] at h; dsimp only at h
      by_cases hc : ok = true ∧ r.st = 0
      · rw [if_pos hc] at h; injection h with h; obtain ⟨rfl, hr⟩ := hc; exact ⟨x, s2, r, rfl, ht, hr, h.symm⟩
      · rw [if_neg hc] at h; cases h
theorem rssM_ge {a : MN} {ms : List UInt8} {s s' : SY} {cs : List (Nat × Nat × Nat × Nat)} {y : SY × List (Nat × Nat × Nat × Nat)} {j : Nat} (hj : rssM a ms s j = some (s', cs)) (h4 : ¬ j < 4) (h : rssM a ms s (j + 1) = some y) : y = (s', cs) := by
  rw [rssM, hj] at h; dsimp only at h
  rw [if_neg h4] at h; injection h with h; exact h.symm
theorem rssM_len {a : MN} {ms : List UInt8} {s : SY} : ∀ {j : Nat} {s' : SY} {cs : List (Nat × Nat × Nat × Nat)}, rssM a ms s j = some (s', cs) → cs.length ≤ 1 + min j 4
  | 0, s', cs, h => by
    have h2 : some (s, [capn a]) = some (s', cs) := h
    injection h2 with h2; injection h2 with h3 h4
    rw [← h4]; exact Nat.le_refl _
  | j + 1, s', cs, h => by
    obtain ⟨⟨s2, cs2⟩, hj⟩ := rssM_le h j (Nat.le_succ j)
    have ih := rssM_len hj
    by_cases h4 : j < 4
    · obtain ⟨x, s3, r, _, _, _, e⟩ := rssM_lt hj h4 h
      injection e with e1 e2
      rw [e2, List.length_append, List.length_singleton]; omega
    · have e := rssM_ge hj h4 h
      injection e with e1 e2
      rw [e2]; omega
def szsM (cs : List (Nat × Nat × Nat × Nat)) (s : SY) : Nat → Option SY
  | 0 => some s
  | j + 1 => match szsM cs s j with
    | none => none
    | some s' => match cs[j]? with
      | none => none
      | some c => match transM T4 s' (szM c) with
        | none => none
        | some (s2, r, ok) => if ok = true ∧ r.st = 1 then some s2 else none
theorem szsM_le {cs : List (Nat × Nat × Nat × Nat)} {s x : SY} {n : Nat} (h : szsM cs s n = some x) : ∀ j ≤ n, ∃ y, szsM cs s j = some y := by
  induction n generalizing x with
  | zero =>
    intro j hj
    obtain rfl : j = 0 := by omega
    exact ⟨x, h⟩
  | succ n ih =>
    intro j hj
    by_cases hjn : j = n + 1
    · subst hjn; exact ⟨x, h⟩
    · rw [szsM] at h
      cases hm : szsM cs s n with
      | none => rw [hm] at h; cases h
      | some y => exact ih hm j (by omega)
theorem szsM_some {cs : List (Nat × Nat × Nat × Nat)} {s s' y : SY} {j : Nat} (hj : szsM cs s j = some s') (h : szsM cs s (j + 1) = some y) : ∃ c r, cs[j]? = some c ∧ transM T4 s' (szM c) = some (y, r, true) ∧ r.st = 1 := by
  rw [szsM, hj] at h; dsimp only at h
  cases hx : cs[j]? with
  | none => rw [hx] at h; cases h
  | some c =>
    rw [hx] at h; dsimp only at h
    cases ht : transM T4 s' (szM c) with
    | none => rw [ht] at h; cases h
    | some t =>
      obtain ⟨s2, r, ok⟩ := t
      rw [ht] at h; dsimp only at h
      by_cases hc : ok = true ∧ r.st = 1
      · rw [if_pos hc] at h; injection h with h; obtain ⟨rfl, hr⟩ := hc; subst h; exact ⟨c, r, rfl, ht, hr⟩
      · rw [if_neg hc] at h; cases h
def RV (ms l : List UInt8) : Prop := ∃ s0 c s1 a s2 b s3 cs s4 n s5 s6 x s7 y, netM 8 = some s0 ∧ upM s0 3 = some c ∧ transM T4 s0 (mkM c.r0 c.r1 c.r2 c.r3 l) = some (s1, a, true) ∧ transM T4 s1 (mkM c.r0 c.r1 c.r2 c.r3 l) = some (s2, b, true) ∧ rssM a ms s2 ms.length = some (s3, cs) ∧ transM T4 s3 (rvkM a) = some (s4, n, true) ∧ n.st = 0 ∧ cs.length ≤ 5 ∧ szsM cs s4 cs.length = some s5 ∧ transM T4 s5 (rdM n.po n.ob n.ri n.ck 0 l.length) = some (s6, x, true) ∧ transM T4 s6 (rdM b.po b.ob b.ri b.ck 0 l.length) = some (s7, y, true) ∧ x.st = 0 ∧ y.st = 0 ∧ x.da = l ∧ y.da = l
def tsv (p : Nat) : Nat := (p + 1) * 1048576 + 703488
theorem ts_at {p : Nat} (h : p < 400) : T4[p]? = some (tsv p) := by
  show (cutl (spread 400))[p]? = some (tsv p)
  rw [cutl, spread, List.getElem?_map, List.getElem?_map, List.getElem?_range h]
  show some (((p + 1) * 1048576 + 703488) % 281474976710656) = some (tsv p)
  rw [Nat.mod_eq_of_lt (by omega)]; rfl
theorem tsv_lt {p : Nat} (h : p < 400) : tsv p < 281474976710656 := by unfold tsv; omega
theorem tsv_hi (p : Nat) : tsv p / 256 = (p + 1) * 4096 + 2748 := by unfold tsv; omega
theorem tsv_inj {p q : Nat} (h : tsv p = tsv q) : p = q := by unfold tsv at h; omega
theorem mx_hi {s ri : Nat} (hs : s < 281474976710656) (hr : ri < 256) : mxr s ri % 281474976710656 / 256 = s / 256 := by
  have h1 : mxr s ri < 2 ^ 48 := by
    unfold mxr; exact Nat.xor_lt_two_pow (by omega) (by omega)
  have h2 := Nat.shiftRight_xor_distrib (a := s) (b := ri) (i := 8)
  rw [Nat.shiftRight_eq_div_pow, Nat.shiftRight_eq_div_pow, Nat.shiftRight_eq_div_pow, show ri / 2 ^ 8 = 0 by omega, Nat.xor_zero] at h2
  rw [Nat.mod_eq_of_lt (by omega)]
  unfold mxr
  rw [Nat.mod_eq_of_lt hs]
  exact h2
def C0 (sent : Nat) : NC := ⟨0, 0, 4, 8, 1, 5, 20, 10, 10, 1, sent, tsv 1, 0, 0, 0, 0, 0⟩
def C3 (sent : Nat) : NC := ⟨3, 3, 4, 8, 1, 5, 20, 10, 10, 1, sent, tsv 13, tsv 15, tsv 15, 0, 255, tsv 16⟩
structure QV (n : Nat) (st0 st1 st2 st3 : NS) : Prop where
  u0 : st0.us = []
  p0 : st0.ps = []
  g0 : st0.gs = []
  u1 : st1.us = []
  p1 : st1.ps = []
  u2 : st2.us = []
  p2 : st2.ps = []
  u3 : st3.us = []
  p3 : st3.ps = []
  g3 : st3.gs = []
  c0 : st0.c = C0 st0.c.sent
  s0 : st0.c.sent ≤ 1000 + n
  c3 : st3.c = C3 st3.c.sent
  s3 : st3.c.sent ≤ 1000 + n
  pl : st0.pl = [(tsv 15, 3, 0)]
  ca : st0.ca.length = n
  cl : cal st0.ca
  es : st3.es.length = n
  ei : ∀ y ∈ st3.es, y.id ≤ n
def MQ (n : Nat) (m : MN) : MN := { m with rp := tsv 1, id := n + 1, st := 0 }
theorem step_q {n k k2 : Nat} {st0 st1 st2 st3 : NS} {fo fo2 : Srv} {en en2 : List (Nat × Nat × Nat)} {m r : MN} (h : QV n st0 st1 st2 st3) (hn : n ≤ 30) (hP : m.to = tsv 15) (hm : m.ok) (hml : m.da.length ≤ 60) (hsv : svM fo (tsv 15) en T4 k (MQ n m) = some (fo2, en2, k2, r)) (hr : r.ok) (hrl : r.da.length ≤ 60) (hrt : r.to = tsv 1) (hrr : r.rp = m.to) (hri : r.id = n + 1) :
    ∃ st0' st3', QV (n + 1) st0' st1 st2 st3' ∧ transM T4 (mq st0 st1 st2 st3 fo [] en k) m = some (mq st0' st1 st2 st3' fo2 [] en2 k2, r, true) := by
  have t1 : tsv 1 = 2800640 := rfl
  have t13 : tsv 13 = 15383552 := rfl
  have t15 : tsv 15 = 17480704 := rfl
  have e0 := h.c0
  have e3 := h.c3
  have f1 : st0.c.id = 0 := by rw [e0]; rfl
  have f2 : st0.c.pc = 8 := by rw [e0]; rfl
  have f3 : st0.c.ro = 10 := by rw [e0]; rfl
  have f4 : st0.c.rep = tsv 1 := by rw [e0]; rfl
  have f5 : st0.c.port = 0 := by rw [e0]; rfl
  have f6 : st0.c.now = 1 := by rw [e0]; rfl
  have f7 : st0.c.ag = 20 := by rw [e0]; rfl
  have f8 : st0.c.no = 4 := by rw [e0]; rfl
  have g1 : st3.c.id = 3 := by rw [e3]; rfl
  have g2 : st3.c.pc = 8 := by rw [e3]; rfl
  have g3 : st3.c.ro = 10 := by rw [e3]; rfl
  have g4 : st3.c.rep = tsv 13 := by rw [e3]; rfl
  have g5 : st3.c.port = tsv 15 := by rw [e3]; rfl
  have b1 := h.s0
  have b3 := h.s3
  have hM : calM st0 m = MQ n m := by rw [calM, MQ, f4, h.ca]
  have hmo := hm
  obtain ⟨k1, k2', k3, k4, k5, k6, k7, k8, k9, k10, k11⟩ := hmo
  have hcm : (calM st0 m).ok := by
    rw [hM]
    exact ⟨k1, by show tsv 1 < 281474976710656; omega, by show n + 1 < 4294967296; omega, k4, by show (0 : Nat) < 65536; omega, k6, k7, k8, k9, k10, k11⟩
  have hT := trans_q (ts := T4) (fo := fo) (fo2 := fo2) (en := en) (en2 := en2) (k := k) (k2 := k2) (m := m) (r := r) (x := (tsv 15, 3, 0)) h.u0 h.p0 h.g0 h.u1 h.p1 h.u2 h.p2 h.u3 h.p3 h.g3 f1 g1 f2 g2 (by omega) (by omega) (by omega) (by omega) (by rw [g5]; exact hP) (by omega) (by rw [g4]; omega)
    (by rw [h.pl, hP, f6, f7]; rfl) rfl ⟨by omega, by omega, by omega, by omega, by rw [h.pl]; intro x hx; rw [List.mem_singleton.1 hx]; decide, by omega, by omega, by omega⟩
    hm hcm hml (by rw [h.ca]; omega) h.cl (by rw [g5, hM]; exact hsv) (fun y hy e => by have := h.ei y hy; rw [h.ca] at e; omega) (by rw [h.es]; omega) (by omega) hr hrl (by rw [f4]; exact hrt) hrr (by rw [h.ca]; exact hri)
  refine ⟨qC0 st0 m r, qB3 st0 st3 m r, ?_, hT⟩
  refine ⟨rfl, h.p0, rfl, h.u1, h.p1, h.u2, h.p2, h.u3, rfl, rfl, ?_, by show st0.c.sent + 1 ≤ _; omega, ?_, by show st3.c.sent + 1 ≤ _; omega, h.pl, ?_, ?_, ?_, ?_⟩
  · show ({ st0.c with sent := st0.c.sent + 1 } : NC) = C0 (st0.c.sent + 1)
    rw [e0]; rfl
  · show ({ st3.c with sent := st3.c.sent + 1 } : NC) = C3 (st3.c.sent + 1)
    rw [e3]; rfl
  · show (st0.ca ++ [_]).length = n + 1
    rw [List.length_append, h.ca]; rfl
  · intro y hy
    rcases List.mem_append.1 hy with hy | hy
    · exact h.cl y hy
    · rw [List.mem_singleton.1 hy]; exact ⟨by show m.da.length ≤ 4096; omega, by show r.da.length ≤ 4096; omega⟩
  · show (st3.es ++ [_]).length = n + 1
    rw [List.length_append, h.es]; rfl
  · intro y hy
    rcases List.mem_append.1 hy with hy | hy
    · have := h.ei y hy; omega
    · rw [List.mem_singleton.1 hy]; show st0.ca.length + 1 ≤ n + 1; rw [h.ca]; exact Nat.le_refl _
def EN (k : Nat) (en : List (Nat × Nat × Nat)) : Prop := ∀ e ∈ en, e.1 = 1 → ∃ rr p, rr < 256 ∧ 19 ≤ p ∧ p < k ∧ e.2.1 = mxr (tsv 17) rr % 281474976710656 ∧ e.2.2 = tsv p
def EV (kr k : Nat) (en : List (Nat × Nat × Nat)) : Prop := ∀ e ∈ en, e.1 = 1 → (∃ rr, rr < 256 ∧ e.2.1 = mxr (tsv 17) rr % 281474976710656) ∨ ∃ p, kr < p ∧ p < k ∧ e.2.2 = tsv p
theorem tok_a {k ri : Nat} {en : List (Nat × Nat × Nat)} (hE : EN k en) (hk : k < 300) (hk1 : 19 ≤ k) (hl : en.length ≤ 1000) (hr : ri < 256) : ∃ x en2 k2, tokM (tsv 17) ri en T4 k = some (x, en2, k2) ∧ k ≤ k2 ∧ k2 ≤ k + 1 ∧ EN k2 en2 ∧ en2.length ≤ en.length + 1 ∧ ((ri = 255 ∧ x = tsv 17) ∨ (¬ ri = 255 ∧ ∃ p, 19 ≤ p ∧ p < k2 ∧ x = tsv p)) := by
  by_cases h : ri = 255
  · exact ⟨tsv 17, en, k, by rw [tokM, if_pos h]; rfl, Nat.le_refl _, by omega, hE, by omega, .inl ⟨h, rfl⟩⟩
  · rw [tokM, if_neg h, askM]
    cases hf : en.find? (fun y => y.1 == 1 && y.2.1 == mxr (tsv 17) ri % 281474976710656) with
    | some y =>
      have h1 := List.find?_some hf
      rw [Bool.and_eq_true, beq_iff_eq, beq_iff_eq] at h1
      obtain ⟨rr, p, q1, q2, q3, q4, q5⟩ := hE y (List.mem_of_find?_eq_some hf) h1.1
      exact ⟨y.2.2, en, k, rfl, Nat.le_refl _, by omega, hE, by omega, .inr ⟨h, p, q2, q3, q5⟩⟩
    | none =>
      dsimp only
      rw [ts_at (by omega)]; dsimp only
      rw [if_pos (by omega)]
      refine ⟨tsv k, _, k + 1, rfl, by omega, Nat.le_refl _, ?_, by rw [List.length_append]; exact Nat.le_refl _, .inr ⟨h, k, hk1, by omega, rfl⟩⟩
      intro e he h1
      rcases List.mem_append.1 he with he | he
      · obtain ⟨rr, p, q1, q2, q3, q4, q5⟩ := hE e he h1
        exact ⟨rr, p, q1, q2, by omega, q4, q5⟩
      · rw [List.mem_singleton.1 he]; exact ⟨ri, k, hr, hk1, by omega, rfl, rfl⟩
theorem tok_n {kr k ri : Nat} {en : List (Nat × Nat × Nat)} (hE : EV kr k en) (hk : k < 300) (hk1 : 19 ≤ kr) (hk2 : kr < k) (hl : en.length ≤ 1000) (hr : ri < 256) : ∃ x en2 k2, tokM (tsv kr) ri en T4 k = some (x, en2, k2) ∧ k ≤ k2 ∧ k2 ≤ k + 1 ∧ EV kr k2 en2 ∧ en2.length ≤ en.length + 1 ∧ ∃ p, kr ≤ p ∧ x = tsv p := by
  by_cases h : ri = 255
  · exact ⟨tsv kr, en, k, by rw [tokM, if_pos h, Nat.mod_eq_of_lt (tsv_lt (by omega))], Nat.le_refl _, by omega, hE, by omega, kr, Nat.le_refl _, rfl⟩
  · rw [tokM, if_neg h, askM]
    cases hf : en.find? (fun y => y.1 == 1 && y.2.1 == mxr (tsv kr) ri % 281474976710656) with
    | some y =>
      have h1 := List.find?_some hf
      rw [Bool.and_eq_true, beq_iff_eq, beq_iff_eq] at h1
      rcases hE y (List.mem_of_find?_eq_some hf) h1.1 with ⟨rr, q1, q2⟩ | ⟨p, q1, q2, q3⟩
      · exfalso
        have a1 := mx_hi (s := tsv 17) (ri := rr) (tsv_lt (by omega)) q1
        have a2 := mx_hi (s := tsv kr) (ri := ri) (tsv_lt (by omega)) hr
        rw [← h1.2, q2, a1, tsv_hi, tsv_hi] at a2
        omega
      · exact ⟨y.2.2, en, k, rfl, Nat.le_refl _, by omega, hE, by omega, p, by omega, q3⟩
    | none =>
      dsimp only
      rw [ts_at (by omega)]; dsimp only
      rw [if_pos (by omega)]
      refine ⟨tsv k, _, k + 1, rfl, by omega, Nat.le_refl _, ?_, by rw [List.length_append]; exact Nat.le_refl _, k, by omega, rfl⟩
      intro e he h1
      rcases List.mem_append.1 he with he | he
      · rcases hE e he h1 with q | ⟨p, q1, q2, q3⟩
        · exact .inl q
        · exact .inr ⟨p, q1, by omega, q3⟩
      · rw [List.mem_singleton.1 he]; exact .inr ⟨k, hk2, by omega, rfl⟩
def OS0 : List (Bool × Nat × Int × Int × Int) := [(true, tsv 16, 0, -1, 24), (true, tsv 17, 0, 0, 24), (true, tsv 18, 0, 1, 24)]
def OS1 (s : Nat) : List (Bool × Nat × Int × Int × Int) := [(true, tsv 16, 0, -1, 24), (true, s, 1, 0, 24), (true, tsv 18, 0, 1, 24)]
def FO (os : List (Bool × Nat × Int × Int × Int)) (l : List UInt8) : Srv := .file os [(0, l), (1, l)] 2 (0 + l.length + l.length)
theorem sv_restrict {l : List UInt8} {en en2 : List (Nat × Nat × Nat)} {k k2 n x : Nat} {a : MN} {q : Nat} (ha : capn a = (tsv 15, 1, 255, tsv 17)) (hq : q < 256) (ht : tokM (tsv 17) q en T4 k = some (x, en2, k2)) : svM (FO OS0 l) (tsv 15) en T4 k (MQ n (rsM a q)) = some (FO OS0 l, en2, k2, ⟨tsv 1, tsv 15, n + 1, 3, 0, tsv 15, 1, q, x, 0, []⟩) := by
  obtain ⟨to, rp, id, op, st, po, ob, ri, ck, ar, da⟩ := a
  injection ha with h1 ha; injection ha with h2 ha; injection ha with h3 h4
  dsimp only at h1 h2 h3 h4
  subst h1; subst h2; subst h3; subst h4
  show (if (tsv 15 : Nat) = tsv 15 ∧ tsv 17 < 2 ^ 64 ∧ OS0.length ≤ 64 then _ else none) = _
  rw [if_pos ⟨rfl, by decide, by decide⟩]
  show (if (255 : Nat) = 255 ∧ tsv 17 % 281474976710656 = tsv 17 ∧ q < 256 then (match tokM (tsv 17) q en T4 k with
    | some (x, en2, k2) => some (FO OS0 l, en2, k2, (⟨tsv 1, tsv 15, n + 1, 3, 0, tsv 15, 1, q, x, 0, []⟩ : MN))
    | none => none) else none) = _
  rw [if_pos ⟨rfl, by decide, hq⟩, ht]
theorem sv_revoke {l : List UInt8} {en : List (Nat × Nat × Nat)} {k n : Nat} {a : MN} (ha : capn a = (tsv 15, 1, 255, tsv 17)) (hk : k < 400) : svM (FO OS0 l) (tsv 15) en T4 k (MQ n (rvkM a)) = some (FO (OS1 (tsv k)) l, en, k + 1, ⟨tsv 1, tsv 15, n + 1, 4, 0, tsv 15, 1, 255, tsv k, 0, []⟩) := by
  obtain ⟨to, rp, id, op, st, po, ob, ri, ck, ar, da⟩ := a
  injection ha with h1 ha; injection ha with h2 ha; injection ha with h3 h4
  dsimp only at h1 h2 h3 h4
  subst h1; subst h2; subst h3; subst h4
  show (if (tsv 15 : Nat) = tsv 15 ∧ tsv 17 < 2 ^ 64 ∧ OS0.length ≤ 64 then _ else none) = _
  rw [if_pos ⟨rfl, by decide, by decide⟩]
  show (match T4[k]? with
    | some x => if (255 : Nat) = 255 ∧ tsv 17 % 281474976710656 = tsv 17 ∧ (0 : Int) ≤ 0 ∧ (0 : Int) < 1000000 then some (Srv.file (OS0.set 1 (true, x, 0 + 1, 0, 24)) [(0, l), (1, l)] 2 (0 + l.length + l.length), en, k + 1, (⟨tsv 1, tsv 15, n + 1, 4, 0, tsv 15, 1, 255, x, 0, []⟩ : MN)) else none
    | none => none) = _
  rw [ts_at hk]; dsimp only
  rw [if_pos ⟨rfl, by decide, by decide, by decide⟩]
  rfl
theorem sv_size {l : List UInt8} {en en2 : List (Nat × Nat × Nat)} {s k k2 n x ri ck : Nat} (hri : ri < 256) (hs : s < 281474976710656) (ht : tokM s ri en T4 k = some (x, en2, k2)) (hne : ¬ x = ck) : svM (FO (OS1 s) l) (tsv 15) en T4 k (MQ n (szM (tsv 15, 1, ri, ck))) = some (FO (OS1 s) l, en2, k2, ⟨tsv 1, tsv 15, n + 1, 102, 1, 0, 0, 0, 0, 0, []⟩) := by
  show (if (tsv 15 : Nat) = tsv 15 ∧ s < 2 ^ 64 ∧ (OS1 s).length ≤ 64 then _ else none) = _
  rw [if_pos ⟨rfl, by omega, by show 3 ≤ 64; decide⟩]
  show (if ri < 256 then (match tokM (s) ri en T4 k with
    | some (x, en2, k2) => if x = ck then none else some (FO (OS1 s) l, en2, k2, (⟨tsv 1, tsv 15, n + 1, 102, 1, 0, 0, 0, 0, 0, []⟩ : MN))
    | none => none) else none) = _
  rw [if_pos hri, ht]; dsimp only
  rw [if_neg hne]
theorem bsub_all (l : List UInt8) : bsub l 0 l.length = l := by rw [bsub, Nat.zero_add, List.take_length, List.drop_zero]
theorem sv_read {l : List UInt8} {en : List (Nat × Nat × Nat)} {s k n o ck : Nat} (hl : l.length ≤ 60) (hlt : s < 281474976710656) (ho : (o = 1 ∧ ck = s) ∨ (o = 2 ∧ ck = tsv 18)) : svM (FO (OS1 s) l) (tsv 15) en T4 k (MQ n (rdM (tsv 15) o 255 ck 0 l.length)) = some (FO (OS1 s) l, en, k, ⟨tsv 1, tsv 15, n + 1, 101, 0, 0, 0, 0, 0, 0, l⟩) := by
  have e1 : (0 * 4294967296 + l.length) % 4294967296 = l.length := by omega
  have e2 : (0 * 4294967296 + l.length) / 4294967296 = 0 := by omega
  rcases ho with ⟨rfl, hck⟩ | ⟨rfl, rfl⟩
  · have hck2 := hck.symm
    subst hck2
    show (if (tsv 15 : Nat) = tsv 15 ∧ s < 2 ^ 64 ∧ (OS1 s).length ≤ 64 then _ else none) = _
    rw [if_pos ⟨rfl, by omega, by show 3 ≤ 64; decide⟩]
    show (if (255 : Nat) = 255 ∧ s % 281474976710656 = s ∧ l.length ≤ 65536 ∧ (0 * 4294967296 + l.length) % 4294967296 ≤ 4096 ∧ (0 * 4294967296 + l.length) / 4294967296 + (0 * 4294967296 + l.length) % 4294967296 ≤ l.length then some (FO (OS1 s) l, en, k, (⟨tsv 1, tsv 15, n + 1, 101, 0, 0, 0, 0, 0, 0, bsub l ((0 * 4294967296 + l.length) / 4294967296) ((0 * 4294967296 + l.length) % 4294967296)⟩ : MN)) else none) = _
    rw [if_pos ⟨rfl, Nat.mod_eq_of_lt hlt, by omega, by omega, by omega⟩, e1, e2, bsub_all]
  · show (if (tsv 15 : Nat) = tsv 15 ∧ tsv 18 < 2 ^ 64 ∧ (OS1 s).length ≤ 64 then _ else none) = _
    rw [if_pos ⟨rfl, by decide, by show 3 ≤ 64; decide⟩]
    show (if (255 : Nat) = 255 ∧ tsv 18 % 281474976710656 = tsv 18 ∧ l.length ≤ 65536 ∧ (0 * 4294967296 + l.length) % 4294967296 ≤ 4096 ∧ (0 * 4294967296 + l.length) / 4294967296 + (0 * 4294967296 + l.length) % 4294967296 ≤ l.length then some (FO (OS1 s) l, en, k, (⟨tsv 1, tsv 15, n + 1, 101, 0, 0, 0, 0, 0, 0, bsub l ((0 * 4294967296 + l.length) / 4294967296) ((0 * 4294967296 + l.length) % 4294967296)⟩ : MN)) else none) = _
    rw [if_pos ⟨rfl, by decide, by omega, by omega, by omega⟩, e1, e2, bsub_all]
end Go.Proofs.YthiakdmhpfkjbaaGreatDoor

set_option linter.unusedVariables false
set_option linter.unusedSimpArgs false
set_option maxRecDepth 4000
namespace Go.Proofs.YthiakdmhpfkjbaaGreatDoor
open Go Go.SK
def vw (s : SY) (a b : MN) : Option (List UInt8 × List UInt8 × Bool) :=
  match s with
  | ⟨[.up st0 .none, .up st1 .other, .up st2 .other, .up st3 (.file os [(f0, d0), (f1, d1)] nx bb)], [], en, k⟩ => some (d0, d1, decide (st0.us.length = 0 ∧ st0.ps.length = 0 ∧ st0.gs.length = 0 ∧ st1.us.length = 0 ∧ st1.ps.length = 0 ∧ st2.us.length = 0 ∧ st2.ps.length = 0 ∧ st3.us.length = 0 ∧ st3.ps.length = 0 ∧ st3.gs.length = 0 ∧ st0.ca.length = 2 ∧ cal st0.ca ∧ st3.es.length = 2 ∧ (∀ y ∈ st3.es, y.id ≤ 2) ∧ (∀ e ∈ en, e.1 = 0) ∧ en.length ≤ 100 ∧ st0.c = C0 5 ∧ st0.pl = [(tsv 15, 3, 0)] ∧ st3.c = C3 3 ∧ os = OS0 ∧ f0 = 0 ∧ f1 = 1 ∧ nx = 2 ∧ bb = 0 + d0.length + d1.length ∧ k = 19 ∧ capn a = (tsv 15, 1, 255, tsv 17) ∧ capn b = (tsv 15, 2, 255, tsv 18)))
  | _ => none
def vwL (l : List UInt8) : Option (List UInt8 × List UInt8 × Bool) :=
  (netM 8).bind fun s0 => (upM s0 3).bind fun c => (transM T4 s0 (mkM c.r0 c.r1 c.r2 c.r3 l)).bind fun x => (transM T4 x.1 (mkM c.r0 c.r1 c.r2 c.r3 l)).bind fun y => if x.2.2 = true ∧ y.2.2 = true then vw y.1 x.2.1 y.2.1 else none
def ex2 (l : List UInt8) : Option (List UInt8 × List UInt8 × Bool) := some (l, l, true)
theorem vw_ex {s : SY} {a b : MN} {l : List UInt8} (h : vw s a b = ex2 l) : ∃ st0 st1 st2 st3 en, s = mq st0 st1 st2 st3 (FO OS0 l) [] en 19 ∧ QV 2 st0 st1 st2 st3 ∧ capn a = (tsv 15, 1, 255, tsv 17) ∧ capn b = (tsv 15, 2, 255, tsv 18) ∧ (∀ e ∈ en, e.1 = 0) ∧ en.length ≤ 100 := by
  unfold vw at h
  split at h
  · rename_i st0 st1 st2 st3 os f0 d0 f1 d1 nx bb en k
    rw [ex2] at h
    simp only [Option.some.injEq, Prod.mk.injEq] at h
    obtain ⟨q1, q2, q3⟩ := h
    obtain ⟨d1', d2', d3, d4, d5, d6, d7, d8, d9, d10, d11, d12, d13, d14, d15, d16, c0, pl, c3, e1, e2, e3, e4, e5, e6, q6, q7⟩ := of_decide_eq_true q3
    subst q1; subst q2; subst e1; subst e2; subst e3; subst e4; subst e5; subst e6
    refine ⟨st0, st1, st2, st3, en, rfl, ⟨List.eq_nil_of_length_eq_zero d1', List.eq_nil_of_length_eq_zero d2', List.eq_nil_of_length_eq_zero d3, List.eq_nil_of_length_eq_zero d4, List.eq_nil_of_length_eq_zero d5, List.eq_nil_of_length_eq_zero d6, List.eq_nil_of_length_eq_zero d7, List.eq_nil_of_length_eq_zero d8, List.eq_nil_of_length_eq_zero d9, List.eq_nil_of_length_eq_zero d10, ?_, ?_, ?_, ?_, pl, d11, d12, d13, d14⟩, q6, q7, d15, d16⟩
    · rw [c0]; rfl
    · rw [c0]; show 5 ≤ 1000 + 2; decide
    · rw [c3]; rfl
    · rw [c3]; show 3 ≤ 1000 + 2; decide
  · cases h
def CP (k : Nat) (c : Nat × Nat × Nat × Nat) : Prop := ∃ ri p, c = (tsv 15, 1, ri, tsv p) ∧ ri < 256 ∧ p < k
theorem mok {to rp id op st po ob ri ck ar : Nat} {da : List UInt8} (h1 : to < 281474976710656) (h2 : rp < 281474976710656) (h3 : id < 4294967296) (h4 : op < 65536) (h5 : st < 65536) (h6 : po < 281474976710656) (h7 : ob < 16777216) (h8 : ri < 256) (h9 : ck < 281474976710656) (h10 : ar < 18446744073709551616) (h11 : da.length ≤ 4096) : (⟨to, rp, id, op, st, po, ob, ri, ck, ar, da⟩ : MN).ok := ⟨h1, h2, h3, h4, h5, h6, h7, h8, h9, h10, h11⟩
theorem rs_ok {a : MN} {q : Nat} (ha : capn a = (tsv 15, 1, 255, tsv 17)) (hq : q < 256) : (rsM a q).ok ∧ (rsM a q).to = tsv 15 ∧ (rsM a q).da.length = 0 := by
  obtain ⟨to, rp, id, op, st, po, ob, ri, ck, ar, da⟩ := a
  injection ha with h1 ha; injection ha with h2 ha; injection ha with h3 h4
  dsimp only at h1 h2 h3 h4
  subst h1; subst h2; subst h3; subst h4
  exact ⟨mok (to := tsv 15) (rp := 0) (id := 0) (op := 3) (st := 0) (po := tsv 15) (ob := 1) (ri := 255) (ck := tsv 17) (ar := q) (da := []) (by decide) (by decide) (by decide) (by decide) (by decide) (by decide) (by decide) (by decide) (by decide) (by omega) (by decide), rfl, rfl⟩
theorem rvk_ok {a : MN} (ha : capn a = (tsv 15, 1, 255, tsv 17)) : (rvkM a).ok ∧ (rvkM a).to = tsv 15 ∧ (rvkM a).da.length = 0 := by
  obtain ⟨to, rp, id, op, st, po, ob, ri, ck, ar, da⟩ := a
  injection ha with h1 ha; injection ha with h2 ha; injection ha with h3 h4
  dsimp only at h1 h2 h3 h4
  subst h1; subst h2; subst h3; subst h4
  exact ⟨mok (to := tsv 15) (rp := 0) (id := 0) (op := 4) (st := 0) (po := tsv 15) (ob := 1) (ri := 255) (ck := tsv 17) (ar := 0) (da := []) (by decide) (by decide) (by decide) (by decide) (by decide) (by decide) (by decide) (by decide) (by decide) (by decide) (by decide), rfl, rfl⟩
theorem r_ok {n op st po ob ri ck : Nat} {l : List UInt8} (hn : n ≤ 100) (hop : op < 65536) (hst : st < 65536) (hpo : po < 281474976710656) (hob : ob < 16777216) (hri : ri < 256) (hck : ck < 281474976710656) (hl : l.length ≤ 60) : (⟨tsv 1, tsv 15, n + 1, op, st, po, ob, ri, ck, 0, l⟩ : MN).ok := ⟨by show tsv 1 < 281474976710656; decide, by show tsv 15 < 281474976710656; decide, by show n + 1 < 4294967296; omega, hop, hst, hpo, hob, hri, hck, by show (0 : Nat) < 18446744073709551616; decide, by show l.length ≤ 4096; omega⟩
theorem rss_all {l ms : List UInt8} {a : MN} {st0 st1 st2 st3 : NS} {en : List (Nat × Nat × Nat)} (hq : QV 2 st0 st1 st2 st3) (ha : capn a = (tsv 15, 1, 255, tsv 17)) (hE : EN 19 en) (hel : en.length ≤ 100) : ∀ j ≤ ms.length, ∃ st0' st3' en' k n cs, rssM a ms (mq st0 st1 st2 st3 (FO OS0 l) [] en 19) j = some (mq st0' st1 st2 st3' (FO OS0 l) [] en' k, cs) ∧ QV n st0' st1 st2 st3' ∧ n ≤ 2 + min j 4 ∧ 19 ≤ k ∧ k ≤ 19 + min j 4 ∧ EN k en' ∧ en'.length ≤ 100 + min j 4 ∧ cs.length ≤ 1 + min j 4 ∧ ∀ c ∈ cs, CP k c
  | 0, _ => ⟨st0, st3, en, 19, 2, [capn a], rfl, hq, by omega, by omega, by omega, hE, by omega, by show 1 ≤ _; omega, fun c hc => by rw [List.mem_singleton.1 hc, ha]; exact ⟨255, 17, rfl, by decide, by decide⟩⟩
  | j + 1, hj => by
    obtain ⟨st0', st3', en', k, n, cs, h1, h2, h3, h4, h5, h6, h7, h8, h9⟩ := rss_all (l := l) (ms := ms) hq ha hE hel j (by omega)
    by_cases hj4 : j < 4
    · obtain ⟨x, hx⟩ := get_ex (l := ms) (k := j) (by omega)
      have hx8 := UInt8.toNat_lt x
      obtain ⟨y, en2, k2, t1, t2, t3, t4, t5, t6⟩ := tok_a h6 (by omega) h4 (by omega) (ri := x.toNat) (by omega)
      obtain ⟨o1, o2, o3⟩ := rs_ok ha (q := x.toNat) (by omega)
      have hy : ∃ p, p < k2 ∧ y = tsv p := by
        rcases t6 with ⟨_, e⟩ | ⟨_, p, _, e1, e2⟩
        · exact ⟨17, by omega, e⟩
        · exact ⟨p, e1, e2⟩
      obtain ⟨p, hp, rfl⟩ := hy
      obtain ⟨sa, sb, g1, g2⟩ := step_q (fo := FO OS0 l) (fo2 := FO OS0 l) (en := en') (k := k) h2 (by omega) o2 o1 (by omega) (sv_restrict ha (by omega) t1) (r_ok (by omega) (by decide) (by decide) (by decide) (by decide) (by omega) (tsv_lt (by omega)) (Nat.zero_le _)) (Nat.zero_le _) rfl (by rw [o2]) rfl
      refine ⟨sa, sb, en2, k2, n + 1, cs ++ [(tsv 15, 1, x.toNat, tsv p)], ?_, g1, by omega, by omega, by omega, t4, by omega, by rw [List.length_append, List.length_singleton]; omega, ?_⟩
      · rw [rssM, h1]; dsimp only
        rw [if_pos hj4, hx]; dsimp only
        rw [g2]; dsimp only
        rw [if_pos ⟨rfl, rfl⟩]; rfl
      · intro c hc
        rcases List.mem_append.1 hc with hc | hc
        · obtain ⟨ri, q, e1, e2, e3⟩ := h9 c hc
          exact ⟨ri, q, e1, e2, by omega⟩
        · rw [List.mem_singleton.1 hc]; exact ⟨x.toNat, p, rfl, by omega, hp⟩
    · refine ⟨st0', st3', en', k, n, cs, ?_, h2, by omega, h4, by omega, h6, by omega, by omega, h9⟩
      rw [rssM, h1]; dsimp only
      rw [if_neg hj4]
theorem szs_all {l : List UInt8} {kr k0 n0 : Nat} {cs : List (Nat × Nat × Nat × Nat)} {st0 st1 st2 st3 : NS} {en : List (Nat × Nat × Nat)} (hq : QV n0 st0 st1 st2 st3) (hE : EV kr k0 en) (hel : en.length ≤ 200) (hkr : 19 ≤ kr) (hkk : kr < k0) (hk0 : k0 ≤ 30) (hn0 : n0 ≤ 20) (hcs : ∀ c ∈ cs, CP kr c) (hcl : cs.length ≤ 5) : ∀ j ≤ cs.length, ∃ st0' st3' en' k n, szsM cs (mq st0 st1 st2 st3 (FO (OS1 (tsv kr)) l) [] en k0) j = some (mq st0' st1 st2 st3' (FO (OS1 (tsv kr)) l) [] en' k) ∧ QV n st0' st1 st2 st3' ∧ n ≤ n0 + j ∧ kr < k ∧ k ≤ k0 + j ∧ EV kr k en' ∧ en'.length ≤ 200 + j
  | 0, _ => ⟨st0, st3, en, k0, n0, rfl, hq, by omega, hkk, by omega, hE, by omega⟩
  | j + 1, hj => by
    obtain ⟨st0', st3', en', k, n, h1, h2, h3, h4, h5, h6, h7⟩ := szs_all (l := l) hq hE hel hkr hkk hk0 hn0 hcs hcl j (by omega)
    obtain ⟨c, hc⟩ := get_ex (l := cs) (k := j) (by omega)
    obtain ⟨ri, p, rfl, hri, hp⟩ := hcs c (List.mem_of_getElem? hc)
    obtain ⟨y, en2, k2, t1, t2, t3, t4, t5, q, hq1, rfl⟩ := tok_n h6 (by omega) hkr h4 (by omega) hri
    have hne : ¬ tsv q = tsv p := fun e => by have := tsv_inj e; omega
    have hpl := tsv_lt (p := p) (by omega)
    have o1 : (szM (tsv 15, 1, ri, tsv p)).ok := mok (to := tsv 15) (rp := 0) (id := 0) (op := 102) (st := 0) (po := tsv 15) (ob := 1) (ar := 0) (da := []) (by decide) (by decide) (by decide) (by decide) (by decide) (by decide) (by decide) hri hpl (by decide) (by decide)
    obtain ⟨sa, sb, g1, g2⟩ := step_q (fo := FO (OS1 (tsv kr)) l) (fo2 := FO (OS1 (tsv kr)) l) (en := en') (k := k) h2 (by omega) rfl o1 (Nat.zero_le _) (sv_size hri (tsv_lt (by omega)) t1 hne) (r_ok (by omega) (by decide) (by decide) (by decide) (by decide) (by decide) (by decide) (Nat.zero_le _)) (Nat.zero_le _) rfl rfl rfl
    refine ⟨sa, sb, en2, k2, n + 1, ?_, g1, by omega, by omega, by omega, t4, by omega⟩
    rw [szsM, h1]; dsimp only
    rw [hc]; dsimp only
    rw [g2]; dsimp only
    rw [if_pos ⟨rfl, rfl⟩]
theorem rv_all {ms l : List UInt8} (hl : l.length ≤ 60) (hv : vwL l = ex2 l) : RV ms l := by
  have h : vwL l = some (l, l, true) := hv
  unfold vwL at h
  obtain ⟨s0, h1, i1⟩ := Option.bind_eq_some_iff.1 h
  obtain ⟨c, h2, i2⟩ := Option.bind_eq_some_iff.1 i1
  obtain ⟨⟨s1, a, o1⟩, h3, i3⟩ := Option.bind_eq_some_iff.1 i2
  obtain ⟨⟨s2, b, o2⟩, h4, i4⟩ := Option.bind_eq_some_iff.1 i3
  clear i1 i2 i3 h hv
  dsimp only at i4 h4
  by_cases hc : o1 = true ∧ o2 = true
  · rw [if_pos hc] at i4
    obtain ⟨rfl, rfl⟩ := hc
    obtain ⟨st0, st1, st2, st3, en, rfl, hq, ha, hb, he0, hel⟩ := vw_ex (l := l) i4
    have hE : EN 19 en := fun e he h1 => by have := he0 e he; omega
    obtain ⟨t0, t3, en1, k, n, cs, r1, r2, r3, r4, r5, r6, r7, r8, r9⟩ := rss_all (l := l) (ms := ms) hq ha hE hel ms.length (Nat.le_refl _)
    obtain ⟨v1, v2, v3⟩ := rvk_ok ha
    have hk4 : k < 400 := by omega
    obtain ⟨u0, u3, g1, g2⟩ := step_q (fo := FO OS0 l) (fo2 := FO (OS1 (tsv k)) l) (en := en1) (k := k) r2 (by omega) v2 v1 (by omega) (sv_revoke ha hk4) (r_ok (by omega) (by decide) (by decide) (by decide) (by decide) (by decide) (tsv_lt hk4) (Nat.zero_le _)) (Nat.zero_le _) rfl (by rw [v2]) rfl
    have hEV : EV k (k + 1) en1 := fun e he h1 => by
      obtain ⟨rr, p, q1, q2, q3, q4, q5⟩ := r6 e he h1
      exact .inl ⟨rr, q1, q4⟩
    obtain ⟨x0, x3, en2, k2, n2, z1, z2, z3, z4, z5, z6, z7⟩ := szs_all (l := l) (cs := cs) g1 hEV (by omega) r4 (by omega) (by omega) (by omega) r9 (by omega) cs.length (Nat.le_refl _)
    have hkl := tsv_lt hk4
    have m1 : (rdM (tsv 15) 1 255 (tsv k) 0 l.length).ok := mok (to := tsv 15) (rp := 0) (id := 0) (op := 101) (st := 0) (po := tsv 15) (ob := 1) (ri := 255) (da := []) (by decide) (by decide) (by decide) (by decide) (by decide) (by decide) (by decide) (by decide) hkl (by omega) (by decide)
    have m2 : (rdM (tsv 15) 2 255 (tsv 18) 0 l.length).ok := mok (to := tsv 15) (rp := 0) (id := 0) (op := 101) (st := 0) (po := tsv 15) (ob := 2) (ri := 255) (ck := tsv 18) (da := []) (by decide) (by decide) (by decide) (by decide) (by decide) (by decide) (by decide) (by decide) (by decide) (by omega) (by decide)
    obtain ⟨y0, y3, d1, d2⟩ := step_q (fo := FO (OS1 (tsv k)) l) (fo2 := FO (OS1 (tsv k)) l) (en := en2) (k := k2) z2 (by omega) rfl m1 (Nat.zero_le _) (sv_read hl hkl (.inl ⟨rfl, rfl⟩)) (r_ok (by omega) (by decide) (by decide) (by decide) (by decide) (by decide) (by decide) hl) hl rfl rfl rfl
    obtain ⟨w0, w3, e1, e2⟩ := step_q (fo := FO (OS1 (tsv k)) l) (fo2 := FO (OS1 (tsv k)) l) (en := en2) (k := k2) d1 (by omega) rfl m2 (Nat.zero_le _) (sv_read hl hkl (.inr ⟨rfl, rfl⟩)) (r_ok (by omega) (by decide) (by decide) (by decide) (by decide) (by decide) (by decide) hl) hl rfl rfl rfl
    obtain ⟨bto, brp, bid, bop, bst, bpo, bob, bri, bck, bar, bda⟩ := b
    injection hb with h5 hb; injection hb with h6 hb; injection hb with h7 h8
    dsimp only at h5 h6 h7 h8
    subst h5; subst h6; subst h7; subst h8
    exact ⟨s0, c, s1, a, _, _, _, cs, _, _, _, _, _, _, _, h1, h2, h3, h4, r1, g2, rfl, by omega, z1, d2, e2, rfl, rfl, rfl, rfl⟩
  · rw [if_neg hc] at i4; cases i4
end Go.Proofs.YthiakdmhpfkjbaaGreatDoor

set_option linter.unusedVariables false
set_option linter.unusedSimpArgs false
set_option maxRecDepth 4000
namespace Go.Proofs.YthiakdmhpfkjbaaGreatDoor
open Go Go.SK
def encCap (x : Nat × Nat × Nat × Nat) : List Value := [vU x.1, vW x.2.1, vB x.2.2.1, vU x.2.2.2]
theorem encCap_ok : Enc encCap 4 := ⟨fun _ => rfl, fun x u hu => by simp only [encCap, List.mem_cons, List.not_mem_nil, or_false] at hu; rcases hu with rfl | rfl | rfl | rfl <;> rfl⟩
theorem min60 (n : Nat) : (if (60 : Int) < ((n : Nat) : Int) then (60 : Int) else ((n : Nat) : Int)) = ((min n 60 : Nat) : Int) := by split <;> omega
set_option maxHeartbeats 8000000 in
theorem topRevoked6 {w0 w : World} {F : List Chunk} (hS : St w0 w F) (hg : HG w0) {v0 v1 : Value} {ms l1 : List UInt8} (hr0 : RdS w0 F 1 v0 ms.length (rows encB ms)) (hr1 : RdS w0 F 1 v1 l1.length (rows encB l1)) (hall : ∀ l : List UInt8, l.length ≤ 60 → RV ms l) :
 Ret Tryz.prog 6 #[v0, v1] w (fun v w' => v = yT ∧ St w0 w' F) := by
 obtain ⟨B0, d0, rfl, hmd0, hdx0⟩ := (hr0 w hS).open'
 obtain ⟨B1, d1, rfl, hmd, hdx⟩ := (hr1 w hS).open'
 obtain ⟨l, hl⟩ : ∃ z, z = l1.take (min l1.length 60) := ⟨_, rfl⟩; have hlk : l.length = min l1.length 60 := by rw [hl, List.length_take]; omega
 have hl60 : l.length ≤ 60 := by omega
 obtain ⟨s0, c, s1, a1, s2, b1, s3, cs, s4, n1, s5, s6, x1, s7, y1, h1, h2, h3, h4, h5, h6, hn0, hcl, h7, h8, h9, hx0, hy0, hxd, hyd⟩ := hall l hl60
 refine enter (vs := [.slice B0 ms.length d0, .slice B1 l1.length d1]) 190 Tryz.func6 rfl rfl (by simp) ?_; intro a hA
 refine zs (zr (zR 1 ((4, yF) :: _) hA rfl fun a hA => zn (zx (zs (zs (zr ?_))))))
 refine st_call0 hA rfl rfl rfl isfn7 rfl rfl (by decide) (awake7 hg hS) ?_
 clear hA hS; rintro _ w1 a ⟨rfl, hS⟩ hA
 refine zR 1 ((29, yF) :: _) hA rfl fun a hA => zn (zx (cd_cond_f hA rfl (zk (zx (zs (zr ?_))))))
 refine st_call0 hA rfl rfl rfl isfn20 rfl rfl (by decide) (network20 hS (q := 127) (s := s0) (by rfl) (by decide) h1) ?_
 clear hA hS; rintro _ w2 a ⟨b3, L4, hY5, rfl, hS⟩ hA
 refine zR 5 ((6, yT) :: (5, vP b3 0) :: (33, yT) :: (32, vP b3 0) :: (30, .tuple #[vP b3 0, yT]) :: _) hA rfl fun a hA => zn (zx (zs (zr (zR 1 ((35, vP b3 0) :: _) hA rfl fun a hA => ?_))))
 replace hS := hS.m1.m1
 obtain ⟨st7, sr8, hu9, hc10⟩ := upM_some h2
 refine st_call0 hA rfl rfl rfl isfn11 rfl rfl (by decide) (sroot11 hS hY5 (i := 3) hu9) ?_
 rw [hc10]
 clear hA hS; rintro _ w6 a ⟨L11, hY12, rfl, hS⟩ hA
 refine zR 3 ((38, .bool (((c.port : Nat) : Int) != 0)) :: (37, .agg #[vU c.r0, vW c.r1, vB c.r2, vU c.r3]) :: (34, .tuple #[.agg #[vU c.r0, vW c.r1, vB c.r2, vU c.r3], .bool (((c.port : Nat) : Int) != 0)]) :: _) hA rfl fun a hA => ?_
 refine st_alloc tbOk hA hS [yU, yW, yB, yU] rfl rfl rfl rfl rfl (by decide) fun b14 w15 a hS hA => ?_
 refine st_store tbOk hA hS [vU c.r0, vW c.r1, vB c.r2, vU c.r3] [vU c.r0, vW c.r1, vB c.r2, vU c.r3] rfl rfl rfl rfl rfl rfl (zn1 rfl) (zle rfl) rfl rfl rfl fun w16 hS => ?_
 refine zR 1 ((8, .bool (((c.port : Nat) : Int) != 0)) :: _) hA rfl fun a hA => zn (zx (zs (zr (zR 4 ((42, .int .i64 (if 60 < ((l1.length : Nat) : Int) then 60 else ((l1.length : Nat) : Int))) :: (41, vI l1.length) :: (40, .slice B1 l1.length d1) :: (39, .slice B1 l1.length d1) :: _) hA rfl fun a hA => ?_))))
 replace hA := hA.rw 42 (v' := vI (min l1.length 60)) rfl (vint (min60 _))
 refine st_val hA rfl rfl (by decide) (rn_slice_h tbOk hA (min l1.length 60) rfl rfl rfl rfl rfl rfl (by rfl) (by omega)) fun a hA => ?_
 replace hA := hA.rw 43 (v' := .slice B1 ((l1.take (min l1.length 60)).length) d1) rfl (congrArg (fun m => Value.slice _ m _) (by rw [List.length_take]; omega))
 refine zR 1 ((1, .slice B1 ((l1.take (min l1.length 60)).length) d1) :: _) hA rfl fun a hA => zn (zx (zs (zr ?_)))
 have hr2 : RdS w0 F 1 (.slice B1 l.length d1) l.length (rows encB l) := by rw [hl]; exact fun w9 h9 => (hr1 w9 h9).rhead encB_ok (min l1.length 60) (by omega)
 replace hA := hA.rw 1 (v' := .slice B1 l.length d1) rfl (by rw [hl])
 refine zR 1 ((45, vP b3 0) :: _) hA rfl fun a hA => zLA hA hS 0 [vU c.r0, vW c.r1, vB c.r2, vU c.r3] rfl rfl rfl rfl rfl rfl rfl rfl rfl rfl fun a hA => zR 1 ((47, .slice B1 l.length d1) :: _) hA rfl fun a hA => ?_
 refine st_call0 hA rfl rfl rfl isfn13 rfl rfl (by decide) (stmake13 hS c.r0 c.r1 c.r2 c.r3 (da := l) (fun w' h => ((hr2 _ (h.tail 3 rfl))).x) (by first | omega | exact Nat.zero_le _ | (simp only [List.length_take, List.drop_zero]; omega) | decide)) ?_
 clear hA hS; rintro _ w17 a ⟨Am18, cm19, Cm20, hm21, rfl, hS⟩ hA
 replace hS := hS.m3.m3
 refine st_call0 hA rfl rfl rfl isfn18 rfl rfl (by decide) (trans18 hg hS hY12 (mkM c.r0 c.r1 c.r2 c.r3 l) (fun w9 h9 => (hm21.rd (h9.own_ 1 rfl)).x) h3) ?_
 clear hA hS; rintro _ w22 a ⟨L26, D28, Ar23, cr24, hY27, hX29, hr25, rfl, hS⟩ hA
 refine zR 3 ((51, yT) :: (50, .agg #[vU a1.to, vU a1.rp, vW a1.id, vH a1.op, vH a1.st, vU a1.po, vW a1.ob, vB a1.ri, vU a1.ck, vU a1.ar, .slice Ar23 a1.da.length cr24]) :: (44, .tuple #[.agg #[vU a1.to, vU a1.rp, vW a1.id, vH a1.op, vH a1.st, vU a1.po, vW a1.ob, vB a1.ri, vU a1.ck, vU a1.ar, .slice Ar23 a1.da.length cr24], yT]) :: _) hA rfl fun a hA => ?_
 refine st_alloc tbOk hA hS [yU, yU, yW, yH, yH, yU, yW, yB, yU, yU, yS] rfl rfl rfl rfl rfl (by decide) fun b30 w31 a hS hA => ?_
 refine st_store tbOk hA hS [vU a1.to, vU a1.rp, vW a1.id, vH a1.op, vH a1.st, vU a1.po, vW a1.ob, vB a1.ri, vU a1.ck, vU a1.ar, .slice Ar23 a1.da.length cr24] [vU a1.to, vU a1.rp, vW a1.id, vH a1.op, vH a1.st, vU a1.po, vW a1.ob, vB a1.ri, vU a1.ck, vU a1.ar, .slice Ar23 a1.da.length cr24] rfl rfl rfl rfl rfl rfl (zn1 rfl) (zle rfl) rfl rfl rfl fun w32 hS => ?_
 refine zR 1 ((10, yT) :: _) hA rfl fun a hA => zn (zx (zs (zr (zR 1 ((53, vP b3 0) :: _) hA rfl fun a hA => zLA hA hS 4 [vU c.r0, vW c.r1, vB c.r2, vU c.r3] rfl rfl rfl rfl rfl rfl rfl rfl rfl rfl fun a hA => zR 1 ((55, .slice B1 l.length d1) :: _) hA rfl fun a hA => ?_))))
 refine st_call0 hA rfl rfl rfl isfn13 rfl rfl (by decide) (stmake13 hS c.r0 c.r1 c.r2 c.r3 (da := l) (fun w' h => ((hr2 _ (h.tail 5 rfl))).x) (by first | omega | exact Nat.zero_le _ | (simp only [List.length_take, List.drop_zero]; omega) | decide)) ?_
 clear hA hS; rintro _ w33 a ⟨Am34, cm35, Cm36, hm37, rfl, hS⟩ hA
 replace hS := hS.m3.m3
 refine st_call0 hA rfl rfl rfl isfn18 rfl rfl (by decide) (trans18 hg hS hY27 (mkM c.r0 c.r1 c.r2 c.r3 l) (fun w9 h9 => (hm37.rd (h9.own_ 1 rfl)).x) h4) ?_
 clear hA hS; rintro _ w38 a ⟨L42, D44, Ar39, cr40, hY43, hX45, hr41, rfl, hS⟩ hA
 refine zR 3 ((59, yT) :: (58, .agg #[vU b1.to, vU b1.rp, vW b1.id, vH b1.op, vH b1.st, vU b1.po, vW b1.ob, vB b1.ri, vU b1.ck, vU b1.ar, .slice Ar39 b1.da.length cr40]) :: (52, .tuple #[.agg #[vU b1.to, vU b1.rp, vW b1.id, vH b1.op, vH b1.st, vU b1.po, vW b1.ob, vB b1.ri, vU b1.ck, vU b1.ar, .slice Ar39 b1.da.length cr40], yT]) :: _) hA rfl fun a hA => ?_
 refine st_alloc tbOk hA hS [yU, yU, yW, yH, yH, yU, yW, yB, yU, yU, yS] rfl rfl rfl rfl rfl (by decide) fun b46 w47 a hS hA => ?_
 refine st_store tbOk hA hS [vU b1.to, vU b1.rp, vW b1.id, vH b1.op, vH b1.st, vU b1.po, vW b1.ob, vB b1.ri, vU b1.ck, vU b1.ar, .slice Ar39 b1.da.length cr40] [vU b1.to, vU b1.rp, vW b1.id, vH b1.op, vH b1.st, vU b1.po, vW b1.ob, vB b1.ri, vU b1.ck, vU b1.ar, .slice Ar39 b1.da.length cr40] rfl rfl rfl rfl rfl rfl (zn1 rfl) (zle rfl) rfl rfl rfl fun w48 hS => ?_
 refine zR 1 ((12, yT) :: _) hA rfl fun a hA => zn (zx (zs (zr (zR 1 ((60, vP b30 5) :: _) hA rfl fun a hA => zLA hA hS 4 [vU a1.po, vW a1.ob, vB a1.ri, vU a1.ck] rfl rfl rfl rfl rfl rfl rfl rfl rfl rfl fun a hA => ?_))))
 refine st_buildSlice tbOk hA hS [vU a1.po, vW a1.ob, vB a1.ri, vU a1.ck] rfl rfl rfl rfl rfl (by decide) (by kernel_rfl) rfl rfl (by decide) fun b49 w50 a hS hA => ?_
 refine zR 1 ((13, .slice (some ⟨b49, 0, none⟩) 1 1) :: _) hA rfl fun a hA => zn (zx (zs (zs (zr ?_))))
 obtain ⟨Co, hOo, hS9⟩ : ∃ Cq, Own 39 4 (.slice (some ⟨b49, 0, none⟩) 1 1) 1 (rows encCap [capn a1]) Cq ∧ St w0 w50 (Cq :: [(b46, rowO [vU b1.to, vU b1.rp, vW b1.id, vH b1.op, vH b1.st, vU b1.po, vW b1.ob, vB b1.ri, vU b1.ck, vU b1.ar, .slice Ar39 b1.da.length cr40] 46)] :: L42 :: D44 :: Cm36 :: [(b30, rowO [vU a1.to, vU a1.rp, vW a1.id, vH a1.op, vH a1.st, vU a1.po, vW a1.ob, vB a1.ri, vU a1.ck, vU a1.ar, .slice Ar23 a1.da.length cr24] 46)] :: Cm20 :: [(b14, rowO [vU c.r0, vW c.r1, vB c.r2, vU c.r3] 39)] :: F) := ⟨_, Own.full rfl (by decide), hS⟩; clear hS; have hS := hS9; clear hS9
 generalize (some (⟨b49, 0, none⟩ : Addr)) = Ao at hOo hA
 refine zR 3 ((65, yI) :: (64, vI ms.length) :: (63, .slice B0 ms.length d0) :: _) hA rfl fun a hA => zn (zx (zb ?_))
 replace hS := hS.d7.d6.d4.m4.m1.m4.m4
 refine wp_loop_ghost (fun m a w => ∃ (j : Nat) (sj : SY) (csj : List (Nat × Nat × Nat × Nat)) (L' : Chunk) (D' : Chunk) (Aj : Option Addr) (cj : Nat) (Cj : Chunk), m = ms.length - j ∧ Has a 190 [(1, .slice B1 l.length d1), (5, vP b3 0), (9, vP b30 0), (10, yT), (11, vP b46 0), (12, yT), (13, .slice Aj csj.length cj), (63, .slice B0 ms.length d0), (64, vI ms.length), (65, vI j)] ∧ St w0 w (L' :: D' :: Cj :: [(b30, rowO [vU a1.to, vU a1.rp, vW a1.id, vH a1.op, vH a1.st, vU a1.po, vW a1.ob, vB a1.ri, vU a1.ck, vU a1.ar, .slice Ar23 a1.da.length cr24] 46)] :: [(b46, rowO [vU b1.to, vU b1.rp, vW b1.id, vH b1.op, vH b1.st, vU b1.po, vW b1.ob, vB b1.ri, vU b1.ck, vU b1.ar, .slice Ar39 b1.da.length cr40] 46)] :: F) ∧ (j ≤ ms.length) ∧ (rssM a1 ms s2 j = some (sj, csj)) ∧ (SYS w0 b3 (cutl (spread 400)) sj L' D') ∧ (Own 39 4 (.slice Aj csj.length cj) csj.length (rows encCap csj) Cj)) (ms.length - 0)
  ⟨0, s2, ([capn a1]), L42, D44, Ao, 1, Co, rfl, (hA.sel [1, 5, 9, 10, 11, 12, 13, 63, 64, 65] rfl), hS, Nat.zero_le _, rfl, hY43, hOo⟩ ?_
 clear hA hS; rintro m0 a w51 ⟨j, sj, csj, L', D', Aj, cj, Cj, rfl, hA, hS, hj, hR, hYj, hOj⟩
 refine zs (zr (zR 1 ((66, .bool (decide (((j : Nat) : Int) < ((ms.length : Nat) : Int)))) :: _) hA rfl fun a hA => zn (zx (zs ?_))))
 by_cases hc52 : ((j : Nat) : Int) < ((ms.length : Nat) : Int)
 · first
   | (exfalso; omega)
   | (replace hA := hA.rw 66 (v' := yT) rfl (vb_true hc52)
      refine cd_cond_t hA rfl (zk (zx (zs (zb (zs (zr (zR 1 ((67, vI j) :: _) hA rfl fun a hA => ?_)))))))
      obtain ⟨b53, o54, rfl⟩ := (hr0 _ (hS.tail 5 rfl)).isSome (k := j) (by omega)
      refine st_val hA rfl rfl (by decide) (rn_indexAddr tbOk hA j (o54 + j) rfl rfl rfl rfl rfl rfl (by rfl) (by omega) (by first | rfl | simp [Nat.mul_one, Nat.zero_add] | omega)) fun a hA => ?_
      obtain ⟨x55, hx55⟩ := get_ex (l := ms) (k := j) (by omega)
      have hbx55 : x55.toNat < 256 := UInt8.toNat_lt x55
      refine st_val hA rfl rfl (by decide) (rn_load tbOk hA rfl rfl rfl rfl ((hr0 _ (hS.tail 5 rfl)).elem0 (k := j) encB_ok hx55 rfl)) fun a hA => zR 2 ((15, vB x55.toNat) :: (14, vI j) :: _) hA rfl fun a hA => zn (zx (zs (zr (zR 2 ((71, .bool (decide (((j : Nat) : Int) < 4))) :: (70, vI j) :: _) hA rfl fun a hA => zn (zx ?_)))))
      by_cases hc56 : ((j : Nat) : Int) < 4
      · first
        | (exfalso; omega)
        | (replace hA := hA.rw 71 (v' := yT) rfl (vb_true hc56)
           refine cd_cond_t hA rfl (zs (zr ?_))
           obtain ⟨y9, hj9⟩ := rssM_le h5 (j + 1) (by omega); obtain ⟨xj, sb, rj, hxj, ht, hrs, rfl⟩ := rssM_lt hR (by omega) hj9; rw [hx55] at hxj; injection hxj with hxj; subst hxj; have hx8 := UInt8.toNat_lt x55; have hcsl := rssM_len hR
           refine zR 2 ((74, vP b30 5) :: (73, vP b3 0) :: _) hA rfl fun a hA => zLA hA hS 3 [vU a1.po, vW a1.ob, vB a1.ri, vU a1.ck] rfl rfl rfl rfl rfl rfl rfl rfl rfl rfl fun a hA => zR 1 ((76, vB x55.toNat) :: _) hA rfl fun a hA => ?_
           refine st_call0 hA rfl rfl rfl isfn22 rfl rfl (by decide) (strestrict22 hS a1.po a1.ob a1.ri a1.ck (by omega)) ?_
           clear hA hS; rintro _ w57 a ⟨Am58, cm59, Cm60, hm61, rfl, hS⟩ hA
           replace hS := hS.m2.m2
           refine st_call0 hA rfl rfl rfl isfn18 rfl rfl (by decide) (trans18 hg hS hYj (rsM a1 x55.toNat) (fun w9 h9 => (hm61.rd (h9.own_ 1 rfl)).x) ht) ?_
           clear hA hS; rintro _ w62 a ⟨L66, D68, Ar63, cr64, hY67, hX69, hr65, rfl, hS⟩ hA
           refine zR 3 ((80, yT) :: (79, .agg #[vU rj.to, vU rj.rp, vW rj.id, vH rj.op, vH rj.st, vU rj.po, vW rj.ob, vB rj.ri, vU rj.ck, vU rj.ar, .slice Ar63 rj.da.length cr64]) :: (72, .tuple #[.agg #[vU rj.to, vU rj.rp, vW rj.id, vH rj.op, vH rj.st, vU rj.po, vW rj.ob, vB rj.ri, vU rj.ck, vU rj.ar, .slice Ar63 rj.da.length cr64], yT]) :: _) hA rfl fun a hA => ?_
           refine st_alloc tbOk hA hS [yU, yU, yW, yH, yH, yU, yW, yB, yU, yU, yS] rfl rfl rfl rfl rfl (by decide) fun b70 w71 a hS hA => ?_
           refine st_store tbOk hA hS [vU rj.to, vU rj.rp, vW rj.id, vH rj.op, vH rj.st, vU rj.po, vW rj.ob, vB rj.ri, vU rj.ck, vU rj.ar, .slice Ar63 rj.da.length cr64] [vU rj.to, vU rj.rp, vW rj.id, vH rj.op, vH rj.st, vU rj.po, vW rj.ob, vB rj.ri, vU rj.ck, vU rj.ar, .slice Ar63 rj.da.length cr64] rfl rfl rfl rfl rfl rfl (zn1 rfl) (zle rfl) rfl rfl rfl fun w72 hS => ?_
           refine zR 1 ((17, yT) :: _) hA rfl fun a hA => zn (zx (zs (zs (zr (zR 4 ((84, vP b70 4) :: (83, yF) :: (82, yF) :: (81, yT) :: _) hA rfl fun a hA => zL hA hS 0 rfl rfl rfl rfl rfl rfl rfl rfl rfl fun a hA => zR 1 ((86, .bool (((rj.st : Nat) : Int) != 0)) :: _) hA rfl fun a hA => ?_)))))
           replace hA := hA.rw 86 (v' := yF) rfl (vbool (by rw [hrs]; rfl))
           refine zR 1 ((87, yF) :: _) hA rfl fun a hA => zn (zx (cd_cond_f hA rfl (zk (zx (zr (zR 2 ((89, vP b70 5) :: (88, .slice Aj csj.length cj) :: _) hA rfl fun a hA => zLA hA hS 0 [vU rj.po, vW rj.ob, vB rj.ri, vU rj.ck] rfl rfl rfl rfl rfl rfl rfl rfl rfl rfl fun a hA => ?_))))))
           refine st_buildSlice tbOk hA hS [vU rj.po, vW rj.ob, vB rj.ri, vU rj.ck] rfl rfl rfl rfl rfl (by decide) (by kernel_rfl) rfl rfl (by decide) fun b73 w74 a hS hA => ?_
           replace hS := hS.m5
           refine st_append tbOk hA (m := csj.length) (q := 1) (xs := rows encCap csj) (news := rows encCap ([(rj.po, rj.ob, rj.ri, rj.ck)] : List (Nat × Nat × Nat × Nat))) rfl rfl rfl rfl rfl rfl rfl rfl (by decide) hOj hS (((Own.full (T := 39) (size := 4) (g := b73) (m := 1) rfl (by decide)).rd (hS.own_ 1 rfl)).x) (rows_one encCap_ok _) (maxLen_le (by first | omega | (simp only [List.length_append, List.length_cons, List.length_nil]; omega))) (by show (csj.length + 1) * 24 ≤ 140737488355328; first | omega | (simp only [List.length_append, List.length_cons, List.length_nil]; omega)) rfl rfl (by decide) ?_
           clear hA hS; intro v75 w76 C77 a hO77 hS hA
           replace hO77 := Own.app (l := csj) (l2 := ([(rj.po, rj.ob, rj.ri, rj.ck)] : List (Nat × Nat × Nat × Nat))) hO77
           obtain ⟨A78, c79, rfl, hmc79, hxc79⟩ := hO77.open'
           refine zR 1 ((13, .slice A78 ((csj ++ ([(rj.po, rj.ob, rj.ri, rj.ck)] : List (Nat × Nat × Nat × Nat))).length) c79) :: _) hA rfl fun a hA => zn (zm (zx (zr (zR 1 ((93, .int .i64 (IntKind.i64.wrap (((j : Nat) : Int) + 1))) :: _) hA rfl fun a hA => ?_))))
           replace hA := hA.rw 93 (v' := vI (j + 1)) rfl (wr64 (by omega) (by omega) (by omega))
           refine zR 1 ((65, vI (j + 1)) :: _) hA rfl fun a hA => zn ?_
           replace hS := hS.d5.d2.d1.m2.m2
           have hO9 : Own 39 4 (.slice A78 (csj ++ [capn rj]).length c79) (csj ++ [capn rj]).length (rows encCap (csj ++ [capn rj])) C77 := hO77
           exact lp_next _ (by omega) ⟨(j + 1), sb, (csj ++ [capn rj]), L66, D68, A78, c79, C77, rfl, (hA.sel [1, 5, 9, 10, 11, 12, 13, 63, 64, 65] rfl), hS, by omega, hj9, hY67, hO9⟩)
      · first
        | (exfalso; omega)
        | (replace hA := hA.rw 71 (v' := yF) rfl (vb_false hc56)
           refine cd_cond_f hA rfl (zk (zm (zx (zr (zR 1 ((93, .int .i64 (IntKind.i64.wrap (((j : Nat) : Int) + 1))) :: _) hA rfl fun a hA => ?_)))))
           replace hA := hA.rw 93 (v' := vI (j + 1)) rfl (wr64 (by omega) (by omega) (by omega))
           refine zR 1 ((65, vI (j + 1)) :: _) hA rfl fun a hA => zn ?_
           obtain ⟨y9, hj9⟩ := rssM_le h5 (j + 1) (by omega); obtain rfl := rssM_ge hR (by omega) hj9
           exact lp_next _ (by omega) ⟨(j + 1), sj, csj, L', D', Aj, cj, Cj, rfl, (hA.sel [1, 5, 9, 10, 11, 12, 13, 63, 64, 65] rfl), hS, by omega, hj9, hYj, hOj⟩))
 · first
   | (exfalso; omega)
   | (replace hA := hA.rw 66 (v' := yF) rfl (vb_false hc52)
      refine cd_cond_f hA rfl ?_
      refine wp_exit ?_
      refine xt_exit (xt_exit (cd_exit_eq (zx (zs (zr ?_)))))
      have hj8 : j = ms.length := by omega
      subst hj8; rw [h5] at hR; injection hR with hR; injection hR with hR1 hR2; subst hR1; subst hR2
      refine zR 2 ((96, vP b30 5) :: (95, vP b3 0) :: _) hA rfl fun a hA => zLA hA hS 3 [vU a1.po, vW a1.ob, vB a1.ri, vU a1.ck] rfl rfl rfl rfl rfl rfl rfl rfl rfl rfl fun a hA => ?_
      refine st_call0 hA rfl rfl rfl isfn23 rfl rfl (by decide) (strevoke23 hS a1.po a1.ob a1.ri a1.ck) ?_
      clear hA hS; rintro _ w80 a ⟨Am81, cm82, Cm83, hm84, rfl, hS⟩ hA
      replace hS := hS.m2.m2
      refine st_call0 hA rfl rfl rfl isfn18 rfl rfl (by decide) (trans18 hg hS hYj (rvkM a1) (fun w9 h9 => (hm84.rd (h9.own_ 1 rfl)).x) h6) ?_
      clear hA hS; rintro _ w85 a ⟨L89, D91, Ar86, cr87, hY90, hX92, hr88, rfl, hS⟩ hA
      refine zR 3 ((101, yT) :: (100, .agg #[vU n1.to, vU n1.rp, vW n1.id, vH n1.op, vH n1.st, vU n1.po, vW n1.ob, vB n1.ri, vU n1.ck, vU n1.ar, .slice Ar86 n1.da.length cr87]) :: (94, .tuple #[.agg #[vU n1.to, vU n1.rp, vW n1.id, vH n1.op, vH n1.st, vU n1.po, vW n1.ob, vB n1.ri, vU n1.ck, vU n1.ar, .slice Ar86 n1.da.length cr87], yT]) :: _) hA rfl fun a hA => ?_
      refine st_alloc tbOk hA hS [yU, yU, yW, yH, yH, yU, yW, yB, yU, yU, yS] rfl rfl rfl rfl rfl (by decide) fun b93 w94 a hS hA => ?_
      refine st_store tbOk hA hS [vU n1.to, vU n1.rp, vW n1.id, vH n1.op, vH n1.st, vU n1.po, vW n1.ob, vB n1.ri, vU n1.ck, vU n1.ar, .slice Ar86 n1.da.length cr87] [vU n1.to, vU n1.rp, vW n1.id, vH n1.op, vH n1.st, vU n1.po, vW n1.ob, vB n1.ri, vU n1.ck, vU n1.ar, .slice Ar86 n1.da.length cr87] rfl rfl rfl rfl rfl rfl (zn1 rfl) (zle rfl) rfl rfl rfl fun w95 hS => ?_
      refine zR 1 ((19, yT) :: _) hA rfl fun a hA => zn (zx (zs (zs (zr (zR 12 ((113, vP b93 4) :: (112, yF) :: (111, yF) :: (110, yF) :: (109, yT) :: (108, yF) :: (107, yF) :: (106, yF) :: (105, yT) :: (104, yF) :: (103, yF) :: (102, yT) :: _) hA rfl fun a hA => zL hA hS 0 rfl rfl rfl rfl rfl rfl rfl rfl rfl fun a hA => zR 1 ((115, .bool (((n1.st : Nat) : Int) != 0)) :: _) hA rfl fun a hA => ?_)))))
      replace hA := hA.rw 115 (v' := yF) rfl (vbool (by rw [hn0]; rfl))
      refine zR 1 ((116, yF) :: _) hA rfl fun a hA => zn (zx (cd_cond_f hA rfl (zk (zx (zs (zs (zr (zR 3 ((119, yI) :: (118, vI cs.length) :: (117, .slice Aj cs.length cj) :: _) hA rfl fun a hA => zn (zx (zb ?_))))))))))
      replace hS := hS.d5.d3.m4.m4.m4.m4
      refine wp_loop_ghost (fun m a w => ∃ (i : Nat) (si : SY) (Li : Chunk) (Di : Chunk), m = cs.length - i ∧ Has a 190 [(1, .slice B1 l.length d1), (5, vP b3 0), (11, vP b46 0), (18, vP b93 0), (117, .slice Aj cs.length cj), (118, vI cs.length), (119, vI i)] ∧ St w0 w (Li :: Di :: Cj :: [(b46, rowO [vU b1.to, vU b1.rp, vW b1.id, vH b1.op, vH b1.st, vU b1.po, vW b1.ob, vB b1.ri, vU b1.ck, vU b1.ar, .slice Ar39 b1.da.length cr40] 46)] :: [(b93, rowO [vU n1.to, vU n1.rp, vW n1.id, vH n1.op, vH n1.st, vU n1.po, vW n1.ob, vB n1.ri, vU n1.ck, vU n1.ar, .slice Ar86 n1.da.length cr87] 46)] :: F) ∧ (i ≤ cs.length) ∧ (szsM cs s4 i = some si) ∧ (SYS w0 b3 (cutl (spread 400)) si Li Di)) (cs.length - 0)
       ⟨0, s4, L89, D91, rfl, (hA.sel [1, 5, 11, 18, 117, 118, 119] rfl), hS, Nat.zero_le _, rfl, hY90⟩ ?_
      clear hA hS; rintro m0 a w96 ⟨i, si, Li, Di, rfl, hA, hS, hi, hZ, hYi⟩
      refine zs (zr (zR 1 ((120, .bool (decide (((i : Nat) : Int) < ((cs.length : Nat) : Int)))) :: _) hA rfl fun a hA => zn (zx (zs ?_))))
      by_cases hc97 : ((i : Nat) : Int) < ((cs.length : Nat) : Int)
      · first
        | (exfalso; omega)
        | (replace hA := hA.rw 120 (v' := yT) rfl (vb_true hc97)
           refine cd_cond_t hA rfl (zk (zx (zs (zb (zs (zr ?_))))))
           obtain ⟨b98, o99, rfl⟩ := hOj.isSome (k := i) (by omega)
           refine st_val hA rfl rfl (by decide) (rn_indexAddr tbOk hA i (o99 + (i * 4)) rfl rfl rfl rfl rfl rfl (by rfl) (by omega) (by first | rfl | simp [Nat.mul_one, Nat.zero_add] | omega)) fun a hA => ?_
           obtain ⟨x100, hx100⟩ := get_ex (l := cs) (k := i) (by omega)
           obtain ⟨x100f0, x100f1, x100f2, x100f3⟩ := x100
           refine st_val hA rfl rfl (by decide) (rn_loadA tbOk hA ([vU x100f0, vW x100f1, vB x100f2, vU x100f3]) rfl rfl rfl rfl (by rfl) ((hOj.rd (hS.own_ 2 rfl)).elem (k := i) encCap_ok hx100)) fun a hA => ?_
           refine st_alloc tbOk hA hS [yU, yW, yB, yU] rfl rfl rfl rfl rfl (by decide) fun b101 w102 a hS hA => ?_
           refine st_store tbOk hA hS [vU x100f0, vW x100f1, vB x100f2, vU x100f3] [vU x100f0, vW x100f1, vB x100f2, vU x100f3] rfl rfl rfl rfl rfl rfl (zn1 rfl) (zle rfl) rfl rfl rfl fun w103 hS => ?_
           refine zn (zx (zs (zr ?_)))
           obtain ⟨y8, hi9⟩ := szsM_le h7 (i + 1) (by omega); obtain ⟨cq, rk, hcq, ht2, hrk⟩ := szsM_some hZ hi9; rw [hx100] at hcq; injection hcq with hcq; subst hcq
           refine zR 1 ((124, vP b3 0) :: _) hA rfl fun a hA => zLA hA hS 0 [vU x100f0, vW x100f1, vB x100f2, vU x100f3] rfl rfl rfl rfl rfl rfl rfl rfl rfl rfl fun a hA => ?_
           refine st_call0 hA rfl rfl rfl isfn24 rfl rfl (by decide) (stsize24 hS x100f0 x100f1 x100f2 x100f3) ?_
           clear hA hS; rintro _ w104 a ⟨Am105, cm106, Cm107, hm108, rfl, hS⟩ hA
           replace hS := hS.m3.m3
           refine st_call0 hA rfl rfl rfl isfn18 rfl rfl (by decide) (trans18 hg hS hYi (szM (x100f0, x100f1, x100f2, x100f3)) (fun w9 h9 => (hm108.rd (h9.own_ 1 rfl)).x) ht2) ?_
           clear hA hS; rintro _ w109 a ⟨L113, D115, Ar110, cr111, hY114, hX116, hr112, rfl, hS⟩ hA
           refine zR 3 ((129, yT) :: (128, .agg #[vU rk.to, vU rk.rp, vW rk.id, vH rk.op, vH rk.st, vU rk.po, vW rk.ob, vB rk.ri, vU rk.ck, vU rk.ar, .slice Ar110 rk.da.length cr111]) :: (123, .tuple #[.agg #[vU rk.to, vU rk.rp, vW rk.id, vH rk.op, vH rk.st, vU rk.po, vW rk.ob, vB rk.ri, vU rk.ck, vU rk.ar, .slice Ar110 rk.da.length cr111], yT]) :: _) hA rfl fun a hA => ?_
           refine st_alloc tbOk hA hS [yU, yU, yW, yH, yH, yU, yW, yB, yU, yU, yS] rfl rfl rfl rfl rfl (by decide) fun b117 w118 a hS hA => ?_
           refine st_store tbOk hA hS [vU rk.to, vU rk.rp, vW rk.id, vH rk.op, vH rk.st, vU rk.po, vW rk.ob, vB rk.ri, vU rk.ck, vU rk.ar, .slice Ar110 rk.da.length cr111] [vU rk.to, vU rk.rp, vW rk.id, vH rk.op, vH rk.st, vU rk.po, vW rk.ob, vB rk.ri, vU rk.ck, vU rk.ar, .slice Ar110 rk.da.length cr111] rfl rfl rfl rfl rfl rfl (zn1 rfl) (zle rfl) rfl rfl rfl fun w119 hS => ?_
           refine zR 1 ((23, yT) :: _) hA rfl fun a hA => zn (zx (zs (zr (zR 4 ((133, vP b117 4) :: (132, yF) :: (131, yF) :: (130, yT) :: _) hA rfl fun a hA => zL hA hS 0 rfl rfl rfl rfl rfl rfl rfl rfl rfl fun a hA => zR 1 ((135, .bool (((rk.st : Nat) : Int) != 1)) :: _) hA rfl fun a hA => ?_))))
           replace hA := hA.rw 135 (v' := yF) rfl (vbool (by rw [hrk]; rfl))
           refine zR 1 ((136, yF) :: _) hA rfl fun a hA => zn (zx (cd_cond_f hA rfl (zk (zm (zx (zr (zR 1 ((137, .int .i64 (IntKind.i64.wrap (((i : Nat) : Int) + 1))) :: _) hA rfl fun a hA => ?_)))))))
           replace hA := hA.rw 137 (v' := vI (i + 1)) rfl (wr64 (by omega) (by omega) (by omega))
           refine zR 1 ((119, vI (i + 1)) :: _) hA rfl fun a hA => zn ?_
           replace hS := hS.d4.d3.d0
           exact lp_next _ (by omega) ⟨(i + 1), y8, L113, D115, rfl, (hA.sel [1, 5, 11, 18, 117, 118, 119] rfl), hS, by omega, hi9, hY114⟩)
      · first
        | (exfalso; omega)
        | (replace hA := hA.rw 120 (v' := yF) rfl (vb_false hc97)
           refine cd_cond_f hA rfl ?_
           refine wp_exit ?_
           refine xt_exit (xt_exit (cd_exit_eq (zx (zs (zr ?_)))))
           have hi8 : i = cs.length := by omega
           subst hi8; rw [h7] at hZ; injection hZ with hZ; subst hZ
           refine zR 2 ((140, vP b93 5) :: (139, vP b3 0) :: _) hA rfl fun a hA => zLA hA hS 4 [vU n1.po, vW n1.ob, vB n1.ri, vU n1.ck] rfl rfl rfl rfl rfl rfl rfl rfl rfl rfl fun a hA => zR 3 ((144, .int .u32 (IntKind.u32.wrap ((l.length : Nat) : Int))) :: (143, vI l.length) :: (142, .slice B1 l.length d1) :: _) hA rfl fun a hA => ?_
           replace hA := hA.rw 144 (v' := vW l.length) rfl (vint (wrap_u32 (by omega) (by omega)))
           refine st_call0 hA rfl rfl rfl isfn25 rfl rfl (by decide) (stread25 hS n1.po n1.ob n1.ri n1.ck (p := 0) (n := l.length) (by omega) (by omega)) ?_
           clear hA hS; rintro _ w120 a ⟨Am121, cm122, Cm123, hm124, rfl, hS⟩ hA
           replace hS := hS.m2.m2
           refine st_call0 hA rfl rfl rfl isfn18 rfl rfl (by decide) (trans18 hg hS hYi (rdM n1.po n1.ob n1.ri n1.ck 0 l.length) (fun w9 h9 => (hm124.rd (h9.own_ 1 rfl)).x) h8) ?_
           clear hA hS; rintro _ w125 a ⟨L129, D131, Ar126, cr127, hY130, hX132, hr128, rfl, hS⟩ hA
           refine zR 3 ((148, yT) :: (147, .agg #[vU x1.to, vU x1.rp, vW x1.id, vH x1.op, vH x1.st, vU x1.po, vW x1.ob, vB x1.ri, vU x1.ck, vU x1.ar, .slice Ar126 x1.da.length cr127]) :: (138, .tuple #[.agg #[vU x1.to, vU x1.rp, vW x1.id, vH x1.op, vH x1.st, vU x1.po, vW x1.ob, vB x1.ri, vU x1.ck, vU x1.ar, .slice Ar126 x1.da.length cr127], yT]) :: _) hA rfl fun a hA => ?_
           refine st_alloc tbOk hA hS [yU, yU, yW, yH, yH, yU, yW, yB, yU, yU, yS] rfl rfl rfl rfl rfl (by decide) fun b133 w134 a hS hA => ?_
           refine st_store tbOk hA hS [vU x1.to, vU x1.rp, vW x1.id, vH x1.op, vH x1.st, vU x1.po, vW x1.ob, vB x1.ri, vU x1.ck, vU x1.ar, .slice Ar126 x1.da.length cr127] [vU x1.to, vU x1.rp, vW x1.id, vH x1.op, vH x1.st, vU x1.po, vW x1.ob, vB x1.ri, vU x1.ck, vU x1.ar, .slice Ar126 x1.da.length cr127] rfl rfl rfl rfl rfl rfl (zn1 rfl) (zle rfl) rfl rfl rfl fun w135 hS => ?_
           refine zR 1 ((25, yT) :: _) hA rfl fun a hA => zn (zx (zs (zr (zR 2 ((151, vP b46 5) :: (150, vP b3 0) :: _) hA rfl fun a hA => zLA hA hS 5 [vU b1.po, vW b1.ob, vB b1.ri, vU b1.ck] rfl rfl rfl rfl rfl rfl rfl rfl rfl rfl fun a hA => zR 3 ((155, .int .u32 (IntKind.u32.wrap ((l.length : Nat) : Int))) :: (154, vI l.length) :: (153, .slice B1 l.length d1) :: _) hA rfl fun a hA => ?_))))
           replace hA := hA.rw 155 (v' := vW l.length) rfl (vint (wrap_u32 (by omega) (by omega)))
           refine st_call0 hA rfl rfl rfl isfn25 rfl rfl (by decide) (stread25 hS b1.po b1.ob b1.ri b1.ck (p := 0) (n := l.length) (by omega) (by omega)) ?_
           clear hA hS; rintro _ w136 a ⟨Am137, cm138, Cm139, hm140, rfl, hS⟩ hA
           replace hS := hS.m3.m3
           refine st_call0 hA rfl rfl rfl isfn18 rfl rfl (by decide) (trans18 hg hS hY130 (rdM b1.po b1.ob b1.ri b1.ck 0 l.length) (fun w9 h9 => (hm140.rd (h9.own_ 1 rfl)).x) h9) ?_
           clear hA hS; rintro _ w141 a ⟨L145, D147, Ar142, cr143, hY146, hX148, hr144, rfl, hS⟩ hA
           refine zR 3 ((159, yT) :: (158, .agg #[vU y1.to, vU y1.rp, vW y1.id, vH y1.op, vH y1.st, vU y1.po, vW y1.ob, vB y1.ri, vU y1.ck, vU y1.ar, .slice Ar142 y1.da.length cr143]) :: (149, .tuple #[.agg #[vU y1.to, vU y1.rp, vW y1.id, vH y1.op, vH y1.st, vU y1.po, vW y1.ob, vB y1.ri, vU y1.ck, vU y1.ar, .slice Ar142 y1.da.length cr143], yT]) :: _) hA rfl fun a hA => ?_
           refine st_alloc tbOk hA hS [yU, yU, yW, yH, yH, yU, yW, yB, yU, yU, yS] rfl rfl rfl rfl rfl (by decide) fun b149 w150 a hS hA => ?_
           refine st_store tbOk hA hS [vU y1.to, vU y1.rp, vW y1.id, vH y1.op, vH y1.st, vU y1.po, vW y1.ob, vB y1.ri, vU y1.ck, vU y1.ar, .slice Ar142 y1.da.length cr143] [vU y1.to, vU y1.rp, vW y1.id, vH y1.op, vH y1.st, vU y1.po, vW y1.ob, vB y1.ri, vU y1.ck, vU y1.ar, .slice Ar142 y1.da.length cr143] rfl rfl rfl rfl rfl rfl (zn1 rfl) (zle rfl) rfl rfl rfl fun w151 hS => ?_
           refine zR 1 ((27, yT) :: _) hA rfl fun a hA => zn (zx (zs (zr (zR 6 ((165, vP b133 4) :: (164, yT) :: (163, yT) :: (162, yT) :: (161, yT) :: (160, yT) :: _) hA rfl fun a hA => zL hA hS 4 rfl rfl rfl rfl rfl rfl rfl rfl rfl fun a hA => zR 1 ((167, .bool (((x1.st : Nat) : Int) == 0)) :: _) hA rfl fun a hA => ?_))))
           replace hA := hA.rw 167 (v' := yT) rfl (vbool (by rw [hx0]; rfl))
           refine zR 3 ((170, vP b149 4) :: (169, yT) :: (168, yT) :: _) hA rfl fun a hA => zL hA hS 0 rfl rfl rfl rfl rfl rfl rfl rfl rfl fun a hA => zR 1 ((172, .bool (((y1.st : Nat) : Int) == 0)) :: _) hA rfl fun a hA => ?_
           replace hA := hA.rw 172 (v' := yT) rfl (vbool (by rw [hy0]; rfl))
           refine zR 3 ((175, vP b133 10) :: (174, yT) :: (173, yT) :: _) hA rfl fun a hA => zL hA hS 4 rfl rfl rfl rfl rfl rfl rfl rfl rfl fun a hA => st_val hA rfl rfl (by decide) (rn_bstr tbOk hA (bs := x1.da) rfl rfl rfl rfl rfl rfl rfl rfl ((hX148.dd hr128) _ (hS.only 2 rfl))) fun a hA => zR 1 ((178, .slice B1 l.length d1) :: _) hA rfl fun a hA => st_val hA rfl rfl (by decide) (rn_bstr tbOk hA (bs := l) rfl rfl rfl rfl rfl rfl rfl rfl (hr2 _ (hS.tail 9 rfl)).x) fun a hA => zR 1 ((180, .bool ((bsv x1.da).toList == (bsv l).toList)) :: _) hA rfl fun a hA => ?_
           replace hA := hA.rw 180 (v' := yT) rfl (vbool (by rw [hxd]; exact (bsv_eq l l).trans (by simp)))
           refine zR 3 ((183, vP b149 10) :: (182, yT) :: (181, yT) :: _) hA rfl fun a hA => zL hA hS 0 rfl rfl rfl rfl rfl rfl rfl rfl rfl fun a hA => st_val hA rfl rfl (by decide) (rn_bstr tbOk hA (bs := y1.da) rfl rfl rfl rfl rfl rfl rfl rfl (hr144 _ (hS.only 2 rfl))) fun a hA => zR 1 ((186, .slice B1 l.length d1) :: _) hA rfl fun a hA => st_val hA rfl rfl (by decide) (rn_bstr tbOk hA (bs := l) rfl rfl rfl rfl rfl rfl rfl rfl (hr2 _ (hS.tail 9 rfl)).x) fun a hA => zR 1 ((188, .bool ((bsv y1.da).toList == (bsv l).toList)) :: _) hA rfl fun a hA => ?_
           replace hA := hA.rw 188 (v' := yT) rfl (vbool (by rw [hyd]; exact (bsv_eq l l).trans (by simp)))
           refine zR 2 ((4, yT) :: (189, yT) :: _) hA rfl fun a hA => zn (zx ?_)
           refine wp_ret ?_
           refine ret1 (fn := Tryz.f6) hA rfl rfl ?_
           replace hS := hS.d0.d0.d0.d0.d0.d0.d0.d0.d0
           exact ⟨rfl, hS⟩))
end Go.Proofs.YthiakdmhpfkjbaaGreatDoor

set_option linter.unusedVariables false
set_option linter.unusedSimpArgs false
set_option maxRecDepth 4000
namespace Go.Proofs.YthiakdmhpfkjbaaGreatDoor
open Go Go.SK
set_option maxRecDepth 100000
theorem vw_0 : vwL [] = ex2 [] := by kernel_rfl
theorem vw_1 (a : UInt8) : vwL [a] = ex2 [a] := by kernel_rfl
theorem vw_2 (a b : UInt8) : vwL [a,b] = ex2 [a,b] := by kernel_rfl
theorem vw_3 (a b c : UInt8) : vwL [a,b,c] = ex2 [a,b,c] := by kernel_rfl
theorem vw_4 (a b c d : UInt8) : vwL [a,b,c,d] = ex2 [a,b,c,d] := by kernel_rfl
theorem vw_5 (a b c d e : UInt8) : vwL [a,b,c,d,e] = ex2 [a,b,c,d,e] := by kernel_rfl
theorem vw_6 (a b c d e f : UInt8) : vwL [a,b,c,d,e,f] = ex2 [a,b,c,d,e,f] := by kernel_rfl
theorem vw_7 (a b c d e f g : UInt8) : vwL [a,b,c,d,e,f,g] = ex2 [a,b,c,d,e,f,g] := by kernel_rfl
theorem vw_8 (a b c d e f g h : UInt8) : vwL [a,b,c,d,e,f,g,h] = ex2 [a,b,c,d,e,f,g,h] := by kernel_rfl
theorem vw_9 (a b c d e f g h i : UInt8) : vwL [a,b,c,d,e,f,g,h,i] = ex2 [a,b,c,d,e,f,g,h,i] := by kernel_rfl
theorem vw_10 (a b c d e f g h i j : UInt8) : vwL [a,b,c,d,e,f,g,h,i,j] = ex2 [a,b,c,d,e,f,g,h,i,j] := by kernel_rfl
theorem vw_11 (a b c d e f g h i j k : UInt8) : vwL [a,b,c,d,e,f,g,h,i,j,k] = ex2 [a,b,c,d,e,f,g,h,i,j,k] := by kernel_rfl
theorem vw_12 (a b c d e f g h i j k l : UInt8) : vwL [a,b,c,d,e,f,g,h,i,j,k,l] = ex2 [a,b,c,d,e,f,g,h,i,j,k,l] := by kernel_rfl
theorem vw_13 (a b c d e f g h i j k l m : UInt8) : vwL [a,b,c,d,e,f,g,h,i,j,k,l,m] = ex2 [a,b,c,d,e,f,g,h,i,j,k,l,m] := by kernel_rfl
theorem vw_14 (a b c d e f g h i j k l m n : UInt8) : vwL [a,b,c,d,e,f,g,h,i,j,k,l,m,n] = ex2 [a,b,c,d,e,f,g,h,i,j,k,l,m,n] := by kernel_rfl
theorem vw_15 (a b c d e f g h i j k l m n o : UInt8) : vwL [a,b,c,d,e,f,g,h,i,j,k,l,m,n,o] = ex2 [a,b,c,d,e,f,g,h,i,j,k,l,m,n,o] := by kernel_rfl
theorem vw_16 (a b c d e f g h i j k l m n o p : UInt8) : vwL [a,b,c,d,e,f,g,h,i,j,k,l,m,n,o,p] = ex2 [a,b,c,d,e,f,g,h,i,j,k,l,m,n,o,p] := by kernel_rfl
theorem vw_17 (a b c d e f g h i j k l m n o p q : UInt8) : vwL [a,b,c,d,e,f,g,h,i,j,k,l,m,n,o,p,q] = ex2 [a,b,c,d,e,f,g,h,i,j,k,l,m,n,o,p,q] := by kernel_rfl
theorem vw_18 (a b c d e f g h i j k l m n o p q r : UInt8) : vwL [a,b,c,d,e,f,g,h,i,j,k,l,m,n,o,p,q,r] = ex2 [a,b,c,d,e,f,g,h,i,j,k,l,m,n,o,p,q,r] := by kernel_rfl
theorem vw_19 (a b c d e f g h i j k l m n o p q r s : UInt8) : vwL [a,b,c,d,e,f,g,h,i,j,k,l,m,n,o,p,q,r,s] = ex2 [a,b,c,d,e,f,g,h,i,j,k,l,m,n,o,p,q,r,s] := by kernel_rfl
theorem vw_20 (a b c d e f g h i j k l m n o p q r s t : UInt8) : vwL [a,b,c,d,e,f,g,h,i,j,k,l,m,n,o,p,q,r,s,t] = ex2 [a,b,c,d,e,f,g,h,i,j,k,l,m,n,o,p,q,r,s,t] := by kernel_rfl
theorem vw_21 (a b c d e f g h i j k l m n o p q r s t u : UInt8) : vwL [a,b,c,d,e,f,g,h,i,j,k,l,m,n,o,p,q,r,s,t,u] = ex2 [a,b,c,d,e,f,g,h,i,j,k,l,m,n,o,p,q,r,s,t,u] := by kernel_rfl
theorem vw_22 (a b c d e f g h i j k l m n o p q r s t u v : UInt8) : vwL [a,b,c,d,e,f,g,h,i,j,k,l,m,n,o,p,q,r,s,t,u,v] = ex2 [a,b,c,d,e,f,g,h,i,j,k,l,m,n,o,p,q,r,s,t,u,v] := by kernel_rfl
theorem vw_23 (a b c d e f g h i j k l m n o p q r s t u v w : UInt8) : vwL [a,b,c,d,e,f,g,h,i,j,k,l,m,n,o,p,q,r,s,t,u,v,w] = ex2 [a,b,c,d,e,f,g,h,i,j,k,l,m,n,o,p,q,r,s,t,u,v,w] := by kernel_rfl
theorem vw_24 (a b c d e f g h i j k l m n o p q r s t u v w x : UInt8) : vwL [a,b,c,d,e,f,g,h,i,j,k,l,m,n,o,p,q,r,s,t,u,v,w,x] = ex2 [a,b,c,d,e,f,g,h,i,j,k,l,m,n,o,p,q,r,s,t,u,v,w,x] := by kernel_rfl
theorem vw_25 (a b c d e f g h i j k l m n o p q r s t u v w x y : UInt8) : vwL [a,b,c,d,e,f,g,h,i,j,k,l,m,n,o,p,q,r,s,t,u,v,w,x,y] = ex2 [a,b,c,d,e,f,g,h,i,j,k,l,m,n,o,p,q,r,s,t,u,v,w,x,y] := by kernel_rfl
theorem vw_26 (a b c d e f g h i j k l m n o p q r s t u v w x y z : UInt8) : vwL [a,b,c,d,e,f,g,h,i,j,k,l,m,n,o,p,q,r,s,t,u,v,w,x,y,z] = ex2 [a,b,c,d,e,f,g,h,i,j,k,l,m,n,o,p,q,r,s,t,u,v,w,x,y,z] := by kernel_rfl
theorem vw_27 (a b c d e f g h i j k l m n o p q r s t u v w x y z A : UInt8) : vwL [a,b,c,d,e,f,g,h,i,j,k,l,m,n,o,p,q,r,s,t,u,v,w,x,y,z,A] = ex2 [a,b,c,d,e,f,g,h,i,j,k,l,m,n,o,p,q,r,s,t,u,v,w,x,y,z,A] := by kernel_rfl
theorem vw_28 (a b c d e f g h i j k l m n o p q r s t u v w x y z A B : UInt8) : vwL [a,b,c,d,e,f,g,h,i,j,k,l,m,n,o,p,q,r,s,t,u,v,w,x,y,z,A,B] = ex2 [a,b,c,d,e,f,g,h,i,j,k,l,m,n,o,p,q,r,s,t,u,v,w,x,y,z,A,B] := by kernel_rfl
theorem vw_29 (a b c d e f g h i j k l m n o p q r s t u v w x y z A B C : UInt8) : vwL [a,b,c,d,e,f,g,h,i,j,k,l,m,n,o,p,q,r,s,t,u,v,w,x,y,z,A,B,C] = ex2 [a,b,c,d,e,f,g,h,i,j,k,l,m,n,o,p,q,r,s,t,u,v,w,x,y,z,A,B,C] := by kernel_rfl
theorem vw_30 (a b c d e f g h i j k l m n o p q r s t u v w x y z A B C D : UInt8) : vwL [a,b,c,d,e,f,g,h,i,j,k,l,m,n,o,p,q,r,s,t,u,v,w,x,y,z,A,B,C,D] = ex2 [a,b,c,d,e,f,g,h,i,j,k,l,m,n,o,p,q,r,s,t,u,v,w,x,y,z,A,B,C,D] := by kernel_rfl
theorem vw_31 (a b c d e f g h i j k l m n o p q r s t u v w x y z A B C D E : UInt8) : vwL [a,b,c,d,e,f,g,h,i,j,k,l,m,n,o,p,q,r,s,t,u,v,w,x,y,z,A,B,C,D,E] = ex2 [a,b,c,d,e,f,g,h,i,j,k,l,m,n,o,p,q,r,s,t,u,v,w,x,y,z,A,B,C,D,E] := by kernel_rfl
theorem vw_32 (a b c d e f g h i j k l m n o p q r s t u v w x y z A B C D E G : UInt8) : vwL [a,b,c,d,e,f,g,h,i,j,k,l,m,n,o,p,q,r,s,t,u,v,w,x,y,z,A,B,C,D,E,G] = ex2 [a,b,c,d,e,f,g,h,i,j,k,l,m,n,o,p,q,r,s,t,u,v,w,x,y,z,A,B,C,D,E,G] := by kernel_rfl
theorem vw_33 (a b c d e f g h i j k l m n o p q r s t u v w x y z A B C D E G H : UInt8) : vwL [a,b,c,d,e,f,g,h,i,j,k,l,m,n,o,p,q,r,s,t,u,v,w,x,y,z,A,B,C,D,E,G,H] = ex2 [a,b,c,d,e,f,g,h,i,j,k,l,m,n,o,p,q,r,s,t,u,v,w,x,y,z,A,B,C,D,E,G,H] := by kernel_rfl
theorem vw_34 (a b c d e f g h i j k l m n o p q r s t u v w x y z A B C D E G H I : UInt8) : vwL [a,b,c,d,e,f,g,h,i,j,k,l,m,n,o,p,q,r,s,t,u,v,w,x,y,z,A,B,C,D,E,G,H,I] = ex2 [a,b,c,d,e,f,g,h,i,j,k,l,m,n,o,p,q,r,s,t,u,v,w,x,y,z,A,B,C,D,E,G,H,I] := by kernel_rfl
theorem vw_35 (a b c d e f g h i j k l m n o p q r s t u v w x y z A B C D E G H I J : UInt8) : vwL [a,b,c,d,e,f,g,h,i,j,k,l,m,n,o,p,q,r,s,t,u,v,w,x,y,z,A,B,C,D,E,G,H,I,J] = ex2 [a,b,c,d,e,f,g,h,i,j,k,l,m,n,o,p,q,r,s,t,u,v,w,x,y,z,A,B,C,D,E,G,H,I,J] := by kernel_rfl
theorem vw_36 (a b c d e f g h i j k l m n o p q r s t u v w x y z A B C D E G H I J K : UInt8) : vwL [a,b,c,d,e,f,g,h,i,j,k,l,m,n,o,p,q,r,s,t,u,v,w,x,y,z,A,B,C,D,E,G,H,I,J,K] = ex2 [a,b,c,d,e,f,g,h,i,j,k,l,m,n,o,p,q,r,s,t,u,v,w,x,y,z,A,B,C,D,E,G,H,I,J,K] := by kernel_rfl
theorem vw_37 (a b c d e f g h i j k l m n o p q r s t u v w x y z A B C D E G H I J K L : UInt8) : vwL [a,b,c,d,e,f,g,h,i,j,k,l,m,n,o,p,q,r,s,t,u,v,w,x,y,z,A,B,C,D,E,G,H,I,J,K,L] = ex2 [a,b,c,d,e,f,g,h,i,j,k,l,m,n,o,p,q,r,s,t,u,v,w,x,y,z,A,B,C,D,E,G,H,I,J,K,L] := by kernel_rfl
theorem vw_38 (a b c d e f g h i j k l m n o p q r s t u v w x y z A B C D E G H I J K L M : UInt8) : vwL [a,b,c,d,e,f,g,h,i,j,k,l,m,n,o,p,q,r,s,t,u,v,w,x,y,z,A,B,C,D,E,G,H,I,J,K,L,M] = ex2 [a,b,c,d,e,f,g,h,i,j,k,l,m,n,o,p,q,r,s,t,u,v,w,x,y,z,A,B,C,D,E,G,H,I,J,K,L,M] := by kernel_rfl
theorem vw_39 (a b c d e f g h i j k l m n o p q r s t u v w x y z A B C D E G H I J K L M N : UInt8) : vwL [a,b,c,d,e,f,g,h,i,j,k,l,m,n,o,p,q,r,s,t,u,v,w,x,y,z,A,B,C,D,E,G,H,I,J,K,L,M,N] = ex2 [a,b,c,d,e,f,g,h,i,j,k,l,m,n,o,p,q,r,s,t,u,v,w,x,y,z,A,B,C,D,E,G,H,I,J,K,L,M,N] := by kernel_rfl
theorem vw_40 (a b c d e f g h i j k l m n o p q r s t u v w x y z A B C D E G H I J K L M N O : UInt8) : vwL [a,b,c,d,e,f,g,h,i,j,k,l,m,n,o,p,q,r,s,t,u,v,w,x,y,z,A,B,C,D,E,G,H,I,J,K,L,M,N,O] = ex2 [a,b,c,d,e,f,g,h,i,j,k,l,m,n,o,p,q,r,s,t,u,v,w,x,y,z,A,B,C,D,E,G,H,I,J,K,L,M,N,O] := by kernel_rfl
theorem vw_41 (a b c d e f g h i j k l m n o p q r s t u v w x y z A B C D E G H I J K L M N O P : UInt8) : vwL [a,b,c,d,e,f,g,h,i,j,k,l,m,n,o,p,q,r,s,t,u,v,w,x,y,z,A,B,C,D,E,G,H,I,J,K,L,M,N,O,P] = ex2 [a,b,c,d,e,f,g,h,i,j,k,l,m,n,o,p,q,r,s,t,u,v,w,x,y,z,A,B,C,D,E,G,H,I,J,K,L,M,N,O,P] := by kernel_rfl
theorem vw_42 (a b c d e f g h i j k l m n o p q r s t u v w x y z A B C D E G H I J K L M N O P Q : UInt8) : vwL [a,b,c,d,e,f,g,h,i,j,k,l,m,n,o,p,q,r,s,t,u,v,w,x,y,z,A,B,C,D,E,G,H,I,J,K,L,M,N,O,P,Q] = ex2 [a,b,c,d,e,f,g,h,i,j,k,l,m,n,o,p,q,r,s,t,u,v,w,x,y,z,A,B,C,D,E,G,H,I,J,K,L,M,N,O,P,Q] := by kernel_rfl
theorem vw_43 (a b c d e f g h i j k l m n o p q r s t u v w x y z A B C D E G H I J K L M N O P Q R : UInt8) : vwL [a,b,c,d,e,f,g,h,i,j,k,l,m,n,o,p,q,r,s,t,u,v,w,x,y,z,A,B,C,D,E,G,H,I,J,K,L,M,N,O,P,Q,R] = ex2 [a,b,c,d,e,f,g,h,i,j,k,l,m,n,o,p,q,r,s,t,u,v,w,x,y,z,A,B,C,D,E,G,H,I,J,K,L,M,N,O,P,Q,R] := by kernel_rfl
theorem vw_44 (a b c d e f g h i j k l m n o p q r s t u v w x y z A B C D E G H I J K L M N O P Q R S : UInt8) : vwL [a,b,c,d,e,f,g,h,i,j,k,l,m,n,o,p,q,r,s,t,u,v,w,x,y,z,A,B,C,D,E,G,H,I,J,K,L,M,N,O,P,Q,R,S] = ex2 [a,b,c,d,e,f,g,h,i,j,k,l,m,n,o,p,q,r,s,t,u,v,w,x,y,z,A,B,C,D,E,G,H,I,J,K,L,M,N,O,P,Q,R,S] := by kernel_rfl
theorem vw_45 (a b c d e f g h i j k l m n o p q r s t u v w x y z A B C D E G H I J K L M N O P Q R S T : UInt8) : vwL [a,b,c,d,e,f,g,h,i,j,k,l,m,n,o,p,q,r,s,t,u,v,w,x,y,z,A,B,C,D,E,G,H,I,J,K,L,M,N,O,P,Q,R,S,T] = ex2 [a,b,c,d,e,f,g,h,i,j,k,l,m,n,o,p,q,r,s,t,u,v,w,x,y,z,A,B,C,D,E,G,H,I,J,K,L,M,N,O,P,Q,R,S,T] := by kernel_rfl
theorem vw_46 (a b c d e f g h i j k l m n o p q r s t u v w x y z A B C D E G H I J K L M N O P Q R S T U : UInt8) : vwL [a,b,c,d,e,f,g,h,i,j,k,l,m,n,o,p,q,r,s,t,u,v,w,x,y,z,A,B,C,D,E,G,H,I,J,K,L,M,N,O,P,Q,R,S,T,U] = ex2 [a,b,c,d,e,f,g,h,i,j,k,l,m,n,o,p,q,r,s,t,u,v,w,x,y,z,A,B,C,D,E,G,H,I,J,K,L,M,N,O,P,Q,R,S,T,U] := by kernel_rfl
theorem vw_47 (a b c d e f g h i j k l m n o p q r s t u v w x y z A B C D E G H I J K L M N O P Q R S T U V : UInt8) : vwL [a,b,c,d,e,f,g,h,i,j,k,l,m,n,o,p,q,r,s,t,u,v,w,x,y,z,A,B,C,D,E,G,H,I,J,K,L,M,N,O,P,Q,R,S,T,U,V] = ex2 [a,b,c,d,e,f,g,h,i,j,k,l,m,n,o,p,q,r,s,t,u,v,w,x,y,z,A,B,C,D,E,G,H,I,J,K,L,M,N,O,P,Q,R,S,T,U,V] := by kernel_rfl
theorem vw_48 (a b c d e f g h i j k l m n o p q r s t u v w x y z A B C D E G H I J K L M N O P Q R S T U V W : UInt8) : vwL [a,b,c,d,e,f,g,h,i,j,k,l,m,n,o,p,q,r,s,t,u,v,w,x,y,z,A,B,C,D,E,G,H,I,J,K,L,M,N,O,P,Q,R,S,T,U,V,W] = ex2 [a,b,c,d,e,f,g,h,i,j,k,l,m,n,o,p,q,r,s,t,u,v,w,x,y,z,A,B,C,D,E,G,H,I,J,K,L,M,N,O,P,Q,R,S,T,U,V,W] := by kernel_rfl
theorem vw_49 (a b c d e f g h i j k l m n o p q r s t u v w x y z A B C D E G H I J K L M N O P Q R S T U V W X : UInt8) : vwL [a,b,c,d,e,f,g,h,i,j,k,l,m,n,o,p,q,r,s,t,u,v,w,x,y,z,A,B,C,D,E,G,H,I,J,K,L,M,N,O,P,Q,R,S,T,U,V,W,X] = ex2 [a,b,c,d,e,f,g,h,i,j,k,l,m,n,o,p,q,r,s,t,u,v,w,x,y,z,A,B,C,D,E,G,H,I,J,K,L,M,N,O,P,Q,R,S,T,U,V,W,X] := by kernel_rfl
theorem vw_50 (a b c d e f g h i j k l m n o p q r s t u v w x y z A B C D E G H I J K L M N O P Q R S T U V W X Y : UInt8) : vwL [a,b,c,d,e,f,g,h,i,j,k,l,m,n,o,p,q,r,s,t,u,v,w,x,y,z,A,B,C,D,E,G,H,I,J,K,L,M,N,O,P,Q,R,S,T,U,V,W,X,Y] = ex2 [a,b,c,d,e,f,g,h,i,j,k,l,m,n,o,p,q,r,s,t,u,v,w,x,y,z,A,B,C,D,E,G,H,I,J,K,L,M,N,O,P,Q,R,S,T,U,V,W,X,Y] := by kernel_rfl
theorem vw_51 (a b c d e f g h i j k l m n o p q r s t u v w x y z A B C D E G H I J K L M N O P Q R S T U V W X Y Z : UInt8) : vwL [a,b,c,d,e,f,g,h,i,j,k,l,m,n,o,p,q,r,s,t,u,v,w,x,y,z,A,B,C,D,E,G,H,I,J,K,L,M,N,O,P,Q,R,S,T,U,V,W,X,Y,Z] = ex2 [a,b,c,d,e,f,g,h,i,j,k,l,m,n,o,p,q,r,s,t,u,v,w,x,y,z,A,B,C,D,E,G,H,I,J,K,L,M,N,O,P,Q,R,S,T,U,V,W,X,Y,Z] := by kernel_rfl
theorem vw_52 (a b c d e f g h i j k l m n o p q r s t u v w x y z A B C D E G H I J K L M N O P Q R S T U V W X Y Z b0 : UInt8) : vwL [a,b,c,d,e,f,g,h,i,j,k,l,m,n,o,p,q,r,s,t,u,v,w,x,y,z,A,B,C,D,E,G,H,I,J,K,L,M,N,O,P,Q,R,S,T,U,V,W,X,Y,Z,b0] = ex2 [a,b,c,d,e,f,g,h,i,j,k,l,m,n,o,p,q,r,s,t,u,v,w,x,y,z,A,B,C,D,E,G,H,I,J,K,L,M,N,O,P,Q,R,S,T,U,V,W,X,Y,Z,b0] := by kernel_rfl
theorem vw_53 (a b c d e f g h i j k l m n o p q r s t u v w x y z A B C D E G H I J K L M N O P Q R S T U V W X Y Z b0 b1 : UInt8) : vwL [a,b,c,d,e,f,g,h,i,j,k,l,m,n,o,p,q,r,s,t,u,v,w,x,y,z,A,B,C,D,E,G,H,I,J,K,L,M,N,O,P,Q,R,S,T,U,V,W,X,Y,Z,b0,b1] = ex2 [a,b,c,d,e,f,g,h,i,j,k,l,m,n,o,p,q,r,s,t,u,v,w,x,y,z,A,B,C,D,E,G,H,I,J,K,L,M,N,O,P,Q,R,S,T,U,V,W,X,Y,Z,b0,b1] := by kernel_rfl
theorem vw_54 (a b c d e f g h i j k l m n o p q r s t u v w x y z A B C D E G H I J K L M N O P Q R S T U V W X Y Z b0 b1 b2 : UInt8) : vwL [a,b,c,d,e,f,g,h,i,j,k,l,m,n,o,p,q,r,s,t,u,v,w,x,y,z,A,B,C,D,E,G,H,I,J,K,L,M,N,O,P,Q,R,S,T,U,V,W,X,Y,Z,b0,b1,b2] = ex2 [a,b,c,d,e,f,g,h,i,j,k,l,m,n,o,p,q,r,s,t,u,v,w,x,y,z,A,B,C,D,E,G,H,I,J,K,L,M,N,O,P,Q,R,S,T,U,V,W,X,Y,Z,b0,b1,b2] := by kernel_rfl
theorem vw_55 (a b c d e f g h i j k l m n o p q r s t u v w x y z A B C D E G H I J K L M N O P Q R S T U V W X Y Z b0 b1 b2 b3 : UInt8) : vwL [a,b,c,d,e,f,g,h,i,j,k,l,m,n,o,p,q,r,s,t,u,v,w,x,y,z,A,B,C,D,E,G,H,I,J,K,L,M,N,O,P,Q,R,S,T,U,V,W,X,Y,Z,b0,b1,b2,b3] = ex2 [a,b,c,d,e,f,g,h,i,j,k,l,m,n,o,p,q,r,s,t,u,v,w,x,y,z,A,B,C,D,E,G,H,I,J,K,L,M,N,O,P,Q,R,S,T,U,V,W,X,Y,Z,b0,b1,b2,b3] := by kernel_rfl
theorem vw_56 (a b c d e f g h i j k l m n o p q r s t u v w x y z A B C D E G H I J K L M N O P Q R S T U V W X Y Z b0 b1 b2 b3 b4 : UInt8) : vwL [a,b,c,d,e,f,g,h,i,j,k,l,m,n,o,p,q,r,s,t,u,v,w,x,y,z,A,B,C,D,E,G,H,I,J,K,L,M,N,O,P,Q,R,S,T,U,V,W,X,Y,Z,b0,b1,b2,b3,b4] = ex2 [a,b,c,d,e,f,g,h,i,j,k,l,m,n,o,p,q,r,s,t,u,v,w,x,y,z,A,B,C,D,E,G,H,I,J,K,L,M,N,O,P,Q,R,S,T,U,V,W,X,Y,Z,b0,b1,b2,b3,b4] := by kernel_rfl
theorem vw_57 (a b c d e f g h i j k l m n o p q r s t u v w x y z A B C D E G H I J K L M N O P Q R S T U V W X Y Z b0 b1 b2 b3 b4 b5 : UInt8) : vwL [a,b,c,d,e,f,g,h,i,j,k,l,m,n,o,p,q,r,s,t,u,v,w,x,y,z,A,B,C,D,E,G,H,I,J,K,L,M,N,O,P,Q,R,S,T,U,V,W,X,Y,Z,b0,b1,b2,b3,b4,b5] = ex2 [a,b,c,d,e,f,g,h,i,j,k,l,m,n,o,p,q,r,s,t,u,v,w,x,y,z,A,B,C,D,E,G,H,I,J,K,L,M,N,O,P,Q,R,S,T,U,V,W,X,Y,Z,b0,b1,b2,b3,b4,b5] := by kernel_rfl
theorem vw_58 (a b c d e f g h i j k l m n o p q r s t u v w x y z A B C D E G H I J K L M N O P Q R S T U V W X Y Z b0 b1 b2 b3 b4 b5 b6 : UInt8) : vwL [a,b,c,d,e,f,g,h,i,j,k,l,m,n,o,p,q,r,s,t,u,v,w,x,y,z,A,B,C,D,E,G,H,I,J,K,L,M,N,O,P,Q,R,S,T,U,V,W,X,Y,Z,b0,b1,b2,b3,b4,b5,b6] = ex2 [a,b,c,d,e,f,g,h,i,j,k,l,m,n,o,p,q,r,s,t,u,v,w,x,y,z,A,B,C,D,E,G,H,I,J,K,L,M,N,O,P,Q,R,S,T,U,V,W,X,Y,Z,b0,b1,b2,b3,b4,b5,b6] := by kernel_rfl
theorem vw_59 (a b c d e f g h i j k l m n o p q r s t u v w x y z A B C D E G H I J K L M N O P Q R S T U V W X Y Z b0 b1 b2 b3 b4 b5 b6 b7 : UInt8) : vwL [a,b,c,d,e,f,g,h,i,j,k,l,m,n,o,p,q,r,s,t,u,v,w,x,y,z,A,B,C,D,E,G,H,I,J,K,L,M,N,O,P,Q,R,S,T,U,V,W,X,Y,Z,b0,b1,b2,b3,b4,b5,b6,b7] = ex2 [a,b,c,d,e,f,g,h,i,j,k,l,m,n,o,p,q,r,s,t,u,v,w,x,y,z,A,B,C,D,E,G,H,I,J,K,L,M,N,O,P,Q,R,S,T,U,V,W,X,Y,Z,b0,b1,b2,b3,b4,b5,b6,b7] := by kernel_rfl
theorem vw_60 (a b c d e f g h i j k l m n o p q r s t u v w x y z A B C D E G H I J K L M N O P Q R S T U V W X Y Z b0 b1 b2 b3 b4 b5 b6 b7 b8 : UInt8) : vwL [a,b,c,d,e,f,g,h,i,j,k,l,m,n,o,p,q,r,s,t,u,v,w,x,y,z,A,B,C,D,E,G,H,I,J,K,L,M,N,O,P,Q,R,S,T,U,V,W,X,Y,Z,b0,b1,b2,b3,b4,b5,b6,b7,b8] = ex2 [a,b,c,d,e,f,g,h,i,j,k,l,m,n,o,p,q,r,s,t,u,v,w,x,y,z,A,B,C,D,E,G,H,I,J,K,L,M,N,O,P,Q,R,S,T,U,V,W,X,Y,Z,b0,b1,b2,b3,b4,b5,b6,b7,b8] := by kernel_rfl
theorem vw_all (x : List UInt8) (h : x.length ≤ 60) : vwL x = ex2 x := by
  rcases x with _ | ⟨a0, x⟩
  · exact vw_0 ..
  rcases x with _ | ⟨a1, x⟩
  · exact vw_1 ..
  rcases x with _ | ⟨a2, x⟩
  · exact vw_2 ..
  rcases x with _ | ⟨a3, x⟩
  · exact vw_3 ..
  rcases x with _ | ⟨a4, x⟩
  · exact vw_4 ..
  rcases x with _ | ⟨a5, x⟩
  · exact vw_5 ..
  rcases x with _ | ⟨a6, x⟩
  · exact vw_6 ..
  rcases x with _ | ⟨a7, x⟩
  · exact vw_7 ..
  rcases x with _ | ⟨a8, x⟩
  · exact vw_8 ..
  rcases x with _ | ⟨a9, x⟩
  · exact vw_9 ..
  rcases x with _ | ⟨a10, x⟩
  · exact vw_10 ..
  rcases x with _ | ⟨a11, x⟩
  · exact vw_11 ..
  rcases x with _ | ⟨a12, x⟩
  · exact vw_12 ..
  rcases x with _ | ⟨a13, x⟩
  · exact vw_13 ..
  rcases x with _ | ⟨a14, x⟩
  · exact vw_14 ..
  rcases x with _ | ⟨a15, x⟩
  · exact vw_15 ..
  rcases x with _ | ⟨a16, x⟩
  · exact vw_16 ..
  rcases x with _ | ⟨a17, x⟩
  · exact vw_17 ..
  rcases x with _ | ⟨a18, x⟩
  · exact vw_18 ..
  rcases x with _ | ⟨a19, x⟩
  · exact vw_19 ..
  rcases x with _ | ⟨a20, x⟩
  · exact vw_20 ..
  rcases x with _ | ⟨a21, x⟩
  · exact vw_21 ..
  rcases x with _ | ⟨a22, x⟩
  · exact vw_22 ..
  rcases x with _ | ⟨a23, x⟩
  · exact vw_23 ..
  rcases x with _ | ⟨a24, x⟩
  · exact vw_24 ..
  rcases x with _ | ⟨a25, x⟩
  · exact vw_25 ..
  rcases x with _ | ⟨a26, x⟩
  · exact vw_26 ..
  rcases x with _ | ⟨a27, x⟩
  · exact vw_27 ..
  rcases x with _ | ⟨a28, x⟩
  · exact vw_28 ..
  rcases x with _ | ⟨a29, x⟩
  · exact vw_29 ..
  rcases x with _ | ⟨a30, x⟩
  · exact vw_30 ..
  rcases x with _ | ⟨a31, x⟩
  · exact vw_31 ..
  rcases x with _ | ⟨a32, x⟩
  · exact vw_32 ..
  rcases x with _ | ⟨a33, x⟩
  · exact vw_33 ..
  rcases x with _ | ⟨a34, x⟩
  · exact vw_34 ..
  rcases x with _ | ⟨a35, x⟩
  · exact vw_35 ..
  rcases x with _ | ⟨a36, x⟩
  · exact vw_36 ..
  rcases x with _ | ⟨a37, x⟩
  · exact vw_37 ..
  rcases x with _ | ⟨a38, x⟩
  · exact vw_38 ..
  rcases x with _ | ⟨a39, x⟩
  · exact vw_39 ..
  rcases x with _ | ⟨a40, x⟩
  · exact vw_40 ..
  rcases x with _ | ⟨a41, x⟩
  · exact vw_41 ..
  rcases x with _ | ⟨a42, x⟩
  · exact vw_42 ..
  rcases x with _ | ⟨a43, x⟩
  · exact vw_43 ..
  rcases x with _ | ⟨a44, x⟩
  · exact vw_44 ..
  rcases x with _ | ⟨a45, x⟩
  · exact vw_45 ..
  rcases x with _ | ⟨a46, x⟩
  · exact vw_46 ..
  rcases x with _ | ⟨a47, x⟩
  · exact vw_47 ..
  rcases x with _ | ⟨a48, x⟩
  · exact vw_48 ..
  rcases x with _ | ⟨a49, x⟩
  · exact vw_49 ..
  rcases x with _ | ⟨a50, x⟩
  · exact vw_50 ..
  rcases x with _ | ⟨a51, x⟩
  · exact vw_51 ..
  rcases x with _ | ⟨a52, x⟩
  · exact vw_52 ..
  rcases x with _ | ⟨a53, x⟩
  · exact vw_53 ..
  rcases x with _ | ⟨a54, x⟩
  · exact vw_54 ..
  rcases x with _ | ⟨a55, x⟩
  · exact vw_55 ..
  rcases x with _ | ⟨a56, x⟩
  · exact vw_56 ..
  rcases x with _ | ⟨a57, x⟩
  · exact vw_57 ..
  rcases x with _ | ⟨a58, x⟩
  · exact vw_58 ..
  rcases x with _ | ⟨a59, x⟩
  · exact vw_59 ..
  rcases x with _ | ⟨a60, x⟩
  · exact vw_60 ..
  simp only [List.length_cons] at h; omega
theorem topRevokedI {w0 w : World} {F : List Chunk} (hS : St w0 w F) (hg : HG w0) {v0 v1 : Value} {ms l1 : List UInt8} (hr0 : RdS w0 F 1 v0 ms.length (rows encB ms)) (hr1 : RdS w0 F 1 v1 l1.length (rows encB l1)) :
    Ret Tryz.prog 6 #[v0, v1] w (fun v w' => v = yT ∧ St w0 w' F) := topRevoked6 hS hg hr0 hr1 (fun l hl => rv_all hl (vw_all l hl))
end Go.Proofs.YthiakdmhpfkjbaaGreatDoor
