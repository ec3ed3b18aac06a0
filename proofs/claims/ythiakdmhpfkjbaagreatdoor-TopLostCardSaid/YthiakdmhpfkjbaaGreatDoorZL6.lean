import Derived.Test.YthiakdmhpfkjbaaGreatDoorZL5
set_option linter.unusedVariables false
set_option linter.unusedSimpArgs false
set_option linter.unusedVariables false
set_option linter.unusedSimpArgs false
set_option maxRecDepth 4000
namespace Go.Proofs.YthiakdmhpfkjbaaGreatDoor
open Go Go.SK
def get0M (s : SY) (k : Nat) : Option CA :=
  match (s.nx[0]? : Option NX) with
  | some (.up st _) => match st.ca[k]? with
    | some y => if st.ca.length ≤ 64 ∧ cal st.ca then some y else none
    | none => none
  | _ => none
theorem get0M_some {s : SY} {k : Nat} {y : CA} (h : get0M s k = some y) : ∃ st sr, s.nx[0]? = some (.up st sr) ∧ st.ca[k]? = some y ∧ st.ca.length ≤ 64 ∧ cal st.ca := by
  rw [get0M] at h
  cases hx : s.nx[0]? with
  | none => rw [hx] at h; cases h
  | some x =>
    cases x with
    | down c => rw [hx] at h; cases h
    | up st sr =>
      rw [hx] at h; dsimp only at h
      cases hy : st.ca[k]? with
      | none => rw [hy] at h; cases h
      | some z =>
        rw [hy] at h; dsimp only at h
        by_cases hc : st.ca.length ≤ 64 ∧ cal st.ca
        · rw [if_pos hc] at h; injection h with h; subst h; exact ⟨st, sr, rfl, hy, hc.1, hc.2⟩
        · rw [if_neg hc] at h; cases h
def transR (ts : List Nat) : Nat → SY → Nat → Option (SY × MN × Bool)
  | 0, s, _ => some (s, MN.zero, false)
  | f + 1, s, k => match settleM ts 2000 s 0 5000 with
    | none => none
    | some (s2, _) => match get0M s2 k with
      | none => none
      | some y =>
        if y.st = 3 then some (s2, MN.zero, false)
        else if y.st = 1 then
          (match ticksM s2 s2.nx.length with
          | none => none
          | some s3 => transR ts f s3 k)
        else some (s2, y.rp, true)
theorem transR_cases {ts : List Nat} {f k : Nat} {s s' : SY} {r : MN} {ok : Bool} (h : transR ts f s k = some (s', r, ok)) : (f = 0 ∧ s' = s ∧ r = MN.zero ∧ ok = false) ∨ (∃ f2 s2 d y, f = f2 + 1 ∧ settleM ts 2000 s 0 5000 = some (s2, d) ∧ get0M s2 k = some y ∧ ((y.st = 3 ∧ s' = s2 ∧ r = MN.zero ∧ ok = false) ∨ (y.st = 1 ∧ ∃ s3, ticksM s2 s2.nx.length = some s3 ∧ transR ts f2 s3 k = some (s', r, ok)) ∨ (¬ y.st = 3 ∧ ¬ y.st = 1 ∧ s' = s2 ∧ r = y.rp ∧ ok = true))) := by
  cases f with
  | zero => injection h with h; injection h with h1 h; injection h with h2 h3; exact .inl ⟨rfl, h1.symm, h2.symm, h3.symm⟩
  | succ f =>
    rw [transR] at h
    cases hs : settleM ts 2000 s 0 5000 with
    | none => rw [hs] at h; cases h
    | some q =>
      obtain ⟨s2, d⟩ := q
      rw [hs] at h; dsimp only at h
      cases hg : get0M s2 k with
      | none => rw [hg] at h; cases h
      | some y =>
        rw [hg] at h; dsimp only at h
        refine .inr ⟨f, s2, d, y, rfl, rfl, hg, ?_⟩
        by_cases h3 : y.st = 3
        · rw [if_pos h3] at h
          injection h with h; injection h with h1 h; injection h with h2 h4; exact .inl ⟨h3, h1.symm, h2.symm, h4.symm⟩
        · rw [if_neg h3] at h
          by_cases h1 : y.st = 1
          · rw [if_pos h1] at h
            cases ht : ticksM s2 s2.nx.length with
            | none => rw [ht] at h; cases h
            | some s3 => rw [ht] at h; exact .inr (.inl ⟨h1, s3, rfl, h⟩)
          · rw [if_neg h1] at h
            injection h with h; injection h with e1 h; injection h with e2 e3; exact .inr (.inr ⟨h3, h1, e1.symm, e2.symm, e3.symm⟩)
def callM (s : SY) (i : Nat) (m : MN) : Option (SY × Nat) :=
  match s.nx[i]? with
  | some (.up st sr) => match ncallM st m with
    | some (st', out) => if sendC s.wi out then some ({ s with nx := s.nx.set i (.up st' sr), wi := s.wi ++ out }, st.ca.length) else none
    | none => none
  | _ => none
theorem callM_some {s s' : SY} {i k : Nat} {m : MN} (h : callM s i m = some (s', k)) : ∃ st sr st' out, s.nx[i]? = some (.up st sr) ∧ ncallM st m = some (st', out) ∧ sendC s.wi out ∧ s' = { s with nx := s.nx.set i (.up st' sr), wi := s.wi ++ out } ∧ k = st.ca.length := by
  rw [callM] at h
  cases hx : s.nx[i]? with
  | none => rw [hx] at h; cases h
  | some x =>
    cases x with
    | down c => rw [hx] at h; cases h
    | up st sr =>
      rw [hx] at h; dsimp only at h
      cases hy : ncallM st m with
      | none => rw [hy] at h; cases h
      | some z =>
        obtain ⟨st', out⟩ := z
        rw [hy] at h; dsimp only at h
        by_cases hc : sendC s.wi out
        · rw [if_pos hc] at h; injection h with h; injection h with h1 h2; exact ⟨st, sr, st', out, rfl, hy, hc, h1.symm, h2.symm⟩
        · rw [if_neg hc] at h; cases h
def transM (ts : List Nat) (s : SY) (m : MN) : Option (SY × MN × Bool) :=
  match callM s 0 m with
  | none => none
  | some (s', k) => transR ts 6 s' k
theorem transM_some {ts : List Nat} {s s' : SY} {m r : MN} {ok : Bool} (h : transM ts s m = some (s', r, ok)) : ∃ s1 k, callM s 0 m = some (s1, k) ∧ transR ts 6 s1 k = some (s', r, ok) := by
  rw [transM] at h
  cases hc : callM s 0 m with
  | none => rw [hc] at h; cases h
  | some q => obtain ⟨s1, k⟩ := q; rw [hc] at h; exact ⟨s1, k, rfl, h⟩
def cfgN (p : Nat) : NC := ⟨0, 0, 2, p, 1, 5, 20, 10, 10, 0, 0, 0, 0, 0, 0, 0, 0⟩
def netM (p : Nat) : Option SY := ofM [0, 1, 2, 3] (cfgN p) (cutl (spread 400))
theorem cfg30 {w0 w : World} {F : List Chunk} (hS : St w0 w F) {q : Nat} (hq : q < 256) :
 Ret Tryz.prog 30 #[vB q, .int .u8 0, .int .u8 4, .int .u8 19, .int .u8 9] w (fun v w' => v = .agg #[vI ((cfgN (1 + q % 120)).no), vI ((cfgN (1 + q % 120)).pc), vI ((cfgN (1 + q % 120)).wa), vI ((cfgN (1 + q % 120)).tr), vI ((cfgN (1 + q % 120)).ag), vI ((cfgN (1 + q % 120)).pg), vI ((cfgN (1 + q % 120)).ro)] ∧ St w0 w' F) := by
 refine enter (vs := [vB q, .int .u8 0, .int .u8 4, .int .u8 19, .int .u8 9]) 32 Tryz.func30 rfl rfl (by simp) ?_; intro a hA
 refine zs (zr ?_)
 refine st_alloc tbOk hA hS [.int .i64 0, .int .i64 0, .int .i64 0, .int .i64 0, .int .i64 0, .int .i64 0, .int .i64 0] rfl rfl rfl rfl rfl (by decide) fun b1 w2 a hS hA => ?_
 refine zn (zx (zs (zr (zR 2 ((12, .int .u8 (((q : Nat) : Int).tmod 120)) :: (11, vB q) :: _) hA rfl fun a hA => ?_))))
 replace hA := hA.rw 12 (v' := vB (q % 120)) rfl (vint (Int.ofNat_tmod _ _).symm)
 refine zR 1 ((13, .int .i64 (IntKind.i64.wrap ((q % 120 : Nat) : Int))) :: _) hA rfl fun a hA => ?_
 replace hA := hA.rw 13 (v' := vI (q % 120)) rfl (wr64 (by first | rfl | omega) (by omega) (by omega))
 refine zR 1 ((14, .int .i64 (IntKind.i64.wrap (1 + ((q % 120 : Nat) : Int)))) :: _) hA rfl fun a hA => ?_
 replace hA := hA.rw 14 (v' := vI (1 + (q % 120))) rfl (wr64 (by omega) (by omega) (by omega))
 refine zR 2 ((16, .int .u8 ((0 : Int).tmod 5)) :: (15, .int .u8 0) :: _) hA rfl fun a hA => ?_
 replace hA := hA.rw 16 (v' := .int .u8 0) rfl (vint (by decide))
 refine zR 1 ((17, .int .i64 (IntKind.i64.wrap 0)) :: _) hA rfl fun a hA => ?_
 replace hA := hA.rw 17 (v' := .int .i64 0) rfl (wr64 (by first | rfl | omega) (by omega) (by omega))
 refine zR 1 ((18, .int .i64 (IntKind.i64.wrap (1 + 0))) :: _) hA rfl fun a hA => ?_
 replace hA := hA.rw 18 (v' := .int .i64 1) rfl (wr64 (by omega) (by omega) (by omega))
 refine zR 2 ((20, .int .u8 ((4 : Int).tmod 5)) :: (19, .int .u8 4) :: _) hA rfl fun a hA => ?_
 replace hA := hA.rw 20 (v' := .int .u8 4) rfl (vint (by decide))
 refine zR 1 ((21, .int .i64 (IntKind.i64.wrap 4)) :: _) hA rfl fun a hA => ?_
 replace hA := hA.rw 21 (v' := .int .i64 4) rfl (wr64 (by first | rfl | omega) (by omega) (by omega))
 refine zR 1 ((22, .int .i64 (IntKind.i64.wrap (1 + 4))) :: _) hA rfl fun a hA => ?_
 replace hA := hA.rw 22 (v' := .int .i64 5) rfl (wr64 (by omega) (by omega) (by omega))
 refine zR 2 ((24, .int .u8 ((19 : Int).tmod 20)) :: (23, .int .u8 19) :: _) hA rfl fun a hA => ?_
 replace hA := hA.rw 24 (v' := .int .u8 19) rfl (vint (by decide))
 refine zR 1 ((25, .int .i64 (IntKind.i64.wrap 19)) :: _) hA rfl fun a hA => ?_
 replace hA := hA.rw 25 (v' := .int .i64 19) rfl (wr64 (by first | rfl | omega) (by omega) (by omega))
 refine zR 1 ((26, .int .i64 (IntKind.i64.wrap (1 + 19))) :: _) hA rfl fun a hA => ?_
 replace hA := hA.rw 26 (v' := .int .i64 20) rfl (wr64 (by omega) (by omega) (by omega))
 refine zR 2 ((28, .int .u8 ((9 : Int).tmod 10)) :: (27, .int .u8 9) :: _) hA rfl fun a hA => ?_
 replace hA := hA.rw 28 (v' := .int .u8 9) rfl (vint (by decide))
 refine zR 1 ((29, .int .i64 (IntKind.i64.wrap 9)) :: _) hA rfl fun a hA => ?_
 replace hA := hA.rw 29 (v' := .int .i64 9) rfl (wr64 (by first | rfl | omega) (by omega) (by omega))
 refine zR 1 ((30, .int .i64 (IntKind.i64.wrap (1 + 9))) :: _) hA rfl fun a hA => ?_
 replace hA := hA.rw 30 (v' := .int .i64 10) rfl (wr64 (by omega) (by omega) (by omega))
 refine st_val hA rfl rfl (by decide) (rn_build tbOk hA rfl rfl rfl rfl rfl rfl rfl) fun a hA => ?_
 refine st_store tbOk hA hS [.int .i64 2, vI (1 + (q % 120)), .int .i64 1, .int .i64 5, .int .i64 20, .int .i64 10, .int .i64 10] [.int .i64 2, vI (1 + (q % 120)), .int .i64 1, .int .i64 5, .int .i64 20, .int .i64 10, .int .i64 10] rfl rfl rfl rfl rfl rfl (zn1 rfl) (zle rfl) rfl rfl rfl fun w3 hS => ?_
 refine zn (zx ?_)
 refine wp_ret ?_
 refine retc1 tbOk (fn := Tryz.f30) (cs := [.int .i64 2, vI (1 + (q % 120)), .int .i64 1, .int .i64 5, .int .i64 20, .int .i64 10, .int .i64 10]) hA rfl rfl rfl rfl rfl (cells_row (hS.heapAt 0 rfl) rfl) ?_
 replace hS := hS.d0
 exact ⟨rfl, hS⟩
theorem config9 {w0 w : World} {F : List Chunk} (hS : St w0 w F) {x : Int} {q : Nat} (hor : Go.bits .or .u8 x 31 = ((q : Nat) : Int)) (hq : q < 256) :
 Ret Tryz.prog 9 #[.int .u8 x] w (fun v w' => v = .agg #[vI ((cfgN (1 + q % 120)).no), vI ((cfgN (1 + q % 120)).pc), vI ((cfgN (1 + q % 120)).wa), vI ((cfgN (1 + q % 120)).tr), vI ((cfgN (1 + q % 120)).ag), vI ((cfgN (1 + q % 120)).pg), vI ((cfgN (1 + q % 120)).ro)] ∧ St w0 w' F) := by
 refine enter (vs := [.int .u8 x]) 6 Tryz.func9 rfl rfl (by simp) ?_; intro a hA
 refine zs (zr ?_)
 refine st_alloc tbOk hA hS [.int .i64 0, .int .i64 0, .int .i64 0, .int .i64 0, .int .i64 0, .int .i64 0, .int .i64 0] rfl rfl rfl rfl rfl (by decide) fun b1 w2 a hS hA => ?_
 refine zn (zx (zs (zr (zR 1 ((3, .int .u8 x) :: _) hA rfl fun a hA => st_val hA rfl rfl (by decide) (rn_or hA rfl rfl rfl) fun a hA => ?_))))
 replace hA := hA.rw 4 (v' := vB q) rfl (vint hor)
 refine st_call0 hA rfl rfl rfl isfn30 rfl rfl (by decide) (cfg30 hS hq) ?_
 clear hA hS; rintro _ w3 a ⟨rfl, hS⟩ hA
 refine st_store tbOk hA hS [vI ((cfgN (1 + q % 120)).no), vI ((cfgN (1 + q % 120)).pc), vI ((cfgN (1 + q % 120)).wa), vI ((cfgN (1 + q % 120)).tr), vI ((cfgN (1 + q % 120)).ag), vI ((cfgN (1 + q % 120)).pg), vI ((cfgN (1 + q % 120)).ro)] [vI ((cfgN (1 + q % 120)).no), vI ((cfgN (1 + q % 120)).pc), vI ((cfgN (1 + q % 120)).wa), vI ((cfgN (1 + q % 120)).tr), vI ((cfgN (1 + q % 120)).ag), vI ((cfgN (1 + q % 120)).pg), vI ((cfgN (1 + q % 120)).ro)] rfl rfl rfl rfl rfl rfl (zn1 rfl) (zle rfl) rfl rfl rfl fun w4 hS => ?_
 refine zn (zx ?_)
 refine wp_ret ?_
 refine retc1 tbOk (fn := Tryz.f9) (cs := [vI ((cfgN (1 + q % 120)).no), vI ((cfgN (1 + q % 120)).pc), vI ((cfgN (1 + q % 120)).wa), vI ((cfgN (1 + q % 120)).tr), vI ((cfgN (1 + q % 120)).ag), vI ((cfgN (1 + q % 120)).pg), vI ((cfgN (1 + q % 120)).ro)]) hA rfl rfl rfl rfl rfl (cells_row (hS.heapAt 0 rfl) rfl) ?_
 replace hS := hS.d0
 exact ⟨rfl, hS⟩
theorem network20 {w0 w : World} {F : List Chunk} (hS : St w0 w F) {x : Int} {q : Nat} {s : SY} (hor : Go.bits .or .u8 x 31 = ((q : Nat) : Int)) (hq : q < 256) (hM : netM (1 + q % 120) = some s) :
 Ret Tryz.prog 20 #[.int .u8 x] w (fun v w' => ∃ b L, SYS w0 b (cutl (spread 400)) s L [] ∧ v = .tuple #[vP b 0, .bool true] ∧ St w0 w' (L :: [] :: F)) := by
 refine enter (vs := [.int .u8 x]) 21 Tryz.func20 rfl rfl (by simp) ?_; intro a hA
 refine zs (zr (zR 2 ((3, .bool false) :: (2, .pointer none) :: _) hA rfl fun a hA => zn (zx (zs (zr ?_)))))
 refine st_buildSlice tbOk hA hS [.int .i64 0, .int .i64 1, .int .i64 2, .int .i64 3] rfl rfl rfl rfl rfl (by decide) (by kernel_rfl) rfl rfl (by decide) fun b1 w2 a hS hA => ?_
 refine zR 1 ((8, .int .u8 x) :: _) hA rfl fun a hA => ?_
 refine st_call0 hA rfl rfl rfl isfn9 rfl rfl (by decide) (config9 hS (q := q) hor hq) ?_
 clear hA hS; rintro _ w3 a ⟨rfl, hS⟩ hA
 refine st_call0 hA rfl rfl rfl isfn10 rfl rfl (by decide) (spread_10 hS 400 (by omega)) ?_
 clear hA hS; rintro _ w4 a ⟨As, cs, Cs, hOs, rfl, hS⟩ hA
 refine st_call0 hA rfl rfl rfl isfn8 rfl rfl (by decide) (of8 (ks := [0, 1, 2, 3]) (c := cfgN (1 + q % 120)) (ts := cutl (spread 400)) (ts0 := spread 400) (s := s) hS (fun w9 h9 => (Own.full (T := 29) (size := 1) (g := b1) (m := 4) (xs := rows encKi [0, 1, 2, 3]) rfl (by decide)).rd (h9.own_ 1 rfl)) (fun w9 h9 => hOs.rd (h9.own_ 0 rfl)) (by rw [spread_length]; decide) (by intro x hx; obtain ⟨k, hk, rfl⟩ := List.mem_map.1 hx; have := List.mem_range.1 hk; omega) rfl (by decide) (by decide) hM) ?_
 clear hA hS; rintro _ w5 a ⟨b, L, hY, rfl, hS⟩ hA
 refine zR 5 ((5, .nilIface) :: (4, vP b 0) :: (13, .nilIface) :: (12, vP b 0) :: (6, .tuple #[vP b 0, .nilIface]) :: _) hA rfl fun a hA => zn (zx (zs (zr (zR 9 ((3, .bool true) :: (2, vP b 0) :: (20, .bool true) :: (19, .bool true) :: (18, vP b 0) :: (17, .bool true) :: (16, .bool true) :: (15, .nilIface) :: (14, vP b 0) :: _) hA rfl fun a hA => zn (zx ?_)))))
 refine wp_ret ?_
 refine ret2 (fn := Tryz.f20) hA rfl rfl rfl ?_
 replace hS := hS.d3.d2
 exact ⟨_, _, hY, rfl, hS⟩
set_option maxHeartbeats 4000000 in
theorem trans18 {w0 w : World} {F : List Chunk} {b : Nat} {ts : List Nat} {s : SY} {L D : Chunk} {s' : SY} {r : MN} {ok : Bool} (hS : St w0 w (L :: D :: F)) (hY : SYS w0 b ts s L D) (m : MN) {d : Value} (hd : RdSX w0 (D :: F) 1 d m.da.length (rows encB m.da)) (hM : transM ts s m = some (s', r, ok)) :
 Ret Tryz.prog 18 #[vP b 0, .agg #[vU m.to, vU m.rp, vW m.id, vH m.op, vH m.st, vU m.po, vW m.ob, vB m.ri, vU m.ck, vU m.ar, d]] w (fun v w' => ∃ L' D' A c, SYS w0 b ts s' L' D' ∧ DX w0 D D' ∧ DD w0 D' A c r.da ∧ v = .tuple #[.agg #[vU r.to, vU r.rp, vW r.id, vH r.op, vH r.st, vU r.po, vW r.ob, vB r.ri, vU r.ck, vU r.ar, .slice A r.da.length c], .bool ok] ∧ St w0 w' (L' :: D' :: F)) := by
 obtain ⟨B, d', rfl, hmd, hdx⟩ := (hd _ (hS.tail 1 rfl)).open'
 obtain ⟨s1, k, hcm, htr⟩ := transM_some hM
 obtain ⟨st, sr, st1, out, hx, hc, hsc, rfl, rfl⟩ := callM_some hcm
 refine enter (vs := [vP b 0, .agg #[vU m.to, vU m.rp, vW m.id, vH m.op, vH m.st, vU m.po, vW m.ob, vB m.ri, vU m.ck, vU m.ar, .slice B m.da.length d']]) 41 Tryz.func18 rfl rfl (by simp) ?_; intro a hA
 refine zs (zr ?_)
 refine st_box hA hS [vU m.to, vU m.rp, vW m.id, vH m.op, vH m.st, vU m.po, vW m.ob, vB m.ri, vU m.ck, vU m.ar, .slice B m.da.length d'] rfl rfl rfl rfl rfl (by decide) fun b1 w2 a hS hA => ?_
 refine st_alloc tbOk hA hS [.int .u64 0, .int .u64 0, .int .u32 0, .int .u16 0, .int .u16 0, .int .u64 0, .int .u32 0, .int .u8 0, .int .u64 0, .int .u64 0, .slice none 0 0] rfl rfl rfl rfl rfl (by decide) fun b3 w4 a hS hA => ?_
 refine zR 1 ((5, .bool false) :: _) hA rfl fun a hA => zn (zx (zs (zr (zR 1 ((12, vP b 0) :: _) hA rfl fun a hA => zLA hA hS 1 [vU m.to, vU m.rp, vW m.id, vH m.op, vH m.st, vU m.po, vW m.ob, vB m.ri, vU m.ck, vU m.ar, .slice B m.da.length d'] rfl rfl rfl rfl rfl rfl rfl rfl rfl rfl fun a hA => ?_))))
 replace hS := hS.m3.m3
 refine st_call0 hA rfl rfl rfl isfn12 rfl rfl (by decide) (scall12 hS hY (i := 0) hx m (fun w' h => hd _ (St.dmid (R := [[(b3, rowO [.int .u64 0, .int .u64 0, .int .u32 0, .int .u16 0, .int .u16 0, .int .u64 0, .int .u32 0, .int .u8 0, .int .u64 0, .int .u64 0, .slice none 0 0] 46)], [(b1, rowO [vU m.to, vU m.rp, vW m.id, vH m.op, vH m.st, vU m.po, vW m.ob, vB m.ri, vU m.ck, vU m.ar, .slice B m.da.length d'] 46)]]) h)) hc hsc) ?_
 clear hA hS; rintro _ w5 a ⟨L1, D1, hY1, hX1, rfl, hS⟩ hA
 refine zR 5 ((7, .nilIface) :: (6, vW (st.ca.length + 1)) :: (16, .nilIface) :: (15, vW (st.ca.length + 1)) :: (11, .tuple #[vW (st.ca.length + 1), .nilIface]) :: _) hA rfl fun a hA => zn (zx (zs (zs (zr (zR 2 ((18, .bool false) :: (17, .nilIface) :: _) hA rfl fun a hA => zn (zx (cd_cond_f hA rfl (zk (zx (zs (zs (zr (zR 1 ((20, .int .i64 0) :: _) hA rfl fun a hA => zn (zx (zb ?_)))))))))))))))
 replace hS := hS.d3
 refine wp_loop_ghost (fun m a w => ∃ (j : Nat) (f' : Nat) (sj : SY) (L' : Chunk) (D' : Chunk), m = f' ∧ Has a 41 [(0, vP b 0), (4, vP b3 0), (6, vW (st.ca.length + 1)), (20, vI j)] ∧ St w0 w (L' :: D' :: [(b3, rowO [.int .u64 0, .int .u64 0, .int .u32 0, .int .u16 0, .int .u16 0, .int .u64 0, .int .u32 0, .int .u8 0, .int .u64 0, .int .u64 0, .slice none 0 0] 46)] :: F) ∧ (j + f' = 6) ∧ (transR ts f' sj st.ca.length = some (s', r, ok)) ∧ (SYS w0 b ts sj L' D') ∧ (DX w0 D D')) (6)
  ⟨0, 6, _, L1, D1, rfl, (hA.sel [0, 4, 6, 20] rfl), hS, rfl, htr, hY1, hX1⟩ ?_
 clear hA hS; rintro m0 a w6 ⟨j, f', sj, L', D', rfl, hA, hS, hj, hR, hY, hX⟩
 refine zs (zr ?_)
 rcases transR_cases hR with ⟨rfl, e1, e2, e3⟩ | ⟨f2, s2, d9, y, rfl, hst, hg0, ⟨h3, e1, e2, e3⟩ | ⟨h1, s3, htk, hM2⟩ | ⟨h3, h1, e1, e2, e3⟩⟩
 · refine zR 1 ((21, .bool (decide (((j : Nat) : Int) < 6))) :: _) hA rfl fun a hA => zn (zx (zs ?_))
   have hc7 : ¬ (((j : Nat) : Int) < 6) := by omega
   replace hA := hA.rw 21 (v' := .bool false) rfl (vb_false hc7)
   refine cd_cond_f hA rfl ?_
   refine wp_exit ?_
   refine xt_exit (xt_exit (cd_exit_eq (zx (zs (zr (st_val hA rfl rfl (by decide) (rn_build tbOk hA rfl rfl rfl rfl rfl rfl rfl) fun a hA => ?_))))))
   replace hS := hS.m2
   refine st_store tbOk hA hS [.int .u64 0, .int .u64 0, .int .u32 0, .int .u16 0, .int .u16 0, .int .u64 0, .int .u32 0, .int .u8 0, .int .u64 0, .int .u64 0, .slice none 0 0] [.int .u64 0, .int .u64 0, .int .u32 0, .int .u16 0, .int .u16 0, .int .u64 0, .int .u32 0, .int .u8 0, .int .u64 0, .int .u64 0, .slice none 0 0] rfl rfl rfl rfl rfl rfl (zn1 rfl) (zle rfl) rfl rfl rfl fun w8 hS => ?_
   refine zR 1 ((5, .bool false) :: _) hA rfl fun a hA => zn (zx ?_)
   refine wp_ret ?_
   refine retc2 tbOk (fn := Tryz.f18) (cs := [.int .u64 0, .int .u64 0, .int .u32 0, .int .u16 0, .int .u16 0, .int .u64 0, .int .u32 0, .int .u8 0, .int .u64 0, .int .u64 0, .slice none 0 0]) hA rfl rfl rfl rfl rfl rfl (cells_row (hS.heapAt 0 rfl) rfl) ?_
   rw [e1, e2, e3]
   replace hS := hS.d0
   exact ⟨_, _, none, 0, hY, hX, DD.nil, rfl, hS⟩
 · refine zR 1 ((21, .bool (decide (((j : Nat) : Int) < 6))) :: _) hA rfl fun a hA => zn (zx (zs ?_))
   have hc9 : ((j : Nat) : Int) < 6 := by omega
   replace hA := hA.rw 21 (v' := .bool true) rfl (vb_true hc9)
   refine cd_cond_t hA rfl (zk (zx (zs (zb (zs (zr (zR 1 ((22, vP b 0) :: _) hA rfl fun a hA => ?_)))))))
   replace hS := hS.m1.m1
   refine st_call0 hA rfl rfl rfl isfn19 rfl rfl (by decide) (settle19 hS hY hst (by decide)) ?_
   clear hA hS; rintro _ w10 a ⟨L2, D2, hY2, hX2, rfl, hS⟩ hA
   refine zn (zx (zs (zs (zr (zR 2 ((26, vW (st.ca.length + 1)) :: (25, vP b 0) :: _) hA rfl fun a hA => ?_)))))
   replace hS := hS.m1.m1
   obtain ⟨st9, sr9, g1, g2, g3, g4⟩ := get0M_some hg0
   refine st_call0 hA rfl rfl rfl isfn16 rfl rfl (by decide) (sget_failed16 hS hY2 (i := 0) g1 g2 g3 g4 h3) ?_
   clear hA hS; rintro _ w11 a ⟨L3, hY3, rfl, hS⟩ hA
   refine zR 4 ((30, .iface 55 (.int .i64 10)) :: (29, .agg #[.int .u64 0, .int .u64 0, .int .u32 0, .int .u16 0, .int .u16 0, .int .u64 0, .int .u32 0, .int .u8 0, .int .u64 0, .int .u64 0, .slice none 0 0]) :: (28, .int .i64 3) :: (24, .tuple #[.int .i64 3, .agg #[.int .u64 0, .int .u64 0, .int .u32 0, .int .u16 0, .int .u16 0, .int .u64 0, .int .u32 0, .int .u8 0, .int .u64 0, .int .u64 0, .slice none 0 0], .iface 55 (.int .i64 10)]) :: _) hA rfl fun a hA => ?_
   refine st_alloc tbOk hA hS [.int .u64 0, .int .u64 0, .int .u32 0, .int .u16 0, .int .u16 0, .int .u64 0, .int .u32 0, .int .u8 0, .int .u64 0, .int .u64 0, .slice none 0 0] rfl rfl rfl rfl rfl (by decide) fun b12 w13 a hS hA => ?_
   refine zR 1 ((8, .int .i64 3) :: _) hA rfl fun a hA => ?_
   refine st_store tbOk hA hS [.int .u64 0, .int .u64 0, .int .u32 0, .int .u16 0, .int .u16 0, .int .u64 0, .int .u32 0, .int .u8 0, .int .u64 0, .int .u64 0, .slice none 0 0] [.int .u64 0, .int .u64 0, .int .u32 0, .int .u16 0, .int .u16 0, .int .u64 0, .int .u32 0, .int .u8 0, .int .u64 0, .int .u64 0, .slice none 0 0] rfl rfl rfl rfl rfl rfl (zn1 rfl) (zle rfl) rfl rfl rfl fun w14 hS => ?_
   refine zR 1 ((10, .iface 55 (.int .i64 10)) :: _) hA rfl fun a hA => zn (zx (zs (zr (zR 2 ((32, .bool true) :: (31, .int .i64 3) :: _) hA rfl fun a hA => zn (zx (cd_cond_t hA rfl (zs ?_)))))))
   replace hS := hS.m3
   refine zD1 hS [] [(0, true), (1, true), (2, true), (3, false), (4, true)] mixed (by kernel_rfl) (by rintro c a w ⟨_, _, h, _⟩; cases h) (by rfl) (by kernel_rfl) ?_
   replace hS := hS.drew
   refine zYA hA (hS.tail 1 rfl) 0 [.int .u64 0, .int .u64 0, .int .u32 0, .int .u16 0, .int .u16 0, .int .u64 0, .int .u32 0, .int .u8 0, .int .u64 0, .int .u64 0, .slice none 0 0] rfl rfl rfl rfl rfl rfl rfl rfl rfl rfl rfl fun a hA => zW 2 ((35, .bool false) :: (34, .iface 55 (.int .i64 10)) :: _) hA (hS.tail 1 rfl) rfl fun a hA => dr_b (o := _) rfl ?_
   refine st_store tbOk hA hS [.int .u64 0, .int .u64 0, .int .u32 0, .int .u16 0, .int .u16 0, .int .u64 0, .int .u32 0, .int .u8 0, .int .u64 0, .int .u64 0, .slice none 0 0] [.int .u64 0, .int .u64 0, .int .u32 0, .int .u16 0, .int .u16 0, .int .u64 0, .int .u32 0, .int .u8 0, .int .u64 0, .int .u64 0, .slice none 0 0] rfl rfl rfl rfl rfl rfl (zn1 rfl) (zle rfl) rfl rfl rfl fun w15 hS => ?_
   refine zi (hS.tail 1 rfl) (zW 1 ((5, .bool false) :: _) hA (hS.tail 1 rfl) rfl fun a hA => ze (zx ?_))
   refine wp_ret (xt_ret (xb_ret (xt_ret (xt_ret (xb_ret (xt_ret ?_))))))
   refine retc2 tbOk (fn := Tryz.f18) (cs := [.int .u64 0, .int .u64 0, .int .u32 0, .int .u16 0, .int .u16 0, .int .u64 0, .int .u32 0, .int .u8 0, .int .u64 0, .int .u64 0, .slice none 0 0]) hA rfl rfl rfl rfl rfl rfl (cells_row (hS.heapAt 0 rfl) rfl) ?_
   rw [e1, e2, e3]
   replace hS := hS.d1.d0
   exact ⟨_, _, none, 0, hY3, (hX.trans hX2), DD.nil, rfl, hS⟩
 · refine zR 1 ((21, .bool (decide (((j : Nat) : Int) < 6))) :: _) hA rfl fun a hA => zn (zx (zs ?_))
   have hc16 : ((j : Nat) : Int) < 6 := by omega
   replace hA := hA.rw 21 (v' := .bool true) rfl (vb_true hc16)
   refine cd_cond_t hA rfl (zk (zx (zs (zb (zs (zr (zR 1 ((22, vP b 0) :: _) hA rfl fun a hA => ?_)))))))
   replace hS := hS.m1.m1
   refine st_call0 hA rfl rfl rfl isfn19 rfl rfl (by decide) (settle19 hS hY hst (by decide)) ?_
   clear hA hS; rintro _ w17 a ⟨L2, D2, hY2, hX2, rfl, hS⟩ hA
   refine zn (zx (zs (zs (zr (zR 2 ((26, vW (st.ca.length + 1)) :: (25, vP b 0) :: _) hA rfl fun a hA => ?_)))))
   replace hS := hS.m1.m1
   obtain ⟨st9, sr9, g1, g2, g3, g4⟩ := get0M_some hg0
   refine st_call0 hA rfl rfl rfl isfn16 rfl rfl (by decide) (sget_ok16 hS hY2 (i := 0) g1 g2 g3 g4 (by omega)) ?_
   clear hA hS; rintro _ w18 a ⟨L3, E3, A3, c3, hY3, hE3, rfl, hS⟩ hA
   refine zR 4 ((30, .nilIface) :: (29, .agg #[vU y.rp.to, vU y.rp.rp, vW y.rp.id, vH y.rp.op, vH y.rp.st, vU y.rp.po, vW y.rp.ob, vB y.rp.ri, vU y.rp.ck, vU y.rp.ar, .slice A3 y.rp.da.length c3]) :: (28, vI y.st) :: (24, .tuple #[vI y.st, .agg #[vU y.rp.to, vU y.rp.rp, vW y.rp.id, vH y.rp.op, vH y.rp.st, vU y.rp.po, vW y.rp.ob, vB y.rp.ri, vU y.rp.ck, vU y.rp.ar, .slice A3 y.rp.da.length c3], .nilIface]) :: _) hA rfl fun a hA => ?_
   refine st_alloc tbOk hA hS [.int .u64 0, .int .u64 0, .int .u32 0, .int .u16 0, .int .u16 0, .int .u64 0, .int .u32 0, .int .u8 0, .int .u64 0, .int .u64 0, .slice none 0 0] rfl rfl rfl rfl rfl (by decide) fun b19 w20 a hS hA => ?_
   refine zR 1 ((8, vI y.st) :: _) hA rfl fun a hA => ?_
   refine st_store tbOk hA hS [vU y.rp.to, vU y.rp.rp, vW y.rp.id, vH y.rp.op, vH y.rp.st, vU y.rp.po, vW y.rp.ob, vB y.rp.ri, vU y.rp.ck, vU y.rp.ar, .slice A3 y.rp.da.length c3] [vU y.rp.to, vU y.rp.rp, vW y.rp.id, vH y.rp.op, vH y.rp.st, vU y.rp.po, vW y.rp.ob, vB y.rp.ri, vU y.rp.ck, vU y.rp.ar, .slice A3 y.rp.da.length c3] rfl rfl rfl rfl rfl rfl (zn1 rfl) (zle rfl) rfl rfl rfl fun w21 hS => ?_
   refine zR 1 ((10, .nilIface) :: _) hA rfl fun a hA => zn (zx (zs (zr (zR 2 ((32, .bool (((y.st : Nat) : Int) != 1)) :: (31, vI y.st) :: _) hA rfl fun a hA => zn (zx ?_)))))
   have hc22 : ((y.st : Nat) : Int) = 1 := by omega
   replace hA := hA.rw 32 (v' := .bool false) rfl (vb_ne_f hc22)
   refine cd_cond_f hA rfl (zk (zx (zr (zR 2 ((37, .agg #[.int .u8 4, .int .i64 0, .int .i64 0]) :: (36, vP b 0) :: _) hA rfl fun a hA => ?_))))
   replace hS := hS.m2.m2
   refine st_call0 hA rfl rfl rfl isfn15 rfl rfl (by decide) (do_tick15 hS hY3 htk) ?_
   clear hA hS; rintro _ w23 a ⟨L4, D4, hY4, hX4, rfl, hS⟩ hA
   refine zn (zm (zx (zr (zR 1 ((39, .int .i64 (IntKind.i64.wrap (((j : Nat) : Int) + 1))) :: _) hA rfl fun a hA => ?_))))
   replace hA := hA.rw 39 (v' := vI (j + 1)) rfl (wr64 (by omega) (by omega) (by omega))
   refine zR 1 ((20, vI (j + 1)) :: _) hA rfl fun a hA => zn ?_
   replace hS := hS.d2
   exact lp_next _ (by omega) ⟨(j + 1), f2, s3, L4, D4, rfl, (hA.sel [0, 4, 6, 20] rfl), hS, by omega, hM2, hY4, ((hX.trans hX2).trans (DX.refl.step.trans hX4))⟩
 · refine zR 1 ((21, .bool (decide (((j : Nat) : Int) < 6))) :: _) hA rfl fun a hA => zn (zx (zs ?_))
   have hc24 : ((j : Nat) : Int) < 6 := by omega
   replace hA := hA.rw 21 (v' := .bool true) rfl (vb_true hc24)
   refine cd_cond_t hA rfl (zk (zx (zs (zb (zs (zr (zR 1 ((22, vP b 0) :: _) hA rfl fun a hA => ?_)))))))
   replace hS := hS.m1.m1
   refine st_call0 hA rfl rfl rfl isfn19 rfl rfl (by decide) (settle19 hS hY hst (by decide)) ?_
   clear hA hS; rintro _ w25 a ⟨L2, D2, hY2, hX2, rfl, hS⟩ hA
   refine zn (zx (zs (zs (zr (zR 2 ((26, vW (st.ca.length + 1)) :: (25, vP b 0) :: _) hA rfl fun a hA => ?_)))))
   replace hS := hS.m1.m1
   obtain ⟨st9, sr9, g1, g2, g3, g4⟩ := get0M_some hg0
   refine st_call0 hA rfl rfl rfl isfn16 rfl rfl (by decide) (sget_ok16 hS hY2 (i := 0) g1 g2 g3 g4 h3) ?_
   clear hA hS; rintro _ w26 a ⟨L3, E3, A3, c3, hY3, hE3, rfl, hS⟩ hA
   refine zR 4 ((30, .nilIface) :: (29, .agg #[vU y.rp.to, vU y.rp.rp, vW y.rp.id, vH y.rp.op, vH y.rp.st, vU y.rp.po, vW y.rp.ob, vB y.rp.ri, vU y.rp.ck, vU y.rp.ar, .slice A3 y.rp.da.length c3]) :: (28, vI y.st) :: (24, .tuple #[vI y.st, .agg #[vU y.rp.to, vU y.rp.rp, vW y.rp.id, vH y.rp.op, vH y.rp.st, vU y.rp.po, vW y.rp.ob, vB y.rp.ri, vU y.rp.ck, vU y.rp.ar, .slice A3 y.rp.da.length c3], .nilIface]) :: _) hA rfl fun a hA => ?_
   refine st_alloc tbOk hA hS [.int .u64 0, .int .u64 0, .int .u32 0, .int .u16 0, .int .u16 0, .int .u64 0, .int .u32 0, .int .u8 0, .int .u64 0, .int .u64 0, .slice none 0 0] rfl rfl rfl rfl rfl (by decide) fun b27 w28 a hS hA => ?_
   refine zR 1 ((8, vI y.st) :: _) hA rfl fun a hA => ?_
   refine st_store tbOk hA hS [vU y.rp.to, vU y.rp.rp, vW y.rp.id, vH y.rp.op, vH y.rp.st, vU y.rp.po, vW y.rp.ob, vB y.rp.ri, vU y.rp.ck, vU y.rp.ar, .slice A3 y.rp.da.length c3] [vU y.rp.to, vU y.rp.rp, vW y.rp.id, vH y.rp.op, vH y.rp.st, vU y.rp.po, vW y.rp.ob, vB y.rp.ri, vU y.rp.ck, vU y.rp.ar, .slice A3 y.rp.da.length c3] rfl rfl rfl rfl rfl rfl (zn1 rfl) (zle rfl) rfl rfl rfl fun w29 hS => ?_
   refine zR 1 ((10, .nilIface) :: _) hA rfl fun a hA => zn (zx (zs (zr (zR 2 ((32, .bool (((y.st : Nat) : Int) != 1)) :: (31, vI y.st) :: _) hA rfl fun a hA => zn (zx ?_)))))
   have hc30 : ¬ (((y.st : Nat) : Int) = 1) := by omega
   replace hA := hA.rw 32 (v' := .bool true) rfl (vb_ne_t hc30)
   refine cd_cond_t hA rfl (zs ?_)
   replace hS := hS.m3
   refine zD1 hS [] [(0, true), (1, true), (2, true), (3, false), (4, true)] mixed (by kernel_rfl) (by rintro c a w ⟨_, _, h, _⟩; cases h) (by rfl) (by kernel_rfl) ?_
   replace hS := hS.drew
   refine zYA hA (hS.tail 1 rfl) 0 [vU y.rp.to, vU y.rp.rp, vW y.rp.id, vH y.rp.op, vH y.rp.st, vU y.rp.po, vW y.rp.ob, vB y.rp.ri, vU y.rp.ck, vU y.rp.ar, .slice A3 y.rp.da.length c3] rfl rfl rfl rfl rfl rfl rfl rfl rfl rfl rfl fun a hA => zW 2 ((35, .bool true) :: (34, .nilIface) :: _) hA (hS.tail 1 rfl) rfl fun a hA => dr_b (o := _) rfl ?_
   refine st_store tbOk hA hS [vU y.rp.to, vU y.rp.rp, vW y.rp.id, vH y.rp.op, vH y.rp.st, vU y.rp.po, vW y.rp.ob, vB y.rp.ri, vU y.rp.ck, vU y.rp.ar, .slice A3 y.rp.da.length c3] [vU y.rp.to, vU y.rp.rp, vW y.rp.id, vH y.rp.op, vH y.rp.st, vU y.rp.po, vW y.rp.ob, vB y.rp.ri, vU y.rp.ck, vU y.rp.ar, .slice A3 y.rp.da.length c3] rfl rfl rfl rfl rfl rfl (zn1 rfl) (zle rfl) rfl rfl rfl fun w31 hS => ?_
   refine zi (hS.tail 1 rfl) (zW 1 ((5, .bool true) :: _) hA (hS.tail 1 rfl) rfl fun a hA => ze (zx ?_))
   refine wp_ret (xt_ret (xb_ret (xt_ret (xt_ret (xb_ret (xt_ret ?_))))))
   refine retc2 tbOk (fn := Tryz.f18) (cs := [vU y.rp.to, vU y.rp.rp, vW y.rp.id, vH y.rp.op, vH y.rp.st, vU y.rp.po, vW y.rp.ob, vB y.rp.ri, vU y.rp.ck, vU y.rp.ar, .slice A3 y.rp.da.length c3]) hA rfl rfl rfl rfl rfl rfl (cells_row (hS.heapAt 0 rfl) rfl) ?_
   rw [e1, e2, e3]
   replace hS := hS.d1.d0
   exact ⟨_, _, _, _, hY3, ((hX.trans hX2).trans DX.refl.step), DD.right hE3, rfl, hS⟩
end Go.Proofs.YthiakdmhpfkjbaaGreatDoor

set_option linter.unusedVariables false
set_option linter.unusedSimpArgs false
set_option maxRecDepth 4000
namespace Go.Proofs.YthiakdmhpfkjbaaGreatDoor
open Go Go.SK
def upM (s : SY) (i : Nat) : Option NC :=
  match (s.nx[i]? : Option NX) with
  | some (.up st _) => some st.c
  | _ => none
theorem upM_some {s : SY} {i : Nat} {c : NC} (h : upM s i = some c) : ∃ st sr, s.nx[i]? = some (.up st sr) ∧ st.c = c := by
  rw [upM] at h
  cases hx : s.nx[i]? with
  | none => rw [hx] at h; cases h
  | some x =>
    cases x with
    | down c => rw [hx] at h; cases h
    | up st sr => rw [hx] at h; injection h with h; exact ⟨st, sr, rfl, h⟩
def mkM (po ob ri ck : Nat) (da : List UInt8) : MN := ⟨po, 0, 0, 100, 0, po, ob, ri, ck, 0, da⟩
def rdM (po ob ri ck p n : Nat) : MN := ⟨po, 0, 0, 101, 0, po, ob, ri, ck, p * 4294967296 + n, []⟩
theorem upd_setCell {w : World} {b : Nat} {x v : Value} {T : TypeId} (hb : w.heap[b]? = some (rowO [x] T)) : Upd w (w.setCell ⟨b, 0, none⟩ v) b (rowO [v] T) := by
  refine ⟨rfl, rfl, rfl, by simp [World.setCell], ?_, fun k _ hk => RowKit.Below.heap_setCell w _ _ k hk⟩
  simp only [World.setCell, Array.getElem?_modify, if_true, hb]
  rfl
def HG (w : World) : Prop := w.cell? ⟨0, 0, none⟩ = some (.iface 230 (.agg #[vP 1 26]))
theorem asHit {w0 w : World} {F : List Chunk} {b : Nat} {x : Value} (hS : St w0 w ([(b, rowO [x] 55)] :: F)) (hg : HG w0) (n : Int) :
    Ret Tryz.prog 45 #[.iface 55 (.int .i64 n), .iface 105 (vP b 0)] w (fun v w' => v = .bool true ∧ St w0 w' ([(b, rowO [.int .i64 n] 55)] :: F)) := by
  have hb := hS.heapAt 0 rfl
  refine Calls.mono (as_hit n ⟨b, 0, none⟩ x w (hS.old hg) (cell_row hb rfl) (by simp [World.frozen?, hb, rowO])) fun e w' ⟨he, hw⟩ => ⟨_, he, rfl, ?_⟩
  subst hw
  have h4 := (((hS.alloc (.cells #[vP b 0] 105)).alloc (.cells #[vP 1 105, vP w.heap.size 0, .int .u64 150] 157)).alloc (.cells #[vP 1 105, vP w.heap.size 0, .int .u64 150] 157)).alloc (.cells #[.int .i64 n] 55)
  have h5 := h4.drop1.drop1.drop1.drop1
  exact h5.upd (upd_setCell (h5.heapAt 0 rfl))
theorem number_hit17 {w0 w : World} {F : List Chunk} (hS : St w0 w F) (hg : HG w0) (n : Int) :
 Ret Tryz.prog 17 #[.iface 55 (.int .i64 n)] w (fun v w' => v = .int .i64 n ∧ St w0 w' F) := by
 refine enter (vs := [.iface 55 (.int .i64 n)]) 8 Tryz.func17 rfl rfl (by simp) ?_; intro a hA
 refine zs (zr (zR 1 ((2, .int .i64 0) :: _) hA rfl fun a hA => zn (zx (zs (zr ?_)))))
 refine st_alloc tbOk hA hS [.int .i64 0] rfl rfl rfl rfl rfl (by decide) fun b1 w2 a hS hA => ?_
 refine zn (zx (zs (zs (zr (zR 2 ((5, .iface 105 (vP b1 0)) :: (4, .iface 55 (.int .i64 n)) :: _) hA rfl fun a hA => ?_)))))
 refine st_call0 hA rfl rfl rfl isfn45 rfl rfl (by decide) (asHit hS hg n) ?_
 clear hA hS; rintro v w3 a ⟨rfl, hS⟩ hA
 refine zn (zx (cd_cond_t hA rfl (zs (zr (zL hA hS 0 rfl rfl rfl rfl rfl rfl rfl rfl rfl fun a hA => zR 1 ((2, .int .i64 n) :: _) hA rfl fun a hA => zn (zx ?_))))))
 refine wp_ret (xt_ret ?_)
 refine ret1 (fn := Tryz.f17) hA rfl rfl ?_
 replace hS := hS.d0
 exact ⟨rfl, hS⟩
end Go.Proofs.YthiakdmhpfkjbaaGreatDoor

set_option linter.unusedVariables false
set_option linter.unusedSimpArgs false
set_option maxRecDepth 4000
namespace Go.Proofs.YthiakdmhpfkjbaaGreatDoor
open Go Go.SK
def awM : Option Unit :=
  (netM 8).bind fun s0 => (upM s0 3).bind fun c => (transM (cutl (spread 400)) s0 (mkM c.r0 c.r1 c.r2 c.r3 [120, 121, 122])).bind fun x =>
  (transM (cutl (spread 400)) x.1 (rdM x.2.1.po x.2.1.ob x.2.1.ri x.2.1.ck 1 2)).bind fun y => if ¬ c.port = 0 ∧ x.2.2 = true ∧ y.2.2 = true ∧ y.2.1.da = [121, 122] then some () else none
theorem awM_is : awM = some () := by kernel_rfl
theorem awM_ex : ∃ s0 c s1 r1 s2 r2, netM 8 = some s0 ∧ upM s0 3 = some c ∧ transM (cutl (spread 400)) s0 (mkM c.r0 c.r1 c.r2 c.r3 [120, 121, 122]) = some (s1, r1, true) ∧ transM (cutl (spread 400)) s1 (rdM r1.po r1.ob r1.ri r1.ck 1 2) = some (s2, r2, true) ∧ ¬ c.port = 0 ∧ r2.da = [121, 122] := by
  have h := awM_is
  unfold awM at h
  obtain ⟨s0, h1, h⟩ := Option.bind_eq_some_iff.1 h
  obtain ⟨c, h2, h⟩ := Option.bind_eq_some_iff.1 h
  obtain ⟨⟨s1, r1, o1⟩, h3, h⟩ := Option.bind_eq_some_iff.1 h
  obtain ⟨⟨s2, r2, o2⟩, h4, h⟩ := Option.bind_eq_some_iff.1 h
  dsimp only at h h4
  by_cases hc : ¬ c.port = 0 ∧ o1 = true ∧ o2 = true ∧ r2.da = [121, 122]
  · obtain ⟨a, rfl, rfl, b⟩ := hc
    exact ⟨s0, c, s1, r1, s2, r2, h1, h2, h3, h4, a, b⟩
  · rw [if_neg hc] at h; cases h
set_option maxHeartbeats 4000000 in
theorem awake7 {w0 w : World} {F : List Chunk} (hS : St w0 w F) :
 Ret Tryz.prog 7 #[] w (fun v w' => v = .bool true ∧ St w0 w' F) := by
 obtain ⟨s0, c, s1, r1, s2, r2, h1, h2, h3, h4, hp, hda⟩ := awM_ex
 refine enter (vs := []) 50 Tryz.func7 rfl rfl (by simp) ?_; intro a hA
 refine zs (zr (zR 1 ((0, .bool false) :: _) hA rfl fun a hA => zn (zx (zs (zr ?_)))))
 refine st_call0 hA rfl rfl rfl isfn20 rfl rfl (by decide) (network20 hS (q := 127) (s := s0) (by rfl) (by decide) h1) ?_
 clear hA hS; rintro _ w1 a ⟨b2, L3, hY4, rfl, hS⟩ hA
 refine zR 5 ((2, .bool true) :: (1, vP b2 0) :: (12, .bool true) :: (11, vP b2 0) :: (9, .tuple #[vP b2 0, .bool true]) :: _) hA rfl fun a hA => zn (zx (zs (zs (zr (zR 2 ((14, .bool false) :: (13, .bool true) :: _) hA rfl fun a hA => zn (zx (cd_cond_f hA rfl (zk (zx (zs (zr (zR 1 ((16, vP b2 0) :: _) hA rfl fun a hA => ?_))))))))))))
 replace hS := hS.m1.m1
 obtain ⟨st6, sr7, hu8, hc9⟩ := upM_some h2
 refine st_call0 hA rfl rfl rfl isfn11 rfl rfl (by decide) (sroot11 hS hY4 (i := 3) hu8) ?_
 rw [hc9]
 clear hA hS; rintro _ w5 a ⟨L10, hY11, rfl, hS⟩ hA
 refine zR 3 ((19, .bool (((c.port : Nat) : Int) != 0)) :: (18, .agg #[vU c.r0, vW c.r1, vB c.r2, vU c.r3]) :: (15, .tuple #[.agg #[vU c.r0, vW c.r1, vB c.r2, vU c.r3], .bool (((c.port : Nat) : Int) != 0)]) :: _) hA rfl fun a hA => ?_
 refine st_alloc tbOk hA hS [.int .u64 0, .int .u32 0, .int .u8 0, .int .u64 0] rfl rfl rfl rfl rfl (by decide) fun b13 w14 a hS hA => ?_
 refine st_store tbOk hA hS [vU c.r0, vW c.r1, vB c.r2, vU c.r3] [vU c.r0, vW c.r1, vB c.r2, vU c.r3] rfl rfl rfl rfl rfl rfl (zn1 rfl) (zle rfl) rfl rfl rfl fun w15 hS => ?_
 replace hA := hA.rw 19 (v' := .bool true) rfl (vbool (by rw [bne_iff_ne]; exact fun h => hp (Int.ofNat.inj h)))
 refine zR 1 ((4, .bool true) :: _) hA rfl fun a hA => zn (zx (zs (zr (zR 1 ((21, vP b2 0) :: _) hA rfl fun a hA => zLA hA hS 0 [vU c.r0, vW c.r1, vB c.r2, vU c.r3] rfl rfl rfl rfl rfl rfl rfl rfl rfl rfl fun a hA => ?_))))
 refine st_buildSlice tbOk hA hS [.int .u8 120, .int .u8 121, .int .u8 122] rfl rfl rfl rfl rfl (by decide) (by kernel_rfl) rfl rfl (by decide) fun b16 w17 a hS hA => ?_
 refine st_mark tbOk hA ([120, 121, 122] : List UInt8) hS rfl rfl rfl rfl rfl rfl rfl rfl (by decide) (by decide) (by decide) fun C18 w19 a hDC18 hS hA => ?_
 refine st_call0 hA rfl rfl rfl isfn13 rfl rfl (by decide) (stmake13 hS c.r0 c.r1 c.r2 c.r3 (da := ([120, 121, 122] : List UInt8)) (fun w' h => ((hDC18 _ (h.only 0 rfl))).x) (by first | omega | exact Nat.zero_le _ | (simp only [List.length_take, List.drop_zero]; omega) | decide)) ?_
 clear hA hS; rintro _ w20 a ⟨Am21, cm22, Cm23, hm24, rfl, hS⟩ hA
 replace hS := hS.m4.m4
 refine st_call0 hA rfl rfl rfl isfn18 rfl rfl (by decide) (trans18 hS hY11 (mkM c.r0 c.r1 c.r2 c.r3 ([120, 121, 122] : List UInt8)) (fun w9 h9 => (hm24.rd (h9.own_ 1 rfl)).x) h3) ?_
 clear hA hS; rintro _ w25 a ⟨L29, D31, Ar26, cr27, hY30, hX32, hr28, rfl, hS⟩ hA
 refine zR 3 ((28, .bool true) :: (27, .agg #[vU r1.to, vU r1.rp, vW r1.id, vH r1.op, vH r1.st, vU r1.po, vW r1.ob, vB r1.ri, vU r1.ck, vU r1.ar, .slice Ar26 r1.da.length cr27]) :: (20, .tuple #[.agg #[vU r1.to, vU r1.rp, vW r1.id, vH r1.op, vH r1.st, vU r1.po, vW r1.ob, vB r1.ri, vU r1.ck, vU r1.ar, .slice Ar26 r1.da.length cr27], .bool true]) :: _) hA rfl fun a hA => ?_
 refine st_alloc tbOk hA hS [.int .u64 0, .int .u64 0, .int .u32 0, .int .u16 0, .int .u16 0, .int .u64 0, .int .u32 0, .int .u8 0, .int .u64 0, .int .u64 0, .slice none 0 0] rfl rfl rfl rfl rfl (by decide) fun b33 w34 a hS hA => ?_
 refine st_store tbOk hA hS [vU r1.to, vU r1.rp, vW r1.id, vH r1.op, vH r1.st, vU r1.po, vW r1.ob, vB r1.ri, vU r1.ck, vU r1.ar, .slice Ar26 r1.da.length cr27] [vU r1.to, vU r1.rp, vW r1.id, vH r1.op, vH r1.st, vU r1.po, vW r1.ob, vB r1.ri, vU r1.ck, vU r1.ar, .slice Ar26 r1.da.length cr27] rfl rfl rfl rfl rfl rfl (zn1 rfl) (zle rfl) rfl rfl rfl fun w35 hS => ?_
 refine zR 1 ((6, .bool true) :: _) hA rfl fun a hA => zn (zx (zs (zr (zR 2 ((31, vP b33 5) :: (30, vP b2 0) :: _) hA rfl fun a hA => zLA hA hS 0 [vU r1.po, vW r1.ob, vB r1.ri, vU r1.ck] rfl rfl rfl rfl rfl rfl rfl rfl rfl rfl fun a hA => ?_))))
 refine st_call0 hA rfl rfl rfl isfn25 rfl rfl (by decide) (stread25 hS r1.po r1.ob r1.ri r1.ck (p := 1) (n := 2) (by omega) (by omega)) ?_
 clear hA hS; rintro _ w36 a ⟨Am37, cm38, Cm39, hm40, rfl, hS⟩ hA
 replace hS := hS.m3.m3
 refine st_call0 hA rfl rfl rfl isfn18 rfl rfl (by decide) (trans18 hS hY30 (rdM r1.po r1.ob r1.ri r1.ck 1 2) (fun w9 h9 => (hm40.rd (h9.own_ 1 rfl)).x) h4) ?_
 clear hA hS; rintro _ w41 a ⟨L45, D47, Ar42, cr43, hY46, hX48, hr44, rfl, hS⟩ hA
 refine zR 3 ((36, .bool true) :: (35, .agg #[vU r2.to, vU r2.rp, vW r2.id, vH r2.op, vH r2.st, vU r2.po, vW r2.ob, vB r2.ri, vU r2.ck, vU r2.ar, .slice Ar42 r2.da.length cr43]) :: (29, .tuple #[.agg #[vU r2.to, vU r2.rp, vW r2.id, vH r2.op, vH r2.st, vU r2.po, vW r2.ob, vB r2.ri, vU r2.ck, vU r2.ar, .slice Ar42 r2.da.length cr43], .bool true]) :: _) hA rfl fun a hA => ?_
 refine st_alloc tbOk hA hS [.int .u64 0, .int .u64 0, .int .u32 0, .int .u16 0, .int .u16 0, .int .u64 0, .int .u32 0, .int .u8 0, .int .u64 0, .int .u64 0, .slice none 0 0] rfl rfl rfl rfl rfl (by decide) fun b49 w50 a hS hA => ?_
 refine st_store tbOk hA hS [vU r2.to, vU r2.rp, vW r2.id, vH r2.op, vH r2.st, vU r2.po, vW r2.ob, vB r2.ri, vU r2.ck, vU r2.ar, .slice Ar42 r2.da.length cr43] [vU r2.to, vU r2.rp, vW r2.id, vH r2.op, vH r2.st, vU r2.po, vW r2.ob, vB r2.ri, vU r2.ck, vU r2.ar, .slice Ar42 r2.da.length cr43] rfl rfl rfl rfl rfl rfl (zn1 rfl) (zle rfl) rfl rfl rfl fun w51 hS => ?_
 refine zR 1 ((8, .bool true) :: _) hA rfl fun a hA => zn (zx (zs (zr (zR 9 ((45, vP b49 10) :: (44, .bool true) :: (43, .bool true) :: (42, .bool true) :: (41, .bool true) :: (40, .bool true) :: (39, .bool true) :: (38, .bool true) :: (37, .bool true) :: _) hA rfl fun a hA => zL hA hS 0 rfl rfl rfl rfl rfl rfl rfl rfl rfl fun a hA => st_val hA rfl rfl (by decide) (rn_bstr tbOk hA (bs := r2.da) rfl rfl rfl rfl rfl rfl rfl rfl (hr44 _ (hS.only 2 rfl))) fun a hA => zR 1 ((48, .bool ((bsv r2.da).toList == (⟨#[121, 122]⟩ : ByteArray).toList)) :: _) hA rfl fun a hA => ?_))))
 replace hA := hA.rw 48 (v' := .bool true) rfl (vbool (by rw [hda]; exact (bsv_eq [121, 122] [121, 122]).trans (by decide)))
 refine zR 2 ((0, .bool true) :: (49, .bool true) :: _) hA rfl fun a hA => zn (zx ?_)
 refine wp_ret ?_
 refine ret1 (fn := Tryz.f7) hA rfl rfl ?_
 replace hS := hS.d0.d0.d0.d0.d0.d0.d0.d0
 exact ⟨rfl, hS⟩
end Go.Proofs.YthiakdmhpfkjbaaGreatDoor

set_option linter.unusedVariables false
set_option linter.unusedSimpArgs false
set_option maxRecDepth 4000
namespace Go.Proofs.YthiakdmhpfkjbaaGreatDoor
open Go Go.SK
def callsM (s : SY) (m : MN) : Nat → Option SY
  | 0 => some s
  | j + 1 => match callsM s m j with
    | none => none
    | some s' => (callM s' 0 m).map (·.1)
def roundsM (s : SY) : Nat → Option SY
  | 0 => some s
  | j + 1 => match roundsM s j with
    | none => none
    | some s' => if s'.wi.length ≤ 100000 then ticksM { s' with wi := [] } s'.nx.length else none
theorem callsM_le {s x : SY} {m : MN} {n : Nat} (h : callsM s m n = some x) : ∀ j ≤ n, ∃ y, callsM s m j = some y := by
  induction n generalizing x with
  | zero =>
    intro j hj
    obtain rfl : j = 0 := by omega
    exact ⟨x, h⟩
  | succ n ih =>
    intro j hj
    by_cases hjn : j = n + 1
    · subst hjn; exact ⟨x, h⟩
    · rw [callsM] at h
      cases hm : callsM s m n with
      | none => rw [hm] at h; cases h
      | some y => exact ih hm j (by omega)
theorem callsM_some {s x y : SY} {m : MN} {j : Nat} (hj : callsM s m j = some x) (h : callsM s m (j + 1) = some y) : ∃ k, callM x 0 m = some (y, k) := by
  rw [callsM, hj] at h; dsimp only at h
  cases hc : callM x 0 m with
  | none => rw [hc] at h; cases h
  | some r => rw [hc] at h; injection h with h; exact ⟨r.2, by rw [← h]⟩
theorem roundsM_le {s x : SY} {n : Nat} (h : roundsM s n = some x) : ∀ j ≤ n, ∃ y, roundsM s j = some y := by
  induction n generalizing x with
  | zero =>
    intro j hj
    obtain rfl : j = 0 := by omega
    exact ⟨x, h⟩
  | succ n ih =>
    intro j hj
    by_cases hjn : j = n + 1
    · subst hjn; exact ⟨x, h⟩
    · rw [roundsM] at h
      cases hm : roundsM s n with
      | none => rw [hm] at h; cases h
      | some y => exact ih hm j (by omega)
theorem roundsM_some {s x y : SY} {j : Nat} (hj : roundsM s j = some x) (h : roundsM s (j + 1) = some y) : x.wi.length ≤ 100000 ∧ ticksM { x with wi := [] } x.nx.length = some y := by
  rw [roundsM, hj] at h; dsimp only at h
  by_cases hc : x.wi.length ≤ 100000
  · rw [if_pos hc] at h; exact ⟨hc, h⟩
  · rw [if_neg hc] at h; cases h
def allF (s : SY) : Nat → Bool
  | 0 => true
  | k + 1 => (match get0M s k with
    | some y => y.st == 3
    | none => false) && allF s k
theorem allF_at {s : SY} : ∀ {n k : Nat}, allF s n = true → k < n → ∃ y, get0M s k = some y ∧ y.st = 3
  | 0, k, h, hk => absurd hk (Nat.not_lt_zero _)
  | n + 1, k, h, hk => by
    rw [allF, Bool.and_eq_true] at h
    by_cases hkn : k = n
    · subst hkn
      cases hg : get0M s k with
      | none => rw [hg] at h; exact absurd h.1 (by decide)
      | some y => rw [hg] at h; exact ⟨y, rfl, beq_iff_eq.1 h.1⟩
    · exact allF_at h.2 (by omega)
def netL (p n : Nat) : Option SY := ofM [0, 3] (cfgN p) (cutl (spread n))
def loM (n : Nat) (l : List UInt8) : Option Unit :=
  (netL 8 60).bind fun s0 => (upM s0 1).bind fun c => (callsM s0 (mkM c.r0 c.r1 c.r2 c.r3 l) n).bind fun s1 => (roundsM s1 6).bind fun s2 =>
  (transM (cutl (spread 60)) { s2 with wi := [] } (mkM c.r0 c.r1 c.r2 c.r3 [])).bind fun x => if s2.wi.length ≤ 100000 ∧ allF s2 n = true ∧ x.2.2 = true ∧ x.2.1.st = 0 ∧ x.2.1.ob = 1 then some () else none
theorem loM_ex {n : Nat} {l : List UInt8} (h : loM n l = some ()) : ∃ s0 c s1 s2 s3 r, netL 8 60 = some s0 ∧ upM s0 1 = some c ∧ callsM s0 (mkM c.r0 c.r1 c.r2 c.r3 l) n = some s1 ∧ roundsM s1 6 = some s2 ∧ s2.wi.length ≤ 100000 ∧ allF s2 n = true ∧ transM (cutl (spread 60)) { s2 with wi := [] } (mkM c.r0 c.r1 c.r2 c.r3 []) = some (s3, r, true) ∧ r.st = 0 ∧ r.ob = 1 := by
  unfold loM at h
  obtain ⟨s0, h1, h⟩ := Option.bind_eq_some_iff.1 h
  obtain ⟨c, h2, h⟩ := Option.bind_eq_some_iff.1 h
  obtain ⟨s1, h3, h⟩ := Option.bind_eq_some_iff.1 h
  obtain ⟨s2, h4, h⟩ := Option.bind_eq_some_iff.1 h
  obtain ⟨⟨s3, r, o3⟩, h5, h⟩ := Option.bind_eq_some_iff.1 h
  dsimp only at h h5
  by_cases hc : s2.wi.length ≤ 100000 ∧ allF s2 n = true ∧ o3 = true ∧ r.st = 0 ∧ r.ob = 1
  · obtain ⟨a, b, rfl, d, e⟩ := hc
    exact ⟨s0, c, s1, s2, s3, r, h1, h2, h3, h4, a, b, h5, d, e⟩
  · rw [if_neg hc] at h; cases h
theorem min50 (n : Nat) : (if (50 : Int) < ((n : Nat) : Int) then (50 : Int) else ((n : Nat) : Int)) = ((min n 50 : Nat) : Int) := by split <;> omega
set_option maxHeartbeats 8000000 in
theorem topLost3 {w0 w : World} {F : List Chunk} (hS : St w0 w F) (hg : HG w0) {v1 : Value} {l1 : List UInt8} (hr : RdS w0 F 1 v1 l1.length (rows encB l1)) {a1 : Nat} (ha1 : a1 < 256) (hall : ∀ (n : Nat), 1 ≤ n → n ≤ 4 → ∀ x : List UInt8, x.length ≤ 50 → loM n x = some ()) :
 Ret Tryz.prog 3 #[v1, vB a1] w (fun v w' => v = .bool true ∧ St w0 w' F) := by
 obtain ⟨B1, d1, rfl, hmd, hdx⟩ := (hr w hS).open'
 have hx50 : ((l1.take (min l1.length 50)).drop 0).length ≤ 50 := by rw [List.drop_zero, List.length_take]; omega
 obtain ⟨s0, c, s1, s2, s3, r3, h1, h2, h3, h4, hw2, hF, h5, hst, hob⟩ := loM_ex (hall (1 + a1 % 4) (by omega) (by omega) ((l1.take (min l1.length 50)).drop 0) hx50)
 refine enter (vs := [.slice B1 l1.length d1, vB a1]) 115 Tryz.func3 rfl rfl (by simp) ?_; intro a hA
 refine zs (zr (zR 1 ((4, .bool false) :: _) hA rfl fun a hA => zn (zx (zs (zs (zr ?_))))))
 refine st_call0 hA rfl rfl rfl isfn7 rfl rfl (by decide) (awake7 hS) ?_
 clear hA hS; rintro _ w1 a ⟨rfl, hS⟩ hA
 refine zR 1 ((20, .bool false) :: _) hA rfl fun a hA => zn (zx (cd_cond_f hA rfl (zk (zx (zs (zr ?_))))))
 refine st_buildSlice tbOk hA hS [.int .i64 0, .int .i64 3] rfl rfl rfl rfl rfl (by decide) (by kernel_rfl) rfl rfl (by decide) fun b2 w3 a hS hA => ?_
 refine st_call0 hA rfl rfl rfl isfn9 rfl rfl (by decide) (config9 hS (q := 127) (by rfl) (by decide)) ?_
 clear hA hS; rintro _ w4 a ⟨rfl, hS⟩ hA
 refine st_call0 hA rfl rfl rfl isfn10 rfl rfl (by decide) (spread_10 hS 60 (by omega)) ?_
 clear hA hS; rintro _ w5 a ⟨As, cs, Cs, hOs, rfl, hS⟩ hA
 refine st_call0 hA rfl rfl rfl isfn8 rfl rfl (by decide) (of8 (ks := [0, 3]) (c := cfgN (1 + 127 % 120)) (ts := cutl (spread 60)) (ts0 := spread 60) (s := s0) hS (fun w9 h9 => (Own.full (T := 29) (size := 1) (g := b2) (m := 2) (xs := rows encKi [0, 3]) rfl (by decide)).rd (h9.own_ 1 rfl)) (fun w9 h9 => hOs.rd (h9.own_ 0 rfl)) (by rw [spread_length]; decide) (by intro x hx; obtain ⟨k, hk, rfl⟩ := List.mem_map.1 hx; have := List.mem_range.1 hk; omega) rfl (by decide) (by decide) h1) ?_
 clear hA hS; rintro _ w6 a ⟨b, L, hY, rfl, hS⟩ hA
 refine zR 5 ((6, .nilIface) :: (5, vP b 0) :: (27, .nilIface) :: (26, vP b 0) :: (21, .tuple #[vP b 0, .nilIface]) :: _) hA rfl fun a hA => zn (zx (zs (zs (zr (zR 2 ((29, .bool false) :: (28, .nilIface) :: _) hA rfl fun a hA => zn (zx (cd_cond_f hA rfl (zk (zx (zs (zr (zR 1 ((31, vP b 0) :: _) hA rfl fun a hA => ?_))))))))))))
 replace hS := hS.m1.m1
 obtain ⟨st8, sr9, hu10, hc11⟩ := upM_some h2
 refine st_call0 hA rfl rfl rfl isfn11 rfl rfl (by decide) (sroot11 hS hY (i := 1) hu10) ?_
 rw [hc11]
 clear hA hS; rintro _ w7 a ⟨L12, hY13, rfl, hS⟩ hA
 refine zR 3 ((34, .bool (((c.port : Nat) : Int) != 0)) :: (33, .agg #[vU c.r0, vW c.r1, vB c.r2, vU c.r3]) :: (30, .tuple #[.agg #[vU c.r0, vW c.r1, vB c.r2, vU c.r3], .bool (((c.port : Nat) : Int) != 0)]) :: _) hA rfl fun a hA => ?_
 refine st_alloc tbOk hA hS [.int .u64 0, .int .u32 0, .int .u8 0, .int .u64 0] rfl rfl rfl rfl rfl (by decide) fun b15 w16 a hS hA => ?_
 refine st_store tbOk hA hS [vU c.r0, vW c.r1, vB c.r2, vU c.r3] [vU c.r0, vW c.r1, vB c.r2, vU c.r3] rfl rfl rfl rfl rfl rfl (zn1 rfl) (zle rfl) rfl rfl rfl fun w17 hS => ?_
 refine zR 1 ((8, .bool (((c.port : Nat) : Int) != 0)) :: _) hA rfl fun a hA => zn (zx (zs (zr (zR 2 ((36, .int .u8 (((a1 : Nat) : Int).tmod 4)) :: (35, vB a1) :: _) hA rfl fun a hA => ?_))))
 replace hA := hA.rw 36 (v' := vB (a1 % 4)) rfl (vint (Int.ofNat_tmod _ _).symm)
 refine zR 1 ((37, .int .i64 (IntKind.i64.wrap ((a1 % 4 : Nat) : Int))) :: _) hA rfl fun a hA => ?_
 replace hA := hA.rw 37 (v' := vI (a1 % 4)) rfl (wr64 (by first | rfl | omega) (by omega) (by omega))
 refine zR 1 ((38, .int .i64 (IntKind.i64.wrap (1 + ((a1 % 4 : Nat) : Int)))) :: _) hA rfl fun a hA => ?_
 replace hA := hA.rw 38 (v' := vI (1 + (a1 % 4))) rfl (wr64 (by omega) (by omega) (by omega))
 refine zR 1 ((9, vI (1 + (a1 % 4))) :: _) hA rfl fun a hA => zn (zx (zs (zs (zr (zR 1 ((10, .int .i64 0) :: _) hA rfl fun a hA => zn (zx (zb ?_)))))))
 replace hS := hS.d4.d3.m2.m2
 refine wp_loop_ghost (fun m a w => ∃ (j : Nat) (sj : SY) (L' : Chunk) (D' : Chunk), m = 1 + a1 % 4 - j ∧ Has a 115 [(0, .slice B1 l1.length d1), (5, vP b 0), (7, vP b15 0), (9, vI (1 + (a1 % 4))), (10, vI j)] ∧ St w0 w (L' :: D' :: [(b15, rowO [vU c.r0, vW c.r1, vB c.r2, vU c.r3] 39)] :: F) ∧ (j ≤ 1 + a1 % 4) ∧ (callsM s0 (mkM c.r0 c.r1 c.r2 c.r3 ((l1.take (min l1.length 50)).drop 0)) j = some sj) ∧ (SYS w0 b (cutl (spread 60)) sj L' D')) (1 + a1 % 4 - 0)
  ⟨0, s0, L12, ([]), rfl, (hA.sel [0, 5, 7, 9, 10] rfl), hS, Nat.zero_le _, rfl, hY13⟩ ?_
 clear hA hS; rintro m0 a w18 ⟨j, sj, L', D', rfl, hA, hS, hj, hC, hYj⟩
 refine zs (zs (zr (zR 3 ((41, .bool (decide (((j : Nat) : Int) < ((1 + (a1 % 4) : Nat) : Int)))) :: (40, vI (1 + (a1 % 4))) :: (39, vI j) :: _) hA rfl fun a hA => zn (zx ?_))))
 by_cases hc19 : ((j : Nat) : Int) < ((1 + (a1 % 4) : Nat) : Int)
 · first
   | (exfalso; omega)
   | (replace hA := hA.rw 41 (v' := .bool true) rfl (vb_true hc19)
      refine cd_cond_t hA rfl (zk (zx (zs (zb (zs ?_)))))
      replace hS := hS.m1.m1
      refine zD2 hS [] [(0, true), (1, true), (2, true), (3, true), (4, true), (5, true), (6, true), (7, false), (8, false), (9, true), (10, true), (11, true), (12, true), (13, true)] mixed (by kernel_rfl) (by rintro c a w ⟨_, _, h, _⟩; cases h) (by rfl) (by kernel_rfl) ?_
      replace hS := hS.drew
      refine zW 1 ((45, vP b 0) :: _) hA (hS.tail 2 rfl) rfl fun a hA => zYA hA (hS.tail 2 rfl) 0 [vU c.r0, vW c.r1, vB c.r2, vU c.r3] rfl rfl rfl rfl rfl rfl rfl rfl rfl rfl rfl fun a hA => zW 4 ((50, .int .i64 (if 50 < ((l1.length : Nat) : Int) then 50 else ((l1.length : Nat) : Int))) :: (49, vI l1.length) :: (48, .slice B1 l1.length d1) :: (47, .slice B1 l1.length d1) :: _) hA (hS.tail 2 rfl) rfl fun a hA => ?_
      replace hA := hA.rw 50 (v' := vI (min l1.length 50)) rfl (vint (min50 _))
      refine dr_y hA rfl rfl rfl (by decide) (hS.tail 2 rfl) (fun w' hS' => rn_slice_h tbOk hA (min l1.length 50) rfl rfl rfl rfl rfl rfl (by rfl) (by omega)) fun a hA => ?_
      replace hA := hA.rw 51 (v' := .slice B1 ((l1.take (min l1.length 50)).length) d1) rfl (congrArg (fun m => Value.slice _ m _) (by rw [List.length_take]; omega))
      refine dr_b (o := _) rfl ?_
      refine st_call0 hA rfl rfl rfl isfn13 rfl rfl (by decide) (stmake13 hS c.r0 c.r1 c.r2 c.r3 (da := l1.take (min l1.length 50)) (fun w' h => (((hr _ (h.tail 3 rfl)).rhead encB_ok (min l1.length 50) (by omega))).x) (by first | omega | exact Nat.zero_le _ | (simp only [List.length_take, List.drop_zero]; omega) | decide)) ?_
      clear hA hS; rintro _ w20 a ⟨Am21, cm22, Cm23, hm24, rfl, hS⟩ hA
      refine zi (hS.tail 3 rfl) (dr_b (o := _) rfl ?_)
      replace hS := hS.m2.m2
      obtain ⟨y9, hj9⟩ := callsM_le h3 (j + 1) (by omega); obtain ⟨k9, hk9⟩ := callsM_some hC hj9; obtain ⟨st9, sr9, st8, out9, hx9, hc9, hs9, rfl, rfl⟩ := callM_some hk9
      refine st_call0 hA rfl rfl rfl isfn12 rfl rfl (by decide) (scall12 hS hYj (i := 0) hx9 (mkM c.r0 c.r1 c.r2 c.r3 (l1.take (min l1.length 50))) (fun w9 h9 => (hm24.rd (h9.own_ 1 rfl)).x) hc9 hs9) ?_
      clear hA hS; rintro _ w25 a ⟨L2, D2, hY2, hX2, rfl, hS⟩ hA
      refine zi (hS.tail 3 rfl) (zW 5 ((12, .nilIface) :: (11, vW (st9.ca.length + 1)) :: (55, .nilIface) :: (54, vW (st9.ca.length + 1)) :: (44, .tuple #[vW (st9.ca.length + 1), .nilIface]) :: _) hA (hS.tail 3 rfl) rfl fun a hA => ze (zx (zs (zr (zR 2 ((57, .bool false) :: (56, .nilIface) :: _) hA rfl fun a hA => zn (zx (cd_cond_f hA rfl (zk (zm (zx (zr (zR 2 ((43, .int .i64 (IntKind.i64.wrap (((j : Nat) : Int) + 1))) :: (42, vI j) :: _) hA rfl fun a hA => ?_))))))))))))
      replace hA := hA.rw 43 (v' := vI (j + 1)) rfl (wr64 (by omega) (by omega) (by omega))
      refine zR 1 ((10, vI (j + 1)) :: _) hA rfl fun a hA => zn ?_
      replace hS := hS.d2
      exact lp_next _ (by omega) ⟨(j + 1), _, L2, D2, rfl, (hA.sel [0, 5, 7, 9, 10] rfl), hS, by omega, hj9, hY2⟩)
 · first
   | (exfalso; omega)
   | (replace hA := hA.rw 41 (v' := .bool false) rfl (vb_false hc19)
      refine cd_cond_f hA rfl ?_
      refine wp_exit ?_
      refine xt_exit (xt_exit (cd_exit_eq (zx (zs (zs (zr (zR 1 ((58, .int .i64 0) :: _) hA rfl fun a hA => zn (zx (zb ?_)))))))))
      have hj8 : j = 1 + a1 % 4 := by omega
      subst hj8; rw [h3] at hC; injection hC with hC; subst hC
      refine wp_loop_ghost (fun m a w => ∃ (i : Nat) (si : SY) (Li : Chunk) (Di : Chunk), m = 6 - i ∧ Has a 115 [(5, vP b 0), (7, vP b15 0), (9, vI (1 + (a1 % 4))), (58, vI i)] ∧ St w0 w (Li :: Di :: [(b15, rowO [vU c.r0, vW c.r1, vB c.r2, vU c.r3] 39)] :: F) ∧ (i ≤ 6) ∧ (roundsM s1 i = some si) ∧ (SYS w0 b (cutl (spread 60)) si Li Di)) (6 - 0)
       ⟨0, s1, L', D', rfl, (hA.sel [5, 7, 9, 58] rfl), hS, Nat.zero_le _, rfl, hYj⟩ ?_
      clear hA hS; rintro m0 a w26 ⟨i, si, Li, Di, rfl, hA, hS, hi, hR, hYi⟩
      refine zs (zr (zR 1 ((59, .bool (decide (((i : Nat) : Int) < 6))) :: _) hA rfl fun a hA => zn (zx (zs ?_))))
      by_cases hc27 : ((i : Nat) : Int) < 6
      · first
        | (exfalso; omega)
        | (replace hA := hA.rw 59 (v' := .bool true) rfl (vb_true hc27)
           refine cd_cond_t hA rfl (zk (zx (zs (zb (zs (zb ?_))))))
           obtain ⟨y9, hi9⟩ := roundsM_le h4 (i + 1) (by omega); obtain ⟨hwb, htk⟩ := roundsM_some hR hi9
           refine wp_loop_ghost (fun m a w => ∃ (wj : List PN) (Lw : Chunk), m = wj.length ∧ Has a 115 [(5, vP b 0), (7, vP b15 0), (9, vI (1 + (a1 % 4))), (58, vI i)] ∧ St w0 w (Lw :: Di :: [(b15, rowO [vU c.r0, vW c.r1, vB c.r2, vU c.r3] 39)] :: F) ∧ (wj.length ≤ 100000) ∧ (SYS w0 b (cutl (spread 60)) ({ si with wi := wj } : SY) Lw Di)) (si.wi.length)
            ⟨si.wi, Li, rfl, (hA.sel [5, 7, 9, 58] rfl), hS, hwb, hYi⟩ ?_
           clear hA hS; rintro m0 a w28 ⟨wj, Lw, rfl, hA, hS, hwl, hYw⟩
           refine zs (zs (zr (zR 1 ((60, vP b 0) :: _) hA rfl fun a hA => ?_)))
           replace hS := hS.m1.m1
           refine st_call0 hA rfl rfl rfl isfn14 rfl rfl (by decide) (sflying14 hS hYw) ?_
           clear hA hS; rintro _ w29 a ⟨L3, hY3, rfl, hS⟩ hA
           replace hA := hA.rw 61 (v' := vI wj.length) rfl rfl
           refine zR 1 ((62, .bool (decide (((wj.length : Nat) : Int) > 0))) :: _) hA rfl fun a hA => zn (zx ?_)
           by_cases hc30 : ((wj.length : Nat) : Int) > 0
           · first
             | (exfalso; omega)
             | (replace hA := hA.rw 62 (v' := .bool true) rfl (vb_true hc30)
                refine cd_cond_t hA rfl (zk (zx (zb (zr (zR 2 ((64, .agg #[.int .u8 1, .int .i64 0, .int .i64 0]) :: (63, vP b 0) :: _) hA rfl fun a hA => ?_)))))
                replace hS := hS.m1.m1
                obtain ⟨p9, wj2, rfl⟩ := List.exists_cons_of_length_pos (l := wj) (by omega)
                refine st_call0 hA rfl rfl rfl isfn15 rfl rfl (by decide) (do_lose15 hS hY3 rfl (by simp only [List.length_cons] at hwl; omega)) ?_
                clear hA hS; rintro _ w31 a ⟨L4, hY4, rfl, hS⟩ hA
                refine zn (zm ?_)
                exact lp_next _ (by simp only [List.length_cons]; omega) ⟨wj2, L4, rfl, (hA.sel [5, 7, 9, 58] rfl), hS, (by simp only [List.length_cons] at hwl; omega), hY4⟩)
           · first
             | (exfalso; omega)
             | (replace hA := hA.rw 62 (v' := .bool false) rfl (vb_false hc30)
                refine cd_cond_f hA rfl ?_
                refine wp_exit ?_
                refine xt_exit (xt_exit (cd_exit_eq (zx (zr ?_))))
                obtain rfl : wj = [] := List.eq_nil_of_length_eq_zero (by omega)
                refine zR 2 ((67, .agg #[.int .u8 4, .int .i64 0, .int .i64 0]) :: (66, vP b 0) :: _) hA rfl fun a hA => ?_
                replace hS := hS.m1.m1
                refine st_call0 hA rfl rfl rfl isfn15 rfl rfl (by decide) (do_tick15 hS hY3 htk) ?_
                clear hA hS; rintro _ w32 a ⟨L4, D4, hY4, hX4, rfl, hS⟩ hA
                refine zn (zm (zx (zr (zR 1 ((69, .int .i64 (IntKind.i64.wrap (((i : Nat) : Int) + 1))) :: _) hA rfl fun a hA => ?_))))
                replace hA := hA.rw 69 (v' := vI (i + 1)) rfl (wr64 (by omega) (by omega) (by omega))
                refine zR 1 ((58, vI (i + 1)) :: _) hA rfl fun a hA => zn ?_
                exact lp_next _ (by omega) ⟨(i + 1), _, L4, D4, rfl, (hA.sel [5, 7, 9, 58] rfl), hS, by omega, hi9, hY4⟩))
      · first
        | (exfalso; omega)
        | (replace hA := hA.rw 59 (v' := .bool false) rfl (vb_false hc27)
           refine cd_cond_f hA rfl ?_
           refine wp_exit ?_
           refine xt_exit (xt_exit (cd_exit_eq (zx (zs (zs (zr (zR 1 ((13, .int .i64 1) :: _) hA rfl fun a hA => zn (zx (zb ?_)))))))))
           have hi8 : i = 6 := by omega
           subst hi8; rw [h4] at hR; injection hR with hR; subst hR
           refine wp_loop_ghost (fun m a w => ∃ (j : Nat) (Lg : Chunk), m = 1 + a1 % 4 - j ∧ Has a 115 [(5, vP b 0), (7, vP b15 0), (9, vI (1 + (a1 % 4))), (13, vI (j + 1))] ∧ St w0 w (Lg :: Di :: [(b15, rowO [vU c.r0, vW c.r1, vB c.r2, vU c.r3] 39)] :: F) ∧ (j ≤ 1 + a1 % 4) ∧ (SYS w0 b (cutl (spread 60)) s2 Lg Di)) (1 + a1 % 4 - 0)
            ⟨0, Li, rfl, (hA.sel [5, 7, 9, 13] rfl), hS, Nat.zero_le _, hYi⟩ ?_
           clear hA hS; rintro m0 a w33 ⟨j, Lg, rfl, hA, hS, hj, hYg⟩
           refine zs (zs (zr (zR 3 ((72, .bool (decide (((j + 1 : Nat) : Int) ≤ ((1 + (a1 % 4) : Nat) : Int)))) :: (71, vI (1 + (a1 % 4))) :: (70, vI (j + 1)) :: _) hA rfl fun a hA => zn (zx ?_))))
           by_cases hc34 : ((j + 1 : Nat) : Int) ≤ ((1 + (a1 % 4) : Nat) : Int)
           · first
             | (exfalso; omega)
             | (replace hA := hA.rw 72 (v' := .bool true) rfl (vb_true hc34)
                refine cd_cond_t hA rfl (zk (zx (zs (zb (zs (zr (zR 3 ((78, .int .u32 (IntKind.u32.wrap ((j + 1 : Nat) : Int))) :: (77, vI (j + 1)) :: (76, vP b 0) :: _) hA rfl fun a hA => ?_)))))))
                replace hA := hA.rw 78 (v' := vW (j + 1)) rfl (vint (wrap_u32 (by omega) (by omega)))
                replace hS := hS.m1.m1
                obtain ⟨y9, hy9, hy8⟩ := allF_at hF (k := j) (by omega); obtain ⟨st9, sr9, g1, g2, g3, g4⟩ := get0M_some hy9
                refine st_call0 hA rfl rfl rfl isfn16 rfl rfl (by decide) (sget_failed16 hS hYg (i := 0) g1 g2 g3 g4 hy8) ?_
                clear hA hS; rintro _ w35 a ⟨L4, hY4, rfl, hS⟩ hA
                refine zR 4 ((82, .iface 55 (.int .i64 10)) :: (81, .agg #[.int .u64 0, .int .u64 0, .int .u32 0, .int .u16 0, .int .u16 0, .int .u64 0, .int .u32 0, .int .u8 0, .int .u64 0, .int .u64 0, .slice none 0 0]) :: (80, .int .i64 3) :: (75, .tuple #[.int .i64 3, .agg #[.int .u64 0, .int .u64 0, .int .u32 0, .int .u16 0, .int .u16 0, .int .u64 0, .int .u32 0, .int .u8 0, .int .u64 0, .int .u64 0, .slice none 0 0], .iface 55 (.int .i64 10)]) :: _) hA rfl fun a hA => ?_
                refine st_alloc tbOk hA hS [.int .u64 0, .int .u64 0, .int .u32 0, .int .u16 0, .int .u16 0, .int .u64 0, .int .u32 0, .int .u8 0, .int .u64 0, .int .u64 0, .slice none 0 0] rfl rfl rfl rfl rfl (by decide) fun b36 w37 a hS hA => ?_
                refine zR 1 ((14, .int .i64 3) :: _) hA rfl fun a hA => ?_
                refine st_store tbOk hA hS [.int .u64 0, .int .u64 0, .int .u32 0, .int .u16 0, .int .u16 0, .int .u64 0, .int .u32 0, .int .u8 0, .int .u64 0, .int .u64 0, .slice none 0 0] [.int .u64 0, .int .u64 0, .int .u32 0, .int .u16 0, .int .u16 0, .int .u64 0, .int .u32 0, .int .u8 0, .int .u64 0, .int .u64 0, .slice none 0 0] rfl rfl rfl rfl rfl rfl (zn1 rfl) (zle rfl) rfl rfl rfl fun w38 hS => ?_
                refine zR 1 ((16, .iface 55 (.int .i64 10)) :: _) hA rfl fun a hA => zn (zx (zs (zr (zR 4 ((86, .iface 55 (.int .i64 10)) :: (85, .bool false) :: (84, .bool false) :: (83, .int .i64 3) :: _) hA rfl fun a hA => ?_))))
                refine st_call0 hA rfl rfl rfl isfn17 rfl rfl (by decide) (number_hit17 hS hg 10) ?_
                clear hA hS; rintro v w39 a ⟨rfl, hS⟩ hA
                refine zR 2 ((89, .bool false) :: (88, .bool false) :: _) hA rfl fun a hA => zn (zx (cd_cond_f hA rfl (zk (zm (zx (zr (zR 2 ((74, .int .i64 (IntKind.i64.wrap (((j + 1 : Nat) : Int) + 1))) :: (73, vI (j + 1)) :: _) hA rfl fun a hA => ?_)))))))
                replace hA := hA.rw 74 (v' := vI ((j + 1) + 1)) rfl (wr64 (by omega) (by omega) (by omega))
                refine zR 1 ((13, vI ((j + 1) + 1)) :: _) hA rfl fun a hA => zn ?_
                replace hS := hS.d0
                exact lp_next _ (by omega) ⟨(j + 1), L4, rfl, (hA.sel [5, 7, 9, 13] rfl), hS, by omega, hY4⟩)
           · first
             | (exfalso; omega)
             | (replace hA := hA.rw 72 (v' := .bool false) rfl (vb_false hc34)
                refine cd_cond_f hA rfl ?_
                refine wp_exit ?_
                refine xt_exit (xt_exit (cd_exit_eq (zx (zs (zb ?_)))))
                refine wp_loop_ghost (fun m a w => ∃ (wj : List PN) (Lw : Chunk), m = wj.length ∧ Has a 115 [(5, vP b 0), (7, vP b15 0)] ∧ St w0 w (Lw :: Di :: [(b15, rowO [vU c.r0, vW c.r1, vB c.r2, vU c.r3] 39)] :: F) ∧ (wj.length ≤ 100000) ∧ (SYS w0 b (cutl (spread 60)) ({ s2 with wi := wj } : SY) Lw Di)) (s2.wi.length)
                 ⟨s2.wi, Lg, rfl, (hA.sel [5, 7] rfl), hS, hw2, hYg⟩ ?_
                clear hA hS; rintro m0 a w40 ⟨wj, Lw, rfl, hA, hS, hwl, hYw⟩
                refine zs (zs (zr (zR 1 ((90, vP b 0) :: _) hA rfl fun a hA => ?_)))
                replace hS := hS.m1.m1
                refine st_call0 hA rfl rfl rfl isfn14 rfl rfl (by decide) (sflying14 hS hYw) ?_
                clear hA hS; rintro _ w41 a ⟨L3, hY3, rfl, hS⟩ hA
                replace hA := hA.rw 91 (v' := vI wj.length) rfl rfl
                refine zR 1 ((92, .bool (decide (((wj.length : Nat) : Int) > 0))) :: _) hA rfl fun a hA => zn (zx ?_)
                by_cases hc42 : ((wj.length : Nat) : Int) > 0
                · first
                  | (exfalso; omega)
                  | (replace hA := hA.rw 92 (v' := .bool true) rfl (vb_true hc42)
                     refine cd_cond_t hA rfl (zk (zx (zb (zr (zR 2 ((94, .agg #[.int .u8 1, .int .i64 0, .int .i64 0]) :: (93, vP b 0) :: _) hA rfl fun a hA => ?_)))))
                     replace hS := hS.m1.m1
                     obtain ⟨p9, wj2, rfl⟩ := List.exists_cons_of_length_pos (l := wj) (by omega)
                     refine st_call0 hA rfl rfl rfl isfn15 rfl rfl (by decide) (do_lose15 hS hY3 rfl (by simp only [List.length_cons] at hwl; omega)) ?_
                     clear hA hS; rintro _ w43 a ⟨L4, hY4, rfl, hS⟩ hA
                     refine zn (zm ?_)
                     exact lp_next _ (by simp only [List.length_cons]; omega) ⟨wj2, L4, rfl, (hA.sel [5, 7] rfl), hS, (by simp only [List.length_cons] at hwl; omega), hY4⟩)
                · first
                  | (exfalso; omega)
                  | (replace hA := hA.rw 92 (v' := .bool false) rfl (vb_false hc42)
                     refine cd_cond_f hA rfl ?_
                     refine wp_exit ?_
                     refine xt_exit (xt_exit (cd_exit_eq (zx (zs (zr ?_)))))
                     obtain rfl : wj = [] := List.eq_nil_of_length_eq_zero (by omega)
                     refine zR 1 ((97, vP b 0) :: _) hA rfl fun a hA => zLA hA hS 2 [vU c.r0, vW c.r1, vB c.r2, vU c.r3] rfl rfl rfl rfl rfl rfl rfl rfl rfl rfl fun a hA => ?_
                     refine st_call0 hA rfl rfl rfl isfn13 rfl rfl (by decide) (stmake13 hS c.r0 c.r1 c.r2 c.r3 (da := ([] : List UInt8)) RdSX.nil (by first | omega | exact Nat.zero_le _ | (simp only [List.length_take, List.drop_zero]; omega) | decide)) ?_
                     clear hA hS; rintro _ w44 a ⟨Am45, cm46, Cm47, hm48, rfl, hS⟩ hA
                     replace hS := hS.m2.m2
                     refine st_call0 hA rfl rfl rfl isfn18 rfl rfl (by decide) (trans18 hS hY3 (mkM c.r0 c.r1 c.r2 c.r3 ([] : List UInt8)) (fun w9 h9 => (hm48.rd (h9.own_ 1 rfl)).x) h5) ?_
                     clear hA hS; rintro _ w49 a ⟨L53, D55, Ar50, cr51, hY54, hX56, hr52, rfl, hS⟩ hA
                     refine zR 3 ((102, .bool true) :: (101, .agg #[vU r3.to, vU r3.rp, vW r3.id, vH r3.op, vH r3.st, vU r3.po, vW r3.ob, vB r3.ri, vU r3.ck, vU r3.ar, .slice Ar50 r3.da.length cr51]) :: (96, .tuple #[.agg #[vU r3.to, vU r3.rp, vW r3.id, vH r3.op, vH r3.st, vU r3.po, vW r3.ob, vB r3.ri, vU r3.ck, vU r3.ar, .slice Ar50 r3.da.length cr51], .bool true]) :: _) hA rfl fun a hA => ?_
                     refine st_alloc tbOk hA hS [.int .u64 0, .int .u64 0, .int .u32 0, .int .u16 0, .int .u16 0, .int .u64 0, .int .u32 0, .int .u8 0, .int .u64 0, .int .u64 0, .slice none 0 0] rfl rfl rfl rfl rfl (by decide) fun b57 w58 a hS hA => ?_
                     refine st_store tbOk hA hS [vU r3.to, vU r3.rp, vW r3.id, vH r3.op, vH r3.st, vU r3.po, vW r3.ob, vB r3.ri, vU r3.ck, vU r3.ar, .slice Ar50 r3.da.length cr51] [vU r3.to, vU r3.rp, vW r3.id, vH r3.op, vH r3.st, vU r3.po, vW r3.ob, vB r3.ri, vU r3.ck, vU r3.ar, .slice Ar50 r3.da.length cr51] rfl rfl rfl rfl rfl rfl (zn1 rfl) (zle rfl) rfl rfl rfl fun w59 hS => ?_
                     refine zR 1 ((18, .bool true) :: _) hA rfl fun a hA => zn (zx (zs (zr (zR 3 ((105, vP b57 4) :: (104, .bool true) :: (103, .bool true) :: _) hA rfl fun a hA => zL hA hS 0 rfl rfl rfl rfl rfl rfl rfl rfl rfl fun a hA => zR 1 ((107, .bool (((r3.st : Nat) : Int) == 0)) :: _) hA rfl fun a hA => ?_))))
                     replace hA := hA.rw 107 (v' := .bool true) rfl (vbool (by rw [hst]; rfl))
                     refine zR 4 ((111, vP b57 6) :: (110, vP b57 5) :: (109, .bool true) :: (108, .bool true) :: _) hA rfl fun a hA => zL hA hS 0 rfl rfl rfl rfl rfl rfl rfl rfl rfl fun a hA => zR 1 ((113, .bool (((r3.ob : Nat) : Int) == 1)) :: _) hA rfl fun a hA => ?_
                     replace hA := hA.rw 113 (v' := .bool true) rfl (vbool (by rw [hob]; rfl))
                     refine zR 2 ((4, .bool true) :: (114, .bool true) :: _) hA rfl fun a hA => zn (zx ?_)
                     refine wp_ret ?_
                     refine ret1 (fn := Tryz.f3) hA rfl rfl ?_
                     replace hS := hS.d0.d0.d0.d0.d0
                     exact ⟨rfl, hS⟩))))
end Go.Proofs.YthiakdmhpfkjbaaGreatDoor

set_option linter.unusedVariables false
set_option linter.unusedSimpArgs false
set_option maxRecDepth 4000
namespace Go.Proofs.YthiakdmhpfkjbaaGreatDoor
open Go Go.SK
def loA (l : List UInt8) : Option Unit := (loM 1 l).bind fun _ => (loM 2 l).bind fun _ => (loM 3 l).bind fun _ => loM 4 l
theorem loA_ex {l : List UInt8} (h : loA l = some ()) : ∀ (n : Nat), 1 ≤ n → n ≤ 4 → loM n l = some () := by
  unfold loA at h
  obtain ⟨⟨⟩, h1, h⟩ := Option.bind_eq_some_iff.1 h
  obtain ⟨⟨⟩, h2, h⟩ := Option.bind_eq_some_iff.1 h
  obtain ⟨⟨⟩, h3, h⟩ := Option.bind_eq_some_iff.1 h
  intro n h4 h5
  rcases (by omega : n = 1 ∨ n = 2 ∨ n = 3 ∨ n = 4) with rfl | rfl | rfl | rfl
  · exact h1
  · exact h2
  · exact h3
  · exact h
set_option maxRecDepth 100000
theorem lo_0 : loA [] = some () := by kernel_rfl
theorem lo_1 (a : UInt8) : loA [a] = some () := by kernel_rfl
theorem lo_2 (a b : UInt8) : loA [a, b] = some () := by kernel_rfl
theorem lo_3 (a b c : UInt8) : loA [a, b, c] = some () := by kernel_rfl
theorem lo_4 (a b c d : UInt8) : loA [a, b, c, d] = some () := by kernel_rfl
theorem lo_5 (a b c d e : UInt8) : loA [a, b, c, d, e] = some () := by kernel_rfl
theorem lo_6 (a b c d e f : UInt8) : loA [a, b, c, d, e, f] = some () := by kernel_rfl
theorem lo_7 (a b c d e f g : UInt8) : loA [a, b, c, d, e, f, g] = some () := by kernel_rfl
theorem lo_8 (a b c d e f g h : UInt8) : loA [a, b, c, d, e, f, g, h] = some () := by kernel_rfl
theorem lo_9 (a b c d e f g h i : UInt8) : loA [a, b, c, d, e, f, g, h, i] = some () := by kernel_rfl
theorem lo_10 (a b c d e f g h i j : UInt8) : loA [a, b, c, d, e, f, g, h, i, j] = some () := by kernel_rfl
theorem lo_11 (a b c d e f g h i j k : UInt8) : loA [a, b, c, d, e, f, g, h, i, j, k] = some () := by kernel_rfl
theorem lo_12 (a b c d e f g h i j k l : UInt8) : loA [a, b, c, d, e, f, g, h, i, j, k, l] = some () := by kernel_rfl
theorem lo_13 (a b c d e f g h i j k l m : UInt8) : loA [a, b, c, d, e, f, g, h, i, j, k, l, m] = some () := by kernel_rfl
theorem lo_14 (a b c d e f g h i j k l m n : UInt8) : loA [a, b, c, d, e, f, g, h, i, j, k, l, m, n] = some () := by kernel_rfl
theorem lo_15 (a b c d e f g h i j k l m n o : UInt8) : loA [a, b, c, d, e, f, g, h, i, j, k, l, m, n, o] = some () := by kernel_rfl
theorem lo_16 (a b c d e f g h i j k l m n o p : UInt8) : loA [a, b, c, d, e, f, g, h, i, j, k, l, m, n, o, p] = some () := by kernel_rfl
theorem lo_17 (a b c d e f g h i j k l m n o p q : UInt8) : loA [a, b, c, d, e, f, g, h, i, j, k, l, m, n, o, p, q] = some () := by kernel_rfl
theorem lo_18 (a b c d e f g h i j k l m n o p q r : UInt8) : loA [a, b, c, d, e, f, g, h, i, j, k, l, m, n, o, p, q, r] = some () := by kernel_rfl
theorem lo_19 (a b c d e f g h i j k l m n o p q r s : UInt8) : loA [a, b, c, d, e, f, g, h, i, j, k, l, m, n, o, p, q, r, s] = some () := by kernel_rfl
theorem lo_20 (a b c d e f g h i j k l m n o p q r s t : UInt8) : loA [a, b, c, d, e, f, g, h, i, j, k, l, m, n, o, p, q, r, s, t] = some () := by kernel_rfl
theorem lo_21 (a b c d e f g h i j k l m n o p q r s t u : UInt8) : loA [a, b, c, d, e, f, g, h, i, j, k, l, m, n, o, p, q, r, s, t, u] = some () := by kernel_rfl
theorem lo_22 (a b c d e f g h i j k l m n o p q r s t u v : UInt8) : loA [a, b, c, d, e, f, g, h, i, j, k, l, m, n, o, p, q, r, s, t, u, v] = some () := by kernel_rfl
theorem lo_23 (a b c d e f g h i j k l m n o p q r s t u v w : UInt8) : loA [a, b, c, d, e, f, g, h, i, j, k, l, m, n, o, p, q, r, s, t, u, v, w] = some () := by kernel_rfl
theorem lo_24 (a b c d e f g h i j k l m n o p q r s t u v w x : UInt8) : loA [a, b, c, d, e, f, g, h, i, j, k, l, m, n, o, p, q, r, s, t, u, v, w, x] = some () := by kernel_rfl
theorem lo_25 (a b c d e f g h i j k l m n o p q r s t u v w x y : UInt8) : loA [a, b, c, d, e, f, g, h, i, j, k, l, m, n, o, p, q, r, s, t, u, v, w, x, y] = some () := by kernel_rfl
theorem lo_26 (a b c d e f g h i j k l m n o p q r s t u v w x y z : UInt8) : loA [a, b, c, d, e, f, g, h, i, j, k, l, m, n, o, p, q, r, s, t, u, v, w, x, y, z] = some () := by kernel_rfl
theorem lo_27 (a b c d e f g h i j k l m n o p q r s t u v w x y z xa : UInt8) : loA [a, b, c, d, e, f, g, h, i, j, k, l, m, n, o, p, q, r, s, t, u, v, w, x, y, z, xa] = some () := by kernel_rfl
theorem lo_28 (a b c d e f g h i j k l m n o p q r s t u v w x y z xa xb : UInt8) : loA [a, b, c, d, e, f, g, h, i, j, k, l, m, n, o, p, q, r, s, t, u, v, w, x, y, z, xa, xb] = some () := by kernel_rfl
theorem lo_29 (a b c d e f g h i j k l m n o p q r s t u v w x y z xa xb xc : UInt8) : loA [a, b, c, d, e, f, g, h, i, j, k, l, m, n, o, p, q, r, s, t, u, v, w, x, y, z, xa, xb, xc] = some () := by kernel_rfl
theorem lo_30 (a b c d e f g h i j k l m n o p q r s t u v w x y z xa xb xc xd : UInt8) : loA [a, b, c, d, e, f, g, h, i, j, k, l, m, n, o, p, q, r, s, t, u, v, w, x, y, z, xa, xb, xc, xd] = some () := by kernel_rfl
theorem lo_31 (a b c d e f g h i j k l m n o p q r s t u v w x y z xa xb xc xd xe : UInt8) : loA [a, b, c, d, e, f, g, h, i, j, k, l, m, n, o, p, q, r, s, t, u, v, w, x, y, z, xa, xb, xc, xd, xe] = some () := by kernel_rfl
theorem lo_32 (a b c d e f g h i j k l m n o p q r s t u v w x y z xa xb xc xd xe xf : UInt8) : loA [a, b, c, d, e, f, g, h, i, j, k, l, m, n, o, p, q, r, s, t, u, v, w, x, y, z, xa, xb, xc, xd, xe, xf] = some () := by kernel_rfl
theorem lo_33 (a b c d e f g h i j k l m n o p q r s t u v w x y z xa xb xc xd xe xf xg : UInt8) : loA [a, b, c, d, e, f, g, h, i, j, k, l, m, n, o, p, q, r, s, t, u, v, w, x, y, z, xa, xb, xc, xd, xe, xf, xg] = some () := by kernel_rfl
theorem lo_34 (a b c d e f g h i j k l m n o p q r s t u v w x y z xa xb xc xd xe xf xg xh : UInt8) : loA [a, b, c, d, e, f, g, h, i, j, k, l, m, n, o, p, q, r, s, t, u, v, w, x, y, z, xa, xb, xc, xd, xe, xf, xg, xh] = some () := by kernel_rfl
theorem lo_35 (a b c d e f g h i j k l m n o p q r s t u v w x y z xa xb xc xd xe xf xg xh xi : UInt8) : loA [a, b, c, d, e, f, g, h, i, j, k, l, m, n, o, p, q, r, s, t, u, v, w, x, y, z, xa, xb, xc, xd, xe, xf, xg, xh, xi] = some () := by kernel_rfl
theorem lo_36 (a b c d e f g h i j k l m n o p q r s t u v w x y z xa xb xc xd xe xf xg xh xi xj : UInt8) : loA [a, b, c, d, e, f, g, h, i, j, k, l, m, n, o, p, q, r, s, t, u, v, w, x, y, z, xa, xb, xc, xd, xe, xf, xg, xh, xi, xj] = some () := by kernel_rfl
theorem lo_37 (a b c d e f g h i j k l m n o p q r s t u v w x y z xa xb xc xd xe xf xg xh xi xj xk : UInt8) : loA [a, b, c, d, e, f, g, h, i, j, k, l, m, n, o, p, q, r, s, t, u, v, w, x, y, z, xa, xb, xc, xd, xe, xf, xg, xh, xi, xj, xk] = some () := by kernel_rfl
theorem lo_38 (a b c d e f g h i j k l m n o p q r s t u v w x y z xa xb xc xd xe xf xg xh xi xj xk xl : UInt8) : loA [a, b, c, d, e, f, g, h, i, j, k, l, m, n, o, p, q, r, s, t, u, v, w, x, y, z, xa, xb, xc, xd, xe, xf, xg, xh, xi, xj, xk, xl] = some () := by kernel_rfl
theorem lo_39 (a b c d e f g h i j k l m n o p q r s t u v w x y z xa xb xc xd xe xf xg xh xi xj xk xl xm : UInt8) : loA [a, b, c, d, e, f, g, h, i, j, k, l, m, n, o, p, q, r, s, t, u, v, w, x, y, z, xa, xb, xc, xd, xe, xf, xg, xh, xi, xj, xk, xl, xm] = some () := by kernel_rfl
theorem lo_40 (a b c d e f g h i j k l m n o p q r s t u v w x y z xa xb xc xd xe xf xg xh xi xj xk xl xm xn : UInt8) : loA [a, b, c, d, e, f, g, h, i, j, k, l, m, n, o, p, q, r, s, t, u, v, w, x, y, z, xa, xb, xc, xd, xe, xf, xg, xh, xi, xj, xk, xl, xm, xn] = some () := by kernel_rfl
theorem lo_41 (a b c d e f g h i j k l m n o p q r s t u v w x y z xa xb xc xd xe xf xg xh xi xj xk xl xm xn xo : UInt8) : loA [a, b, c, d, e, f, g, h, i, j, k, l, m, n, o, p, q, r, s, t, u, v, w, x, y, z, xa, xb, xc, xd, xe, xf, xg, xh, xi, xj, xk, xl, xm, xn, xo] = some () := by kernel_rfl
theorem lo_42 (a b c d e f g h i j k l m n o p q r s t u v w x y z xa xb xc xd xe xf xg xh xi xj xk xl xm xn xo xp : UInt8) : loA [a, b, c, d, e, f, g, h, i, j, k, l, m, n, o, p, q, r, s, t, u, v, w, x, y, z, xa, xb, xc, xd, xe, xf, xg, xh, xi, xj, xk, xl, xm, xn, xo, xp] = some () := by kernel_rfl
theorem lo_43 (a b c d e f g h i j k l m n o p q r s t u v w x y z xa xb xc xd xe xf xg xh xi xj xk xl xm xn xo xp xq : UInt8) : loA [a, b, c, d, e, f, g, h, i, j, k, l, m, n, o, p, q, r, s, t, u, v, w, x, y, z, xa, xb, xc, xd, xe, xf, xg, xh, xi, xj, xk, xl, xm, xn, xo, xp, xq] = some () := by kernel_rfl
theorem lo_44 (a b c d e f g h i j k l m n o p q r s t u v w x y z xa xb xc xd xe xf xg xh xi xj xk xl xm xn xo xp xq xr : UInt8) : loA [a, b, c, d, e, f, g, h, i, j, k, l, m, n, o, p, q, r, s, t, u, v, w, x, y, z, xa, xb, xc, xd, xe, xf, xg, xh, xi, xj, xk, xl, xm, xn, xo, xp, xq, xr] = some () := by kernel_rfl
theorem lo_45 (a b c d e f g h i j k l m n o p q r s t u v w x y z xa xb xc xd xe xf xg xh xi xj xk xl xm xn xo xp xq xr xs : UInt8) : loA [a, b, c, d, e, f, g, h, i, j, k, l, m, n, o, p, q, r, s, t, u, v, w, x, y, z, xa, xb, xc, xd, xe, xf, xg, xh, xi, xj, xk, xl, xm, xn, xo, xp, xq, xr, xs] = some () := by kernel_rfl
theorem lo_46 (a b c d e f g h i j k l m n o p q r s t u v w x y z xa xb xc xd xe xf xg xh xi xj xk xl xm xn xo xp xq xr xs xt : UInt8) : loA [a, b, c, d, e, f, g, h, i, j, k, l, m, n, o, p, q, r, s, t, u, v, w, x, y, z, xa, xb, xc, xd, xe, xf, xg, xh, xi, xj, xk, xl, xm, xn, xo, xp, xq, xr, xs, xt] = some () := by kernel_rfl
theorem lo_47 (a b c d e f g h i j k l m n o p q r s t u v w x y z xa xb xc xd xe xf xg xh xi xj xk xl xm xn xo xp xq xr xs xt xu : UInt8) : loA [a, b, c, d, e, f, g, h, i, j, k, l, m, n, o, p, q, r, s, t, u, v, w, x, y, z, xa, xb, xc, xd, xe, xf, xg, xh, xi, xj, xk, xl, xm, xn, xo, xp, xq, xr, xs, xt, xu] = some () := by kernel_rfl
theorem lo_48 (a b c d e f g h i j k l m n o p q r s t u v w x y z xa xb xc xd xe xf xg xh xi xj xk xl xm xn xo xp xq xr xs xt xu xv : UInt8) : loA [a, b, c, d, e, f, g, h, i, j, k, l, m, n, o, p, q, r, s, t, u, v, w, x, y, z, xa, xb, xc, xd, xe, xf, xg, xh, xi, xj, xk, xl, xm, xn, xo, xp, xq, xr, xs, xt, xu, xv] = some () := by kernel_rfl
theorem lo_49 (a b c d e f g h i j k l m n o p q r s t u v w x y z xa xb xc xd xe xf xg xh xi xj xk xl xm xn xo xp xq xr xs xt xu xv xw : UInt8) : loA [a, b, c, d, e, f, g, h, i, j, k, l, m, n, o, p, q, r, s, t, u, v, w, x, y, z, xa, xb, xc, xd, xe, xf, xg, xh, xi, xj, xk, xl, xm, xn, xo, xp, xq, xr, xs, xt, xu, xv, xw] = some () := by kernel_rfl
theorem lo_50 (a b c d e f g h i j k l m n o p q r s t u v w x y z xa xb xc xd xe xf xg xh xi xj xk xl xm xn xo xp xq xr xs xt xu xv xw xx : UInt8) : loA [a, b, c, d, e, f, g, h, i, j, k, l, m, n, o, p, q, r, s, t, u, v, w, x, y, z, xa, xb, xc, xd, xe, xf, xg, xh, xi, xj, xk, xl, xm, xn, xo, xp, xq, xr, xs, xt, xu, xv, xw, xx] = some () := by kernel_rfl
theorem lo_all (x : List UInt8) (h : x.length ≤ 50) : loA x = some () := by
  rcases x with _ | ⟨a0, x⟩
  · exact lo_0 ..
  rcases x with _ | ⟨a1, x⟩
  · exact lo_1 ..
  rcases x with _ | ⟨a2, x⟩
  · exact lo_2 ..
  rcases x with _ | ⟨a3, x⟩
  · exact lo_3 ..
  rcases x with _ | ⟨a4, x⟩
  · exact lo_4 ..
  rcases x with _ | ⟨a5, x⟩
  · exact lo_5 ..
  rcases x with _ | ⟨a6, x⟩
  · exact lo_6 ..
  rcases x with _ | ⟨a7, x⟩
  · exact lo_7 ..
  rcases x with _ | ⟨a8, x⟩
  · exact lo_8 ..
  rcases x with _ | ⟨a9, x⟩
  · exact lo_9 ..
  rcases x with _ | ⟨a10, x⟩
  · exact lo_10 ..
  rcases x with _ | ⟨a11, x⟩
  · exact lo_11 ..
  rcases x with _ | ⟨a12, x⟩
  · exact lo_12 ..
  rcases x with _ | ⟨a13, x⟩
  · exact lo_13 ..
  rcases x with _ | ⟨a14, x⟩
  · exact lo_14 ..
  rcases x with _ | ⟨a15, x⟩
  · exact lo_15 ..
  rcases x with _ | ⟨a16, x⟩
  · exact lo_16 ..
  rcases x with _ | ⟨a17, x⟩
  · exact lo_17 ..
  rcases x with _ | ⟨a18, x⟩
  · exact lo_18 ..
  rcases x with _ | ⟨a19, x⟩
  · exact lo_19 ..
  rcases x with _ | ⟨a20, x⟩
  · exact lo_20 ..
  rcases x with _ | ⟨a21, x⟩
  · exact lo_21 ..
  rcases x with _ | ⟨a22, x⟩
  · exact lo_22 ..
  rcases x with _ | ⟨a23, x⟩
  · exact lo_23 ..
  rcases x with _ | ⟨a24, x⟩
  · exact lo_24 ..
  rcases x with _ | ⟨a25, x⟩
  · exact lo_25 ..
  rcases x with _ | ⟨a26, x⟩
  · exact lo_26 ..
  rcases x with _ | ⟨a27, x⟩
  · exact lo_27 ..
  rcases x with _ | ⟨a28, x⟩
  · exact lo_28 ..
  rcases x with _ | ⟨a29, x⟩
  · exact lo_29 ..
  rcases x with _ | ⟨a30, x⟩
  · exact lo_30 ..
  rcases x with _ | ⟨a31, x⟩
  · exact lo_31 ..
  rcases x with _ | ⟨a32, x⟩
  · exact lo_32 ..
  rcases x with _ | ⟨a33, x⟩
  · exact lo_33 ..
  rcases x with _ | ⟨a34, x⟩
  · exact lo_34 ..
  rcases x with _ | ⟨a35, x⟩
  · exact lo_35 ..
  rcases x with _ | ⟨a36, x⟩
  · exact lo_36 ..
  rcases x with _ | ⟨a37, x⟩
  · exact lo_37 ..
  rcases x with _ | ⟨a38, x⟩
  · exact lo_38 ..
  rcases x with _ | ⟨a39, x⟩
  · exact lo_39 ..
  rcases x with _ | ⟨a40, x⟩
  · exact lo_40 ..
  rcases x with _ | ⟨a41, x⟩
  · exact lo_41 ..
  rcases x with _ | ⟨a42, x⟩
  · exact lo_42 ..
  rcases x with _ | ⟨a43, x⟩
  · exact lo_43 ..
  rcases x with _ | ⟨a44, x⟩
  · exact lo_44 ..
  rcases x with _ | ⟨a45, x⟩
  · exact lo_45 ..
  rcases x with _ | ⟨a46, x⟩
  · exact lo_46 ..
  rcases x with _ | ⟨a47, x⟩
  · exact lo_47 ..
  rcases x with _ | ⟨a48, x⟩
  · exact lo_48 ..
  rcases x with _ | ⟨a49, x⟩
  · exact lo_49 ..
  rcases x with _ | ⟨a50, x⟩
  · exact lo_50 ..
  simp only [List.length_cons] at h; omega
theorem lo_n (n : Nat) (h1 : 1 ≤ n) (h2 : n ≤ 4) (x : List UInt8) (hx : x.length ≤ 50) : loM n x = some () := loA_ex (lo_all x hx) n h1 h2
theorem topLostI {w0 w : World} {F : List Chunk} (hS : St w0 w F) (hg : HG w0) {v1 : Value} {l1 : List UInt8} (hr : RdS w0 F 1 v1 l1.length (rows encB l1)) {a1 : Int} (h0 : 0 ≤ a1) (h1 : a1 < 256) (hall : ∀ (n : Nat), 1 ≤ n → n ≤ 4 → ∀ x : List UInt8, x.length ≤ 50 → loM n x = some ()) :
    Ret Tryz.prog 3 #[v1, .int .u8 a1] w (fun v w' => v = .bool true ∧ St w0 w' F) := by
  obtain ⟨n, rfl⟩ := Int.eq_ofNat_of_zero_le h0
  exact topLost3 hS hg hr (by omega) hall
end Go.Proofs.YthiakdmhpfkjbaaGreatDoor
