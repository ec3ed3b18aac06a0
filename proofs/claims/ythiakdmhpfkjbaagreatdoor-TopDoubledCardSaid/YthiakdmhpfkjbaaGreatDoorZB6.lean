import Derived.Test.YthiakdmhpfkjbaaGreatDoorZB5
set_option linter.unusedVariables false
set_option linter.unusedSimpArgs false
set_option linter.unusedVariables false
set_option linter.unusedSimpArgs false
set_option maxRecDepth 4000
namespace Go.Proofs.YthiakdmhpfkjbaaGreatDoor
open Go Go.SK
def decR (b : List UInt8) : MN := ⟨beval (bsub b 0 6), beval (bsub b 6 6), beval (bsub b 12 4), beval (bsub b 16 2), beval (bsub b 18 2), beval (bsub b 20 6), beval (bsub b 26 3), beval (bsub b 29 1), beval (bsub b 30 6), beval (bsub b 36 8), b.drop 46⟩
def decF12 (b11 b10 b9 b8 b7 b6 b5 b4 b3 b2 b1 b : List UInt8) : Option MN := if 2 ≤ b10.length ∧ b11.length = beval (b10.take 2) ∧ b11.length ≤ 4096 then some ⟨beval (b.take 6), beval (b1.take 6), beval (b2.take 4), beval (b3.take 2), beval (b4.take 2), beval (b5.take 6), beval (b6.take 3), beval (b7.take 1), beval (b8.take 6), beval (b9.take 8), b11⟩ else none
def decF6 (b5 b4 b3 b2 b1 b : List UInt8) : Option MN := (fun b6 => (fun b7 => (fun b8 => (fun b9 => (fun b10 => decF12 (b10.drop 2) b10 b9 b8 b7 b6 b5 b4 b3 b2 b1 b) (b9.drop 8)) (b8.drop 6)) (b7.drop 1)) (b6.drop 3)) (b5.drop 6)
def decM (b : List UInt8) : Option MN := (fun b1 => (fun b2 => (fun b3 => (fun b4 => decF6 (b4.drop 2) b4 b3 b2 b1 b) (b3.drop 2)) (b2.drop 4)) (b1.drop 6)) (b.drop 6)
theorem bsub_dt (b : List UInt8) (k n : Nat) : (b.drop k).take n = bsub b k n := by rw [bsub, List.drop_take]; congr 1; omega
theorem decM_eq (b : List UInt8) : decM b = if 2 ≤ (b.drop 44).length ∧ (b.drop 46).length = beval (bsub b 44 2) ∧ (b.drop 46).length ≤ 4096 then some (decR b) else none := by
  simp only [decM, decF6, decF12, List.drop_drop, bsub_dt, decR]
  rfl
theorem be_beval : ∀ (n : Nat) (x : List UInt8), x.length = n → be n (beval x) = x
  | 0, x, h => by rw [List.eq_nil_of_length_eq_zero h]; rfl
  | n + 1, x, h => by
    obtain ⟨y, c, rfl⟩ : ∃ y c, x = y ++ [c] := ⟨x.dropLast, x.getLast (by intro e; rw [e] at h; cases h), (List.dropLast_concat_getLast _).symm⟩
    have hy : y.length = n := by rw [List.length_append] at h; simpa using h
    have hc := UInt8.toNat_lt c
    rw [beval_snoc, be, show (beval y * 256 + c.toNat) / 256 = beval y by omega, be_beval n y hy]
    congr 2
    apply UInt8.toNat.inj
    rw [UInt8.toNat_ofNat']
    omega
theorem be_bsub {b : List UInt8} {k n : Nat} (h : k + n ≤ b.length) : be n (beval (bsub b k n)) = bsub b k n := be_beval n _ (bsub_length h)
theorem bsub_app {b : List UInt8} {k n : Nat} : bsub b k n ++ b.drop (k + n) = b.drop k := by
  rw [bsub, show b.drop (k + n) = (b.drop k).drop n by rw [List.drop_drop], show (b.take (k + n)).drop k = (b.drop k).take n by rw [List.drop_take]; congr 1; omega]
  exact List.take_append_drop n _
theorem decM_some {b : List UInt8} {m : MN} (h : decM b = some m) : b = encM m ∧ m.ok := by
  rw [decM_eq] at h
  split at h
  · rename_i hc
    injection h with h; subst h
    obtain ⟨h1, hd, h3⟩ := hc
    rw [List.length_drop] at h1 h3
    refine ⟨?_, ?_⟩
    · rw [encM, capb]
      simp only [decR, List.append_assoc]
      rw [hd, be_bsub (by omega), be_bsub (by omega), be_bsub (by omega), be_bsub (by omega), be_bsub (by omega), be_bsub (by omega), be_bsub (by omega), be_bsub (by omega), be_bsub (by omega), be_bsub (by omega), be_bsub (by omega)]
      rw [show b.drop 46 = b.drop (44 + 2) from rfl, bsub_app, show b.drop 44 = b.drop (36 + 8) from rfl, bsub_app, show b.drop 36 = b.drop (30 + 6) from rfl, bsub_app, show b.drop 30 = b.drop (29 + 1) from rfl, bsub_app, show b.drop 29 = b.drop (26 + 3) from rfl, bsub_app, show b.drop 26 = b.drop (20 + 6) from rfl, bsub_app, show b.drop 20 = b.drop (18 + 2) from rfl, bsub_app, show b.drop 18 = b.drop (16 + 2) from rfl, bsub_app, show b.drop 16 = b.drop (12 + 4) from rfl, bsub_app, show b.drop 12 = b.drop (6 + 6) from rfl, bsub_app, show b.drop 6 = b.drop (0 + 6) from rfl, bsub_app]
      rfl
    · exact ⟨bsub_lt _ _ _, bsub_lt _ _ _, bsub_lt _ _ _, bsub_lt _ _ _, bsub_lt _ _ _, bsub_lt _ _ _, bsub_lt _ _ _, bsub_lt _ _ _, bsub_lt _ _ _, bsub_lt _ _ _, by show (b.drop 46).length ≤ 4096; rw [List.length_drop]; omega⟩
  · cases h
theorem sdput_cases (k v : Nat) : ∀ sd : List (Nat × Nat), ((∀ x ∈ sd, ¬ x.1 = k) ∧ sdput k v sd = sd ++ [(k, v)]) ∨ ∃ j z, sd[j]? = some (k, z) ∧ (∀ (q : Nat) (y : Nat × Nat), q < j → sd[q]? = some y → ¬ y.1 = k) ∧ sdput k v sd = sd.set j (k, v)
  | [] => .inl ⟨(fun x hx => by cases hx), rfl⟩
  | x :: l => by
    by_cases hx : x.1 = k
    · refine .inr ⟨0, x.2, by rw [← hx]; rfl, fun q y hq => absurd hq (Nat.not_lt_zero _), ?_⟩
      rw [sdput, if_pos hx]; rfl
    · rw [sdput, if_neg hx]
      rcases sdput_cases k v l with ⟨h1, h2⟩ | ⟨j, z, h1, h2, h3⟩
      · refine .inl ⟨fun y hy => ?_, by rw [h2]; rfl⟩
        rcases List.mem_cons.1 hy with rfl | hy
        · exact hx
        · exact h1 y hy
      · refine .inr ⟨j + 1, z, h1, fun q y hq hy => ?_, by rw [h3]; rfl⟩
        cases q with
        | zero => injection hy with hy; subst hy; exact hx
        | succ q => exact h2 q y (by omega) hy
def narrM (st : NS) (p : PN) : Option (NS × List PN) :=
  if p.to = st.c.id then
    match gaddM st.gs p with
    | none => none
    | some (vs', none) => some ({ st with gs := vs' }, [])
    | some (vs', some bs) =>
      match decM bs with
      | none => none
      | some m =>
        if m.to = 0 then
          if m.op = 1 then
            if st.c.port = 0 ∨ ¬ m.ar = st.c.port then some ({ st with gs := vs' }, [])
            else if 1 ≤ st.c.pc ∧ st.c.pc ≤ 32768 ∧ st.c.sent < 1000000000 then some ({ st with gs := vs', c := { st.c with sent := st.c.sent + 1 } }, splitM (encM (hereM m.ar)) st.c.id p.fr (st.c.sent + 1) st.c.pc) else none
          else if m.op = 2 then (if st.pl.length < 16 then some ({ st with gs := vs', pl := st.pl.filter (fun x => !(x.1 == m.ar)) ++ [(m.ar, p.fr, st.c.now)] }, []) else none)
          else none
        else if m.to = st.c.rep then (if st.us.length < st.c.ro then some ({ st with gs := vs', us := st.us ++ [m] }, []) else none)
        else if m.to = st.c.port then (if st.ps.length < st.c.ro then some ({ st with gs := vs', ps := st.ps ++ [m], sd := sdput m.rp p.fr st.sd }, []) else none)
        else none
  else none
def NRet (w0 : World) (F : List Chunk) (b bo : Nat) (st' : NS) (sr : Srv) (D : Chunk) (out : List PN) (v : Value) (w' : World) : Prop := ∃ L' ps A c C D', NUP w0 b bo st' sr L' D' ∧ Own 94 6 (.slice A ps.length c) ps.length (rows encPacket ps) C ∧ PKS w0 D' ps out ∧ DX w0 D D' ∧ v = .slice A ps.length c ∧ St w0 w' (L' :: C :: D' :: F)
theorem NRet.nil {w0 w' : World} {F : List Chunk} {b bo : Nat} {st' : NS} {sr : Srv} {D L' D' : Chunk} {v : Value} (h1 : NUP w0 b bo st' sr L' D') (h2 : DX w0 D D') (h3 : v = .slice none 0 0) (h4 : St w0 w' (L' :: D' :: F)) : NRet w0 F b bo st' sr D [] v w' :=
  ⟨L', [], none, 0, [], D', h1, Own.nil _ _, PKS.nil, h2, h3, h4.cast (by simp)⟩
theorem narrA {b bo : Nat} {st st' : NS} {sr : Srv} {L D : Chunk} {w0 w : World} {F : List Chunk} {out : List PN} (hS : St w0 w (L :: D :: F)) (hN : NUP w0 b bo st sr L D) (p : PN) {d : Value} (hd : RdSX w0 (D :: F) 1 d p.da.length (rows encB p.da)) (h : narrM st p = some (st', out)) :
    Ret Tryz.prog 38 #[vP b 0, pval p d] w (NRet w0 F b bo st' sr D out) := by
  rw [narrM] at h
  by_cases hto : p.to = st.c.id
  · rw [if_pos hto] at h
    cases hg : gaddM st.gs p with
    | none => rw [hg] at h; cases h
    | some r =>
      obtain ⟨vs', r⟩ := r
      rw [hg] at h
      cases r with
      | none =>
        injection h with h; injection h with e1 e2; subst e1; subst e2
        refine Calls.mono (narr_no38 hS hN p hto hd hg) ?_
        rintro e w' ⟨v, he, L', D', g1, g2, g3, g4⟩
        exact ⟨v, he, NRet.nil g1 g2 g3 g4⟩
      | some bs =>
        dsimp only at h
        cases hdc : decM bs with
        | none => rw [hdc] at h; cases h
        | some m =>
          rw [hdc] at h
          obtain ⟨hb, hm⟩ := decM_some hdc
          dsimp only at h
          by_cases h1 : m.to = 0
          · rw [if_pos h1] at h
            by_cases h2 : m.op = 1
            · rw [if_pos h2] at h
              by_cases h3 : st.c.port = 0 ∨ ¬ m.ar = st.c.port
              · rw [if_pos h3] at h
                injection h with h; injection h with e1 e2; subst e1; subst e2
                refine Calls.mono (narr_locno38 hS hN p hto hd hg m hm hb h1 h2 h3) ?_
                rintro e w' ⟨v, he, L', D', g1, g2, g3, g4⟩
                exact ⟨v, he, NRet.nil g1 g2 g3 g4⟩
              · rw [if_neg h3] at h
                by_cases h4 : 1 ≤ st.c.pc ∧ st.c.pc ≤ 32768 ∧ st.c.sent < 1000000000
                · rw [if_pos h4] at h
                  injection h with h; injection h with e1 e2; subst e1; subst e2
                  exact narr_loc38 hS hN p hto hd hg m hm hb h1 h2 (fun q => h3 (.inl q)) (Classical.byContradiction fun q => h3 (.inr q)) h4.1 h4.2.1 h4.2.2
                · rw [if_neg h4] at h; cases h
            · rw [if_neg h2] at h
              by_cases h3 : m.op = 2
              · rw [if_pos h3] at h
                by_cases h4 : st.pl.length < 16
                · rw [if_pos h4] at h
                  injection h with h; injection h with e1 e2; subst e1; subst e2
                  refine Calls.mono (narr_here38 hS hN p hto hd hg m hm hb h1 h3 h4) ?_
                  rintro e w' ⟨v, he, L', D', g1, g2, g3, g4⟩
                  exact ⟨v, he, NRet.nil g1 g2 g3 g4⟩
                · rw [if_neg h4] at h; cases h
              · rw [if_neg h3] at h; cases h
          · rw [if_neg h1] at h
            by_cases h2 : m.to = st.c.rep
            · rw [if_pos h2] at h
              by_cases h4 : st.us.length < st.c.ro
              · rw [if_pos h4] at h
                injection h with h; injection h with e1 e2; subst e1; subst e2
                refine Calls.mono (narr_reply38 hS hN p hto hd hg m hm hb h1 h2 h4) ?_
                rintro e w' ⟨v, he, L', D', g1, g2, g3, g4⟩
                exact ⟨v, he, NRet.nil g1 g2 g3 g4⟩
              · rw [if_neg h4] at h; cases h
            · rw [if_neg h2] at h
              by_cases h3 : m.to = st.c.port
              · rw [if_pos h3] at h
                by_cases h4 : st.ps.length < st.c.ro
                · rw [if_pos h4] at h
                  injection h with h; injection h with e1 e2; subst e1; subst e2
                  rcases sdput_cases m.rp p.fr st.sd with ⟨k1, k2⟩ | ⟨j, z, k1, k3, k2⟩
                  · rw [k2]
                    refine Calls.mono (narr_reqnew38 hS hN p hto hd hg m hm hb h1 h2 h3 h4 k1) ?_
                    rintro e w' ⟨v, he, L', D', g1, g2, g3, g4⟩
                    exact ⟨v, he, NRet.nil g1 g2 g3 g4⟩
                  · rw [k2]
                    refine Calls.mono (narr_reqhit38 hS hN p hto hd hg m hm hb h1 h2 h3 h4 k1 k3) ?_
                    rintro e w' ⟨v, he, L', D', g1, g2, g3, g4⟩
                    exact ⟨v, he, NRet.nil g1 g2 g3 g4⟩
                · rw [if_neg h4] at h; cases h
              · rw [if_neg h3] at h; cases h
  · rw [if_neg hto] at h; cases h
instance (ca : List CA) : Decidable (cal ca) := by unfold cal; infer_instance
instance (ca : List CA) : Decidable (cag ca) := by unfold cag; infer_instance
instance (st : NS) : Decidable (rqok st) := by unfold rqok; infer_instance
def bndC (s : NC) (pl : List (Nat × Nat × Nat)) : Prop := 1 ≤ s.pc ∧ s.pc ≤ 32768 ∧ s.sent + 1000 < 1000000000 ∧ s.now + 1 < 1000000 ∧ (∀ x ∈ pl, x.2.2 < 1000000) ∧ s.ag < 1000000 ∧ s.rep < 281474976710656 ∧ s.no ≤ 8
instance (s : NC) (pl : List (Nat × Nat × Nat)) : Decidable (bndC s pl) := by unfold bndC; infer_instance
def calM (st : NS) (m : MN) : MN := { m with rp := st.c.rep, id := st.ca.length + 1, st := 0 }
def ncallM (st : NS) (m : MN) : Option (NS × List PN) :=
  if m.ok ∧ st.ca.length < 64 ∧ nP (encM (calM st m)) st.c.pc ≤ 256 ∧ bndC st.c st.pl ∧ ¬ m.to = st.c.port then some ({ st with c := { st.c with sent := (reqP st.c st.pl (calM st m)).2 }, ca := st.ca ++ [⟨calM st m, 1, 1, st.c.wa, MN.zero⟩] }, (reqP st.c st.pl (calM st m)).1) else none
theorem ncallB {b bo : Nat} {st st' : NS} {sr : Srv} {L D : Chunk} {w0 w : World} {F : List Chunk} {out : List PN} (hS : St w0 w (L :: D :: F)) (hN : NUP w0 b bo st sr L D) (m : MN) {d : Value} (hd : RdSX w0 (D :: F) 1 d m.da.length (rows encB m.da)) (h : ncallM st m = some (st', out)) :
    Ret Tryz.prog 33 #[vP b 0, .agg #[vU m.to, vU m.rp, vW m.id, vH m.op, vH m.st, vU m.po, vW m.ob, vB m.ri, vU m.ck, vU m.ar, d]] w (fun v w' => ∃ L' ps A c C D', NUP w0 b bo st' sr L' D' ∧ Own 94 6 (.slice A ps.length c) ps.length (rows encPacket ps) C ∧ PKS w0 D' ps out ∧ DX w0 D D' ∧ v = .tuple #[vW (st.ca.length + 1), .slice A ps.length c, .nilIface] ∧ St w0 w' (L' :: C :: D' :: F)) := by
  rw [ncallM] at h
  by_cases hc : m.ok ∧ st.ca.length < 64 ∧ nP (encM (calM st m)) st.c.pc ≤ 256 ∧ bndC st.c st.pl ∧ ¬ m.to = st.c.port
  · rw [if_pos hc] at h
    injection h with h; injection h with e1 e2; subst e1; subst e2
    obtain ⟨h1, h2, h3, ⟨b1, b2, b3, b4, b5, b6, b7, b8⟩, h5⟩ := hc
    refine Calls.mono (ncallA hS hN m h1 hd h2 h3 b1 b2 (by omega) (by omega) b5 b6 b7 b8 h5) ?_
    rintro e w' ⟨v, he, L', ps, A, c, C, D', ⟨g1, g2, g3, g4, g5, g6⟩⟩
    exact ⟨v, he, L', ps, A, c, C, D', g1, g2, g3, g4, g5, g6⟩
  · rw [if_neg hc] at h; cases h
def ntickM (st : NS) : Option (NS × List PN) :=
  if st.ca.length ≤ 64 ∧ cal st.ca ∧ cag st.ca ∧ rqok st ∧ st.c.wa ≤ 1000 ∧ bndC st.c st.pl then some ({ st with c := { st.c with now := st.c.now + 1, sent := (tickP { st.c with now := st.c.now + 1 } st.pl ((st.ca.filter (agA st.c.tr)).map CA.rq)).2 }, ca := st.ca.map (tickA st.c.wa st.c.tr) }, (tickP { st.c with now := st.c.now + 1 } st.pl ((st.ca.filter (agA st.c.tr)).map CA.rq)).1) else none
theorem ntickB {b bo : Nat} {st st' : NS} {sr : Srv} {L D : Chunk} {w0 w : World} {F : List Chunk} {out : List PN} (hS : St w0 w (L :: D :: F)) (hN : NUP w0 b bo st sr L D) (h : ntickM st = some (st', out)) :
    Ret Tryz.prog 41 #[vP b 0] w (NRet w0 F b bo st' sr D out) := by
  rw [ntickM] at h
  by_cases hc : st.ca.length ≤ 64 ∧ cal st.ca ∧ cag st.ca ∧ rqok st ∧ st.c.wa ≤ 1000 ∧ bndC st.c st.pl
  · rw [if_pos hc] at h
    injection h with h; injection h with e1 e2; subst e1; subst e2
    obtain ⟨h1, h2, h3, h4, h5, ⟨b1, b2, b3, b4, b5, b6, b7, b8⟩⟩ := hc
    exact ntick41 hS hN h1 h2 h3 h4 h5 b1 b2 b3 b4 b5 b6 b7 b8
  · rw [if_neg hc] at h; cases h
def sdof (sd : List (Nat × Nat)) (k : Nat) : Option Nat := (sd.find? (fun y => y.1 == k)).map (·.2)
theorem sdof_some {sd : List (Nat × Nat)} {k z : Nat} (h : sdof sd k = some z) : ∃ j : Nat, sd[j]? = some (k, z) ∧ ∀ (q : Nat) (y : Nat × Nat), q < j → sd[q]? = some y → ¬ y.1 = k := by
  rw [sdof] at h
  cases hf : sd.find? (fun y => y.1 == k) with
  | none => rw [hf] at h; cases h
  | some x =>
    rw [hf] at h
    obtain ⟨j, h1, h2, h3⟩ := find_at hf
    obtain ⟨x1, x2⟩ := x
    have e1 : x1 = k := beq_iff_eq.1 h2
    injection h with h
    have e2 : x2 = z := h
    subst e1; subst e2
    exact ⟨j, h1, fun q y hq hy => beq_eq_false_iff_ne.1 (h3 q y hq hy)⟩
def flof (fl : List (Nat × List UInt8)) (k : Nat) : Option (List UInt8) := (fl.find? (fun y => y.1 == k)).map (·.2)
theorem flof_some {fl : List (Nat × List UInt8)} {k : Nat} {z : List UInt8} (h : flof fl k = some z) : ∃ j : Nat, fl[j]? = some (k, z) ∧ ∀ (q : Nat) (y : Nat × List UInt8), q < j → fl[q]? = some y → ¬ y.1 = k := by
  rw [flof] at h
  cases hf : fl.find? (fun y => y.1 == k) with
  | none => rw [hf] at h; cases h
  | some x =>
    rw [hf] at h
    obtain ⟨j, h1, h2, h3⟩ := find_at hf
    obtain ⟨x1, x2⟩ := x
    have e1 : x1 = k := beq_iff_eq.1 h2
    injection h with h
    have e2 : x2 = z := h
    subst e1; subst e2
    exact ⟨j, h1, fun q y hq hy => beq_eq_false_iff_ne.1 (h3 q y hq hy)⟩
end Go.Proofs.YthiakdmhpfkjbaaGreatDoor

set_option linter.unusedVariables false
set_option linter.unusedSimpArgs false
set_option maxRecDepth 4000
namespace Go.Proofs.YthiakdmhpfkjbaaGreatDoor
open Go Go.SK
def mkR (m : MN) (po ob x0 : Nat) : MN := ⟨m.rp, m.to, m.id, 100, 0, po, ob, 255, x0, 0, []⟩
def rdR (m : MN) (bs : List UInt8) : MN := ⟨m.rp, m.to, m.id, 101, 0, 0, 0, 0, 0, 0, bs⟩
def wokC (st : NS) (m : MN) : Prop := m.ok ∧ m.ri = 255 ∧ m.po = st.c.port ∧ (∀ y ∈ st.es, ¬ (y.who = m.rp ∧ y.id = m.id)) ∧ st.es.length < 32 ∧ 1 ≤ st.c.pc ∧ st.c.pc ≤ 32768 ∧ st.c.sent < 1000000000
instance (st : NS) (m : MN) : Decidable (wokC st m) := by unfold wokC; infer_instance
def workMake (st : NS) (os : List (Bool × Nat × Int × Int × Int)) (fl : List (Nat × List UInt8)) (nx bb : Nat) (ts : List Nat) (k : Nat) (m : MN) (ps2 : List MN) : Option (NS × Srv × Nat × Bool × List PN) :=
  match os[m.ob]?, sdof st.sd m.rp, ts[k]? with
  | some (true, s0, _, va, _), some z0, some x0 =>
    if wokC st m ∧ va = -1 ∧ s0 < 2 ^ 64 ∧ s0 % 281474976710656 = m.ck ∧ (∀ x ∈ os, x.1 = true) ∧ os.length < 64 ∧ (∀ x ∈ fl, x.1 < nx) ∧ nx < 1000000 ∧ bb + m.da.length ≤ 65536 ∧ (mkR m st.c.port os.length x0).ok ∧ nP (encM (mkR m st.c.port os.length x0)) st.c.pc ≤ 256 then
      some ({ st with c := { st.c with sent := st.c.sent + 1 }, ps := ps2, es := st.es ++ [⟨m.rp, m.id, 2, mkR m st.c.port os.length x0⟩] }, .file (os ++ [(true, x0, 0, ((nx : Nat) : Int), 24)]) (fl ++ [(nx, m.da)]) (nx + 1) (bb + m.da.length), k + 1, true, splitM (encM (mkR m st.c.port os.length x0)) st.c.id z0 (st.c.sent + 1) st.c.pc)
    else none
  | _, _, _ => none
def workRead (st : NS) (os : List (Bool × Nat × Int × Int × Int)) (fl : List (Nat × List UInt8)) (nx bb : Nat) (k : Nat) (m : MN) (ps2 : List MN) : Option (NS × Srv × Nat × Bool × List PN) :=
  match os[m.ob]?, sdof st.sd m.rp with
  | some (true, s0, _, .ofNat va, _), some z0 =>
    match flof fl va with
    | some bs =>
      if wokC st m ∧ s0 < 2 ^ 64 ∧ s0 % 281474976710656 = m.ck ∧ os.length ≤ 64 ∧ bs.length ≤ 65536 ∧ m.ar % 4294967296 ≤ 4096 ∧ m.ar / 4294967296 + m.ar % 4294967296 ≤ bs.length ∧ (rdR m (bsub bs (m.ar / 4294967296) (m.ar % 4294967296))).ok ∧ nP (encM (rdR m (bsub bs (m.ar / 4294967296) (m.ar % 4294967296)))) st.c.pc ≤ 256 then
        some ({ st with c := { st.c with sent := st.c.sent + 1 }, ps := ps2, es := st.es ++ [⟨m.rp, m.id, 2, rdR m (bsub bs (m.ar / 4294967296) (m.ar % 4294967296))⟩] }, .file os fl nx bb, k, true, splitM (encM (rdR m (bsub bs (m.ar / 4294967296) (m.ar % 4294967296)))) st.c.id z0 (st.c.sent + 1) st.c.pc)
      else none
    | none => none
  | _, _ => none
def efind (who id : Nat) (es : List EA) : Option EA := es.find? (fun y => y.who == who && y.id == id)
theorem efind_some {who id : Nat} {es : List EA} {ye : EA} (h : efind who id es = some ye) : ∃ j : Nat, es[j]? = some ye ∧ ye.who = who ∧ ye.id = id ∧ ∀ (q : Nat) (y : EA), q < j → es[q]? = some y → ¬ (y.who = who ∧ y.id = id) := by
  obtain ⟨j, h1, h2, h3⟩ := find_at h
  rw [Bool.and_eq_true, beq_iff_eq, beq_iff_eq] at h2
  refine ⟨j, h1, h2.1, h2.2, fun q y hq hy e => ?_⟩
  have := h3 q y hq hy
  rw [Bool.and_eq_false_iff, beq_eq_false_iff_ne, beq_eq_false_iff_ne] at this
  exact this.elim (fun k => k e.1) (fun k => k e.2)
def workAgain (st : NS) (sr : Srv) (k : Nat) (m : MN) (ps2 : List MN) (ye : EA) : Option (NS × Srv × Nat × Bool × List PN) :=
  match sdof st.sd m.rp with
  | some z0 => if ye.st = 2 ∧ (∀ y ∈ st.es, y.rep.da.length ≤ 4096) ∧ st.es.length ≤ 32 ∧ 1 ≤ st.c.pc ∧ st.c.pc ≤ 32768 ∧ st.c.sent < 1000000000 ∧ ye.rep.ok ∧ nP (encM ye.rep) st.c.pc ≤ 256 then some ({ st with c := { st.c with sent := st.c.sent + 1 }, ps := ps2 }, sr, k, true, splitM (encM ye.rep) st.c.id z0 (st.c.sent + 1) st.c.pc) else none
  | none => none
def nworkM (st : NS) (sr : Srv) (ts : List Nat) (k : Nat) : Option (NS × Srv × Nat × Bool × List PN) :=
  match st.us with
  | m :: us2 =>
    match st.ca[m.id - 1]? with
    | some y => if m.to = st.c.rep ∧ 1 ≤ m.id ∧ st.ca.length ≤ 64 then
        if y.st = 1 then (if m.rp = y.rq.to ∧ m.da.length ≤ 4096 then some ({ st with us := us2, ca := st.ca.set (m.id - 1) { y with st := 2, rp := m } }, sr, k, true, []) else none)
        else some ({ st with us := us2 }, sr, k, true, [])
      else none
    | none => none
  | [] =>
    match st.ps with
    | [] => some (st, sr, k, false, [])
    | m :: ps2 =>
      if m.to = st.c.rep then none else
      match efind m.rp m.id st.es with
      | some ye => workAgain st sr k m ps2 ye
      | none =>
        match sr with
        | .file os fl nx bb => if m.op = 100 then workMake st os fl nx bb ts k m ps2 else if m.op = 101 then workRead st os fl nx bb k m ps2 else none
        | _ => none
def WRet (w0 : World) (F : List Chunk) (b bo : Nat) (st' : NS) (sr' : Srv) (en : List (Nat × Nat × Nat)) (ts : List Nat) (k' : Nat) (D : Chunk) (ok : Bool) (out : List PN) (v : Value) (w' : World) : Prop := ∃ L' ps A c C O' D', NUP w0 b bo st' sr' L' D' ∧ ORR bo en ts k' O' ∧ Own 94 6 (.slice A ps.length c) ps.length (rows encPacket ps) C ∧ PKS w0 D' ps out ∧ DX w0 D D' ∧ v = .tuple #[.slice A ps.length c, .bool ok] ∧ St w0 w' (L' :: C :: O' :: D' :: F)
theorem St.mid2 {w0 w : World} {L : List Chunk} {A B C : Chunk} (h : St w0 w (A :: B :: C :: L)) : St w0 w (A :: C :: B :: L) := h.pickd [0, 2, 1] [] 3 (by simp only [List.length_cons]; omega) (by decide) rfl
theorem nworkB {b bo : Nat} {st st' : NS} {sr sr' : Srv} {L O D : Chunk} {w0 w : World} {F : List Chunk} {en : List (Nat × Nat × Nat)} {ts : List Nat} {k k' : Nat} {ok : Bool} {out : List PN} (hS : St w0 w (L :: O :: D :: F)) (hN : NUP w0 b bo st sr L D) (hO : ORR bo en ts k O) (h : nworkM st sr ts k = some (st', sr', k', ok, out)) :
    Ret Tryz.prog 42 #[vP b 0] w (WRet w0 F b bo st' sr' en ts k' D ok out) := by
  rw [nworkM] at h
  cases hu : st.us with
  | cons m us2 =>
    rw [hu] at h
    dsimp only at h
    cases hy : st.ca[m.id - 1]? with
    | none => rw [hy] at h; cases h
    | some y =>
      rw [hy] at h
      dsimp only at h
      by_cases hc : m.to = st.c.rep ∧ 1 ≤ m.id ∧ st.ca.length ≤ 64
      · rw [if_pos hc] at h
        obtain ⟨h1, h2, h5⟩ := hc
        by_cases h3 : y.st = 1
        · rw [if_pos h3] at h
          by_cases hd : m.rp = y.rq.to ∧ m.da.length ≤ 4096
          · rw [if_pos hd] at h
            injection h with h; injection h with e1 h; injection h with e2 h; injection h with e3 h; injection h with e4 e5
            subst e1; subst e2; subst e3; subst e4; subst e5
            refine Calls.mono (nwork_reply42 (St.mid2 hS) hN m us2 hu h1 hy (by omega) h3 hd.1 h5 hd.2) ?_
            rintro e w' ⟨v, he, L', D', g1, g2, g3, g4⟩
            exact ⟨v, he, L', [], none, 0, [], O, D', g1, hO, Own.nil _ _, PKS.nil, g2, g3, (St.mid2 g4).cast (by simp)⟩
          · rw [if_neg hd] at h; cases h
        · rw [if_neg h3] at h
          injection h with h; injection h with e1 h; injection h with e2 h; injection h with e3 h; injection h with e4 e5
          subst e1; subst e2; subst e3; subst e4; subst e5
          refine Calls.mono (nwork_ign42 (St.mid2 hS) hN m us2 hu h1 hy (by omega) h3 h5) ?_
          rintro e w' ⟨v, he, L', g1, g3, g4⟩
          exact ⟨v, he, L', [], none, 0, [], O, D, g1, hO, Own.nil _ _, PKS.nil, DX.refl, g3, (St.mid2 g4).cast (by simp)⟩
      · rw [if_neg hc] at h; cases h
  | nil =>
    rw [hu] at h
    dsimp only at h
    cases hp : st.ps with
    | nil =>
      rw [hp] at h
      injection h with h; injection h with e1 h; injection h with e2 h; injection h with e3 h; injection h with e4 e5
      subst e1; subst e2; subst e3; subst e4; subst e5
      refine Calls.mono (nwork_none42 (St.mid2 hS) hN hu hp) ?_
      rintro e w' ⟨v, he, L', g1, g3, g4⟩
      exact ⟨v, he, L', [], none, 0, [], O, D, g1, hO, Own.nil _ _, PKS.nil, DX.refl, g3, (St.mid2 g4).cast (by simp)⟩
    | cons m ps2 =>
      rw [hp] at h
      dsimp only at h
      by_cases h1 : m.to = st.c.rep
      · rw [if_pos h1] at h; cases h
      · rw [if_neg h1] at h
        cases hef : efind m.rp m.id st.es with
        | some ye =>
          rw [hef] at h; dsimp only at h
          rw [workAgain] at h
          obtain ⟨je, hj, hwho, hidm, hjn⟩ := efind_some hef
          cases hs : sdof st.sd m.rp with
          | none => rw [hs] at h; cases h
          | some z0 =>
            rw [hs] at h; dsimp only at h
            split at h
            · rename_i hc
              injection h with h; injection h with e1 h; injection h with e2 h; injection h with e3 h; injection h with e4 e5
              subst e1; subst e2; subst e3; subst e4; subst e5
              obtain ⟨c1, c2, c3, c4, c5, c6, c7, c8⟩ := hc
              obtain ⟨js, hjs, hjn2⟩ := sdof_some hs
              refine Calls.mono (nwork_again42 (St.mid2 hS) hN m ps2 hu hp h1 hj hwho hidm c1 hjn c2 c3 hjs hjn2 c4 c5 c6 c7 c8) ?_
              rintro e w' ⟨v, he, L', ps, A, c, C, D', g1, g2, g3, g4, g6, g7⟩
              exact ⟨v, he, L', ps, A, c, C, O, D', g1, hO, g2, g3, g4, g6, g7.pickd [0, 1, 3, 2] [] 4 (by simp only [List.length_cons]; omega) (by decide) rfl⟩
            · cases h
        | none =>
        rw [hef] at h
        cases sr with
        | none => cases h
        | other => cases h
        | file os fl nx bb =>
          dsimp only at h
          by_cases h2 : m.op = 100
          · rw [if_pos h2, workMake] at h
            cases ho : os[m.ob]? with
            | none => rw [ho] at h; cases h
            | some x =>
              obtain ⟨x1, s0, e0, va, li⟩ := x
              rw [ho] at h
              cases hs : sdof st.sd m.rp with
              | none => rw [hs] at h; cases x1 <;> cases h
              | some z0 =>
                rw [hs] at h
                cases hk : ts[k]? with
                | none => rw [hk] at h; cases x1 <;> cases h
                | some x0 =>
                  rw [hk] at h
                  cases x1 with
                  | false => cases h
                  | true =>
                    dsimp only at h
                    split at h
                    · rename_i hc
                      injection h with h; injection h with e1 h; injection h with e2 h; injection h with e3 h; injection h with e4 e5
                      subst e1; subst e2; subst e3; subst e4; subst e5
                      obtain ⟨⟨w1, w2, w3, w4, w5, w6, w7, w8⟩, c1, c2, c3, c4, c5, c6, c7, c8, c9, c10⟩ := hc
                      subst c1
                      obtain ⟨js, hjs, hjn⟩ := sdof_some hs
                      refine Calls.mono (nwork_make42 hS hN hO m w1 ps2 hu hp h1 h2 w2 w3 w4 w5 ho c2 c3 hjs hjn w6 w7 w8 c4 c5 c6 c7 c8 hk c9 c10) ?_
                      rintro e w' ⟨v, he, L', ps, A, c, C, O', D', g1, g2, g3, g4, g5, g6, g7⟩
                      exact ⟨v, he, L', ps, A, c, C, O', D', g1, g5, g2, g3, g4, g6, g7⟩
                    · cases h
          · rw [if_neg h2] at h
            by_cases h3 : m.op = 101
            · rw [if_pos h3, workRead] at h
              cases ho : os[m.ob]? with
              | none => rw [ho] at h; cases h
              | some x =>
                obtain ⟨x1, s0, e0, va, li⟩ := x
                rw [ho] at h
                cases hs : sdof st.sd m.rp with
                | none => rw [hs] at h; cases x1 <;> cases va <;> cases h
                | some z0 =>
                  rw [hs] at h
                  cases x1 with
                  | false => cases va <;> cases h
                  | true =>
                    cases va with
                    | negSucc n => cases h
                    | ofNat va =>
                      dsimp only at h
                      cases hf : flof fl va with
                      | none => rw [hf] at h; cases h
                      | some bs =>
                        rw [hf] at h
                        dsimp only at h
                        split at h
                        · rename_i hc
                          injection h with h; injection h with e1 h; injection h with e2 h; injection h with e3 h; injection h with e4 e5
                          subst e1; subst e2; subst e3; subst e4; subst e5
                          obtain ⟨⟨w1, w2, w3, w4, w5, w6, w7, w8⟩, c2, c3, c5, c6, c7, c8, c9, c10⟩ := hc
                          obtain ⟨js, hjs, hjn⟩ := sdof_some hs
                          obtain ⟨j, hj, hjb⟩ := flof_some hf
                          refine Calls.mono (nwork_read42 (St.mid2 hS) hN m w1 ps2 hu hp h1 h3 w2 w3 w4 w5 ho c2 c3 hjs hjn w6 w7 w8 c5 (by omega) hj hjb c6 c7 c8 c9 c10) ?_
                          rintro e w' ⟨v, he, L', ps, A, c, C, D', g1, g2, g3, g4, g6, g7⟩
                          exact ⟨v, he, L', ps, A, c, C, O, D', g1, hO, g2, g3, g4, g6, g7.pickd [0, 1, 3, 2] [] 4 (by simp only [List.length_cons]; omega) (by decide) rfl⟩
                        · cases h
            · rw [if_neg h3] at h; cases h
end Go.Proofs.YthiakdmhpfkjbaaGreatDoor

set_option linter.unusedVariables false
set_option linter.unusedSimpArgs false
set_option maxRecDepth 4000
namespace Go.Proofs.YthiakdmhpfkjbaaGreatDoor
open Go Go.SK
def sendC (wi out : List PN) : Prop := wi.length + out.length ≤ 1024 ∧ ∀ p ∈ out, p.da.length ≤ 1000000
instance (wi out : List PN) : Decidable (sendC wi out) := by unfold sendC; infer_instance
theorem set_same9 {α : Type} {l : List α} {i : Nat} {x : α} (h : l[i]? = some x) : l.set i x = l := by
  obtain ⟨h1, h2⟩ := List.getElem?_eq_some_iff.1 h
  rw [← h2]; exact List.set_getElem_self h1
set_option maxHeartbeats 4000000 in
theorem sroot11 {w0 w : World} {F : List Chunk} {b : Nat} {ts : List Nat} {s : SY} {L D : Chunk} {i : Nat} {st : NS} {sr : Srv} (hS : St w0 w (L :: D :: F)) (hY : SYS w0 b ts s L D) (hx : s.nx[i]? = some (.up st sr)) :
 Ret Tryz.prog 11 #[vP b 0, vI i] w (fun v w' => ∃ L', SYS w0 b ts s L' D ∧ v = .tuple #[.agg #[vU st.c.r0, vW st.c.r1, vB st.c.r2, vU st.c.r3], .bool (((st.c.port : Nat) : Int) != 0)] ∧ St w0 w' (L' :: D :: F)) := by
 obtain ⟨bw, bo, bs, A, c, C, NL, WL, OL, hs, rfl⟩ := hY
 replace hS : St w0 w ([(b, rowO [.slice A bs.length c, vP bw 0] 77)] :: C :: NL :: WL :: OL :: D :: F) := hS.cast (by simp)
 have hlen := hs.fn.len; obtain ⟨bi, hbi⟩ := get_ex (l := bs) (k := i) (by have h := (List.getElem?_eq_some_iff.1 hx).1; omega)
 obtain ⟨La, Li, Lb, hNLe, hNi, hback⟩ := hs.fn.at_ hbi hx; subst hNLe
 replace hS : St w0 w ([(b, rowO [.slice A bs.length c, vP bw 0] 77)] :: C :: La :: Li :: Lb :: WL :: OL :: D :: F) := hS.cast (by simp)
 refine enter (vs := [vP b 0, vI i]) 17 Tryz.func11 rfl rfl (by simp) ?_; intro a hA
 refine zs (zr ?_)
 refine st_alloc tbOk hA hS [.int .u64 0, .int .u32 0, .int .u8 0, .int .u64 0] rfl rfl rfl rfl rfl (by decide) fun b1 w2 a hS hA => ?_
 refine zR 1 ((5, .bool false) :: _) hA rfl fun a hA => zn (zx (zs (zr (zR 2 ((8, vI i) :: (7, vP b 0) :: _) hA rfl fun a hA => ?_))))
 replace hS := hS.m2.m2
 refine st_call0 hA rfl rfl rfl isfn31 rfl rfl (by decide) (sat31 (i := i) hS hs.fr hbi) ?_
 clear hA hS; rintro _ w3 a ⟨rfl, hS⟩ hA
 refine zR 1 ((6, vP bi 0) :: _) hA rfl fun a hA => zn (zx (zs (zs (zr (zR 2 ((11, .bool false) :: (10, vP bi 0) :: _) hA rfl fun a hA => zn (zx (cd_cond_f hA rfl (zk (zx (zs (zr (zR 1 ((13, vP bi 0) :: _) hA rfl fun a hA => ?_))))))))))))
 replace hS := hS.m4
 obtain ⟨sv, bd, bg, bc, bp, bx, mp, ob, el, cl, ul, pl2, LS, LG, LC, LP, LB, LV, hn, hLi⟩ := hNi
 have hS2 : St w0 w3 ([(bi, rowO [vI st.c.id, vI st.c.ki, vI st.c.no, vI st.c.pc, vI st.c.wa, vI st.c.tr, vI st.c.ag, vI st.c.pg, vI st.c.ro, vP bo 0, .bool true, vI st.c.now, vU st.c.sent, vU st.c.rep, vU st.c.port, vU st.c.r0, vW st.c.r1, vB st.c.r2, vU st.c.r3, sv, vP bd 0, vP bg 0, vP bc 0, vP bp 0, vP bx 0, .map (some mp)] 121)] :: (LS ++ (LG ++ (LC ++ (LP ++ (LB ++ ((mp, ob) :: LV)))))) :: [(b, rowO [.slice A bs.length c, vP bw 0] 77)] :: C :: [(b1, rowO [.int .u64 0, .int .u32 0, .int .u8 0, .int .u64 0] 39)] :: La :: Lb :: WL :: OL :: D :: F) := by rw [hLi] at hS; exact hS.cast (by simp)
 clear hS; have hS := hS2; clear hS2
 refine st_call0 hA rfl rfl rfl isfn32 rfl rfl (by decide) (nroot_up32 hS) ?_
 clear hA hS; rintro _ w4 a ⟨rfl, hS⟩ hA
 replace hS : St w0 w4 (Li :: [(b, rowO [.slice A bs.length c, vP bw 0] 77)] :: C :: [(b1, rowO [.int .u64 0, .int .u32 0, .int .u8 0, .int .u64 0] 39)] :: La :: Lb :: WL :: OL :: D :: F) := by rw [hLi]; exact hS.cast (by simp)
 have hNi : NUP w0 bi bo st sr Li D := ⟨sv, bd, bg, bc, bp, bx, mp, ob, el, cl, ul, pl2, LS, LG, LC, LP, LB, LV, hn, hLi⟩
 refine zR 2 ((16, .bool (((st.c.port : Nat) : Int) != 0)) :: (15, .agg #[vU st.c.r0, vW st.c.r1, vB st.c.r2, vU st.c.r3]) :: _) hA rfl fun a hA => ?_
 replace hS := hS.m3
 refine st_store tbOk hA hS [vU st.c.r0, vW st.c.r1, vB st.c.r2, vU st.c.r3] [vU st.c.r0, vW st.c.r1, vB st.c.r2, vU st.c.r3] rfl rfl rfl rfl rfl rfl (zn1 rfl) (zle rfl) rfl rfl rfl fun w5 hS => ?_
 refine zR 1 ((5, .bool (((st.c.port : Nat) : Int) != 0)) :: _) hA rfl fun a hA => zn (zx ?_)
 refine wp_ret ?_
 refine retc2 tbOk (fn := Tryz.f11) (cs := [vU st.c.r0, vW st.c.r1, vB st.c.r2, vU st.c.r3]) hA rfl rfl rfl rfl rfl rfl (cells_row (hS.heapAt 0 rfl) rfl) ?_
 replace hS := hS.d0.m3.m3.m3
 replace hS : St w0 w5 (((b, rowO [.slice A bs.length c, vP bw 0] 77) :: (C ++ ((La ++ (Li ++ Lb)) ++ (WL ++ OL)))) :: D :: F) := hS.cast (by simp)
 have hns : s.nx.set i (.up st sr) = s.nx := set_same9 hx
 have hY2 : SYS w0 b ts { s with nx := s.nx.set i (.up st sr) } _ D := ⟨bw, bo, bs, A, c, C, _, _, _, ⟨hback _ _ _ DX.refl (NOD.dx (x := .up _ _) hNi DX.refl), hs.fw, hs.fo, hs.fr⟩, rfl⟩
 rw [hns] at hY2; exact ⟨_, hY2, rfl, hS⟩
theorem sflying14 {w0 w : World} {F : List Chunk} {b : Nat} {ts : List Nat} {s : SY} {L D : Chunk} (hS : St w0 w (L :: D :: F)) (hY : SYS w0 b ts s L D) :
 Ret Tryz.prog 14 #[vP b 0] w (fun v w' => ∃ L', SYS w0 b ts s L' D ∧ v = vI s.wi.length ∧ St w0 w' (L' :: D :: F)) := by
 obtain ⟨bw, bo, bs, A, c, C, NL, WL, OL, hs, rfl⟩ := hY
 replace hS : St w0 w ([(b, rowO [.slice A bs.length c, vP bw 0] 77)] :: C :: NL :: WL :: OL :: D :: F) := hS.cast (by simp)
 refine enter (vs := [vP b 0]) 8 Tryz.func14 rfl rfl (by simp) ?_; intro a hA
 refine zs (zr (zR 1 ((2, .int .i64 0) :: _) hA rfl fun a hA => zn (zx (zs (zr (zR 3 ((5, vP b 1) :: (4, vP b 0) :: (3, vP b 0) :: _) hA rfl fun a hA => zL hA hS 0 rfl rfl rfl rfl rfl rfl rfl rfl rfl fun a hA => ?_))))))
 replace hS := hS.m5.m4
 obtain ⟨wp, hwr, hWK⟩ := hs.fw; have hwl := hWK.len
 refine st_call0 hA rfl rfl rfl isfn36 rfl rfl (by decide) (wlen36 hS hwr) ?_
 clear hA hS; rintro _ w1 a ⟨WL2, hwr2, rfl, hS⟩ hA
 replace hA := hA.rw 7 (v' := vI s.wi.length) rfl (by rw [hwl])
 refine zR 1 ((2, vI s.wi.length) :: _) hA rfl fun a hA => zn (zx ?_)
 refine wp_ret ?_
 refine ret1 (fn := Tryz.f14) hA rfl rfl ?_
 replace hS := hS.m5.m1.m5.m5.m5
 replace hS : St w0 w1 (((b, rowO [.slice A bs.length c, vP bw 0] 77) :: (C ++ (NL ++ (WL2 ++ OL)))) :: D :: F) := hS.cast (by simp)
 exact ⟨_, ⟨bw, bo, bs, A, c, C, _, _, _, ⟨NDS.dx DX.refl hs.fn, (show WRA w0 bw s.wi WL2 D from ⟨wp, hwr2, hWK⟩), hs.fo, hs.fr⟩, rfl⟩, rfl, hS⟩
set_option maxHeartbeats 4000000 in
theorem scall12 {w0 w : World} {F : List Chunk} {b : Nat} {ts : List Nat} {s : SY} {L D : Chunk} {i : Nat} {st st' : NS} {sr : Srv} {out : List PN} (hS : St w0 w (L :: D :: F)) (hY : SYS w0 b ts s L D) (hx : s.nx[i]? = some (.up st sr)) (m : MN) {d : Value} (hd : RdSX w0 (D :: F) 1 d m.da.length (rows encB m.da)) (hc : ncallM st m = some (st', out)) (hsc : sendC s.wi out) :
 Ret Tryz.prog 12 #[vP b 0, vI i, .agg #[vU m.to, vU m.rp, vW m.id, vH m.op, vH m.st, vU m.po, vW m.ob, vB m.ri, vU m.ck, vU m.ar, d]] w (fun v w' => ∃ L' D', SYS w0 b ts { s with nx := s.nx.set i (.up st' sr), wi := s.wi ++ out } L' D' ∧ DX w0 D D' ∧ v = .tuple #[vW (st.ca.length + 1), .nilIface] ∧ St w0 w' (L' :: D' :: F)) := by
 obtain ⟨B, d', rfl, hmd, hdx⟩ := (hd _ (hS.tail 1 rfl)).open'
 obtain ⟨bw, bo, bs, A, c, C, NL, WL, OL, hs, rfl⟩ := hY
 replace hS : St w0 w ([(b, rowO [.slice A bs.length c, vP bw 0] 77)] :: C :: NL :: WL :: OL :: D :: F) := hS.cast (by simp)
 have hlen := hs.fn.len; obtain ⟨bi, hbi⟩ := get_ex (l := bs) (k := i) (by have h := (List.getElem?_eq_some_iff.1 hx).1; omega)
 obtain ⟨La, Li, Lb, hNLe, hNi, hback⟩ := hs.fn.at_ hbi hx; subst hNLe
 replace hS : St w0 w ([(b, rowO [.slice A bs.length c, vP bw 0] 77)] :: C :: La :: Li :: Lb :: WL :: OL :: D :: F) := hS.cast (by simp)
 refine enter (vs := [vP b 0, vI i, .agg #[vU m.to, vU m.rp, vW m.id, vH m.op, vH m.st, vU m.po, vW m.ob, vB m.ri, vU m.ck, vU m.ar, .slice B m.da.length d']]) 32 Tryz.func12 rfl rfl (by simp) ?_; intro a hA
 refine zs (zr ?_)
 refine st_box hA hS [vU m.to, vU m.rp, vW m.id, vH m.op, vH m.st, vU m.po, vW m.ob, vB m.ri, vU m.ck, vU m.ar, .slice B m.da.length d'] rfl rfl rfl rfl rfl (by decide) fun b1 w2 a hS hA => ?_
 refine zR 2 ((7, .nilIface) :: (6, .int .u32 0) :: _) hA rfl fun a hA => zn (zx (zs (zr (zR 2 ((13, vI i) :: (12, vP b 0) :: _) hA rfl fun a hA => ?_))))
 replace hS := hS.m2.m2
 refine st_call0 hA rfl rfl rfl isfn31 rfl rfl (by decide) (sat31 (i := i) hS hs.fr hbi) ?_
 clear hA hS; rintro _ w3 a ⟨rfl, hS⟩ hA
 refine zR 1 ((8, vP bi 0) :: _) hA rfl fun a hA => zn (zx (zs (zs (zr (zR 2 ((16, .bool false) :: (15, vP bi 0) :: _) hA rfl fun a hA => zn (zx (cd_cond_f hA rfl (zk (zx (zs (zr (zR 1 ((19, vP bi 0) :: _) hA rfl fun a hA => zLA hA hS 2 [vU m.to, vU m.rp, vW m.id, vH m.op, vH m.st, vU m.po, vW m.ob, vB m.ri, vU m.ck, vU m.ar, .slice B m.da.length d'] rfl rfl rfl rfl rfl rfl rfl rfl rfl rfl fun a hA => ?_))))))))))))
 replace hS := hS.m8.m5
 refine st_call0 hA rfl rfl rfl isfn33 rfl rfl (by decide) (ncallB hS hNi m (fun w' h => hd _ (St.dmid (R := [[(b, rowO [.slice A bs.length c, vP bw 0] 77)], C, [(b1, rowO [vU m.to, vU m.rp, vW m.id, vH m.op, vH m.st, vU m.po, vW m.ob, vB m.ri, vU m.ck, vU m.ar, .slice B m.da.length d'] 46)], La, Lb, WL, OL]) h)) hc) ?_
 clear hA hS; rintro _ w4 a ⟨Li2, psq, Aq, cq, Cq, D2, hN2, hOq, hKq, hX2, rfl, hS⟩ hA
 refine zR 7 ((11, .nilIface) :: (10, .slice Aq psq.length cq) :: (9, vW (st.ca.length + 1)) :: (24, .nilIface) :: (23, .slice Aq psq.length cq) :: (22, vW (st.ca.length + 1)) :: (18, .tuple #[vW (st.ca.length + 1), .slice Aq psq.length cq, .nilIface]) :: _) hA rfl fun a hA => zn (zx (zs (zs (zr (zR 2 ((26, .bool false) :: (25, .nilIface) :: _) hA rfl fun a hA => zn (zx (cd_cond_f hA rfl (zk (zx (zs (zr (zR 2 ((29, .slice Aq psq.length cq) :: (28, vP b 0) :: _) hA rfl fun a hA => ?_))))))))))))
 replace hS := hS.m2.m2.m8.m4
 refine st_call0 hA rfl rfl rfl isfn34 rfl rfl (by decide) (ssend34 hS (hs.fw.dx hX2) hOq hKq hsc.1 hsc.2) ?_
 clear hA hS; rintro _ w5 a ⟨WL8, Ds7, hW9, hXs6, rfl, hS⟩ hA
 refine zn (zx (zs (zr (zR 3 ((7, .nilIface) :: (6, vW (st.ca.length + 1)) :: (31, vW (st.ca.length + 1)) :: _) hA rfl fun a hA => zn (zx ?_)))))
 refine wp_ret ?_
 refine ret2 (fn := Tryz.f12) hA rfl rfl rfl ?_
 replace hS := hS.d5.m7.m2.m7.m5.m7.m7.m6
 replace hS : St w0 w5 (((b, rowO [.slice A bs.length c, vP bw 0] 77) :: (C ++ ((La ++ (Li2 ++ Lb)) ++ (WL8 ++ OL)))) :: Ds7 :: F) := hS.cast (by simp)
 exact ⟨_, _, ⟨bw, bo, bs, A, c, C, _, _, _, ⟨hback _ _ _ (hX2.trans hXs6) (NOD.dx (x := .up _ _) hN2 hXs6), hW9, hs.fo, hs.fr⟩, rfl⟩, (hX2.trans hXs6), rfl, hS⟩
set_option maxHeartbeats 4000000 in
theorem sget_ok16 {w0 w : World} {F : List Chunk} {b : Nat} {ts : List Nat} {s : SY} {L D : Chunk} {i k : Nat} {st : NS} {sr : Srv} {y : CA} (hS : St w0 w (L :: D :: F)) (hY : SYS w0 b ts s L D) (hx : s.nx[i]? = some (.up st sr)) (hy : st.ca[k]? = some y) (hcal : st.ca.length ≤ 64) (hca : cal st.ca) (hst : ¬ y.st = 3) :
 Ret Tryz.prog 16 #[vP b 0, vI i, vW (k + 1)] w (fun v w' => ∃ L' E A c, SYS w0 b ts s L' (E ++ D) ∧ DD w0 E A c y.rp.da ∧ v = .tuple #[vI y.st, .agg #[vU y.rp.to, vU y.rp.rp, vW y.rp.id, vH y.rp.op, vH y.rp.st, vU y.rp.po, vW y.rp.ob, vB y.rp.ri, vU y.rp.ck, vU y.rp.ar, .slice A y.rp.da.length c], .nilIface] ∧ St w0 w' (L' :: (E ++ D) :: F)) := by
 obtain ⟨bw, bo, bs, A, c, C, NL, WL, OL, hs, rfl⟩ := hY
 replace hS : St w0 w ([(b, rowO [.slice A bs.length c, vP bw 0] 77)] :: C :: NL :: WL :: OL :: D :: F) := hS.cast (by simp)
 have hlen := hs.fn.len; obtain ⟨bi, hbi⟩ := get_ex (l := bs) (k := i) (by have h := (List.getElem?_eq_some_iff.1 hx).1; omega)
 obtain ⟨La, Li, Lb, hNLe, hNi, hback⟩ := hs.fn.at_ hbi hx; subst hNLe
 replace hS : St w0 w ([(b, rowO [.slice A bs.length c, vP bw 0] 77)] :: C :: La :: Li :: Lb :: WL :: OL :: D :: F) := hS.cast (by simp)
 refine enter (vs := [vP b 0, vI i, vW (k + 1)]) 23 Tryz.func16 rfl rfl (by simp) ?_; intro a hA
 refine zs (zr (zR 1 ((6, .int .i64 0) :: _) hA rfl fun a hA => ?_))
 refine st_alloc tbOk hA hS [.int .u64 0, .int .u64 0, .int .u32 0, .int .u16 0, .int .u16 0, .int .u64 0, .int .u32 0, .int .u8 0, .int .u64 0, .int .u64 0, .slice none 0 0] rfl rfl rfl rfl rfl (by decide) fun b1 w2 a hS hA => ?_
 refine zR 1 ((8, .nilIface) :: _) hA rfl fun a hA => zn (zx (zs (zr (zR 2 ((11, vI i) :: (10, vP b 0) :: _) hA rfl fun a hA => ?_))))
 replace hS := hS.m2.m2
 refine st_call0 hA rfl rfl rfl isfn31 rfl rfl (by decide) (sat31 (i := i) hS hs.fr hbi) ?_
 clear hA hS; rintro _ w3 a ⟨rfl, hS⟩ hA
 refine zR 1 ((9, vP bi 0) :: _) hA rfl fun a hA => zn (zx (zs (zs (zr (zR 2 ((14, .bool false) :: (13, vP bi 0) :: _) hA rfl fun a hA => zn (zx (cd_cond_f hA rfl (zk (zx (zs (zr (zR 2 ((18, vW (k + 1)) :: (17, vP bi 0) :: _) hA rfl fun a hA => ?_))))))))))))
 replace hS := hS.m8.m5
 refine st_call0 hA rfl rfl rfl isfn44 rfl rfl (by decide) (nget_ok44 hS hNi hy hcal hca hst) ?_
 clear hA hS; rintro _ w4 a ⟨Li2, E2, A2, c2, hN2, hE2, rfl, hS⟩ hA
 have hX2 : DX w0 D (E2 ++ D) := DX.refl.step
 refine zR 4 ((6, vI y.st) :: (22, .nilIface) :: (21, .agg #[vU y.rp.to, vU y.rp.rp, vW y.rp.id, vH y.rp.op, vH y.rp.st, vU y.rp.po, vW y.rp.ob, vB y.rp.ri, vU y.rp.ck, vU y.rp.ar, .slice A2 y.rp.da.length c2]) :: (20, vI y.st) :: _) hA rfl fun a hA => ?_
 replace hS := hS.m4
 refine st_store tbOk hA hS [vU y.rp.to, vU y.rp.rp, vW y.rp.id, vH y.rp.op, vH y.rp.st, vU y.rp.po, vW y.rp.ob, vB y.rp.ri, vU y.rp.ck, vU y.rp.ar, .slice A2 y.rp.da.length c2] [vU y.rp.to, vU y.rp.rp, vW y.rp.id, vH y.rp.op, vH y.rp.st, vU y.rp.po, vW y.rp.ob, vB y.rp.ri, vU y.rp.ck, vU y.rp.ar, .slice A2 y.rp.da.length c2] rfl rfl rfl rfl rfl rfl (zn1 rfl) (zle rfl) rfl rfl rfl fun w5 hS => ?_
 refine zR 1 ((8, .nilIface) :: _) hA rfl fun a hA => zn (zx ?_)
 refine wp_ret ?_
 refine rettct tbOk (fn := Tryz.f16) (cs := [vU y.rp.to, vU y.rp.rp, vW y.rp.id, vH y.rp.op, vH y.rp.st, vU y.rp.po, vW y.rp.ob, vB y.rp.ri, vU y.rp.ck, vU y.rp.ar, .slice A2 y.rp.da.length c2]) hA rfl rfl rfl rfl rfl rfl rfl (cells_row (hS.heapAt 0 rfl) rfl) ?_
 replace hS := hS.d0.m7.m7.m7.m3.m7.m7.m7
 replace hS : St w0 w5 (((b, rowO [.slice A bs.length c, vP bw 0] 77) :: (C ++ ((La ++ (Li2 ++ Lb)) ++ (WL ++ OL)))) :: (E2 ++ D) :: F) := hS.cast (by simp)
 have hns : s.nx.set i (.up st sr) = s.nx := set_same9 hx
 have hY2 : SYS w0 b ts { s with nx := s.nx.set i (.up st sr) } _ (E2 ++ D) := ⟨bw, bo, bs, A, c, C, _, _, _, ⟨hback _ _ _ hX2 (NOD.dx (x := .up _ _) hN2 DX.refl), hs.fw.dx hX2, hs.fo, hs.fr⟩, rfl⟩
 rw [hns] at hY2; exact ⟨_, E2, A2, c2, hY2, hE2, rfl, hS⟩
set_option maxHeartbeats 4000000 in
theorem sget_failed16 {w0 w : World} {F : List Chunk} {b : Nat} {ts : List Nat} {s : SY} {L D : Chunk} {i k : Nat} {st : NS} {sr : Srv} {y : CA} (hS : St w0 w (L :: D :: F)) (hY : SYS w0 b ts s L D) (hx : s.nx[i]? = some (.up st sr)) (hy : st.ca[k]? = some y) (hcal : st.ca.length ≤ 64) (hca : cal st.ca) (hst : y.st = 3) :
 Ret Tryz.prog 16 #[vP b 0, vI i, vW (k + 1)] w (fun v w' => ∃ L', SYS w0 b ts s L' D ∧ v = .tuple #[.int .i64 3, .agg #[.int .u64 0, .int .u64 0, .int .u32 0, .int .u16 0, .int .u16 0, .int .u64 0, .int .u32 0, .int .u8 0, .int .u64 0, .int .u64 0, .slice none 0 0], .iface 55 (.int .i64 10)] ∧ St w0 w' (L' :: D :: F)) := by
 obtain ⟨bw, bo, bs, A, c, C, NL, WL, OL, hs, rfl⟩ := hY
 replace hS : St w0 w ([(b, rowO [.slice A bs.length c, vP bw 0] 77)] :: C :: NL :: WL :: OL :: D :: F) := hS.cast (by simp)
 have hlen := hs.fn.len; obtain ⟨bi, hbi⟩ := get_ex (l := bs) (k := i) (by have h := (List.getElem?_eq_some_iff.1 hx).1; omega)
 obtain ⟨La, Li, Lb, hNLe, hNi, hback⟩ := hs.fn.at_ hbi hx; subst hNLe
 replace hS : St w0 w ([(b, rowO [.slice A bs.length c, vP bw 0] 77)] :: C :: La :: Li :: Lb :: WL :: OL :: D :: F) := hS.cast (by simp)
 refine enter (vs := [vP b 0, vI i, vW (k + 1)]) 23 Tryz.func16 rfl rfl (by simp) ?_; intro a hA
 refine zs (zr (zR 1 ((6, .int .i64 0) :: _) hA rfl fun a hA => ?_))
 refine st_alloc tbOk hA hS [.int .u64 0, .int .u64 0, .int .u32 0, .int .u16 0, .int .u16 0, .int .u64 0, .int .u32 0, .int .u8 0, .int .u64 0, .int .u64 0, .slice none 0 0] rfl rfl rfl rfl rfl (by decide) fun b1 w2 a hS hA => ?_
 refine zR 1 ((8, .nilIface) :: _) hA rfl fun a hA => zn (zx (zs (zr (zR 2 ((11, vI i) :: (10, vP b 0) :: _) hA rfl fun a hA => ?_))))
 replace hS := hS.m2.m2
 refine st_call0 hA rfl rfl rfl isfn31 rfl rfl (by decide) (sat31 (i := i) hS hs.fr hbi) ?_
 clear hA hS; rintro _ w3 a ⟨rfl, hS⟩ hA
 refine zR 1 ((9, vP bi 0) :: _) hA rfl fun a hA => zn (zx (zs (zs (zr (zR 2 ((14, .bool false) :: (13, vP bi 0) :: _) hA rfl fun a hA => zn (zx (cd_cond_f hA rfl (zk (zx (zs (zr (zR 2 ((18, vW (k + 1)) :: (17, vP bi 0) :: _) hA rfl fun a hA => ?_))))))))))))
 replace hS := hS.m8.m5
 refine st_call0 hA rfl rfl rfl isfn44 rfl rfl (by decide) (nget_failed44 hS hNi hy hcal hca hst) ?_
 clear hA hS; rintro _ w4 a ⟨Li2, hN2, rfl, hS⟩ hA
 refine zR 4 ((6, .int .i64 3) :: (22, .iface 55 (.int .i64 10)) :: (21, .agg #[.int .u64 0, .int .u64 0, .int .u32 0, .int .u16 0, .int .u16 0, .int .u64 0, .int .u32 0, .int .u8 0, .int .u64 0, .int .u64 0, .slice none 0 0]) :: (20, .int .i64 3) :: _) hA rfl fun a hA => ?_
 replace hS := hS.m4
 refine st_store tbOk hA hS [.int .u64 0, .int .u64 0, .int .u32 0, .int .u16 0, .int .u16 0, .int .u64 0, .int .u32 0, .int .u8 0, .int .u64 0, .int .u64 0, .slice none 0 0] [.int .u64 0, .int .u64 0, .int .u32 0, .int .u16 0, .int .u16 0, .int .u64 0, .int .u32 0, .int .u8 0, .int .u64 0, .int .u64 0, .slice none 0 0] rfl rfl rfl rfl rfl rfl (zn1 rfl) (zle rfl) rfl rfl rfl fun w5 hS => ?_
 refine zR 1 ((8, .iface 55 (.int .i64 10)) :: _) hA rfl fun a hA => zn (zx ?_)
 refine wp_ret ?_
 refine rettct tbOk (fn := Tryz.f16) (cs := [.int .u64 0, .int .u64 0, .int .u32 0, .int .u16 0, .int .u16 0, .int .u64 0, .int .u32 0, .int .u8 0, .int .u64 0, .int .u64 0, .slice none 0 0]) hA rfl rfl rfl rfl rfl rfl rfl (cells_row (hS.heapAt 0 rfl) rfl) ?_
 replace hS := hS.d0.m7.m7.m7.m3.m7.m7.m7
 replace hS : St w0 w5 (((b, rowO [.slice A bs.length c, vP bw 0] 77) :: (C ++ ((La ++ (Li2 ++ Lb)) ++ (WL ++ OL)))) :: D :: F) := hS.cast (by simp)
 have hns : s.nx.set i (.up st sr) = s.nx := set_same9 hx
 have hY2 : SYS w0 b ts { s with nx := s.nx.set i (.up st sr) } _ D := ⟨bw, bo, bs, A, c, C, _, _, _, ⟨hback _ _ _ DX.refl (NOD.dx (x := .up _ _) hN2 DX.refl), hs.fw, hs.fo, hs.fr⟩, rfl⟩
 rw [hns] at hY2; exact ⟨_, hY2, rfl, hS⟩
end Go.Proofs.YthiakdmhpfkjbaaGreatDoor

set_option linter.unusedVariables false
set_option linter.unusedSimpArgs false
set_option maxRecDepth 4000
namespace Go.Proofs.YthiakdmhpfkjbaaGreatDoor
open Go Go.SK
theorem ndtick41 {w0 w : World} {F : List Chunk} {b bo : Nat} {s : NC} (hS : St w0 w ([(b, rowO [vI s.id, vI s.ki, vI s.no, vI s.pc, vI s.wa, vI s.tr, vI s.ag, vI s.pg, vI s.ro, vP bo 0, .bool false, vI s.now, vU s.sent, .int .u64 0, .int .u64 0, .int .u64 0, .int .u32 0, .int .u8 0, .int .u64 0, .pointer none, .pointer none, .pointer none, .pointer none, .pointer none, .pointer none, .map none] 121)] :: F)) (hn : s.now < 1000000) :
 Ret Tryz.prog 41 #[vP b 0] w (fun v w' => v = .slice none 0 0 ∧ St w0 w' ([(b, rowO [vI s.id, vI s.ki, vI s.no, vI s.pc, vI s.wa, vI s.tr, vI s.ag, vI s.pg, vI s.ro, vP bo 0, .bool false, vI (s.now + 1), vU s.sent, .int .u64 0, .int .u64 0, .int .u64 0, .int .u32 0, .int .u8 0, .int .u64 0, .pointer none, .pointer none, .pointer none, .pointer none, .pointer none, .pointer none, .map none] 121)] :: F)) := by
 refine enter (vs := [vP b 0]) 35 Tryz.func41 rfl rfl (by simp) ?_; intro a hA
 refine zs (zr (zR 1 ((2, .slice none 0 0) :: _) hA rfl fun a hA => zn (zx (zs (zr (zR 3 ((8, vP b 11) :: (7, vP b 0) :: (6, vP b 0) :: _) hA rfl fun a hA => zL hA hS 0 rfl rfl rfl rfl rfl rfl rfl rfl rfl fun a hA => zR 1 ((10, .int .i64 (IntKind.i64.wrap (((s.now : Nat) : Int) + 1))) :: _) hA rfl fun a hA => ?_))))))
 replace hA := hA.rw 10 (v' := vI (s.now + 1)) rfl (wr64 (by omega) (by omega) (by omega))
 refine zR 2 ((12, vP b 11) :: (11, vP b 0) :: _) hA rfl fun a hA => ?_
 refine st_store tbOk hA hS [vI (s.now + 1)] [vI s.id, vI s.ki, vI s.no, vI s.pc, vI s.wa, vI s.tr, vI s.ag, vI s.pg, vI s.ro, vP bo 0, .bool false, vI (s.now + 1), vU s.sent, .int .u64 0, .int .u64 0, .int .u64 0, .int .u32 0, .int .u8 0, .int .u64 0, .pointer none, .pointer none, .pointer none, .pointer none, .pointer none, .pointer none, .map none] rfl rfl rfl rfl rfl rfl (by intro u hu; rw [List.mem_singleton.1 hu]; rfl) (zle rfl) rfl rfl rfl fun w1 hS => ?_
 refine zn (zx (zs (zs (zr (zR 3 ((15, vP b 10) :: (14, vP b 0) :: (13, vP b 0) :: _) hA rfl fun a hA => zL hA hS 0 rfl rfl rfl rfl rfl rfl rfl rfl rfl fun a hA => zR 1 ((17, .bool true) :: _) hA rfl fun a hA => zn (zx (cd_cond_t hA rfl (zs (zr (zR 1 ((2, .slice none 0 0) :: _) hA rfl fun a hA => zn (zx ?_)))))))))))
 refine wp_ret (xt_ret ?_)
 refine ret1 (fn := Tryz.f41) hA rfl rfl ?_
 exact ⟨rfl, hS⟩
theorem ndwork42 {w0 w : World} {F : List Chunk} {b bo : Nat} {s : NC} (hS : St w0 w ([(b, rowO [vI s.id, vI s.ki, vI s.no, vI s.pc, vI s.wa, vI s.tr, vI s.ag, vI s.pg, vI s.ro, vP bo 0, .bool false, vI s.now, vU s.sent, .int .u64 0, .int .u64 0, .int .u64 0, .int .u32 0, .int .u8 0, .int .u64 0, .pointer none, .pointer none, .pointer none, .pointer none, .pointer none, .pointer none, .map none] 121)] :: F)) :
 Ret Tryz.prog 42 #[vP b 0] w (fun v w' => v = .tuple #[.slice none 0 0, .bool false] ∧ St w0 w' ([(b, rowO [vI s.id, vI s.ki, vI s.no, vI s.pc, vI s.wa, vI s.tr, vI s.ag, vI s.pg, vI s.ro, vP bo 0, .bool false, vI s.now, vU s.sent, .int .u64 0, .int .u64 0, .int .u64 0, .int .u32 0, .int .u8 0, .int .u64 0, .pointer none, .pointer none, .pointer none, .pointer none, .pointer none, .pointer none, .map none] 121)] :: F)) := by
 refine enter (vs := [vP b 0]) 78 Tryz.func42 rfl rfl (by simp) ?_; intro a hA
 refine zs (zr (zR 2 ((3, .bool false) :: (2, .slice none 0 0) :: _) hA rfl fun a hA => zn (zx (zs (zs (zr (zR 3 ((11, vP b 10) :: (10, vP b 0) :: (9, vP b 0) :: _) hA rfl fun a hA => zL hA hS 0 rfl rfl rfl rfl rfl rfl rfl rfl rfl fun a hA => zR 1 ((13, .bool true) :: _) hA rfl fun a hA => zn (zx (cd_cond_t hA rfl (zs (zr (zR 2 ((3, .bool false) :: (2, .slice none 0 0) :: _) hA rfl fun a hA => zn (zx ?_)))))))))))))
 refine wp_ret (xt_ret ?_)
 refine ret2 (fn := Tryz.f42) hA rfl rfl rfl ?_
 exact ⟨rfl, hS⟩
theorem ndarr38 {w0 w : World} {F : List Chunk} {b bo : Nat} {s : NC} (hS : St w0 w ([(b, rowO [vI s.id, vI s.ki, vI s.no, vI s.pc, vI s.wa, vI s.tr, vI s.ag, vI s.pg, vI s.ro, vP bo 0, .bool false, vI s.now, vU s.sent, .int .u64 0, .int .u64 0, .int .u64 0, .int .u32 0, .int .u8 0, .int .u64 0, .pointer none, .pointer none, .pointer none, .pointer none, .pointer none, .pointer none, .map none] 121)] :: F)) (p : PN) (d : Value) :
 Ret Tryz.prog 38 #[vP b 0, .agg #[vI p.fr, vI p.to, vU p.id, vI p.ix, vI p.cn, d]] w (fun v w' => v = .slice none 0 0 ∧ St w0 w' ([(b, rowO [vI s.id, vI s.ki, vI s.no, vI s.pc, vI s.wa, vI s.tr, vI s.ag, vI s.pg, vI s.ro, vP bo 0, .bool false, vI s.now, vU s.sent, .int .u64 0, .int .u64 0, .int .u64 0, .int .u32 0, .int .u8 0, .int .u64 0, .pointer none, .pointer none, .pointer none, .pointer none, .pointer none, .pointer none, .map none] 121)] :: F)) := by
 refine enter (vs := [vP b 0, .agg #[vI p.fr, vI p.to, vU p.id, vI p.ix, vI p.cn, d]]) 144 Tryz.func38 rfl rfl (by simp) ?_; intro a hA
 refine zs (zr ?_)
 refine st_box hA hS [vI p.fr, vI p.to, vU p.id, vI p.ix, vI p.cn, d] rfl rfl rfl rfl rfl (by decide) fun b1 w2 a hS hA => ?_
 refine zR 1 ((4, .slice none 0 0) :: _) hA rfl fun a hA => zn (zx (zs (zs ?_)))
 refine zD0 hS [] [(0, true), (1, true), (2, true), (3, true), (4, true), (5, true), (6, true), (7, true), (8, true), (9, true), (10, true), (11, true), (12, true), (13, true)] mixed (by kernel_rfl) (by rintro c a w ⟨_, _, h, _⟩; cases h) (by rfl) (by kernel_rfl) ?_
 replace hS := hS.drew
 refine zW 3 ((11, vP b 10) :: (10, vP b 0) :: (9, vP b 0) :: _) hA hS rfl fun a hA => zY hA hS 1 rfl rfl rfl rfl rfl rfl rfl rfl rfl rfl fun a hA => zW 10 ((22, .bool true) :: (21, undef) :: (20, undef) :: (19, undef) :: (18, undef) :: (17, undef) :: (16, undef) :: (15, undef) :: (14, .bool true) :: (13, .bool true) :: _) hA hS rfl fun a hA => ze (zx (cd_cond_t hA rfl (zs (zr (zR 1 ((4, .slice none 0 0) :: _) hA rfl fun a hA => zn (zx ?_))))))
 refine wp_ret (xt_ret ?_)
 refine ret1 (fn := Tryz.f38) hA rfl rfl ?_
 replace hS := hS.d0
 exact ⟨rfl, hS⟩
theorem warr37 {w0 w : World} {F : List Chunk} {bw : Nat} {WL D : Chunk} {p : PN} {wi : List PN} (hS : St w0 w (WL :: D :: F)) (hW : WRA w0 bw (p :: wi) WL D) (hlen : wi.length ≤ 1000000) :
    Ret Tryz.prog 37 #[vP bw 0, .int .i64 0] w (fun v w' => ∃ WL' A c, WRA w0 bw wi WL' D ∧ DD w0 D A c p.da ∧ v = .tuple #[pval p (.slice A p.da.length c), .bool true] ∧ St w0 w' (WL' :: D :: F)) := by
  obtain ⟨ps, h1, h2⟩ := hW
  obtain ⟨x, ps2, rfl, e, hm⟩ := map_cons9 h2.1
  refine Calls.mono (arrive_ok37 hS h1 0 (Nat.succ_pos _) (by rw [List.length_cons, map_len9 hm]; omega)) ?_
  rintro en w' ⟨v, he, k, y, hk, hkp, hy, L', g1, g2, g3⟩
  have hk0 : k = 0 := by rw [Int.zero_emod] at hkp; omega
  subst hk0
  injection hy with hy; subst hy
  have hdx := h2.2 x List.mem_cons_self
  obtain ⟨k0, k1, k2, k3, k4, kA, kc, kb⟩ := x
  simp only [pst, pdat, PN.t, Prod.mk.injEq] at e
  obtain ⟨e0, e1, e2, e3, e4, e5⟩ := e
  subst e0 e1 e2 e3 e4 e5
  exact ⟨v, he, L', kA, kc, ⟨ps2, g1, hm, fun z hz => h2.2 z (List.mem_cons_of_mem _ hz)⟩, hdx, g2, g3⟩
end Go.Proofs.YthiakdmhpfkjbaaGreatDoor

set_option linter.unusedVariables false
set_option linter.unusedSimpArgs false
set_option maxRecDepth 4000
namespace Go.Proofs.YthiakdmhpfkjbaaGreatDoor
open Go Go.SK
def narrX (x : NX) (p : PN) : Option (NX × List PN) :=
  match x with
  | .up st sr => match narrM st p with
    | some (st', out) => some (.up st' sr, out)
    | none => none
  | .down c => some (.down c, [])
def ntickX (x : NX) : Option (NX × List PN) :=
  match x with
  | .up st sr => match ntickM st with
    | some (st', out) => some (.up st' sr, out)
    | none => none
  | .down c => if c.now < 1000000 then some (.down { c with now := c.now + 1 }, []) else none
def nworkX (x : NX) (ts : List Nat) (k : Nat) : Option (NX × Nat × Bool × List PN) :=
  match x with
  | .up st sr => match nworkM st sr ts k with
    | some (st', sr', k', ok, out) => some (.up st' sr', k', ok, out)
    | none => none
  | .down c => some (.down c, k, false, [])
def XRet (w0 : World) (F : List Chunk) (b bo : Nat) (x' : NX) (D : Chunk) (out : List PN) (v : Value) (w' : World) : Prop := ∃ L' ps A c C D', NOD w0 b bo x' L' D' ∧ Own 94 6 (.slice A ps.length c) ps.length (rows encPacket ps) C ∧ PKS w0 D' ps out ∧ DX w0 D D' ∧ v = .slice A ps.length c ∧ St w0 w' (L' :: C :: D' :: F)
theorem narrX38 {b bo : Nat} {x x' : NX} {L D : Chunk} {w0 w : World} {F : List Chunk} {out : List PN} (hS : St w0 w (L :: D :: F)) (hN : NOD w0 b bo x L D) (p : PN) {d : Value} (hd : RdSX w0 (D :: F) 1 d p.da.length (rows encB p.da)) (h : narrX x p = some (x', out)) :
    Ret Tryz.prog 38 #[vP b 0, pval p d] w (XRet w0 F b bo x' D out) := by
  cases x with
  | up st sr =>
    rw [narrX] at h
    cases hm : narrM st p with
    | none => rw [hm] at h; cases h
    | some r =>
      obtain ⟨st', o2⟩ := r
      rw [hm] at h
      injection h with h; injection h with e1 e2; subst e1; subst e2
      refine Calls.mono (narrA hS hN p hd hm) ?_
      rintro e w' ⟨v, he, L', ps, A, c, C, D', g1, g2, g3, g4, g5, g6⟩
      exact ⟨v, he, L', ps, A, c, C, D', g1, g2, g3, g4, g5, g6⟩
  | down c =>
    injection h with h; injection h with e1 e2; subst e1; subst e2
    have hL : L = _ := hN
    subst hL
    refine Calls.mono (ndarr38 hS p d) ?_
    rintro e w' ⟨v, he, g1, g2⟩
    exact ⟨v, he, _, [], none, 0, [], D, rfl, Own.nil _ _, PKS.nil, DX.refl, g1, g2.cast (by simp)⟩
theorem ntickX41 {b bo : Nat} {x x' : NX} {L D : Chunk} {w0 w : World} {F : List Chunk} {out : List PN} (hS : St w0 w (L :: D :: F)) (hN : NOD w0 b bo x L D) (h : ntickX x = some (x', out)) :
    Ret Tryz.prog 41 #[vP b 0] w (XRet w0 F b bo x' D out) := by
  cases x with
  | up st sr =>
    rw [ntickX] at h
    cases hm : ntickM st with
    | none => rw [hm] at h; cases h
    | some r =>
      obtain ⟨st', o2⟩ := r
      rw [hm] at h
      injection h with h; injection h with e1 e2; subst e1; subst e2
      refine Calls.mono (ntickB hS hN hm) ?_
      rintro e w' ⟨v, he, L', ps, A, c, C, D', g1, g2, g3, g4, g5, g6⟩
      exact ⟨v, he, L', ps, A, c, C, D', g1, g2, g3, g4, g5, g6⟩
  | down c =>
    rw [ntickX] at h
    by_cases hc : c.now < 1000000
    · rw [if_pos hc] at h
      injection h with h; injection h with e1 e2; subst e1; subst e2
      have hL : L = _ := hN
      subst hL
      refine Calls.mono (ndtick41 hS hc) ?_
      rintro e w' ⟨v, he, g1, g2⟩
      exact ⟨v, he, _, [], none, 0, [], D, rfl, Own.nil _ _, PKS.nil, DX.refl, g1, g2.cast (by simp)⟩
    · rw [if_neg hc] at h; cases h
def WXRet (w0 : World) (F : List Chunk) (b bo : Nat) (x' : NX) (en : List (Nat × Nat × Nat)) (ts : List Nat) (k' : Nat) (D : Chunk) (ok : Bool) (out : List PN) (v : Value) (w' : World) : Prop := ∃ L' ps A c C O' D', NOD w0 b bo x' L' D' ∧ ORR bo en ts k' O' ∧ Own 94 6 (.slice A ps.length c) ps.length (rows encPacket ps) C ∧ PKS w0 D' ps out ∧ DX w0 D D' ∧ v = .tuple #[.slice A ps.length c, .bool ok] ∧ St w0 w' (L' :: C :: O' :: D' :: F)
theorem nworkX42 {b bo : Nat} {x x' : NX} {L O D : Chunk} {w0 w : World} {F : List Chunk} {en : List (Nat × Nat × Nat)} {ts : List Nat} {k k' : Nat} {ok : Bool} {out : List PN} (hS : St w0 w (L :: O :: D :: F)) (hN : NOD w0 b bo x L D) (hO : ORR bo en ts k O) (h : nworkX x ts k = some (x', k', ok, out)) :
    Ret Tryz.prog 42 #[vP b 0] w (WXRet w0 F b bo x' en ts k' D ok out) := by
  cases x with
  | up st sr =>
    rw [nworkX] at h
    cases hm : nworkM st sr ts k with
    | none => rw [hm] at h; cases h
    | some r =>
      obtain ⟨st', sr', k2, ok2, o2⟩ := r
      rw [hm] at h
      injection h with h; injection h with e1 h; injection h with e2 h; injection h with e3 e4
      subst e1; subst e2; subst e3; subst e4
      refine Calls.mono (nworkB hS hN hO hm) ?_
      rintro e w' ⟨v, he, L', ps, A, c, C, O', D', g1, g2, g3, g4, g5, g6, g7⟩
      exact ⟨v, he, L', ps, A, c, C, O', D', g1, g2, g3, g4, g5, g6, g7⟩
  | down c =>
    injection h with h; injection h with e1 h; injection h with e2 h; injection h with e3 e4
    subst e1; subst e2; subst e3; subst e4
    have hL : L = _ := hN
    subst hL
    refine Calls.mono (ndwork42 hS) ?_
    rintro e w' ⟨v, he, g1, g2⟩
    exact ⟨v, he, _, [], none, 0, [], O, D, rfl, hO, Own.nil _ _, PKS.nil, DX.refl, g1, g2.cast (by simp)⟩
def app (wi out : List PN) : List PN := match out with
  | [] => wi
  | _ :: _ => forceS (wi ++ out) id
theorem app_eq (wi out : List PN) : app wi out = wi ++ out := by
  cases out with
  | nil => exact (List.append_nil wi).symm
  | cons a l => rw [app, forceS_eq]; rfl
def arrM (s : SY) : Option SY :=
  match s.wi with
  | [] => none
  | p :: wi => match s.nx[p.to]? with
    | some x => match narrX x p with
      | some (x', out) => if sendC wi out ∧ wi.length ≤ 1000000 then some { s with nx := s.nx.set p.to x', wi := app wi out } else none
      | none => none
    | none => none
def workM (ts : List Nat) (s : SY) (i : Nat) : Option (SY × Bool) :=
  match s.nx[i]? with
  | some x => match nworkX x ts s.k with
    | some (x', k', ok, out) => if sendC s.wi out then some ({ s with nx := s.nx.set i x', k := k', wi := app s.wi (if ok then out else []) }, ok) else none
    | none => none
  | none => none
def tick1M (s : SY) (i : Nat) : Option SY :=
  match s.nx[i]? with
  | some x => match ntickX x with
    | some (x', out) => if sendC s.wi out then some { s with nx := s.nx.set i x', wi := app s.wi out } else none
    | none => none
  | none => none
def ticksM (s : SY) : Nat → Option SY
  | 0 => some s
  | j + 1 => match ticksM s j with
    | some s' => tick1M s' j
    | none => none
theorem ticksM_le {s x : SY} {n : Nat} (h : ticksM s n = some x) : ∀ j ≤ n, ∃ y, ticksM s j = some y := by
  induction n generalizing x with
  | zero => intro j hj; obtain rfl : j = 0 := by omega
            exact ⟨x, h⟩
  | succ n ih =>
    intro j hj
    by_cases hjn : j = n + 1
    · subst hjn; exact ⟨x, h⟩
    · rw [ticksM] at h
      cases hm : ticksM s n with
      | none => rw [hm] at h; cases h
      | some y => exact ih hm j (by omega)
theorem tick1M_some {s s' : SY} {j : Nat} (h : tick1M s j = some s') : ∃ x x' out, s.nx[j]? = some x ∧ ntickX x = some (x', out) ∧ sendC s.wi out ∧ s' = { s with nx := s.nx.set j x', wi := s.wi ++ out } := by
  rw [tick1M] at h
  cases hx : s.nx[j]? with
  | none => rw [hx] at h; cases h
  | some x =>
    rw [hx] at h; dsimp only at h
    cases ht : ntickX x with
    | none => rw [ht] at h; cases h
    | some r =>
      obtain ⟨x', out⟩ := r
      rw [ht] at h; dsimp only at h
      by_cases hc : sendC s.wi out
      · rw [if_pos hc, app_eq] at h; injection h with h
        exact ⟨x, x', out, rfl, ht, hc, h.symm⟩
      · rw [if_neg hc] at h; cases h
theorem workM_some {ts : List Nat} {s s' : SY} {i : Nat} {ok : Bool} (h : workM ts s i = some (s', ok)) : ∃ x x' k' out, s.nx[i]? = some x ∧ nworkX x ts s.k = some (x', k', ok, out) ∧ sendC s.wi out ∧ s' = { s with nx := s.nx.set i x', k := k', wi := s.wi ++ (if ok then out else []) } := by
  rw [workM] at h
  cases hx : s.nx[i]? with
  | none => rw [hx] at h; cases h
  | some x =>
    rw [hx] at h; dsimp only at h
    cases ht : nworkX x ts s.k with
    | none => rw [ht] at h; cases h
    | some r =>
      obtain ⟨x', k', ok2, out⟩ := r
      rw [ht] at h; dsimp only at h
      by_cases hc : sendC s.wi out
      · rw [if_pos hc, app_eq] at h; injection h with h; injection h with h h2; subst h2
        exact ⟨x, x', k', out, rfl, ht, hc, h.symm⟩
      · rw [if_neg hc] at h; cases h
theorem arrM_some {s s' : SY} (h : arrM s = some s') : ∃ p wi x x' out, s.wi = p :: wi ∧ s.nx[p.to]? = some x ∧ narrX x p = some (x', out) ∧ sendC wi out ∧ wi.length ≤ 1000000 ∧ s' = { s with nx := s.nx.set p.to x', wi := wi ++ out } := by
  rw [arrM] at h
  cases hw : s.wi with
  | nil => rw [hw] at h; cases h
  | cons p wi =>
    rw [hw] at h; dsimp only at h
    cases hx : s.nx[p.to]? with
    | none => rw [hx] at h; cases h
    | some x =>
      rw [hx] at h; dsimp only at h
      cases ht : narrX x p with
      | none => rw [ht] at h; cases h
      | some r =>
        obtain ⟨x', out⟩ := r
        rw [ht] at h; dsimp only at h
        by_cases hc : sendC wi out ∧ wi.length ≤ 1000000
        · rw [if_pos hc, app_eq] at h; injection h with h
          exact ⟨p, wi, x, x', out, rfl, hx, ht, hc.1, hc.2, h.symm⟩
        · rw [if_neg hc] at h; cases h
end Go.Proofs.YthiakdmhpfkjbaaGreatDoor

set_option linter.unusedVariables false
set_option linter.unusedSimpArgs false
set_option maxRecDepth 4000
namespace Go.Proofs.YthiakdmhpfkjbaaGreatDoor
open Go Go.SK
set_option maxHeartbeats 4000000 in
theorem do_arr15 {w0 w : World} {F : List Chunk} {b : Nat} {ts : List Nat} {s : SY} {L D : Chunk} {s' : SY} (hS : St w0 w (L :: D :: F)) (hY : SYS w0 b ts s L D) (hM : arrM s = some s') :
 Ret Tryz.prog 15 #[vP b 0, .agg #[.int .u8 0, .int .i64 0, .int .i64 0]] w (fun v w' => ∃ L' D', SYS w0 b ts s' L' D' ∧ DX w0 D D' ∧ v = .nilIface ∧ St w0 w' (L' :: D' :: F)) := by
 obtain ⟨bw, bo, bs, A, c, C, NL, WL, OL, hs, rfl⟩ := hY
 replace hS : St w0 w ([(b, rowO [.slice A bs.length c, vP bw 0] 77)] :: C :: NL :: WL :: OL :: D :: F) := hS.cast (by simp)
 obtain ⟨p, wi, x, x', out, hwi, hx, hc, hsc, hlw, rfl⟩ := arrM_some hM
 have hfw := hs.fw; rw [hwi] at hfw
 refine enter (vs := [vP b 0, .agg #[.int .u8 0, .int .i64 0, .int .i64 0]]) 108 Tryz.func15 rfl rfl (by simp) ?_; intro a hA
 refine zs (zr ?_)
 refine st_box hA hS [.int .u8 0, .int .i64 0, .int .i64 0] rfl rfl rfl rfl rfl (by decide) fun b1 w2 a hS hA => ?_
 refine zR 1 ((4, .nilIface) :: _) hA rfl fun a hA => zn (zx (zs (zs (zr (zR 1 ((13, vP b1 0) :: _) hA rfl fun a hA => zL hA hS 0 rfl rfl rfl rfl rfl rfl rfl rfl rfl fun a hA => zn (zx (zb (zs (zr (zR 2 ((15, .bool true) :: (16, .bool true) :: _) hA rfl fun a hA => zn (zx (cd_cond_t hA rfl (zs ?_)))))))))))))
 replace hS := hS.m6.m5
 refine wp_drawN (fun w' => St w0 w' ([(b1, rowO [.int .u8 0, .int .i64 0, .int .i64 0] 51)] :: [(b, rowO [.slice A bs.length c, vP bw 0] 77)] :: C :: NL :: OL :: F)) [] [(0, true), (1, true), (2, true), (3, true), (4, true), (5, true)] 6 (.L [(7, true), (8, true), (9, true), (10, false), (11, false), (12, true)]) 10 (.L [(6, false), (7, true), (8, true), (9, true), (11, false), (12, true)]) mixed (by kernel_rfl) (by rintro c a w ⟨_, _, h, _⟩; cases h) (by rfl) (by kernel_rfl) ?_
 replace hS := hS.drew
 refine zW 3 ((20, vP b 1) :: (19, vP b 0) :: (18, vP b 0) :: _) hA (hS.tail 2 rfl) rfl fun a hA => zY hA (hS.tail 2 rfl) 1 rfl rfl rfl rfl rfl rfl rfl rfl rfl rfl fun a hA => zW 1 ((22, vP b1 2) :: _) hA (hS.tail 2 rfl) rfl fun a hA => zY hA (hS.tail 2 rfl) 0 rfl rfl rfl rfl rfl rfl rfl rfl rfl rfl fun a hA => ?_
 refine dr_fork ?_ ?_
 · refine dr_b (o := _) rfl ?_
   replace hS := hS.m1.m1
   refine st_call0 hA rfl rfl rfl isfn37 rfl rfl (by decide) (warr37 hS hfw hlw) ?_
   clear hA hS; rintro _ w3 a ⟨WL2, kA, kc, hW2, hdx, rfl, hS⟩ hA
   refine zi (hS.tail 2 rfl) ?_
   refine dr_subL ?_
   refine zW 3 ((26, .bool true) :: (25, .agg #[vI p.fr, vI p.to, vU p.id, vI p.ix, vI p.cn, .slice kA p.da.length kc]) :: (17, .tuple #[.agg #[vI p.fr, vI p.to, vU p.id, vI p.ix, vI p.cn, .slice kA p.da.length kc], .bool true]) :: _) hA (hS.tail 2 rfl) rfl fun a hA => dr_b (o := _) rfl ?_
   refine st_alloc tbOk hA hS [.int .i64 0, .int .i64 0, .int .u64 0, .int .i64 0, .int .i64 0, .slice none 0 0] rfl rfl rfl rfl rfl (by decide) fun b4 w5 a hS hA => ?_
   refine zi (hS.tail 3 rfl) (dr_b (o := _) rfl ?_)
   refine st_store tbOk hA hS [vI p.fr, vI p.to, vU p.id, vI p.ix, vI p.cn, .slice kA p.da.length kc] [vI p.fr, vI p.to, vU p.id, vI p.ix, vI p.cn, .slice kA p.da.length kc] rfl rfl rfl rfl rfl rfl (zn1 rfl) (zle rfl) rfl rfl rfl fun w6 hS => ?_
   refine zi (hS.tail 3 rfl) (zW 1 ((6, .bool true) :: _) hA (hS.tail 3 rfl) rfl fun a hA => ze (zx (zs (zs (zr (zR 2 ((28, .bool false) :: (27, .bool true) :: _) hA rfl fun a hA => zn (zx (cd_cond_f hA rfl (zk (zx (zs (zs (zr ?_)))))))))))))
   have hlen := hs.fn.len; obtain ⟨bi, hbi⟩ := get_ex (l := bs) (k := p.to) (by have h := (List.getElem?_eq_some_iff.1 hx).1; omega)
   obtain ⟨La, Li, Lb, hNLe, hNi, hback⟩ := hs.fn.at_ hbi hx; subst hNLe
   replace hS : St w0 w6 ([(b4, rowO [vI p.fr, vI p.to, vU p.id, vI p.ix, vI p.cn, .slice kA p.da.length kc] 94)] :: WL2 :: D :: [(b1, rowO [.int .u8 0, .int .i64 0, .int .i64 0] 51)] :: [(b, rowO [.slice A bs.length c, vP bw 0] 77)] :: C :: La :: Li :: Lb :: OL :: F) := hS.cast (by simp)
   refine zR 2 ((31, vP b4 1) :: (30, vP b 0) :: _) hA rfl fun a hA => zL hA hS 0 rfl rfl rfl rfl rfl rfl rfl rfl rfl fun a hA => ?_
   replace hS := hS.m5.m5
   refine st_call0 hA rfl rfl rfl isfn31 rfl rfl (by decide) (sat31 (i := p.to) hS hs.fr hbi) ?_
   clear hA hS; rintro _ w7 a ⟨rfl, hS⟩ hA
   refine zR 1 ((7, vP bi 0) :: _) hA rfl fun a hA => zn (zx (zs (zr (zR 2 ((35, .bool true) :: (34, vP bi 0) :: _) hA rfl fun a hA => zn (zx (cd_cond_t hA rfl (zr (zR 2 ((37, vP bi 0) :: (36, vP b 0) :: _) hA rfl fun a hA => zLA hA hS 2 [vI p.fr, vI p.to, vU p.id, vI p.ix, vI p.cn, .slice kA p.da.length kc] rfl rfl rfl rfl rfl rfl rfl rfl rfl rfl fun a hA => ?_))))))))
   replace hS := hS.m4.m7
   refine st_call0 hA rfl rfl rfl isfn38 rfl rfl (by decide) (narrX38 hS hNi p (DD.rds (F := D :: _) hdx 0 rfl) hc) ?_
   clear hA hS; rintro _ w8 a ⟨Li2, psq, Aq, cq, Cq, D2, hN2, hOq, hKq, hX2, rfl, hS⟩ hA
   replace hS := hS.m2.m2.m6.m4
   refine st_call0 hA rfl rfl rfl isfn34 rfl rfl (by decide) (ssend34 hS (hW2.dx hX2) hOq hKq hsc.1 hsc.2) ?_
   clear hA hS; rintro _ w9 a ⟨WL12, Ds11, hW13, hXs10, rfl, hS⟩ hA
   refine zn (zx (zs (zr (zR 1 ((4, .nilIface) :: _) hA rfl fun a hA => zn (zx ?_)))))
   refine wp_ret (xb_ret (xt_ret ?_))
   refine ret1 (fn := Tryz.f15) hA rfl rfl ?_
   replace hS := hS.d6.d5.m7.m2.m7.m5.m7.m7.m6
   replace hS : St w0 w9 (((b, rowO [.slice A bs.length c, vP bw 0] 77) :: (C ++ ((La ++ (Li2 ++ Lb)) ++ (WL12 ++ OL)))) :: Ds11 :: F) := hS.cast (by simp)
   exact ⟨_, _, ⟨bw, bo, bs, A, c, C, _, _, _, ⟨hback _ _ _ (hX2.trans hXs10) (NOD.dx hN2 hXs10), hW13, hs.fo, hs.fr⟩, rfl⟩, (hX2.trans hXs10), rfl, hS⟩
 · refine dr_b (o := _) rfl ?_
   refine st_alloc tbOk hA hS [.int .i64 0, .int .i64 0, .int .u64 0, .int .i64 0, .int .i64 0, .slice none 0 0] rfl rfl rfl rfl rfl (by decide) fun b14 w15 a hS hA => ?_
   refine zi (hS.tail 3 rfl) ?_
   refine dr_subL ?_
   refine dr_b (o := _) rfl ?_
   replace hS := hS.m2.m2
   refine st_call0 hA rfl rfl rfl isfn37 rfl rfl (by decide) (warr37 hS hfw hlw) ?_
   clear hA hS; rintro _ w16 a ⟨WL2, kA, kc, hW2, hdx, rfl, hS⟩ hA
   refine zi (hS.tail 3 rfl) (zW 3 ((26, .bool true) :: (25, .agg #[vI p.fr, vI p.to, vU p.id, vI p.ix, vI p.cn, .slice kA p.da.length kc]) :: (17, .tuple #[.agg #[vI p.fr, vI p.to, vU p.id, vI p.ix, vI p.cn, .slice kA p.da.length kc], .bool true]) :: _) hA (hS.tail 3 rfl) rfl fun a hA => dr_b (o := _) rfl ?_)
   replace hS := hS.m2
   refine st_store tbOk hA hS [vI p.fr, vI p.to, vU p.id, vI p.ix, vI p.cn, .slice kA p.da.length kc] [vI p.fr, vI p.to, vU p.id, vI p.ix, vI p.cn, .slice kA p.da.length kc] rfl rfl rfl rfl rfl rfl (zn1 rfl) (zle rfl) rfl rfl rfl fun w17 hS => ?_
   refine zi (hS.tail 3 rfl) (zW 1 ((6, .bool true) :: _) hA (hS.tail 3 rfl) rfl fun a hA => ze (zx (zs (zs (zr (zR 2 ((28, .bool false) :: (27, .bool true) :: _) hA rfl fun a hA => zn (zx (cd_cond_f hA rfl (zk (zx (zs (zs (zr ?_)))))))))))))
   have hlen := hs.fn.len; obtain ⟨bi, hbi⟩ := get_ex (l := bs) (k := p.to) (by have h := (List.getElem?_eq_some_iff.1 hx).1; omega)
   obtain ⟨La, Li, Lb, hNLe, hNi, hback⟩ := hs.fn.at_ hbi hx; subst hNLe
   replace hS : St w0 w17 ([(b14, rowO [vI p.fr, vI p.to, vU p.id, vI p.ix, vI p.cn, .slice kA p.da.length kc] 94)] :: WL2 :: D :: [(b1, rowO [.int .u8 0, .int .i64 0, .int .i64 0] 51)] :: [(b, rowO [.slice A bs.length c, vP bw 0] 77)] :: C :: La :: Li :: Lb :: OL :: F) := hS.cast (by simp)
   refine zR 2 ((31, vP b14 1) :: (30, vP b 0) :: _) hA rfl fun a hA => zL hA hS 0 rfl rfl rfl rfl rfl rfl rfl rfl rfl fun a hA => ?_
   replace hS := hS.m5.m5
   refine st_call0 hA rfl rfl rfl isfn31 rfl rfl (by decide) (sat31 (i := p.to) hS hs.fr hbi) ?_
   clear hA hS; rintro _ w18 a ⟨rfl, hS⟩ hA
   refine zR 1 ((7, vP bi 0) :: _) hA rfl fun a hA => zn (zx (zs (zr (zR 2 ((35, .bool true) :: (34, vP bi 0) :: _) hA rfl fun a hA => zn (zx (cd_cond_t hA rfl (zr (zR 2 ((37, vP bi 0) :: (36, vP b 0) :: _) hA rfl fun a hA => zLA hA hS 2 [vI p.fr, vI p.to, vU p.id, vI p.ix, vI p.cn, .slice kA p.da.length kc] rfl rfl rfl rfl rfl rfl rfl rfl rfl rfl fun a hA => ?_))))))))
   replace hS := hS.m4.m7
   refine st_call0 hA rfl rfl rfl isfn38 rfl rfl (by decide) (narrX38 hS hNi p (DD.rds (F := D :: _) hdx 0 rfl) hc) ?_
   clear hA hS; rintro _ w19 a ⟨Li2, psq, Aq, cq, Cq, D2, hN2, hOq, hKq, hX2, rfl, hS⟩ hA
   replace hS := hS.m2.m2.m6.m4
   refine st_call0 hA rfl rfl rfl isfn34 rfl rfl (by decide) (ssend34 hS (hW2.dx hX2) hOq hKq hsc.1 hsc.2) ?_
   clear hA hS; rintro _ w20 a ⟨WL23, Ds22, hW24, hXs21, rfl, hS⟩ hA
   refine zn (zx (zs (zr (zR 1 ((4, .nilIface) :: _) hA rfl fun a hA => zn (zx ?_)))))
   refine wp_ret (xb_ret (xt_ret ?_))
   refine ret1 (fn := Tryz.f15) hA rfl rfl ?_
   replace hS := hS.d6.d5.m7.m2.m7.m5.m7.m7.m6
   replace hS : St w0 w20 (((b, rowO [.slice A bs.length c, vP bw 0] 77) :: (C ++ ((La ++ (Li2 ++ Lb)) ++ (WL23 ++ OL)))) :: Ds22 :: F) := hS.cast (by simp)
   exact ⟨_, _, ⟨bw, bo, bs, A, c, C, _, _, _, ⟨hback _ _ _ (hX2.trans hXs21) (NOD.dx hN2 hXs21), hW24, hs.fo, hs.fr⟩, rfl⟩, (hX2.trans hXs21), rfl, hS⟩
set_option maxHeartbeats 4000000 in
theorem do_arr015 {w0 w : World} {F : List Chunk} {b : Nat} {ts : List Nat} {s : SY} {L D : Chunk} (hS : St w0 w (L :: D :: F)) (hY : SYS w0 b ts s L D) (hwi : s.wi = []) :
 Ret Tryz.prog 15 #[vP b 0, .agg #[.int .u8 0, .int .i64 0, .int .i64 0]] w (fun v w' => ∃ L', SYS w0 b ts s L' D ∧ v = .iface 55 (.int .i64 12) ∧ St w0 w' (L' :: D :: F)) := by
 obtain ⟨bw, bo, bs, A, c, C, NL, WL, OL, hs, rfl⟩ := hY
 replace hS : St w0 w ([(b, rowO [.slice A bs.length c, vP bw 0] 77)] :: C :: NL :: WL :: OL :: D :: F) := hS.cast (by simp)
 refine enter (vs := [vP b 0, .agg #[.int .u8 0, .int .i64 0, .int .i64 0]]) 108 Tryz.func15 rfl rfl (by simp) ?_; intro a hA
 refine zs (zr ?_)
 refine st_box hA hS [.int .u8 0, .int .i64 0, .int .i64 0] rfl rfl rfl rfl rfl (by decide) fun b1 w2 a hS hA => ?_
 refine zR 1 ((4, .nilIface) :: _) hA rfl fun a hA => zn (zx (zs (zs (zr (zR 1 ((13, vP b1 0) :: _) hA rfl fun a hA => zL hA hS 0 rfl rfl rfl rfl rfl rfl rfl rfl rfl fun a hA => zn (zx (zb (zs (zr (zR 2 ((15, .bool true) :: (16, .bool true) :: _) hA rfl fun a hA => zn (zx (cd_cond_t hA rfl (zs ?_)))))))))))))
 replace hS := hS.m6.m5
 refine wp_drawN (fun w' => St w0 w' ([(b1, rowO [.int .u8 0, .int .i64 0, .int .i64 0] 51)] :: [(b, rowO [.slice A bs.length c, vP bw 0] 77)] :: C :: NL :: OL :: F)) [] [(0, true), (1, true), (2, true), (3, true), (4, true), (5, true)] 6 (.L [(7, true), (8, true), (9, true), (10, false), (11, false), (12, true)]) 10 (.L [(6, false), (7, true), (8, true), (9, true), (11, false), (12, true)]) mixed (by kernel_rfl) (by rintro c a w ⟨_, _, h, _⟩; cases h) (by rfl) (by kernel_rfl) ?_
 replace hS := hS.drew
 refine zW 3 ((20, vP b 1) :: (19, vP b 0) :: (18, vP b 0) :: _) hA (hS.tail 2 rfl) rfl fun a hA => zY hA (hS.tail 2 rfl) 1 rfl rfl rfl rfl rfl rfl rfl rfl rfl rfl fun a hA => zW 1 ((22, vP b1 2) :: _) hA (hS.tail 2 rfl) rfl fun a hA => zY hA (hS.tail 2 rfl) 0 rfl rfl rfl rfl rfl rfl rfl rfl rfl rfl fun a hA => ?_
 refine dr_fork ?_ ?_
 · refine dr_b (o := _) rfl ?_
   replace hS := hS.m1.m1
   obtain ⟨wp, hwr, hWK⟩ := hs.fw; have hwl := hWK.len; rw [hwi] at hwl
   refine st_call0 hA rfl rfl rfl isfn37 rfl rfl (by decide) (arrive_none37 hS hwr 0 hwl) ?_
   clear hA hS; rintro _ w3 a ⟨WL2, hW2, rfl, hS⟩ hA
   refine zi (hS.tail 2 rfl) ?_
   refine dr_subL ?_
   refine zW 3 ((26, .bool false) :: (25, .agg #[.int .i64 0, .int .i64 0, .int .u64 0, .int .i64 0, .int .i64 0, .slice none 0 0]) :: (17, .tuple #[.agg #[.int .i64 0, .int .i64 0, .int .u64 0, .int .i64 0, .int .i64 0, .slice none 0 0], .bool false]) :: _) hA (hS.tail 2 rfl) rfl fun a hA => dr_b (o := _) rfl ?_
   refine st_alloc tbOk hA hS [.int .i64 0, .int .i64 0, .int .u64 0, .int .i64 0, .int .i64 0, .slice none 0 0] rfl rfl rfl rfl rfl (by decide) fun b4 w5 a hS hA => ?_
   refine zi (hS.tail 3 rfl) (dr_b (o := _) rfl ?_)
   refine st_store tbOk hA hS [.int .i64 0, .int .i64 0, .int .u64 0, .int .i64 0, .int .i64 0, .slice none 0 0] [.int .i64 0, .int .i64 0, .int .u64 0, .int .i64 0, .int .i64 0, .slice none 0 0] rfl rfl rfl rfl rfl rfl (zn1 rfl) (zle rfl) rfl rfl rfl fun w6 hS => ?_
   refine zi (hS.tail 3 rfl) (zW 1 ((6, .bool false) :: _) hA (hS.tail 3 rfl) rfl fun a hA => ze (zx (zs (zs (zr (zR 2 ((28, .bool true) :: (27, .bool false) :: _) hA rfl fun a hA => zn (zx (cd_cond_t hA rfl (zs (zr (zR 2 ((4, .iface 55 (.int .i64 12)) :: (29, .iface 55 (.int .i64 12)) :: _) hA rfl fun a hA => zn (zx ?_))))))))))))
   refine wp_ret (xt_ret (xb_ret (xt_ret ?_)))
   refine ret1 (fn := Tryz.f15) hA rfl rfl ?_
   replace hS := hS.d3.d0.m5.m1.m5.m5.m5
   replace hS : St w0 w6 (((b, rowO [.slice A bs.length c, vP bw 0] 77) :: (C ++ (NL ++ (WL2 ++ OL)))) :: D :: F) := hS.cast (by simp)
   exact ⟨_, ⟨bw, bo, bs, A, c, C, _, _, _, ⟨NDS.dx DX.refl hs.fn, (show WRA w0 bw s.wi WL2 D from ⟨wp, hW2, hWK⟩), hs.fo, hs.fr⟩, rfl⟩, rfl, hS⟩
 · refine dr_b (o := _) rfl ?_
   refine st_alloc tbOk hA hS [.int .i64 0, .int .i64 0, .int .u64 0, .int .i64 0, .int .i64 0, .slice none 0 0] rfl rfl rfl rfl rfl (by decide) fun b7 w8 a hS hA => ?_
   refine zi (hS.tail 3 rfl) ?_
   refine dr_subL ?_
   refine dr_b (o := _) rfl ?_
   replace hS := hS.m2.m2
   obtain ⟨wp, hwr, hWK⟩ := hs.fw; have hwl := hWK.len; rw [hwi] at hwl
   refine st_call0 hA rfl rfl rfl isfn37 rfl rfl (by decide) (arrive_none37 hS hwr 0 hwl) ?_
   clear hA hS; rintro _ w9 a ⟨WL2, hW2, rfl, hS⟩ hA
   refine zi (hS.tail 3 rfl) (zW 3 ((26, .bool false) :: (25, .agg #[.int .i64 0, .int .i64 0, .int .u64 0, .int .i64 0, .int .i64 0, .slice none 0 0]) :: (17, .tuple #[.agg #[.int .i64 0, .int .i64 0, .int .u64 0, .int .i64 0, .int .i64 0, .slice none 0 0], .bool false]) :: _) hA (hS.tail 3 rfl) rfl fun a hA => dr_b (o := _) rfl ?_)
   replace hS := hS.m2
   refine st_store tbOk hA hS [.int .i64 0, .int .i64 0, .int .u64 0, .int .i64 0, .int .i64 0, .slice none 0 0] [.int .i64 0, .int .i64 0, .int .u64 0, .int .i64 0, .int .i64 0, .slice none 0 0] rfl rfl rfl rfl rfl rfl (zn1 rfl) (zle rfl) rfl rfl rfl fun w10 hS => ?_
   refine zi (hS.tail 3 rfl) (zW 1 ((6, .bool false) :: _) hA (hS.tail 3 rfl) rfl fun a hA => ze (zx (zs (zs (zr (zR 2 ((28, .bool true) :: (27, .bool false) :: _) hA rfl fun a hA => zn (zx (cd_cond_t hA rfl (zs (zr (zR 2 ((4, .iface 55 (.int .i64 12)) :: (29, .iface 55 (.int .i64 12)) :: _) hA rfl fun a hA => zn (zx ?_))))))))))))
   refine wp_ret (xt_ret (xb_ret (xt_ret ?_)))
   refine ret1 (fn := Tryz.f15) hA rfl rfl ?_
   replace hS := hS.d3.d0.m5.m1.m5.m5.m5
   replace hS : St w0 w10 (((b, rowO [.slice A bs.length c, vP bw 0] 77) :: (C ++ (NL ++ (WL2 ++ OL)))) :: D :: F) := hS.cast (by simp)
   exact ⟨_, ⟨bw, bo, bs, A, c, C, _, _, _, ⟨NDS.dx DX.refl hs.fn, (show WRA w0 bw s.wi WL2 D from ⟨wp, hW2, hWK⟩), hs.fo, hs.fr⟩, rfl⟩, rfl, hS⟩
set_option maxHeartbeats 4000000 in
theorem do_work_t15 {w0 w : World} {F : List Chunk} {b : Nat} {ts : List Nat} {s : SY} {L D : Chunk} {s' : SY} {i : Nat} (hS : St w0 w (L :: D :: F)) (hY : SYS w0 b ts s L D) (hM : workM ts s i = some (s', true)) :
 Ret Tryz.prog 15 #[vP b 0, .agg #[.int .u8 3, vI i, .int .i64 0]] w (fun v w' => ∃ L' D', SYS w0 b ts s' L' D' ∧ DX w0 D D' ∧ v = .nilIface ∧ St w0 w' (L' :: D' :: F)) := by
 obtain ⟨bw, bo, bs, A, c, C, NL, WL, OL, hs, rfl⟩ := hY
 replace hS : St w0 w ([(b, rowO [.slice A bs.length c, vP bw 0] 77)] :: C :: NL :: WL :: OL :: D :: F) := hS.cast (by simp)
 obtain ⟨x, x', k', out, hx, hc, hsc, rfl⟩ := workM_some hM
 have hlen := hs.fn.len; obtain ⟨bi, hbi⟩ := get_ex (l := bs) (k := i) (by have h := (List.getElem?_eq_some_iff.1 hx).1; omega)
 obtain ⟨La, Li, Lb, hNLe, hNi, hback⟩ := hs.fn.at_ hbi hx; subst hNLe
 replace hS : St w0 w ([(b, rowO [.slice A bs.length c, vP bw 0] 77)] :: C :: La :: Li :: Lb :: WL :: OL :: D :: F) := hS.cast (by simp)
 refine enter (vs := [vP b 0, .agg #[.int .u8 3, vI i, .int .i64 0]]) 108 Tryz.func15 rfl rfl (by simp) ?_; intro a hA
 refine zs (zr ?_)
 refine st_box hA hS [.int .u8 3, vI i, .int .i64 0] rfl rfl rfl rfl rfl (by decide) fun b1 w2 a hS hA => ?_
 refine zR 1 ((4, .nilIface) :: _) hA rfl fun a hA => zn (zx (zs (zs (zr (zR 1 ((13, vP b1 0) :: _) hA rfl fun a hA => zL hA hS 0 rfl rfl rfl rfl rfl rfl rfl rfl rfl fun a hA => zn (zx (zb (zs (zr (zR 2 ((15, .bool false) :: (16, .bool false) :: _) hA rfl fun a hA => zn (zx (cd_cond_f hA rfl (zs (zr (zR 2 ((41, .bool false) :: (42, .bool false) :: _) hA rfl fun a hA => zn (zx (cd_cond_f hA rfl (zs (zr (zR 2 ((52, .bool false) :: (53, .bool false) :: _) hA rfl fun a hA => zn (zx (cd_cond_f hA rfl (zs (zr (zR 2 ((61, .bool false) :: (62, .bool false) :: _) hA rfl fun a hA => zn (zx (cd_cond_f hA rfl (zk (zm (zx (zs (zr (zR 2 ((78, vP b1 1) :: (77, vP b 0) :: _) hA rfl fun a hA => zL hA hS 0 rfl rfl rfl rfl rfl rfl rfl rfl rfl fun a hA => ?_)))))))))))))))))))))))))))))))))
 replace hS := hS.m2.m2
 refine st_call0 hA rfl rfl rfl isfn31 rfl rfl (by decide) (sat31 (i := i) hS hs.fr hbi) ?_
 clear hA hS; rintro _ w3 a ⟨rfl, hS⟩ hA
 refine zR 1 ((10, vP bi 0) :: _) hA rfl fun a hA => zn (zx (zs (zs (zr (zR 2 ((82, .bool false) :: (81, vP bi 0) :: _) hA rfl fun a hA => zn (zx (cd_cond_f hA rfl (zk (zx (zs (zs (zr (zR 1 ((84, vP b1 0) :: _) hA rfl fun a hA => zL hA hS 2 rfl rfl rfl rfl rfl rfl rfl rfl rfl fun a hA => zn (zx (zb (zs (zr (zR 2 ((86, .bool true) :: (87, .bool true) :: _) hA rfl fun a hA => zn (zx (cd_cond_t hA rfl (zs (zr (zR 1 ((89, vP bi 0) :: _) hA rfl fun a hA => ?_)))))))))))))))))))))))
 replace hS := hS.m8.m8.m6
 refine st_call0 hA rfl rfl rfl isfn42 rfl rfl (by decide) (nworkX42 hS hNi hs.fo hc) ?_
 clear hA hS; rintro _ w4 a ⟨Li2, psq, Aq, cq, Cq, O2, D2, hN2, hO2, hOq, hKq, hX2, rfl, hS⟩ hA
 refine zR 5 ((12, .bool true) :: (11, .slice Aq psq.length cq) :: (92, .bool true) :: (91, .slice Aq psq.length cq) :: (88, .tuple #[.slice Aq psq.length cq, .bool true]) :: _) hA rfl fun a hA => zn (zx (zs (zs (zr (zR 2 ((94, .bool false) :: (93, .bool true) :: _) hA rfl fun a hA => zn (zx (cd_cond_f hA rfl (zk (zx (zs (zr (zR 2 ((97, .slice Aq psq.length cq) :: (96, vP b 0) :: _) hA rfl fun a hA => ?_))))))))))))
 replace hS := hS.m3.m2.m9.m5
 refine st_call0 hA rfl rfl rfl isfn34 rfl rfl (by decide) (ssend34 hS (hs.fw.dx hX2) hOq hKq hsc.1 hsc.2) ?_
 clear hA hS; rintro _ w5 a ⟨WL8, Ds7, hW9, hXs6, rfl, hS⟩ hA
 refine zn (zx (zs (zr (zR 1 ((4, .nilIface) :: _) hA rfl fun a hA => zn (zx ?_)))))
 refine wp_ret (xb_ret (xt_ret ?_))
 refine ret1 (fn := Tryz.f15) hA rfl rfl ?_
 replace hS := hS.d6.m4.m2.m7.m5.m7.m7.m6
 replace hS : St w0 w5 (((b, rowO [.slice A bs.length c, vP bw 0] 77) :: (C ++ ((La ++ (Li2 ++ Lb)) ++ (WL8 ++ O2)))) :: Ds7 :: F) := hS.cast (by simp)
 exact ⟨_, _, ⟨bw, bo, bs, A, c, C, _, _, _, ⟨hback _ _ _ (hX2.trans hXs6) (NOD.dx hN2 hXs6), hW9, hO2, hs.fr⟩, rfl⟩, (hX2.trans hXs6), rfl, hS⟩
set_option maxHeartbeats 4000000 in
theorem do_work_f15 {w0 w : World} {F : List Chunk} {b : Nat} {ts : List Nat} {s : SY} {L D : Chunk} {s' : SY} {i : Nat} (hS : St w0 w (L :: D :: F)) (hY : SYS w0 b ts s L D) (hM : workM ts s i = some (s', false)) :
 Ret Tryz.prog 15 #[vP b 0, .agg #[.int .u8 3, vI i, .int .i64 0]] w (fun v w' => ∃ L' D', SYS w0 b ts s' L' D' ∧ DX w0 D D' ∧ v = .iface 55 (.int .i64 12) ∧ St w0 w' (L' :: D' :: F)) := by
 obtain ⟨bw, bo, bs, A, c, C, NL, WL, OL, hs, rfl⟩ := hY
 replace hS : St w0 w ([(b, rowO [.slice A bs.length c, vP bw 0] 77)] :: C :: NL :: WL :: OL :: D :: F) := hS.cast (by simp)
 obtain ⟨x, x', k', out, hx, hc, hsc, rfl⟩ := workM_some hM
 have hlen := hs.fn.len; obtain ⟨bi, hbi⟩ := get_ex (l := bs) (k := i) (by have h := (List.getElem?_eq_some_iff.1 hx).1; omega)
 obtain ⟨La, Li, Lb, hNLe, hNi, hback⟩ := hs.fn.at_ hbi hx; subst hNLe
 replace hS : St w0 w ([(b, rowO [.slice A bs.length c, vP bw 0] 77)] :: C :: La :: Li :: Lb :: WL :: OL :: D :: F) := hS.cast (by simp)
 refine enter (vs := [vP b 0, .agg #[.int .u8 3, vI i, .int .i64 0]]) 108 Tryz.func15 rfl rfl (by simp) ?_; intro a hA
 refine zs (zr ?_)
 refine st_box hA hS [.int .u8 3, vI i, .int .i64 0] rfl rfl rfl rfl rfl (by decide) fun b1 w2 a hS hA => ?_
 refine zR 1 ((4, .nilIface) :: _) hA rfl fun a hA => zn (zx (zs (zs (zr (zR 1 ((13, vP b1 0) :: _) hA rfl fun a hA => zL hA hS 0 rfl rfl rfl rfl rfl rfl rfl rfl rfl fun a hA => zn (zx (zb (zs (zr (zR 2 ((15, .bool false) :: (16, .bool false) :: _) hA rfl fun a hA => zn (zx (cd_cond_f hA rfl (zs (zr (zR 2 ((41, .bool false) :: (42, .bool false) :: _) hA rfl fun a hA => zn (zx (cd_cond_f hA rfl (zs (zr (zR 2 ((52, .bool false) :: (53, .bool false) :: _) hA rfl fun a hA => zn (zx (cd_cond_f hA rfl (zs (zr (zR 2 ((61, .bool false) :: (62, .bool false) :: _) hA rfl fun a hA => zn (zx (cd_cond_f hA rfl (zk (zm (zx (zs (zr (zR 2 ((78, vP b1 1) :: (77, vP b 0) :: _) hA rfl fun a hA => zL hA hS 0 rfl rfl rfl rfl rfl rfl rfl rfl rfl fun a hA => ?_)))))))))))))))))))))))))))))))))
 replace hS := hS.m2.m2
 refine st_call0 hA rfl rfl rfl isfn31 rfl rfl (by decide) (sat31 (i := i) hS hs.fr hbi) ?_
 clear hA hS; rintro _ w3 a ⟨rfl, hS⟩ hA
 refine zR 1 ((10, vP bi 0) :: _) hA rfl fun a hA => zn (zx (zs (zs (zr (zR 2 ((82, .bool false) :: (81, vP bi 0) :: _) hA rfl fun a hA => zn (zx (cd_cond_f hA rfl (zk (zx (zs (zs (zr (zR 1 ((84, vP b1 0) :: _) hA rfl fun a hA => zL hA hS 2 rfl rfl rfl rfl rfl rfl rfl rfl rfl fun a hA => zn (zx (zb (zs (zr (zR 2 ((86, .bool true) :: (87, .bool true) :: _) hA rfl fun a hA => zn (zx (cd_cond_t hA rfl (zs (zr (zR 1 ((89, vP bi 0) :: _) hA rfl fun a hA => ?_)))))))))))))))))))))))
 replace hS := hS.m8.m8.m6
 refine st_call0 hA rfl rfl rfl isfn42 rfl rfl (by decide) (nworkX42 hS hNi hs.fo hc) ?_
 clear hA hS; rintro _ w4 a ⟨Li2, psq, Aq, cq, Cq, O2, D2, hN2, hO2, hOq, hKq, hX2, rfl, hS⟩ hA
 refine zR 5 ((12, .bool false) :: (11, .slice Aq psq.length cq) :: (92, .bool false) :: (91, .slice Aq psq.length cq) :: (88, .tuple #[.slice Aq psq.length cq, .bool false]) :: _) hA rfl fun a hA => zn (zx (zs (zs (zr (zR 2 ((94, .bool true) :: (93, .bool false) :: _) hA rfl fun a hA => zn (zx (cd_cond_t hA rfl (zs (zr (zR 2 ((4, .iface 55 (.int .i64 12)) :: (95, .iface 55 (.int .i64 12)) :: _) hA rfl fun a hA => zn (zx ?_)))))))))))
 refine wp_ret (xt_ret (xb_ret (xt_ret ?_)))
 refine ret1 (fn := Tryz.f15) hA rfl rfl ?_
 replace hS := hS.d6.d1.m7.m7.m2.m7.m7.m7
 replace hS : St w0 w4 (((b, rowO [.slice A bs.length c, vP bw 0] 77) :: (C ++ ((La ++ (Li2 ++ Lb)) ++ (WL ++ O2)))) :: D2 :: F) := hS.cast (by simp)
 rw [show (if false = true then out else []) = [] from rfl, List.append_nil]
 exact ⟨_, _, ⟨bw, bo, bs, A, c, C, _, _, _, ⟨hback _ _ _ hX2 (NOD.dx hN2 DX.refl), hs.fw.dx hX2, hO2, hs.fr⟩, rfl⟩, hX2, rfl, hS⟩
end Go.Proofs.YthiakdmhpfkjbaaGreatDoor

set_option linter.unusedVariables false
set_option linter.unusedSimpArgs false
set_option maxRecDepth 4000
namespace Go.Proofs.YthiakdmhpfkjbaaGreatDoor
open Go Go.SK
set_option maxHeartbeats 4000000 in
theorem do_tick15 {w0 w : World} {F : List Chunk} {b : Nat} {ts : List Nat} {s : SY} {L D : Chunk} {s' : SY} (hS : St w0 w (L :: D :: F)) (hY : SYS w0 b ts s L D) (hM : ticksM s s.nx.length = some s') :
 Ret Tryz.prog 15 #[vP b 0, .agg #[.int .u8 4, .int .i64 0, .int .i64 0]] w (fun v w' => ∃ L' D', SYS w0 b ts s' L' D' ∧ DX w0 D D' ∧ v = .nilIface ∧ St w0 w' (L' :: D' :: F)) := by
 obtain ⟨bw, bo, bs, A, c, C, NL, WL, OL, hs, rfl⟩ := hY
 replace hS : St w0 w ([(b, rowO [.slice A bs.length c, vP bw 0] 77)] :: C :: NL :: WL :: OL :: D :: F) := hS.cast (by simp)
 have hbsl := hs.fn.len; have hcapb := hs.fr.rcap
 refine enter (vs := [vP b 0, .agg #[.int .u8 4, .int .i64 0, .int .i64 0]]) 108 Tryz.func15 rfl rfl (by simp) ?_; intro a hA
 refine zs (zr ?_)
 refine st_box hA hS [.int .u8 4, .int .i64 0, .int .i64 0] rfl rfl rfl rfl rfl (by decide) fun b1 w2 a hS hA => ?_
 refine zR 1 ((4, .nilIface) :: _) hA rfl fun a hA => zn (zx (zs (zs (zr (zR 1 ((13, vP b1 0) :: _) hA rfl fun a hA => zL hA hS 0 rfl rfl rfl rfl rfl rfl rfl rfl rfl fun a hA => zn (zx (zb (zs (zr (zR 2 ((15, .bool false) :: (16, .bool false) :: _) hA rfl fun a hA => zn (zx (cd_cond_f hA rfl (zs (zr (zR 2 ((41, .bool false) :: (42, .bool false) :: _) hA rfl fun a hA => zn (zx (cd_cond_f hA rfl (zs (zr (zR 2 ((52, .bool false) :: (53, .bool false) :: _) hA rfl fun a hA => zn (zx (cd_cond_f hA rfl (zs (zr (zR 2 ((61, .bool true) :: (62, .bool true) :: _) hA rfl fun a hA => zn (zx (cd_cond_t hA rfl (zs (zs (zr (zR 3 ((65, vP b 0) :: (64, vP b 0) :: (63, vP b 0) :: _) hA rfl fun a hA => zL hA hS 1 rfl rfl rfl rfl rfl rfl rfl rfl rfl fun a hA => zR 2 ((68, .int .i64 0) :: (67, vI bs.length) :: _) hA rfl fun a hA => zn (zx (zb ?_)))))))))))))))))))))))))))))))))
 replace hS := hS.d0
 refine wp_loop_ghost (fun m a w => ∃ (j : Nat) (sj : SY) (NL' : Chunk) (WL' : Chunk) (OL' : Chunk) (D' : Chunk), m = bs.length - j ∧ Has a 108 [(0, vP b 0), (66, .slice A bs.length c), (67, vI bs.length), (68, vI j)] ∧ St w0 w ([(b, rowO [.slice A bs.length c, vP bw 0] 77)] :: C :: NL' :: WL' :: OL' :: D' :: F) ∧ (j ≤ bs.length) ∧ (ticksM s j = some sj) ∧ (SYS0 w0 ts sj D' bw bo bs A c C NL' WL' OL') ∧ (DX w0 D D')) (bs.length - 0)
  ⟨0, s, NL, WL, OL, D, rfl, (hA.sel [0, 66, 67, 68] rfl), hS, Nat.zero_le _, rfl, hs, DX.refl⟩ ?_
 clear hA hS; rintro m0 a w3 ⟨j, sj, NL', WL', OL', D', rfl, hA, hS, hj, hTj, hsj, hX⟩
 refine zs (zr (zR 1 ((69, .bool (decide (((j : Nat) : Int) < ((bs.length : Nat) : Int)))) :: _) hA rfl fun a hA => zn (zx (zs ?_))))
 by_cases hc4 : ((j : Nat) : Int) < ((bs.length : Nat) : Int)
 · first
   | (exfalso; omega)
   | (replace hA := hA.rw 69 (v' := .bool true) rfl (vb_true hc4)
      refine cd_cond_t hA rfl (zk (zx (zs (zb (zs (zr ?_))))))
      obtain ⟨sj2, hTj2⟩ := ticksM_le hM (j + 1) (by omega)
      have hTj3 := hTj2; rw [ticksM, hTj] at hTj3
      obtain ⟨x, x', out, hx, hc, hsc, rfl⟩ := tick1M_some hTj3
      have hlen := hsj.fn.len; obtain ⟨bi, hbi⟩ := get_ex (l := bs) (k := j) (by omega)
      obtain ⟨La, Li, Lb, hNLe, hNi, hback⟩ := hsj.fn.at_ hbi hx; subst hNLe
      replace hS : St w0 w3 ([(b, rowO [.slice A bs.length c, vP bw 0] 77)] :: C :: La :: Li :: Lb :: WL' :: OL' :: D' :: F) := hS.cast (by simp)
      obtain ⟨b5, o6, rfl⟩ := hs.fr.isSome (k := j) (by omega)
      refine st_val hA rfl rfl (by decide) (rn_indexAddr tbOk hA j (o6 + j) rfl rfl rfl rfl rfl rfl (by rfl) (by omega) (by first | rfl | simp [Nat.mul_one, Nat.zero_add] | omega)) fun a hA => st_val hA rfl rfl (by decide) (rn_load tbOk hA rfl rfl rfl rfl ((hs.fr.rd (hS.own_ 1 rfl)).elem0 (k := j) encPt_ok hbi rfl)) fun a hA => zR 1 ((9, vP bi 0) :: _) hA rfl fun a hA => zn (zx (zr (zR 2 ((73, vP bi 0) :: (72, vP b 0) :: _) hA rfl fun a hA => ?_)))
      replace hS := hS.m7.m4
      refine st_call0 hA rfl rfl rfl isfn41 rfl rfl (by decide) (ntickX41 hS hNi hc) ?_
      clear hA hS; rintro _ w7 a ⟨Li2, psq, Aq, cq, Cq, D2, hN2, hOq, hKq, hX2, rfl, hS⟩ hA
      replace hS := hS.m2.m2.m7.m4
      refine st_call0 hA rfl rfl rfl isfn34 rfl rfl (by decide) (ssend34 hS (hsj.fw.dx hX2) hOq hKq hsc.1 hsc.2) ?_
      clear hA hS; rintro _ w8 a ⟨WL11, Ds10, hW12, hXs9, rfl, hS⟩ hA
      refine zn (zm (zx (zr (zR 1 ((76, .int .i64 (IntKind.i64.wrap (((j : Nat) : Int) + 1))) :: _) hA rfl fun a hA => ?_))))
      replace hA := hA.rw 76 (v' := vI (j + 1)) rfl (wr64 (by omega) (by omega) (by omega))
      refine zR 1 ((68, vI (j + 1)) :: _) hA rfl fun a hA => zn ?_
      replace hS := hS.m7.m2.m7.m5.m7.m7.m6
      replace hS : St w0 w8 ([(b, rowO [.slice (some ⟨b5, o6, none⟩) bs.length c, vP bw 0] 77)] :: C :: (La ++ (Li2 ++ Lb)) :: WL11 :: OL' :: Ds10 :: F) := hS.cast (by simp)
      have hs9 : SYS0 w0 ts { sj with nx := sj.nx.set j x', wi := sj.wi ++ out } Ds10 bw bo bs _ c C _ WL11 OL' := ⟨hback _ _ _ (hX2.trans hXs9) (NOD.dx hN2 hXs9), hW12, hsj.fo, hsj.fr⟩
      exact lp_next _ (by omega) ⟨(j + 1), ({ sj with nx := sj.nx.set j x', wi := sj.wi ++ out }), (La ++ (Li2 ++ Lb)), WL11, OL', Ds10, rfl, (hA.sel [0, 66, 67, 68] rfl), hS, by omega, hTj2, hs9, (hX.trans (hX2.trans hXs9))⟩)
 · first
   | (exfalso; omega)
   | (replace hA := hA.rw 69 (v' := .bool false) rfl (vb_false hc4)
      refine cd_cond_f hA rfl ?_
      refine wp_exit ?_
      refine xt_exit (xt_exit (cd_exit_eq (zx (zs (zr (zR 1 ((4, .nilIface) :: _) hA rfl fun a hA => zn (zx ?_)))))))
      refine wp_ret (xb_ret (xt_ret ?_))
      refine ret1 (fn := Tryz.f15) hA rfl rfl ?_
      have hj9 : j = s.nx.length := by omega
      subst hj9; rw [hM] at hTj; injection hTj with hTj; subst hTj
      replace hS : St w0 w3 (_ :: D' :: F) := (hS.cast (by simp) : St w0 w3 (((b, rowO [.slice A bs.length c, vP bw 0] 77) :: (C ++ (NL' ++ (WL' ++ OL')))) :: D' :: F))
      exact ⟨_, _, ⟨bw, bo, bs, _, c, C, _, _, _, hsj, rfl⟩, hX, rfl, hS⟩)
end Go.Proofs.YthiakdmhpfkjbaaGreatDoor

set_option linter.unusedVariables false
set_option linter.unusedSimpArgs false
set_option maxRecDepth 4000
namespace Go.Proofs.YthiakdmhpfkjbaaGreatDoor
open Go Go.SK
section
variable {Q : Exit → Act → World → Prop} {a : Act} {w : World}
theorem xs_ret (h : Q .ret a w) : Exit.noGoto Q .ret a w := h
end
def worksM (ts : List Nat) (s : SY) : Nat → Nat → Option (SY × Bool)
  | 0, _ => some (s, false)
  | m + 1, i => match workM ts s i with
    | none => none
    | some (s', true) => some (s', true)
    | some (s', false) => worksM ts s' m (i + 1)
def settleM (ts : List Nat) : Nat → SY → Nat → Nat → Option (SY × Nat)
  | 0, _, _, _ => none
  | f + 1, s, d, lim =>
    if d < lim then
      match s.wi with
      | [] => match worksM ts s s.nx.length 0 with
        | none => none
        | some (s', true) => settleM ts f s' (d + 1) lim
        | some (s', false) => some (s', d)
      | _ :: _ => match arrM s with
        | none => none
        | some s' => settleM ts f s' (d + 1) lim
    else some (s, d)
theorem worksM_cases {ts : List Nat} {s s1 : SY} {m i : Nat} {ok : Bool} (h : worksM ts s m i = some (s1, ok)) : (m = 0 ∧ s1 = s ∧ ok = false) ∨ (∃ m', m = m' + 1 ∧ workM ts s i = some (s1, true) ∧ ok = true) ∨ (∃ m' s2, m = m' + 1 ∧ workM ts s i = some (s2, false) ∧ worksM ts s2 m' (i + 1) = some (s1, ok)) := by
  cases m with
  | zero => injection h with h; injection h with h1 h2; exact .inl ⟨rfl, h1.symm, h2.symm⟩
  | succ m =>
    rw [worksM] at h
    cases hw : workM ts s i with
    | none => rw [hw] at h; cases h
    | some r =>
      obtain ⟨s2, ok2⟩ := r
      rw [hw] at h
      cases ok2 with
      | true => injection h with h; injection h with h1 h2; subst h1; exact .inr (.inl ⟨m, rfl, rfl, h2.symm⟩)
      | false => exact .inr (.inr ⟨m, s2, rfl, rfl, h⟩)
theorem settleM_cases {ts : List Nat} {f d lim e : Nat} {s s' : SY} (h : settleM ts f s d lim = some (s', e)) : ∃ f2, f = f2 + 1 ∧ ((¬ d < lim ∧ s' = s ∧ e = d) ∨ (d < lim ∧ ∃ s1, arrM s = some s1 ∧ settleM ts f2 s1 (d + 1) lim = some (s', e)) ∨ (d < lim ∧ s.wi = [] ∧ ∃ s1 ok, worksM ts s s.nx.length 0 = some (s1, ok) ∧ ((ok = true ∧ settleM ts f2 s1 (d + 1) lim = some (s', e)) ∨ (ok = false ∧ s' = s1 ∧ e = d)))) := by
  cases f with
  | zero => cases h
  | succ f =>
    refine ⟨f, rfl, ?_⟩
    rw [settleM] at h
    by_cases hd : d < lim
    · rw [if_pos hd] at h
      cases hw : s.wi with
      | nil =>
        rw [hw] at h; dsimp only at h
        cases hk : worksM ts s s.nx.length 0 with
        | none => rw [hk] at h; cases h
        | some r =>
          obtain ⟨s1, ok⟩ := r
          rw [hk] at h
          cases ok with
          | true => exact .inr (.inr ⟨hd, rfl, s1, true, rfl, .inl ⟨rfl, h⟩⟩)
          | false => injection h with h; injection h with h1 h2; exact .inr (.inr ⟨hd, rfl, s1, false, rfl, .inr ⟨rfl, h1.symm, h2.symm⟩⟩)
      | cons p wi =>
        rw [hw] at h; dsimp only at h
        cases ha : arrM s with
        | none => rw [ha] at h; cases h
        | some s1 => rw [ha] at h; exact .inr (.inl ⟨hd, s1, rfl, h⟩)
    · rw [if_neg hd] at h
      injection h with h; injection h with h1 h2
      exact .inl ⟨hd, h1.symm, h2.symm⟩
set_option maxHeartbeats 4000000 in
theorem settle19 {w0 w : World} {F : List Chunk} {b : Nat} {ts : List Nat} {s : SY} {L D : Chunk} {s' : SY} {f d lim : Nat} (hS : St w0 w (L :: D :: F)) (hY : SYS w0 b ts s L D) (hM : settleM ts f s 0 lim = some (s', d)) (hlim : lim < 1000000) :
 Ret Tryz.prog 19 #[vP b 0, vI lim] w (fun v w' => ∃ L' D', SYS w0 b ts s' L' D' ∧ DX w0 D D' ∧ v = vI d ∧ St w0 w' (L' :: D' :: F)) := by
 refine enter (vs := [vP b 0, vI lim]) 33 Tryz.func19 rfl rfl (by simp) ?_; intro a hA
 refine zs (zr (zR 1 ((4, .int .i64 0) :: _) hA rfl fun a hA => zn (zx ?_)))
 refine wp_scope_straight ?_
 refine zs (zr (zR 1 ((5, .int .i64 0) :: _) hA rfl fun a hA => zn (zx (zs ?_))))
 refine wp_label ?_
 refine zx (zs (zb ?_))
 refine wp_loop_ghost (fun m a w => ∃ (f' : Nat) (dj : Nat) (sj : SY) (L' : Chunk) (D' : Chunk), m = f' ∧ Has a 33 [(0, vP b 0), (1, vI lim), (5, vI dj)] ∧ St w0 w (L' :: D' :: F) ∧ (settleM ts f' sj dj lim = some (s', d)) ∧ (SYS w0 b ts sj L' D') ∧ (DX w0 D D')) (f)
  ⟨f, 0, s, L, D, rfl, (hA.sel [0, 1, 5] rfl), hS, hM, hY, DX.refl⟩ ?_
 clear hA hS; rintro m0 a w1 ⟨f', dj, sj, L', D', rfl, hA, hS, hM, hY, hX⟩
 refine zs (zs (zr ?_))
 obtain ⟨f2, rfl, hMc⟩ := settleM_cases hM; clear hM
 rcases hMc with ⟨hlt, e1, e2⟩ | ⟨hlt, s1, ha, hM2⟩ | ⟨hlt, hwi, s1, ok, hW0, hEnd⟩
 · refine zR 3 ((9, .bool (decide (((dj : Nat) : Int) < ((lim : Nat) : Int)))) :: (8, vI lim) :: (7, vI dj) :: _) hA rfl fun a hA => zn (zx ?_)
   have hc2 : ¬ (((dj : Nat) : Int) < ((lim : Nat) : Int)) := by omega
   replace hA := hA.rw 9 (v' := .bool false) rfl (vb_false hc2)
   refine cd_cond_f hA rfl ?_
   refine wp_exit ?_
   refine xt_exit (xt_exit (cd_exit_eq (zx (zs (zr (zR 2 ((4, vI dj) :: (32, vI dj) :: _) hA rfl fun a hA => zn (zx ?_)))))))
   refine wp_ret (xs_ret ?_)
   refine ret1 (fn := Tryz.f19) hA rfl rfl ?_
   rw [e1, e2]
   exact ⟨_, _, hY, hX, rfl, hS⟩
 · refine zR 3 ((9, .bool (decide (((dj : Nat) : Int) < ((lim : Nat) : Int)))) :: (8, vI lim) :: (7, vI dj) :: _) hA rfl fun a hA => zn (zx ?_)
   have hc3 : ((dj : Nat) : Int) < ((lim : Nat) : Int) := by omega
   replace hA := hA.rw 9 (v' := .bool true) rfl (vb_true hc3)
   refine cd_cond_t hA rfl (zk (zx (zb (zs (zs (zr (zR 2 ((11, .agg #[.int .u8 0, .int .i64 0, .int .i64 0]) :: (10, vP b 0) :: _) hA rfl fun a hA => ?_)))))))
   refine st_call0 hA rfl rfl rfl isfn15 rfl rfl (by decide) (do_arr15 hS hY ha) ?_
   clear hA hS; rintro _ w4 a ⟨L2, D2, hY2, hX2, rfl, hS⟩ hA
   refine zR 1 ((13, .bool true) :: _) hA rfl fun a hA => zn (zx (cd_cond_t hA rfl (zs (zr (zR 2 ((15, .int .i64 (IntKind.i64.wrap (((dj : Nat) : Int) + 1))) :: (14, vI dj) :: _) hA rfl fun a hA => ?_)))))
   replace hA := hA.rw 15 (v' := vI (dj + 1)) rfl (wr64 (by omega) (by omega) (by omega))
   refine zR 1 ((5, vI (dj + 1)) :: _) hA rfl fun a hA => zn (zx ?_)
   refine wp_exit ?_
   refine xt_exit (cd_exit_eq ?_)
   exact lp_next _ (by omega) ⟨f2, (dj + 1), s1, L2, D2, rfl, (hA.sel [0, 1, 5] rfl), hS, hM2, hY2, (hX.trans hX2)⟩
 · refine zR 3 ((9, .bool (decide (((dj : Nat) : Int) < ((lim : Nat) : Int)))) :: (8, vI lim) :: (7, vI dj) :: _) hA rfl fun a hA => zn (zx ?_)
   have hc5 : ((dj : Nat) : Int) < ((lim : Nat) : Int) := by omega
   replace hA := hA.rw 9 (v' := .bool true) rfl (vb_true hc5)
   refine cd_cond_t hA rfl (zk (zx (zb (zs (zs (zr (zR 2 ((11, .agg #[.int .u8 0, .int .i64 0, .int .i64 0]) :: (10, vP b 0) :: _) hA rfl fun a hA => ?_)))))))
   refine st_call0 hA rfl rfl rfl isfn15 rfl rfl (by decide) (do_arr015 hS hY hwi) ?_
   clear hA hS; rintro _ w6 a ⟨L2, hY2, rfl, hS⟩ hA
   refine zR 1 ((13, .bool false) :: _) hA rfl fun a hA => zn (zx (cd_cond_f hA rfl (zk (zx (zs (zs (zr ?_)))))))
   obtain ⟨bw, bo, bs, A, c, C, NL, WL, OL, hs, rfl⟩ := hY2; have hlen := hs.fn.len; have hcapb := hs.fr.rcap
   replace hS : St w0 w6 ([(b, rowO [.slice A bs.length c, vP bw 0] 77)] :: C :: NL :: WL :: OL :: D' :: F) := hS.cast (by simp)
   refine zR 3 ((18, vP b 0) :: (17, vP b 0) :: (16, vP b 0) :: _) hA rfl fun a hA => zL hA hS 0 rfl rfl rfl rfl rfl rfl rfl rfl rfl fun a hA => zR 1 ((20, vI bs.length) :: _) hA rfl fun a hA => ?_
   replace hA := hA.rw 20 (v' := vI sj.nx.length) rfl (by rw [hlen])
   refine zR 1 ((21, .int .i64 0) :: _) hA rfl fun a hA => zn (zx (zb ?_))
   replace hS : St w0 w6 (((b, rowO [.slice A bs.length c, vP bw 0] 77) :: (C ++ (NL ++ (WL ++ OL)))) :: D' :: F) := hS.cast (by simp)
   have hY9 := (show SYS w0 b ts sj _ D' from ⟨bw, bo, bs, A, c, C, _, _, _, ⟨NDS.dx DX.refl hs.fn, hs.fw, hs.fo, hs.fr⟩, rfl⟩)
   replace hS : St w0 w6 (_ :: D' :: F) := hS; revert hS hY9; generalize ((b, rowO [.slice A bs.length c, vP bw 0] 77) :: (C ++ (NL ++ (WL ++ OL)))) = L9; intro hY9 hS
   refine wp_loop_ghost (fun m a w => ∃ (i : Nat) (si : SY) (Li : Chunk) (Di : Chunk), m = sj.nx.length - i ∧ Has a 33 [(0, vP b 0), (1, vI lim), (5, vI dj), (20, vI sj.nx.length), (21, vI i)] ∧ St w0 w (Li :: Di :: F) ∧ (i ≤ sj.nx.length) ∧ (worksM ts si (sj.nx.length - i) i = some (s1, ok)) ∧ (SYS w0 b ts si Li Di) ∧ (DX w0 D' Di)) (sj.nx.length - 0)
    ⟨0, sj, L9, D', rfl, (hA.sel [0, 1, 5, 20, 21] rfl), hS, Nat.zero_le _, hW0, hY9, DX.refl⟩ ?_
   clear hA hS; rintro m0 a w7 ⟨i, si, Li, Di, rfl, hA, hS, hi, hW, hYi, hXi⟩
   refine zs (zr ?_)
   rcases worksM_cases hW with ⟨hm0, rfl, rfl⟩ | ⟨m2, hm0, hw, rfl⟩ | ⟨m2, s2, hm0, hw, hW2⟩
   · obtain ⟨hf, _⟩ | ⟨_, e1, e2⟩ := hEnd; cases hf
     refine zR 1 ((22, .bool (decide (((i : Nat) : Int) < ((sj.nx.length : Nat) : Int)))) :: _) hA rfl fun a hA => zn (zx (zs ?_))
     have hc8 : ¬ (((i : Nat) : Int) < ((sj.nx.length : Nat) : Int)) := by omega
     replace hA := hA.rw 22 (v' := .bool false) rfl (vb_false hc8)
     refine cd_cond_f hA rfl ?_
     refine wp_exit ?_
     refine xt_exit (xt_exit (cd_exit_eq (zx ?_)))
     refine wp_exit ?_
     refine cd_exit_ne (by decide) (xt_exit (cd_exit_eq (zx (zs (zr (zR 2 ((4, vI dj) :: (32, vI dj) :: _) hA rfl fun a hA => zn (zx ?_)))))))
     refine wp_ret (xs_ret ?_)
     refine ret1 (fn := Tryz.f19) hA rfl rfl ?_
     rw [e1, e2]
     exact ⟨_, _, hYi, (hX.trans hXi), rfl, hS⟩
   · obtain ⟨_, hM2⟩ | ⟨hf, _⟩ := hEnd; rotate_left; cases hf
     refine zR 1 ((22, .bool (decide (((i : Nat) : Int) < ((sj.nx.length : Nat) : Int)))) :: _) hA rfl fun a hA => zn (zx (zs ?_))
     have hc9 : ((i : Nat) : Int) < ((sj.nx.length : Nat) : Int) := by omega
     replace hA := hA.rw 22 (v' := .bool true) rfl (vb_true hc9)
     refine cd_cond_t hA rfl (zk (zx (zs (zb (zs (zr (zR 2 ((6, vI i) :: (23, vI i) :: _) hA rfl fun a hA => zn (zx (zs (zr (zR 3 ((26, .agg #[.int .u8 3, vI i, .int .i64 0]) :: (25, vI i) :: (24, vP b 0) :: _) hA rfl fun a hA => ?_)))))))))))
     refine st_call0 hA rfl rfl rfl isfn15 rfl rfl (by decide) (do_work_t15 hS hYi hw) ?_
     clear hA hS; rintro _ w10 a ⟨L4, D4, hY4, hX4, rfl, hS⟩ hA
     refine zR 1 ((28, .bool true) :: _) hA rfl fun a hA => zn (zx (cd_cond_t hA rfl (zs (zr (zR 2 ((30, .int .i64 (IntKind.i64.wrap (((dj : Nat) : Int) + 1))) :: (29, vI dj) :: _) hA rfl fun a hA => ?_)))))
     replace hA := hA.rw 30 (v' := vI (dj + 1)) rfl (wr64 (by omega) (by omega) (by omega))
     refine zR 1 ((5, vI (dj + 1)) :: _) hA rfl fun a hA => zn (zx ?_)
     refine wp_exit ?_
     refine cd_exit_ne (by decide) (xt_exit (xt_exit (cd_exit_ne (by decide) (xt_exit (cd_exit_eq ?_)))))
     exact lp_next _ (by omega) ⟨f2, (dj + 1), s1, L4, D4, rfl, (hA.sel [0, 1, 5] rfl), hS, hM2, hY4, (hX.trans (hXi.trans hX4))⟩
   · refine zR 1 ((22, .bool (decide (((i : Nat) : Int) < ((sj.nx.length : Nat) : Int)))) :: _) hA rfl fun a hA => zn (zx (zs ?_))
     have hc11 : ((i : Nat) : Int) < ((sj.nx.length : Nat) : Int) := by omega
     replace hA := hA.rw 22 (v' := .bool true) rfl (vb_true hc11)
     refine cd_cond_t hA rfl (zk (zx (zs (zb (zs (zr (zR 2 ((6, vI i) :: (23, vI i) :: _) hA rfl fun a hA => zn (zx (zs (zr (zR 3 ((26, .agg #[.int .u8 3, vI i, .int .i64 0]) :: (25, vI i) :: (24, vP b 0) :: _) hA rfl fun a hA => ?_)))))))))))
     refine st_call0 hA rfl rfl rfl isfn15 rfl rfl (by decide) (do_work_f15 hS hYi hw) ?_
     clear hA hS; rintro _ w12 a ⟨L4, D4, hY4, hX4, rfl, hS⟩ hA
     refine zR 1 ((28, .bool false) :: _) hA rfl fun a hA => zn (zx (cd_cond_f hA rfl (zk (zm (zx (zr (zR 1 ((31, .int .i64 (IntKind.i64.wrap (((i : Nat) : Int) + 1))) :: _) hA rfl fun a hA => ?_)))))))
     replace hA := hA.rw 31 (v' := vI (i + 1)) rfl (wr64 (by omega) (by omega) (by omega))
     refine zR 1 ((21, vI (i + 1)) :: _) hA rfl fun a hA => zn ?_
     exact lp_next _ (by omega) ⟨(i + 1), s2, L4, D4, rfl, (hA.sel [0, 1, 5, 20, 21] rfl), hS, by omega, (show worksM ts s2 (sj.nx.length - (i + 1)) (i + 1) = some (s1, ok) by rw [show sj.nx.length - (i + 1) = m2 by omega]; exact hW2), hY4, (hXi.trans hX4)⟩
end Go.Proofs.YthiakdmhpfkjbaaGreatDoor

set_option linter.unusedVariables false
set_option linter.unusedSimpArgs false
set_option maxRecDepth 4000
namespace Go.Proofs.YthiakdmhpfkjbaaGreatDoor
open Go Go.SK
def encKi (x : Nat) : List Value := [vI x]
theorem encKi_ok : Enc encKi 1 := ⟨fun _ => rfl, fun x u hu => by simp only [encKi, List.mem_cons, List.not_mem_nil, or_false] at hu; rcases hu with rfl <;> rfl⟩
def kNC (c : NC) (j ki n : Nat) : NC := ⟨j, ki, n, c.pc, c.wa, c.tr, c.ag, c.pg, c.ro, 0, 0, 0, 0, 0, 0, 0, 0⟩
def bootM (c : NC) (en : List (Nat × Nat × Nat)) (ts : List Nat) (k : Nat) : Option (NX × List (Nat × Nat × Nat) × Nat) :=
  match ts[k]?, ts[k + 1]? with
  | some g, some rp =>
    if g < 281474976710656 ∧ (∀ x ∈ en, ¬ (x.1 = 0 ∧ x.2.1 = g % 281474976710656)) ∧ en.length ≤ 900 ∧ 1 ≤ c.wa ∧ 1 ≤ c.tr ∧ 1 ≤ c.ag ∧ c.ro ≤ 64 then
      if c.ki = 0 then some (.up ⟨⟨c.id, 0, c.no, c.pc, c.wa, c.tr, c.ag, c.pg, c.ro, c.now, c.sent, rp, 0, 0, 0, 0, 0⟩, [], [], [], [], [], [], []⟩ .none, en ++ [(0, g % 281474976710656, rp)], k + 1 + 1)
      else
        match ts[k + 1 + 1]?, ts[k + 1 + 1 + 1]?, ts[k + 1 + 1 + 1 + 1]? with
        | some g2, some po, some x =>
          if g2 < 281474976710656 ∧ (∀ x ∈ en ++ [(0, g % 281474976710656, rp)], ¬ (x.1 = 0 ∧ x.2.1 = g2 % 281474976710656)) then
            if c.ki = 1 ∧ c.pg = 10 then some (.up ⟨⟨c.id, 1, c.no, c.pc, c.wa, c.tr, c.ag, 10, c.ro, c.now, c.sent, rp, po, po, 0, 255, x⟩, [], [], [], [], [], [], []⟩ .other, en ++ [(0, g % 281474976710656, rp)] ++ [(0, g2 % 281474976710656, po)], k + 1 + 1 + 1 + 1 + 1)
            else if c.ki = 2 then some (.up ⟨⟨c.id, 2, c.no, c.pc, c.wa, c.tr, c.ag, c.pg, c.ro, c.now, c.sent, rp, po, po, 0, 255, x⟩, [], [], [], [], [], [], []⟩ .other, en ++ [(0, g % 281474976710656, rp)] ++ [(0, g2 % 281474976710656, po)], k + 1 + 1 + 1 + 1 + 1)
            else if c.ki = 3 then some (.up ⟨⟨c.id, 3, c.no, c.pc, c.wa, c.tr, c.ag, c.pg, c.ro, c.now, c.sent, rp, po, po, 0, 255, x⟩, [], [], [], [], [], [], []⟩ (.file [(true, x, 0, -1, 24)] [] 0 0), en ++ [(0, g % 281474976710656, rp)] ++ [(0, g2 % 281474976710656, po)], k + 1 + 1 + 1 + 1 + 1)
            else none
          else none
        | _, _, _ => none
    else none
  | _, _ => none
theorem bootX29 {w0 w : World} {F : List Chunk} {b bo : Nat} {c : NC} {L D O : Chunk} {en en' : List (Nat × Nat × Nat)} {ts : List Nat} {k k' : Nat} {x' : NX} (hS : St w0 w (L :: O :: F)) (hN : NOD w0 b bo (.down c) L D) (hO : ORR bo en ts k O) (h : bootM c en ts k = some (x', en', k')) :
    Ret Tryz.prog 29 #[vP b 0] w (fun v w' => ∃ L' O', NOD w0 b bo x' L' D ∧ ORR bo en' ts k' O' ∧ v = .nilIface ∧ St w0 w' (L' :: O' :: F)) := by
  have hL : L = _ := hN
  subst hL
  rw [bootM] at h
  cases hg : ts[k]? with
  | none => rw [hg] at h; cases h
  | some g =>
    rw [hg] at h
    cases hp : ts[k + 1]? with
    | none => rw [hp] at h; cases h
    | some rp =>
      rw [hp] at h; dsimp only at h
      by_cases hc : g < 281474976710656 ∧ (∀ x ∈ en, ¬ (x.1 = 0 ∧ x.2.1 = g % 281474976710656)) ∧ en.length ≤ 900 ∧ 1 ≤ c.wa ∧ 1 ≤ c.tr ∧ 1 ≤ c.ag ∧ c.ro ≤ 64
      · rw [if_pos hc] at h
        obtain ⟨c1, c2, c3, c4, c5, c6, c7⟩ := hc
        by_cases k0 : c.ki = 0
        · rw [if_pos k0] at h
          injection h with h; injection h with e1 h; injection h with e2 e3; subst e1; subst e2; subst e3
          rw [k0] at hS
          exact nboot0_29 hS hO hg hp c1 c2 c3 c4 c5 c6 c7
        · rw [if_neg k0] at h
          cases h2 : ts[k + 1 + 1]? with
          | none => rw [h2] at h; cases h
          | some g2 =>
            rw [h2] at h
            cases h3 : ts[k + 1 + 1 + 1]? with
            | none => rw [h3] at h; cases h
            | some po =>
              rw [h3] at h
              cases h4 : ts[k + 1 + 1 + 1 + 1]? with
              | none => rw [h4] at h; cases h
              | some x =>
                rw [h4] at h; dsimp only at h
                by_cases hd : g2 < 281474976710656 ∧ (∀ x ∈ en ++ [(0, g % 281474976710656, rp)], ¬ (x.1 = 0 ∧ x.2.1 = g2 % 281474976710656))
                · rw [if_pos hd] at h
                  by_cases k1 : c.ki = 1 ∧ c.pg = 10
                  · rw [if_pos k1] at h
                    injection h with h; injection h with e1 h; injection h with e2 e3; subst e1; subst e2; subst e3
                    rw [k1.1, k1.2] at hS
                    exact nboot1_29 hS hO hg hp c1 c2 c3 c4 c5 c6 c7 h2 h3 h4 hd.1 hd.2
                  · rw [if_neg k1] at h
                    by_cases k2 : c.ki = 2
                    · rw [if_pos k2] at h
                      injection h with h; injection h with e1 h; injection h with e2 e3; subst e1; subst e2; subst e3
                      rw [k2] at hS
                      exact nboot2_29 hS hO hg hp c1 c2 c3 c4 c5 c6 c7 h2 h3 h4 hd.1 hd.2
                    · rw [if_neg k2] at h
                      by_cases k3 : c.ki = 3
                      · rw [if_pos k3] at h
                        injection h with h; injection h with e1 h; injection h with e2 e3; subst e1; subst e2; subst e3
                        rw [k3] at hS
                        exact nboot3_29 hS hO hg hp c1 c2 c3 c4 c5 c6 c7 h2 h3 h4 hd.1 hd.2
                      · rw [if_neg k3] at h; cases h
                · rw [if_neg hd] at h; cases h
      · rw [if_neg hc] at h; cases h
def ofsM (ks : List Nat) (c : NC) (ts : List Nat) : Nat → Option (List NX × List (Nat × Nat × Nat) × Nat)
  | 0 => some ([], [], 0)
  | j + 1 => match ofsM ks c ts j with
    | none => none
    | some (nx, en, k) => match ks[j]? with
      | none => none
      | some ki => match bootM (kNC c j ki ks.length) en ts k with
        | none => none
        | some (x, en', k') => some (nx ++ [x], en', k')
def ofM (ks : List Nat) (c : NC) (ts : List Nat) : Option SY := (ofsM ks c ts ks.length).map (fun r => ⟨r.1, [], r.2.1, r.2.2⟩)
theorem ofsM_le {ks : List Nat} {c : NC} {ts : List Nat} {n : Nat} {r : List NX × List (Nat × Nat × Nat) × Nat} (h : ofsM ks c ts n = some r) : ∀ j ≤ n, ∃ y, ofsM ks c ts j = some y := by
  induction n generalizing r with
  | zero => intro j hj; obtain rfl : j = 0 := by omega
            exact ⟨r, h⟩
  | succ n ih =>
    intro j hj
    by_cases hjn : j = n + 1
    · subst hjn; exact ⟨r, h⟩
    · rw [ofsM] at h
      cases hm : ofsM ks c ts n with
      | none => rw [hm] at h; cases h
      | some y => exact ih hm j (by omega)
theorem ofsM_some {ks : List Nat} {c : NC} {ts : List Nat} {j k : Nat} {nx : List NX} {en : List (Nat × Nat × Nat)} {y : List NX × List (Nat × Nat × Nat) × Nat} (hj : ofsM ks c ts j = some (nx, en, k)) (h : ofsM ks c ts (j + 1) = some y) : ∃ ki x en' k', ks[j]? = some ki ∧ bootM (kNC c j ki ks.length) en ts k = some (x, en', k') ∧ y = (nx ++ [x], en', k') := by
  rw [ofsM, hj] at h; dsimp only at h
  cases hk : ks[j]? with
  | none => rw [hk] at h; cases h
  | some ki =>
    rw [hk] at h; dsimp only at h
    cases hb : bootM (kNC c j ki ks.length) en ts k with
    | none => rw [hb] at h; cases h
    | some r =>
      obtain ⟨x, en', k'⟩ := r
      rw [hb] at h; injection h with h
      exact ⟨ki, x, en', k', rfl, hb, h.symm⟩
theorem ofM_some {ks : List Nat} {c : NC} {ts : List Nat} {s : SY} (h : ofM ks c ts = some s) : ∃ nx en k, ofsM ks c ts ks.length = some (nx, en, k) ∧ s = ⟨nx, [], en, k⟩ := by
  rw [ofM] at h
  cases hm : ofsM ks c ts ks.length with
  | none => rw [hm] at h; cases h
  | some r =>
    rw [hm] at h; injection h with h
    exact ⟨r.1, r.2.1, r.2.2, rfl, h.symm⟩
theorem ofsM_len {ks : List Nat} {c : NC} {ts : List Nat} : ∀ {j : Nat} {nx : List NX} {en : List (Nat × Nat × Nat)} {k : Nat}, ofsM ks c ts j = some (nx, en, k) → nx.length = j
  | 0, nx, en, k, h => by injection h with h; injection h with h _; subst h; rfl
  | j + 1, nx, en, k, h => by
    obtain ⟨⟨nx0, en0, k0⟩, h0⟩ := ofsM_le h j (by omega)
    obtain ⟨ki, x, en', k', h1, h2, h3⟩ := ofsM_some h0 h
    injection h3 with h3 _; subst h3
    rw [List.length_append, ofsM_len h0]; rfl
set_option maxHeartbeats 4000000 in
theorem of8 {w0 w : World} {F : List Chunk} {ks : List Nat} {kv de : Value} {c : NC} {ts0 ts : List Nat} {s : SY} (hS : St w0 w F) (hk : RdS w0 F 1 kv ks.length (rows encKi ks)) (he : RdS w0 F 1 de ts0.length (rows encW ts0)) (hel : ts0.length ≤ 10000) (hew : ∀ x ∈ ts0, x < 2 ^ 64) (hts : cutl ts0 = ts) (hks1 : 1 ≤ ks.length) (hks2 : ks.length ≤ 8) (hM : ofM ks c ts = some s) :
 Ret Tryz.prog 8 #[kv, .agg #[vI c.no, vI c.pc, vI c.wa, vI c.tr, vI c.ag, vI c.pg, vI c.ro], de] w (fun v w' => ∃ b L, SYS w0 b ts s L [] ∧ v = .tuple #[vP b 0, .nilIface] ∧ St w0 w' (L :: [] :: F)) := by
 obtain ⟨Bk, dk, rfl, hmk, hxk⟩ := (hk _ hS).open'
 obtain ⟨nx, en, k, hof, rfl⟩ := ofM_some hM
 refine enter (vs := [.slice Bk ks.length dk, .agg #[vI c.no, vI c.pc, vI c.wa, vI c.tr, vI c.ag, vI c.pg, vI c.ro], de]) 58 Tryz.func8 rfl rfl (by simp) ?_; intro a hA
 refine zs (zr ?_)
 refine st_box hA hS [vI c.no, vI c.pc, vI c.wa, vI c.tr, vI c.ag, vI c.pg, vI c.ro] rfl rfl rfl rfl rfl (by decide) fun b1 w2 a hS hA => ?_
 refine zR 2 ((7, .nilIface) :: (6, .pointer none) :: _) hA rfl fun a hA => zn (zx (zs (zs (zr (zR 4 ((16, .bool (decide (((ks.length : Nat) : Int) < 1))) :: (15, .bool (decide (((ks.length : Nat) : Int) < 1))) :: (14, vI ks.length) :: (13, .slice Bk ks.length dk) :: _) hA rfl fun a hA => ?_)))))
 have hc3 : ¬ (((ks.length : Nat) : Int) < 1) := by omega
 replace hA := hA.rw 15 (v' := .bool false) rfl (vb_false hc3)
 replace hA := hA.rw 16 (v' := .bool false) rfl (vb_false hc3)
 refine zR 4 ((20, .bool (decide (((ks.length : Nat) : Int) > 8))) :: (19, .bool (decide (((ks.length : Nat) : Int) > 8))) :: (18, vI ks.length) :: (17, .slice Bk ks.length dk) :: _) hA rfl fun a hA => zn (zx ?_)
 have hc4 : ¬ (((ks.length : Nat) : Int) > 8) := by omega
 replace hA := hA.rw 20 (v' := .bool false) rfl (vb_false hc4)
 refine cd_cond_f hA rfl (zk (zx (zs (zr (zR 3 ((24, vP b1 0) :: (23, vI ks.length) :: (22, .slice Bk ks.length dk) :: _) hA rfl fun a hA => ?_)))))
 refine st_store tbOk hA hS [vI ks.length] [vI ks.length, vI c.pc, vI c.wa, vI c.tr, vI c.ag, vI c.pg, vI c.ro] rfl rfl rfl rfl rfl rfl (by intro u hu; rw [List.mem_singleton.1 hu]; rfl) (zle rfl) rfl rfl rfl fun w5 hS => ?_
 refine zn (zx (zs (zr (zR 1 ((25, .agg #[.slice none 0 0]) :: _) hA rfl fun a hA => ?_))))
 refine st_box hA hS [.slice none 0 0] rfl rfl rfl rfl rfl (by decide) fun b6 w7 a hS hA => ?_
 refine zR 1 ((27, .agg #[.slice none 0 0, vP b6 0]) :: _) hA rfl fun a hA => ?_
 refine st_box hA hS [.slice none 0 0, vP b6 0] rfl rfl rfl rfl rfl (by decide) fun b8 w9 a hS hA => ?_
 refine zR 1 ((8, vP b8 0) :: _) hA rfl fun a hA => zn (zx (zs (zr (zR 1 ((29, de) :: _) hA rfl fun a hA => ?_))))
 refine st_call0 hA rfl rfl rfl isfn27 rfl rfl (by decide) (tape_of27 hS (fun w9 h9 => he w9 (h9.tail 3 rfl)) hel hew) ?_
 clear hA hS; rintro _ w10 a ⟨bt, LT, hT, rfl, hS⟩ hA
 refine st_call0 hA rfl rfl rfl isfn26 rfl rfl (by decide) (oracle_of26 hS hT) ?_
 clear hA hS; rintro _ w11 a ⟨bo, OL, hO, rfl, hS⟩ hA; rw [hts] at hO
 refine zR 1 ((9, vP bo 0) :: _) hA rfl fun a hA => zn (zx (zs (zs (zr (zR 3 ((34, .int .i64 0) :: (33, vI ks.length) :: (32, .slice Bk ks.length dk) :: _) hA rfl fun a hA => zn (zx (zb ?_)))))))
 have hks0 : ks.length ≤ 8 := hks2
 replace hS := hS.nil
 replace hS := hS.nil
 replace hS := hS.m4.m2.m2.m4
 refine wp_loop_ghost (fun m a w => ∃ (j : Nat) (nxj : List NX) (enj : List (Nat × Nat × Nat)) (kj : Nat) (bs' : List Nat) (A' : Option Addr) (c' : Nat) (C' : Chunk) (NL' : Chunk) (OL' : Chunk), m = ks.length - j ∧ Has a 58 [(4, vP b1 0), (8, vP b8 0), (9, vP bo 0), (32, .slice Bk ks.length dk), (33, vI ks.length), (34, vI j)] ∧ St w0 w ([(b8, rowO [.slice A' bs'.length c', vP b6 0] 77)] :: C' :: NL' :: [(b6, rowO [.slice none 0 0] 74)] :: OL' :: [(b1, rowO [vI ks.length, vI c.pc, vI c.wa, vI c.tr, vI c.ag, vI c.pg, vI c.ro] 32)] :: F) ∧ (j ≤ ks.length) ∧ (ofsM ks c ts j = some (nxj, enj, kj)) ∧ (NDS w0 bo bs' nxj NL' []) ∧ (ORR bo enj ts kj OL') ∧ (Own 82 1 (.slice A' bs'.length c') bs'.length (rows encPt bs') C')) (ks.length - 0)
  ⟨0, ([]), ([]), 0, ([]), none, 0, ([]), ([]), OL, rfl, (hA.sel [4, 8, 9, 32, 33, 34] rfl), hS, Nat.zero_le _, rfl, rfl, hO, (Own.nil _ _)⟩ ?_
 clear hA hS; rintro m0 a w12 ⟨j, nxj, enj, kj, bs', A', c', C', NL', OL', rfl, hA, hS, hj, hoj, hND, hO, hr⟩
 refine zs (zr (zR 1 ((35, .bool (decide (((j : Nat) : Int) < ((ks.length : Nat) : Int)))) :: _) hA rfl fun a hA => zn (zx (zs ?_))))
 by_cases hc13 : ((j : Nat) : Int) < ((ks.length : Nat) : Int)
 · first
   | (exfalso; omega)
   | (replace hA := hA.rw 35 (v' := .bool true) rfl (vb_true hc13)
      refine cd_cond_t hA rfl (zk (zx (zs (zb (zs (zr ?_))))))
      obtain ⟨y, hof2⟩ := ofsM_le hof (j + 1) (by omega); obtain ⟨ki, x, en', k', hki, hb, rfl⟩ := ofsM_some hoj hof2; have hof3 := hof2; have hbl := hND.len; have hnl : nxj.length = j := ofsM_len hoj
      refine zR 1 ((36, vI j) :: _) hA rfl fun a hA => ?_
      obtain ⟨b14, o15, rfl⟩ := (hk _ (hS.tail 6 rfl)).isSome (k := j) (by omega)
      refine st_val hA rfl rfl (by decide) (rn_indexAddr tbOk hA j (o15 + j) rfl rfl rfl rfl rfl rfl (by rfl) (by omega) (by first | rfl | simp [Nat.mul_one, Nat.zero_add] | omega)) fun a hA => st_val hA rfl rfl (by decide) (rn_load tbOk hA rfl rfl rfl rfl ((hk _ (hS.tail 6 rfl)).elem0 (k := j) encKi_ok hki rfl)) fun a hA => zR 2 ((11, vI ki) :: (10, vI j) :: _) hA rfl fun a hA => zn (zx (zs (zr (zR 2 ((40, vI ki) :: (39, vI j) :: _) hA rfl fun a hA => zLA hA hS 5 [vI ks.length, vI c.pc, vI c.wa, vI c.tr, vI c.ag, vI c.pg, vI c.ro] rfl rfl rfl rfl rfl rfl rfl rfl rfl rfl fun a hA => zR 1 ((42, vP bo 0) :: _) hA rfl fun a hA => ?_))))
      refine st_call0 hA rfl rfl rfl isfn28 rfl rfl (by decide) (node_of28 hS (kNC c j ki ks.length) bo) ?_
      clear hA hS; rintro _ w16 a ⟨bn, rfl, hS⟩ hA
      have hN9 : NOD w0 bn bo (.down (kNC c j ki ks.length)) _ [] := rfl
      refine zR 1 ((12, vP bn 0) :: _) hA rfl fun a hA => zn (zx (zs (zr (zR 1 ((44, vP bn 0) :: _) hA rfl fun a hA => ?_))))
      replace hS := hS.m5.m1
      refine st_call0 hA rfl rfl rfl isfn29 rfl rfl (by decide) (bootX29 hS hN9 hO hb) ?_
      clear hA hS; rintro _ w17 a ⟨Ln, O2, hN2, hO2, rfl, hS⟩ hA
      refine zn (zx (zr (zR 4 ((49, vP b8 0) :: (48, vP b8 0) :: (47, vP b8 0) :: (46, vP b8 0) :: _) hA rfl fun a hA => zL hA hS 2 rfl rfl rfl rfl rfl rfl rfl rfl rfl fun a hA => zR 1 ((51, vP bn 0) :: _) hA rfl fun a hA => ?_)))
      refine st_buildSlice tbOk hA hS [vP bn 0] rfl rfl rfl rfl rfl (by decide) (by kernel_rfl) rfl rfl (by decide) fun b18 w19 a hS hA => ?_
      replace hS := hS.m4
      refine st_append tbOk hA (m := bs'.length) (q := 1) (xs := rows encPt bs') (news := rows encPt ([bn] : List Nat)) rfl rfl rfl rfl rfl rfl rfl rfl (by decide) hr hS (((Own.full (T := 82) (size := 1) (g := b18) (m := 1) rfl (by decide)).rd (hS.own_ 1 rfl)).x) (rows_one encPt_ok _) (maxLen_le (by first | omega | (simp only [List.length_append, be_length, capb_length, List.length_cons, List.length_nil, List.length_drop, List.length_take]; omega))) (by show (bs'.length + 1) * 8 ≤ 140737488355328; first | omega | (simp only [List.length_append, be_length, capb_length, List.length_cons, List.length_nil, List.length_drop, List.length_take]; omega)) rfl rfl (by decide) ?_
      clear hA hS; intro v20 w21 C22 a hO22 hS hA
      replace hO22 := Own.app (l := bs') (l2 := ([bn] : List Nat)) hO22
      obtain ⟨A23, c24, rfl, hmc24, hxc24⟩ := hO22.open'
      refine zR 2 ((55, vP b8 0) :: (54, vP b8 0) :: _) hA rfl fun a hA => ?_
      replace hS := hS.m4
      refine st_store tbOk hA hS [.slice A23 ((bs' ++ ([bn] : List Nat)).length) c24] [.slice A23 ((bs' ++ ([bn] : List Nat)).length) c24, vP b6 0] rfl rfl rfl rfl rfl rfl (by intro u hu; rw [List.mem_singleton.1 hu]; rfl) (zle rfl) rfl rfl rfl fun w25 hS => ?_
      refine zn (zm (zx (zr (zR 1 ((56, .int .i64 (IntKind.i64.wrap (((j : Nat) : Int) + 1))) :: _) hA rfl fun a hA => ?_))))
      replace hA := hA.rw 56 (v' := vI (j + 1)) rfl (wr64 (by omega) (by omega) (by omega))
      refine zR 1 ((34, vI (j + 1)) :: _) hA rfl fun a hA => zn ?_
      replace hS := hS.d2.m5.m3.m5.m4.m4
      replace hS : St w0 w25 ([(b8, rowO [.slice A23 ((bs' ++ ([bn] : List Nat)).length) c24, vP b6 0] 77)] :: C22 :: (NL' ++ Ln) :: [(b6, rowO [.slice none 0 0] 74)] :: O2 :: [(b1, rowO [vI ks.length, vI c.pc, vI c.wa, vI c.tr, vI c.ag, vI c.pg, vI c.ro] 32)] :: F) := hS.cast (by simp)
      exact lp_next _ (by omega) ⟨(j + 1), (nxj ++ [x]), en', k', (bs' ++ [bn]), A23, c24, C22, (NL' ++ Ln), O2, rfl, (hA.sel [4, 8, 9, 32, 33, 34] rfl), hS, by omega, hof3, (NDS.app hN2 hND), hO2, hO22⟩)
 · first
   | (exfalso; omega)
   | (replace hA := hA.rw 35 (v' := .bool false) rfl (vb_false hc13)
      refine cd_cond_f hA rfl ?_
      refine wp_exit ?_
      refine xt_exit (xt_exit (cd_exit_eq (zx (zs (zr (zR 3 ((7, .nilIface) :: (6, vP b8 0) :: (57, vP b8 0) :: _) hA rfl fun a hA => zn (zx ?_)))))))
      refine wp_ret ?_
      refine ret2 (fn := Tryz.f8) hA rfl rfl rfl ?_
      have hj9 : j = ks.length := by omega
      subst hj9; rw [hof] at hoj; injection hoj with hoj; injection hoj with e1 hoj; injection hoj with e2 e3; subst e1; subst e2; subst e3
      replace hS := hS.d5
      replace hS : St w0 w12 (((b8, rowO [.slice A' bs'.length c', vP b6 0] 77) :: (C' ++ (NL' ++ (([(b6, rowO [.slice none 0 0] 74)] ++ []) ++ OL')))) :: [] :: F) := hS.cast (by simp)
      exact ⟨_, _, ⟨_, bo, bs', A', c', C', NL', _, OL', ⟨hND, ⟨[], ⟨_, [], Own.nil _ _, rfl⟩, PKS.nil⟩, hO, hr⟩, rfl⟩, rfl, hS⟩)
end Go.Proofs.YthiakdmhpfkjbaaGreatDoor

set_option linter.unusedVariables false
set_option linter.unusedSimpArgs false
set_option maxRecDepth 4000
namespace Go.Proofs.YthiakdmhpfkjbaaGreatDoor
open Go Go.SK
def get0M (s : SY) (k : Nat) : Option CA :=
  match (s.nx[0]? : Option NX) with
  | some (.up st _) => match st.ca[k]? with
    | some y => if st.ca.length ≤ 64 ∧ cal st.ca then some y else none
    | none => none
  | _ => none
theorem get0M_some {s : SY} {k : Nat} {y : CA} (h : get0M s k = some y) : ∃ st sr, s.nx[0]? = some (.up st sr) ∧ st.ca[k]? = some y ∧ st.ca.length ≤ 64 ∧ cal st.ca := by
  rw [get0M] at h
  cases hx : s.nx[0]? with
  | none => rw [hx] at h; cases h
  | some x =>
    cases x with
    | down c => rw [hx] at h; cases h
    | up st sr =>
      rw [hx] at h; dsimp only at h
      cases hy : st.ca[k]? with
      | none => rw [hy] at h; cases h
      | some z =>
        rw [hy] at h; dsimp only at h
        by_cases hc : st.ca.length ≤ 64 ∧ cal st.ca
        · rw [if_pos hc] at h; injection h with h; subst h; exact ⟨st, sr, rfl, hy, hc.1, hc.2⟩
        · rw [if_neg hc] at h; cases h
def transR (ts : List Nat) : Nat → SY → Nat → Option (SY × MN × Bool)
  | 0, s, _ => some (s, MN.zero, false)
  | f + 1, s, k => match settleM ts 2000 s 0 5000 with
    | none => none
    | some (s2, _) => match get0M s2 k with
      | none => none
      | some y =>
        if y.st = 3 then some (s2, MN.zero, false)
        else if y.st = 1 then
          (match ticksM s2 s2.nx.length with
          | none => none
          | some s3 => transR ts f s3 k)
        else some (s2, y.rp, true)
theorem transR_cases {ts : List Nat} {f k : Nat} {s s' : SY} {r : MN} {ok : Bool} (h : transR ts f s k = some (s', r, ok)) : (f = 0 ∧ s' = s ∧ r = MN.zero ∧ ok = false) ∨ (∃ f2 s2 d y, f = f2 + 1 ∧ settleM ts 2000 s 0 5000 = some (s2, d) ∧ get0M s2 k = some y ∧ ((y.st = 3 ∧ s' = s2 ∧ r = MN.zero ∧ ok = false) ∨ (y.st = 1 ∧ ∃ s3, ticksM s2 s2.nx.length = some s3 ∧ transR ts f2 s3 k = some (s', r, ok)) ∨ (¬ y.st = 3 ∧ ¬ y.st = 1 ∧ s' = s2 ∧ r = y.rp ∧ ok = true))) := by
  cases f with
  | zero => injection h with h; injection h with h1 h; injection h with h2 h3; exact .inl ⟨rfl, h1.symm, h2.symm, h3.symm⟩
  | succ f =>
    rw [transR] at h
    cases hs : settleM ts 2000 s 0 5000 with
    | none => rw [hs] at h; cases h
    | some q =>
      obtain ⟨s2, d⟩ := q
      rw [hs] at h; dsimp only at h
      cases hg : get0M s2 k with
      | none => rw [hg] at h; cases h
      | some y =>
        rw [hg] at h; dsimp only at h
        refine .inr ⟨f, s2, d, y, rfl, rfl, hg, ?_⟩
        by_cases h3 : y.st = 3
        · rw [if_pos h3] at h
          injection h with h; injection h with h1 h; injection h with h2 h4; exact .inl ⟨h3, h1.symm, h2.symm, h4.symm⟩
        · rw [if_neg h3] at h
          by_cases h1 : y.st = 1
          · rw [if_pos h1] at h
            cases ht : ticksM s2 s2.nx.length with
            | none => rw [ht] at h; cases h
            | some s3 => rw [ht] at h; exact .inr (.inl ⟨h1, s3, rfl, h⟩)
          · rw [if_neg h1] at h
            injection h with h; injection h with e1 h; injection h with e2 e3; exact .inr (.inr ⟨h3, h1, e1.symm, e2.symm, e3.symm⟩)
def callM (s : SY) (i : Nat) (m : MN) : Option (SY × Nat) :=
  match s.nx[i]? with
  | some (.up st sr) => match ncallM st m with
    | some (st', out) => if sendC s.wi out then some ({ s with nx := s.nx.set i (.up st' sr), wi := app s.wi out }, st.ca.length) else none
    | none => none
  | _ => none
theorem callM_some {s s' : SY} {i k : Nat} {m : MN} (h : callM s i m = some (s', k)) : ∃ st sr st' out, s.nx[i]? = some (.up st sr) ∧ ncallM st m = some (st', out) ∧ sendC s.wi out ∧ s' = { s with nx := s.nx.set i (.up st' sr), wi := s.wi ++ out } ∧ k = st.ca.length := by
  rw [callM] at h
  cases hx : s.nx[i]? with
  | none => rw [hx] at h; cases h
  | some x =>
    cases x with
    | down c => rw [hx] at h; cases h
    | up st sr =>
      rw [hx] at h; dsimp only at h
      cases hy : ncallM st m with
      | none => rw [hy] at h; cases h
      | some z =>
        obtain ⟨st', out⟩ := z
        rw [hy] at h; dsimp only at h
        by_cases hc : sendC s.wi out
        · rw [if_pos hc, app_eq] at h; injection h with h; injection h with h1 h2; exact ⟨st, sr, st', out, rfl, hy, hc, h1.symm, h2.symm⟩
        · rw [if_neg hc] at h; cases h
def transM (ts : List Nat) (s : SY) (m : MN) : Option (SY × MN × Bool) :=
  match callM s 0 m with
  | none => none
  | some (s', k) => transR ts 6 s' k
theorem transM_some {ts : List Nat} {s s' : SY} {m r : MN} {ok : Bool} (h : transM ts s m = some (s', r, ok)) : ∃ s1 k, callM s 0 m = some (s1, k) ∧ transR ts 6 s1 k = some (s', r, ok) := by
  rw [transM] at h
  cases hc : callM s 0 m with
  | none => rw [hc] at h; cases h
  | some q => obtain ⟨s1, k⟩ := q; rw [hc] at h; exact ⟨s1, k, rfl, h⟩
def cfgN (p : Nat) : NC := ⟨0, 0, 2, p, 1, 5, 20, 10, 10, 0, 0, 0, 0, 0, 0, 0, 0⟩
def netM (p : Nat) : Option SY := ofM [0, 1, 2, 3] (cfgN p) (cutl (spread 400))
theorem cfg30 {w0 w : World} {F : List Chunk} (hS : St w0 w F) {q : Nat} (hq : q < 256) :
 Ret Tryz.prog 30 #[vB q, .int .u8 0, .int .u8 4, .int .u8 19, .int .u8 9] w (fun v w' => v = .agg #[vI ((cfgN (1 + q % 120)).no), vI ((cfgN (1 + q % 120)).pc), vI ((cfgN (1 + q % 120)).wa), vI ((cfgN (1 + q % 120)).tr), vI ((cfgN (1 + q % 120)).ag), vI ((cfgN (1 + q % 120)).pg), vI ((cfgN (1 + q % 120)).ro)] ∧ St w0 w' F) := by
 refine enter (vs := [vB q, .int .u8 0, .int .u8 4, .int .u8 19, .int .u8 9]) 32 Tryz.func30 rfl rfl (by simp) ?_; intro a hA
 refine zs (zr ?_)
 refine st_alloc tbOk hA hS [.int .i64 0, .int .i64 0, .int .i64 0, .int .i64 0, .int .i64 0, .int .i64 0, .int .i64 0] rfl rfl rfl rfl rfl (by decide) fun b1 w2 a hS hA => ?_
 refine zn (zx (zs (zr (zR 2 ((12, .int .u8 (((q : Nat) : Int).tmod 120)) :: (11, vB q) :: _) hA rfl fun a hA => ?_))))
 replace hA := hA.rw 12 (v' := vB (q % 120)) rfl (vint (Int.ofNat_tmod _ _).symm)
 refine zR 1 ((13, .int .i64 (IntKind.i64.wrap ((q % 120 : Nat) : Int))) :: _) hA rfl fun a hA => ?_
 replace hA := hA.rw 13 (v' := vI (q % 120)) rfl (wr64 (by first | rfl | omega) (by omega) (by omega))
 refine zR 1 ((14, .int .i64 (IntKind.i64.wrap (1 + ((q % 120 : Nat) : Int)))) :: _) hA rfl fun a hA => ?_
 replace hA := hA.rw 14 (v' := vI (1 + (q % 120))) rfl (wr64 (by omega) (by omega) (by omega))
 refine zR 2 ((16, .int .u8 ((0 : Int).tmod 5)) :: (15, .int .u8 0) :: _) hA rfl fun a hA => ?_
 replace hA := hA.rw 16 (v' := .int .u8 0) rfl (vint (by decide))
 refine zR 1 ((17, .int .i64 (IntKind.i64.wrap 0)) :: _) hA rfl fun a hA => ?_
 replace hA := hA.rw 17 (v' := .int .i64 0) rfl (wr64 (by first | rfl | omega) (by omega) (by omega))
 refine zR 1 ((18, .int .i64 (IntKind.i64.wrap (1 + 0))) :: _) hA rfl fun a hA => ?_
 replace hA := hA.rw 18 (v' := .int .i64 1) rfl (wr64 (by omega) (by omega) (by omega))
 refine zR 2 ((20, .int .u8 ((4 : Int).tmod 5)) :: (19, .int .u8 4) :: _) hA rfl fun a hA => ?_
 replace hA := hA.rw 20 (v' := .int .u8 4) rfl (vint (by decide))
 refine zR 1 ((21, .int .i64 (IntKind.i64.wrap 4)) :: _) hA rfl fun a hA => ?_
 replace hA := hA.rw 21 (v' := .int .i64 4) rfl (wr64 (by first | rfl | omega) (by omega) (by omega))
 refine zR 1 ((22, .int .i64 (IntKind.i64.wrap (1 + 4))) :: _) hA rfl fun a hA => ?_
 replace hA := hA.rw 22 (v' := .int .i64 5) rfl (wr64 (by omega) (by omega) (by omega))
 refine zR 2 ((24, .int .u8 ((19 : Int).tmod 20)) :: (23, .int .u8 19) :: _) hA rfl fun a hA => ?_
 replace hA := hA.rw 24 (v' := .int .u8 19) rfl (vint (by decide))
 refine zR 1 ((25, .int .i64 (IntKind.i64.wrap 19)) :: _) hA rfl fun a hA => ?_
 replace hA := hA.rw 25 (v' := .int .i64 19) rfl (wr64 (by first | rfl | omega) (by omega) (by omega))
 refine zR 1 ((26, .int .i64 (IntKind.i64.wrap (1 + 19))) :: _) hA rfl fun a hA => ?_
 replace hA := hA.rw 26 (v' := .int .i64 20) rfl (wr64 (by omega) (by omega) (by omega))
 refine zR 2 ((28, .int .u8 ((9 : Int).tmod 10)) :: (27, .int .u8 9) :: _) hA rfl fun a hA => ?_
 replace hA := hA.rw 28 (v' := .int .u8 9) rfl (vint (by decide))
 refine zR 1 ((29, .int .i64 (IntKind.i64.wrap 9)) :: _) hA rfl fun a hA => ?_
 replace hA := hA.rw 29 (v' := .int .i64 9) rfl (wr64 (by first | rfl | omega) (by omega) (by omega))
 refine zR 1 ((30, .int .i64 (IntKind.i64.wrap (1 + 9))) :: _) hA rfl fun a hA => ?_
 replace hA := hA.rw 30 (v' := .int .i64 10) rfl (wr64 (by omega) (by omega) (by omega))
 refine st_val hA rfl rfl (by decide) (rn_build tbOk hA rfl rfl rfl rfl rfl rfl rfl) fun a hA => ?_
 refine st_store tbOk hA hS [.int .i64 2, vI (1 + (q % 120)), .int .i64 1, .int .i64 5, .int .i64 20, .int .i64 10, .int .i64 10] [.int .i64 2, vI (1 + (q % 120)), .int .i64 1, .int .i64 5, .int .i64 20, .int .i64 10, .int .i64 10] rfl rfl rfl rfl rfl rfl (zn1 rfl) (zle rfl) rfl rfl rfl fun w3 hS => ?_
 refine zn (zx ?_)
 refine wp_ret ?_
 refine retc1 tbOk (fn := Tryz.f30) (cs := [.int .i64 2, vI (1 + (q % 120)), .int .i64 1, .int .i64 5, .int .i64 20, .int .i64 10, .int .i64 10]) hA rfl rfl rfl rfl rfl (cells_row (hS.heapAt 0 rfl) rfl) ?_
 replace hS := hS.d0
 exact ⟨rfl, hS⟩
theorem config9 {w0 w : World} {F : List Chunk} (hS : St w0 w F) {x : Int} {q : Nat} (hor : Go.bits .or .u8 x 31 = ((q : Nat) : Int)) (hq : q < 256) :
 Ret Tryz.prog 9 #[.int .u8 x] w (fun v w' => v = .agg #[vI ((cfgN (1 + q % 120)).no), vI ((cfgN (1 + q % 120)).pc), vI ((cfgN (1 + q % 120)).wa), vI ((cfgN (1 + q % 120)).tr), vI ((cfgN (1 + q % 120)).ag), vI ((cfgN (1 + q % 120)).pg), vI ((cfgN (1 + q % 120)).ro)] ∧ St w0 w' F) := by
 refine enter (vs := [.int .u8 x]) 6 Tryz.func9 rfl rfl (by simp) ?_; intro a hA
 refine zs (zr ?_)
 refine st_alloc tbOk hA hS [.int .i64 0, .int .i64 0, .int .i64 0, .int .i64 0, .int .i64 0, .int .i64 0, .int .i64 0] rfl rfl rfl rfl rfl (by decide) fun b1 w2 a hS hA => ?_
 refine zn (zx (zs (zr (zR 1 ((3, .int .u8 x) :: _) hA rfl fun a hA => st_val hA rfl rfl (by decide) (rn_or hA rfl rfl rfl) fun a hA => ?_))))
 replace hA := hA.rw 4 (v' := vB q) rfl (vint hor)
 refine st_call0 hA rfl rfl rfl isfn30 rfl rfl (by decide) (cfg30 hS hq) ?_
 clear hA hS; rintro _ w3 a ⟨rfl, hS⟩ hA
 refine st_store tbOk hA hS [vI ((cfgN (1 + q % 120)).no), vI ((cfgN (1 + q % 120)).pc), vI ((cfgN (1 + q % 120)).wa), vI ((cfgN (1 + q % 120)).tr), vI ((cfgN (1 + q % 120)).ag), vI ((cfgN (1 + q % 120)).pg), vI ((cfgN (1 + q % 120)).ro)] [vI ((cfgN (1 + q % 120)).no), vI ((cfgN (1 + q % 120)).pc), vI ((cfgN (1 + q % 120)).wa), vI ((cfgN (1 + q % 120)).tr), vI ((cfgN (1 + q % 120)).ag), vI ((cfgN (1 + q % 120)).pg), vI ((cfgN (1 + q % 120)).ro)] rfl rfl rfl rfl rfl rfl (zn1 rfl) (zle rfl) rfl rfl rfl fun w4 hS => ?_
 refine zn (zx ?_)
 refine wp_ret ?_
 refine retc1 tbOk (fn := Tryz.f9) (cs := [vI ((cfgN (1 + q % 120)).no), vI ((cfgN (1 + q % 120)).pc), vI ((cfgN (1 + q % 120)).wa), vI ((cfgN (1 + q % 120)).tr), vI ((cfgN (1 + q % 120)).ag), vI ((cfgN (1 + q % 120)).pg), vI ((cfgN (1 + q % 120)).ro)]) hA rfl rfl rfl rfl rfl (cells_row (hS.heapAt 0 rfl) rfl) ?_
 replace hS := hS.d0
 exact ⟨rfl, hS⟩
theorem network20 {w0 w : World} {F : List Chunk} (hS : St w0 w F) {x : Int} {q : Nat} {s : SY} (hor : Go.bits .or .u8 x 31 = ((q : Nat) : Int)) (hq : q < 256) (hM : netM (1 + q % 120) = some s) :
 Ret Tryz.prog 20 #[.int .u8 x] w (fun v w' => ∃ b L, SYS w0 b (cutl (spread 400)) s L [] ∧ v = .tuple #[vP b 0, .bool true] ∧ St w0 w' (L :: [] :: F)) := by
 refine enter (vs := [.int .u8 x]) 21 Tryz.func20 rfl rfl (by simp) ?_; intro a hA
 refine zs (zr (zR 2 ((3, .bool false) :: (2, .pointer none) :: _) hA rfl fun a hA => zn (zx (zs (zr ?_)))))
 refine st_buildSlice tbOk hA hS [.int .i64 0, .int .i64 1, .int .i64 2, .int .i64 3] rfl rfl rfl rfl rfl (by decide) (by kernel_rfl) rfl rfl (by decide) fun b1 w2 a hS hA => ?_
 refine zR 1 ((8, .int .u8 x) :: _) hA rfl fun a hA => ?_
 refine st_call0 hA rfl rfl rfl isfn9 rfl rfl (by decide) (config9 hS (q := q) hor hq) ?_
 clear hA hS; rintro _ w3 a ⟨rfl, hS⟩ hA
 refine st_call0 hA rfl rfl rfl isfn10 rfl rfl (by decide) (spread_10 hS 400 (by omega)) ?_
 clear hA hS; rintro _ w4 a ⟨As, cs, Cs, hOs, rfl, hS⟩ hA
 refine st_call0 hA rfl rfl rfl isfn8 rfl rfl (by decide) (of8 (ks := [0, 1, 2, 3]) (c := cfgN (1 + q % 120)) (ts := cutl (spread 400)) (ts0 := spread 400) (s := s) hS (fun w9 h9 => (Own.full (T := 29) (size := 1) (g := b1) (m := 4) (xs := rows encKi [0, 1, 2, 3]) rfl (by decide)).rd (h9.own_ 1 rfl)) (fun w9 h9 => hOs.rd (h9.own_ 0 rfl)) (by rw [spread_length]; decide) (by intro x hx; obtain ⟨k, hk, rfl⟩ := List.mem_map.1 hx; have := List.mem_range.1 hk; omega) rfl (by decide) (by decide) hM) ?_
 clear hA hS; rintro _ w5 a ⟨b, L, hY, rfl, hS⟩ hA
 refine zR 5 ((5, .nilIface) :: (4, vP b 0) :: (13, .nilIface) :: (12, vP b 0) :: (6, .tuple #[vP b 0, .nilIface]) :: _) hA rfl fun a hA => zn (zx (zs (zr (zR 9 ((3, .bool true) :: (2, vP b 0) :: (20, .bool true) :: (19, .bool true) :: (18, vP b 0) :: (17, .bool true) :: (16, .bool true) :: (15, .nilIface) :: (14, vP b 0) :: _) hA rfl fun a hA => zn (zx ?_)))))
 refine wp_ret ?_
 refine ret2 (fn := Tryz.f20) hA rfl rfl rfl ?_
 replace hS := hS.d3.d2
 exact ⟨_, _, hY, rfl, hS⟩
set_option maxHeartbeats 4000000 in
theorem trans18 {w0 w : World} {F : List Chunk} {b : Nat} {ts : List Nat} {s : SY} {L D : Chunk} {s' : SY} {r : MN} {ok : Bool} (hS : St w0 w (L :: D :: F)) (hY : SYS w0 b ts s L D) (m : MN) {d : Value} (hd : RdSX w0 (D :: F) 1 d m.da.length (rows encB m.da)) (hM : transM ts s m = some (s', r, ok)) :
 Ret Tryz.prog 18 #[vP b 0, .agg #[vU m.to, vU m.rp, vW m.id, vH m.op, vH m.st, vU m.po, vW m.ob, vB m.ri, vU m.ck, vU m.ar, d]] w (fun v w' => ∃ L' D' A c, SYS w0 b ts s' L' D' ∧ DX w0 D D' ∧ DD w0 D' A c r.da ∧ v = .tuple #[.agg #[vU r.to, vU r.rp, vW r.id, vH r.op, vH r.st, vU r.po, vW r.ob, vB r.ri, vU r.ck, vU r.ar, .slice A r.da.length c], .bool ok] ∧ St w0 w' (L' :: D' :: F)) := by
 obtain ⟨B, d', rfl, hmd, hdx⟩ := (hd _ (hS.tail 1 rfl)).open'
 obtain ⟨s1, k, hcm, htr⟩ := transM_some hM
 obtain ⟨st, sr, st1, out, hx, hc, hsc, rfl, rfl⟩ := callM_some hcm
 refine enter (vs := [vP b 0, .agg #[vU m.to, vU m.rp, vW m.id, vH m.op, vH m.st, vU m.po, vW m.ob, vB m.ri, vU m.ck, vU m.ar, .slice B m.da.length d']]) 41 Tryz.func18 rfl rfl (by simp) ?_; intro a hA
 refine zs (zr ?_)
 refine st_box hA hS [vU m.to, vU m.rp, vW m.id, vH m.op, vH m.st, vU m.po, vW m.ob, vB m.ri, vU m.ck, vU m.ar, .slice B m.da.length d'] rfl rfl rfl rfl rfl (by decide) fun b1 w2 a hS hA => ?_
 refine st_alloc tbOk hA hS [.int .u64 0, .int .u64 0, .int .u32 0, .int .u16 0, .int .u16 0, .int .u64 0, .int .u32 0, .int .u8 0, .int .u64 0, .int .u64 0, .slice none 0 0] rfl rfl rfl rfl rfl (by decide) fun b3 w4 a hS hA => ?_
 refine zR 1 ((5, .bool false) :: _) hA rfl fun a hA => zn (zx (zs (zr (zR 1 ((12, vP b 0) :: _) hA rfl fun a hA => zLA hA hS 1 [vU m.to, vU m.rp, vW m.id, vH m.op, vH m.st, vU m.po, vW m.ob, vB m.ri, vU m.ck, vU m.ar, .slice B m.da.length d'] rfl rfl rfl rfl rfl rfl rfl rfl rfl rfl fun a hA => ?_))))
 replace hS := hS.m3.m3
 refine st_call0 hA rfl rfl rfl isfn12 rfl rfl (by decide) (scall12 hS hY (i := 0) hx m (fun w' h => hd _ (St.dmid (R := [[(b3, rowO [.int .u64 0, .int .u64 0, .int .u32 0, .int .u16 0, .int .u16 0, .int .u64 0, .int .u32 0, .int .u8 0, .int .u64 0, .int .u64 0, .slice none 0 0] 46)], [(b1, rowO [vU m.to, vU m.rp, vW m.id, vH m.op, vH m.st, vU m.po, vW m.ob, vB m.ri, vU m.ck, vU m.ar, .slice B m.da.length d'] 46)]]) h)) hc hsc) ?_
 clear hA hS; rintro _ w5 a ⟨L1, D1, hY1, hX1, rfl, hS⟩ hA
 refine zR 5 ((7, .nilIface) :: (6, vW (st.ca.length + 1)) :: (16, .nilIface) :: (15, vW (st.ca.length + 1)) :: (11, .tuple #[vW (st.ca.length + 1), .nilIface]) :: _) hA rfl fun a hA => zn (zx (zs (zs (zr (zR 2 ((18, .bool false) :: (17, .nilIface) :: _) hA rfl fun a hA => zn (zx (cd_cond_f hA rfl (zk (zx (zs (zs (zr (zR 1 ((20, .int .i64 0) :: _) hA rfl fun a hA => zn (zx (zb ?_)))))))))))))))
 replace hS := hS.d3
 refine wp_loop_ghost (fun m a w => ∃ (j : Nat) (f' : Nat) (sj : SY) (L' : Chunk) (D' : Chunk), m = f' ∧ Has a 41 [(0, vP b 0), (4, vP b3 0), (6, vW (st.ca.length + 1)), (20, vI j)] ∧ St w0 w (L' :: D' :: [(b3, rowO [.int .u64 0, .int .u64 0, .int .u32 0, .int .u16 0, .int .u16 0, .int .u64 0, .int .u32 0, .int .u8 0, .int .u64 0, .int .u64 0, .slice none 0 0] 46)] :: F) ∧ (j + f' = 6) ∧ (transR ts f' sj st.ca.length = some (s', r, ok)) ∧ (SYS w0 b ts sj L' D') ∧ (DX w0 D D')) (6)
  ⟨0, 6, _, L1, D1, rfl, (hA.sel [0, 4, 6, 20] rfl), hS, rfl, htr, hY1, hX1⟩ ?_
 clear hA hS; rintro m0 a w6 ⟨j, f', sj, L', D', rfl, hA, hS, hj, hR, hY, hX⟩
 refine zs (zr ?_)
 rcases transR_cases hR with ⟨rfl, e1, e2, e3⟩ | ⟨f2, s2, d9, y, rfl, hst, hg0, ⟨h3, e1, e2, e3⟩ | ⟨h1, s3, htk, hM2⟩ | ⟨h3, h1, e1, e2, e3⟩⟩
 · refine zR 1 ((21, .bool (decide (((j : Nat) : Int) < 6))) :: _) hA rfl fun a hA => zn (zx (zs ?_))
   have hc7 : ¬ (((j : Nat) : Int) < 6) := by omega
   replace hA := hA.rw 21 (v' := .bool false) rfl (vb_false hc7)
   refine cd_cond_f hA rfl ?_
   refine wp_exit ?_
   refine xt_exit (xt_exit (cd_exit_eq (zx (zs (zr (st_val hA rfl rfl (by decide) (rn_build tbOk hA rfl rfl rfl rfl rfl rfl rfl) fun a hA => ?_))))))
   replace hS := hS.m2
   refine st_store tbOk hA hS [.int .u64 0, .int .u64 0, .int .u32 0, .int .u16 0, .int .u16 0, .int .u64 0, .int .u32 0, .int .u8 0, .int .u64 0, .int .u64 0, .slice none 0 0] [.int .u64 0, .int .u64 0, .int .u32 0, .int .u16 0, .int .u16 0, .int .u64 0, .int .u32 0, .int .u8 0, .int .u64 0, .int .u64 0, .slice none 0 0] rfl rfl rfl rfl rfl rfl (zn1 rfl) (zle rfl) rfl rfl rfl fun w8 hS => ?_
   refine zR 1 ((5, .bool false) :: _) hA rfl fun a hA => zn (zx ?_)
   refine wp_ret ?_
   refine retc2 tbOk (fn := Tryz.f18) (cs := [.int .u64 0, .int .u64 0, .int .u32 0, .int .u16 0, .int .u16 0, .int .u64 0, .int .u32 0, .int .u8 0, .int .u64 0, .int .u64 0, .slice none 0 0]) hA rfl rfl rfl rfl rfl rfl (cells_row (hS.heapAt 0 rfl) rfl) ?_
   rw [e1, e2, e3]
   replace hS := hS.d0
   exact ⟨_, _, none, 0, hY, hX, DD.nil, rfl, hS⟩
 · refine zR 1 ((21, .bool (decide (((j : Nat) : Int) < 6))) :: _) hA rfl fun a hA => zn (zx (zs ?_))
   have hc9 : ((j : Nat) : Int) < 6 := by omega
   replace hA := hA.rw 21 (v' := .bool true) rfl (vb_true hc9)
   refine cd_cond_t hA rfl (zk (zx (zs (zb (zs (zr (zR 1 ((22, vP b 0) :: _) hA rfl fun a hA => ?_)))))))
   replace hS := hS.m1.m1
   refine st_call0 hA rfl rfl rfl isfn19 rfl rfl (by decide) (settle19 hS hY hst (by decide)) ?_
   clear hA hS; rintro _ w10 a ⟨L2, D2, hY2, hX2, rfl, hS⟩ hA
   refine zn (zx (zs (zs (zr (zR 2 ((26, vW (st.ca.length + 1)) :: (25, vP b 0) :: _) hA rfl fun a hA => ?_)))))
   replace hS := hS.m1.m1
   obtain ⟨st9, sr9, g1, g2, g3, g4⟩ := get0M_some hg0
   refine st_call0 hA rfl rfl rfl isfn16 rfl rfl (by decide) (sget_failed16 hS hY2 (i := 0) g1 g2 g3 g4 h3) ?_
   clear hA hS; rintro _ w11 a ⟨L3, hY3, rfl, hS⟩ hA
   refine zR 4 ((30, .iface 55 (.int .i64 10)) :: (29, .agg #[.int .u64 0, .int .u64 0, .int .u32 0, .int .u16 0, .int .u16 0, .int .u64 0, .int .u32 0, .int .u8 0, .int .u64 0, .int .u64 0, .slice none 0 0]) :: (28, .int .i64 3) :: (24, .tuple #[.int .i64 3, .agg #[.int .u64 0, .int .u64 0, .int .u32 0, .int .u16 0, .int .u16 0, .int .u64 0, .int .u32 0, .int .u8 0, .int .u64 0, .int .u64 0, .slice none 0 0], .iface 55 (.int .i64 10)]) :: _) hA rfl fun a hA => ?_
   refine st_alloc tbOk hA hS [.int .u64 0, .int .u64 0, .int .u32 0, .int .u16 0, .int .u16 0, .int .u64 0, .int .u32 0, .int .u8 0, .int .u64 0, .int .u64 0, .slice none 0 0] rfl rfl rfl rfl rfl (by decide) fun b12 w13 a hS hA => ?_
   refine zR 1 ((8, .int .i64 3) :: _) hA rfl fun a hA => ?_
   refine st_store tbOk hA hS [.int .u64 0, .int .u64 0, .int .u32 0, .int .u16 0, .int .u16 0, .int .u64 0, .int .u32 0, .int .u8 0, .int .u64 0, .int .u64 0, .slice none 0 0] [.int .u64 0, .int .u64 0, .int .u32 0, .int .u16 0, .int .u16 0, .int .u64 0, .int .u32 0, .int .u8 0, .int .u64 0, .int .u64 0, .slice none 0 0] rfl rfl rfl rfl rfl rfl (zn1 rfl) (zle rfl) rfl rfl rfl fun w14 hS => ?_
   refine zR 1 ((10, .iface 55 (.int .i64 10)) :: _) hA rfl fun a hA => zn (zx (zs (zr (zR 2 ((32, .bool true) :: (31, .int .i64 3) :: _) hA rfl fun a hA => zn (zx (cd_cond_t hA rfl (zs ?_)))))))
   replace hS := hS.m3
   refine zD1 hS [] [(0, true), (1, true), (2, true), (3, false), (4, true)] mixed (by kernel_rfl) (by rintro c a w ⟨_, _, h, _⟩; cases h) (by rfl) (by kernel_rfl) ?_
   replace hS := hS.drew
   refine zYA hA (hS.tail 1 rfl) 0 [.int .u64 0, .int .u64 0, .int .u32 0, .int .u16 0, .int .u16 0, .int .u64 0, .int .u32 0, .int .u8 0, .int .u64 0, .int .u64 0, .slice none 0 0] rfl rfl rfl rfl rfl rfl rfl rfl rfl rfl rfl fun a hA => zW 2 ((35, .bool false) :: (34, .iface 55 (.int .i64 10)) :: _) hA (hS.tail 1 rfl) rfl fun a hA => dr_b (o := _) rfl ?_
   refine st_store tbOk hA hS [.int .u64 0, .int .u64 0, .int .u32 0, .int .u16 0, .int .u16 0, .int .u64 0, .int .u32 0, .int .u8 0, .int .u64 0, .int .u64 0, .slice none 0 0] [.int .u64 0, .int .u64 0, .int .u32 0, .int .u16 0, .int .u16 0, .int .u64 0, .int .u32 0, .int .u8 0, .int .u64 0, .int .u64 0, .slice none 0 0] rfl rfl rfl rfl rfl rfl (zn1 rfl) (zle rfl) rfl rfl rfl fun w15 hS => ?_
   refine zi (hS.tail 1 rfl) (zW 1 ((5, .bool false) :: _) hA (hS.tail 1 rfl) rfl fun a hA => ze (zx ?_))
   refine wp_ret (xt_ret (xb_ret (xt_ret (xt_ret (xb_ret (xt_ret ?_))))))
   refine retc2 tbOk (fn := Tryz.f18) (cs := [.int .u64 0, .int .u64 0, .int .u32 0, .int .u16 0, .int .u16 0, .int .u64 0, .int .u32 0, .int .u8 0, .int .u64 0, .int .u64 0, .slice none 0 0]) hA rfl rfl rfl rfl rfl rfl (cells_row (hS.heapAt 0 rfl) rfl) ?_
   rw [e1, e2, e3]
   replace hS := hS.d1.d0
   exact ⟨_, _, none, 0, hY3, (hX.trans hX2), DD.nil, rfl, hS⟩
 · refine zR 1 ((21, .bool (decide (((j : Nat) : Int) < 6))) :: _) hA rfl fun a hA => zn (zx (zs ?_))
   have hc16 : ((j : Nat) : Int) < 6 := by omega
   replace hA := hA.rw 21 (v' := .bool true) rfl (vb_true hc16)
   refine cd_cond_t hA rfl (zk (zx (zs (zb (zs (zr (zR 1 ((22, vP b 0) :: _) hA rfl fun a hA => ?_)))))))
   replace hS := hS.m1.m1
   refine st_call0 hA rfl rfl rfl isfn19 rfl rfl (by decide) (settle19 hS hY hst (by decide)) ?_
   clear hA hS; rintro _ w17 a ⟨L2, D2, hY2, hX2, rfl, hS⟩ hA
   refine zn (zx (zs (zs (zr (zR 2 ((26, vW (st.ca.length + 1)) :: (25, vP b 0) :: _) hA rfl fun a hA => ?_)))))
   replace hS := hS.m1.m1
   obtain ⟨st9, sr9, g1, g2, g3, g4⟩ := get0M_some hg0
   refine st_call0 hA rfl rfl rfl isfn16 rfl rfl (by decide) (sget_ok16 hS hY2 (i := 0) g1 g2 g3 g4 (by omega)) ?_
   clear hA hS; rintro _ w18 a ⟨L3, E3, A3, c3, hY3, hE3, rfl, hS⟩ hA
   refine zR 4 ((30, .nilIface) :: (29, .agg #[vU y.rp.to, vU y.rp.rp, vW y.rp.id, vH y.rp.op, vH y.rp.st, vU y.rp.po, vW y.rp.ob, vB y.rp.ri, vU y.rp.ck, vU y.rp.ar, .slice A3 y.rp.da.length c3]) :: (28, vI y.st) :: (24, .tuple #[vI y.st, .agg #[vU y.rp.to, vU y.rp.rp, vW y.rp.id, vH y.rp.op, vH y.rp.st, vU y.rp.po, vW y.rp.ob, vB y.rp.ri, vU y.rp.ck, vU y.rp.ar, .slice A3 y.rp.da.length c3], .nilIface]) :: _) hA rfl fun a hA => ?_
   refine st_alloc tbOk hA hS [.int .u64 0, .int .u64 0, .int .u32 0, .int .u16 0, .int .u16 0, .int .u64 0, .int .u32 0, .int .u8 0, .int .u64 0, .int .u64 0, .slice none 0 0] rfl rfl rfl rfl rfl (by decide) fun b19 w20 a hS hA => ?_
   refine zR 1 ((8, vI y.st) :: _) hA rfl fun a hA => ?_
   refine st_store tbOk hA hS [vU y.rp.to, vU y.rp.rp, vW y.rp.id, vH y.rp.op, vH y.rp.st, vU y.rp.po, vW y.rp.ob, vB y.rp.ri, vU y.rp.ck, vU y.rp.ar, .slice A3 y.rp.da.length c3] [vU y.rp.to, vU y.rp.rp, vW y.rp.id, vH y.rp.op, vH y.rp.st, vU y.rp.po, vW y.rp.ob, vB y.rp.ri, vU y.rp.ck, vU y.rp.ar, .slice A3 y.rp.da.length c3] rfl rfl rfl rfl rfl rfl (zn1 rfl) (zle rfl) rfl rfl rfl fun w21 hS => ?_
   refine zR 1 ((10, .nilIface) :: _) hA rfl fun a hA => zn (zx (zs (zr (zR 2 ((32, .bool (((y.st : Nat) : Int) != 1)) :: (31, vI y.st) :: _) hA rfl fun a hA => zn (zx ?_)))))
   have hc22 : ((y.st : Nat) : Int) = 1 := by omega
   replace hA := hA.rw 32 (v' := .bool false) rfl (vb_ne_f hc22)
   refine cd_cond_f hA rfl (zk (zx (zr (zR 2 ((37, .agg #[.int .u8 4, .int .i64 0, .int .i64 0]) :: (36, vP b 0) :: _) hA rfl fun a hA => ?_))))
   replace hS := hS.m2.m2
   refine st_call0 hA rfl rfl rfl isfn15 rfl rfl (by decide) (do_tick15 hS hY3 htk) ?_
   clear hA hS; rintro _ w23 a ⟨L4, D4, hY4, hX4, rfl, hS⟩ hA
   refine zn (zm (zx (zr (zR 1 ((39, .int .i64 (IntKind.i64.wrap (((j : Nat) : Int) + 1))) :: _) hA rfl fun a hA => ?_))))
   replace hA := hA.rw 39 (v' := vI (j + 1)) rfl (wr64 (by omega) (by omega) (by omega))
   refine zR 1 ((20, vI (j + 1)) :: _) hA rfl fun a hA => zn ?_
   replace hS := hS.d2
   exact lp_next _ (by omega) ⟨(j + 1), f2, s3, L4, D4, rfl, (hA.sel [0, 4, 6, 20] rfl), hS, by omega, hM2, hY4, ((hX.trans hX2).trans (DX.refl.step.trans hX4))⟩
 · refine zR 1 ((21, .bool (decide (((j : Nat) : Int) < 6))) :: _) hA rfl fun a hA => zn (zx (zs ?_))
   have hc24 : ((j : Nat) : Int) < 6 := by omega
   replace hA := hA.rw 21 (v' := .bool true) rfl (vb_true hc24)
   refine cd_cond_t hA rfl (zk (zx (zs (zb (zs (zr (zR 1 ((22, vP b 0) :: _) hA rfl fun a hA => ?_)))))))
   replace hS := hS.m1.m1
   refine st_call0 hA rfl rfl rfl isfn19 rfl rfl (by decide) (settle19 hS hY hst (by decide)) ?_
   clear hA hS; rintro _ w25 a ⟨L2, D2, hY2, hX2, rfl, hS⟩ hA
   refine zn (zx (zs (zs (zr (zR 2 ((26, vW (st.ca.length + 1)) :: (25, vP b 0) :: _) hA rfl fun a hA => ?_)))))
   replace hS := hS.m1.m1
   obtain ⟨st9, sr9, g1, g2, g3, g4⟩ := get0M_some hg0
   refine st_call0 hA rfl rfl rfl isfn16 rfl rfl (by decide) (sget_ok16 hS hY2 (i := 0) g1 g2 g3 g4 h3) ?_
   clear hA hS; rintro _ w26 a ⟨L3, E3, A3, c3, hY3, hE3, rfl, hS⟩ hA
   refine zR 4 ((30, .nilIface) :: (29, .agg #[vU y.rp.to, vU y.rp.rp, vW y.rp.id, vH y.rp.op, vH y.rp.st, vU y.rp.po, vW y.rp.ob, vB y.rp.ri, vU y.rp.ck, vU y.rp.ar, .slice A3 y.rp.da.length c3]) :: (28, vI y.st) :: (24, .tuple #[vI y.st, .agg #[vU y.rp.to, vU y.rp.rp, vW y.rp.id, vH y.rp.op, vH y.rp.st, vU y.rp.po, vW y.rp.ob, vB y.rp.ri, vU y.rp.ck, vU y.rp.ar, .slice A3 y.rp.da.length c3], .nilIface]) :: _) hA rfl fun a hA => ?_
   refine st_alloc tbOk hA hS [.int .u64 0, .int .u64 0, .int .u32 0, .int .u16 0, .int .u16 0, .int .u64 0, .int .u32 0, .int .u8 0, .int .u64 0, .int .u64 0, .slice none 0 0] rfl rfl rfl rfl rfl (by decide) fun b27 w28 a hS hA => ?_
   refine zR 1 ((8, vI y.st) :: _) hA rfl fun a hA => ?_
   refine st_store tbOk hA hS [vU y.rp.to, vU y.rp.rp, vW y.rp.id, vH y.rp.op, vH y.rp.st, vU y.rp.po, vW y.rp.ob, vB y.rp.ri, vU y.rp.ck, vU y.rp.ar, .slice A3 y.rp.da.length c3] [vU y.rp.to, vU y.rp.rp, vW y.rp.id, vH y.rp.op, vH y.rp.st, vU y.rp.po, vW y.rp.ob, vB y.rp.ri, vU y.rp.ck, vU y.rp.ar, .slice A3 y.rp.da.length c3] rfl rfl rfl rfl rfl rfl (zn1 rfl) (zle rfl) rfl rfl rfl fun w29 hS => ?_
   refine zR 1 ((10, .nilIface) :: _) hA rfl fun a hA => zn (zx (zs (zr (zR 2 ((32, .bool (((y.st : Nat) : Int) != 1)) :: (31, vI y.st) :: _) hA rfl fun a hA => zn (zx ?_)))))
   have hc30 : ¬ (((y.st : Nat) : Int) = 1) := by omega
   replace hA := hA.rw 32 (v' := .bool true) rfl (vb_ne_t hc30)
   refine cd_cond_t hA rfl (zs ?_)
   replace hS := hS.m3
   refine zD1 hS [] [(0, true), (1, true), (2, true), (3, false), (4, true)] mixed (by kernel_rfl) (by rintro c a w ⟨_, _, h, _⟩; cases h) (by rfl) (by kernel_rfl) ?_
   replace hS := hS.drew
   refine zYA hA (hS.tail 1 rfl) 0 [vU y.rp.to, vU y.rp.rp, vW y.rp.id, vH y.rp.op, vH y.rp.st, vU y.rp.po, vW y.rp.ob, vB y.rp.ri, vU y.rp.ck, vU y.rp.ar, .slice A3 y.rp.da.length c3] rfl rfl rfl rfl rfl rfl rfl rfl rfl rfl rfl fun a hA => zW 2 ((35, .bool true) :: (34, .nilIface) :: _) hA (hS.tail 1 rfl) rfl fun a hA => dr_b (o := _) rfl ?_
   refine st_store tbOk hA hS [vU y.rp.to, vU y.rp.rp, vW y.rp.id, vH y.rp.op, vH y.rp.st, vU y.rp.po, vW y.rp.ob, vB y.rp.ri, vU y.rp.ck, vU y.rp.ar, .slice A3 y.rp.da.length c3] [vU y.rp.to, vU y.rp.rp, vW y.rp.id, vH y.rp.op, vH y.rp.st, vU y.rp.po, vW y.rp.ob, vB y.rp.ri, vU y.rp.ck, vU y.rp.ar, .slice A3 y.rp.da.length c3] rfl rfl rfl rfl rfl rfl (zn1 rfl) (zle rfl) rfl rfl rfl fun w31 hS => ?_
   refine zi (hS.tail 1 rfl) (zW 1 ((5, .bool true) :: _) hA (hS.tail 1 rfl) rfl fun a hA => ze (zx ?_))
   refine wp_ret (xt_ret (xb_ret (xt_ret (xt_ret (xb_ret (xt_ret ?_))))))
   refine retc2 tbOk (fn := Tryz.f18) (cs := [vU y.rp.to, vU y.rp.rp, vW y.rp.id, vH y.rp.op, vH y.rp.st, vU y.rp.po, vW y.rp.ob, vB y.rp.ri, vU y.rp.ck, vU y.rp.ar, .slice A3 y.rp.da.length c3]) hA rfl rfl rfl rfl rfl rfl (cells_row (hS.heapAt 0 rfl) rfl) ?_
   rw [e1, e2, e3]
   replace hS := hS.d1.d0
   exact ⟨_, _, _, _, hY3, ((hX.trans hX2).trans DX.refl.step), DD.right hE3, rfl, hS⟩
end Go.Proofs.YthiakdmhpfkjbaaGreatDoor

set_option linter.unusedVariables false
set_option linter.unusedSimpArgs false
set_option maxRecDepth 4000
namespace Go.Proofs.YthiakdmhpfkjbaaGreatDoor
open Go Go.SK
def upM (s : SY) (i : Nat) : Option NC :=
  match (s.nx[i]? : Option NX) with
  | some (.up st _) => some st.c
  | _ => none
theorem upM_some {s : SY} {i : Nat} {c : NC} (h : upM s i = some c) : ∃ st sr, s.nx[i]? = some (.up st sr) ∧ st.c = c := by
  rw [upM] at h
  cases hx : s.nx[i]? with
  | none => rw [hx] at h; cases h
  | some x =>
    cases x with
    | down c => rw [hx] at h; cases h
    | up st sr => rw [hx] at h; injection h with h; exact ⟨st, sr, rfl, h⟩
def mkM (po ob ri ck : Nat) (da : List UInt8) : MN := ⟨po, 0, 0, 100, 0, po, ob, ri, ck, 0, da⟩
def rdM (po ob ri ck p n : Nat) : MN := ⟨po, 0, 0, 101, 0, po, ob, ri, ck, p * 4294967296 + n, []⟩
def HG (w : World) : Prop := w.cell? ⟨0, 0, none⟩ = some (.iface 230 (.agg #[vP 1 26]))
end Go.Proofs.YthiakdmhpfkjbaaGreatDoor

set_option linter.unusedVariables false
set_option linter.unusedSimpArgs false
set_option maxRecDepth 4000
namespace Go.Proofs.YthiakdmhpfkjbaaGreatDoor
open Go Go.SK
def awM : Option Unit :=
  (netM 8).bind fun s0 => (upM s0 3).bind fun c => (transM (cutl (spread 400)) s0 (mkM c.r0 c.r1 c.r2 c.r3 [120, 121, 122])).bind fun x =>
  (transM (cutl (spread 400)) x.1 (rdM x.2.1.po x.2.1.ob x.2.1.ri x.2.1.ck 1 2)).bind fun y => if ¬ c.port = 0 ∧ x.2.2 = true ∧ y.2.2 = true ∧ y.2.1.da = [121, 122] then some () else none
theorem awM_is : awM = some () := by kernel_rfl
theorem awM_ex : ∃ s0 c s1 r1 s2 r2, netM 8 = some s0 ∧ upM s0 3 = some c ∧ transM (cutl (spread 400)) s0 (mkM c.r0 c.r1 c.r2 c.r3 [120, 121, 122]) = some (s1, r1, true) ∧ transM (cutl (spread 400)) s1 (rdM r1.po r1.ob r1.ri r1.ck 1 2) = some (s2, r2, true) ∧ ¬ c.port = 0 ∧ r2.da = [121, 122] := by
  have h := awM_is
  unfold awM at h
  obtain ⟨s0, h1, h⟩ := Option.bind_eq_some_iff.1 h
  obtain ⟨c, h2, h⟩ := Option.bind_eq_some_iff.1 h
  obtain ⟨⟨s1, r1, o1⟩, h3, h⟩ := Option.bind_eq_some_iff.1 h
  obtain ⟨⟨s2, r2, o2⟩, h4, h⟩ := Option.bind_eq_some_iff.1 h
  dsimp only at h h4
  by_cases hc : ¬ c.port = 0 ∧ o1 = true ∧ o2 = true ∧ r2.da = [121, 122]
  · obtain ⟨a, rfl, rfl, b⟩ := hc
    exact ⟨s0, c, s1, r1, s2, r2, h1, h2, h3, h4, a, b⟩
  · rw [if_neg hc] at h; cases h
set_option maxHeartbeats 4000000 in
theorem awake7 {w0 w : World} {F : List Chunk} (hS : St w0 w F) :
 Ret Tryz.prog 7 #[] w (fun v w' => v = .bool true ∧ St w0 w' F) := by
 obtain ⟨s0, c, s1, r1, s2, r2, h1, h2, h3, h4, hp, hda⟩ := awM_ex
 refine enter (vs := []) 50 Tryz.func7 rfl rfl (by simp) ?_; intro a hA
 refine zs (zr (zR 1 ((0, .bool false) :: _) hA rfl fun a hA => zn (zx (zs (zr ?_)))))
 refine st_call0 hA rfl rfl rfl isfn20 rfl rfl (by decide) (network20 hS (q := 127) (s := s0) (by rfl) (by decide) h1) ?_
 clear hA hS; rintro _ w1 a ⟨b2, L3, hY4, rfl, hS⟩ hA
 refine zR 5 ((2, .bool true) :: (1, vP b2 0) :: (12, .bool true) :: (11, vP b2 0) :: (9, .tuple #[vP b2 0, .bool true]) :: _) hA rfl fun a hA => zn (zx (zs (zs (zr (zR 2 ((14, .bool false) :: (13, .bool true) :: _) hA rfl fun a hA => zn (zx (cd_cond_f hA rfl (zk (zx (zs (zr (zR 1 ((16, vP b2 0) :: _) hA rfl fun a hA => ?_))))))))))))
 replace hS := hS.m1.m1
 obtain ⟨st6, sr7, hu8, hc9⟩ := upM_some h2
 refine st_call0 hA rfl rfl rfl isfn11 rfl rfl (by decide) (sroot11 hS hY4 (i := 3) hu8) ?_
 rw [hc9]
 clear hA hS; rintro _ w5 a ⟨L10, hY11, rfl, hS⟩ hA
 refine zR 3 ((19, .bool (((c.port : Nat) : Int) != 0)) :: (18, .agg #[vU c.r0, vW c.r1, vB c.r2, vU c.r3]) :: (15, .tuple #[.agg #[vU c.r0, vW c.r1, vB c.r2, vU c.r3], .bool (((c.port : Nat) : Int) != 0)]) :: _) hA rfl fun a hA => ?_
 refine st_alloc tbOk hA hS [.int .u64 0, .int .u32 0, .int .u8 0, .int .u64 0] rfl rfl rfl rfl rfl (by decide) fun b13 w14 a hS hA => ?_
 refine st_store tbOk hA hS [vU c.r0, vW c.r1, vB c.r2, vU c.r3] [vU c.r0, vW c.r1, vB c.r2, vU c.r3] rfl rfl rfl rfl rfl rfl (zn1 rfl) (zle rfl) rfl rfl rfl fun w15 hS => ?_
 replace hA := hA.rw 19 (v' := .bool true) rfl (vbool (by rw [bne_iff_ne]; exact fun h => hp (Int.ofNat.inj h)))
 refine zR 1 ((4, .bool true) :: _) hA rfl fun a hA => zn (zx (zs (zr (zR 1 ((21, vP b2 0) :: _) hA rfl fun a hA => zLA hA hS 0 [vU c.r0, vW c.r1, vB c.r2, vU c.r3] rfl rfl rfl rfl rfl rfl rfl rfl rfl rfl fun a hA => ?_))))
 refine st_buildSlice tbOk hA hS [.int .u8 120, .int .u8 121, .int .u8 122] rfl rfl rfl rfl rfl (by decide) (by kernel_rfl) rfl rfl (by decide) fun b16 w17 a hS hA => ?_
 refine st_mark tbOk hA ([120, 121, 122] : List UInt8) hS rfl rfl rfl rfl rfl rfl rfl rfl (by decide) (by decide) (by decide) fun C18 w19 a hDC18 hS hA => ?_
 refine st_call0 hA rfl rfl rfl isfn13 rfl rfl (by decide) (stmake13 hS c.r0 c.r1 c.r2 c.r3 (da := ([120, 121, 122] : List UInt8)) (fun w' h => ((hDC18 _ (h.only 0 rfl))).x) (by first | omega | exact Nat.zero_le _ | (simp only [List.length_take, List.drop_zero]; omega) | decide)) ?_
 clear hA hS; rintro _ w20 a ⟨Am21, cm22, Cm23, hm24, rfl, hS⟩ hA
 replace hS := hS.m4.m4
 refine st_call0 hA rfl rfl rfl isfn18 rfl rfl (by decide) (trans18 hS hY11 (mkM c.r0 c.r1 c.r2 c.r3 ([120, 121, 122] : List UInt8)) (fun w9 h9 => (hm24.rd (h9.own_ 1 rfl)).x) h3) ?_
 clear hA hS; rintro _ w25 a ⟨L29, D31, Ar26, cr27, hY30, hX32, hr28, rfl, hS⟩ hA
 refine zR 3 ((28, .bool true) :: (27, .agg #[vU r1.to, vU r1.rp, vW r1.id, vH r1.op, vH r1.st, vU r1.po, vW r1.ob, vB r1.ri, vU r1.ck, vU r1.ar, .slice Ar26 r1.da.length cr27]) :: (20, .tuple #[.agg #[vU r1.to, vU r1.rp, vW r1.id, vH r1.op, vH r1.st, vU r1.po, vW r1.ob, vB r1.ri, vU r1.ck, vU r1.ar, .slice Ar26 r1.da.length cr27], .bool true]) :: _) hA rfl fun a hA => ?_
 refine st_alloc tbOk hA hS [.int .u64 0, .int .u64 0, .int .u32 0, .int .u16 0, .int .u16 0, .int .u64 0, .int .u32 0, .int .u8 0, .int .u64 0, .int .u64 0, .slice none 0 0] rfl rfl rfl rfl rfl (by decide) fun b33 w34 a hS hA => ?_
 refine st_store tbOk hA hS [vU r1.to, vU r1.rp, vW r1.id, vH r1.op, vH r1.st, vU r1.po, vW r1.ob, vB r1.ri, vU r1.ck, vU r1.ar, .slice Ar26 r1.da.length cr27] [vU r1.to, vU r1.rp, vW r1.id, vH r1.op, vH r1.st, vU r1.po, vW r1.ob, vB r1.ri, vU r1.ck, vU r1.ar, .slice Ar26 r1.da.length cr27] rfl rfl rfl rfl rfl rfl (zn1 rfl) (zle rfl) rfl rfl rfl fun w35 hS => ?_
 refine zR 1 ((6, .bool true) :: _) hA rfl fun a hA => zn (zx (zs (zr (zR 2 ((31, vP b33 5) :: (30, vP b2 0) :: _) hA rfl fun a hA => zLA hA hS 0 [vU r1.po, vW r1.ob, vB r1.ri, vU r1.ck] rfl rfl rfl rfl rfl rfl rfl rfl rfl rfl fun a hA => ?_))))
 refine st_call0 hA rfl rfl rfl isfn25 rfl rfl (by decide) (stread25 hS r1.po r1.ob r1.ri r1.ck (p := 1) (n := 2) (by omega) (by omega)) ?_
 clear hA hS; rintro _ w36 a ⟨Am37, cm38, Cm39, hm40, rfl, hS⟩ hA
 replace hS := hS.m3.m3
 refine st_call0 hA rfl rfl rfl isfn18 rfl rfl (by decide) (trans18 hS hY30 (rdM r1.po r1.ob r1.ri r1.ck 1 2) (fun w9 h9 => (hm40.rd (h9.own_ 1 rfl)).x) h4) ?_
 clear hA hS; rintro _ w41 a ⟨L45, D47, Ar42, cr43, hY46, hX48, hr44, rfl, hS⟩ hA
 refine zR 3 ((36, .bool true) :: (35, .agg #[vU r2.to, vU r2.rp, vW r2.id, vH r2.op, vH r2.st, vU r2.po, vW r2.ob, vB r2.ri, vU r2.ck, vU r2.ar, .slice Ar42 r2.da.length cr43]) :: (29, .tuple #[.agg #[vU r2.to, vU r2.rp, vW r2.id, vH r2.op, vH r2.st, vU r2.po, vW r2.ob, vB r2.ri, vU r2.ck, vU r2.ar, .slice Ar42 r2.da.length cr43], .bool true]) :: _) hA rfl fun a hA => ?_
 refine st_alloc tbOk hA hS [.int .u64 0, .int .u64 0, .int .u32 0, .int .u16 0, .int .u16 0, .int .u64 0, .int .u32 0, .int .u8 0, .int .u64 0, .int .u64 0, .slice none 0 0] rfl rfl rfl rfl rfl (by decide) fun b49 w50 a hS hA => ?_
 refine st_store tbOk hA hS [vU r2.to, vU r2.rp, vW r2.id, vH r2.op, vH r2.st, vU r2.po, vW r2.ob, vB r2.ri, vU r2.ck, vU r2.ar, .slice Ar42 r2.da.length cr43] [vU r2.to, vU r2.rp, vW r2.id, vH r2.op, vH r2.st, vU r2.po, vW r2.ob, vB r2.ri, vU r2.ck, vU r2.ar, .slice Ar42 r2.da.length cr43] rfl rfl rfl rfl rfl rfl (zn1 rfl) (zle rfl) rfl rfl rfl fun w51 hS => ?_
 refine zR 1 ((8, .bool true) :: _) hA rfl fun a hA => zn (zx (zs (zr (zR 9 ((45, vP b49 10) :: (44, .bool true) :: (43, .bool true) :: (42, .bool true) :: (41, .bool true) :: (40, .bool true) :: (39, .bool true) :: (38, .bool true) :: (37, .bool true) :: _) hA rfl fun a hA => zL hA hS 0 rfl rfl rfl rfl rfl rfl rfl rfl rfl fun a hA => st_val hA rfl rfl (by decide) (rn_bstr tbOk hA (bs := r2.da) rfl rfl rfl rfl rfl rfl rfl rfl (hr44 _ (hS.only 2 rfl))) fun a hA => zR 1 ((48, .bool ((bsv r2.da).toList == (⟨#[121, 122]⟩ : ByteArray).toList)) :: _) hA rfl fun a hA => ?_))))
 replace hA := hA.rw 48 (v' := .bool true) rfl (vbool (by rw [hda]; exact (bsv_eq [121, 122] [121, 122]).trans (by decide)))
 refine zR 2 ((0, .bool true) :: (49, .bool true) :: _) hA rfl fun a hA => zn (zx ?_)
 refine wp_ret ?_
 refine ret1 (fn := Tryz.f7) hA rfl rfl ?_
 replace hS := hS.d0.d0.d0.d0.d0.d0.d0.d0
 exact ⟨rfl, hS⟩
end Go.Proofs.YthiakdmhpfkjbaaGreatDoor

set_option linter.unusedVariables false
set_option linter.unusedSimpArgs false
set_option maxRecDepth 4000
namespace Go.Proofs.YthiakdmhpfkjbaaGreatDoor
open Go Go.SK
def dblM (s : SY) (p : Nat) : Option SY :=
  match s.wi[p % s.wi.length]? with
  | some x => if s.wi.length < 1024 ∧ (∀ y ∈ s.wi, y.da.length ≤ 1000000) then some { s with wi := app s.wi [x] } else none
  | none => none
theorem dblM_some {s s' : SY} {p : Nat} (h : dblM s p = some s') : ∃ x, s.wi[p % s.wi.length]? = some x ∧ s.wi.length < 1024 ∧ (∀ y ∈ s.wi, y.da.length ≤ 1000000) ∧ s' = { s with wi := s.wi ++ [x] } := by
  rw [dblM] at h
  cases hx : s.wi[p % s.wi.length]? with
  | none => rw [hx] at h; cases h
  | some x =>
    rw [hx] at h; dsimp only at h
    by_cases hc : s.wi.length < 1024 ∧ (∀ y ∈ s.wi, y.da.length ≤ 1000000)
    · rw [if_pos hc, app_eq] at h; injection h with h; exact ⟨x, rfl, hc.1, hc.2, h.symm⟩
    · rw [if_neg hc] at h; cases h
theorem pdat_len {w0 : World} {D : Chunk} {ps : List Pkt} {pn : List PN} (h : PKS w0 D ps pn) (hs : ∀ y ∈ pn, y.da.length ≤ 1000000) : ∀ x ∈ ps, (pdat x).length ≤ 140737488351232 := fun x hx => by
  obtain ⟨j, hj⟩ := List.mem_iff_getElem?.1 hx
  obtain ⟨p, hp, e, _⟩ := h.at_ hj
  have h1 := hs p (List.mem_of_getElem? hp)
  have e1 : pdat x = p.da := congrArg (fun z => z.2.2.2.2.2) e
  rw [e1]; omega
theorem wdbl40 {w0 w : World} {F : List Chunk} {bw p : Nat} {WL D : Chunk} {x : PN} {wi : List PN} (hS : St w0 w (WL :: D :: F)) (hW : WRA w0 bw wi WL D) (hx : wi[p % wi.length]? = some x) (hl : wi.length < 1024) (hs : ∀ y ∈ wi, y.da.length ≤ 1000000) :
    Ret Tryz.prog 40 #[vP bw 0, vI p] w (fun v w' => ∃ WL' D', WRA w0 bw (wi ++ [x]) WL' D' ∧ DX w0 D D' ∧ v = .nilIface ∧ St w0 w' (WL' :: D' :: F)) := by
  obtain ⟨ps, h1, h2⟩ := hW
  have hlen : ps.length = wi.length := h2.len.symm ▸ rfl
  have h0 : 0 < ps.length := by rw [hlen]; exact Nat.lt_of_le_of_lt (Nat.zero_le _) (List.getElem?_eq_some_iff.1 hx).1
  refine Calls.mono (double_ok40 hS h1 ((p : Nat) : Int) h0 (by omega) h2.2 (pdat_len h2 hs)) ?_
  rintro en w' ⟨v, he, k, y, hk, hkp, hy, L', E, A, c, g1, g2, g3, g4⟩
  have hk0 : k = p % wi.length := by rw [← Int.natCast_emod, hlen] at hkp; exact Int.ofNat.inj hkp
  subst hk0
  obtain ⟨q, hq, e, hdx⟩ := h2.at_ hy
  rw [hx] at hq; injection hq with hq; subst hq
  obtain ⟨k0, k1, k2, k3, k4, kA, kc, kb⟩ := y
  simp only [pst, pdat, PN.t, Prod.mk.injEq] at e
  obtain ⟨e0, e1, e2, e3, e4, e5⟩ := e
  subst e0 e1 e2 e3 e4 e5
  exact ⟨v, he, L', E ++ D, ⟨_, g1, h2.snoc g2⟩, DX.refl.step, g3, g4⟩
set_option maxHeartbeats 4000000 in
theorem do_dbl15 {w0 w : World} {F : List Chunk} {b : Nat} {ts : List Nat} {s : SY} {L D : Chunk} {s' : SY} {p : Nat} (hS : St w0 w (L :: D :: F)) (hY : SYS w0 b ts s L D) (hM : dblM s p = some s') :
 Ret Tryz.prog 15 #[vP b 0, .agg #[.int .u8 2, .int .i64 0, vI p]] w (fun v w' => ∃ L' D', SYS w0 b ts s' L' D' ∧ DX w0 D D' ∧ v = .nilIface ∧ St w0 w' (L' :: D' :: F)) := by
 obtain ⟨bw, bo, bs, A, c, C, NL, WL, OL, hs, rfl⟩ := hY
 replace hS : St w0 w ([(b, rowO [.slice A bs.length c, vP bw 0] 77)] :: C :: NL :: WL :: OL :: D :: F) := hS.cast (by simp)
 obtain ⟨x, hx, hl, hsz, rfl⟩ := dblM_some hM
 refine enter (vs := [vP b 0, .agg #[.int .u8 2, .int .i64 0, vI p]]) 108 Tryz.func15 rfl rfl (by simp) ?_; intro a hA
 refine zs (zr ?_)
 refine st_box hA hS [.int .u8 2, .int .i64 0, vI p] rfl rfl rfl rfl rfl (by decide) fun b1 w2 a hS hA => ?_
 refine zR 1 ((4, .nilIface) :: _) hA rfl fun a hA => zn (zx (zs (zs (zr (zR 1 ((13, vP b1 0) :: _) hA rfl fun a hA => zL hA hS 0 rfl rfl rfl rfl rfl rfl rfl rfl rfl fun a hA => zn (zx (zb (zs (zr (zR 2 ((15, .bool false) :: (16, .bool false) :: _) hA rfl fun a hA => zn (zx (cd_cond_f hA rfl (zs (zr (zR 2 ((41, .bool false) :: (42, .bool false) :: _) hA rfl fun a hA => zn (zx (cd_cond_f hA rfl (zs (zr (zR 2 ((52, .bool true) :: (53, .bool true) :: _) hA rfl fun a hA => zn (zx (cd_cond_t hA rfl (zs ?_)))))))))))))))))))))))
 replace hS := hS.m6.m5
 refine zD2 hS [] [(0, true), (1, true), (2, true), (3, true), (4, true), (5, true), (6, false), (7, true)] mixed (by kernel_rfl) (by rintro c a w ⟨_, _, h, _⟩; cases h) (by rfl) (by kernel_rfl) ?_
 replace hS := hS.drew
 refine zW 3 ((56, vP b 1) :: (55, vP b 0) :: (54, vP b 0) :: _) hA (hS.tail 2 rfl) rfl fun a hA => zY hA (hS.tail 2 rfl) 1 rfl rfl rfl rfl rfl rfl rfl rfl rfl rfl fun a hA => zW 1 ((58, vP b1 2) :: _) hA (hS.tail 2 rfl) rfl fun a hA => zY hA (hS.tail 2 rfl) 0 rfl rfl rfl rfl rfl rfl rfl rfl rfl rfl fun a hA => dr_b (o := _) rfl ?_
 replace hS := hS.m1.m1
 refine st_call0 hA rfl rfl rfl isfn40 rfl rfl (by decide) (wdbl40 hS hs.fw hx hl hsz) ?_
 clear hA hS; rintro _ w3 a ⟨WL2, D2, hW2, hX2, rfl, hS⟩ hA
 refine zi (hS.tail 2 rfl) (zW 1 ((4, .nilIface) :: _) hA (hS.tail 2 rfl) rfl fun a hA => ze (zx ?_))
 refine wp_ret (xb_ret (xt_ret ?_))
 refine ret1 (fn := Tryz.f15) hA rfl rfl ?_
 replace hS := hS.d2.m5.m1.m5.m5.m5
 replace hS : St w0 w3 (((b, rowO [.slice A bs.length c, vP bw 0] 77) :: (C ++ (NL ++ (WL2 ++ OL)))) :: D2 :: F) := hS.cast (by simp)
 exact ⟨_, _, ⟨bw, bo, bs, A, c, C, _, _, _, ⟨NDS.dx hX2 hs.fn, hW2, hs.fo, hs.fr⟩, rfl⟩, hX2, rfl, hS⟩
def dblsM (s : SY) : Nat → Option SY
  | 0 => some s
  | n + 1 => match dblM s (n + 1) with
    | some s' => dblsM s' n
    | none => none
theorem dblsM_succ {s s' : SY} {n : Nat} (h : dblsM s (n + 1) = some s') : ∃ s1, dblM s (n + 1) = some s1 ∧ dblsM s1 n = some s' := by
  rw [dblsM] at h
  cases hd : dblM s (n + 1) with
  | none => rw [hd] at h; cases h
  | some s1 => rw [hd] at h; exact ⟨s1, rfl, h⟩
def rndM (ts : List Nat) (t : Nat) (s : SY) : Option SY :=
  if s.wi.length < 1024 then
    match dblsM s (s.wi.length * (1 + t)) with
    | none => none
    | some s1 => match settleM ts 2000 s1 0 10000 with
      | none => none
      | some (s2, _) => ticksM s2 s2.nx.length
  else none
theorem rndM_some {ts : List Nat} {t : Nat} {s s' : SY} (h : rndM ts t s = some s') : s.wi.length < 1024 ∧ ∃ s1 s2 d, dblsM s (s.wi.length * (1 + t)) = some s1 ∧ settleM ts 2000 s1 0 10000 = some (s2, d) ∧ ticksM s2 s2.nx.length = some s' := by
  rw [rndM] at h
  by_cases hl : s.wi.length < 1024
  · rw [if_pos hl] at h
    cases hd : dblsM s (s.wi.length * (1 + t)) with
    | none => rw [hd] at h; cases h
    | some s1 =>
      rw [hd] at h; dsimp only at h
      cases hs : settleM ts 2000 s1 0 10000 with
      | none => rw [hs] at h; cases h
      | some r => obtain ⟨s2, d⟩ := r; rw [hs] at h; exact ⟨hl, s1, s2, d, rfl, hs, h⟩
  · rw [if_neg hl] at h; cases h
def rndsM (ts : List Nat) (t : Nat) (s : SY) : Nat → Option SY
  | 0 => some s
  | j + 1 => match rndsM ts t s j with
    | none => none
    | some s' => rndM ts t s'
theorem rndsM_le {ts : List Nat} {t : Nat} {s x : SY} {n : Nat} (h : rndsM ts t s n = some x) : ∀ j ≤ n, ∃ y, rndsM ts t s j = some y := by
  induction n generalizing x with
  | zero =>
    intro j hj
    obtain rfl : j = 0 := by omega
    exact ⟨x, h⟩
  | succ n ih =>
    intro j hj
    by_cases hjn : j = n + 1
    · subst hjn; exact ⟨x, h⟩
    · rw [rndsM] at h
      cases hm : rndsM ts t s n with
      | none => rw [hm] at h; cases h
      | some y => exact ih hm j (by omega)
theorem rndsM_some {ts : List Nat} {t : Nat} {s x y : SY} {j : Nat} (hj : rndsM ts t s j = some x) (h : rndsM ts t s (j + 1) = some y) : rndM ts t x = some y := by
  rw [rndsM, hj] at h; exact h
def dcM (ts : List Nat) (t : Nat) (m : MN) (s : SY) (k : Nat) : Option SY :=
  match callM s 0 m with
  | none => none
  | some (s1, id) => match rndsM ts t s1 4 with
    | none => none
    | some s2 => match get0M s2 id with
      | none => none
      | some y => if y.st = 2 ∧ y.rp.st = 0 ∧ y.rp.ob = k then some s2 else none
theorem dcM_some {ts : List Nat} {t k : Nat} {m : MN} {s s' : SY} (h : dcM ts t m s k = some s') : ∃ s1 id y, callM s 0 m = some (s1, id) ∧ rndsM ts t s1 4 = some s' ∧ get0M s' id = some y ∧ y.st = 2 ∧ y.rp.st = 0 ∧ y.rp.ob = k := by
  rw [dcM] at h
  cases hc : callM s 0 m with
  | none => rw [hc] at h; cases h
  | some r =>
    obtain ⟨s1, id⟩ := r
    rw [hc] at h; dsimp only at h
    cases hr : rndsM ts t s1 4 with
    | none => rw [hr] at h; cases h
    | some s2 =>
      rw [hr] at h; dsimp only at h
      cases hg : get0M s2 id with
      | none => rw [hg] at h; cases h
      | some y =>
        rw [hg] at h; dsimp only at h
        by_cases hy : y.st = 2 ∧ y.rp.st = 0 ∧ y.rp.ob = k
        · rw [if_pos hy] at h; injection h with h; subst h; exact ⟨s1, id, y, rfl, hr, hg, hy.1, hy.2.1, hy.2.2⟩
        · rw [if_neg hy] at h; cases h
def dcsM (ts : List Nat) (t : Nat) (m : MN) (s : SY) : Nat → Option SY
  | 0 => some s
  | j + 1 => match dcsM ts t m s j with
    | none => none
    | some s' => dcM ts t m s' (j + 1)
theorem dcsM_le {ts : List Nat} {t : Nat} {m : MN} {s x : SY} {n : Nat} (h : dcsM ts t m s n = some x) : ∀ j ≤ n, ∃ y, dcsM ts t m s j = some y := by
  induction n generalizing x with
  | zero =>
    intro j hj
    obtain rfl : j = 0 := by omega
    exact ⟨x, h⟩
  | succ n ih =>
    intro j hj
    by_cases hjn : j = n + 1
    · subst hjn; exact ⟨x, h⟩
    · rw [dcsM] at h
      cases hm : dcsM ts t m s n with
      | none => rw [hm] at h; cases h
      | some y => exact ih hm j (by omega)
theorem dcsM_some {ts : List Nat} {t : Nat} {m : MN} {s x y : SY} {j : Nat} (hj : dcsM ts t m s j = some x) (h : dcsM ts t m s (j + 1) = some y) : dcM ts t m x (j + 1) = some y := by
  rw [dcsM, hj] at h; exact h
def netL (p n : Nat) : Option SY := ofM [0, 3] (cfgN p) (cutl (spread n))
def dbM (p t : Nat) (l : List UInt8) : Option Unit :=
  (netL p 60).bind fun s0 => (upM s0 1).bind fun c => (dcsM (cutl (spread 60)) t (mkM c.r0 c.r1 c.r2 c.r3 l) s0 3).map fun _ => ()
theorem dbM_ex {p t : Nat} {l : List UInt8} (h : dbM p t l = some ()) : ∃ s0 c s1, netL p 60 = some s0 ∧ upM s0 1 = some c ∧ dcsM (cutl (spread 60)) t (mkM c.r0 c.r1 c.r2 c.r3 l) s0 3 = some s1 := by
  unfold dbM at h
  obtain ⟨s0, h1, h⟩ := Option.bind_eq_some_iff.1 h
  obtain ⟨c, h2, h⟩ := Option.bind_eq_some_iff.1 h
  cases hd : dcsM (cutl (spread 60)) t (mkM c.r0 c.r1 c.r2 c.r3 l) s0 3 with
  | none => rw [hd] at h; cases h
  | some s1 => exact ⟨s0, c, s1, h1, h2, hd⟩
end Go.Proofs.YthiakdmhpfkjbaaGreatDoor

set_option linter.unusedVariables false
set_option linter.unusedSimpArgs false
set_option maxRecDepth 4000
namespace Go.Proofs.YthiakdmhpfkjbaaGreatDoor
open Go Go.SK
theorem min50 (n : Nat) : (if (50 : Int) < ((n : Nat) : Int) then (50 : Int) else ((n : Nat) : Int)) = ((min n 50 : Nat) : Int) := by split <;> omega
set_option maxHeartbeats 8000000 in
theorem topDoubled4 {w0 w : World} {F : List Chunk} (hS : St w0 w F) (hg : HG w0) {v1 : Value} {l1 : List UInt8} (hr : RdS w0 F 1 v1 l1.length (rows encB l1)) {a0 a1 q : Nat} (ha1 : a1 < 256) (hor : Go.bits .or .u8 ((a0 : Nat) : Int) 31 = ((q : Nat) : Int)) (hq : q < 256) (hall : ∀ x : List UInt8, x.length ≤ 50 → dbM (1 + q % 120) (a1 % 2) x = some ()) :
 Ret Tryz.prog 4 #[vB a0, vB a1, v1] w (fun v w' => v = .bool true ∧ St w0 w' F) := by
 obtain ⟨B1, d1, rfl, hmd, hdx⟩ := (hr w hS).open'
 have hx50 : ((l1.take (min l1.length 50)).drop 0).length ≤ 50 := by rw [List.drop_zero, List.length_take]; omega
 obtain ⟨s0, c, s1, h1, h2, h3⟩ := dbM_ex (hall ((l1.take (min l1.length 50)).drop 0) hx50)
 refine enter (vs := [vB a0, vB a1, .slice B1 l1.length d1]) 104 Tryz.func4 rfl rfl (by simp) ?_; intro a hA
 refine zs (zr (zR 1 ((6, .bool false) :: _) hA rfl fun a hA => zn (zx (zs (zs (zr ?_))))))
 refine st_call0 hA rfl rfl rfl isfn7 rfl rfl (by decide) (awake7 hS) ?_
 clear hA hS; rintro _ w1 a ⟨rfl, hS⟩ hA
 refine zR 1 ((19, .bool false) :: _) hA rfl fun a hA => zn (zx (cd_cond_f hA rfl (zk (zx (zs (zr ?_))))))
 refine st_buildSlice tbOk hA hS [.int .i64 0, .int .i64 3] rfl rfl rfl rfl rfl (by decide) (by kernel_rfl) rfl rfl (by decide) fun b2 w3 a hS hA => ?_
 refine zR 1 ((22, vB a0) :: _) hA rfl fun a hA => ?_
 refine st_call0 hA rfl rfl rfl isfn9 rfl rfl (by decide) (config9 hS (q := q) hor hq) ?_
 clear hA hS; rintro _ w4 a ⟨rfl, hS⟩ hA
 refine st_call0 hA rfl rfl rfl isfn10 rfl rfl (by decide) (spread_10 hS 60 (by omega)) ?_
 clear hA hS; rintro _ w5 a ⟨As, cs, Cs, hOs, rfl, hS⟩ hA
 refine st_call0 hA rfl rfl rfl isfn8 rfl rfl (by decide) (of8 (ks := [0, 3]) (c := cfgN (1 + q % 120)) (ts := cutl (spread 60)) (ts0 := spread 60) (s := s0) hS (fun w9 h9 => (Own.full (T := 29) (size := 1) (g := b2) (m := 2) (xs := rows encKi [0, 3]) rfl (by decide)).rd (h9.own_ 1 rfl)) (fun w9 h9 => hOs.rd (h9.own_ 0 rfl)) (by rw [spread_length]; decide) (by intro x hx; obtain ⟨k, hk, rfl⟩ := List.mem_map.1 hx; have := List.mem_range.1 hk; omega) rfl (by decide) (by decide) h1) ?_
 clear hA hS; rintro _ w6 a ⟨b, L, hY, rfl, hS⟩ hA
 refine zR 5 ((8, .nilIface) :: (7, vP b 0) :: (27, .nilIface) :: (26, vP b 0) :: (20, .tuple #[vP b 0, .nilIface]) :: _) hA rfl fun a hA => zn (zx (zs (zs (zr (zR 2 ((29, .bool false) :: (28, .nilIface) :: _) hA rfl fun a hA => zn (zx (cd_cond_f hA rfl (zk (zx (zs (zr (zR 1 ((31, vP b 0) :: _) hA rfl fun a hA => ?_))))))))))))
 replace hS := hS.m1.m1
 obtain ⟨st8, sr9, hu10, hc11⟩ := upM_some h2
 refine st_call0 hA rfl rfl rfl isfn11 rfl rfl (by decide) (sroot11 hS hY (i := 1) hu10) ?_
 rw [hc11]
 clear hA hS; rintro _ w7 a ⟨L12, hY13, rfl, hS⟩ hA
 refine zR 3 ((34, .bool (((c.port : Nat) : Int) != 0)) :: (33, .agg #[vU c.r0, vW c.r1, vB c.r2, vU c.r3]) :: (30, .tuple #[.agg #[vU c.r0, vW c.r1, vB c.r2, vU c.r3], .bool (((c.port : Nat) : Int) != 0)]) :: _) hA rfl fun a hA => ?_
 refine st_alloc tbOk hA hS [.int .u64 0, .int .u32 0, .int .u8 0, .int .u64 0] rfl rfl rfl rfl rfl (by decide) fun b15 w16 a hS hA => ?_
 refine st_store tbOk hA hS [vU c.r0, vW c.r1, vB c.r2, vU c.r3] [vU c.r0, vW c.r1, vB c.r2, vU c.r3] rfl rfl rfl rfl rfl rfl (zn1 rfl) (zle rfl) rfl rfl rfl fun w17 hS => ?_
 refine zR 1 ((10, .bool (((c.port : Nat) : Int) != 0)) :: _) hA rfl fun a hA => zn (zx (zs (zs (zr (zR 1 ((11, .int .i64 1) :: _) hA rfl fun a hA => zn (zx (zb ?_)))))))
 replace hS := hS.d4.d3.m2.m2
 refine wp_loop_ghost (fun m a w => ∃ (j : Nat) (sj : SY) (L' : Chunk) (D' : Chunk), m = 3 - j ∧ Has a 104 [(1, vB a1), (2, .slice B1 l1.length d1), (7, vP b 0), (9, vP b15 0), (11, vI (j + 1))] ∧ St w0 w (L' :: D' :: [(b15, rowO [vU c.r0, vW c.r1, vB c.r2, vU c.r3] 39)] :: F) ∧ (j ≤ 3) ∧ (dcsM (cutl (spread 60)) (a1 % 2) (mkM c.r0 c.r1 c.r2 c.r3 ((l1.take (min l1.length 50)).drop 0)) s0 j = some sj) ∧ (SYS w0 b (cutl (spread 60)) sj L' D')) (3 - 0)
  ⟨0, s0, L12, ([]), rfl, (hA.sel [1, 2, 7, 9, 11] rfl), hS, Nat.zero_le _, rfl, hY13⟩ ?_
 clear hA hS; rintro m0 a w18 ⟨j, sj, L', D', rfl, hA, hS, hj, hC, hYj⟩
 refine zs (zs (zr (zR 2 ((36, .bool (decide (((j + 1 : Nat) : Int) ≤ 3))) :: (35, vI (j + 1)) :: _) hA rfl fun a hA => zn (zx ?_))))
 by_cases hc19 : ((j + 1 : Nat) : Int) ≤ 3
 · first
   | (exfalso; omega)
   | (replace hA := hA.rw 36 (v' := .bool true) rfl (vb_true hc19)
      refine cd_cond_t hA rfl (zk (zx (zs (zb (zs ?_)))))
      replace hS := hS.m1.m1
      refine zD2 hS [] [(0, true), (1, true), (2, true), (3, true), (4, true), (5, true), (6, true), (7, false), (8, false), (9, true), (10, true), (11, true), (12, true), (13, true)] mixed (by kernel_rfl) (by rintro c a w ⟨_, _, h, _⟩; cases h) (by rfl) (by kernel_rfl) ?_
      replace hS := hS.drew
      refine zW 1 ((40, vP b 0) :: _) hA (hS.tail 2 rfl) rfl fun a hA => zYA hA (hS.tail 2 rfl) 0 [vU c.r0, vW c.r1, vB c.r2, vU c.r3] rfl rfl rfl rfl rfl rfl rfl rfl rfl rfl rfl fun a hA => zW 4 ((45, .int .i64 (if 50 < ((l1.length : Nat) : Int) then 50 else ((l1.length : Nat) : Int))) :: (44, vI l1.length) :: (43, .slice B1 l1.length d1) :: (42, .slice B1 l1.length d1) :: _) hA (hS.tail 2 rfl) rfl fun a hA => ?_
      replace hA := hA.rw 45 (v' := vI (min l1.length 50)) rfl (vint (min50 _))
      refine dr_y hA rfl rfl rfl (by decide) (hS.tail 2 rfl) (fun w' hS' => rn_slice_h tbOk hA (min l1.length 50) rfl rfl rfl rfl rfl rfl (by rfl) (by omega)) fun a hA => ?_
      replace hA := hA.rw 46 (v' := .slice B1 ((l1.take (min l1.length 50)).length) d1) rfl (congrArg (fun m => Value.slice _ m _) (by rw [List.length_take]; omega))
      refine dr_b (o := _) rfl ?_
      refine st_call0 hA rfl rfl rfl isfn13 rfl rfl (by decide) (stmake13 hS c.r0 c.r1 c.r2 c.r3 (da := l1.take (min l1.length 50)) (fun w' h => (((hr _ (h.tail 3 rfl)).rhead encB_ok (min l1.length 50) (by omega))).x) (by first | omega | exact Nat.zero_le _ | (simp only [List.length_take, List.drop_zero]; omega) | decide)) ?_
      clear hA hS; rintro _ w20 a ⟨Am21, cm22, Cm23, hm24, rfl, hS⟩ hA
      refine zi (hS.tail 3 rfl) (dr_b (o := _) rfl ?_)
      replace hS := hS.m2.m2
      obtain ⟨y9, hj9⟩ := dcsM_le h3 (j + 1) (by omega); obtain ⟨sc, idc, yc, hcm, hrs, hgt, hys, hyr, hyo⟩ := dcM_some (dcsM_some hC hj9); obtain ⟨st9, sr9, st8, out9, hx9, hc9, hs9, hse, rfl⟩ := callM_some hcm
      refine st_call0 hA rfl rfl rfl isfn12 rfl rfl (by decide) (scall12 hS hYj (i := 0) hx9 (mkM c.r0 c.r1 c.r2 c.r3 (l1.take (min l1.length 50))) (fun w9 h9 => (hm24.rd (h9.own_ 1 rfl)).x) hc9 hs9) ?_
      clear hA hS; rintro _ w25 a ⟨L2, D2, hY2, hX2, rfl, hS⟩ hA; rw [← hse] at hY2
      refine zi (hS.tail 3 rfl) (zW 5 ((13, .nilIface) :: (12, vW (st9.ca.length + 1)) :: (50, .nilIface) :: (49, vW (st9.ca.length + 1)) :: (39, .tuple #[vW (st9.ca.length + 1), .nilIface]) :: _) hA (hS.tail 3 rfl) rfl fun a hA => ze (zx (zs (zs (zr (zR 1 ((51, .int .i64 0) :: _) hA rfl fun a hA => zn (zx (zb ?_))))))))
      replace hS := hS.d2
      refine wp_loop_ghost (fun m a w => ∃ (i : Nat) (si : SY) (Li : Chunk) (Di : Chunk), m = 4 - i ∧ Has a 104 [(1, vB a1), (2, .slice B1 l1.length d1), (7, vP b 0), (9, vP b15 0), (11, vI (j + 1)), (12, vW (st9.ca.length + 1)), (13, .nilIface), (51, vI i)] ∧ St w0 w (Li :: Di :: [(b15, rowO [vU c.r0, vW c.r1, vB c.r2, vU c.r3] 39)] :: F) ∧ (i ≤ 4) ∧ (rndsM (cutl (spread 60)) (a1 % 2) sc i = some si) ∧ (SYS w0 b (cutl (spread 60)) si Li Di)) (4 - 0)
       ⟨0, sc, L2, D2, rfl, (hA.sel [1, 2, 7, 9, 11, 12, 13, 51] rfl), hS, Nat.zero_le _, rfl, hY2⟩ ?_
      clear hA hS; rintro m0 a w26 ⟨i, si, Li, Di, rfl, hA, hS, hi, hR, hYi⟩
      refine zs (zr (zR 1 ((52, .bool (decide (((i : Nat) : Int) < 4))) :: _) hA rfl fun a hA => zn (zx (zs ?_))))
      by_cases hc27 : ((i : Nat) : Int) < 4
      · first
        | (exfalso; omega)
        | (replace hA := hA.rw 52 (v' := .bool true) rfl (vb_true hc27)
           refine cd_cond_t hA rfl (zk (zx (zs (zb (zs (zs (zr (zR 1 ((53, vP b 0) :: _) hA rfl fun a hA => ?_))))))))
           replace hS := hS.m1.m1
           obtain ⟨y8, hi9⟩ := rndsM_le hrs (i + 1) (by omega); obtain ⟨hwl, sd, se, de, hdb, hst, htk⟩ := rndM_some (rndsM_some hR hi9); have hml : si.wi.length * (1 + a1 % 2) ≤ 1024 * 2 := Nat.mul_le_mul (by omega) (by omega)
           refine st_call0 hA rfl rfl rfl isfn14 rfl rfl (by decide) (sflying14 hS hYi) ?_
           clear hA hS; rintro _ w28 a ⟨L3, hY3, rfl, hS⟩ hA
           refine zR 2 ((56, .int .u8 (((a1 : Nat) : Int).tmod 2)) :: (55, vB a1) :: _) hA rfl fun a hA => ?_
           replace hA := hA.rw 56 (v' := vB (a1 % 2)) rfl (vint (Int.ofNat_tmod _ _).symm)
           refine zR 1 ((57, .int .i64 (IntKind.i64.wrap ((a1 % 2 : Nat) : Int))) :: _) hA rfl fun a hA => ?_
           replace hA := hA.rw 57 (v' := vI (a1 % 2)) rfl (wr64 (by first | rfl | omega) (by omega) (by omega))
           refine zR 1 ((58, .int .i64 (IntKind.i64.wrap (1 + ((a1 % 2 : Nat) : Int)))) :: _) hA rfl fun a hA => ?_
           replace hA := hA.rw 58 (v' := vI (1 + (a1 % 2))) rfl (wr64 (by omega) (by omega) (by omega))
           refine zR 1 ((59, .int .i64 (IntKind.i64.wrap (((si.wi.length : Nat) : Int) * ((1 + (a1 % 2) : Nat) : Int)))) :: _) hA rfl fun a hA => ?_
           replace hA := hA.rw 59 (v' := vI (si.wi.length * (1 + (a1 % 2)))) rfl (wr64 (by omega) (by omega) (by omega))
           refine zR 1 ((14, vI (si.wi.length * (1 + (a1 % 2)))) :: _) hA rfl fun a hA => zn (zx (zb ?_))
           refine wp_loop_ghost (fun m a w => ∃ (n : Nat) (sn : SY) (Ln : Chunk) (Dn : Chunk), m = 2 * n ∧ Has a 104 [(1, vB a1), (2, .slice B1 l1.length d1), (7, vP b 0), (9, vP b15 0), (11, vI (j + 1)), (12, vW (st9.ca.length + 1)), (13, .nilIface), (14, vI n), (51, vI i)] ∧ St w0 w (Ln :: Dn :: [(b15, rowO [vU c.r0, vW c.r1, vB c.r2, vU c.r3] 39)] :: F) ∧ (n ≤ 1024 * 2) ∧ (dblsM sn n = some sd) ∧ (SYS w0 b (cutl (spread 60)) sn Ln Dn)) (2 * (si.wi.length * (1 + a1 % 2)))
            ⟨(si.wi.length * (1 + a1 % 2)), si, L3, Di, rfl, (hA.sel [1, 2, 7, 9, 11, 12, 13, 14, 51] rfl), hS, hml, hdb, hY3⟩ ?_
           clear hA hS; rintro m0 a w29 ⟨n, sn, Ln, Dn, rfl, hA, hS, hn, hdn, hYn⟩
           refine zs (zs (zr (zR 2 ((61, .bool (decide (((n : Nat) : Int) > 0))) :: (60, vI n) :: _) hA rfl fun a hA => zn (zx ?_))))
           by_cases hc30 : ((n : Nat) : Int) > 0
           · first
             | (exfalso; omega)
             | (replace hA := hA.rw 61 (v' := .bool true) rfl (vb_true hc30)
                refine cd_cond_t hA rfl (zk (zx (zs (zb (zr ?_)))))
                obtain ⟨n2, rfl⟩ : ∃ z, n = z + 1 := ⟨n - 1, by omega⟩
                refine zR 3 ((66, .agg #[.int .u8 2, .int .i64 0, vI (n2 + 1)]) :: (65, vI (n2 + 1)) :: (64, vP b 0) :: _) hA rfl fun a hA => ?_
                replace hS := hS.m1.m1
                obtain ⟨sf, hd1, hd2⟩ := dblsM_succ hdn; refine st_call0 hA rfl rfl rfl isfn15 rfl rfl (by decide) (do_dbl15 hS hYn hd1) ?_
                clear hA hS; rintro _ w31 a ⟨L4, D4, hY4, hX4, rfl, hS⟩ hA
                refine zn (zm (zx (zr (zR 2 ((63, .int .i64 (IntKind.i64.wrap ((((n2 + 1) : Nat) : Int) - 1))) :: (62, vI (n2 + 1)) :: _) hA rfl fun a hA => ?_))))
                replace hA := hA.rw 63 (v' := .int .i64 ((((n2 + 1) : Nat) : Int) - 1)) rfl (wr64 (by omega) (by omega) (by omega))
                refine zR 1 ((14, .int .i64 ((((n2 + 1) : Nat) : Int) - 1)) :: _) hA rfl fun a hA => zn ?_
                replace hA := hA.rw 14 (v' := vI n2) rfl (vint (by omega))
                exact lp_next _ (by omega) ⟨n2, sf, L4, D4, rfl, (hA.sel [1, 2, 7, 9, 11, 12, 13, 14, 51] rfl), hS, by omega, hd2, hY4⟩)
           · first
             | (exfalso; omega)
             | (replace hA := hA.rw 61 (v' := .bool false) rfl (vb_false hc30)
                refine cd_cond_f hA rfl ?_
                refine wp_exit ?_
                refine xt_exit (xt_exit (cd_exit_eq (zx (zs (zr ?_)))))
                have hn0 : n = 0 := by omega
                subst hn0; have hd9 : some sn = some sd := hdn; injection hd9 with hd9; rw [hd9] at hYn
                refine zR 1 ((68, vP b 0) :: _) hA rfl fun a hA => ?_
                replace hS := hS.m1.m1
                refine st_call0 hA rfl rfl rfl isfn19 rfl rfl (by decide) (settle19 hS hYn hst (by decide)) ?_
                clear hA hS; rintro _ w32 a ⟨L5, D5, hY5, hX5, rfl, hS⟩ hA
                refine zn (zx (zr (zR 2 ((71, .agg #[.int .u8 4, .int .i64 0, .int .i64 0]) :: (70, vP b 0) :: _) hA rfl fun a hA => ?_)))
                replace hS := hS.m1.m1
                refine st_call0 hA rfl rfl rfl isfn15 rfl rfl (by decide) (do_tick15 hS hY5 htk) ?_
                clear hA hS; rintro _ w33 a ⟨L4, D4, hY4, hX4, rfl, hS⟩ hA
                refine zn (zm (zx (zr (zR 1 ((73, .int .i64 (IntKind.i64.wrap (((i : Nat) : Int) + 1))) :: _) hA rfl fun a hA => ?_))))
                replace hA := hA.rw 73 (v' := vI (i + 1)) rfl (wr64 (by omega) (by omega) (by omega))
                refine zR 1 ((51, vI (i + 1)) :: _) hA rfl fun a hA => zn ?_
                exact lp_next _ (by omega) ⟨(i + 1), _, L4, D4, rfl, (hA.sel [1, 2, 7, 9, 11, 12, 13, 51] rfl), hS, by omega, hi9, hY4⟩))
      · first
        | (exfalso; omega)
        | (replace hA := hA.rw 52 (v' := .bool false) rfl (vb_false hc27)
           refine cd_cond_f hA rfl ?_
           refine wp_exit ?_
           refine xt_exit (xt_exit (cd_exit_eq (zx (zs (zr ?_)))))
           have hi8 : i = 4 := by omega
           subst hi8; rw [hrs] at hR; injection hR with hR; subst hR
           refine zR 2 ((76, vW (st9.ca.length + 1)) :: (75, vP b 0) :: _) hA rfl fun a hA => ?_
           replace hS := hS.m1.m1
           obtain ⟨st7, sr7, g1, g2, g3, g4⟩ := get0M_some hgt
           refine st_call0 hA rfl rfl rfl isfn16 rfl rfl (by decide) (sget_ok16 hS hYi (i := 0) g1 g2 g3 g4 (by omega)) ?_
           clear hA hS; rintro _ w34 a ⟨L6, E6, A6, c6, hY6, hE6, rfl, hS⟩ hA
           refine zR 4 ((80, .nilIface) :: (79, .agg #[vU yc.rp.to, vU yc.rp.rp, vW yc.rp.id, vH yc.rp.op, vH yc.rp.st, vU yc.rp.po, vW yc.rp.ob, vB yc.rp.ri, vU yc.rp.ck, vU yc.rp.ar, .slice A6 yc.rp.da.length c6]) :: (78, vI yc.st) :: (74, .tuple #[vI yc.st, .agg #[vU yc.rp.to, vU yc.rp.rp, vW yc.rp.id, vH yc.rp.op, vH yc.rp.st, vU yc.rp.po, vW yc.rp.ob, vB yc.rp.ri, vU yc.rp.ck, vU yc.rp.ar, .slice A6 yc.rp.da.length c6], .nilIface]) :: _) hA rfl fun a hA => ?_
           refine st_alloc tbOk hA hS [.int .u64 0, .int .u64 0, .int .u32 0, .int .u16 0, .int .u16 0, .int .u64 0, .int .u32 0, .int .u8 0, .int .u64 0, .int .u64 0, .slice none 0 0] rfl rfl rfl rfl rfl (by decide) fun b35 w36 a hS hA => ?_
           refine zR 1 ((15, vI yc.st) :: _) hA rfl fun a hA => ?_
           refine st_store tbOk hA hS [vU yc.rp.to, vU yc.rp.rp, vW yc.rp.id, vH yc.rp.op, vH yc.rp.st, vU yc.rp.po, vW yc.rp.ob, vB yc.rp.ri, vU yc.rp.ck, vU yc.rp.ar, .slice A6 yc.rp.da.length c6] [vU yc.rp.to, vU yc.rp.rp, vW yc.rp.id, vH yc.rp.op, vH yc.rp.st, vU yc.rp.po, vW yc.rp.ob, vB yc.rp.ri, vU yc.rp.ck, vU yc.rp.ar, .slice A6 yc.rp.da.length c6] rfl rfl rfl rfl rfl rfl (zn1 rfl) (zle rfl) rfl rfl rfl fun w37 hS => ?_
           refine zR 1 ((17, .nilIface) :: _) hA rfl fun a hA => zn (zx (zs (zr (zR 9 ((89, .bool (((yc.st : Nat) : Int) != 2)) :: (88, vI yc.st) :: (87, .bool false) :: (86, .bool false) :: (85, .bool false) :: (84, .nilIface) :: (83, .bool false) :: (82, .bool false) :: (81, .nilIface) :: _) hA rfl fun a hA => ?_))))
           replace hA := hA.rw 89 (v' := .bool false) rfl (vbool (by rw [hys]; rfl))
           refine zR 3 ((92, vP b35 4) :: (91, .bool false) :: (90, .bool false) :: _) hA rfl fun a hA => zL hA hS 0 rfl rfl rfl rfl rfl rfl rfl rfl rfl fun a hA => zR 1 ((94, .bool (((yc.rp.st : Nat) : Int) != 0)) :: _) hA rfl fun a hA => ?_
           replace hA := hA.rw 94 (v' := .bool false) rfl (vbool (by rw [hyr]; rfl))
           refine zR 4 ((98, vP b35 6) :: (97, vP b35 5) :: (96, .bool false) :: (95, .bool false) :: _) hA rfl fun a hA => zL hA hS 0 rfl rfl rfl rfl rfl rfl rfl rfl rfl fun a hA => zR 1 ((100, .int .i64 (IntKind.i64.wrap ((yc.rp.ob : Nat) : Int))) :: _) hA rfl fun a hA => ?_
           replace hA := hA.rw 100 (v' := vI yc.rp.ob) rfl (wr64 (by first | rfl | omega) (by omega) (by omega))
           refine zR 2 ((102, .bool (((yc.rp.ob : Nat) : Int) != ((j + 1 : Nat) : Int))) :: (101, vI (j + 1)) :: _) hA rfl fun a hA => ?_
           replace hA := hA.rw 102 (v' := .bool false) rfl (vbool (by rw [hyo]; simp))
           refine zR 1 ((103, .bool false) :: _) hA rfl fun a hA => zn (zx (cd_cond_f hA rfl (zk (zm (zx (zr (zR 2 ((38, .int .i64 (IntKind.i64.wrap (((j + 1 : Nat) : Int) + 1))) :: (37, vI (j + 1)) :: _) hA rfl fun a hA => ?_)))))))
           replace hA := hA.rw 38 (v' := vI ((j + 1) + 1)) rfl (wr64 (by omega) (by omega) (by omega))
           refine zR 1 ((11, vI ((j + 1) + 1)) :: _) hA rfl fun a hA => zn ?_
           replace hS := hS.d0
           exact lp_next _ (by omega) ⟨(j + 1), _, L6, (E6 ++ Di), rfl, (hA.sel [1, 2, 7, 9, 11] rfl), hS, by omega, hj9, hY6⟩))
 · first
   | (exfalso; omega)
   | (replace hA := hA.rw 36 (v' := .bool false) rfl (vb_false hc19)
      refine cd_cond_f hA rfl ?_
      refine wp_exit ?_
      refine xt_exit (xt_exit (cd_exit_eq (zx (zs (zr (zR 1 ((6, .bool true) :: _) hA rfl fun a hA => zn (zx ?_)))))))
      refine wp_ret ?_
      refine ret1 (fn := Tryz.f4) hA rfl rfl ?_
      replace hS := hS.d0.d0.d0
      exact ⟨rfl, hS⟩)
end Go.Proofs.YthiakdmhpfkjbaaGreatDoor

set_option linter.unusedVariables false
set_option linter.unusedSimpArgs false
set_option maxRecDepth 4000
namespace Go.Proofs.YthiakdmhpfkjbaaGreatDoor
open Go Go.SK
def dbL : List Nat → List UInt8 → Option Unit
  | [], _ => some ()
  | p :: ps, l => (dbM p 0 l).bind fun _ => (dbM p 1 l).bind fun _ => dbL ps l
theorem dbL_ex {l : List UInt8} : ∀ {ps : List Nat}, dbL ps l = some () → ∀ p ∈ ps, ∀ t : Nat, t < 2 → dbM p t l = some ()
  | [], _, p, hp, _, _ => by cases hp
  | q :: ps, h, p, hp, t, ht => by
    rw [dbL] at h
    obtain ⟨⟨⟩, h1, h⟩ := Option.bind_eq_some_iff.1 h
    obtain ⟨⟨⟩, h2, h⟩ := Option.bind_eq_some_iff.1 h
    rcases List.mem_cons.1 hp with rfl | hp
    · rcases (by omega : t = 0 ∨ t = 1) with rfl | rfl
      · exact h1
      · exact h2
    · exact dbL_ex h p hp t ht
def dbA (l : List UInt8) : Option Unit := dbL [32, 64, 96, 8, 40, 72, 104, 16] l
theorem or31 {a : Nat} (h : a < 256) : Go.bits .or .u8 ((a : Nat) : Int) 31 = (((a ||| 31 : Nat) : Nat) : Int) := by
  have h1 : a ||| 31 < 2 ^ 8 := Nat.or_lt_two_pow h (by decide)
  have e : (BitVec.ofInt 8 ((a : Nat) : Int) ||| BitVec.ofInt 8 ((31 : Nat) : Int)).toNat = a ||| 31 := by
    rw [ofInt_nat, ofInt_nat, BitVec.toNat_or, BitVec.toNat_ofNat, BitVec.toNat_ofNat, Nat.mod_eq_of_lt (show a < 2 ^ 8 from h), Nat.mod_eq_of_lt (show 31 < 2 ^ 8 by decide)]
  have e2 : Go.bits .or .u8 ((a : Nat) : Int) 31 = IntKind.u8.wrap ((BitVec.ofInt 8 ((a : Nat) : Int) ||| BitVec.ofInt 8 ((31 : Nat) : Int)).toNat : Int) := rfl
  rw [e2, e, wrap_u8 (Int.natCast_nonneg _) (by omega)]
theorem pcs : ∀ a : Fin 256, (1 + (a.val ||| 31) % 120) ∈ [32, 64, 96, 8, 40, 72, 104, 16] ∧ (a.val ||| 31) < 256 := by decide
set_option maxRecDepth 100000
theorem dbA_0 : dbA [] = some () := by kernel_rfl
theorem dbA_1 (a : UInt8) : dbA [a] = some () := by kernel_rfl
theorem dbA_2 (a b : UInt8) : dbA [a, b] = some () := by kernel_rfl
theorem dbA_3 (a b c : UInt8) : dbA [a, b, c] = some () := by kernel_rfl
theorem dbA_4 (a b c d : UInt8) : dbA [a, b, c, d] = some () := by kernel_rfl
theorem dbA_5 (a b c d e : UInt8) : dbA [a, b, c, d, e] = some () := by kernel_rfl
theorem dbA_6 (a b c d e f : UInt8) : dbA [a, b, c, d, e, f] = some () := by kernel_rfl
theorem dbA_7 (a b c d e f g : UInt8) : dbA [a, b, c, d, e, f, g] = some () := by kernel_rfl
theorem dbA_8 (a b c d e f g h : UInt8) : dbA [a, b, c, d, e, f, g, h] = some () := by kernel_rfl
theorem dbA_9 (a b c d e f g h i : UInt8) : dbA [a, b, c, d, e, f, g, h, i] = some () := by kernel_rfl
theorem dbA_10 (a b c d e f g h i j : UInt8) : dbA [a, b, c, d, e, f, g, h, i, j] = some () := by kernel_rfl
theorem dbA_11 (a b c d e f g h i j k : UInt8) : dbA [a, b, c, d, e, f, g, h, i, j, k] = some () := by kernel_rfl
theorem dbA_12 (a b c d e f g h i j k l : UInt8) : dbA [a, b, c, d, e, f, g, h, i, j, k, l] = some () := by kernel_rfl
theorem dbA_13 (a b c d e f g h i j k l m : UInt8) : dbA [a, b, c, d, e, f, g, h, i, j, k, l, m] = some () := by kernel_rfl
theorem dbA_14 (a b c d e f g h i j k l m n : UInt8) : dbA [a, b, c, d, e, f, g, h, i, j, k, l, m, n] = some () := by kernel_rfl
theorem dbA_15 (a b c d e f g h i j k l m n o : UInt8) : dbA [a, b, c, d, e, f, g, h, i, j, k, l, m, n, o] = some () := by kernel_rfl
theorem dbA_16 (a b c d e f g h i j k l m n o p : UInt8) : dbA [a, b, c, d, e, f, g, h, i, j, k, l, m, n, o, p] = some () := by kernel_rfl
theorem dbA_17 (a b c d e f g h i j k l m n o p q : UInt8) : dbA [a, b, c, d, e, f, g, h, i, j, k, l, m, n, o, p, q] = some () := by kernel_rfl
theorem dbA_18 (a b c d e f g h i j k l m n o p q r : UInt8) : dbA [a, b, c, d, e, f, g, h, i, j, k, l, m, n, o, p, q, r] = some () := by kernel_rfl
theorem dbA_19 (a b c d e f g h i j k l m n o p q r s : UInt8) : dbA [a, b, c, d, e, f, g, h, i, j, k, l, m, n, o, p, q, r, s] = some () := by kernel_rfl
theorem dbA_20 (a b c d e f g h i j k l m n o p q r s t : UInt8) : dbA [a, b, c, d, e, f, g, h, i, j, k, l, m, n, o, p, q, r, s, t] = some () := by kernel_rfl
theorem dbA_21 (a b c d e f g h i j k l m n o p q r s t u : UInt8) : dbA [a, b, c, d, e, f, g, h, i, j, k, l, m, n, o, p, q, r, s, t, u] = some () := by kernel_rfl
theorem dbA_22 (a b c d e f g h i j k l m n o p q r s t u v : UInt8) : dbA [a, b, c, d, e, f, g, h, i, j, k, l, m, n, o, p, q, r, s, t, u, v] = some () := by kernel_rfl
theorem dbA_23 (a b c d e f g h i j k l m n o p q r s t u v w : UInt8) : dbA [a, b, c, d, e, f, g, h, i, j, k, l, m, n, o, p, q, r, s, t, u, v, w] = some () := by kernel_rfl
theorem dbA_24 (a b c d e f g h i j k l m n o p q r s t u v w x : UInt8) : dbA [a, b, c, d, e, f, g, h, i, j, k, l, m, n, o, p, q, r, s, t, u, v, w, x] = some () := by kernel_rfl
theorem dbA_25 (a b c d e f g h i j k l m n o p q r s t u v w x y : UInt8) : dbA [a, b, c, d, e, f, g, h, i, j, k, l, m, n, o, p, q, r, s, t, u, v, w, x, y] = some () := by kernel_rfl
theorem dbA_26 (a b c d e f g h i j k l m n o p q r s t u v w x y z : UInt8) : dbA [a, b, c, d, e, f, g, h, i, j, k, l, m, n, o, p, q, r, s, t, u, v, w, x, y, z] = some () := by kernel_rfl
theorem dbA_27 (a b c d e f g h i j k l m n o p q r s t u v w x y z xa : UInt8) : dbA [a, b, c, d, e, f, g, h, i, j, k, l, m, n, o, p, q, r, s, t, u, v, w, x, y, z, xa] = some () := by kernel_rfl
theorem dbA_28 (a b c d e f g h i j k l m n o p q r s t u v w x y z xa xb : UInt8) : dbA [a, b, c, d, e, f, g, h, i, j, k, l, m, n, o, p, q, r, s, t, u, v, w, x, y, z, xa, xb] = some () := by kernel_rfl
theorem dbA_29 (a b c d e f g h i j k l m n o p q r s t u v w x y z xa xb xc : UInt8) : dbA [a, b, c, d, e, f, g, h, i, j, k, l, m, n, o, p, q, r, s, t, u, v, w, x, y, z, xa, xb, xc] = some () := by kernel_rfl
theorem dbA_30 (a b c d e f g h i j k l m n o p q r s t u v w x y z xa xb xc xd : UInt8) : dbA [a, b, c, d, e, f, g, h, i, j, k, l, m, n, o, p, q, r, s, t, u, v, w, x, y, z, xa, xb, xc, xd] = some () := by kernel_rfl
theorem dbA_31 (a b c d e f g h i j k l m n o p q r s t u v w x y z xa xb xc xd xe : UInt8) : dbA [a, b, c, d, e, f, g, h, i, j, k, l, m, n, o, p, q, r, s, t, u, v, w, x, y, z, xa, xb, xc, xd, xe] = some () := by kernel_rfl
theorem dbA_32 (a b c d e f g h i j k l m n o p q r s t u v w x y z xa xb xc xd xe xf : UInt8) : dbA [a, b, c, d, e, f, g, h, i, j, k, l, m, n, o, p, q, r, s, t, u, v, w, x, y, z, xa, xb, xc, xd, xe, xf] = some () := by kernel_rfl
theorem dbA_33 (a b c d e f g h i j k l m n o p q r s t u v w x y z xa xb xc xd xe xf xg : UInt8) : dbA [a, b, c, d, e, f, g, h, i, j, k, l, m, n, o, p, q, r, s, t, u, v, w, x, y, z, xa, xb, xc, xd, xe, xf, xg] = some () := by kernel_rfl
theorem dbA_34 (a b c d e f g h i j k l m n o p q r s t u v w x y z xa xb xc xd xe xf xg xh : UInt8) : dbA [a, b, c, d, e, f, g, h, i, j, k, l, m, n, o, p, q, r, s, t, u, v, w, x, y, z, xa, xb, xc, xd, xe, xf, xg, xh] = some () := by kernel_rfl
theorem dbA_35 (a b c d e f g h i j k l m n o p q r s t u v w x y z xa xb xc xd xe xf xg xh xi : UInt8) : dbA [a, b, c, d, e, f, g, h, i, j, k, l, m, n, o, p, q, r, s, t, u, v, w, x, y, z, xa, xb, xc, xd, xe, xf, xg, xh, xi] = some () := by kernel_rfl
theorem dbA_36 (a b c d e f g h i j k l m n o p q r s t u v w x y z xa xb xc xd xe xf xg xh xi xj : UInt8) : dbA [a, b, c, d, e, f, g, h, i, j, k, l, m, n, o, p, q, r, s, t, u, v, w, x, y, z, xa, xb, xc, xd, xe, xf, xg, xh, xi, xj] = some () := by kernel_rfl
theorem dbA_37 (a b c d e f g h i j k l m n o p q r s t u v w x y z xa xb xc xd xe xf xg xh xi xj xk : UInt8) : dbA [a, b, c, d, e, f, g, h, i, j, k, l, m, n, o, p, q, r, s, t, u, v, w, x, y, z, xa, xb, xc, xd, xe, xf, xg, xh, xi, xj, xk] = some () := by kernel_rfl
theorem dbA_38 (a b c d e f g h i j k l m n o p q r s t u v w x y z xa xb xc xd xe xf xg xh xi xj xk xl : UInt8) : dbA [a, b, c, d, e, f, g, h, i, j, k, l, m, n, o, p, q, r, s, t, u, v, w, x, y, z, xa, xb, xc, xd, xe, xf, xg, xh, xi, xj, xk, xl] = some () := by kernel_rfl
theorem dbA_39 (a b c d e f g h i j k l m n o p q r s t u v w x y z xa xb xc xd xe xf xg xh xi xj xk xl xm : UInt8) : dbA [a, b, c, d, e, f, g, h, i, j, k, l, m, n, o, p, q, r, s, t, u, v, w, x, y, z, xa, xb, xc, xd, xe, xf, xg, xh, xi, xj, xk, xl, xm] = some () := by kernel_rfl
theorem dbA_40 (a b c d e f g h i j k l m n o p q r s t u v w x y z xa xb xc xd xe xf xg xh xi xj xk xl xm xn : UInt8) : dbA [a, b, c, d, e, f, g, h, i, j, k, l, m, n, o, p, q, r, s, t, u, v, w, x, y, z, xa, xb, xc, xd, xe, xf, xg, xh, xi, xj, xk, xl, xm, xn] = some () := by kernel_rfl
theorem dbA_41 (a b c d e f g h i j k l m n o p q r s t u v w x y z xa xb xc xd xe xf xg xh xi xj xk xl xm xn xo : UInt8) : dbA [a, b, c, d, e, f, g, h, i, j, k, l, m, n, o, p, q, r, s, t, u, v, w, x, y, z, xa, xb, xc, xd, xe, xf, xg, xh, xi, xj, xk, xl, xm, xn, xo] = some () := by kernel_rfl
theorem dbA_42 (a b c d e f g h i j k l m n o p q r s t u v w x y z xa xb xc xd xe xf xg xh xi xj xk xl xm xn xo xp : UInt8) : dbA [a, b, c, d, e, f, g, h, i, j, k, l, m, n, o, p, q, r, s, t, u, v, w, x, y, z, xa, xb, xc, xd, xe, xf, xg, xh, xi, xj, xk, xl, xm, xn, xo, xp] = some () := by kernel_rfl
theorem dbA_43 (a b c d e f g h i j k l m n o p q r s t u v w x y z xa xb xc xd xe xf xg xh xi xj xk xl xm xn xo xp xq : UInt8) : dbA [a, b, c, d, e, f, g, h, i, j, k, l, m, n, o, p, q, r, s, t, u, v, w, x, y, z, xa, xb, xc, xd, xe, xf, xg, xh, xi, xj, xk, xl, xm, xn, xo, xp, xq] = some () := by kernel_rfl
theorem dbA_44 (a b c d e f g h i j k l m n o p q r s t u v w x y z xa xb xc xd xe xf xg xh xi xj xk xl xm xn xo xp xq xr : UInt8) : dbA [a, b, c, d, e, f, g, h, i, j, k, l, m, n, o, p, q, r, s, t, u, v, w, x, y, z, xa, xb, xc, xd, xe, xf, xg, xh, xi, xj, xk, xl, xm, xn, xo, xp, xq, xr] = some () := by kernel_rfl
theorem dbA_45 (a b c d e f g h i j k l m n o p q r s t u v w x y z xa xb xc xd xe xf xg xh xi xj xk xl xm xn xo xp xq xr xs : UInt8) : dbA [a, b, c, d, e, f, g, h, i, j, k, l, m, n, o, p, q, r, s, t, u, v, w, x, y, z, xa, xb, xc, xd, xe, xf, xg, xh, xi, xj, xk, xl, xm, xn, xo, xp, xq, xr, xs] = some () := by kernel_rfl
theorem dbA_46 (a b c d e f g h i j k l m n o p q r s t u v w x y z xa xb xc xd xe xf xg xh xi xj xk xl xm xn xo xp xq xr xs xt : UInt8) : dbA [a, b, c, d, e, f, g, h, i, j, k, l, m, n, o, p, q, r, s, t, u, v, w, x, y, z, xa, xb, xc, xd, xe, xf, xg, xh, xi, xj, xk, xl, xm, xn, xo, xp, xq, xr, xs, xt] = some () := by kernel_rfl
theorem dbA_47 (a b c d e f g h i j k l m n o p q r s t u v w x y z xa xb xc xd xe xf xg xh xi xj xk xl xm xn xo xp xq xr xs xt xu : UInt8) : dbA [a, b, c, d, e, f, g, h, i, j, k, l, m, n, o, p, q, r, s, t, u, v, w, x, y, z, xa, xb, xc, xd, xe, xf, xg, xh, xi, xj, xk, xl, xm, xn, xo, xp, xq, xr, xs, xt, xu] = some () := by kernel_rfl
theorem dbA_48 (a b c d e f g h i j k l m n o p q r s t u v w x y z xa xb xc xd xe xf xg xh xi xj xk xl xm xn xo xp xq xr xs xt xu xv : UInt8) : dbA [a, b, c, d, e, f, g, h, i, j, k, l, m, n, o, p, q, r, s, t, u, v, w, x, y, z, xa, xb, xc, xd, xe, xf, xg, xh, xi, xj, xk, xl, xm, xn, xo, xp, xq, xr, xs, xt, xu, xv] = some () := by kernel_rfl
theorem dbA_49 (a b c d e f g h i j k l m n o p q r s t u v w x y z xa xb xc xd xe xf xg xh xi xj xk xl xm xn xo xp xq xr xs xt xu xv xw : UInt8) : dbA [a, b, c, d, e, f, g, h, i, j, k, l, m, n, o, p, q, r, s, t, u, v, w, x, y, z, xa, xb, xc, xd, xe, xf, xg, xh, xi, xj, xk, xl, xm, xn, xo, xp, xq, xr, xs, xt, xu, xv, xw] = some () := by kernel_rfl
theorem dbA_50 (a b c d e f g h i j k l m n o p q r s t u v w x y z xa xb xc xd xe xf xg xh xi xj xk xl xm xn xo xp xq xr xs xt xu xv xw xx : UInt8) : dbA [a, b, c, d, e, f, g, h, i, j, k, l, m, n, o, p, q, r, s, t, u, v, w, x, y, z, xa, xb, xc, xd, xe, xf, xg, xh, xi, xj, xk, xl, xm, xn, xo, xp, xq, xr, xs, xt, xu, xv, xw, xx] = some () := by kernel_rfl
theorem dbA_all (x : List UInt8) (h : x.length ≤ 50) : dbA x = some () := by
  rcases x with _ | ⟨a0, x⟩
  · exact dbA_0 ..
  rcases x with _ | ⟨a1, x⟩
  · exact dbA_1 ..
  rcases x with _ | ⟨a2, x⟩
  · exact dbA_2 ..
  rcases x with _ | ⟨a3, x⟩
  · exact dbA_3 ..
  rcases x with _ | ⟨a4, x⟩
  · exact dbA_4 ..
  rcases x with _ | ⟨a5, x⟩
  · exact dbA_5 ..
  rcases x with _ | ⟨a6, x⟩
  · exact dbA_6 ..
  rcases x with _ | ⟨a7, x⟩
  · exact dbA_7 ..
  rcases x with _ | ⟨a8, x⟩
  · exact dbA_8 ..
  rcases x with _ | ⟨a9, x⟩
  · exact dbA_9 ..
  rcases x with _ | ⟨a10, x⟩
  · exact dbA_10 ..
  rcases x with _ | ⟨a11, x⟩
  · exact dbA_11 ..
  rcases x with _ | ⟨a12, x⟩
  · exact dbA_12 ..
  rcases x with _ | ⟨a13, x⟩
  · exact dbA_13 ..
  rcases x with _ | ⟨a14, x⟩
  · exact dbA_14 ..
  rcases x with _ | ⟨a15, x⟩
  · exact dbA_15 ..
  rcases x with _ | ⟨a16, x⟩
  · exact dbA_16 ..
  rcases x with _ | ⟨a17, x⟩
  · exact dbA_17 ..
  rcases x with _ | ⟨a18, x⟩
  · exact dbA_18 ..
  rcases x with _ | ⟨a19, x⟩
  · exact dbA_19 ..
  rcases x with _ | ⟨a20, x⟩
  · exact dbA_20 ..
  rcases x with _ | ⟨a21, x⟩
  · exact dbA_21 ..
  rcases x with _ | ⟨a22, x⟩
  · exact dbA_22 ..
  rcases x with _ | ⟨a23, x⟩
  · exact dbA_23 ..
  rcases x with _ | ⟨a24, x⟩
  · exact dbA_24 ..
  rcases x with _ | ⟨a25, x⟩
  · exact dbA_25 ..
  rcases x with _ | ⟨a26, x⟩
  · exact dbA_26 ..
  rcases x with _ | ⟨a27, x⟩
  · exact dbA_27 ..
  rcases x with _ | ⟨a28, x⟩
  · exact dbA_28 ..
  rcases x with _ | ⟨a29, x⟩
  · exact dbA_29 ..
  rcases x with _ | ⟨a30, x⟩
  · exact dbA_30 ..
  rcases x with _ | ⟨a31, x⟩
  · exact dbA_31 ..
  rcases x with _ | ⟨a32, x⟩
  · exact dbA_32 ..
  rcases x with _ | ⟨a33, x⟩
  · exact dbA_33 ..
  rcases x with _ | ⟨a34, x⟩
  · exact dbA_34 ..
  rcases x with _ | ⟨a35, x⟩
  · exact dbA_35 ..
  rcases x with _ | ⟨a36, x⟩
  · exact dbA_36 ..
  rcases x with _ | ⟨a37, x⟩
  · exact dbA_37 ..
  rcases x with _ | ⟨a38, x⟩
  · exact dbA_38 ..
  rcases x with _ | ⟨a39, x⟩
  · exact dbA_39 ..
  rcases x with _ | ⟨a40, x⟩
  · exact dbA_40 ..
  rcases x with _ | ⟨a41, x⟩
  · exact dbA_41 ..
  rcases x with _ | ⟨a42, x⟩
  · exact dbA_42 ..
  rcases x with _ | ⟨a43, x⟩
  · exact dbA_43 ..
  rcases x with _ | ⟨a44, x⟩
  · exact dbA_44 ..
  rcases x with _ | ⟨a45, x⟩
  · exact dbA_45 ..
  rcases x with _ | ⟨a46, x⟩
  · exact dbA_46 ..
  rcases x with _ | ⟨a47, x⟩
  · exact dbA_47 ..
  rcases x with _ | ⟨a48, x⟩
  · exact dbA_48 ..
  rcases x with _ | ⟨a49, x⟩
  · exact dbA_49 ..
  rcases x with _ | ⟨a50, x⟩
  · exact dbA_50 ..
  simp only [List.length_cons] at h; omega
theorem topDoubledI {w0 w : World} {F : List Chunk} (hS : St w0 w F) (hg : HG w0) {v1 : Value} {l1 : List UInt8} (hr : RdS w0 F 1 v1 l1.length (rows encB l1)) {a0 a1 : Int} (h0 : 0 ≤ a0) (h1 : a0 < 256) (h2 : 0 ≤ a1) (h3 : a1 < 256) :
    Ret Tryz.prog 4 #[.int .u8 a0, .int .u8 a1, v1] w (fun v w' => v = .bool true ∧ St w0 w' F) := by
  obtain ⟨n, rfl⟩ := Int.eq_ofNat_of_zero_le h0
  obtain ⟨m, rfl⟩ := Int.eq_ofNat_of_zero_le h2
  obtain ⟨p1, p2⟩ := pcs ⟨n, by omega⟩
  exact topDoubled4 hS hg hr (by omega) (or31 (by omega)) p2 (fun x hx => dbL_ex (dbA_all x hx) _ p1 _ (Nat.mod_lt _ (by decide)))
end Go.Proofs.YthiakdmhpfkjbaaGreatDoor
