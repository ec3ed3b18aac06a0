import Derived.Test.YthiakdmhpfkjbaaGreatDoorZL4
set_option linter.unusedVariables false
set_option linter.unusedSimpArgs false
set_option linter.unusedVariables false
set_option linter.unusedSimpArgs false
set_option maxRecDepth 4000
namespace Go.Proofs.YthiakdmhpfkjbaaGreatDoor
open Go Go.SK
theorem map_cons9 {α β γ : Type} {f : α → γ} {g : β → γ} {l : List α} {y : β} {k : List β} (h : l.map f = (y :: k).map g) : ∃ x l', l = x :: l' ∧ f x = g y ∧ l'.map f = k.map g := by
  cases l with
  | nil => cases h
  | cons x l => rw [List.map_cons, List.map_cons] at h; injection h with h1 h2; exact ⟨x, l, rfl, h1, h2⟩
theorem map_nil9 {α β γ : Type} {f : α → γ} {g : β → γ} {l : List α} (h : l.map f = ([] : List β).map g) : l = [] := by
  cases l with
  | nil => rfl
  | cons x l => cases h
theorem fnd_of {el : List Ent} {es : List EA} {who id : Nat} (h : el.map est = es.map EA.t) (hno : ∀ y ∈ es, ¬ (y.who = who ∧ y.id = id)) : ∀ (i : Nat) (x : Ent), el[i]? = some x → fnd ((who : Nat) : Int) ((id : Nat) : Int) x = false := fun i x hx => by
  obtain ⟨y, hy, e⟩ := map_at9 h.symm hx
  have h1 := hno y (List.mem_of_getElem? hy)
  have e1 : ((y.who : Nat) : Int) = x.1 := congrArg (fun z => z.1) e
  have e2 : ((y.id : Nat) : Int) = x.2.1 := congrArg (fun z => z.2.1) e
  rw [fnd, Bool.and_eq_false_iff, beq_eq_false_iff_ne, beq_eq_false_iff_ne]
  omega
theorem SVO.mk {w0 : World} {b po bo nx bb : Nat} {os : List (Bool × Nat × Int × Int × Int)} {fl : List (Nat × List UInt8)} {L D : Chunk} (h : SVR w0 b po bo os fl nx bb L D) : SVO w0 bo po (.file os fl nx bb) (vP b 0) L D := ⟨b, rfl, h⟩
theorem last_at {α : Type} {l : List α} {x : α} : (l ++ [x])[l.length]? = some x := by simp
theorem bef_last {α : Type} {p : α → Bool} {l : List α} {x : α} (h : ∀ (i : Nat) (y : α), l[i]? = some y → p y = false) : ∀ (i : Nat) (y : α), i < l.length → (l ++ [x])[i]? = some y → p y = false := fun i y hi hy => h i y (by rwa [List.getElem?_append_left hi] at hy)
theorem call_set9 {w0 : World} {D E : Chunk} {cl : List Call} {k : Nat} {x : Call} {s t l : Int} {m0 m1 m2 m3 m4 m5 m6 m7 m8 m9 : Int} {A : Option Addr} {c : Nat} {bs : List UInt8} (h : ∀ x ∈ cl, encCall_dd w0 D x) (hx : cl[k]? = some x) (hE : DD w0 E A c bs) : ∀ z ∈ cl.set k (mkc (rq x) s t l (m0, m1, m2, m3, m4, m5, m6, m7, m8, m9, A, c, bs)), encCall_dd w0 (E ++ D) z := fun z hz => by
  rcases List.mem_or_eq_of_mem_set hz with hz | rfl
  · exact encCall_left (h z hz)
  · exact ⟨DD.left (h x (List.mem_of_getElem? hx)).1, hE.right⟩
set_option maxHeartbeats 8000000 in
theorem nwork_none42 {w0 w : World} {F : List Chunk} {b bo : Nat} {st : NS} {sr : Srv} {L D : Chunk} (hS : St w0 w (L :: D :: F)) (hN : NUP w0 b bo st sr L D) (hus : st.us = []) (hps : st.ps = []) :
 Ret Tryz.prog 42 #[vP b 0] w (fun v w' => ∃ L', NUP w0 b bo st sr L' D ∧ v = .tuple #[.slice none 0 0, .bool false] ∧ St w0 w' (L' :: D :: F)) := by
 obtain ⟨sv, bd, bg, bc, bp, bx, mp, ob, el, cl, ul, pl2, LS, LG, LC, LP, LB, LV, hn, rfl⟩ := hN
 replace hS : St w0 w ([(b, rowO [vI st.c.id, vI st.c.ki, vI st.c.no, vI st.c.pc, vI st.c.wa, vI st.c.tr, vI st.c.ag, vI st.c.pg, vI st.c.ro, vP bo 0, .bool true, vI st.c.now, vU st.c.sent, vU st.c.rep, vU st.c.port, vU st.c.r0, vW st.c.r1, vB st.c.r2, vU st.c.r3, sv, vP bd 0, vP bg 0, vP bc 0, vP bp 0, vP bx 0, .map (some mp)] 121)] :: LS :: LG :: LC :: LP :: LB :: [(mp, ob)] :: LV :: D :: F) := hS.cast (by simp)
 have hu0 : ul = [] := map_nil9 (by rw [hn.ful, hus]); have hp0 : pl2 = [] := map_nil9 (by rw [hn.fpl, hps]); have hbx0 := hn.fbx; rw [hu0, hp0] at hbx0
 refine enter (vs := [vP b 0]) 78 Tryz.func42 rfl rfl (by simp) ?_; intro a hA
 refine zs (zr (zR 2 ((3, .bool false) :: (2, .slice none 0 0) :: _) hA rfl fun a hA => zn (zx (zs (zs (zr (zR 3 ((11, vP b 10) :: (10, vP b 0) :: (9, vP b 0) :: _) hA rfl fun a hA => zL hA hS 0 rfl rfl rfl rfl rfl rfl rfl rfl rfl fun a hA => zR 1 ((13, .bool false) :: _) hA rfl fun a hA => zn (zx (cd_cond_f hA rfl (zk (zx (zs (zr (zR 3 ((17, vP b 24) :: (16, vP b 0) :: (15, vP b 0) :: _) hA rfl fun a hA => zL hA hS 0 rfl rfl rfl rfl rfl rfl rfl rfl rfl fun a hA => ?_))))))))))))))
 replace hS := hS.m5
 refine st_call0 hA rfl rfl rfl isfn66 rfl rfl (by decide) (get_none66 hS hbx0) ?_
 clear hA hS; rintro _ w1 a ⟨LB2, hb2, rfl, hS⟩ hA
 refine zR 3 ((21, .bool false) :: (20, .agg #[.int .u64 0, .int .u64 0, .int .u32 0, .int .u16 0, .int .u16 0, .int .u64 0, .int .u32 0, .int .u8 0, .int .u64 0, .int .u64 0, .slice none 0 0]) :: (14, .tuple #[.agg #[.int .u64 0, .int .u64 0, .int .u32 0, .int .u16 0, .int .u16 0, .int .u64 0, .int .u32 0, .int .u8 0, .int .u64 0, .int .u64 0, .slice none 0 0], .bool false]) :: _) hA rfl fun a hA => ?_
 refine st_alloc tbOk hA hS [.int .u64 0, .int .u64 0, .int .u32 0, .int .u16 0, .int .u16 0, .int .u64 0, .int .u32 0, .int .u8 0, .int .u64 0, .int .u64 0, .slice none 0 0] rfl rfl rfl rfl rfl (by decide) fun b2 w3 a hS hA => ?_
 refine st_store tbOk hA hS [.int .u64 0, .int .u64 0, .int .u32 0, .int .u16 0, .int .u16 0, .int .u64 0, .int .u32 0, .int .u8 0, .int .u64 0, .int .u64 0, .slice none 0 0] [.int .u64 0, .int .u64 0, .int .u32 0, .int .u16 0, .int .u16 0, .int .u64 0, .int .u32 0, .int .u8 0, .int .u64 0, .int .u64 0, .slice none 0 0] rfl rfl rfl rfl rfl rfl (zn1 rfl) (zle rfl) rfl rfl rfl fun w4 hS => ?_
 refine zR 1 ((5, .bool false) :: _) hA rfl fun a hA => zn (zx (zs (zs (zr (zR 2 ((23, .bool true) :: (22, .bool false) :: _) hA rfl fun a hA => zn (zx (cd_cond_t hA rfl (zs (zr (zR 2 ((3, .bool false) :: (2, .slice none 0 0) :: _) hA rfl fun a hA => zn (zx ?_)))))))))))
 refine wp_ret (xt_ret ?_)
 refine ret2 (fn := Tryz.f42) hA rfl rfl rfl ?_
 replace hS := hS.d0.m8.m8.m8.m3.m8.m8.m8.m8.m8
 replace hS : St w0 w4 (((b, rowO [vI st.c.id, vI st.c.ki, vI st.c.no, vI st.c.pc, vI st.c.wa, vI st.c.tr, vI st.c.ag, vI st.c.pg, vI st.c.ro, vP bo 0, .bool true, vI st.c.now, vU st.c.sent, vU st.c.rep, vU st.c.port, vU st.c.r0, vW st.c.r1, vB st.c.r2, vU st.c.r3, sv, vP bd 0, vP bg 0, vP bc 0, vP bp 0, vP bx 0, .map (some mp)] 121) :: (LS ++ (LG ++ (LC ++ (LP ++ (LB2 ++ ((mp, ob) :: LV))))))) :: D :: F) := hS.cast (by simp)
 subst hu0; subst hp0; exact ⟨_, ⟨_, _, _, _, _, _, _, _, _, _, _, _, _, _, _, _, _, _, ⟨hn.fsr, hn.fgs, hn.fcr, hn.fpm, hb2, hn.fmp, hn.fsv, hn.fel, hn.fed, hn.fcl, hn.fcd, hn.ful, hn.fud, hn.fpl, hn.fpd⟩, rfl⟩, rfl, hS⟩
set_option maxHeartbeats 8000000 in
theorem nwork_reply42 {w0 w : World} {F : List Chunk} {b bo : Nat} {st : NS} {sr : Srv} {L D : Chunk} (hS : St w0 w (L :: D :: F)) (hN : NUP w0 b bo st sr L D) (m : MN) (us2 : List MN) (hus : st.us = m :: us2) (h1 : m.to = st.c.rep) {k : Nat} {y : CA} (hy : st.ca[k]? = some y) (hid : m.id = k + 1) (hst : y.st = 1) (hfr : m.rp = y.rq.to) (hcal : st.ca.length ≤ 64) (hml : m.da.length ≤ 4096) :
 Ret Tryz.prog 42 #[vP b 0] w (fun v w' => ∃ L' D', NUP w0 b bo { st with us := us2, ca := st.ca.set k { y with st := 2, rp := m } } sr L' D' ∧ DX w0 D D' ∧ v = .tuple #[.slice none 0 0, .bool true] ∧ St w0 w' (L' :: D' :: F)) := by
 obtain ⟨sv, bd, bg, bc, bp, bx, mp, ob, el, cl, ul, pl2, LS, LG, LC, LP, LB, LV, hn, rfl⟩ := hN
 replace hS : St w0 w ([(b, rowO [vI st.c.id, vI st.c.ki, vI st.c.no, vI st.c.pc, vI st.c.wa, vI st.c.tr, vI st.c.ag, vI st.c.pg, vI st.c.ro, vP bo 0, .bool true, vI st.c.now, vU st.c.sent, vU st.c.rep, vU st.c.port, vU st.c.r0, vW st.c.r1, vB st.c.r2, vU st.c.r3, sv, vP bd 0, vP bg 0, vP bc 0, vP bp 0, vP bx 0, .map (some mp)] 121)] :: LS :: LG :: LC :: LP :: LB :: [(mp, ob)] :: LV :: D :: F) := hS.cast (by simp)
 obtain ⟨x, ul2, hul, e, hum⟩ := map_cons9 (l := ul) (y := m) (k := us2) (by rw [hn.ful, hus]); have hdx := hn.fud x (by rw [hul]; exact List.mem_cons_self); have hbx0 := hn.fbx; rw [hul] at hbx0
 obtain ⟨x0, x1, x2, x3, x4, x5, x6, x7, x8, x9, xA, xc, xb⟩ := x
 simp only [mst, mdat, MN.t, Prod.mk.injEq] at e
 obtain ⟨e0, e1, e2, e3, e4, e5, e6, e7, e8, e9, e10⟩ := e
 subst e0 e1 e2 e3 e4 e5 e6 e7 e8 e9 e10
 obtain ⟨xk, hxk, ek⟩ := map_at9 hn.fcl hy
 obtain ⟨q0, q1, q2, q3, q4, q5, q6, q7, q8, q9, qA, qc, qb, x13, x14, x15, r0, r1, r2, r3, r4, r5, r6, r7, r8, r9, rA, rc, rb⟩ := xk
 simp only [c5, rq, rp, mst, mdat, cst, ctr, clf, CA.t, MN.t, Prod.mk.injEq] at ek
 obtain ⟨⟨e0, e1, e2, e3, e4, e5, e6, e7, e8, e9, e10⟩, e13, e14, e15, ⟨g0, g1, g2, g3, g4, g5, g6, g7, g8, g9, g10⟩⟩ := ek
 subst e0 e1 e2 e3 e4 e5 e6 e7 e8 e9 e10 e13 e14 e15 g0 g1 g2 g3 g4 g5 g6 g7 g8 g9 g10
 refine enter (vs := [vP b 0]) 78 Tryz.func42 rfl rfl (by simp) ?_; intro a hA
 refine zs (zr (zR 2 ((3, .bool false) :: (2, .slice none 0 0) :: _) hA rfl fun a hA => zn (zx (zs (zs (zr (zR 3 ((11, vP b 10) :: (10, vP b 0) :: (9, vP b 0) :: _) hA rfl fun a hA => zL hA hS 0 rfl rfl rfl rfl rfl rfl rfl rfl rfl fun a hA => zR 1 ((13, .bool false) :: _) hA rfl fun a hA => zn (zx (cd_cond_f hA rfl (zk (zx (zs (zr (zR 3 ((17, vP b 24) :: (16, vP b 0) :: (15, vP b 0) :: _) hA rfl fun a hA => zL hA hS 0 rfl rfl rfl rfl rfl rfl rfl rfl rfl fun a hA => ?_))))))))))))))
 replace hS := hS.m5
 refine st_call0 hA rfl rfl rfl isfn66 rfl rfl (by decide) (get_u66 hS hbx0) ?_
 clear hA hS; rintro _ w1 a ⟨LB2, hb2, rfl, hS⟩ hA
 replace hA := hA.rw 19 (v' := .tuple #[.agg #[vU m.to, vU m.rp, vW m.id, vH m.op, vH m.st, vU m.po, vW m.ob, vB m.ri, vU m.ck, vU m.ar, .slice xA m.da.length xc], .bool true]) rfl rfl
 refine zR 3 ((21, .bool true) :: (20, .agg #[vU m.to, vU m.rp, vW m.id, vH m.op, vH m.st, vU m.po, vW m.ob, vB m.ri, vU m.ck, vU m.ar, .slice xA m.da.length xc]) :: (14, .tuple #[.agg #[vU m.to, vU m.rp, vW m.id, vH m.op, vH m.st, vU m.po, vW m.ob, vB m.ri, vU m.ck, vU m.ar, .slice xA m.da.length xc], .bool true]) :: _) hA rfl fun a hA => ?_
 refine st_alloc tbOk hA hS [.int .u64 0, .int .u64 0, .int .u32 0, .int .u16 0, .int .u16 0, .int .u64 0, .int .u32 0, .int .u8 0, .int .u64 0, .int .u64 0, .slice none 0 0] rfl rfl rfl rfl rfl (by decide) fun b2 w3 a hS hA => ?_
 refine st_store tbOk hA hS [vU m.to, vU m.rp, vW m.id, vH m.op, vH m.st, vU m.po, vW m.ob, vB m.ri, vU m.ck, vU m.ar, .slice xA m.da.length xc] [vU m.to, vU m.rp, vW m.id, vH m.op, vH m.st, vU m.po, vW m.ob, vB m.ri, vU m.ck, vU m.ar, .slice xA m.da.length xc] rfl rfl rfl rfl rfl rfl (zn1 rfl) (zle rfl) rfl rfl rfl fun w4 hS => ?_
 refine zR 1 ((5, .bool true) :: _) hA rfl fun a hA => zn (zx (zs (zs (zr (zR 2 ((23, .bool false) :: (22, .bool true) :: _) hA rfl fun a hA => zn (zx (cd_cond_f hA rfl (zk (zx (zs (zs ?_)))))))))))
 refine zD0 hS [] [(0, true), (1, true), (2, true), (3, true), (4, true), (5, true), (6, true)] mixed (by kernel_rfl) (by rintro c a w ⟨_, _, h, _⟩; cases h) (by rfl) (by kernel_rfl) ?_
 replace hS := hS.drew
 refine zW 1 ((24, vP b2 0) :: _) hA hS rfl fun a hA => zY hA hS 0 rfl rfl rfl rfl rfl rfl rfl rfl rfl rfl fun a hA => zW 3 ((28, vP b 13) :: (27, vP b 0) :: (26, vP b 0) :: _) hA hS rfl fun a hA => zY hA hS 2 rfl rfl rfl rfl rfl rfl rfl rfl rfl rfl fun a hA => zW 1 ((30, .bool (((m.to : Nat) : Int) == ((st.c.rep : Nat) : Int))) :: _) hA hS rfl fun a hA => ze (zx ?_)
 have hc5 : ((m.to : Nat) : Int) = ((st.c.rep : Nat) : Int) := by omega
 replace hA := hA.rw 30 (v' := .bool true) rfl (vb_eq_t hc5)
 refine cd_cond_t hA rfl (zs ?_)
 replace hS := hS.m9.m6
 refine zD2 hS [] [(0, true), (1, true), (2, true), (3, true), (4, true), (5, false)] mixed (by kernel_rfl) (by rintro c a w ⟨_, _, h, _⟩; cases h) (by rfl) (by kernel_rfl) ?_
 replace hS := hS.drew
 refine zW 3 ((33, vP b 22) :: (32, vP b 0) :: (31, vP b 0) :: _) hA (hS.tail 2 rfl) rfl fun a hA => zY hA (hS.tail 2 rfl) 2 rfl rfl rfl rfl rfl rfl rfl rfl rfl rfl fun a hA => zYA hA (hS.tail 2 rfl) 0 [vU m.to, vU m.rp, vW m.id, vH m.op, vH m.st, vU m.po, vW m.ob, vB m.ri, vU m.ck, vU m.ar, .slice xA m.da.length xc] rfl rfl rfl rfl rfl rfl rfl rfl rfl rfl rfl fun a hA => dr_b (o := _) rfl ?_
 replace hS := hS.m1.m1
 refine st_call0 hA rfl rfl rfl isfn67 rfl rfl (by decide) (answer_ok67 hS hn.fcr ((m.to : Nat) : Int) ((m.rp : Nat) : Int) ((m.id : Nat) : Int) ((m.op : Nat) : Int) ((m.st : Nat) : Int) ((m.po : Nat) : Int) ((m.ob : Nat) : Int) ((m.ri : Nat) : Int) ((m.ck : Nat) : Int) ((m.ar : Nat) : Int) (bs := m.da) ((DD.rds (F := D :: _) hdx 0 rfl)) (by omega) hxk (by have h := map_len9 hn.fcl; omega) (by omega) (by show ((y.st : Nat) : Int) = 1; omega) (by omega) (by show ((m.rp : Nat) : Int) = ((y.rq.to : Nat) : Int); omega)) ?_
 clear hA hS; rintro _ w6 a ⟨LC2, E1, A1, c1, hcr2, hE1, rfl, hS⟩ hA
 have hX7 : DX w0 D (E1 ++ D) := DX.refl.step
 refine zi (hS.tail 2 rfl) (ze (zx (zs (zr (zR 2 ((3, .bool true) :: (2, .slice none 0 0) :: _) hA rfl fun a hA => zn (zx ?_))))))
 refine wp_ret (xt_ret ?_)
 refine ret2 (fn := Tryz.f42) hA rfl rfl rfl ?_
 replace hS := hS.m2.d0.m1.m8.m8.m4.m8.m5.m8.m8.m8
 replace hS : St w0 w6 (((b, rowO [vI st.c.id, vI st.c.ki, vI st.c.no, vI st.c.pc, vI st.c.wa, vI st.c.tr, vI st.c.ag, vI st.c.pg, vI st.c.ro, vP bo 0, .bool true, vI st.c.now, vU st.c.sent, vU st.c.rep, vU st.c.port, vU st.c.r0, vW st.c.r1, vB st.c.r2, vU st.c.r3, sv, vP bd 0, vP bg 0, vP bc 0, vP bp 0, vP bx 0, .map (some mp)] 121) :: (LS ++ (LG ++ (LC2 ++ (LP ++ (LB2 ++ ((mp, ob) :: LV))))))) :: (E1 ++ D) :: F) := hS.cast (by simp)
 exact ⟨_, (E1 ++ D), ⟨_, _, _, _, _, _, _, _, _, _, _, _, _, _, _, _, _, _, ⟨hn.fsr, (hn.fgs.dx hX7), hcr2, hn.fpm, hb2, hn.fmp, (hn.fsv.dx hX7), hn.fel, (ent_dx hn.fed hX7), (map_set9 (y := { y with st := 2, rp := m }) hn.fcl (by rfl)), (call_set9 hn.fcd hxk hE1), hum, (msg_dx (fun z hz => hn.fud z (by rw [hul]; exact List.mem_cons_of_mem _ hz)) hX7), hn.fpl, (msg_dx hn.fpd hX7)⟩, rfl⟩, hX7, rfl, hS⟩
end Go.Proofs.YthiakdmhpfkjbaaGreatDoor

set_option linter.unusedVariables false
set_option linter.unusedSimpArgs false
set_option maxRecDepth 4000
namespace Go.Proofs.YthiakdmhpfkjbaaGreatDoor
open Go Go.SK
set_option maxHeartbeats 8000000 in
theorem nwork_make42 {w0 w : World} {F : List Chunk} {b bo nx bb : Nat} {st : NS} {os : List (Bool × Nat × Int × Int × Int)} {fl : List (Nat × List UInt8)} {L D : Chunk} {O : Chunk} {en : List (Nat × Nat × Nat)} {ts : List Nat} {k : Nat} (hS : St w0 w (L :: O :: D :: F)) (hN : NUP w0 b bo st (.file os fl nx bb) L D) (hO : ORR bo en ts k O) (m : MN) (hm : m.ok) (ps2 : List MN) (hus : st.us = []) (hps : st.ps = m :: ps2) (h1 : ¬ m.to = st.c.rep) (hop : m.op = 100) (hri : m.ri = 255) (hpo : m.po = st.c.port) (hnew : ∀ y ∈ st.es, ¬ (y.who = m.rp ∧ y.id = m.id)) (hel : st.es.length < 32) {s0 : Nat} {e0 li : Int} (hox : os[m.ob]? = some (true, s0, e0, -1, li)) (hos : s0 < 2 ^ 64) (hock : s0 % 281474976710656 = m.ck) {js z0 : Nat} (hjs : st.sd[js]? = some (m.rp, z0)) (hjsn : ∀ (q : Nat) (y : Nat × Nat), q < js → st.sd[q]? = some y → ¬ y.1 = m.rp) (hp1 : 1 ≤ st.c.pc) (hp2 : st.c.pc ≤ 32768) (hsn : st.c.sent < 1000000000) {x0 : Nat} (hall : ∀ x ∈ os, x.1 = true) (hol : os.length < 64) (hlt : ∀ x ∈ fl, x.1 < nx) (hnx : nx < 1000000) (hbb : bb + m.da.length ≤ 65536) (hx : ts[k]? = some x0) (hrok : (⟨m.rp, m.to, m.id, 100, 0, st.c.port, os.length, 255, x0, 0, []⟩ : MN).ok) (hnr : nP (encM ⟨m.rp, m.to, m.id, 100, 0, st.c.port, os.length, 255, x0, 0, []⟩) st.c.pc ≤ 256) :
 Ret Tryz.prog 42 #[vP b 0] w (fun v w' => ∃ L' ps A c C O' D', NUP w0 b bo { st with c := { st.c with sent := st.c.sent + 1 }, ps := ps2, es := st.es ++ [⟨m.rp, m.id, 2, ⟨m.rp, m.to, m.id, 100, 0, st.c.port, os.length, 255, x0, 0, []⟩⟩] } (.file (os ++ [(true, x0, 0, ((nx : Nat) : Int), 24)]) (fl ++ [(nx, m.da)]) (nx + 1) (bb + m.da.length)) L' D' ∧ Own 94 6 (.slice A ps.length c) ps.length (rows encPacket ps) C ∧ PKS w0 D' ps (splitM (encM ⟨m.rp, m.to, m.id, 100, 0, st.c.port, os.length, 255, x0, 0, []⟩) st.c.id z0 (st.c.sent + 1) st.c.pc) ∧ DX w0 D D' ∧ ORR bo en ts (k + 1) O' ∧ v = .tuple #[.slice A ps.length c, .bool true] ∧ St w0 w' (L' :: C :: O' :: D' :: F)) := by
 have hm0 := hm
 obtain ⟨hk1, hk2, hk3, hk4, hk5, hk6, hk7, hk8, hk9, hk10, hk11⟩ := hm
 obtain ⟨sv, bd, bg, bc, bp, bx, mp, ob, el, cl, ul, pl2, LS, LG, LC, LP, LB, LV, hn, rfl⟩ := hN
 replace hS : St w0 w ([(b, rowO [vI st.c.id, vI st.c.ki, vI st.c.no, vI st.c.pc, vI st.c.wa, vI st.c.tr, vI st.c.ag, vI st.c.pg, vI st.c.ro, vP bo 0, .bool true, vI st.c.now, vU st.c.sent, vU st.c.rep, vU st.c.port, vU st.c.r0, vW st.c.r1, vB st.c.r2, vU st.c.r3, sv, vP bd 0, vP bg 0, vP bc 0, vP bp 0, vP bx 0, .map (some mp)] 121)] :: LS :: LG :: LC :: LP :: LB :: [(mp, ob)] :: LV :: O :: D :: F) := hS.cast (by simp)
 have hu0 : ul = [] := map_nil9 (by rw [hn.ful, hus]); obtain ⟨x, ul2, hul, e, hum⟩ := map_cons9 (l := pl2) (y := m) (k := ps2) (by rw [hn.fpl, hps]); have hdx := hn.fpd x (by rw [hul]; exact List.mem_cons_self); have hbx0 := hn.fbx; rw [hu0, hul] at hbx0
 obtain ⟨x0, x1, x2, x3, x4, x5, x6, x7, x8, x9, xA, xc, xb⟩ := x
 simp only [mst, mdat, MN.t, Prod.mk.injEq] at e
 obtain ⟨e0, e1, e2, e3, e4, e5, e6, e7, e8, e9, e10⟩ := e
 subst e0 e1 e2 e3 e4 e5 e6 e7 e8 e9 e10
 obtain ⟨bsv, hsv, hV⟩ := hn.fsv; subst hsv
 refine enter (vs := [vP b 0]) 78 Tryz.func42 rfl rfl (by simp) ?_; intro a hA
 refine zs (zr (zR 2 ((3, .bool false) :: (2, .slice none 0 0) :: _) hA rfl fun a hA => zn (zx (zs (zs (zr (zR 3 ((11, vP b 10) :: (10, vP b 0) :: (9, vP b 0) :: _) hA rfl fun a hA => zL hA hS 0 rfl rfl rfl rfl rfl rfl rfl rfl rfl fun a hA => zR 1 ((13, .bool false) :: _) hA rfl fun a hA => zn (zx (cd_cond_f hA rfl (zk (zx (zs (zr (zR 3 ((17, vP b 24) :: (16, vP b 0) :: (15, vP b 0) :: _) hA rfl fun a hA => zL hA hS 0 rfl rfl rfl rfl rfl rfl rfl rfl rfl fun a hA => ?_))))))))))))))
 replace hS := hS.m5
 refine st_call0 hA rfl rfl rfl isfn66 rfl rfl (by decide) (get_p66 hS hbx0) ?_
 clear hA hS; rintro _ w1 a ⟨LB2, hb2, rfl, hS⟩ hA
 replace hA := hA.rw 19 (v' := .tuple #[.agg #[vU m.to, vU m.rp, vW m.id, vH m.op, vH m.st, vU m.po, vW m.ob, vB m.ri, vU m.ck, vU m.ar, .slice xA m.da.length xc], .bool true]) rfl rfl
 refine zR 3 ((21, .bool true) :: (20, .agg #[vU m.to, vU m.rp, vW m.id, vH m.op, vH m.st, vU m.po, vW m.ob, vB m.ri, vU m.ck, vU m.ar, .slice xA m.da.length xc]) :: (14, .tuple #[.agg #[vU m.to, vU m.rp, vW m.id, vH m.op, vH m.st, vU m.po, vW m.ob, vB m.ri, vU m.ck, vU m.ar, .slice xA m.da.length xc], .bool true]) :: _) hA rfl fun a hA => ?_
 refine st_alloc tbOk hA hS [.int .u64 0, .int .u64 0, .int .u32 0, .int .u16 0, .int .u16 0, .int .u64 0, .int .u32 0, .int .u8 0, .int .u64 0, .int .u64 0, .slice none 0 0] rfl rfl rfl rfl rfl (by decide) fun b2 w3 a hS hA => ?_
 refine st_store tbOk hA hS [vU m.to, vU m.rp, vW m.id, vH m.op, vH m.st, vU m.po, vW m.ob, vB m.ri, vU m.ck, vU m.ar, .slice xA m.da.length xc] [vU m.to, vU m.rp, vW m.id, vH m.op, vH m.st, vU m.po, vW m.ob, vB m.ri, vU m.ck, vU m.ar, .slice xA m.da.length xc] rfl rfl rfl rfl rfl rfl (zn1 rfl) (zle rfl) rfl rfl rfl fun w4 hS => ?_
 refine zR 1 ((5, .bool true) :: _) hA rfl fun a hA => zn (zx (zs (zs (zr (zR 2 ((23, .bool false) :: (22, .bool true) :: _) hA rfl fun a hA => zn (zx (cd_cond_f hA rfl (zk (zx (zs (zs ?_)))))))))))
 refine zD0 hS [] [(0, true), (1, true), (2, true), (3, true), (4, true), (5, true), (6, true)] mixed (by kernel_rfl) (by rintro c a w ⟨_, _, h, _⟩; cases h) (by rfl) (by kernel_rfl) ?_
 replace hS := hS.drew
 refine zW 1 ((24, vP b2 0) :: _) hA hS rfl fun a hA => zY hA hS 0 rfl rfl rfl rfl rfl rfl rfl rfl rfl rfl fun a hA => zW 3 ((28, vP b 13) :: (27, vP b 0) :: (26, vP b 0) :: _) hA hS rfl fun a hA => zY hA hS 2 rfl rfl rfl rfl rfl rfl rfl rfl rfl rfl fun a hA => zW 1 ((30, .bool (((m.to : Nat) : Int) == ((st.c.rep : Nat) : Int))) :: _) hA hS rfl fun a hA => ze (zx ?_)
 have hc5 : ¬ (((m.to : Nat) : Int) = ((st.c.rep : Nat) : Int)) := by omega
 replace hA := hA.rw 30 (v' := .bool false) rfl (vb_eq_f hc5)
 refine cd_cond_f hA rfl (zk (zx (zs ?_)))
 replace hS := hS.m10.m4
 refine wp_drawN (fun w' => St w0 w' ([(b2, rowO [vU m.to, vU m.rp, vW m.id, vH m.op, vH m.st, vU m.po, vW m.ob, vB m.ri, vU m.ck, vU m.ar, .slice xA m.da.length xc] 46)] :: LB2 :: [(b, rowO [vI st.c.id, vI st.c.ki, vI st.c.no, vI st.c.pc, vI st.c.wa, vI st.c.tr, vI st.c.ag, vI st.c.pg, vI st.c.ro, vP bo 0, .bool true, vI st.c.now, vU st.c.sent, vU st.c.rep, vU st.c.port, vU st.c.r0, vW st.c.r1, vB st.c.r2, vU st.c.r3, vP bsv 0, vP bd 0, vP bg 0, vP bc 0, vP bp 0, vP bx 0, .map (some mp)] 121)] :: LG :: LC :: LP :: [(mp, ob)] :: LV :: O :: F)) [] [(0, true), (1, true), (2, true), (3, true), (4, true)] 5 (.L [(6, true), (7, true), (8, true), (9, true), (10, false), (11, true), (12, false), (13, true)]) 10 (.L [(5, false), (6, true), (7, true), (8, true), (9, true), (11, true), (12, false), (13, true)]) mixed (by kernel_rfl) (by rintro c a w ⟨_, _, h, _⟩; cases h) (by rfl) (by kernel_rfl) ?_
 replace hS := hS.drew
 refine zW 3 ((40, vP b 20) :: (39, vP b 0) :: (38, vP b 0) :: _) hA (hS.tail 2 rfl) rfl fun a hA => zY hA (hS.tail 2 rfl) 2 rfl rfl rfl rfl rfl rfl rfl rfl rfl rfl fun a hA => zYA hA (hS.tail 2 rfl) 0 [vU m.to, vU m.rp, vW m.id, vH m.op, vH m.st, vU m.po, vW m.ob, vB m.ri, vU m.ck, vU m.ar, .slice xA m.da.length xc] rfl rfl rfl rfl rfl rfl rfl rfl rfl rfl rfl fun a hA => ?_
 refine dr_fork ?_ ?_
 · refine dr_b (o := _) rfl ?_
   replace hS := hS.m1.m1
   refine st_call0 hA rfl rfl rfl isfn68 rfl rfl (by decide) (take_new68 hS hn.fsr ((m.to : Nat) : Int) ((m.rp : Nat) : Int) ((m.id : Nat) : Int) ((m.op : Nat) : Int) ((m.st : Nat) : Int) ((m.po : Nat) : Int) ((m.ob : Nat) : Int) ((m.ri : Nat) : Int) ((m.ck : Nat) : Int) ((m.ar : Nat) : Int) _ (fnd_of hn.fel hnew) (by have h := map_len9 hn.fel; omega)) ?_
   clear hA hS; rintro _ w6 a ⟨LS2, hs2, rfl, hS⟩ hA
   refine zi (hS.tail 2 rfl) ?_
   refine dr_subL ?_
   refine zW 4 ((46, .nilIface) :: (45, .agg #[.int .u64 0, .int .u64 0, .int .u32 0, .int .u16 0, .int .u16 0, .int .u64 0, .int .u32 0, .int .u8 0, .int .u64 0, .int .u64 0, .slice none 0 0]) :: (44, .int .i64 0) :: (37, .tuple #[.int .i64 0, .agg #[.int .u64 0, .int .u64 0, .int .u32 0, .int .u16 0, .int .u16 0, .int .u64 0, .int .u32 0, .int .u8 0, .int .u64 0, .int .u64 0, .slice none 0 0], .nilIface]) :: _) hA (hS.tail 2 rfl) rfl fun a hA => dr_b (o := _) rfl ?_
   refine st_alloc tbOk hA hS [.int .u64 0, .int .u64 0, .int .u32 0, .int .u16 0, .int .u16 0, .int .u64 0, .int .u32 0, .int .u8 0, .int .u64 0, .int .u64 0, .slice none 0 0] rfl rfl rfl rfl rfl (by decide) fun b7 w8 a hS hA => ?_
   refine zi (hS.tail 3 rfl) (zW 1 ((6, .int .i64 0) :: _) hA (hS.tail 3 rfl) rfl fun a hA => dr_b (o := _) rfl ?_)
   refine st_store tbOk hA hS [.int .u64 0, .int .u64 0, .int .u32 0, .int .u16 0, .int .u16 0, .int .u64 0, .int .u32 0, .int .u8 0, .int .u64 0, .int .u64 0, .slice none 0 0] [.int .u64 0, .int .u64 0, .int .u32 0, .int .u16 0, .int .u16 0, .int .u64 0, .int .u32 0, .int .u8 0, .int .u64 0, .int .u64 0, .slice none 0 0] rfl rfl rfl rfl rfl rfl (zn1 rfl) (zle rfl) rfl rfl rfl fun w9 hS => ?_
   refine zi (hS.tail 3 rfl) (zW 1 ((8, .nilIface) :: _) hA (hS.tail 3 rfl) rfl fun a hA => ze (zx (zs (zb (zs (zs (zr (zR 3 ((47, .bool false) :: (49, .bool false) :: (48, .nilIface) :: _) hA rfl fun a hA => zn (zx (cd_cond_f hA rfl (zr (zR 3 ((47, .bool false) :: (51, .bool false) :: (50, .int .i64 0) :: _) hA rfl fun a hA => zn (zx (cd_cond_f hA rfl (zs (zr (zR 3 ((52, .bool true) :: (54, .bool true) :: (53, .int .i64 0) :: _) hA rfl fun a hA => zn (zx (cd_cond_t hA rfl (zs ?_))))))))))))))))))))
   replace hS := hS.m2.m11.m11
   refine zD4 hS [] [(0, true), (1, true), (2, true), (3, true), (4, true), (5, false), (6, false)] mixed (by kernel_rfl) (by rintro c a w ⟨_, _, h, _⟩; cases h) (by rfl) (by kernel_rfl) ?_
   replace hS := hS.drew
   refine zW 3 ((57, vP b 19) :: (56, vP b 0) :: (55, vP b 0) :: _) hA (hS.tail 4 rfl) rfl fun a hA => zY hA (hS.tail 4 rfl) 3 rfl rfl rfl rfl rfl rfl rfl rfl rfl rfl fun a hA => zYA hA (hS.tail 4 rfl) 1 [vU m.to, vU m.rp, vW m.id, vH m.op, vH m.st, vU m.po, vW m.ob, vB m.ri, vU m.ck, vU m.ar, .slice xA m.da.length xc] rfl rfl rfl rfl rfl rfl rfl rfl rfl rfl rfl fun a hA => dr_b (o := _) rfl ?_
   replace hA := hA.rw 59 (v' := .agg #[vU m.to, vU m.rp, vW m.id, .int .u16 100, vH m.st, vU st.c.port, vW m.ob, .int .u8 255, vU m.ck, vU m.ar, .slice xA m.da.length xc]) rfl (by first | (rw [hop, hri, hpo]; done) | (rw [hop, hri, hpo]; rfl))
   replace hS := hS.m2.m2.m2
   refine st_call0 hA rfl rfl rfl isfn69 rfl rfl (by decide) (serve_make69 hS hV hO m (by omega) hk7 hk9 hox hos hock (DD.rds (F := D :: _) hdx 0 rfl) (by omega) hall hol hlt hnx hbb hx) ?_
   clear hA hS; rintro _ w10 a ⟨LV2, O2, E1, A1, c1, hV2, hO2, hE1, rfl, hS⟩ hA
   have hX11 : DX w0 D (E1 ++ D) := DX.refl.step
   refine zi (hS.tail 4 rfl) (dr_b (o := _) rfl ?_)
   replace hS := hS.m3
   refine st_store tbOk hA hS [vU m.rp, vU m.to, vW m.id, .int .u16 100, .int .u16 0, vU st.c.port, vW os.length, .int .u8 255, vU x0, .int .u64 0, .slice A1 0 c1] [vU m.rp, vU m.to, vW m.id, .int .u16 100, .int .u16 0, vU st.c.port, vW os.length, .int .u8 255, vU x0, .int .u64 0, .slice A1 0 c1] rfl rfl rfl rfl rfl rfl (zn1 rfl) (zle rfl) rfl rfl rfl fun w12 hS => ?_
   refine zi (hS.tail 4 rfl) (ze (zx ?_))
   replace hS := hS.m3.m4
   refine zD2 hS [] [(0, true), (1, true), (2, true), (3, true), (4, true), (5, true), (6, false)] mixed (by kernel_rfl) (by rintro c a w ⟨_, _, h, _⟩; cases h) (by rfl) (by kernel_rfl) ?_
   replace hS := hS.drew
   refine zW 3 ((63, vP b 20) :: (62, vP b 0) :: (61, vP b 0) :: _) hA (hS.tail 2 rfl) rfl fun a hA => zY hA (hS.tail 2 rfl) 5 rfl rfl rfl rfl rfl rfl rfl rfl rfl rfl fun a hA => zYA hA (hS.tail 2 rfl) 3 [vU m.to, vU m.rp, vW m.id, vH m.op, vH m.st, vU m.po, vW m.ob, vB m.ri, vU m.ck, vU m.ar, .slice xA m.da.length xc] rfl rfl rfl rfl rfl rfl rfl rfl rfl rfl rfl fun a hA => zYA hA (hS.tail 2 rfl) 0 [vU m.rp, vU m.to, vW m.id, .int .u16 100, .int .u16 0, vU st.c.port, vW os.length, .int .u8 255, vU x0, .int .u64 0, .slice A1 0 c1] rfl rfl rfl rfl rfl rfl rfl rfl rfl rfl rfl fun a hA => dr_b (o := _) rfl ?_
   replace hS := hS.m1.m1
   refine st_call0 hA rfl rfl rfl isfn70 rfl rfl (by decide) (reply_ok70 hS hs2 ((m.to : Nat) : Int) ((m.rp : Nat) : Int) ((m.id : Nat) : Int) ((m.op : Nat) : Int) ((m.st : Nat) : Int) ((m.po : Nat) : Int) ((m.ob : Nat) : Int) ((m.ri : Nat) : Int) ((m.ck : Nat) : Int) ((m.ar : Nat) : Int) _ ((m.rp : Nat) : Int) ((m.to : Nat) : Int) ((m.id : Nat) : Int) 100 0 ((st.c.port : Nat) : Int) ((os.length : Nat) : Int) 255 ((x0 : Nat) : Int) 0 (bs := ([] : List UInt8)) (DD.rds (F := (E1 ++ D) :: _) (DD.right hE1) 0 rfl) (by decide) (k := el.length) (x := ((((m.rp : Nat) : Int), ((m.id : Nat) : Int), 1, 0, 0, 0, 0, 0, 0, 0, 0, 0, 0, none, 0, ([] : List UInt8)) : Ent)) last_at (by simp [fnd]) (bef_last (fnd_of hn.fel hnew)) rfl (by have h := map_len9 hn.fel; rw [List.length_append]; show el.length + 1 ≤ _; omega)) ?_
   clear hA hS; rintro _ w13 a ⟨LS3, E2, A2, c2, hs3, hE2, rfl, hS⟩ hA
   have hX14 : DX w0 (E1 ++ D) (E2 ++ (E1 ++ D)) := DX.refl.step
   refine zi (hS.tail 2 rfl) (ze (zm (zx (zs ?_))))
   refine zD0 hS [9, 10, 11] [(0, true), (1, true), (2, true), (3, true), (4, true), (5, true), (6, true), (7, true), (8, false), (9, false), (10, false), (11, false)] mixed (by kernel_rfl) (by rintro c a w ⟨_, _, h, _⟩; cases h) (by rfl) (by kernel_rfl) ?_
   replace hS := hS.drew
   refine zW 1 ((68, vP b 0) :: _) hA hS rfl fun a hA => zYA hA hS 2 [vU m.rp, vU m.to, vW m.id, .int .u16 100, .int .u16 0, vU st.c.port, vW os.length, .int .u8 255, vU x0, .int .u64 0, .slice A1 0 c1] rfl rfl rfl rfl rfl rfl rfl rfl rfl rfl rfl fun a hA => zW 3 ((72, vP b 25) :: (71, vP b 0) :: (70, vP b 0) :: _) hA hS rfl fun a hA => zY hA hS 7 rfl rfl rfl rfl rfl rfl rfl rfl rfl rfl fun a hA => zW 1 ((74, vP b2 1) :: _) hA hS rfl fun a hA => zY hA hS 5 rfl rfl rfl rfl rfl rfl rfl rfl rfl rfl fun a hA => dr_b (o := _) rfl (st_val hA rfl rfl (by decide) (rn_lookup_hit tbOk hA rfl rfl rfl rfl rfl rfl rfl (hS.heapAt 11 rfl) hn.fmp (sdv_at hjs) (sdv_bef hjsn)) fun a hA => zi hS (dr_b (o := _) rfl ?_))
   replace hS := hS.m1.m7
   refine st_call0 hA rfl rfl rfl isfn62 rfl rfl (by decide) (npackets62 (s := st.c) hS ⟨m.rp, m.to, m.id, 100, 0, st.c.port, os.length, 255, x0, 0, []⟩ hrok z0 (DD.rds (F := (E2 ++ (E1 ++ D)) :: _) (DD.left (DD.right hE1)) 0 rfl) (by omega) hp1 hp2 hnr) ?_
   clear hA hS; rintro _ w15 a ⟨psq, Aq, cq, Cq, Eq, hOq, hKq, rfl, hS⟩ hA
   have hX16 : DX w0 (E2 ++ (E1 ++ D)) (Eq ++ (E2 ++ (E1 ++ D))) := DX.refl.step
   refine dr_nil (.inl (by decide)) (dr_b (o := _) rfl (zR 1 ((2, .slice Aq psq.length cq) :: _) hA rfl fun a hA => dr_nil (.inl (by decide)) (dr_b (o := _) rfl (zR 1 ((3, .bool true) :: _) hA rfl fun a hA => dr_nil (.inl (by decide)) (ze (zx ?_))))))
   refine wp_ret ?_
   refine ret2 (fn := Tryz.f42) hA rfl rfl rfl ?_
   replace hS := hS.m4.d0.m6.d0.m2.m5.m3.m5.m10.m7.m10.m10.m10.m10.m10
   replace hS : St w0 w15 (((b, rowO [vI st.c.id, vI st.c.ki, vI st.c.no, vI st.c.pc, vI st.c.wa, vI st.c.tr, vI st.c.ag, vI st.c.pg, vI st.c.ro, vP bo 0, .bool true, vI st.c.now, vU (st.c.sent + 1), vU st.c.rep, vU st.c.port, vU st.c.r0, vW st.c.r1, vB st.c.r2, vU st.c.r3, vP bsv 0, vP bd 0, vP bg 0, vP bc 0, vP bp 0, vP bx 0, .map (some mp)] 121) :: (LS3 ++ (LG ++ (LC ++ (LP ++ (LB2 ++ ((mp, ob) :: LV2))))))) :: Cq :: O2 :: (Eq ++ (E2 ++ (E1 ++ D))) :: F) := hS.cast (by simp)
   exact ⟨_, psq, Aq, cq, Cq, O2, (Eq ++ (E2 ++ (E1 ++ D))), ⟨_, _, _, _, _, _, _, _, _, _, _, _, _, _, _, _, _, _, ⟨hs3, (hn.fgs.dx (hX11.trans (hX14.trans hX16))), hn.fcr, hn.fpm, hb2, hn.fmp, ((SVO.mk hV2).dx (hX14.trans hX16)), (by rw [set_last5]; exact map_snoc9 (y := (⟨m.rp, m.id, 2, ⟨m.rp, m.to, m.id, 100, 0, st.c.port, os.length, 255, x0, 0, []⟩⟩ : EA)) hn.fel (by rfl)), (by rw [set_last5]; exact all_snoc9 hn.fed (fun y hy => DX.dd (hX11.trans (hX14.trans hX16)) hy) (DD.left (DD.right hE2))), hn.fcl, ((hX11.trans (hX14.trans hX16)).calls hn.fcd), (by rw [hus]; rfl), (fun z hz => by cases hz), hum, (msg_dx (fun z hz => hn.fpd z (by rw [hul]; exact List.mem_cons_of_mem _ hz)) (hX11.trans (hX14.trans hX16)))⟩, rfl⟩, hOq, ⟨hKq.1, fun x hx => DD.right (hKq.2 x hx)⟩, (hX11.trans (hX14.trans hX16)), hO2, rfl, hS⟩
 · refine dr_b (o := _) rfl ?_
   refine st_alloc tbOk hA hS [.int .u64 0, .int .u64 0, .int .u32 0, .int .u16 0, .int .u16 0, .int .u64 0, .int .u32 0, .int .u8 0, .int .u64 0, .int .u64 0, .slice none 0 0] rfl rfl rfl rfl rfl (by decide) fun b17 w18 a hS hA => ?_
   refine zi (hS.tail 3 rfl) ?_
   refine dr_subL ?_
   refine dr_b (o := _) rfl ?_
   replace hS := hS.m2.m2
   refine st_call0 hA rfl rfl rfl isfn68 rfl rfl (by decide) (take_new68 hS hn.fsr ((m.to : Nat) : Int) ((m.rp : Nat) : Int) ((m.id : Nat) : Int) ((m.op : Nat) : Int) ((m.st : Nat) : Int) ((m.po : Nat) : Int) ((m.ob : Nat) : Int) ((m.ri : Nat) : Int) ((m.ck : Nat) : Int) ((m.ar : Nat) : Int) _ (fnd_of hn.fel hnew) (by have h := map_len9 hn.fel; omega)) ?_
   clear hA hS; rintro _ w19 a ⟨LS2, hs2, rfl, hS⟩ hA
   refine zi (hS.tail 3 rfl) (zW 5 ((6, .int .i64 0) :: (46, .nilIface) :: (45, .agg #[.int .u64 0, .int .u64 0, .int .u32 0, .int .u16 0, .int .u16 0, .int .u64 0, .int .u32 0, .int .u8 0, .int .u64 0, .int .u64 0, .slice none 0 0]) :: (44, .int .i64 0) :: (37, .tuple #[.int .i64 0, .agg #[.int .u64 0, .int .u64 0, .int .u32 0, .int .u16 0, .int .u16 0, .int .u64 0, .int .u32 0, .int .u8 0, .int .u64 0, .int .u64 0, .slice none 0 0], .nilIface]) :: _) hA (hS.tail 3 rfl) rfl fun a hA => dr_b (o := _) rfl ?_)
   replace hS := hS.m2
   refine st_store tbOk hA hS [.int .u64 0, .int .u64 0, .int .u32 0, .int .u16 0, .int .u16 0, .int .u64 0, .int .u32 0, .int .u8 0, .int .u64 0, .int .u64 0, .slice none 0 0] [.int .u64 0, .int .u64 0, .int .u32 0, .int .u16 0, .int .u16 0, .int .u64 0, .int .u32 0, .int .u8 0, .int .u64 0, .int .u64 0, .slice none 0 0] rfl rfl rfl rfl rfl rfl (zn1 rfl) (zle rfl) rfl rfl rfl fun w20 hS => ?_
   refine zi (hS.tail 3 rfl) (zW 1 ((8, .nilIface) :: _) hA (hS.tail 3 rfl) rfl fun a hA => ze (zx (zs (zb (zs (zs (zr (zR 3 ((47, .bool false) :: (49, .bool false) :: (48, .nilIface) :: _) hA rfl fun a hA => zn (zx (cd_cond_f hA rfl (zr (zR 3 ((47, .bool false) :: (51, .bool false) :: (50, .int .i64 0) :: _) hA rfl fun a hA => zn (zx (cd_cond_f hA rfl (zs (zr (zR 3 ((52, .bool true) :: (54, .bool true) :: (53, .int .i64 0) :: _) hA rfl fun a hA => zn (zx (cd_cond_t hA rfl (zs ?_))))))))))))))))))))
   replace hS := hS.m2.m11.m11
   refine zD4 hS [] [(0, true), (1, true), (2, true), (3, true), (4, true), (5, false), (6, false)] mixed (by kernel_rfl) (by rintro c a w ⟨_, _, h, _⟩; cases h) (by rfl) (by kernel_rfl) ?_
   replace hS := hS.drew
   refine zW 3 ((57, vP b 19) :: (56, vP b 0) :: (55, vP b 0) :: _) hA (hS.tail 4 rfl) rfl fun a hA => zY hA (hS.tail 4 rfl) 3 rfl rfl rfl rfl rfl rfl rfl rfl rfl rfl fun a hA => zYA hA (hS.tail 4 rfl) 1 [vU m.to, vU m.rp, vW m.id, vH m.op, vH m.st, vU m.po, vW m.ob, vB m.ri, vU m.ck, vU m.ar, .slice xA m.da.length xc] rfl rfl rfl rfl rfl rfl rfl rfl rfl rfl rfl fun a hA => dr_b (o := _) rfl ?_
   replace hA := hA.rw 59 (v' := .agg #[vU m.to, vU m.rp, vW m.id, .int .u16 100, vH m.st, vU st.c.port, vW m.ob, .int .u8 255, vU m.ck, vU m.ar, .slice xA m.da.length xc]) rfl (by first | (rw [hop, hri, hpo]; done) | (rw [hop, hri, hpo]; rfl))
   replace hS := hS.m2.m2.m2
   refine st_call0 hA rfl rfl rfl isfn69 rfl rfl (by decide) (serve_make69 hS hV hO m (by omega) hk7 hk9 hox hos hock (DD.rds (F := D :: _) hdx 0 rfl) (by omega) hall hol hlt hnx hbb hx) ?_
   clear hA hS; rintro _ w21 a ⟨LV2, O2, E1, A1, c1, hV2, hO2, hE1, rfl, hS⟩ hA
   have hX22 : DX w0 D (E1 ++ D) := DX.refl.step
   refine zi (hS.tail 4 rfl) (dr_b (o := _) rfl ?_)
   replace hS := hS.m3
   refine st_store tbOk hA hS [vU m.rp, vU m.to, vW m.id, .int .u16 100, .int .u16 0, vU st.c.port, vW os.length, .int .u8 255, vU x0, .int .u64 0, .slice A1 0 c1] [vU m.rp, vU m.to, vW m.id, .int .u16 100, .int .u16 0, vU st.c.port, vW os.length, .int .u8 255, vU x0, .int .u64 0, .slice A1 0 c1] rfl rfl rfl rfl rfl rfl (zn1 rfl) (zle rfl) rfl rfl rfl fun w23 hS => ?_
   refine zi (hS.tail 4 rfl) (ze (zx ?_))
   replace hS := hS.m3.m4
   refine zD2 hS [] [(0, true), (1, true), (2, true), (3, true), (4, true), (5, true), (6, false)] mixed (by kernel_rfl) (by rintro c a w ⟨_, _, h, _⟩; cases h) (by rfl) (by kernel_rfl) ?_
   replace hS := hS.drew
   refine zW 3 ((63, vP b 20) :: (62, vP b 0) :: (61, vP b 0) :: _) hA (hS.tail 2 rfl) rfl fun a hA => zY hA (hS.tail 2 rfl) 5 rfl rfl rfl rfl rfl rfl rfl rfl rfl rfl fun a hA => zYA hA (hS.tail 2 rfl) 3 [vU m.to, vU m.rp, vW m.id, vH m.op, vH m.st, vU m.po, vW m.ob, vB m.ri, vU m.ck, vU m.ar, .slice xA m.da.length xc] rfl rfl rfl rfl rfl rfl rfl rfl rfl rfl rfl fun a hA => zYA hA (hS.tail 2 rfl) 0 [vU m.rp, vU m.to, vW m.id, .int .u16 100, .int .u16 0, vU st.c.port, vW os.length, .int .u8 255, vU x0, .int .u64 0, .slice A1 0 c1] rfl rfl rfl rfl rfl rfl rfl rfl rfl rfl rfl fun a hA => dr_b (o := _) rfl ?_
   replace hS := hS.m1.m1
   refine st_call0 hA rfl rfl rfl isfn70 rfl rfl (by decide) (reply_ok70 hS hs2 ((m.to : Nat) : Int) ((m.rp : Nat) : Int) ((m.id : Nat) : Int) ((m.op : Nat) : Int) ((m.st : Nat) : Int) ((m.po : Nat) : Int) ((m.ob : Nat) : Int) ((m.ri : Nat) : Int) ((m.ck : Nat) : Int) ((m.ar : Nat) : Int) _ ((m.rp : Nat) : Int) ((m.to : Nat) : Int) ((m.id : Nat) : Int) 100 0 ((st.c.port : Nat) : Int) ((os.length : Nat) : Int) 255 ((x0 : Nat) : Int) 0 (bs := ([] : List UInt8)) (DD.rds (F := (E1 ++ D) :: _) (DD.right hE1) 0 rfl) (by decide) (k := el.length) (x := ((((m.rp : Nat) : Int), ((m.id : Nat) : Int), 1, 0, 0, 0, 0, 0, 0, 0, 0, 0, 0, none, 0, ([] : List UInt8)) : Ent)) last_at (by simp [fnd]) (bef_last (fnd_of hn.fel hnew)) rfl (by have h := map_len9 hn.fel; rw [List.length_append]; show el.length + 1 ≤ _; omega)) ?_
   clear hA hS; rintro _ w24 a ⟨LS3, E2, A2, c2, hs3, hE2, rfl, hS⟩ hA
   have hX25 : DX w0 (E1 ++ D) (E2 ++ (E1 ++ D)) := DX.refl.step
   refine zi (hS.tail 2 rfl) (ze (zm (zx (zs ?_))))
   refine zD0 hS [9, 10, 11] [(0, true), (1, true), (2, true), (3, true), (4, true), (5, true), (6, true), (7, true), (8, false), (9, false), (10, false), (11, false)] mixed (by kernel_rfl) (by rintro c a w ⟨_, _, h, _⟩; cases h) (by rfl) (by kernel_rfl) ?_
   replace hS := hS.drew
   refine zW 1 ((68, vP b 0) :: _) hA hS rfl fun a hA => zYA hA hS 2 [vU m.rp, vU m.to, vW m.id, .int .u16 100, .int .u16 0, vU st.c.port, vW os.length, .int .u8 255, vU x0, .int .u64 0, .slice A1 0 c1] rfl rfl rfl rfl rfl rfl rfl rfl rfl rfl rfl fun a hA => zW 3 ((72, vP b 25) :: (71, vP b 0) :: (70, vP b 0) :: _) hA hS rfl fun a hA => zY hA hS 7 rfl rfl rfl rfl rfl rfl rfl rfl rfl rfl fun a hA => zW 1 ((74, vP b2 1) :: _) hA hS rfl fun a hA => zY hA hS 5 rfl rfl rfl rfl rfl rfl rfl rfl rfl rfl fun a hA => dr_b (o := _) rfl (st_val hA rfl rfl (by decide) (rn_lookup_hit tbOk hA rfl rfl rfl rfl rfl rfl rfl (hS.heapAt 11 rfl) hn.fmp (sdv_at hjs) (sdv_bef hjsn)) fun a hA => zi hS (dr_b (o := _) rfl ?_))
   replace hS := hS.m1.m7
   refine st_call0 hA rfl rfl rfl isfn62 rfl rfl (by decide) (npackets62 (s := st.c) hS ⟨m.rp, m.to, m.id, 100, 0, st.c.port, os.length, 255, x0, 0, []⟩ hrok z0 (DD.rds (F := (E2 ++ (E1 ++ D)) :: _) (DD.left (DD.right hE1)) 0 rfl) (by omega) hp1 hp2 hnr) ?_
   clear hA hS; rintro _ w26 a ⟨psq, Aq, cq, Cq, Eq, hOq, hKq, rfl, hS⟩ hA
   have hX27 : DX w0 (E2 ++ (E1 ++ D)) (Eq ++ (E2 ++ (E1 ++ D))) := DX.refl.step
   refine dr_nil (.inl (by decide)) (dr_b (o := _) rfl (zR 1 ((2, .slice Aq psq.length cq) :: _) hA rfl fun a hA => dr_nil (.inl (by decide)) (dr_b (o := _) rfl (zR 1 ((3, .bool true) :: _) hA rfl fun a hA => dr_nil (.inl (by decide)) (ze (zx ?_))))))
   refine wp_ret ?_
   refine ret2 (fn := Tryz.f42) hA rfl rfl rfl ?_
   replace hS := hS.m4.d0.m6.d0.m2.m5.m3.m5.m10.m7.m10.m10.m10.m10.m10
   replace hS : St w0 w26 (((b, rowO [vI st.c.id, vI st.c.ki, vI st.c.no, vI st.c.pc, vI st.c.wa, vI st.c.tr, vI st.c.ag, vI st.c.pg, vI st.c.ro, vP bo 0, .bool true, vI st.c.now, vU (st.c.sent + 1), vU st.c.rep, vU st.c.port, vU st.c.r0, vW st.c.r1, vB st.c.r2, vU st.c.r3, vP bsv 0, vP bd 0, vP bg 0, vP bc 0, vP bp 0, vP bx 0, .map (some mp)] 121) :: (LS3 ++ (LG ++ (LC ++ (LP ++ (LB2 ++ ((mp, ob) :: LV2))))))) :: Cq :: O2 :: (Eq ++ (E2 ++ (E1 ++ D))) :: F) := hS.cast (by simp)
   exact ⟨_, psq, Aq, cq, Cq, O2, (Eq ++ (E2 ++ (E1 ++ D))), ⟨_, _, _, _, _, _, _, _, _, _, _, _, _, _, _, _, _, _, ⟨hs3, (hn.fgs.dx (hX22.trans (hX25.trans hX27))), hn.fcr, hn.fpm, hb2, hn.fmp, ((SVO.mk hV2).dx (hX25.trans hX27)), (by rw [set_last5]; exact map_snoc9 (y := (⟨m.rp, m.id, 2, ⟨m.rp, m.to, m.id, 100, 0, st.c.port, os.length, 255, x0, 0, []⟩⟩ : EA)) hn.fel (by rfl)), (by rw [set_last5]; exact all_snoc9 hn.fed (fun y hy => DX.dd (hX22.trans (hX25.trans hX27)) hy) (DD.left (DD.right hE2))), hn.fcl, ((hX22.trans (hX25.trans hX27)).calls hn.fcd), (by rw [hus]; rfl), (fun z hz => by cases hz), hum, (msg_dx (fun z hz => hn.fpd z (by rw [hul]; exact List.mem_cons_of_mem _ hz)) (hX22.trans (hX25.trans hX27)))⟩, rfl⟩, hOq, ⟨hKq.1, fun x hx => DD.right (hKq.2 x hx)⟩, (hX22.trans (hX25.trans hX27)), hO2, rfl, hS⟩
end Go.Proofs.YthiakdmhpfkjbaaGreatDoor

set_option linter.unusedVariables false
set_option linter.unusedSimpArgs false
set_option maxRecDepth 4000
namespace Go.Proofs.YthiakdmhpfkjbaaGreatDoor
open Go Go.SK
set_option maxHeartbeats 8000000 in
theorem nwork_read42 {w0 w : World} {F : List Chunk} {b bo nx bb : Nat} {st : NS} {os : List (Bool × Nat × Int × Int × Int)} {fl : List (Nat × List UInt8)} {L D : Chunk} (hS : St w0 w (L :: D :: F)) (hN : NUP w0 b bo st (.file os fl nx bb) L D) (m : MN) (hm : m.ok) (ps2 : List MN) (hus : st.us = []) (hps : st.ps = m :: ps2) (h1 : ¬ m.to = st.c.rep) (hop : m.op = 101) (hri : m.ri = 255) (hpo : m.po = st.c.port) (hnew : ∀ y ∈ st.es, ¬ (y.who = m.rp ∧ y.id = m.id)) (hel : st.es.length < 32) {va : Nat} {s0 : Nat} {e0 li : Int} (hox : os[m.ob]? = some (true, s0, e0, ((va : Nat) : Int), li)) (hos : s0 < 2 ^ 64) (hock : s0 % 281474976710656 = m.ck) {js z0 : Nat} (hjs : st.sd[js]? = some (m.rp, z0)) (hjsn : ∀ (q : Nat) (y : Nat × Nat), q < js → st.sd[q]? = some y → ¬ y.1 = m.rp) (hp1 : 1 ≤ st.c.pc) (hp2 : st.c.pc ≤ 32768) (hsn : st.c.sent < 1000000000) (hol : os.length ≤ 64) {j p n : Nat} {bs : List UInt8} (har : m.ar = p * 4294967296 + n) (hj : fl[j]? = some (va, bs)) (hjn : ∀ (q : Nat) (y : Nat × List UInt8), q < j → fl[q]? = some y → ¬ y.1 = va) (hbl : bs.length ≤ 65536) (hn4 : n ≤ 4096) (hpn : p + n ≤ bs.length) (hrok : (⟨m.rp, m.to, m.id, 101, 0, 0, 0, 0, 0, 0, bsub bs p n⟩ : MN).ok) (hnr : nP (encM ⟨m.rp, m.to, m.id, 101, 0, 0, 0, 0, 0, 0, bsub bs p n⟩) st.c.pc ≤ 256) :
 Ret Tryz.prog 42 #[vP b 0] w (fun v w' => ∃ L' ps A c C D', NUP w0 b bo { st with c := { st.c with sent := st.c.sent + 1 }, ps := ps2, es := st.es ++ [⟨m.rp, m.id, 2, ⟨m.rp, m.to, m.id, 101, 0, 0, 0, 0, 0, 0, bsub bs p n⟩⟩] } (.file os fl nx bb) L' D' ∧ Own 94 6 (.slice A ps.length c) ps.length (rows encPacket ps) C ∧ PKS w0 D' ps (splitM (encM ⟨m.rp, m.to, m.id, 101, 0, 0, 0, 0, 0, 0, bsub bs p n⟩) st.c.id z0 (st.c.sent + 1) st.c.pc) ∧ DX w0 D D' ∧ v = .tuple #[.slice A ps.length c, .bool true] ∧ St w0 w' (L' :: C :: D' :: F)) := by
 have hm0 := hm
 obtain ⟨hk1, hk2, hk3, hk4, hk5, hk6, hk7, hk8, hk9, hk10, hk11⟩ := hm
 obtain ⟨sv, bd, bg, bc, bp, bx, mp, ob, el, cl, ul, pl2, LS, LG, LC, LP, LB, LV, hn, rfl⟩ := hN
 replace hS : St w0 w ([(b, rowO [vI st.c.id, vI st.c.ki, vI st.c.no, vI st.c.pc, vI st.c.wa, vI st.c.tr, vI st.c.ag, vI st.c.pg, vI st.c.ro, vP bo 0, .bool true, vI st.c.now, vU st.c.sent, vU st.c.rep, vU st.c.port, vU st.c.r0, vW st.c.r1, vB st.c.r2, vU st.c.r3, sv, vP bd 0, vP bg 0, vP bc 0, vP bp 0, vP bx 0, .map (some mp)] 121)] :: LS :: LG :: LC :: LP :: LB :: [(mp, ob)] :: LV :: D :: F) := hS.cast (by simp)
 have hu0 : ul = [] := map_nil9 (by rw [hn.ful, hus]); obtain ⟨x, ul2, hul, e, hum⟩ := map_cons9 (l := pl2) (y := m) (k := ps2) (by rw [hn.fpl, hps]); have hdx := hn.fpd x (by rw [hul]; exact List.mem_cons_self); have hbx0 := hn.fbx; rw [hu0, hul] at hbx0
 obtain ⟨x0, x1, x2, x3, x4, x5, x6, x7, x8, x9, xA, xc, xb⟩ := x
 simp only [mst, mdat, MN.t, Prod.mk.injEq] at e
 obtain ⟨e0, e1, e2, e3, e4, e5, e6, e7, e8, e9, e10⟩ := e
 subst e0 e1 e2 e3 e4 e5 e6 e7 e8 e9 e10
 obtain ⟨bsv, hsv, hV⟩ := hn.fsv; subst hsv
 refine enter (vs := [vP b 0]) 78 Tryz.func42 rfl rfl (by simp) ?_; intro a hA
 refine zs (zr (zR 2 ((3, .bool false) :: (2, .slice none 0 0) :: _) hA rfl fun a hA => zn (zx (zs (zs (zr (zR 3 ((11, vP b 10) :: (10, vP b 0) :: (9, vP b 0) :: _) hA rfl fun a hA => zL hA hS 0 rfl rfl rfl rfl rfl rfl rfl rfl rfl fun a hA => zR 1 ((13, .bool false) :: _) hA rfl fun a hA => zn (zx (cd_cond_f hA rfl (zk (zx (zs (zr (zR 3 ((17, vP b 24) :: (16, vP b 0) :: (15, vP b 0) :: _) hA rfl fun a hA => zL hA hS 0 rfl rfl rfl rfl rfl rfl rfl rfl rfl fun a hA => ?_))))))))))))))
 replace hS := hS.m5
 refine st_call0 hA rfl rfl rfl isfn66 rfl rfl (by decide) (get_p66 hS hbx0) ?_
 clear hA hS; rintro _ w1 a ⟨LB2, hb2, rfl, hS⟩ hA
 replace hA := hA.rw 19 (v' := .tuple #[.agg #[vU m.to, vU m.rp, vW m.id, vH m.op, vH m.st, vU m.po, vW m.ob, vB m.ri, vU m.ck, vU m.ar, .slice xA m.da.length xc], .bool true]) rfl rfl
 refine zR 3 ((21, .bool true) :: (20, .agg #[vU m.to, vU m.rp, vW m.id, vH m.op, vH m.st, vU m.po, vW m.ob, vB m.ri, vU m.ck, vU m.ar, .slice xA m.da.length xc]) :: (14, .tuple #[.agg #[vU m.to, vU m.rp, vW m.id, vH m.op, vH m.st, vU m.po, vW m.ob, vB m.ri, vU m.ck, vU m.ar, .slice xA m.da.length xc], .bool true]) :: _) hA rfl fun a hA => ?_
 refine st_alloc tbOk hA hS [.int .u64 0, .int .u64 0, .int .u32 0, .int .u16 0, .int .u16 0, .int .u64 0, .int .u32 0, .int .u8 0, .int .u64 0, .int .u64 0, .slice none 0 0] rfl rfl rfl rfl rfl (by decide) fun b2 w3 a hS hA => ?_
 refine st_store tbOk hA hS [vU m.to, vU m.rp, vW m.id, vH m.op, vH m.st, vU m.po, vW m.ob, vB m.ri, vU m.ck, vU m.ar, .slice xA m.da.length xc] [vU m.to, vU m.rp, vW m.id, vH m.op, vH m.st, vU m.po, vW m.ob, vB m.ri, vU m.ck, vU m.ar, .slice xA m.da.length xc] rfl rfl rfl rfl rfl rfl (zn1 rfl) (zle rfl) rfl rfl rfl fun w4 hS => ?_
 refine zR 1 ((5, .bool true) :: _) hA rfl fun a hA => zn (zx (zs (zs (zr (zR 2 ((23, .bool false) :: (22, .bool true) :: _) hA rfl fun a hA => zn (zx (cd_cond_f hA rfl (zk (zx (zs (zs ?_)))))))))))
 refine zD0 hS [] [(0, true), (1, true), (2, true), (3, true), (4, true), (5, true), (6, true)] mixed (by kernel_rfl) (by rintro c a w ⟨_, _, h, _⟩; cases h) (by rfl) (by kernel_rfl) ?_
 replace hS := hS.drew
 refine zW 1 ((24, vP b2 0) :: _) hA hS rfl fun a hA => zY hA hS 0 rfl rfl rfl rfl rfl rfl rfl rfl rfl rfl fun a hA => zW 3 ((28, vP b 13) :: (27, vP b 0) :: (26, vP b 0) :: _) hA hS rfl fun a hA => zY hA hS 2 rfl rfl rfl rfl rfl rfl rfl rfl rfl rfl fun a hA => zW 1 ((30, .bool (((m.to : Nat) : Int) == ((st.c.rep : Nat) : Int))) :: _) hA hS rfl fun a hA => ze (zx ?_)
 have hc5 : ¬ (((m.to : Nat) : Int) = ((st.c.rep : Nat) : Int)) := by omega
 replace hA := hA.rw 30 (v' := .bool false) rfl (vb_eq_f hc5)
 refine cd_cond_f hA rfl (zk (zx (zs ?_)))
 replace hS := hS.m9.m4
 refine wp_drawN (fun w' => St w0 w' ([(b2, rowO [vU m.to, vU m.rp, vW m.id, vH m.op, vH m.st, vU m.po, vW m.ob, vB m.ri, vU m.ck, vU m.ar, .slice xA m.da.length xc] 46)] :: LB2 :: [(b, rowO [vI st.c.id, vI st.c.ki, vI st.c.no, vI st.c.pc, vI st.c.wa, vI st.c.tr, vI st.c.ag, vI st.c.pg, vI st.c.ro, vP bo 0, .bool true, vI st.c.now, vU st.c.sent, vU st.c.rep, vU st.c.port, vU st.c.r0, vW st.c.r1, vB st.c.r2, vU st.c.r3, vP bsv 0, vP bd 0, vP bg 0, vP bc 0, vP bp 0, vP bx 0, .map (some mp)] 121)] :: LG :: LC :: LP :: [(mp, ob)] :: LV :: F)) [] [(0, true), (1, true), (2, true), (3, true), (4, true)] 5 (.L [(6, true), (7, true), (8, true), (9, true), (10, false), (11, true), (12, false), (13, true)]) 10 (.L [(5, false), (6, true), (7, true), (8, true), (9, true), (11, true), (12, false), (13, true)]) mixed (by kernel_rfl) (by rintro c a w ⟨_, _, h, _⟩; cases h) (by rfl) (by kernel_rfl) ?_
 replace hS := hS.drew
 refine zW 3 ((40, vP b 20) :: (39, vP b 0) :: (38, vP b 0) :: _) hA (hS.tail 2 rfl) rfl fun a hA => zY hA (hS.tail 2 rfl) 2 rfl rfl rfl rfl rfl rfl rfl rfl rfl rfl fun a hA => zYA hA (hS.tail 2 rfl) 0 [vU m.to, vU m.rp, vW m.id, vH m.op, vH m.st, vU m.po, vW m.ob, vB m.ri, vU m.ck, vU m.ar, .slice xA m.da.length xc] rfl rfl rfl rfl rfl rfl rfl rfl rfl rfl rfl fun a hA => ?_
 refine dr_fork ?_ ?_
 · refine dr_b (o := _) rfl ?_
   replace hS := hS.m1.m1
   refine st_call0 hA rfl rfl rfl isfn68 rfl rfl (by decide) (take_new68 hS hn.fsr ((m.to : Nat) : Int) ((m.rp : Nat) : Int) ((m.id : Nat) : Int) ((m.op : Nat) : Int) ((m.st : Nat) : Int) ((m.po : Nat) : Int) ((m.ob : Nat) : Int) ((m.ri : Nat) : Int) ((m.ck : Nat) : Int) ((m.ar : Nat) : Int) _ (fnd_of hn.fel hnew) (by have h := map_len9 hn.fel; omega)) ?_
   clear hA hS; rintro _ w6 a ⟨LS2, hs2, rfl, hS⟩ hA
   refine zi (hS.tail 2 rfl) ?_
   refine dr_subL ?_
   refine zW 4 ((46, .nilIface) :: (45, .agg #[.int .u64 0, .int .u64 0, .int .u32 0, .int .u16 0, .int .u16 0, .int .u64 0, .int .u32 0, .int .u8 0, .int .u64 0, .int .u64 0, .slice none 0 0]) :: (44, .int .i64 0) :: (37, .tuple #[.int .i64 0, .agg #[.int .u64 0, .int .u64 0, .int .u32 0, .int .u16 0, .int .u16 0, .int .u64 0, .int .u32 0, .int .u8 0, .int .u64 0, .int .u64 0, .slice none 0 0], .nilIface]) :: _) hA (hS.tail 2 rfl) rfl fun a hA => dr_b (o := _) rfl ?_
   refine st_alloc tbOk hA hS [.int .u64 0, .int .u64 0, .int .u32 0, .int .u16 0, .int .u16 0, .int .u64 0, .int .u32 0, .int .u8 0, .int .u64 0, .int .u64 0, .slice none 0 0] rfl rfl rfl rfl rfl (by decide) fun b7 w8 a hS hA => ?_
   refine zi (hS.tail 3 rfl) (zW 1 ((6, .int .i64 0) :: _) hA (hS.tail 3 rfl) rfl fun a hA => dr_b (o := _) rfl ?_)
   refine st_store tbOk hA hS [.int .u64 0, .int .u64 0, .int .u32 0, .int .u16 0, .int .u16 0, .int .u64 0, .int .u32 0, .int .u8 0, .int .u64 0, .int .u64 0, .slice none 0 0] [.int .u64 0, .int .u64 0, .int .u32 0, .int .u16 0, .int .u16 0, .int .u64 0, .int .u32 0, .int .u8 0, .int .u64 0, .int .u64 0, .slice none 0 0] rfl rfl rfl rfl rfl rfl (zn1 rfl) (zle rfl) rfl rfl rfl fun w9 hS => ?_
   refine zi (hS.tail 3 rfl) (zW 1 ((8, .nilIface) :: _) hA (hS.tail 3 rfl) rfl fun a hA => ze (zx (zs (zb (zs (zs (zr (zR 3 ((47, .bool false) :: (49, .bool false) :: (48, .nilIface) :: _) hA rfl fun a hA => zn (zx (cd_cond_f hA rfl (zr (zR 3 ((47, .bool false) :: (51, .bool false) :: (50, .int .i64 0) :: _) hA rfl fun a hA => zn (zx (cd_cond_f hA rfl (zs (zr (zR 3 ((52, .bool true) :: (54, .bool true) :: (53, .int .i64 0) :: _) hA rfl fun a hA => zn (zx (cd_cond_t hA rfl (zs ?_))))))))))))))))))))
   replace hS := hS.m2.m10
   refine zD3 hS [] [(0, true), (1, true), (2, true), (3, true), (4, true), (5, false), (6, false)] mixed (by kernel_rfl) (by rintro c a w ⟨_, _, h, _⟩; cases h) (by rfl) (by kernel_rfl) ?_
   replace hS := hS.drew
   refine zW 3 ((57, vP b 19) :: (56, vP b 0) :: (55, vP b 0) :: _) hA (hS.tail 3 rfl) rfl fun a hA => zY hA (hS.tail 3 rfl) 3 rfl rfl rfl rfl rfl rfl rfl rfl rfl rfl fun a hA => zYA hA (hS.tail 3 rfl) 1 [vU m.to, vU m.rp, vW m.id, vH m.op, vH m.st, vU m.po, vW m.ob, vB m.ri, vU m.ck, vU m.ar, .slice xA m.da.length xc] rfl rfl rfl rfl rfl rfl rfl rfl rfl rfl rfl fun a hA => dr_b (o := _) rfl ?_
   replace hA := hA.rw 59 (v' := .agg #[vU m.to, vU m.rp, vW m.id, .int .u16 101, vH m.st, vU st.c.port, vW m.ob, .int .u8 255, vU m.ck, vU (p * 4294967296 + n), .slice xA m.da.length xc]) rfl (by first | (rw [hop, hri, hpo, har]; done) | (rw [hop, hri, hpo, har]; rfl))
   replace hS := hS.m1.m1
   refine st_call0 hA rfl rfl rfl isfn69 rfl rfl (by decide) (serve_read69 hS hV _ (by omega) hj hjn hbl hn4 hpn m (by omega) hk7 hk9 hox hos hock) ?_
   clear hA hS; rintro _ w10 a ⟨LV2, E1, A1, c1, hV2, hE1, rfl, hS⟩ hA
   have hX11 : DX w0 D (E1 ++ D) := DX.refl.step
   refine zi (hS.tail 3 rfl) (dr_b (o := _) rfl ?_)
   replace hS := hS.m2
   refine st_store tbOk hA hS [vU m.rp, vU m.to, vW m.id, .int .u16 101, .int .u16 0, .int .u64 0, .int .u32 0, .int .u8 0, .int .u64 0, .int .u64 0, .slice A1 ((bsub bs p n).length) c1] [vU m.rp, vU m.to, vW m.id, .int .u16 101, .int .u16 0, .int .u64 0, .int .u32 0, .int .u8 0, .int .u64 0, .int .u64 0, .slice A1 ((bsub bs p n).length) c1] rfl rfl rfl rfl rfl rfl (zn1 rfl) (zle rfl) rfl rfl rfl fun w12 hS => ?_
   refine zi (hS.tail 3 rfl) (ze (zx ?_))
   replace hS := hS.m2.m3
   refine zD2 hS [] [(0, true), (1, true), (2, true), (3, true), (4, true), (5, true), (6, false)] mixed (by kernel_rfl) (by rintro c a w ⟨_, _, h, _⟩; cases h) (by rfl) (by kernel_rfl) ?_
   replace hS := hS.drew
   refine zW 3 ((63, vP b 20) :: (62, vP b 0) :: (61, vP b 0) :: _) hA (hS.tail 2 rfl) rfl fun a hA => zY hA (hS.tail 2 rfl) 4 rfl rfl rfl rfl rfl rfl rfl rfl rfl rfl fun a hA => zYA hA (hS.tail 2 rfl) 2 [vU m.to, vU m.rp, vW m.id, vH m.op, vH m.st, vU m.po, vW m.ob, vB m.ri, vU m.ck, vU m.ar, .slice xA m.da.length xc] rfl rfl rfl rfl rfl rfl rfl rfl rfl rfl rfl fun a hA => zYA hA (hS.tail 2 rfl) 0 [vU m.rp, vU m.to, vW m.id, .int .u16 101, .int .u16 0, .int .u64 0, .int .u32 0, .int .u8 0, .int .u64 0, .int .u64 0, .slice A1 ((bsub bs p n).length) c1] rfl rfl rfl rfl rfl rfl rfl rfl rfl rfl rfl fun a hA => dr_b (o := _) rfl ?_
   replace hS := hS.m1.m1
   refine st_call0 hA rfl rfl rfl isfn70 rfl rfl (by decide) (reply_ok70 hS hs2 ((m.to : Nat) : Int) ((m.rp : Nat) : Int) ((m.id : Nat) : Int) ((m.op : Nat) : Int) ((m.st : Nat) : Int) ((m.po : Nat) : Int) ((m.ob : Nat) : Int) ((m.ri : Nat) : Int) ((m.ck : Nat) : Int) ((m.ar : Nat) : Int) _ ((m.rp : Nat) : Int) ((m.to : Nat) : Int) ((m.id : Nat) : Int) 101 0 0 0 0 0 0 (bs := bsub bs p n) (DD.rds (F := (E1 ++ D) :: _) (DD.right hE1) 0 rfl) (by rw [bsub_length hpn]; omega) (k := el.length) (x := ((((m.rp : Nat) : Int), ((m.id : Nat) : Int), 1, 0, 0, 0, 0, 0, 0, 0, 0, 0, 0, none, 0, ([] : List UInt8)) : Ent)) last_at (by simp [fnd]) (bef_last (fnd_of hn.fel hnew)) rfl (by have h := map_len9 hn.fel; rw [List.length_append]; show el.length + 1 ≤ _; omega)) ?_
   clear hA hS; rintro _ w13 a ⟨LS3, E2, A2, c2, hs3, hE2, rfl, hS⟩ hA
   have hX14 : DX w0 (E1 ++ D) (E2 ++ (E1 ++ D)) := DX.refl.step
   refine zi (hS.tail 2 rfl) (ze (zm (zx (zs ?_))))
   refine zD0 hS [9, 10, 11] [(0, true), (1, true), (2, true), (3, true), (4, true), (5, true), (6, true), (7, true), (8, false), (9, false), (10, false), (11, false)] mixed (by kernel_rfl) (by rintro c a w ⟨_, _, h, _⟩; cases h) (by rfl) (by kernel_rfl) ?_
   replace hS := hS.drew
   refine zW 1 ((68, vP b 0) :: _) hA hS rfl fun a hA => zYA hA hS 2 [vU m.rp, vU m.to, vW m.id, .int .u16 101, .int .u16 0, .int .u64 0, .int .u32 0, .int .u8 0, .int .u64 0, .int .u64 0, .slice A1 ((bsub bs p n).length) c1] rfl rfl rfl rfl rfl rfl rfl rfl rfl rfl rfl fun a hA => zW 3 ((72, vP b 25) :: (71, vP b 0) :: (70, vP b 0) :: _) hA hS rfl fun a hA => zY hA hS 6 rfl rfl rfl rfl rfl rfl rfl rfl rfl rfl fun a hA => zW 1 ((74, vP b2 1) :: _) hA hS rfl fun a hA => zY hA hS 4 rfl rfl rfl rfl rfl rfl rfl rfl rfl rfl fun a hA => dr_b (o := _) rfl (st_val hA rfl rfl (by decide) (rn_lookup_hit tbOk hA rfl rfl rfl rfl rfl rfl rfl (hS.heapAt 10 rfl) hn.fmp (sdv_at hjs) (sdv_bef hjsn)) fun a hA => zi hS (dr_b (o := _) rfl ?_))
   replace hS := hS.m1.m6
   refine st_call0 hA rfl rfl rfl isfn62 rfl rfl (by decide) (npackets62 (s := st.c) hS ⟨m.rp, m.to, m.id, 101, 0, 0, 0, 0, 0, 0, bsub bs p n⟩ hrok z0 (DD.rds (F := (E2 ++ (E1 ++ D)) :: _) (DD.left (DD.right hE1)) 0 rfl) (by omega) hp1 hp2 hnr) ?_
   clear hA hS; rintro _ w15 a ⟨psq, Aq, cq, Cq, Eq, hOq, hKq, rfl, hS⟩ hA
   have hX16 : DX w0 (E2 ++ (E1 ++ D)) (Eq ++ (E2 ++ (E1 ++ D))) := DX.refl.step
   refine dr_nil (.inl (by decide)) (dr_b (o := _) rfl (zR 1 ((2, .slice Aq psq.length cq) :: _) hA rfl fun a hA => dr_nil (.inl (by decide)) (dr_b (o := _) rfl (zR 1 ((3, .bool true) :: _) hA rfl fun a hA => dr_nil (.inl (by decide)) (ze (zx ?_))))))
   refine wp_ret ?_
   refine ret2 (fn := Tryz.f42) hA rfl rfl rfl ?_
   replace hS := hS.m4.d0.m5.d0.m2.m2.m4.m9.m6.m9.m9.m9.m9.m9
   replace hS : St w0 w15 (((b, rowO [vI st.c.id, vI st.c.ki, vI st.c.no, vI st.c.pc, vI st.c.wa, vI st.c.tr, vI st.c.ag, vI st.c.pg, vI st.c.ro, vP bo 0, .bool true, vI st.c.now, vU (st.c.sent + 1), vU st.c.rep, vU st.c.port, vU st.c.r0, vW st.c.r1, vB st.c.r2, vU st.c.r3, vP bsv 0, vP bd 0, vP bg 0, vP bc 0, vP bp 0, vP bx 0, .map (some mp)] 121) :: (LS3 ++ (LG ++ (LC ++ (LP ++ (LB2 ++ ((mp, ob) :: LV2))))))) :: Cq :: (Eq ++ (E2 ++ (E1 ++ D))) :: F) := hS.cast (by simp)
   exact ⟨_, psq, Aq, cq, Cq, (Eq ++ (E2 ++ (E1 ++ D))), ⟨_, _, _, _, _, _, _, _, _, _, _, _, _, _, _, _, _, _, ⟨hs3, (hn.fgs.dx (hX11.trans (hX14.trans hX16))), hn.fcr, hn.fpm, hb2, hn.fmp, ((SVO.mk hV2).dx (hX14.trans hX16)), (by rw [set_last5]; exact map_snoc9 (y := (⟨m.rp, m.id, 2, ⟨m.rp, m.to, m.id, 101, 0, 0, 0, 0, 0, 0, bsub bs p n⟩⟩ : EA)) hn.fel (by rfl)), (by rw [set_last5]; exact all_snoc9 hn.fed (fun y hy => DX.dd (hX11.trans (hX14.trans hX16)) hy) (DD.left (DD.right hE2))), hn.fcl, ((hX11.trans (hX14.trans hX16)).calls hn.fcd), (by rw [hus]; rfl), (fun z hz => by cases hz), hum, (msg_dx (fun z hz => hn.fpd z (by rw [hul]; exact List.mem_cons_of_mem _ hz)) (hX11.trans (hX14.trans hX16)))⟩, rfl⟩, hOq, ⟨hKq.1, fun x hx => DD.right (hKq.2 x hx)⟩, (hX11.trans (hX14.trans hX16)), rfl, hS⟩
 · refine dr_b (o := _) rfl ?_
   refine st_alloc tbOk hA hS [.int .u64 0, .int .u64 0, .int .u32 0, .int .u16 0, .int .u16 0, .int .u64 0, .int .u32 0, .int .u8 0, .int .u64 0, .int .u64 0, .slice none 0 0] rfl rfl rfl rfl rfl (by decide) fun b17 w18 a hS hA => ?_
   refine zi (hS.tail 3 rfl) ?_
   refine dr_subL ?_
   refine dr_b (o := _) rfl ?_
   replace hS := hS.m2.m2
   refine st_call0 hA rfl rfl rfl isfn68 rfl rfl (by decide) (take_new68 hS hn.fsr ((m.to : Nat) : Int) ((m.rp : Nat) : Int) ((m.id : Nat) : Int) ((m.op : Nat) : Int) ((m.st : Nat) : Int) ((m.po : Nat) : Int) ((m.ob : Nat) : Int) ((m.ri : Nat) : Int) ((m.ck : Nat) : Int) ((m.ar : Nat) : Int) _ (fnd_of hn.fel hnew) (by have h := map_len9 hn.fel; omega)) ?_
   clear hA hS; rintro _ w19 a ⟨LS2, hs2, rfl, hS⟩ hA
   refine zi (hS.tail 3 rfl) (zW 5 ((6, .int .i64 0) :: (46, .nilIface) :: (45, .agg #[.int .u64 0, .int .u64 0, .int .u32 0, .int .u16 0, .int .u16 0, .int .u64 0, .int .u32 0, .int .u8 0, .int .u64 0, .int .u64 0, .slice none 0 0]) :: (44, .int .i64 0) :: (37, .tuple #[.int .i64 0, .agg #[.int .u64 0, .int .u64 0, .int .u32 0, .int .u16 0, .int .u16 0, .int .u64 0, .int .u32 0, .int .u8 0, .int .u64 0, .int .u64 0, .slice none 0 0], .nilIface]) :: _) hA (hS.tail 3 rfl) rfl fun a hA => dr_b (o := _) rfl ?_)
   replace hS := hS.m2
   refine st_store tbOk hA hS [.int .u64 0, .int .u64 0, .int .u32 0, .int .u16 0, .int .u16 0, .int .u64 0, .int .u32 0, .int .u8 0, .int .u64 0, .int .u64 0, .slice none 0 0] [.int .u64 0, .int .u64 0, .int .u32 0, .int .u16 0, .int .u16 0, .int .u64 0, .int .u32 0, .int .u8 0, .int .u64 0, .int .u64 0, .slice none 0 0] rfl rfl rfl rfl rfl rfl (zn1 rfl) (zle rfl) rfl rfl rfl fun w20 hS => ?_
   refine zi (hS.tail 3 rfl) (zW 1 ((8, .nilIface) :: _) hA (hS.tail 3 rfl) rfl fun a hA => ze (zx (zs (zb (zs (zs (zr (zR 3 ((47, .bool false) :: (49, .bool false) :: (48, .nilIface) :: _) hA rfl fun a hA => zn (zx (cd_cond_f hA rfl (zr (zR 3 ((47, .bool false) :: (51, .bool false) :: (50, .int .i64 0) :: _) hA rfl fun a hA => zn (zx (cd_cond_f hA rfl (zs (zr (zR 3 ((52, .bool true) :: (54, .bool true) :: (53, .int .i64 0) :: _) hA rfl fun a hA => zn (zx (cd_cond_t hA rfl (zs ?_))))))))))))))))))))
   replace hS := hS.m2.m10
   refine zD3 hS [] [(0, true), (1, true), (2, true), (3, true), (4, true), (5, false), (6, false)] mixed (by kernel_rfl) (by rintro c a w ⟨_, _, h, _⟩; cases h) (by rfl) (by kernel_rfl) ?_
   replace hS := hS.drew
   refine zW 3 ((57, vP b 19) :: (56, vP b 0) :: (55, vP b 0) :: _) hA (hS.tail 3 rfl) rfl fun a hA => zY hA (hS.tail 3 rfl) 3 rfl rfl rfl rfl rfl rfl rfl rfl rfl rfl fun a hA => zYA hA (hS.tail 3 rfl) 1 [vU m.to, vU m.rp, vW m.id, vH m.op, vH m.st, vU m.po, vW m.ob, vB m.ri, vU m.ck, vU m.ar, .slice xA m.da.length xc] rfl rfl rfl rfl rfl rfl rfl rfl rfl rfl rfl fun a hA => dr_b (o := _) rfl ?_
   replace hA := hA.rw 59 (v' := .agg #[vU m.to, vU m.rp, vW m.id, .int .u16 101, vH m.st, vU st.c.port, vW m.ob, .int .u8 255, vU m.ck, vU (p * 4294967296 + n), .slice xA m.da.length xc]) rfl (by first | (rw [hop, hri, hpo, har]; done) | (rw [hop, hri, hpo, har]; rfl))
   replace hS := hS.m1.m1
   refine st_call0 hA rfl rfl rfl isfn69 rfl rfl (by decide) (serve_read69 hS hV _ (by omega) hj hjn hbl hn4 hpn m (by omega) hk7 hk9 hox hos hock) ?_
   clear hA hS; rintro _ w21 a ⟨LV2, E1, A1, c1, hV2, hE1, rfl, hS⟩ hA
   have hX22 : DX w0 D (E1 ++ D) := DX.refl.step
   refine zi (hS.tail 3 rfl) (dr_b (o := _) rfl ?_)
   replace hS := hS.m2
   refine st_store tbOk hA hS [vU m.rp, vU m.to, vW m.id, .int .u16 101, .int .u16 0, .int .u64 0, .int .u32 0, .int .u8 0, .int .u64 0, .int .u64 0, .slice A1 ((bsub bs p n).length) c1] [vU m.rp, vU m.to, vW m.id, .int .u16 101, .int .u16 0, .int .u64 0, .int .u32 0, .int .u8 0, .int .u64 0, .int .u64 0, .slice A1 ((bsub bs p n).length) c1] rfl rfl rfl rfl rfl rfl (zn1 rfl) (zle rfl) rfl rfl rfl fun w23 hS => ?_
   refine zi (hS.tail 3 rfl) (ze (zx ?_))
   replace hS := hS.m2.m3
   refine zD2 hS [] [(0, true), (1, true), (2, true), (3, true), (4, true), (5, true), (6, false)] mixed (by kernel_rfl) (by rintro c a w ⟨_, _, h, _⟩; cases h) (by rfl) (by kernel_rfl) ?_
   replace hS := hS.drew
   refine zW 3 ((63, vP b 20) :: (62, vP b 0) :: (61, vP b 0) :: _) hA (hS.tail 2 rfl) rfl fun a hA => zY hA (hS.tail 2 rfl) 4 rfl rfl rfl rfl rfl rfl rfl rfl rfl rfl fun a hA => zYA hA (hS.tail 2 rfl) 2 [vU m.to, vU m.rp, vW m.id, vH m.op, vH m.st, vU m.po, vW m.ob, vB m.ri, vU m.ck, vU m.ar, .slice xA m.da.length xc] rfl rfl rfl rfl rfl rfl rfl rfl rfl rfl rfl fun a hA => zYA hA (hS.tail 2 rfl) 0 [vU m.rp, vU m.to, vW m.id, .int .u16 101, .int .u16 0, .int .u64 0, .int .u32 0, .int .u8 0, .int .u64 0, .int .u64 0, .slice A1 ((bsub bs p n).length) c1] rfl rfl rfl rfl rfl rfl rfl rfl rfl rfl rfl fun a hA => dr_b (o := _) rfl ?_
   replace hS := hS.m1.m1
   refine st_call0 hA rfl rfl rfl isfn70 rfl rfl (by decide) (reply_ok70 hS hs2 ((m.to : Nat) : Int) ((m.rp : Nat) : Int) ((m.id : Nat) : Int) ((m.op : Nat) : Int) ((m.st : Nat) : Int) ((m.po : Nat) : Int) ((m.ob : Nat) : Int) ((m.ri : Nat) : Int) ((m.ck : Nat) : Int) ((m.ar : Nat) : Int) _ ((m.rp : Nat) : Int) ((m.to : Nat) : Int) ((m.id : Nat) : Int) 101 0 0 0 0 0 0 (bs := bsub bs p n) (DD.rds (F := (E1 ++ D) :: _) (DD.right hE1) 0 rfl) (by rw [bsub_length hpn]; omega) (k := el.length) (x := ((((m.rp : Nat) : Int), ((m.id : Nat) : Int), 1, 0, 0, 0, 0, 0, 0, 0, 0, 0, 0, none, 0, ([] : List UInt8)) : Ent)) last_at (by simp [fnd]) (bef_last (fnd_of hn.fel hnew)) rfl (by have h := map_len9 hn.fel; rw [List.length_append]; show el.length + 1 ≤ _; omega)) ?_
   clear hA hS; rintro _ w24 a ⟨LS3, E2, A2, c2, hs3, hE2, rfl, hS⟩ hA
   have hX25 : DX w0 (E1 ++ D) (E2 ++ (E1 ++ D)) := DX.refl.step
   refine zi (hS.tail 2 rfl) (ze (zm (zx (zs ?_))))
   refine zD0 hS [9, 10, 11] [(0, true), (1, true), (2, true), (3, true), (4, true), (5, true), (6, true), (7, true), (8, false), (9, false), (10, false), (11, false)] mixed (by kernel_rfl) (by rintro c a w ⟨_, _, h, _⟩; cases h) (by rfl) (by kernel_rfl) ?_
   replace hS := hS.drew
   refine zW 1 ((68, vP b 0) :: _) hA hS rfl fun a hA => zYA hA hS 2 [vU m.rp, vU m.to, vW m.id, .int .u16 101, .int .u16 0, .int .u64 0, .int .u32 0, .int .u8 0, .int .u64 0, .int .u64 0, .slice A1 ((bsub bs p n).length) c1] rfl rfl rfl rfl rfl rfl rfl rfl rfl rfl rfl fun a hA => zW 3 ((72, vP b 25) :: (71, vP b 0) :: (70, vP b 0) :: _) hA hS rfl fun a hA => zY hA hS 6 rfl rfl rfl rfl rfl rfl rfl rfl rfl rfl fun a hA => zW 1 ((74, vP b2 1) :: _) hA hS rfl fun a hA => zY hA hS 4 rfl rfl rfl rfl rfl rfl rfl rfl rfl rfl fun a hA => dr_b (o := _) rfl (st_val hA rfl rfl (by decide) (rn_lookup_hit tbOk hA rfl rfl rfl rfl rfl rfl rfl (hS.heapAt 10 rfl) hn.fmp (sdv_at hjs) (sdv_bef hjsn)) fun a hA => zi hS (dr_b (o := _) rfl ?_))
   replace hS := hS.m1.m6
   refine st_call0 hA rfl rfl rfl isfn62 rfl rfl (by decide) (npackets62 (s := st.c) hS ⟨m.rp, m.to, m.id, 101, 0, 0, 0, 0, 0, 0, bsub bs p n⟩ hrok z0 (DD.rds (F := (E2 ++ (E1 ++ D)) :: _) (DD.left (DD.right hE1)) 0 rfl) (by omega) hp1 hp2 hnr) ?_
   clear hA hS; rintro _ w26 a ⟨psq, Aq, cq, Cq, Eq, hOq, hKq, rfl, hS⟩ hA
   have hX27 : DX w0 (E2 ++ (E1 ++ D)) (Eq ++ (E2 ++ (E1 ++ D))) := DX.refl.step
   refine dr_nil (.inl (by decide)) (dr_b (o := _) rfl (zR 1 ((2, .slice Aq psq.length cq) :: _) hA rfl fun a hA => dr_nil (.inl (by decide)) (dr_b (o := _) rfl (zR 1 ((3, .bool true) :: _) hA rfl fun a hA => dr_nil (.inl (by decide)) (ze (zx ?_))))))
   refine wp_ret ?_
   refine ret2 (fn := Tryz.f42) hA rfl rfl rfl ?_
   replace hS := hS.m4.d0.m5.d0.m2.m2.m4.m9.m6.m9.m9.m9.m9.m9
   replace hS : St w0 w26 (((b, rowO [vI st.c.id, vI st.c.ki, vI st.c.no, vI st.c.pc, vI st.c.wa, vI st.c.tr, vI st.c.ag, vI st.c.pg, vI st.c.ro, vP bo 0, .bool true, vI st.c.now, vU (st.c.sent + 1), vU st.c.rep, vU st.c.port, vU st.c.r0, vW st.c.r1, vB st.c.r2, vU st.c.r3, vP bsv 0, vP bd 0, vP bg 0, vP bc 0, vP bp 0, vP bx 0, .map (some mp)] 121) :: (LS3 ++ (LG ++ (LC ++ (LP ++ (LB2 ++ ((mp, ob) :: LV2))))))) :: Cq :: (Eq ++ (E2 ++ (E1 ++ D))) :: F) := hS.cast (by simp)
   exact ⟨_, psq, Aq, cq, Cq, (Eq ++ (E2 ++ (E1 ++ D))), ⟨_, _, _, _, _, _, _, _, _, _, _, _, _, _, _, _, _, _, ⟨hs3, (hn.fgs.dx (hX22.trans (hX25.trans hX27))), hn.fcr, hn.fpm, hb2, hn.fmp, ((SVO.mk hV2).dx (hX25.trans hX27)), (by rw [set_last5]; exact map_snoc9 (y := (⟨m.rp, m.id, 2, ⟨m.rp, m.to, m.id, 101, 0, 0, 0, 0, 0, 0, bsub bs p n⟩⟩ : EA)) hn.fel (by rfl)), (by rw [set_last5]; exact all_snoc9 hn.fed (fun y hy => DX.dd (hX22.trans (hX25.trans hX27)) hy) (DD.left (DD.right hE2))), hn.fcl, ((hX22.trans (hX25.trans hX27)).calls hn.fcd), (by rw [hus]; rfl), (fun z hz => by cases hz), hum, (msg_dx (fun z hz => hn.fpd z (by rw [hul]; exact List.mem_cons_of_mem _ hz)) (hX22.trans (hX25.trans hX27)))⟩, rfl⟩, hOq, ⟨hKq.1, fun x hx => DD.right (hKq.2 x hx)⟩, (hX22.trans (hX25.trans hX27)), rfl, hS⟩
end Go.Proofs.YthiakdmhpfkjbaaGreatDoor

set_option linter.unusedVariables false
set_option linter.unusedSimpArgs false
set_option maxRecDepth 4000
namespace Go.Proofs.YthiakdmhpfkjbaaGreatDoor
open Go Go.SK
theorem node_of28 {w0 w : World} {F : List Chunk} (hS : St w0 w F) (s : NC) (bo : Nat) :
 Ret Tryz.prog 28 #[vI s.id, vI s.ki, .agg #[vI s.no, vI s.pc, vI s.wa, vI s.tr, vI s.ag, vI s.pg, vI s.ro], vP bo 0] w (fun v w' => ∃ b, v = vP b 0 ∧ St w0 w' ([(b, rowO [vI s.id, vI s.ki, vI s.no, vI s.pc, vI s.wa, vI s.tr, vI s.ag, vI s.pg, vI s.ro, vP bo 0, .bool false, .int .i64 0, .int .u64 0, .int .u64 0, .int .u64 0, .int .u64 0, .int .u32 0, .int .u8 0, .int .u64 0, .pointer none, .pointer none, .pointer none, .pointer none, .pointer none, .pointer none, .map none] 121)] :: F)) := by
 refine enter (vs := [vI s.id, vI s.ki, .agg #[vI s.no, vI s.pc, vI s.wa, vI s.tr, vI s.ag, vI s.pg, vI s.ro], vP bo 0]) 15 Tryz.func28 rfl rfl (by simp) ?_; intro a hA
 refine zs (zr ?_)
 refine st_box hA hS [vI s.no, vI s.pc, vI s.wa, vI s.tr, vI s.ag, vI s.pg, vI s.ro] rfl rfl rfl rfl rfl (by decide) fun b1 w2 a hS hA => ?_
 refine zR 1 ((8, .pointer none) :: _) hA rfl fun a hA => zn (zx (zs (zr (zR 2 ((10, vI s.ki) :: (9, vI s.id) :: _) hA rfl fun a hA => zLA hA hS 0 [vI s.no, vI s.pc, vI s.wa, vI s.tr, vI s.ag, vI s.pg, vI s.ro] rfl rfl rfl rfl rfl rfl rfl rfl rfl rfl fun a hA => zR 1 ((12, vP bo 0) :: _) hA rfl fun a hA => st_val hA rfl rfl (by decide) (rn_build tbOk hA rfl rfl rfl rfl rfl rfl rfl) fun a hA => ?_))))
 refine st_box hA hS [vI s.id, vI s.ki, vI s.no, vI s.pc, vI s.wa, vI s.tr, vI s.ag, vI s.pg, vI s.ro, vP bo 0, .bool false, .int .i64 0, .int .u64 0, .int .u64 0, .int .u64 0, .int .u64 0, .int .u32 0, .int .u8 0, .int .u64 0, .pointer none, .pointer none, .pointer none, .pointer none, .pointer none, .pointer none, .map none] rfl rfl rfl rfl rfl (by decide) fun b3 w4 a hS hA => ?_
 refine zR 1 ((8, vP b3 0) :: _) hA rfl fun a hA => zn (zx ?_)
 refine wp_ret ?_
 refine ret1 (fn := Tryz.f28) hA rfl rfl ?_
 replace hS := hS.m1.d0
 exact ⟨_, rfl, hS⟩
set_option maxHeartbeats 4000000 in
theorem nserve1_50 {w0 w : World} {F : List Chunk} {b bo rp g po x : Nat} {s : NC} {D : Chunk} {O : Chunk} {en : List (Nat × Nat × Nat)} {ts : List Nat} {k : Nat} (hS : St w0 w ([(b, rowO [vI s.id, .int .i64 1, vI s.no, vI s.pc, vI s.wa, vI s.tr, vI s.ag, .int .i64 10, vI s.ro, vP bo 0, .bool false, vI s.now, vU s.sent, vU rp, .int .u64 0, .int .u64 0, .int .u32 0, .int .u8 0, .int .u64 0, .pointer none, .pointer none, .pointer none, .pointer none, .pointer none, .pointer none, .map none] 121)] :: O :: F)) (hO : ORR bo en ts k O) (hx0 : ts[k]? = some g) (hx1 : ts[k + 1]? = some po) (hx2 : ts[k + 1 + 1]? = some x) (hg : g < 281474976710656) (hno : ∀ x ∈ en, ¬ (x.1 = 0 ∧ x.2.1 = g % 281474976710656)) (hel : en.length ≤ 1000) :
 Ret Tryz.prog 50 #[vP b 0] w (fun v w' => ∃ sv LV O', SVO w0 bo po .other sv LV D ∧ ORR bo (en ++ [(0, g % 281474976710656, po)]) ts (k + 1 + 1 + 1) O' ∧ v = .nilIface ∧ St w0 w' ([(b, rowO [vI s.id, .int .i64 1, vI s.no, vI s.pc, vI s.wa, vI s.tr, vI s.ag, .int .i64 10, vI s.ro, vP bo 0, .bool false, vI s.now, vU s.sent, vU rp, vU po, vU po, .int .u32 0, .int .u8 255, vU x, sv, .pointer none, .pointer none, .pointer none, .pointer none, .pointer none, .map none] 121)] :: LV :: O' :: F)) := by
 refine enter (vs := [vP b 0]) 96 Tryz.func50 rfl rfl (by simp) ?_; intro a hA
 refine zs (zr (zR 1 ((2, .nilIface) :: _) hA rfl fun a hA => zn (zx (zs (zr (zR 3 ((10, vP b 9) :: (9, vP b 0) :: (8, vP b 0) :: _) hA rfl fun a hA => zL hA hS 0 rfl rfl rfl rfl rfl rfl rfl rfl rfl fun a hA => ?_))))))
 replace hS := hS.m1
 refine st_call0 hA rfl rfl rfl isfn48 rfl rfl (by decide) (odraw48 hS hO (x := g) hx0) ?_
 clear hA hS; rintro _ w1 a ⟨O2, hO3, rfl, hS⟩ hA
 refine zR 5 ((4, .nilIface) :: (3, vU g) :: (14, .nilIface) :: (13, vU g) :: (7, .tuple #[vU g, .nilIface]) :: _) hA rfl fun a hA => zn (zx (zs (zs (zr (zR 2 ((16, .bool false) :: (15, .nilIface) :: _) hA rfl fun a hA => zn (zx (cd_cond_f hA rfl (zk (zx (zs (zr (zR 3 ((21, vP b 9) :: (20, vP b 0) :: (19, vP b 0) :: _) hA rfl fun a hA => zL hA hS 1 rfl rfl rfl rfl rfl rfl rfl rfl rfl fun a hA => zR 1 ((23, vU g) :: _) hA rfl fun a hA => ?_))))))))))))
 refine st_call0 hA rfl rfl rfl isfn49 rfl rfl (by decide) (tport49 hS hO3 g (by omega) hno (x := po) hx1 (by omega)) ?_
 clear hA hS; rintro _ w4 a ⟨O5, hO6, rfl, hS⟩ hA
 refine zR 5 ((4, .nilIface) :: (5, vU po) :: (26, .nilIface) :: (25, vU po) :: (18, .tuple #[vU po, .nilIface]) :: _) hA rfl fun a hA => zn (zx (zs (zs (zr (zR 2 ((28, .bool false) :: (27, .nilIface) :: _) hA rfl fun a hA => zn (zx (cd_cond_f hA rfl (zk (zx (zs (zr (zR 4 ((33, vP b 9) :: (32, vP b 0) :: (31, vP b 0) :: (30, vU po) :: _) hA rfl fun a hA => zL hA hS 1 rfl rfl rfl rfl rfl rfl rfl rfl rfl fun a hA => ?_))))))))))))
 refine st_call0 hA rfl rfl rfl isfn78 rfl rfl (by decide) (obj_of78 hS po bo) ?_
 clear hA hS; rintro _ w7 a ⟨bt, LT, hT, rfl, hS⟩ hA
 refine zR 1 ((6, vP bt 0) :: _) hA rfl fun a hA => zn (zx (zs (zs (zr (zR 3 ((38, vP b 1) :: (37, vP b 0) :: (36, vP b 0) :: _) hA rfl fun a hA => zL hA hS 2 rfl rfl rfl rfl rfl rfl rfl rfl rfl fun a hA => zn (zx (zb (zs (zr (zR 2 ((52, .bool true) :: (53, .bool true) :: _) hA rfl fun a hA => zn (zx (cd_cond_t hA rfl (zr (zR 7 ((61, vP b 7) :: (60, vP b 2) :: (59, vP b 0) :: (58, vP b 0) :: (57, vP bt 0) :: (56, vP b 0) :: (55, vP b 0) :: _) hA rfl fun a hA => zL hA hS 2 rfl rfl rfl rfl rfl rfl rfl rfl rfl fun a hA => ?_))))))))))))))
 replace hS := hS.m1.m1
 refine st_call0 hA rfl rfl rfl isfn79 rfl rfl (by decide) (mem_of79 hS hT hO6 (x := x) hx2) ?_
 clear hA hS; rintro _ w8 a ⟨bs, LV, O9, rfl, hO9, hS⟩ hA
 refine zR 6 ((68, vP b 19) :: (67, vP b 0) :: (66, .nilIface) :: (65, .agg #[vU po, .int .u32 0, .int .u8 255, vU x]) :: (64, vP bs 0) :: (54, .tuple #[vP bs 0, .agg #[vU po, .int .u32 0, .int .u8 255, vU x], .nilIface]) :: _) hA rfl fun a hA => ?_
 replace hS := hS.m2
 refine st_store tbOk hA hS [vP bs 0] [vI s.id, .int .i64 1, vI s.no, vI s.pc, vI s.wa, vI s.tr, vI s.ag, .int .i64 10, vI s.ro, vP bo 0, .bool false, vI s.now, vU s.sent, vU rp, .int .u64 0, .int .u64 0, .int .u32 0, .int .u8 0, .int .u64 0, vP bs 0, .pointer none, .pointer none, .pointer none, .pointer none, .pointer none, .map none] rfl rfl rfl rfl rfl rfl (by intro u hu; rw [List.mem_singleton.1 hu]; rfl) (zle rfl) rfl rfl rfl fun w9 hS => ?_
 refine zR 2 ((70, vP b 15) :: (69, vP b 0) :: _) hA rfl fun a hA => ?_
 refine st_store tbOk hA hS [vU po, .int .u32 0, .int .u8 255, vU x] [vI s.id, .int .i64 1, vI s.no, vI s.pc, vI s.wa, vI s.tr, vI s.ag, .int .i64 10, vI s.ro, vP bo 0, .bool false, vI s.now, vU s.sent, vU rp, .int .u64 0, vU po, .int .u32 0, .int .u8 255, vU x, vP bs 0, .pointer none, .pointer none, .pointer none, .pointer none, .pointer none, .map none] rfl rfl rfl rfl rfl rfl (zn1 rfl) (zle rfl) rfl rfl rfl fun w10 hS => ?_
 refine zR 1 ((4, .nilIface) :: _) hA rfl fun a hA => zn (zm (zx (zs (zs (zr (zR 2 ((90, .bool true) :: (89, .nilIface) :: _) hA rfl fun a hA => zn (zx (cd_cond_t hA rfl (zr (zR 4 ((94, vP b 14) :: (93, vP b 0) :: (92, vU po) :: (91, vP b 0) :: _) hA rfl fun a hA => ?_))))))))))
 refine st_store tbOk hA hS [vU po] [vI s.id, .int .i64 1, vI s.no, vI s.pc, vI s.wa, vI s.tr, vI s.ag, .int .i64 10, vI s.ro, vP bo 0, .bool false, vI s.now, vU s.sent, vU rp, vU po, vU po, .int .u32 0, .int .u8 255, vU x, vP bs 0, .pointer none, .pointer none, .pointer none, .pointer none, .pointer none, .map none] rfl rfl rfl rfl rfl rfl (by intro u hu; rw [List.mem_singleton.1 hu]; rfl) (zle rfl) rfl rfl rfl fun w11 hS => ?_
 refine zn (zx (zs (zr (zR 2 ((2, .nilIface) :: (95, .nilIface) :: _) hA rfl fun a hA => zn (zx ?_)))))
 refine wp_ret ?_
 refine ret1 (fn := Tryz.f50) hA rfl rfl ?_
 replace hS := hS.m2.m2.m2
 exact ⟨_, _, O9, ⟨bs, rfl⟩, hO9, rfl, hS⟩
set_option maxHeartbeats 4000000 in
theorem nserve2_50 {w0 w : World} {F : List Chunk} {b bo rp g po x : Nat} {s : NC} {D : Chunk} {O : Chunk} {en : List (Nat × Nat × Nat)} {ts : List Nat} {k : Nat} (hS : St w0 w ([(b, rowO [vI s.id, .int .i64 2, vI s.no, vI s.pc, vI s.wa, vI s.tr, vI s.ag, vI s.pg, vI s.ro, vP bo 0, .bool false, vI s.now, vU s.sent, vU rp, .int .u64 0, .int .u64 0, .int .u32 0, .int .u8 0, .int .u64 0, .pointer none, .pointer none, .pointer none, .pointer none, .pointer none, .pointer none, .map none] 121)] :: O :: F)) (hO : ORR bo en ts k O) (hx0 : ts[k]? = some g) (hx1 : ts[k + 1]? = some po) (hx2 : ts[k + 1 + 1]? = some x) (hg : g < 281474976710656) (hno : ∀ x ∈ en, ¬ (x.1 = 0 ∧ x.2.1 = g % 281474976710656)) (hel : en.length ≤ 1000) :
 Ret Tryz.prog 50 #[vP b 0] w (fun v w' => ∃ sv LV O', SVO w0 bo po .other sv LV D ∧ ORR bo (en ++ [(0, g % 281474976710656, po)]) ts (k + 1 + 1 + 1) O' ∧ v = .nilIface ∧ St w0 w' ([(b, rowO [vI s.id, .int .i64 2, vI s.no, vI s.pc, vI s.wa, vI s.tr, vI s.ag, vI s.pg, vI s.ro, vP bo 0, .bool false, vI s.now, vU s.sent, vU rp, vU po, vU po, .int .u32 0, .int .u8 255, vU x, sv, .pointer none, .pointer none, .pointer none, .pointer none, .pointer none, .map none] 121)] :: LV :: O' :: F)) := by
 refine enter (vs := [vP b 0]) 96 Tryz.func50 rfl rfl (by simp) ?_; intro a hA
 refine zs (zr (zR 1 ((2, .nilIface) :: _) hA rfl fun a hA => zn (zx (zs (zr (zR 3 ((10, vP b 9) :: (9, vP b 0) :: (8, vP b 0) :: _) hA rfl fun a hA => zL hA hS 0 rfl rfl rfl rfl rfl rfl rfl rfl rfl fun a hA => ?_))))))
 replace hS := hS.m1
 refine st_call0 hA rfl rfl rfl isfn48 rfl rfl (by decide) (odraw48 hS hO (x := g) hx0) ?_
 clear hA hS; rintro _ w1 a ⟨O2, hO3, rfl, hS⟩ hA
 refine zR 5 ((4, .nilIface) :: (3, vU g) :: (14, .nilIface) :: (13, vU g) :: (7, .tuple #[vU g, .nilIface]) :: _) hA rfl fun a hA => zn (zx (zs (zs (zr (zR 2 ((16, .bool false) :: (15, .nilIface) :: _) hA rfl fun a hA => zn (zx (cd_cond_f hA rfl (zk (zx (zs (zr (zR 3 ((21, vP b 9) :: (20, vP b 0) :: (19, vP b 0) :: _) hA rfl fun a hA => zL hA hS 1 rfl rfl rfl rfl rfl rfl rfl rfl rfl fun a hA => zR 1 ((23, vU g) :: _) hA rfl fun a hA => ?_))))))))))))
 refine st_call0 hA rfl rfl rfl isfn49 rfl rfl (by decide) (tport49 hS hO3 g (by omega) hno (x := po) hx1 (by omega)) ?_
 clear hA hS; rintro _ w4 a ⟨O5, hO6, rfl, hS⟩ hA
 refine zR 5 ((4, .nilIface) :: (5, vU po) :: (26, .nilIface) :: (25, vU po) :: (18, .tuple #[vU po, .nilIface]) :: _) hA rfl fun a hA => zn (zx (zs (zs (zr (zR 2 ((28, .bool false) :: (27, .nilIface) :: _) hA rfl fun a hA => zn (zx (cd_cond_f hA rfl (zk (zx (zs (zr (zR 4 ((33, vP b 9) :: (32, vP b 0) :: (31, vP b 0) :: (30, vU po) :: _) hA rfl fun a hA => zL hA hS 1 rfl rfl rfl rfl rfl rfl rfl rfl rfl fun a hA => ?_))))))))))))
 refine st_call0 hA rfl rfl rfl isfn78 rfl rfl (by decide) (obj_of78 hS po bo) ?_
 clear hA hS; rintro _ w7 a ⟨bt, LT, hT, rfl, hS⟩ hA
 refine zR 1 ((6, vP bt 0) :: _) hA rfl fun a hA => zn (zx (zs (zs (zr (zR 3 ((38, vP b 1) :: (37, vP b 0) :: (36, vP b 0) :: _) hA rfl fun a hA => zL hA hS 2 rfl rfl rfl rfl rfl rfl rfl rfl rfl fun a hA => zn (zx (zb (zs (zr (zR 2 ((52, .bool false) :: (53, .bool false) :: _) hA rfl fun a hA => zn (zx (cd_cond_f hA rfl (zs (zr (zR 2 ((71, .bool true) :: (72, .bool true) :: _) hA rfl fun a hA => zn (zx (cd_cond_t hA rfl (zr (zR 6 ((79, vP b 9) :: (78, vP b 0) :: (77, vP b 0) :: (76, vP bt 0) :: (75, vP b 0) :: (74, vP b 0) :: _) hA rfl fun a hA => zL hA hS 2 rfl rfl rfl rfl rfl rfl rfl rfl rfl fun a hA => ?_)))))))))))))))))))
 replace hS := hS.m1.m1
 refine st_call0 hA rfl rfl rfl isfn80 rfl rfl (by decide) (dir_of80 hS hT hO6 (x := x) hx2) ?_
 clear hA hS; rintro _ w8 a ⟨bs, LV, O9, rfl, hO9, hS⟩ hA
 refine zR 6 ((86, vP b 19) :: (85, vP b 0) :: (84, .nilIface) :: (83, .agg #[vU po, .int .u32 0, .int .u8 255, vU x]) :: (82, vP bs 0) :: (73, .tuple #[vP bs 0, .agg #[vU po, .int .u32 0, .int .u8 255, vU x], .nilIface]) :: _) hA rfl fun a hA => ?_
 replace hS := hS.m2
 refine st_store tbOk hA hS [vP bs 0] [vI s.id, .int .i64 2, vI s.no, vI s.pc, vI s.wa, vI s.tr, vI s.ag, vI s.pg, vI s.ro, vP bo 0, .bool false, vI s.now, vU s.sent, vU rp, .int .u64 0, .int .u64 0, .int .u32 0, .int .u8 0, .int .u64 0, vP bs 0, .pointer none, .pointer none, .pointer none, .pointer none, .pointer none, .map none] rfl rfl rfl rfl rfl rfl (by intro u hu; rw [List.mem_singleton.1 hu]; rfl) (zle rfl) rfl rfl rfl fun w9 hS => ?_
 refine zR 2 ((88, vP b 15) :: (87, vP b 0) :: _) hA rfl fun a hA => ?_
 refine st_store tbOk hA hS [vU po, .int .u32 0, .int .u8 255, vU x] [vI s.id, .int .i64 2, vI s.no, vI s.pc, vI s.wa, vI s.tr, vI s.ag, vI s.pg, vI s.ro, vP bo 0, .bool false, vI s.now, vU s.sent, vU rp, .int .u64 0, vU po, .int .u32 0, .int .u8 255, vU x, vP bs 0, .pointer none, .pointer none, .pointer none, .pointer none, .pointer none, .map none] rfl rfl rfl rfl rfl rfl (zn1 rfl) (zle rfl) rfl rfl rfl fun w10 hS => ?_
 refine zR 1 ((4, .nilIface) :: _) hA rfl fun a hA => zn (zm (zx (zs (zs (zr (zR 2 ((90, .bool true) :: (89, .nilIface) :: _) hA rfl fun a hA => zn (zx (cd_cond_t hA rfl (zr (zR 4 ((94, vP b 14) :: (93, vP b 0) :: (92, vU po) :: (91, vP b 0) :: _) hA rfl fun a hA => ?_))))))))))
 refine st_store tbOk hA hS [vU po] [vI s.id, .int .i64 2, vI s.no, vI s.pc, vI s.wa, vI s.tr, vI s.ag, vI s.pg, vI s.ro, vP bo 0, .bool false, vI s.now, vU s.sent, vU rp, vU po, vU po, .int .u32 0, .int .u8 255, vU x, vP bs 0, .pointer none, .pointer none, .pointer none, .pointer none, .pointer none, .map none] rfl rfl rfl rfl rfl rfl (by intro u hu; rw [List.mem_singleton.1 hu]; rfl) (zle rfl) rfl rfl rfl fun w11 hS => ?_
 refine zn (zx (zs (zr (zR 2 ((2, .nilIface) :: (95, .nilIface) :: _) hA rfl fun a hA => zn (zx ?_)))))
 refine wp_ret ?_
 refine ret1 (fn := Tryz.f50) hA rfl rfl ?_
 replace hS := hS.m2.m2.m2
 exact ⟨_, _, O9, ⟨bs, rfl⟩, hO9, rfl, hS⟩
set_option maxHeartbeats 4000000 in
theorem nserve3_50 {w0 w : World} {F : List Chunk} {b bo rp g po x : Nat} {s : NC} {D : Chunk} {O : Chunk} {en : List (Nat × Nat × Nat)} {ts : List Nat} {k : Nat} (hS : St w0 w ([(b, rowO [vI s.id, .int .i64 3, vI s.no, vI s.pc, vI s.wa, vI s.tr, vI s.ag, vI s.pg, vI s.ro, vP bo 0, .bool false, vI s.now, vU s.sent, vU rp, .int .u64 0, .int .u64 0, .int .u32 0, .int .u8 0, .int .u64 0, .pointer none, .pointer none, .pointer none, .pointer none, .pointer none, .pointer none, .map none] 121)] :: O :: F)) (hO : ORR bo en ts k O) (hx0 : ts[k]? = some g) (hx1 : ts[k + 1]? = some po) (hx2 : ts[k + 1 + 1]? = some x) (hg : g < 281474976710656) (hno : ∀ x ∈ en, ¬ (x.1 = 0 ∧ x.2.1 = g % 281474976710656)) (hel : en.length ≤ 1000) :
 Ret Tryz.prog 50 #[vP b 0] w (fun v w' => ∃ sv LV O', SVO w0 bo po (.file [(true, x, 0, -1, 24)] [] 0 0) sv LV D ∧ ORR bo (en ++ [(0, g % 281474976710656, po)]) ts (k + 1 + 1 + 1) O' ∧ v = .nilIface ∧ St w0 w' ([(b, rowO [vI s.id, .int .i64 3, vI s.no, vI s.pc, vI s.wa, vI s.tr, vI s.ag, vI s.pg, vI s.ro, vP bo 0, .bool false, vI s.now, vU s.sent, vU rp, vU po, vU po, .int .u32 0, .int .u8 255, vU x, sv, .pointer none, .pointer none, .pointer none, .pointer none, .pointer none, .map none] 121)] :: LV :: O' :: F)) := by
 refine enter (vs := [vP b 0]) 96 Tryz.func50 rfl rfl (by simp) ?_; intro a hA
 refine zs (zr (zR 1 ((2, .nilIface) :: _) hA rfl fun a hA => zn (zx (zs (zr (zR 3 ((10, vP b 9) :: (9, vP b 0) :: (8, vP b 0) :: _) hA rfl fun a hA => zL hA hS 0 rfl rfl rfl rfl rfl rfl rfl rfl rfl fun a hA => ?_))))))
 replace hS := hS.m1
 refine st_call0 hA rfl rfl rfl isfn48 rfl rfl (by decide) (odraw48 hS hO (x := g) hx0) ?_
 clear hA hS; rintro _ w1 a ⟨O2, hO3, rfl, hS⟩ hA
 refine zR 5 ((4, .nilIface) :: (3, vU g) :: (14, .nilIface) :: (13, vU g) :: (7, .tuple #[vU g, .nilIface]) :: _) hA rfl fun a hA => zn (zx (zs (zs (zr (zR 2 ((16, .bool false) :: (15, .nilIface) :: _) hA rfl fun a hA => zn (zx (cd_cond_f hA rfl (zk (zx (zs (zr (zR 3 ((21, vP b 9) :: (20, vP b 0) :: (19, vP b 0) :: _) hA rfl fun a hA => zL hA hS 1 rfl rfl rfl rfl rfl rfl rfl rfl rfl fun a hA => zR 1 ((23, vU g) :: _) hA rfl fun a hA => ?_))))))))))))
 refine st_call0 hA rfl rfl rfl isfn49 rfl rfl (by decide) (tport49 hS hO3 g (by omega) hno (x := po) hx1 (by omega)) ?_
 clear hA hS; rintro _ w4 a ⟨O5, hO6, rfl, hS⟩ hA
 refine zR 5 ((4, .nilIface) :: (5, vU po) :: (26, .nilIface) :: (25, vU po) :: (18, .tuple #[vU po, .nilIface]) :: _) hA rfl fun a hA => zn (zx (zs (zs (zr (zR 2 ((28, .bool false) :: (27, .nilIface) :: _) hA rfl fun a hA => zn (zx (cd_cond_f hA rfl (zk (zx (zs (zr (zR 4 ((33, vP b 9) :: (32, vP b 0) :: (31, vP b 0) :: (30, vU po) :: _) hA rfl fun a hA => zL hA hS 1 rfl rfl rfl rfl rfl rfl rfl rfl rfl fun a hA => ?_))))))))))))
 refine st_call0 hA rfl rfl rfl isfn78 rfl rfl (by decide) (obj_of78 hS po bo) ?_
 clear hA hS; rintro _ w7 a ⟨bt, LT, hT, rfl, hS⟩ hA
 refine zR 1 ((6, vP bt 0) :: _) hA rfl fun a hA => zn (zx (zs (zs (zr (zR 3 ((38, vP b 1) :: (37, vP b 0) :: (36, vP b 0) :: _) hA rfl fun a hA => zL hA hS 2 rfl rfl rfl rfl rfl rfl rfl rfl rfl fun a hA => zn (zx (zb (zs (zr (zR 2 ((52, .bool false) :: (53, .bool false) :: _) hA rfl fun a hA => zn (zx (cd_cond_f hA rfl (zs (zr (zR 2 ((71, .bool false) :: (72, .bool false) :: _) hA rfl fun a hA => zn (zx (cd_cond_f hA rfl (zr (zR 3 ((43, vP bt 0) :: (42, vP b 0) :: (41, vP b 0) :: _) hA rfl fun a hA => ?_)))))))))))))))))))
 replace hS := hS.m1.m1
 refine st_call0 hA rfl rfl rfl isfn81 rfl rfl (by decide) (file_of81 (D := D) hS hT hO6 (x := x) hx2) ?_
 clear hA hS; rintro _ w8 a ⟨bs, bf, LV0, O9, hV, hO9, rfl, hS⟩ hA
 refine zR 6 ((49, vP b 19) :: (48, vP b 0) :: (47, .nilIface) :: (46, .agg #[vU po, .int .u32 0, .int .u8 255, vU x]) :: (45, vP bs 0) :: (40, .tuple #[vP bs 0, .agg #[vU po, .int .u32 0, .int .u8 255, vU x], .nilIface]) :: _) hA rfl fun a hA => ?_
 replace hS := hS.m2
 refine st_store tbOk hA hS [vP bs 0] [vI s.id, .int .i64 3, vI s.no, vI s.pc, vI s.wa, vI s.tr, vI s.ag, vI s.pg, vI s.ro, vP bo 0, .bool false, vI s.now, vU s.sent, vU rp, .int .u64 0, .int .u64 0, .int .u32 0, .int .u8 0, .int .u64 0, vP bs 0, .pointer none, .pointer none, .pointer none, .pointer none, .pointer none, .map none] rfl rfl rfl rfl rfl rfl (by intro u hu; rw [List.mem_singleton.1 hu]; rfl) (zle rfl) rfl rfl rfl fun w9 hS => ?_
 refine zR 2 ((51, vP b 15) :: (50, vP b 0) :: _) hA rfl fun a hA => ?_
 refine st_store tbOk hA hS [vU po, .int .u32 0, .int .u8 255, vU x] [vI s.id, .int .i64 3, vI s.no, vI s.pc, vI s.wa, vI s.tr, vI s.ag, vI s.pg, vI s.ro, vP bo 0, .bool false, vI s.now, vU s.sent, vU rp, .int .u64 0, vU po, .int .u32 0, .int .u8 255, vU x, vP bs 0, .pointer none, .pointer none, .pointer none, .pointer none, .pointer none, .map none] rfl rfl rfl rfl rfl rfl (zn1 rfl) (zle rfl) rfl rfl rfl fun w10 hS => ?_
 refine zR 1 ((4, .nilIface) :: _) hA rfl fun a hA => zn (zm (zx (zs (zs (zr (zR 2 ((90, .bool true) :: (89, .nilIface) :: _) hA rfl fun a hA => zn (zx (cd_cond_t hA rfl (zr (zR 4 ((94, vP b 14) :: (93, vP b 0) :: (92, vU po) :: (91, vP b 0) :: _) hA rfl fun a hA => ?_))))))))))
 refine st_store tbOk hA hS [vU po] [vI s.id, .int .i64 3, vI s.no, vI s.pc, vI s.wa, vI s.tr, vI s.ag, vI s.pg, vI s.ro, vP bo 0, .bool false, vI s.now, vU s.sent, vU rp, vU po, vU po, .int .u32 0, .int .u8 255, vU x, vP bs 0, .pointer none, .pointer none, .pointer none, .pointer none, .pointer none, .map none] rfl rfl rfl rfl rfl rfl (by intro u hu; rw [List.mem_singleton.1 hu]; rfl) (zle rfl) rfl rfl rfl fun w11 hS => ?_
 refine zn (zx (zs (zr (zR 2 ((2, .nilIface) :: (95, .nilIface) :: _) hA rfl fun a hA => zn (zx ?_)))))
 refine wp_ret ?_
 refine ret1 (fn := Tryz.f50) hA rfl rfl ?_
 replace hS := hS.m2.m2.m2
 exact ⟨_, _, O9, ⟨bs, rfl, ⟨bf, bt, LV0, hV, rfl⟩⟩, hO9, rfl, hS⟩
end Go.Proofs.YthiakdmhpfkjbaaGreatDoor

set_option linter.unusedVariables false
set_option linter.unusedSimpArgs false
set_option maxRecDepth 4000
namespace Go.Proofs.YthiakdmhpfkjbaaGreatDoor
open Go Go.SK
theorem DX.bot {w0 : World} {D : Chunk} : DX w0 [] D := fun w' h => h.drop1.nil
theorem max1 {n : Nat} (h : 1 ≤ n) : (if ((n : Nat) : Int) > 1 then ((n : Nat) : Int) else 1) = ((n : Nat) : Int) := by split <;> omega
end Go.Proofs.YthiakdmhpfkjbaaGreatDoor

set_option linter.unusedVariables false
set_option linter.unusedSimpArgs false
set_option maxRecDepth 4000
namespace Go.Proofs.YthiakdmhpfkjbaaGreatDoor
open Go Go.SK
set_option maxHeartbeats 8000000 in
theorem nbootX_29 {w0 w : World} {F : List Chunk} {b bo : Nat} {s : NC} {D : Chunk} {kn pn : Nat} {O : Chunk} {en : List (Nat × Nat × Nat)} {ts : List Nat} {k : Nat} (hS : St w0 w ([(b, rowO [vI s.id, vI kn, vI s.no, vI s.pc, vI s.wa, vI s.tr, vI s.ag, vI pn, vI s.ro, vP bo 0, .bool false, vI s.now, vU s.sent, .int .u64 0, .int .u64 0, .int .u64 0, .int .u32 0, .int .u8 0, .int .u64 0, .pointer none, .pointer none, .pointer none, .pointer none, .pointer none, .pointer none, .map none] 121)] :: O :: F)) (hO : ORR bo en ts k O) {g rp : Nat} (hx0 : ts[k]? = some g) (hx1 : ts[k + 1]? = some rp) (hg : g < 281474976710656) (hno : ∀ x ∈ en, ¬ (x.1 = 0 ∧ x.2.1 = g % 281474976710656)) (hel : en.length ≤ 900) (hwa : 1 ≤ s.wa) (htr : 1 ≤ s.tr) (hag : 1 ≤ s.ag) (hro : s.ro ≤ 64) {po r0 r1 r2 r3 k2 : Nat} {en2 : List (Nat × Nat × Nat)} {srv : Srv} (h0 : kn = 0 → en2 = en ++ [(0, g % 281474976710656, rp)] ∧ k2 = k + 1 + 1 ∧ po = 0 ∧ r0 = 0 ∧ r1 = 0 ∧ r2 = 0 ∧ r3 = 0 ∧ srv = .none) (hsrv : ¬ kn = 0 → ∀ (w : World) (O : Chunk), St w0 w ([(b, rowO [vI s.id, vI kn, vI s.no, vI s.pc, vI s.wa, vI s.tr, vI s.ag, vI pn, vI s.ro, vP bo 0, .bool false, vI s.now, vU s.sent, vU rp, .int .u64 0, .int .u64 0, .int .u32 0, .int .u8 0, .int .u64 0, .pointer none, .pointer none, .pointer none, .pointer none, .pointer none, .pointer none, .map none] 121)] :: O :: F) → ORR bo (en ++ [(0, g % 281474976710656, rp)]) ts (k + 1 + 1) O → Ret Tryz.prog 50 #[vP b 0] w (fun v w' => ∃ sv LV O', SVO w0 bo po srv sv LV D ∧ ORR bo en2 ts k2 O' ∧ v = .nilIface ∧ St w0 w' ([(b, rowO [vI s.id, vI kn, vI s.no, vI s.pc, vI s.wa, vI s.tr, vI s.ag, vI pn, vI s.ro, vP bo 0, .bool false, vI s.now, vU s.sent, vU rp, vU po, vU r0, vW r1, vB r2, vU r3, sv, .pointer none, .pointer none, .pointer none, .pointer none, .pointer none, .map none] 121)] :: LV :: O' :: F)))  :
 Ret Tryz.prog 29 #[vP b 0] w (fun v w' => ∃ L' O', NUP w0 b bo ⟨⟨s.id, kn, s.no, s.pc, s.wa, s.tr, s.ag, pn, s.ro, s.now, s.sent, rp, po, r0, r1, r2, r3⟩, [], [], [], [], [], [], []⟩ srv L' D ∧ ORR bo (en2) ts (k2) O' ∧ v = .nilIface ∧ St w0 w' (L' :: O' :: F)) := by
 refine enter (vs := [vP b 0]) 109 Tryz.func29 rfl rfl (by simp) ?_; intro a hA
 refine zs (zr (zR 1 ((2, .nilIface) :: _) hA rfl fun a hA => zn (zx (zs (zs (zr (zR 3 ((9, vP b 10) :: (8, vP b 0) :: (7, vP b 0) :: _) hA rfl fun a hA => zL hA hS 0 rfl rfl rfl rfl rfl rfl rfl rfl rfl fun a hA => zn (zx (cd_cond_f hA rfl (zk (zx (zs (zr (zR 3 ((15, vP b 9) :: (14, vP b 0) :: (13, vP b 0) :: _) hA rfl fun a hA => zL hA hS 0 rfl rfl rfl rfl rfl rfl rfl rfl rfl fun a hA => ?_))))))))))))))
 replace hS := hS.m1
 refine st_call0 hA rfl rfl rfl isfn48 rfl rfl (by decide) (odraw48 hS hO (x := g) hx0) ?_
 clear hA hS; rintro _ w1 a ⟨O2, hO3, rfl, hS⟩ hA
 refine zR 5 ((4, .nilIface) :: (3, vU g) :: (19, .nilIface) :: (18, vU g) :: (12, .tuple #[vU g, .nilIface]) :: _) hA rfl fun a hA => zn (zx (zs (zs (zr (zR 2 ((21, .bool false) :: (20, .nilIface) :: _) hA rfl fun a hA => zn (zx (cd_cond_f hA rfl (zk (zx (zs (zr (zR 3 ((26, vP b 9) :: (25, vP b 0) :: (24, vP b 0) :: _) hA rfl fun a hA => zL hA hS 1 rfl rfl rfl rfl rfl rfl rfl rfl rfl fun a hA => zR 1 ((28, vU g) :: _) hA rfl fun a hA => ?_))))))))))))
 refine st_call0 hA rfl rfl rfl isfn49 rfl rfl (by decide) (tport49 hS hO3 g (by omega) hno (x := rp) hx1 (by omega)) ?_
 clear hA hS; rintro _ w4 a ⟨O5, hO6, rfl, hS⟩ hA
 refine zR 5 ((4, .nilIface) :: (5, vU rp) :: (31, .nilIface) :: (30, vU rp) :: (23, .tuple #[vU rp, .nilIface]) :: _) hA rfl fun a hA => zn (zx (zs (zs (zr (zR 2 ((33, .bool false) :: (32, .nilIface) :: _) hA rfl fun a hA => zn (zx (cd_cond_f hA rfl (zk (zx (zs (zr (zR 8 ((42, vP b 13) :: (41, vP b 0) :: (40, .agg #[.int .u64 0, .int .u32 0, .int .u8 0, .int .u64 0]) :: (39, vU rp) :: (38, vP b 0) :: (37, vP b 0) :: (36, vP b 0) :: (35, vP b 0) :: _) hA rfl fun a hA => ?_))))))))))))
 replace hS := hS.m1
 refine st_store tbOk hA hS [vU rp] [vI s.id, vI kn, vI s.no, vI s.pc, vI s.wa, vI s.tr, vI s.ag, vI pn, vI s.ro, vP bo 0, .bool false, vI s.now, vU s.sent, vU rp, .int .u64 0, .int .u64 0, .int .u32 0, .int .u8 0, .int .u64 0, .pointer none, .pointer none, .pointer none, .pointer none, .pointer none, .pointer none, .map none] rfl rfl rfl rfl rfl rfl (by intro u hu; rw [List.mem_singleton.1 hu]; rfl) (zle rfl) rfl rfl rfl fun w7 hS => ?_
 refine zR 2 ((44, vP b 14) :: (43, vP b 0) :: _) hA rfl fun a hA => ?_
 refine st_store tbOk hA hS [.int .u64 0] [vI s.id, vI kn, vI s.no, vI s.pc, vI s.wa, vI s.tr, vI s.ag, vI pn, vI s.ro, vP bo 0, .bool false, vI s.now, vU s.sent, vU rp, .int .u64 0, .int .u64 0, .int .u32 0, .int .u8 0, .int .u64 0, .pointer none, .pointer none, .pointer none, .pointer none, .pointer none, .pointer none, .map none] rfl rfl rfl rfl rfl rfl (by intro u hu; rw [List.mem_singleton.1 hu]; rfl) (zle rfl) rfl rfl rfl fun w8 hS => ?_
 refine zR 2 ((46, vP b 15) :: (45, vP b 0) :: _) hA rfl fun a hA => ?_
 refine st_store tbOk hA hS [.int .u64 0, .int .u32 0, .int .u8 0, .int .u64 0] [vI s.id, vI kn, vI s.no, vI s.pc, vI s.wa, vI s.tr, vI s.ag, vI pn, vI s.ro, vP bo 0, .bool false, vI s.now, vU s.sent, vU rp, .int .u64 0, .int .u64 0, .int .u32 0, .int .u8 0, .int .u64 0, .pointer none, .pointer none, .pointer none, .pointer none, .pointer none, .pointer none, .map none] rfl rfl rfl rfl rfl rfl (zn1 rfl) (zle rfl) rfl rfl rfl fun w9 hS => ?_
 refine zR 2 ((48, vP b 19) :: (47, vP b 0) :: _) hA rfl fun a hA => ?_
 refine st_store tbOk hA hS [.pointer none] [vI s.id, vI kn, vI s.no, vI s.pc, vI s.wa, vI s.tr, vI s.ag, vI pn, vI s.ro, vP bo 0, .bool false, vI s.now, vU s.sent, vU rp, .int .u64 0, .int .u64 0, .int .u32 0, .int .u8 0, .int .u64 0, .pointer none, .pointer none, .pointer none, .pointer none, .pointer none, .pointer none, .map none] rfl rfl rfl rfl rfl rfl (by intro u hu; rw [List.mem_singleton.1 hu]; rfl) (zle rfl) rfl rfl rfl fun w10 hS => ?_
 refine zn (zx ?_)
 refine wp_seq_join (fun a w => ∃ (sv : Value) (LV : Chunk) (O9 : Chunk), Has a 109 [(0, vP b 0), (5, vU rp)] ∧ St w0 w ([(b, rowO [vI s.id, vI kn, vI s.no, vI s.pc, vI s.wa, vI s.tr, vI s.ag, vI pn, vI s.ro, vP bo 0, .bool false, vI s.now, vU s.sent, vU rp, vU po, vU r0, vW r1, vB r2, vU r3, sv, .pointer none, .pointer none, .pointer none, .pointer none, .pointer none, .map none] 121)] :: LV :: O9 :: F) ∧ (SVO w0 bo po srv sv LV D) ∧ (ORR bo en2 ts k2 O9)) ?_ ?_
 · refine zs (zr (zR 3 ((51, vP b 1) :: (50, vP b 0) :: (49, vP b 0) :: _) hA rfl fun a hA => zL hA hS 0 rfl rfl rfl rfl rfl rfl rfl rfl rfl fun a hA => zR 1 ((53, .bool (((kn : Nat) : Int) != 0)) :: _) hA rfl fun a hA => zn (zx ?_)))
   by_cases hc11 : ((kn : Nat) : Int) = 0
   · first
     | (exfalso; omega)
     | (replace hA := hA.rw 53 (v' := .bool false) rfl (vb_ne_f hc11)
        refine cd_cond_f hA rfl (zk (zx ?_))
        obtain ⟨rfl, rfl, rfl, rfl, rfl, rfl, rfl, rfl⟩ := h0 (by omega)
        replace hS := hS.nil
        replace hS := hS.m1
        exact ⟨(.pointer none), ([]), O5, (hA.sel [0, 5] rfl), hS, ⟨rfl, rfl⟩, hO6⟩)
   · first
     | (exfalso; omega)
     | (replace hA := hA.rw 53 (v' := .bool true) rfl (vb_ne_t hc11)
        refine cd_cond_t hA rfl (zs (zr (zR 1 ((54, vP b 0) :: _) hA rfl fun a hA => ?_)))
        replace hS := hS.m1.m1
        refine st_call0 hA rfl rfl rfl isfn50 rfl rfl (by decide) (hsrv (by omega) _ _ hS hO6) ?_
        clear hA hS; rintro _ w12 a ⟨sv, LV, O9, hV, hO9, rfl, hS⟩ hA
        refine zR 1 ((6, .nilIface) :: _) hA rfl fun a hA => zn (zx (zs (zr (zR 2 ((57, .bool false) :: (56, .nilIface) :: _) hA rfl fun a hA => zn (zx (cd_cond_f hA rfl (zk (zx ?_))))))))
        exact ⟨sv, LV, O9, (hA.sel [0, 5] rfl), hS, hV, hO9⟩)
 · clear hA hS; rintro a w13 ⟨sv, LV, O9, hA, hS, hV, hO9⟩
   refine wp_seq_join (fun a w => ∃ (bd : Nat) (bg : Nat) (bc : Nat) (LC : Chunk), Has a 109 [(0, vP b 0)] ∧ St w0 w ([(b, rowO [vI s.id, vI kn, vI s.no, vI s.pc, vI s.wa, vI s.tr, vI s.ag, vI pn, vI s.ro, vP bo 0, .bool false, vI s.now, vU s.sent, vU rp, vU po, vU r0, vW r1, vB r2, vU r3, sv, vP bd 0, vP bg 0, vP bc 0, .pointer none, .pointer none, .map none] 121)] :: [(bd, rowO [.slice none 0 0] 127)] :: [(bg, rowO [.slice none 0 0] 130)] :: LC :: LV :: O9 :: F) ∧ (CR bc ((rp : Nat) : Int) ((s.wa : Nat) : Int) ((s.tr : Nat) : Int) [] LC)) ?_ ?_
   · refine wp_drawM (fun w' => ∃ z1 z2 z3, St w0 w' ([(b, rowO [vI s.id, vI kn, vI s.no, vI s.pc, vI s.wa, vI s.tr, vI s.ag, vI pn, vI s.ro, vP bo 0, .bool false, vI s.now, vU s.sent, vU rp, vU po, vU r0, vW r1, vB r2, vU r3, sv, z1, z2, z3, .pointer none, .pointer none, .map none] 121)] :: LV :: O9 :: F)) [] [(0, true), (1, true), (2, true), (3, true), (5, true), (7, true), (8, true), (9, true), (10, true), (11, true), (12, true), (13, true), (14, true), (15, true), (16, true), (17, true)] 4 (.N [] 6 (.L [(18, false), (19, true), (20, true), (21, false), (22, true), (23, true), (24, false), (25, true), (26, true), (27, false)]) 18 (.N [(19, true), (20, true)] 6 (.L [(21, false), (22, true), (23, true), (24, false), (25, true), (26, true), (27, false)]) 21 (.L [(6, false), (22, true), (23, true), (24, false), (25, true), (26, true), (27, false)]))) 6 (.N [] 4 (.L [(18, false), (19, true), (20, true), (21, false), (22, true), (23, true), (24, false), (25, true), (26, true), (27, false)]) 18 (.L [(4, false), (19, true), (20, true), (21, false), (22, true), (23, true), (24, false), (25, true), (26, true), (27, false)])) 18 (.N [] 4 (.N [(19, true), (20, true)] 6 (.L [(21, false), (22, true), (23, true), (24, false), (25, true), (26, true), (27, false)]) 21 (.L [(6, false), (22, true), (23, true), (24, false), (25, true), (26, true), (27, false)])) 6 (.L [(4, false), (19, true), (20, true), (21, false), (22, true), (23, true), (24, false), (25, true), (26, true), (27, false)])) mixed (by kernel_rfl) (by rintro c a w ⟨_, _, h, _⟩; cases h) (by rfl) (by kernel_rfl) ?_
     replace hS := hS.drew
     refine dr_run tbOk 10 hA ⟨_, _, _, hS⟩ (e' := (70, vP b 4) :: (69, vP b 2) :: (68, vP b 0) :: (67, vP b 0) :: (66, vU rp) :: (64, .agg #[.slice none 0 0]) :: (62, .agg #[.slice none 0 0]) :: (61, vP b 0) :: (60, vP b 0) :: (59, vP b 0) :: _) rfl fun a hA => dr_y hA rfl rfl rfl (by decide) ⟨_, _, _, hS⟩ (fun w' ⟨z1, z2, z3, hS'⟩ => rn_load tbOk hA rfl rfl rfl rfl (cell_row (hS'.heapAt 0 rfl) rfl)) fun a hA => dr_run tbOk 4 hA ⟨_, _, _, hS⟩ (e' := (75, vP b 5) :: (74, vP b 2) :: (73, vP b 0) :: (72, vP b 0) :: _) rfl fun a hA => dr_y hA rfl rfl rfl (by decide) ⟨_, _, _, hS⟩ (fun w' ⟨z1, z2, z3, hS'⟩ => rn_load tbOk hA rfl rfl rfl rfl (cell_row (hS'.heapAt 0 rfl) rfl)) fun a hA => ?_
     refine dr_fork3 ?_ ?_ ?_
     · refine dr_b (o := _) rfl ?_
       refine st_box hA hS [.slice none 0 0] rfl rfl rfl rfl rfl (by decide) fun b14 w15 a hS hA => ?_
       refine dr_nil (.inr ⟨_, _, _, (hS.tail 1 rfl)⟩) ?_
       refine dr_subN ?_
       refine dr_fork ?_ ?_
       · refine dr_b (o := _) rfl ?_
         refine st_box hA hS [.slice none 0 0] rfl rfl rfl rfl rfl (by decide) fun b16 w17 a hS hA => ?_
         refine dr_nil (.inr ⟨_, _, _, (hS.tail 2 rfl)⟩) ?_
         refine dr_subL ?_
         refine dr_b (o := _) rfl ?_
         refine st_call0 hA rfl rfl rfl isfn51 rfl rfl (by decide) (cof51 hS _ _ _) ?_
         clear hA hS; rintro _ w18 a ⟨bc19, LC20, hc21, rfl, hS⟩ hA; rw [max1 hwa, max1 htr] at hc21
         refine dr_nil (.inr ⟨_, _, _, (hS.tail 3 rfl)⟩) (dr_run tbOk 2 hA ⟨_, _, _, (hS.tail 3 rfl)⟩ (e' := (79, vP b 20) :: (78, vP b 0) :: _) rfl fun a hA => dr_b (o := _) rfl ?_)
         replace hS := hS.m3
         refine st_store tbOk hA hS [vP b14 0] [vI s.id, vI kn, vI s.no, vI s.pc, vI s.wa, vI s.tr, vI s.ag, vI pn, vI s.ro, vP bo 0, .bool false, vI s.now, vU s.sent, vU rp, vU po, vU r0, vW r1, vB r2, vU r3, sv, vP b14 0, .pointer none, .pointer none, .pointer none, .pointer none, .map none] rfl rfl rfl rfl rfl rfl (by intro u hu; rw [List.mem_singleton.1 hu]; rfl) (zle rfl) rfl rfl rfl fun w22 hS => ?_
         replace hS := hS.m3.m3.m3
         refine dr_nil (.inr ⟨_, _, _, (hS.tail 3 rfl)⟩) (dr_run tbOk 2 hA ⟨_, _, _, (hS.tail 3 rfl)⟩ (e' := (81, vP b 21) :: (80, vP b 0) :: _) rfl fun a hA => dr_b (o := _) rfl ?_)
         replace hS := hS.m3
         refine st_store tbOk hA hS [vP b16 0] [vI s.id, vI kn, vI s.no, vI s.pc, vI s.wa, vI s.tr, vI s.ag, vI pn, vI s.ro, vP bo 0, .bool false, vI s.now, vU s.sent, vU rp, vU po, vU r0, vW r1, vB r2, vU r3, sv, vP b14 0, vP b16 0, .pointer none, .pointer none, .pointer none, .map none] rfl rfl rfl rfl rfl rfl (by intro u hu; rw [List.mem_singleton.1 hu]; rfl) (zle rfl) rfl rfl rfl fun w23 hS => ?_
         replace hS := hS.m3.m3.m3
         refine dr_nil (.inr ⟨_, _, _, (hS.tail 3 rfl)⟩) (dr_run tbOk 2 hA ⟨_, _, _, (hS.tail 3 rfl)⟩ (e' := (83, vP b 22) :: (82, vP b 0) :: _) rfl fun a hA => dr_b (o := _) rfl ?_)
         replace hS := hS.m3
         refine st_store tbOk hA hS [vP bc19 0] [vI s.id, vI kn, vI s.no, vI s.pc, vI s.wa, vI s.tr, vI s.ag, vI pn, vI s.ro, vP bo 0, .bool false, vI s.now, vU s.sent, vU rp, vU po, vU r0, vW r1, vB r2, vU r3, sv, vP b14 0, vP b16 0, vP bc19 0, .pointer none, .pointer none, .map none] rfl rfl rfl rfl rfl rfl (by intro u hu; rw [List.mem_singleton.1 hu]; rfl) (zle rfl) rfl rfl rfl fun w24 hS => ?_
         replace hS := hS.m3.m3.m3
         refine dr_nil (.inr ⟨_, _, _, (hS.tail 3 rfl)⟩) (ze (zx ?_))
         replace hS := hS.m1.m2.m3
         exact ⟨b14, b16, bc19, LC20, (hA.sel [0] rfl), hS, hc21⟩
       · refine dr_b (o := _) rfl ?_
         refine st_call0 hA rfl rfl rfl isfn51 rfl rfl (by decide) (cof51 hS _ _ _) ?_
         clear hA hS; rintro _ w25 a ⟨bc26, LC27, hc28, rfl, hS⟩ hA; rw [max1 hwa, max1 htr] at hc28
         refine dr_nil (.inr ⟨_, _, _, (hS.tail 2 rfl)⟩) ?_
         refine dr_subN ?_
         refine dr_run tbOk 2 hA ⟨_, _, _, (hS.tail 2 rfl)⟩ (e' := (79, vP b 20) :: (78, vP b 0) :: _) rfl fun a hA => ?_
         refine dr_fork ?_ ?_
         · refine dr_b (o := _) rfl ?_
           refine st_box hA hS [.slice none 0 0] rfl rfl rfl rfl rfl (by decide) fun b29 w30 a hS hA => ?_
           refine dr_nil (.inr ⟨_, _, _, (hS.tail 3 rfl)⟩) ?_
           refine dr_subL ?_
           refine dr_b (o := _) rfl ?_
           replace hS := hS.m3
           refine st_store tbOk hA hS [vP b14 0] [vI s.id, vI kn, vI s.no, vI s.pc, vI s.wa, vI s.tr, vI s.ag, vI pn, vI s.ro, vP bo 0, .bool false, vI s.now, vU s.sent, vU rp, vU po, vU r0, vW r1, vB r2, vU r3, sv, vP b14 0, .pointer none, .pointer none, .pointer none, .pointer none, .map none] rfl rfl rfl rfl rfl rfl (by intro u hu; rw [List.mem_singleton.1 hu]; rfl) (zle rfl) rfl rfl rfl fun w31 hS => ?_
           replace hS := hS.m3.m3.m3
           refine dr_nil (.inr ⟨_, _, _, (hS.tail 3 rfl)⟩) (dr_run tbOk 2 hA ⟨_, _, _, (hS.tail 3 rfl)⟩ (e' := (81, vP b 21) :: (80, vP b 0) :: _) rfl fun a hA => dr_b (o := _) rfl ?_)
           replace hS := hS.m3
           refine st_store tbOk hA hS [vP b29 0] [vI s.id, vI kn, vI s.no, vI s.pc, vI s.wa, vI s.tr, vI s.ag, vI pn, vI s.ro, vP bo 0, .bool false, vI s.now, vU s.sent, vU rp, vU po, vU r0, vW r1, vB r2, vU r3, sv, vP b14 0, vP b29 0, .pointer none, .pointer none, .pointer none, .map none] rfl rfl rfl rfl rfl rfl (by intro u hu; rw [List.mem_singleton.1 hu]; rfl) (zle rfl) rfl rfl rfl fun w32 hS => ?_
           replace hS := hS.m3.m3.m3
           refine dr_nil (.inr ⟨_, _, _, (hS.tail 3 rfl)⟩) (dr_run tbOk 2 hA ⟨_, _, _, (hS.tail 3 rfl)⟩ (e' := (83, vP b 22) :: (82, vP b 0) :: _) rfl fun a hA => dr_b (o := _) rfl ?_)
           replace hS := hS.m3
           refine st_store tbOk hA hS [vP bc26 0] [vI s.id, vI kn, vI s.no, vI s.pc, vI s.wa, vI s.tr, vI s.ag, vI pn, vI s.ro, vP bo 0, .bool false, vI s.now, vU s.sent, vU rp, vU po, vU r0, vW r1, vB r2, vU r3, sv, vP b14 0, vP b29 0, vP bc26 0, .pointer none, .pointer none, .map none] rfl rfl rfl rfl rfl rfl (by intro u hu; rw [List.mem_singleton.1 hu]; rfl) (zle rfl) rfl rfl rfl fun w33 hS => ?_
           replace hS := hS.m3.m3.m3
           refine dr_nil (.inr ⟨_, _, _, (hS.tail 3 rfl)⟩) (ze (zx ?_))
           replace hS := hS.m2.m3
           exact ⟨b14, b29, bc26, LC27, (hA.sel [0] rfl), hS, hc28⟩
         · refine dr_b (o := _) rfl ?_
           replace hS := hS.m2
           refine st_store tbOk hA hS [vP b14 0] [vI s.id, vI kn, vI s.no, vI s.pc, vI s.wa, vI s.tr, vI s.ag, vI pn, vI s.ro, vP bo 0, .bool false, vI s.now, vU s.sent, vU rp, vU po, vU r0, vW r1, vB r2, vU r3, sv, vP b14 0, .pointer none, .pointer none, .pointer none, .pointer none, .map none] rfl rfl rfl rfl rfl rfl (by intro u hu; rw [List.mem_singleton.1 hu]; rfl) (zle rfl) rfl rfl rfl fun w34 hS => ?_
           replace hS := hS.m2.m2
           refine dr_nil (.inr ⟨_, _, _, (hS.tail 2 rfl)⟩) ?_
           refine dr_subL ?_
           refine dr_b (o := _) rfl ?_
           refine st_box hA hS [.slice none 0 0] rfl rfl rfl rfl rfl (by decide) fun b35 w36 a hS hA => ?_
           refine dr_nil (.inr ⟨_, _, _, (hS.tail 3 rfl)⟩) (dr_run tbOk 2 hA ⟨_, _, _, (hS.tail 3 rfl)⟩ (e' := (81, vP b 21) :: (80, vP b 0) :: _) rfl fun a hA => dr_b (o := _) rfl ?_)
           replace hS := hS.m3
           refine st_store tbOk hA hS [vP b35 0] [vI s.id, vI kn, vI s.no, vI s.pc, vI s.wa, vI s.tr, vI s.ag, vI pn, vI s.ro, vP bo 0, .bool false, vI s.now, vU s.sent, vU rp, vU po, vU r0, vW r1, vB r2, vU r3, sv, vP b14 0, vP b35 0, .pointer none, .pointer none, .pointer none, .map none] rfl rfl rfl rfl rfl rfl (by intro u hu; rw [List.mem_singleton.1 hu]; rfl) (zle rfl) rfl rfl rfl fun w37 hS => ?_
           replace hS := hS.m3.m3.m3
           refine dr_nil (.inr ⟨_, _, _, (hS.tail 3 rfl)⟩) (dr_run tbOk 2 hA ⟨_, _, _, (hS.tail 3 rfl)⟩ (e' := (83, vP b 22) :: (82, vP b 0) :: _) rfl fun a hA => dr_b (o := _) rfl ?_)
           replace hS := hS.m3
           refine st_store tbOk hA hS [vP bc26 0] [vI s.id, vI kn, vI s.no, vI s.pc, vI s.wa, vI s.tr, vI s.ag, vI pn, vI s.ro, vP bo 0, .bool false, vI s.now, vU s.sent, vU rp, vU po, vU r0, vW r1, vB r2, vU r3, sv, vP b14 0, vP b35 0, vP bc26 0, .pointer none, .pointer none, .map none] rfl rfl rfl rfl rfl rfl (by intro u hu; rw [List.mem_singleton.1 hu]; rfl) (zle rfl) rfl rfl rfl fun w38 hS => ?_
           replace hS := hS.m3.m3.m3
           refine dr_nil (.inr ⟨_, _, _, (hS.tail 3 rfl)⟩) (ze (zx ?_))
           replace hS := hS.m2.m3
           exact ⟨b14, b35, bc26, LC27, (hA.sel [0] rfl), hS, hc28⟩
     · refine dr_b (o := _) rfl ?_
       refine st_box hA hS [.slice none 0 0] rfl rfl rfl rfl rfl (by decide) fun b39 w40 a hS hA => ?_
       refine dr_nil (.inr ⟨_, _, _, (hS.tail 1 rfl)⟩) ?_
       refine dr_subN ?_
       refine dr_fork ?_ ?_
       · refine dr_b (o := _) rfl ?_
         refine st_box hA hS [.slice none 0 0] rfl rfl rfl rfl rfl (by decide) fun b41 w42 a hS hA => ?_
         refine dr_nil (.inr ⟨_, _, _, (hS.tail 2 rfl)⟩) ?_
         refine dr_subL ?_
         refine dr_b (o := _) rfl ?_
         refine st_call0 hA rfl rfl rfl isfn51 rfl rfl (by decide) (cof51 hS _ _ _) ?_
         clear hA hS; rintro _ w43 a ⟨bc44, LC45, hc46, rfl, hS⟩ hA; rw [max1 hwa, max1 htr] at hc46
         refine dr_nil (.inr ⟨_, _, _, (hS.tail 3 rfl)⟩) (dr_run tbOk 2 hA ⟨_, _, _, (hS.tail 3 rfl)⟩ (e' := (79, vP b 20) :: (78, vP b 0) :: _) rfl fun a hA => dr_b (o := _) rfl ?_)
         replace hS := hS.m3
         refine st_store tbOk hA hS [vP b41 0] [vI s.id, vI kn, vI s.no, vI s.pc, vI s.wa, vI s.tr, vI s.ag, vI pn, vI s.ro, vP bo 0, .bool false, vI s.now, vU s.sent, vU rp, vU po, vU r0, vW r1, vB r2, vU r3, sv, vP b41 0, .pointer none, .pointer none, .pointer none, .pointer none, .map none] rfl rfl rfl rfl rfl rfl (by intro u hu; rw [List.mem_singleton.1 hu]; rfl) (zle rfl) rfl rfl rfl fun w47 hS => ?_
         replace hS := hS.m3.m3.m3
         refine dr_nil (.inr ⟨_, _, _, (hS.tail 3 rfl)⟩) (dr_run tbOk 2 hA ⟨_, _, _, (hS.tail 3 rfl)⟩ (e' := (81, vP b 21) :: (80, vP b 0) :: _) rfl fun a hA => dr_b (o := _) rfl ?_)
         replace hS := hS.m3
         refine st_store tbOk hA hS [vP b39 0] [vI s.id, vI kn, vI s.no, vI s.pc, vI s.wa, vI s.tr, vI s.ag, vI pn, vI s.ro, vP bo 0, .bool false, vI s.now, vU s.sent, vU rp, vU po, vU r0, vW r1, vB r2, vU r3, sv, vP b41 0, vP b39 0, .pointer none, .pointer none, .pointer none, .map none] rfl rfl rfl rfl rfl rfl (by intro u hu; rw [List.mem_singleton.1 hu]; rfl) (zle rfl) rfl rfl rfl fun w48 hS => ?_
         replace hS := hS.m3.m3.m3
         refine dr_nil (.inr ⟨_, _, _, (hS.tail 3 rfl)⟩) (dr_run tbOk 2 hA ⟨_, _, _, (hS.tail 3 rfl)⟩ (e' := (83, vP b 22) :: (82, vP b 0) :: _) rfl fun a hA => dr_b (o := _) rfl ?_)
         replace hS := hS.m3
         refine st_store tbOk hA hS [vP bc44 0] [vI s.id, vI kn, vI s.no, vI s.pc, vI s.wa, vI s.tr, vI s.ag, vI pn, vI s.ro, vP bo 0, .bool false, vI s.now, vU s.sent, vU rp, vU po, vU r0, vW r1, vB r2, vU r3, sv, vP b41 0, vP b39 0, vP bc44 0, .pointer none, .pointer none, .map none] rfl rfl rfl rfl rfl rfl (by intro u hu; rw [List.mem_singleton.1 hu]; rfl) (zle rfl) rfl rfl rfl fun w49 hS => ?_
         replace hS := hS.m3.m3.m3
         refine dr_nil (.inr ⟨_, _, _, (hS.tail 3 rfl)⟩) (ze (zx ?_))
         replace hS := hS.m2.m2.m3
         exact ⟨b41, b39, bc44, LC45, (hA.sel [0] rfl), hS, hc46⟩
       · refine dr_b (o := _) rfl ?_
         refine st_call0 hA rfl rfl rfl isfn51 rfl rfl (by decide) (cof51 hS _ _ _) ?_
         clear hA hS; rintro _ w50 a ⟨bc51, LC52, hc53, rfl, hS⟩ hA; rw [max1 hwa, max1 htr] at hc53
         refine dr_nil (.inr ⟨_, _, _, (hS.tail 2 rfl)⟩) ?_
         refine dr_subL ?_
         refine dr_b (o := _) rfl ?_
         refine st_box hA hS [.slice none 0 0] rfl rfl rfl rfl rfl (by decide) fun b54 w55 a hS hA => ?_
         refine dr_nil (.inr ⟨_, _, _, (hS.tail 3 rfl)⟩) (dr_run tbOk 2 hA ⟨_, _, _, (hS.tail 3 rfl)⟩ (e' := (79, vP b 20) :: (78, vP b 0) :: _) rfl fun a hA => dr_b (o := _) rfl ?_)
         replace hS := hS.m3
         refine st_store tbOk hA hS [vP b54 0] [vI s.id, vI kn, vI s.no, vI s.pc, vI s.wa, vI s.tr, vI s.ag, vI pn, vI s.ro, vP bo 0, .bool false, vI s.now, vU s.sent, vU rp, vU po, vU r0, vW r1, vB r2, vU r3, sv, vP b54 0, .pointer none, .pointer none, .pointer none, .pointer none, .map none] rfl rfl rfl rfl rfl rfl (by intro u hu; rw [List.mem_singleton.1 hu]; rfl) (zle rfl) rfl rfl rfl fun w56 hS => ?_
         replace hS := hS.m3.m3.m3
         refine dr_nil (.inr ⟨_, _, _, (hS.tail 3 rfl)⟩) (dr_run tbOk 2 hA ⟨_, _, _, (hS.tail 3 rfl)⟩ (e' := (81, vP b 21) :: (80, vP b 0) :: _) rfl fun a hA => dr_b (o := _) rfl ?_)
         replace hS := hS.m3
         refine st_store tbOk hA hS [vP b39 0] [vI s.id, vI kn, vI s.no, vI s.pc, vI s.wa, vI s.tr, vI s.ag, vI pn, vI s.ro, vP bo 0, .bool false, vI s.now, vU s.sent, vU rp, vU po, vU r0, vW r1, vB r2, vU r3, sv, vP b54 0, vP b39 0, .pointer none, .pointer none, .pointer none, .map none] rfl rfl rfl rfl rfl rfl (by intro u hu; rw [List.mem_singleton.1 hu]; rfl) (zle rfl) rfl rfl rfl fun w57 hS => ?_
         replace hS := hS.m3.m3.m3
         refine dr_nil (.inr ⟨_, _, _, (hS.tail 3 rfl)⟩) (dr_run tbOk 2 hA ⟨_, _, _, (hS.tail 3 rfl)⟩ (e' := (83, vP b 22) :: (82, vP b 0) :: _) rfl fun a hA => dr_b (o := _) rfl ?_)
         replace hS := hS.m3
         refine st_store tbOk hA hS [vP bc51 0] [vI s.id, vI kn, vI s.no, vI s.pc, vI s.wa, vI s.tr, vI s.ag, vI pn, vI s.ro, vP bo 0, .bool false, vI s.now, vU s.sent, vU rp, vU po, vU r0, vW r1, vB r2, vU r3, sv, vP b54 0, vP b39 0, vP bc51 0, .pointer none, .pointer none, .map none] rfl rfl rfl rfl rfl rfl (by intro u hu; rw [List.mem_singleton.1 hu]; rfl) (zle rfl) rfl rfl rfl fun w58 hS => ?_
         replace hS := hS.m3.m3.m3
         refine dr_nil (.inr ⟨_, _, _, (hS.tail 3 rfl)⟩) (ze (zx ?_))
         replace hS := hS.m2.m1.m3
         exact ⟨b54, b39, bc51, LC52, (hA.sel [0] rfl), hS, hc53⟩
     · refine dr_b (o := _) rfl ?_
       refine st_call0 hA rfl rfl rfl isfn51 rfl rfl (by decide) (cof51 hS _ _ _) ?_
       clear hA hS; rintro _ w59 a ⟨bc60, LC61, hc62, rfl, hS⟩ hA; rw [max1 hwa, max1 htr] at hc62
       refine dr_nil (.inr ⟨_, _, _, (hS.tail 1 rfl)⟩) ?_
       refine dr_subN ?_
       refine dr_fork ?_ ?_
       · refine dr_b (o := _) rfl ?_
         refine st_box hA hS [.slice none 0 0] rfl rfl rfl rfl rfl (by decide) fun b63 w64 a hS hA => ?_
         refine dr_nil (.inr ⟨_, _, _, (hS.tail 2 rfl)⟩) ?_
         refine dr_subN ?_
         refine dr_run tbOk 2 hA ⟨_, _, _, (hS.tail 2 rfl)⟩ (e' := (79, vP b 20) :: (78, vP b 0) :: _) rfl fun a hA => ?_
         refine dr_fork ?_ ?_
         · refine dr_b (o := _) rfl ?_
           refine st_box hA hS [.slice none 0 0] rfl rfl rfl rfl rfl (by decide) fun b65 w66 a hS hA => ?_
           refine dr_nil (.inr ⟨_, _, _, (hS.tail 3 rfl)⟩) ?_
           refine dr_subL ?_
           refine dr_b (o := _) rfl ?_
           replace hS := hS.m3
           refine st_store tbOk hA hS [vP b63 0] [vI s.id, vI kn, vI s.no, vI s.pc, vI s.wa, vI s.tr, vI s.ag, vI pn, vI s.ro, vP bo 0, .bool false, vI s.now, vU s.sent, vU rp, vU po, vU r0, vW r1, vB r2, vU r3, sv, vP b63 0, .pointer none, .pointer none, .pointer none, .pointer none, .map none] rfl rfl rfl rfl rfl rfl (by intro u hu; rw [List.mem_singleton.1 hu]; rfl) (zle rfl) rfl rfl rfl fun w67 hS => ?_
           replace hS := hS.m3.m3.m3
           refine dr_nil (.inr ⟨_, _, _, (hS.tail 3 rfl)⟩) (dr_run tbOk 2 hA ⟨_, _, _, (hS.tail 3 rfl)⟩ (e' := (81, vP b 21) :: (80, vP b 0) :: _) rfl fun a hA => dr_b (o := _) rfl ?_)
           replace hS := hS.m3
           refine st_store tbOk hA hS [vP b65 0] [vI s.id, vI kn, vI s.no, vI s.pc, vI s.wa, vI s.tr, vI s.ag, vI pn, vI s.ro, vP bo 0, .bool false, vI s.now, vU s.sent, vU rp, vU po, vU r0, vW r1, vB r2, vU r3, sv, vP b63 0, vP b65 0, .pointer none, .pointer none, .pointer none, .map none] rfl rfl rfl rfl rfl rfl (by intro u hu; rw [List.mem_singleton.1 hu]; rfl) (zle rfl) rfl rfl rfl fun w68 hS => ?_
           replace hS := hS.m3.m3.m3
           refine dr_nil (.inr ⟨_, _, _, (hS.tail 3 rfl)⟩) (dr_run tbOk 2 hA ⟨_, _, _, (hS.tail 3 rfl)⟩ (e' := (83, vP b 22) :: (82, vP b 0) :: _) rfl fun a hA => dr_b (o := _) rfl ?_)
           replace hS := hS.m3
           refine st_store tbOk hA hS [vP bc60 0] [vI s.id, vI kn, vI s.no, vI s.pc, vI s.wa, vI s.tr, vI s.ag, vI pn, vI s.ro, vP bo 0, .bool false, vI s.now, vU s.sent, vU rp, vU po, vU r0, vW r1, vB r2, vU r3, sv, vP b63 0, vP b65 0, vP bc60 0, .pointer none, .pointer none, .map none] rfl rfl rfl rfl rfl rfl (by intro u hu; rw [List.mem_singleton.1 hu]; rfl) (zle rfl) rfl rfl rfl fun w69 hS => ?_
           replace hS := hS.m3.m3.m3
           refine dr_nil (.inr ⟨_, _, _, (hS.tail 3 rfl)⟩) (ze (zx ?_))
           replace hS := hS.m1.m3
           exact ⟨b63, b65, bc60, LC61, (hA.sel [0] rfl), hS, hc62⟩
         · refine dr_b (o := _) rfl ?_
           replace hS := hS.m2
           refine st_store tbOk hA hS [vP b63 0] [vI s.id, vI kn, vI s.no, vI s.pc, vI s.wa, vI s.tr, vI s.ag, vI pn, vI s.ro, vP bo 0, .bool false, vI s.now, vU s.sent, vU rp, vU po, vU r0, vW r1, vB r2, vU r3, sv, vP b63 0, .pointer none, .pointer none, .pointer none, .pointer none, .map none] rfl rfl rfl rfl rfl rfl (by intro u hu; rw [List.mem_singleton.1 hu]; rfl) (zle rfl) rfl rfl rfl fun w70 hS => ?_
           replace hS := hS.m2.m2
           refine dr_nil (.inr ⟨_, _, _, (hS.tail 2 rfl)⟩) ?_
           refine dr_subL ?_
           refine dr_b (o := _) rfl ?_
           refine st_box hA hS [.slice none 0 0] rfl rfl rfl rfl rfl (by decide) fun b71 w72 a hS hA => ?_
           refine dr_nil (.inr ⟨_, _, _, (hS.tail 3 rfl)⟩) (dr_run tbOk 2 hA ⟨_, _, _, (hS.tail 3 rfl)⟩ (e' := (81, vP b 21) :: (80, vP b 0) :: _) rfl fun a hA => dr_b (o := _) rfl ?_)
           replace hS := hS.m3
           refine st_store tbOk hA hS [vP b71 0] [vI s.id, vI kn, vI s.no, vI s.pc, vI s.wa, vI s.tr, vI s.ag, vI pn, vI s.ro, vP bo 0, .bool false, vI s.now, vU s.sent, vU rp, vU po, vU r0, vW r1, vB r2, vU r3, sv, vP b63 0, vP b71 0, .pointer none, .pointer none, .pointer none, .map none] rfl rfl rfl rfl rfl rfl (by intro u hu; rw [List.mem_singleton.1 hu]; rfl) (zle rfl) rfl rfl rfl fun w73 hS => ?_
           replace hS := hS.m3.m3.m3
           refine dr_nil (.inr ⟨_, _, _, (hS.tail 3 rfl)⟩) (dr_run tbOk 2 hA ⟨_, _, _, (hS.tail 3 rfl)⟩ (e' := (83, vP b 22) :: (82, vP b 0) :: _) rfl fun a hA => dr_b (o := _) rfl ?_)
           replace hS := hS.m3
           refine st_store tbOk hA hS [vP bc60 0] [vI s.id, vI kn, vI s.no, vI s.pc, vI s.wa, vI s.tr, vI s.ag, vI pn, vI s.ro, vP bo 0, .bool false, vI s.now, vU s.sent, vU rp, vU po, vU r0, vW r1, vB r2, vU r3, sv, vP b63 0, vP b71 0, vP bc60 0, .pointer none, .pointer none, .map none] rfl rfl rfl rfl rfl rfl (by intro u hu; rw [List.mem_singleton.1 hu]; rfl) (zle rfl) rfl rfl rfl fun w74 hS => ?_
           replace hS := hS.m3.m3.m3
           refine dr_nil (.inr ⟨_, _, _, (hS.tail 3 rfl)⟩) (ze (zx ?_))
           replace hS := hS.m1.m3
           exact ⟨b63, b71, bc60, LC61, (hA.sel [0] rfl), hS, hc62⟩
       · refine dr_b (o := _) rfl ?_
         refine st_box hA hS [.slice none 0 0] rfl rfl rfl rfl rfl (by decide) fun b75 w76 a hS hA => ?_
         refine dr_nil (.inr ⟨_, _, _, (hS.tail 2 rfl)⟩) ?_
         refine dr_subL ?_
         refine dr_b (o := _) rfl ?_
         refine st_box hA hS [.slice none 0 0] rfl rfl rfl rfl rfl (by decide) fun b77 w78 a hS hA => ?_
         refine dr_nil (.inr ⟨_, _, _, (hS.tail 3 rfl)⟩) (dr_run tbOk 2 hA ⟨_, _, _, (hS.tail 3 rfl)⟩ (e' := (79, vP b 20) :: (78, vP b 0) :: _) rfl fun a hA => dr_b (o := _) rfl ?_)
         replace hS := hS.m3
         refine st_store tbOk hA hS [vP b77 0] [vI s.id, vI kn, vI s.no, vI s.pc, vI s.wa, vI s.tr, vI s.ag, vI pn, vI s.ro, vP bo 0, .bool false, vI s.now, vU s.sent, vU rp, vU po, vU r0, vW r1, vB r2, vU r3, sv, vP b77 0, .pointer none, .pointer none, .pointer none, .pointer none, .map none] rfl rfl rfl rfl rfl rfl (by intro u hu; rw [List.mem_singleton.1 hu]; rfl) (zle rfl) rfl rfl rfl fun w79 hS => ?_
         replace hS := hS.m3.m3.m3
         refine dr_nil (.inr ⟨_, _, _, (hS.tail 3 rfl)⟩) (dr_run tbOk 2 hA ⟨_, _, _, (hS.tail 3 rfl)⟩ (e' := (81, vP b 21) :: (80, vP b 0) :: _) rfl fun a hA => dr_b (o := _) rfl ?_)
         replace hS := hS.m3
         refine st_store tbOk hA hS [vP b75 0] [vI s.id, vI kn, vI s.no, vI s.pc, vI s.wa, vI s.tr, vI s.ag, vI pn, vI s.ro, vP bo 0, .bool false, vI s.now, vU s.sent, vU rp, vU po, vU r0, vW r1, vB r2, vU r3, sv, vP b77 0, vP b75 0, .pointer none, .pointer none, .pointer none, .map none] rfl rfl rfl rfl rfl rfl (by intro u hu; rw [List.mem_singleton.1 hu]; rfl) (zle rfl) rfl rfl rfl fun w80 hS => ?_
         replace hS := hS.m3.m3.m3
         refine dr_nil (.inr ⟨_, _, _, (hS.tail 3 rfl)⟩) (dr_run tbOk 2 hA ⟨_, _, _, (hS.tail 3 rfl)⟩ (e' := (83, vP b 22) :: (82, vP b 0) :: _) rfl fun a hA => dr_b (o := _) rfl ?_)
         replace hS := hS.m3
         refine st_store tbOk hA hS [vP bc60 0] [vI s.id, vI kn, vI s.no, vI s.pc, vI s.wa, vI s.tr, vI s.ag, vI pn, vI s.ro, vP bo 0, .bool false, vI s.now, vU s.sent, vU rp, vU po, vU r0, vW r1, vB r2, vU r3, sv, vP b77 0, vP b75 0, vP bc60 0, .pointer none, .pointer none, .map none] rfl rfl rfl rfl rfl rfl (by intro u hu; rw [List.mem_singleton.1 hu]; rfl) (zle rfl) rfl rfl rfl fun w81 hS => ?_
         replace hS := hS.m3.m3.m3
         refine dr_nil (.inr ⟨_, _, _, (hS.tail 3 rfl)⟩) (ze (zx ?_))
         replace hS := hS.m3
         exact ⟨b77, b75, bc60, LC61, (hA.sel [0] rfl), hS, hc62⟩
   · clear hA hS; rintro a w82 ⟨bd, bg, bc, LC, hA, hS, hcr⟩
     refine wp_seq_join (fun a w => ∃ (bp : Nat) (bx : Nat) (mp : Nat) (LP : Chunk) (LB : Chunk), Has a 109 [(0, vP b 0)] ∧ St w0 w ([(b, rowO [vI s.id, vI kn, vI s.no, vI s.pc, vI s.wa, vI s.tr, vI s.ag, vI pn, vI s.ro, vP bo 0, .bool false, vI s.now, vU s.sent, vU rp, vU po, vU r0, vW r1, vB r2, vU r3, sv, vP bd 0, vP bg 0, vP bc 0, vP bp 0, vP bx 0, .map (some mp)] 121)] :: [(bd, rowO [.slice none 0 0] 127)] :: [(bg, rowO [.slice none 0 0] 130)] :: LC :: LP :: LB :: [(mp, .map #[] 0)] :: LV :: O9 :: F) ∧ (PMR bp ((s.ag : Nat) : Int) [] LP) ∧ (BX bx s.ro [] [] LB)) ?_ ?_
     · refine wp_drawN (fun w' => ∃ z1 z2 z3, St w0 w' ([(b, rowO [vI s.id, vI kn, vI s.no, vI s.pc, vI s.wa, vI s.tr, vI s.ag, vI pn, vI s.ro, vP bo 0, .bool false, vI s.now, vU s.sent, vU rp, vU po, vU r0, vW r1, vB r2, vU r3, sv, vP bd 0, vP bg 0, vP bc 0, z1, z2, z3] 121)] :: [(bd, rowO [.slice none 0 0] 127)] :: [(bg, rowO [.slice none 0 0] 130)] :: LC :: LV :: O9 :: F)) [] [(0, true), (1, true), (2, true), (3, true), (4, true), (5, true), (6, true), (7, true), (9, true), (10, true), (11, true), (12, true), (13, true)] 8 (.N [] 14 (.N [(16, true), (17, true)] 15 (.L [(18, false), (19, true), (20, true), (21, false), (22, true), (23, true), (24, false)]) 18 (.N [(19, true), (20, true)] 15 (.L [(21, false), (22, true), (23, true), (24, false)]) 21 (.L [(15, false), (22, true), (23, true), (24, false)]))) 15 (.L [(14, false), (16, true), (17, true), (18, false), (19, true), (20, true), (21, false), (22, true), (23, true), (24, false)])) 15 (.L [(8, false), (14, false), (16, true), (17, true), (18, false), (19, true), (20, true), (21, false), (22, true), (23, true), (24, false)]) mixed (by kernel_rfl) (by rintro c a w ⟨_, _, h, _⟩; cases h) (by rfl) (by kernel_rfl) ?_
       replace hS := hS.drew
       refine dr_run tbOk 7 hA ⟨_, _, _, hS⟩ (e' := (90, vP b 6) :: (89, vP b 2) :: (88, vP b 0) :: (87, vP b 0) :: (86, vP b 0) :: (85, vP b 0) :: (84, vP b 0) :: _) rfl fun a hA => dr_y hA rfl rfl rfl (by decide) ⟨_, _, _, hS⟩ (fun w' ⟨z1, z2, z3, hS'⟩ => rn_load tbOk hA rfl rfl rfl rfl (cell_row (hS'.heapAt 0 rfl) rfl)) fun a hA => dr_run tbOk 4 hA ⟨_, _, _, hS⟩ (e' := (96, vP b 8) :: (95, vP b 2) :: (94, vP b 0) :: (93, vP b 0) :: _) rfl fun a hA => dr_y hA rfl rfl rfl (by decide) ⟨_, _, _, hS⟩ (fun w' ⟨z1, z2, z3, hS'⟩ => rn_load tbOk hA rfl rfl rfl rfl (cell_row (hS'.heapAt 0 rfl) rfl)) fun a hA => ?_
       refine dr_fork ?_ ?_
       · refine dr_b (o := _) rfl ?_
         refine st_call0 hA rfl rfl rfl isfn52 rfl rfl (by decide) (pm_of52 hS _ (by omega)) ?_
         clear hA hS; rintro _ w83 a ⟨bp84, LP85, hp86, rfl, hS⟩ hA
         refine dr_nil (.inr ⟨_, _, _, (hS.tail 1 rfl)⟩) ?_
         refine dr_subN ?_
         refine dr_fork ?_ ?_
         · refine dr_b (o := _) rfl ?_
           refine st_call0 hA rfl rfl rfl isfn53 rfl rfl (by decide) (of53 hS _ s.ro (.inr (.inl ⟨by omega, by omega, rfl⟩))) ?_
           clear hA hS; rintro _ w87 a ⟨bx88, LB89, hb90, rfl, hS⟩ hA
           refine dr_nil (.inr ⟨_, _, _, (hS.tail 2 rfl)⟩) ?_
           refine dr_subN ?_
           refine dr_run tbOk 2 hA ⟨_, _, _, (hS.tail 2 rfl)⟩ (e' := (101, vP b 23) :: (100, vP b 0) :: _) rfl fun a hA => ?_
           refine dr_fork ?_ ?_
           · refine dr_b (o := _) rfl ?_
             refine st_makeMap hA hS rfl rfl rfl (by decide) fun m91 w92 a hS hA => ?_
             refine dr_nil (.inr ⟨_, _, _, (hS.tail 3 rfl)⟩) ?_
             refine dr_subL ?_
             refine dr_b (o := _) rfl ?_
             replace hS := hS.m3
             refine st_store tbOk hA hS [vP bp84 0] [vI s.id, vI kn, vI s.no, vI s.pc, vI s.wa, vI s.tr, vI s.ag, vI pn, vI s.ro, vP bo 0, .bool false, vI s.now, vU s.sent, vU rp, vU po, vU r0, vW r1, vB r2, vU r3, sv, vP bd 0, vP bg 0, vP bc 0, vP bp84 0, .pointer none, .map none] rfl rfl rfl rfl rfl rfl (by intro u hu; rw [List.mem_singleton.1 hu]; rfl) (zle rfl) rfl rfl rfl fun w93 hS => ?_
             replace hS := hS.m3.m3.m3
             refine dr_nil (.inr ⟨_, _, _, (hS.tail 3 rfl)⟩) (dr_run tbOk 2 hA ⟨_, _, _, (hS.tail 3 rfl)⟩ (e' := (103, vP b 24) :: (102, vP b 0) :: _) rfl fun a hA => dr_b (o := _) rfl ?_)
             replace hS := hS.m3
             refine st_store tbOk hA hS [vP bx88 0] [vI s.id, vI kn, vI s.no, vI s.pc, vI s.wa, vI s.tr, vI s.ag, vI pn, vI s.ro, vP bo 0, .bool false, vI s.now, vU s.sent, vU rp, vU po, vU r0, vW r1, vB r2, vU r3, sv, vP bd 0, vP bg 0, vP bc 0, vP bp84 0, vP bx88 0, .map none] rfl rfl rfl rfl rfl rfl (by intro u hu; rw [List.mem_singleton.1 hu]; rfl) (zle rfl) rfl rfl rfl fun w94 hS => ?_
             replace hS := hS.m3.m3.m3
             refine dr_nil (.inr ⟨_, _, _, (hS.tail 3 rfl)⟩) (dr_run tbOk 2 hA ⟨_, _, _, (hS.tail 3 rfl)⟩ (e' := (105, vP b 25) :: (104, vP b 0) :: _) rfl fun a hA => dr_b (o := _) rfl ?_)
             replace hS := hS.m3
             refine st_store tbOk hA hS [.map (some m91)] [vI s.id, vI kn, vI s.no, vI s.pc, vI s.wa, vI s.tr, vI s.ag, vI pn, vI s.ro, vP bo 0, .bool false, vI s.now, vU s.sent, vU rp, vU po, vU r0, vW r1, vB r2, vU r3, sv, vP bd 0, vP bg 0, vP bc 0, vP bp84 0, vP bx88 0, .map (some m91)] rfl rfl rfl rfl rfl rfl (by intro u hu; rw [List.mem_singleton.1 hu]; rfl) (zle rfl) rfl rfl rfl fun w95 hS => ?_
             replace hS := hS.m3.m3.m3
             refine dr_nil (.inr ⟨_, _, _, (hS.tail 3 rfl)⟩) (ze (zx ?_))
             replace hS := hS.m1.m2.m6.m6.m6.m6
             exact ⟨bp84, bx88, m91, LP85, LB89, (hA.sel [0] rfl), hS, hp86, hb90⟩
           · refine dr_b (o := _) rfl ?_
             replace hS := hS.m2
             refine st_store tbOk hA hS [vP bp84 0] [vI s.id, vI kn, vI s.no, vI s.pc, vI s.wa, vI s.tr, vI s.ag, vI pn, vI s.ro, vP bo 0, .bool false, vI s.now, vU s.sent, vU rp, vU po, vU r0, vW r1, vB r2, vU r3, sv, vP bd 0, vP bg 0, vP bc 0, vP bp84 0, .pointer none, .map none] rfl rfl rfl rfl rfl rfl (by intro u hu; rw [List.mem_singleton.1 hu]; rfl) (zle rfl) rfl rfl rfl fun w96 hS => ?_
             replace hS := hS.m2.m2
             refine dr_nil (.inr ⟨_, _, _, (hS.tail 2 rfl)⟩) ?_
             refine dr_subN ?_
             refine dr_run tbOk 2 hA ⟨_, _, _, (hS.tail 2 rfl)⟩ (e' := (103, vP b 24) :: (102, vP b 0) :: _) rfl fun a hA => ?_
             refine dr_fork ?_ ?_
             · refine dr_b (o := _) rfl ?_
               refine st_makeMap hA hS rfl rfl rfl (by decide) fun m97 w98 a hS hA => ?_
               refine dr_nil (.inr ⟨_, _, _, (hS.tail 3 rfl)⟩) ?_
               refine dr_subL ?_
               refine dr_b (o := _) rfl ?_
               replace hS := hS.m3
               refine st_store tbOk hA hS [vP bx88 0] [vI s.id, vI kn, vI s.no, vI s.pc, vI s.wa, vI s.tr, vI s.ag, vI pn, vI s.ro, vP bo 0, .bool false, vI s.now, vU s.sent, vU rp, vU po, vU r0, vW r1, vB r2, vU r3, sv, vP bd 0, vP bg 0, vP bc 0, vP bp84 0, vP bx88 0, .map none] rfl rfl rfl rfl rfl rfl (by intro u hu; rw [List.mem_singleton.1 hu]; rfl) (zle rfl) rfl rfl rfl fun w99 hS => ?_
               replace hS := hS.m3.m3.m3
               refine dr_nil (.inr ⟨_, _, _, (hS.tail 3 rfl)⟩) (dr_run tbOk 2 hA ⟨_, _, _, (hS.tail 3 rfl)⟩ (e' := (105, vP b 25) :: (104, vP b 0) :: _) rfl fun a hA => dr_b (o := _) rfl ?_)
               replace hS := hS.m3
               refine st_store tbOk hA hS [.map (some m97)] [vI s.id, vI kn, vI s.no, vI s.pc, vI s.wa, vI s.tr, vI s.ag, vI pn, vI s.ro, vP bo 0, .bool false, vI s.now, vU s.sent, vU rp, vU po, vU r0, vW r1, vB r2, vU r3, sv, vP bd 0, vP bg 0, vP bc 0, vP bp84 0, vP bx88 0, .map (some m97)] rfl rfl rfl rfl rfl rfl (by intro u hu; rw [List.mem_singleton.1 hu]; rfl) (zle rfl) rfl rfl rfl fun w100 hS => ?_
               replace hS := hS.m3.m3.m3
               refine dr_nil (.inr ⟨_, _, _, (hS.tail 3 rfl)⟩) (ze (zx ?_))
               replace hS := hS.m1.m2.m6.m6.m6.m6
               exact ⟨bp84, bx88, m97, LP85, LB89, (hA.sel [0] rfl), hS, hp86, hb90⟩
             · refine dr_b (o := _) rfl ?_
               replace hS := hS.m2
               refine st_store tbOk hA hS [vP bx88 0] [vI s.id, vI kn, vI s.no, vI s.pc, vI s.wa, vI s.tr, vI s.ag, vI pn, vI s.ro, vP bo 0, .bool false, vI s.now, vU s.sent, vU rp, vU po, vU r0, vW r1, vB r2, vU r3, sv, vP bd 0, vP bg 0, vP bc 0, vP bp84 0, vP bx88 0, .map none] rfl rfl rfl rfl rfl rfl (by intro u hu; rw [List.mem_singleton.1 hu]; rfl) (zle rfl) rfl rfl rfl fun w101 hS => ?_
               replace hS := hS.m2.m2
               refine dr_nil (.inr ⟨_, _, _, (hS.tail 2 rfl)⟩) ?_
               refine dr_subL ?_
               refine dr_b (o := _) rfl ?_
               refine st_makeMap hA hS rfl rfl rfl (by decide) fun m102 w103 a hS hA => ?_
               refine dr_nil (.inr ⟨_, _, _, (hS.tail 3 rfl)⟩) (dr_run tbOk 2 hA ⟨_, _, _, (hS.tail 3 rfl)⟩ (e' := (105, vP b 25) :: (104, vP b 0) :: _) rfl fun a hA => dr_b (o := _) rfl ?_)
               replace hS := hS.m3
               refine st_store tbOk hA hS [.map (some m102)] [vI s.id, vI kn, vI s.no, vI s.pc, vI s.wa, vI s.tr, vI s.ag, vI pn, vI s.ro, vP bo 0, .bool false, vI s.now, vU s.sent, vU rp, vU po, vU r0, vW r1, vB r2, vU r3, sv, vP bd 0, vP bg 0, vP bc 0, vP bp84 0, vP bx88 0, .map (some m102)] rfl rfl rfl rfl rfl rfl (by intro u hu; rw [List.mem_singleton.1 hu]; rfl) (zle rfl) rfl rfl rfl fun w104 hS => ?_
               replace hS := hS.m3.m3.m3
               refine dr_nil (.inr ⟨_, _, _, (hS.tail 3 rfl)⟩) (ze (zx ?_))
               replace hS := hS.m1.m2.m6.m6.m6.m6
               exact ⟨bp84, bx88, m102, LP85, LB89, (hA.sel [0] rfl), hS, hp86, hb90⟩
         · refine dr_b (o := _) rfl ?_
           refine st_makeMap hA hS rfl rfl rfl (by decide) fun m105 w106 a hS hA => ?_
           refine dr_nil (.inr ⟨_, _, _, (hS.tail 2 rfl)⟩) ?_
           refine dr_subL ?_
           refine dr_b (o := _) rfl ?_
           refine st_call0 hA rfl rfl rfl isfn53 rfl rfl (by decide) (of53 hS _ s.ro (.inr (.inl ⟨by omega, by omega, rfl⟩))) ?_
           clear hA hS; rintro _ w107 a ⟨bx108, LB109, hb110, rfl, hS⟩ hA
           refine dr_nil (.inr ⟨_, _, _, (hS.tail 3 rfl)⟩) (dr_run tbOk 2 hA ⟨_, _, _, (hS.tail 3 rfl)⟩ (e' := (101, vP b 23) :: (100, vP b 0) :: _) rfl fun a hA => dr_b (o := _) rfl ?_)
           replace hS := hS.m3
           refine st_store tbOk hA hS [vP bp84 0] [vI s.id, vI kn, vI s.no, vI s.pc, vI s.wa, vI s.tr, vI s.ag, vI pn, vI s.ro, vP bo 0, .bool false, vI s.now, vU s.sent, vU rp, vU po, vU r0, vW r1, vB r2, vU r3, sv, vP bd 0, vP bg 0, vP bc 0, vP bp84 0, .pointer none, .map none] rfl rfl rfl rfl rfl rfl (by intro u hu; rw [List.mem_singleton.1 hu]; rfl) (zle rfl) rfl rfl rfl fun w111 hS => ?_
           replace hS := hS.m3.m3.m3
           refine dr_nil (.inr ⟨_, _, _, (hS.tail 3 rfl)⟩) (dr_run tbOk 2 hA ⟨_, _, _, (hS.tail 3 rfl)⟩ (e' := (103, vP b 24) :: (102, vP b 0) :: _) rfl fun a hA => dr_b (o := _) rfl ?_)
           replace hS := hS.m3
           refine st_store tbOk hA hS [vP bx108 0] [vI s.id, vI kn, vI s.no, vI s.pc, vI s.wa, vI s.tr, vI s.ag, vI pn, vI s.ro, vP bo 0, .bool false, vI s.now, vU s.sent, vU rp, vU po, vU r0, vW r1, vB r2, vU r3, sv, vP bd 0, vP bg 0, vP bc 0, vP bp84 0, vP bx108 0, .map none] rfl rfl rfl rfl rfl rfl (by intro u hu; rw [List.mem_singleton.1 hu]; rfl) (zle rfl) rfl rfl rfl fun w112 hS => ?_
           replace hS := hS.m3.m3.m3
           refine dr_nil (.inr ⟨_, _, _, (hS.tail 3 rfl)⟩) (dr_run tbOk 2 hA ⟨_, _, _, (hS.tail 3 rfl)⟩ (e' := (105, vP b 25) :: (104, vP b 0) :: _) rfl fun a hA => dr_b (o := _) rfl ?_)
           replace hS := hS.m3
           refine st_store tbOk hA hS [.map (some m105)] [vI s.id, vI kn, vI s.no, vI s.pc, vI s.wa, vI s.tr, vI s.ag, vI pn, vI s.ro, vP bo 0, .bool false, vI s.now, vU s.sent, vU rp, vU po, vU r0, vW r1, vB r2, vU r3, sv, vP bd 0, vP bg 0, vP bc 0, vP bp84 0, vP bx108 0, .map (some m105)] rfl rfl rfl rfl rfl rfl (by intro u hu; rw [List.mem_singleton.1 hu]; rfl) (zle rfl) rfl rfl rfl fun w113 hS => ?_
           replace hS := hS.m3.m3.m3
           refine dr_nil (.inr ⟨_, _, _, (hS.tail 3 rfl)⟩) (ze (zx ?_))
           replace hS := hS.m2.m6.m6.m6.m6
           exact ⟨bp84, bx108, m105, LP85, LB109, (hA.sel [0] rfl), hS, hp86, hb110⟩
       · refine dr_b (o := _) rfl ?_
         refine st_makeMap hA hS rfl rfl rfl (by decide) fun m114 w115 a hS hA => ?_
         refine dr_nil (.inr ⟨_, _, _, (hS.tail 1 rfl)⟩) ?_
         refine dr_subL ?_
         refine dr_b (o := _) rfl ?_
         refine st_call0 hA rfl rfl rfl isfn52 rfl rfl (by decide) (pm_of52 hS _ (by omega)) ?_
         clear hA hS; rintro _ w116 a ⟨bp117, LP118, hp119, rfl, hS⟩ hA
         refine dr_nil (.inr ⟨_, _, _, (hS.tail 2 rfl)⟩) (dr_b (o := _) rfl ?_)
         refine st_call0 hA rfl rfl rfl isfn53 rfl rfl (by decide) (of53 hS _ s.ro (.inr (.inl ⟨by omega, by omega, rfl⟩))) ?_
         clear hA hS; rintro _ w120 a ⟨bx121, LB122, hb123, rfl, hS⟩ hA
         refine dr_nil (.inr ⟨_, _, _, (hS.tail 3 rfl)⟩) (dr_run tbOk 2 hA ⟨_, _, _, (hS.tail 3 rfl)⟩ (e' := (101, vP b 23) :: (100, vP b 0) :: _) rfl fun a hA => dr_b (o := _) rfl ?_)
         replace hS := hS.m3
         refine st_store tbOk hA hS [vP bp117 0] [vI s.id, vI kn, vI s.no, vI s.pc, vI s.wa, vI s.tr, vI s.ag, vI pn, vI s.ro, vP bo 0, .bool false, vI s.now, vU s.sent, vU rp, vU po, vU r0, vW r1, vB r2, vU r3, sv, vP bd 0, vP bg 0, vP bc 0, vP bp117 0, .pointer none, .map none] rfl rfl rfl rfl rfl rfl (by intro u hu; rw [List.mem_singleton.1 hu]; rfl) (zle rfl) rfl rfl rfl fun w124 hS => ?_
         replace hS := hS.m3.m3.m3
         refine dr_nil (.inr ⟨_, _, _, (hS.tail 3 rfl)⟩) (dr_run tbOk 2 hA ⟨_, _, _, (hS.tail 3 rfl)⟩ (e' := (103, vP b 24) :: (102, vP b 0) :: _) rfl fun a hA => dr_b (o := _) rfl ?_)
         replace hS := hS.m3
         refine st_store tbOk hA hS [vP bx121 0] [vI s.id, vI kn, vI s.no, vI s.pc, vI s.wa, vI s.tr, vI s.ag, vI pn, vI s.ro, vP bo 0, .bool false, vI s.now, vU s.sent, vU rp, vU po, vU r0, vW r1, vB r2, vU r3, sv, vP bd 0, vP bg 0, vP bc 0, vP bp117 0, vP bx121 0, .map none] rfl rfl rfl rfl rfl rfl (by intro u hu; rw [List.mem_singleton.1 hu]; rfl) (zle rfl) rfl rfl rfl fun w125 hS => ?_
         replace hS := hS.m3.m3.m3
         refine dr_nil (.inr ⟨_, _, _, (hS.tail 3 rfl)⟩) (dr_run tbOk 2 hA ⟨_, _, _, (hS.tail 3 rfl)⟩ (e' := (105, vP b 25) :: (104, vP b 0) :: _) rfl fun a hA => dr_b (o := _) rfl ?_)
         replace hS := hS.m3
         refine st_store tbOk hA hS [.map (some m114)] [vI s.id, vI kn, vI s.no, vI s.pc, vI s.wa, vI s.tr, vI s.ag, vI pn, vI s.ro, vP bo 0, .bool false, vI s.now, vU s.sent, vU rp, vU po, vU r0, vW r1, vB r2, vU r3, sv, vP bd 0, vP bg 0, vP bc 0, vP bp117 0, vP bx121 0, .map (some m114)] rfl rfl rfl rfl rfl rfl (by intro u hu; rw [List.mem_singleton.1 hu]; rfl) (zle rfl) rfl rfl rfl fun w126 hS => ?_
         replace hS := hS.m3.m3.m3
         refine dr_nil (.inr ⟨_, _, _, (hS.tail 3 rfl)⟩) (ze (zx ?_))
         replace hS := hS.m1.m6.m6.m6.m6
         exact ⟨bp117, bx121, m114, LP118, LB122, (hA.sel [0] rfl), hS, hp119, hb123⟩
     · clear hA hS; rintro a w127 ⟨bp, bx, mp, LP, LB, hA, hS, hpm, hbx⟩
       refine zs (zr (zR 3 ((108, vP b 10) :: (107, vP b 0) :: (106, vP b 0) :: _) hA rfl fun a hA => ?_))
       refine st_store tbOk hA hS [.bool true] [vI s.id, vI kn, vI s.no, vI s.pc, vI s.wa, vI s.tr, vI s.ag, vI pn, vI s.ro, vP bo 0, .bool true, vI s.now, vU s.sent, vU rp, vU po, vU r0, vW r1, vB r2, vU r3, sv, vP bd 0, vP bg 0, vP bc 0, vP bp 0, vP bx 0, .map (some mp)] rfl rfl rfl rfl rfl rfl (by intro u hu; rw [List.mem_singleton.1 hu]; rfl) (zle rfl) rfl rfl rfl fun w128 hS => ?_
       refine zn (zx (zs (zr (zR 1 ((2, .nilIface) :: _) hA rfl fun a hA => zn (zx ?_)))))
       refine wp_ret ?_
       refine ret1 (fn := Tryz.f29) hA rfl rfl ?_
       replace hS : St w0 w128 (((b, rowO [vI s.id, vI kn, vI s.no, vI s.pc, vI s.wa, vI s.tr, vI s.ag, vI pn, vI s.ro, vP bo 0, .bool true, vI s.now, vU s.sent, vU rp, vU po, vU r0, vW r1, vB r2, vU r3, sv, vP bd 0, vP bg 0, vP bc 0, vP bp 0, vP bx 0, .map (some mp)] 121) :: ([(bd, rowO [.slice none 0 0] 127)] ++ ([(bg, rowO [.slice none 0 0] 130)] ++ (LC ++ (LP ++ (LB ++ ((mp, .map #[] 0) :: LV))))))) :: O9 :: F) := hS.cast (by simp)
       exact ⟨_, _, ⟨_, _, _, _, _, _, _, _, [], [], [], [], _, _, _, _, _, _, ⟨SR.new _, (GS.new w0 _).dx DX.bot, hcr, hpm, hbx, MapO.new .u64, hV, rfl, (fun x hx => by cases hx), rfl, (fun x hx => by cases hx), rfl, (fun x hx => by cases hx), rfl, (fun x hx => by cases hx)⟩, rfl⟩, hO9, rfl, hS⟩
theorem nboot0_29 {w0 w : World} {F : List Chunk} {b bo : Nat} {s : NC} {D : Chunk} {O : Chunk} {en : List (Nat × Nat × Nat)} {ts : List Nat} {k : Nat} (hS : St w0 w ([(b, rowO [vI s.id, .int .i64 0, vI s.no, vI s.pc, vI s.wa, vI s.tr, vI s.ag, vI s.pg, vI s.ro, vP bo 0, .bool false, vI s.now, vU s.sent, .int .u64 0, .int .u64 0, .int .u64 0, .int .u32 0, .int .u8 0, .int .u64 0, .pointer none, .pointer none, .pointer none, .pointer none, .pointer none, .pointer none, .map none] 121)] :: O :: F)) (hO : ORR bo en ts k O) {g rp : Nat} (hx0 : ts[k]? = some g) (hx1 : ts[k + 1]? = some rp) (hg : g < 281474976710656) (hno : ∀ x ∈ en, ¬ (x.1 = 0 ∧ x.2.1 = g % 281474976710656)) (hel : en.length ≤ 900) (hwa : 1 ≤ s.wa) (htr : 1 ≤ s.tr) (hag : 1 ≤ s.ag) (hro : s.ro ≤ 64) :
    Ret Tryz.prog 29 #[vP b 0] w (fun v w' => ∃ L' O', NUP w0 b bo ⟨⟨s.id, 0, s.no, s.pc, s.wa, s.tr, s.ag, s.pg, s.ro, s.now, s.sent, rp, 0, 0, 0, 0, 0⟩, [], [], [], [], [], [], []⟩ .none L' D ∧ ORR bo (en ++ [(0, g % 281474976710656, rp)]) ts (k + 1 + 1) O' ∧ v = .nilIface ∧ St w0 w' (L' :: O' :: F)) := by
  exact nbootX_29 (kn := 0) (pn := s.pg) (po := 0) (r0 := 0) (r1 := 0) (r2 := 0) (r3 := 0) (srv := .none) hS hO hx0 hx1 hg hno hel hwa htr hag hro (fun _ => ⟨rfl, rfl, rfl, rfl, rfl, rfl, rfl, rfl⟩) (fun h => absurd rfl h)
theorem nboot1_29 {w0 w : World} {F : List Chunk} {b bo : Nat} {s : NC} {D : Chunk} {O : Chunk} {en : List (Nat × Nat × Nat)} {ts : List Nat} {k : Nat} (hS : St w0 w ([(b, rowO [vI s.id, .int .i64 1, vI s.no, vI s.pc, vI s.wa, vI s.tr, vI s.ag, .int .i64 10, vI s.ro, vP bo 0, .bool false, vI s.now, vU s.sent, .int .u64 0, .int .u64 0, .int .u64 0, .int .u32 0, .int .u8 0, .int .u64 0, .pointer none, .pointer none, .pointer none, .pointer none, .pointer none, .pointer none, .map none] 121)] :: O :: F)) (hO : ORR bo en ts k O) {g rp : Nat} (hx0 : ts[k]? = some g) (hx1 : ts[k + 1]? = some rp) (hg : g < 281474976710656) (hno : ∀ x ∈ en, ¬ (x.1 = 0 ∧ x.2.1 = g % 281474976710656)) (hel : en.length ≤ 900) (hwa : 1 ≤ s.wa) (htr : 1 ≤ s.tr) (hag : 1 ≤ s.ag) (hro : s.ro ≤ 64) {g2 po x : Nat} (hx2 : ts[k + 1 + 1]? = some g2) (hx3 : ts[k + 1 + 1 + 1]? = some po) (hx4 : ts[k + 1 + 1 + 1 + 1]? = some x) (hg2 : g2 < 281474976710656) (hno2 : ∀ x ∈ en ++ [(0, g % 281474976710656, rp)], ¬ (x.1 = 0 ∧ x.2.1 = g2 % 281474976710656)) :
    Ret Tryz.prog 29 #[vP b 0] w (fun v w' => ∃ L' O', NUP w0 b bo ⟨⟨s.id, 1, s.no, s.pc, s.wa, s.tr, s.ag, 10, s.ro, s.now, s.sent, rp, po, po, 0, 255, x⟩, [], [], [], [], [], [], []⟩ .other L' D ∧ ORR bo (en ++ [(0, g % 281474976710656, rp)] ++ [(0, g2 % 281474976710656, po)]) ts (k + 1 + 1 + 1 + 1 + 1) O' ∧ v = .nilIface ∧ St w0 w' (L' :: O' :: F)) := by
  exact nbootX_29 (kn := 1) (pn := 10) (po := po) (r0 := po) (r1 := 0) (r2 := 255) (r3 := x) hS hO hx0 hx1 hg hno hel hwa htr hag hro (fun h => by cases h) (fun _ w9 O9 h9 hO9 => nserve1_50 (D := D) h9 hO9 hx2 hx3 hx4 hg2 hno2 (by rw [List.length_append]; show en.length + 1 ≤ _; omega))
theorem nboot2_29 {w0 w : World} {F : List Chunk} {b bo : Nat} {s : NC} {D : Chunk} {O : Chunk} {en : List (Nat × Nat × Nat)} {ts : List Nat} {k : Nat} (hS : St w0 w ([(b, rowO [vI s.id, .int .i64 2, vI s.no, vI s.pc, vI s.wa, vI s.tr, vI s.ag, vI s.pg, vI s.ro, vP bo 0, .bool false, vI s.now, vU s.sent, .int .u64 0, .int .u64 0, .int .u64 0, .int .u32 0, .int .u8 0, .int .u64 0, .pointer none, .pointer none, .pointer none, .pointer none, .pointer none, .pointer none, .map none] 121)] :: O :: F)) (hO : ORR bo en ts k O) {g rp : Nat} (hx0 : ts[k]? = some g) (hx1 : ts[k + 1]? = some rp) (hg : g < 281474976710656) (hno : ∀ x ∈ en, ¬ (x.1 = 0 ∧ x.2.1 = g % 281474976710656)) (hel : en.length ≤ 900) (hwa : 1 ≤ s.wa) (htr : 1 ≤ s.tr) (hag : 1 ≤ s.ag) (hro : s.ro ≤ 64) {g2 po x : Nat} (hx2 : ts[k + 1 + 1]? = some g2) (hx3 : ts[k + 1 + 1 + 1]? = some po) (hx4 : ts[k + 1 + 1 + 1 + 1]? = some x) (hg2 : g2 < 281474976710656) (hno2 : ∀ x ∈ en ++ [(0, g % 281474976710656, rp)], ¬ (x.1 = 0 ∧ x.2.1 = g2 % 281474976710656)) :
    Ret Tryz.prog 29 #[vP b 0] w (fun v w' => ∃ L' O', NUP w0 b bo ⟨⟨s.id, 2, s.no, s.pc, s.wa, s.tr, s.ag, s.pg, s.ro, s.now, s.sent, rp, po, po, 0, 255, x⟩, [], [], [], [], [], [], []⟩ .other L' D ∧ ORR bo (en ++ [(0, g % 281474976710656, rp)] ++ [(0, g2 % 281474976710656, po)]) ts (k + 1 + 1 + 1 + 1 + 1) O' ∧ v = .nilIface ∧ St w0 w' (L' :: O' :: F)) := by
  exact nbootX_29 (kn := 2) (pn := s.pg) (po := po) (r0 := po) (r1 := 0) (r2 := 255) (r3 := x) hS hO hx0 hx1 hg hno hel hwa htr hag hro (fun h => by cases h) (fun _ w9 O9 h9 hO9 => nserve2_50 (D := D) h9 hO9 hx2 hx3 hx4 hg2 hno2 (by rw [List.length_append]; show en.length + 1 ≤ _; omega))
theorem nboot3_29 {w0 w : World} {F : List Chunk} {b bo : Nat} {s : NC} {D : Chunk} {O : Chunk} {en : List (Nat × Nat × Nat)} {ts : List Nat} {k : Nat} (hS : St w0 w ([(b, rowO [vI s.id, .int .i64 3, vI s.no, vI s.pc, vI s.wa, vI s.tr, vI s.ag, vI s.pg, vI s.ro, vP bo 0, .bool false, vI s.now, vU s.sent, .int .u64 0, .int .u64 0, .int .u64 0, .int .u32 0, .int .u8 0, .int .u64 0, .pointer none, .pointer none, .pointer none, .pointer none, .pointer none, .pointer none, .map none] 121)] :: O :: F)) (hO : ORR bo en ts k O) {g rp : Nat} (hx0 : ts[k]? = some g) (hx1 : ts[k + 1]? = some rp) (hg : g < 281474976710656) (hno : ∀ x ∈ en, ¬ (x.1 = 0 ∧ x.2.1 = g % 281474976710656)) (hel : en.length ≤ 900) (hwa : 1 ≤ s.wa) (htr : 1 ≤ s.tr) (hag : 1 ≤ s.ag) (hro : s.ro ≤ 64) {g2 po x : Nat} (hx2 : ts[k + 1 + 1]? = some g2) (hx3 : ts[k + 1 + 1 + 1]? = some po) (hx4 : ts[k + 1 + 1 + 1 + 1]? = some x) (hg2 : g2 < 281474976710656) (hno2 : ∀ x ∈ en ++ [(0, g % 281474976710656, rp)], ¬ (x.1 = 0 ∧ x.2.1 = g2 % 281474976710656)) :
    Ret Tryz.prog 29 #[vP b 0] w (fun v w' => ∃ L' O', NUP w0 b bo ⟨⟨s.id, 3, s.no, s.pc, s.wa, s.tr, s.ag, s.pg, s.ro, s.now, s.sent, rp, po, po, 0, 255, x⟩, [], [], [], [], [], [], []⟩ (.file [(true, x, 0, -1, 24)] [] 0 0) L' D ∧ ORR bo (en ++ [(0, g % 281474976710656, rp)] ++ [(0, g2 % 281474976710656, po)]) ts (k + 1 + 1 + 1 + 1 + 1) O' ∧ v = .nilIface ∧ St w0 w' (L' :: O' :: F)) := by
  exact nbootX_29 (kn := 3) (pn := s.pg) (po := po) (r0 := po) (r1 := 0) (r2 := 255) (r3 := x) hS hO hx0 hx1 hg hno hel hwa htr hag hro (fun h => by cases h) (fun _ w9 O9 h9 hO9 => nserve3_50 (D := D) h9 hO9 hx2 hx3 hx4 hg2 hno2 (by rw [List.length_append]; show en.length + 1 ≤ _; omega))
end Go.Proofs.YthiakdmhpfkjbaaGreatDoor

set_option linter.unusedVariables false
set_option linter.unusedSimpArgs false
set_option maxRecDepth 4000
namespace Go.Proofs.YthiakdmhpfkjbaaGreatDoor
open Go Go.SK
def encPt (b : Nat) : List Value := [vP b 0]
theorem encPt_ok : Enc encPt 1 := ⟨fun _ => rfl, fun x u hu => by simp only [encPt, List.mem_cons, List.not_mem_nil, or_false] at hu; rcases hu with rfl <;> rfl⟩
inductive NX where
  | up (st : NS) (sr : Srv) : NX
  | down (c : NC) : NX
def NOD (w0 : World) (b bo : Nat) : NX → Chunk → Chunk → Prop
  | .up st sr, L, D => NUP w0 b bo st sr L D
  | .down s, L, _ => L = [(b, rowO [vI s.id, vI s.ki, vI s.no, vI s.pc, vI s.wa, vI s.tr, vI s.ag, vI s.pg, vI s.ro, vP bo 0, .bool false, vI s.now, vU s.sent, .int .u64 0, .int .u64 0, .int .u64 0, .int .u32 0, .int .u8 0, .int .u64 0, .pointer none, .pointer none, .pointer none, .pointer none, .pointer none, .pointer none, .map none] 121)]
theorem NOD.dx {w0 : World} {b bo : Nat} {x : NX} {L D D' : Chunk} (h : NOD w0 b bo x L D) (k : DX w0 D D') : NOD w0 b bo x L D' := by
  cases x with
  | up st sr => exact NUP.dx h k
  | down c => exact h
def NDS (w0 : World) (bo : Nat) : List Nat → List NX → Chunk → Chunk → Prop
  | [], [], L, _ => L = []
  | b :: bs, x :: xs, L, D => ∃ L1 L2, NOD w0 b bo x L1 D ∧ NDS w0 bo bs xs L2 D ∧ L = L1 ++ L2
  | _, _, _, _ => False
theorem NDS.dx {w0 : World} {bo : Nat} {D D' : Chunk} (k : DX w0 D D') : ∀ {bs : List Nat} {xs : List NX} {L : Chunk}, NDS w0 bo bs xs L D → NDS w0 bo bs xs L D'
  | [], [], _, h => h
  | [], _ :: _, _, h => h.elim
  | _ :: _, [], _, h => h.elim
  | b :: bs, x :: xs, L, h => by
    obtain ⟨L1, L2, h1, h2, h3⟩ := h
    exact ⟨L1, L2, h1.dx k, NDS.dx k h2, h3⟩
theorem NDS.len {w0 : World} {bo : Nat} {D : Chunk} : ∀ {bs : List Nat} {xs : List NX} {L : Chunk}, NDS w0 bo bs xs L D → bs.length = xs.length
  | [], [], _, h => rfl
  | [], _ :: _, _, h => h.elim
  | _ :: _, [], _, h => h.elim
  | b :: bs, x :: xs, L, h => by
    obtain ⟨L1, L2, h1, h2, h3⟩ := h
    rw [List.length_cons, List.length_cons, NDS.len h2]
theorem NDS.app {w0 : World} {bo : Nat} {D : Chunk} {b : Nat} {x : NX} {L2 : Chunk} (h2 : NOD w0 b bo x L2 D) : ∀ {bs : List Nat} {xs : List NX} {L : Chunk}, NDS w0 bo bs xs L D → NDS w0 bo (bs ++ [b]) (xs ++ [x]) (L ++ L2) D
  | [], [], _, h => by
    have e : _ = [] := h
    subst e
    exact ⟨L2, [], h2, rfl, by simp⟩
  | [], _ :: _, _, h => h.elim
  | _ :: _, [], _, h => h.elim
  | b :: bs, x :: xs, L, h => by
    obtain ⟨L1, L3, h1, h4, h3⟩ := h
    subst h3
    exact ⟨L1, L3 ++ L2, h1, NDS.app h2 h4, by simp⟩
theorem NDS.at_ {w0 : World} {bo : Nat} {D : Chunk} : ∀ {bs : List Nat} {xs : List NX} {L : Chunk} {i b : Nat} {x : NX}, NDS w0 bo bs xs L D → bs[i]? = some b → xs[i]? = some x → ∃ La Li Lb, L = La ++ (Li ++ Lb) ∧ NOD w0 b bo x Li D ∧ ∀ x' Li' D', DX w0 D D' → NOD w0 b bo x' Li' D' → NDS w0 bo bs (xs.set i x') (La ++ (Li' ++ Lb)) D'
  | [], [], _, i, _, _, _, hb, _ => by cases hb
  | [], _ :: _, _, _, _, _, h, _, _ => h.elim
  | _ :: _, [], _, _, _, _, h, _, _ => h.elim
  | b0 :: bs, x0 :: xs, L, 0, b, x, h, hb, hx => by
    obtain ⟨L1, L2, h1, h2, h3⟩ := h
    injection hb with hb; injection hx with hx; subst hb; subst hx; subst h3
    exact ⟨[], L1, L2, rfl, h1, fun x' Li' D' k h' => ⟨Li', L2, h', NDS.dx k h2, rfl⟩⟩
  | b0 :: bs, x0 :: xs, L, i + 1, b, x, h, hb, hx => by
    obtain ⟨L1, L2, h1, h2, h3⟩ := h
    obtain ⟨La, Li, Lb, g1, g2, g3⟩ := NDS.at_ h2 (by simpa using hb) (by simpa using hx)
    subst h3; subst g1
    refine ⟨L1 ++ La, Li, Lb, by simp, g2, fun x' Li' D' k h' => ⟨L1, La ++ (Li' ++ Lb), h1.dx k, g3 x' Li' D' k h', by simp⟩⟩
def WRA (w0 : World) (b : Nat) (pn : List PN) (L D : Chunk) : Prop := ∃ ps, WR b ps L ∧ PKS w0 D ps pn
theorem PKS.dx {w0 : World} {D D' : Chunk} {ps : List Pkt} {pn : List PN} (h : PKS w0 D ps pn) (k : DX w0 D D') : PKS w0 D' ps pn := ⟨h.1, fun x hx => k.dd (h.2 x hx)⟩
theorem WRA.dx {w0 : World} {b : Nat} {pn : List PN} {L D D' : Chunk} (h : WRA w0 b pn L D) (k : DX w0 D D') : WRA w0 b pn L D' := by
  obtain ⟨ps, h1, h2⟩ := h
  exact ⟨ps, h1, h2.dx k⟩
theorem PKS.at_ {w0 : World} {D : Chunk} {ps : List Pkt} {pn : List PN} {j : Nat} {x : Pkt} (h : PKS w0 D ps pn) (hx : ps[j]? = some x) : ∃ p, pn[j]? = some p ∧ pst x = p.t ∧ encPacket_dd w0 D x := by
  obtain ⟨p, hp, e⟩ := map_at9 h.1.symm hx
  exact ⟨p, hp, e.symm, h.2 x (List.mem_of_getElem? hx)⟩
theorem PKS.snoc {w0 : World} {D E : Chunk} {ps : List Pkt} {pn : List PN} {p : PN} {A : Option Addr} {c : Nat} (h : PKS w0 D ps pn) (hE : DD w0 E A c p.da) : PKS w0 (E ++ D) (ps ++ [(((p.fr : Nat) : Int), ((p.to : Nat) : Int), ((p.id : Nat) : Int), ((p.ix : Nat) : Int), ((p.cn : Nat) : Int), A, c, p.da)]) (pn ++ [p]) := ⟨by rw [List.map_append, List.map_append, h.1]; rfl, fun x hx => by
  rcases List.mem_append.1 hx with hx | hx
  · exact encPacket_left (h.2 x hx)
  · rw [List.mem_singleton.1 hx]; exact hE.right⟩
structure SY where
  nx : List NX
  wi : List PN
  en : List (Nat × Nat × Nat)
  k : Nat
structure SYS0 (w0 : World) (ts : List Nat) (s : SY) (D : Chunk) (bw bo : Nat) (bs : List Nat) (A : Option Addr) (c : Nat) (C NL WL OL : Chunk) : Prop where
  fn : NDS w0 bo bs s.nx NL D
  fw : WRA w0 bw s.wi WL D
  fo : ORR bo s.en ts s.k OL
  fr : Own 82 1 (.slice A bs.length c) bs.length (rows encPt bs) C
def SYS (w0 : World) (b : Nat) (ts : List Nat) (s : SY) (L D : Chunk) : Prop := ∃ bw bo bs A c C NL WL OL, SYS0 w0 ts s D bw bo bs A c C NL WL OL ∧ L = (b, rowO [.slice A bs.length c, vP bw 0] 77) :: (C ++ (NL ++ (WL ++ OL)))
set_option maxHeartbeats 4000000 in
theorem ssend34 {w0 w : World} {F : List Chunk} {b bw n0 c0 c : Nat} {A0 A : Option Addr} {WL Cq D : Chunk} {wi pn : List PN} {ps : List Pkt} (hS : St w0 w ([(b, rowO [.slice A0 n0 c0, vP bw 0] 77)] :: WL :: Cq :: D :: F)) (hW : WRA w0 bw wi WL D) (hO : Own 94 6 (.slice A ps.length c) ps.length (rows encPacket ps) Cq) (hK : PKS w0 D ps pn) (hl : wi.length + pn.length ≤ 1024) (hsz : ∀ p ∈ pn, p.da.length ≤ 1000000) :
 Ret Tryz.prog 34 #[vP b 0, .slice A ps.length c] w (fun v w' => ∃ WL' D', WRA w0 bw (wi ++ pn) WL' D' ∧ DX w0 D D' ∧ v = .tuple #[] ∧ St w0 w' ([(b, rowO [.slice A0 n0 c0, vP bw 0] 77)] :: WL' :: D' :: F)) := by
 have hcap := hO.rcap; have hpl := hK.len
 refine enter (vs := [vP b 0, .slice A ps.length c]) 20 Tryz.func34 rfl rfl (by simp) ?_; intro a hA
 refine zs (zr (zR 3 ((8, .int .i64 0) :: (7, vI ps.length) :: (6, .slice A ps.length c) :: _) hA rfl fun a hA => zn (zx (zb ?_))))
 replace hS := hS.m3.m2.m2
 refine wp_loop_ghost (fun m a w => ∃ (j : Nat) (WL' : Chunk) (D' : Chunk), m = ps.length - j ∧ Has a 20 [(0, vP b 0), (6, .slice A ps.length c), (7, vI ps.length), (8, vI j)] ∧ St w0 w ([(b, rowO [.slice A0 n0 c0, vP bw 0] 77)] :: WL' :: D' :: Cq :: F) ∧ (j ≤ ps.length) ∧ (WRA w0 bw (wi ++ pn.take j) WL' D') ∧ (DX w0 D D')) (ps.length - 0)
  ⟨0, WL, D, rfl, (hA.sel [0, 6, 7, 8] rfl), hS, Nat.zero_le _, (by rw [List.take_zero, List.append_nil]; exact hW), DX.refl⟩ ?_
 clear hA hS; rintro m0 a w1 ⟨j, WL', D', rfl, hA, hS, hj, hW, hX⟩
 refine zs (zr (zR 1 ((9, .bool (decide (((j : Nat) : Int) < ((ps.length : Nat) : Int)))) :: _) hA rfl fun a hA => zn (zx (zs ?_))))
 by_cases hc2 : ((j : Nat) : Int) < ((ps.length : Nat) : Int)
 · first
   | (exfalso; omega)
   | (replace hA := hA.rw 9 (v' := .bool true) rfl (vb_true hc2)
      refine cd_cond_t hA rfl (zk (zx (zs (zb (zs (zr ?_))))))
      obtain ⟨x, hx⟩ := get_ex (l := ps) (k := j) (by omega)
      obtain ⟨p, hpj, e, hdx⟩ := (hK.dx hX).at_ hx; have hps := hsz p (List.mem_of_getElem? hpj)
      obtain ⟨k0, k1, k2, k3, k4, kA, kc, kb⟩ := x
      simp only [pst, pdat, PN.t, Prod.mk.injEq] at e
      obtain ⟨e0, e1, e2, e3, e4, e5⟩ := e
      subst e0 e1 e2 e3 e4 e5
      obtain ⟨b3, o4, rfl⟩ := hO.isSome (k := j) (by omega)
      refine st_val hA rfl rfl (by decide) (rn_indexAddr tbOk hA j (o4 + (j * 6)) rfl rfl rfl rfl rfl rfl (by rfl) (by omega) (by first | rfl | simp [Nat.mul_one, Nat.zero_add] | omega)) fun a hA => st_val hA rfl rfl (by decide) (rn_loadA tbOk hA ([vI p.fr, vI p.to, vU p.id, vI p.ix, vI p.cn, .slice kA p.da.length kc]) rfl rfl rfl rfl (by rfl) ((hO.rd (hS.own_ 3 rfl)).elem (k := j) encPacket_ok hx)) fun a hA => ?_
      refine st_alloc tbOk hA hS [.int .i64 0, .int .i64 0, .int .u64 0, .int .i64 0, .int .i64 0, .slice none 0 0] rfl rfl rfl rfl rfl (by decide) fun b5 w6 a hS hA => ?_
      refine st_store tbOk hA hS [vI p.fr, vI p.to, vU p.id, vI p.ix, vI p.cn, .slice kA p.da.length kc] [vI p.fr, vI p.to, vU p.id, vI p.ix, vI p.cn, .slice kA p.da.length kc] rfl rfl rfl rfl rfl rfl (zn1 rfl) (zle rfl) rfl rfl rfl fun w7 hS => ?_
      refine zn (zx (zs ?_))
      replace hS := hS.m3.m3
      refine zD2 hS [] [(0, true), (1, true), (2, true), (3, true), (4, true), (5, false), (6, true)] mixed (by kernel_rfl) (by rintro c a w ⟨_, _, h, _⟩; cases h) (by rfl) (by kernel_rfl) ?_
      replace hS := hS.drew
      refine zW 3 ((14, vP b 1) :: (13, vP b 0) :: (12, vP b 0) :: _) hA (hS.tail 2 rfl) rfl fun a hA => zY hA (hS.tail 2 rfl) 1 rfl rfl rfl rfl rfl rfl rfl rfl rfl rfl fun a hA => zYA hA (hS.tail 2 rfl) 0 [vI p.fr, vI p.to, vU p.id, vI p.ix, vI p.cn, .slice kA p.da.length kc] rfl rfl rfl rfl rfl rfl rfl rfl rfl rfl rfl fun a hA => dr_b (o := _) rfl ?_
      replace hS := hS.m1.m1
      obtain ⟨wp, hwr, hWK⟩ := hW; have hwl := hWK.len; rw [List.length_append, List.length_take] at hwl
      refine st_call0 hA rfl rfl rfl isfn57 rfl rfl (by decide) (send_ok57 hS hwr ((p.fr : Nat) : Int) ((p.to : Nat) : Int) ((p.id : Nat) : Int) ((p.ix : Nat) : Int) ((p.cn : Nat) : Int) (DD.rds (F := D' :: _) hdx 0 rfl) (by omega) (by omega)) ?_
      clear hA hS; rintro _ w8 a ⟨WL2, E2, A2, c2, hwr2, hE2, rfl, hS⟩ hA
      refine zi (hS.tail 2 rfl) (zW 1 ((18, .bool false) :: _) hA (hS.tail 2 rfl) rfl fun a hA => ze (zx (cd_cond_f hA rfl (zk (zm (zx (zr (zR 1 ((19, .int .i64 (IntKind.i64.wrap (((j : Nat) : Int) + 1))) :: _) hA rfl fun a hA => ?_))))))))
      replace hA := hA.rw 19 (v' := vI (j + 1)) rfl (wr64 (by omega) (by omega) (by omega))
      refine zR 1 ((8, vI (j + 1)) :: _) hA rfl fun a hA => zn ?_
      replace hS := hS.d2.m2
      have hW9 : WRA w0 bw (wi ++ pn.take (j + 1)) WL2 (E2 ++ D') := by rw [List.take_add_one, hpj, ← List.append_assoc]; exact ⟨_, hwr2, hWK.snoc hE2⟩
      exact lp_next _ (by omega) ⟨(j + 1), WL2, (E2 ++ D'), rfl, (hA.sel [0, 6, 7, 8] rfl), hS, by omega, hW9, (hX.trans DX.refl.step)⟩)
 · first
   | (exfalso; omega)
   | (replace hA := hA.rw 9 (v' := .bool false) rfl (vb_false hc2)
      refine cd_cond_f hA rfl ?_
      refine wp_exit ?_
      refine xt_exit (xt_exit (cd_exit_eq ?_))
      refine ret0n (fn := Tryz.f34) hA rfl ?_
      replace hS := hS.d3
      have hj9 : pn.take j = pn := List.take_of_length_le (by omega)
      rw [hj9] at hW; exact ⟨_, _, hW, hX, rfl, hS⟩)
theorem sat31 {w0 w : World} {F : List Chunk} {b bw c i bi : Nat} {A : Option Addr} {C : Chunk} {bs : List Nat} (hS : St w0 w ([(b, rowO [.slice A bs.length c, vP bw 0] 77)] :: C :: F)) (hr : Own 82 1 (.slice A bs.length c) bs.length (rows encPt bs) C) (hi : bs[i]? = some bi) :
 Ret Tryz.prog 31 #[vP b 0, vI i] w (fun v w' => v = vP bi 0 ∧ St w0 w' ([(b, rowO [.slice A bs.length c, vP bw 0] 77)] :: C :: F)) := by
 have hil := (List.getElem?_eq_some_iff.1 hi).1
 refine enter (vs := [vP b 0, vI i]) 23 Tryz.func31 rfl rfl (by simp) ?_; intro a hA
 refine zs (zr (zR 1 ((4, .pointer none) :: _) hA rfl fun a hA => zn (zx (zs (zs (zr (zR 3 ((7, .bool (decide (((i : Nat) : Int) < 0))) :: (6, .bool (decide (((i : Nat) : Int) < 0))) :: (5, vI i) :: _) hA rfl fun a hA => ?_)))))))
 have hc1 : ¬ (((i : Nat) : Int) < 0) := by omega
 replace hA := hA.rw 6 (v' := .bool false) rfl (vb_false hc1)
 replace hA := hA.rw 7 (v' := .bool false) rfl (vb_false hc1)
 refine zR 4 ((11, vP b 0) :: (10, vP b 0) :: (9, vP b 0) :: (8, vI i) :: _) hA rfl fun a hA => zL hA hS 0 rfl rfl rfl rfl rfl rfl rfl rfl rfl fun a hA => zR 3 ((15, .bool (decide (((i : Nat) : Int) ≥ ((bs.length : Nat) : Int)))) :: (14, .bool (decide (((i : Nat) : Int) ≥ ((bs.length : Nat) : Int)))) :: (13, vI bs.length) :: _) hA rfl fun a hA => zn (zx ?_)
 have hc2 : ¬ (((i : Nat) : Int) ≥ ((bs.length : Nat) : Int)) := by omega
 replace hA := hA.rw 15 (v' := .bool false) rfl (vb_false hc2)
 refine cd_cond_f hA rfl (zk (zx (zs (zr (zR 3 ((18, vP b 0) :: (17, vP b 0) :: (16, vP b 0) :: _) hA rfl fun a hA => zL hA hS 0 rfl rfl rfl rfl rfl rfl rfl rfl rfl fun a hA => zR 1 ((20, vI i) :: _) hA rfl fun a hA => ?_)))))
 obtain ⟨b3, o4, rfl⟩ := hr.isSome (k := i) (by omega)
 refine st_val hA rfl rfl (by decide) (rn_indexAddr tbOk hA i (o4 + i) rfl rfl rfl rfl rfl rfl (by rfl) (by omega) (by first | rfl | simp [Nat.mul_one, Nat.zero_add] | omega)) fun a hA => st_val hA rfl rfl (by decide) (rn_load tbOk hA rfl rfl rfl rfl ((hr.rd (hS.own_ 1 rfl)).elem0 (k := i) encPt_ok hi rfl)) fun a hA => zR 1 ((4, vP bi 0) :: _) hA rfl fun a hA => zn (zx ?_)
 refine wp_ret ?_
 refine ret1 (fn := Tryz.f31) hA rfl rfl ?_
 exact ⟨rfl, hS⟩
end Go.Proofs.YthiakdmhpfkjbaaGreatDoor

set_option linter.unusedVariables false
set_option linter.unusedSimpArgs false
set_option maxRecDepth 4000
namespace Go.Proofs.YthiakdmhpfkjbaaGreatDoor
open Go Go.SK
def decR (b : List UInt8) : MN := ⟨beval (bsub b 0 6), beval (bsub b 6 6), beval (bsub b 12 4), beval (bsub b 16 2), beval (bsub b 18 2), beval (bsub b 20 6), beval (bsub b 26 3), beval (bsub b 29 1), beval (bsub b 30 6), beval (bsub b 36 8), b.drop 46⟩
def decM (b : List UInt8) : Option MN := if (encM (decR b)).take 46 = b.take 46 ∧ (decR b).ok then some (decR b) else none
theorem encM_drop (m : MN) : (encM m).drop 46 = m.da := by
  rw [encM]
  exact List.drop_left' (by simp only [List.length_append, be_length, capb_length])
theorem decM_some {b : List UInt8} {m : MN} (h : decM b = some m) : b = encM m ∧ m.ok := by
  rw [decM] at h
  split at h
  · rename_i hc
    injection h with h; subst h
    refine ⟨?_, hc.2⟩
    have h1 : (encM (decR b)).drop 46 = b.drop 46 := encM_drop _
    exact ((List.take_append_drop 46 b).symm.trans (by rw [hc.1, h1] : b.take 46 ++ b.drop 46 = (encM (decR b)).take 46 ++ (encM (decR b)).drop 46)).trans (List.take_append_drop 46 _)
  · cases h
theorem sdput_cases (k v : Nat) : ∀ sd : List (Nat × Nat), ((∀ x ∈ sd, ¬ x.1 = k) ∧ sdput k v sd = sd ++ [(k, v)]) ∨ ∃ j z, sd[j]? = some (k, z) ∧ (∀ (q : Nat) (y : Nat × Nat), q < j → sd[q]? = some y → ¬ y.1 = k) ∧ sdput k v sd = sd.set j (k, v)
  | [] => .inl ⟨(fun x hx => by cases hx), rfl⟩
  | x :: l => by
    by_cases hx : x.1 = k
    · refine .inr ⟨0, x.2, by rw [← hx]; rfl, fun q y hq => absurd hq (Nat.not_lt_zero _), ?_⟩
      rw [sdput, if_pos hx]; rfl
    · rw [sdput, if_neg hx]
      rcases sdput_cases k v l with ⟨h1, h2⟩ | ⟨j, z, h1, h2, h3⟩
      · refine .inl ⟨fun y hy => ?_, by rw [h2]; rfl⟩
        rcases List.mem_cons.1 hy with rfl | hy
        · exact hx
        · exact h1 y hy
      · refine .inr ⟨j + 1, z, h1, fun q y hq hy => ?_, by rw [h3]; rfl⟩
        cases q with
        | zero => injection hy with hy; subst hy; exact hx
        | succ q => exact h2 q y (by omega) hy
def narrM (st : NS) (p : PN) : Option (NS × List PN) :=
  if p.to = st.c.id then
    match gaddM st.gs p with
    | none => none
    | some (vs', none) => some ({ st with gs := vs' }, [])
    | some (vs', some bs) =>
      match decM bs with
      | none => none
      | some m =>
        if m.to = 0 then
          if m.op = 1 then
            if st.c.port = 0 ∨ ¬ m.ar = st.c.port then some ({ st with gs := vs' }, [])
            else if 1 ≤ st.c.pc ∧ st.c.pc ≤ 32768 ∧ st.c.sent < 1000000000 then some ({ st with gs := vs', c := { st.c with sent := st.c.sent + 1 } }, splitM (encM (hereM m.ar)) st.c.id p.fr (st.c.sent + 1) st.c.pc) else none
          else if m.op = 2 then (if st.pl.length < 16 then some ({ st with gs := vs', pl := st.pl.filter (fun x => !(x.1 == m.ar)) ++ [(m.ar, p.fr, st.c.now)] }, []) else none)
          else none
        else if m.to = st.c.rep then (if st.us.length < st.c.ro then some ({ st with gs := vs', us := st.us ++ [m] }, []) else none)
        else if m.to = st.c.port then (if st.ps.length < st.c.ro then some ({ st with gs := vs', ps := st.ps ++ [m], sd := sdput m.rp p.fr st.sd }, []) else none)
        else none
  else none
def NRet (w0 : World) (F : List Chunk) (b bo : Nat) (st' : NS) (sr : Srv) (D : Chunk) (out : List PN) (v : Value) (w' : World) : Prop := ∃ L' ps A c C D', NUP w0 b bo st' sr L' D' ∧ Own 94 6 (.slice A ps.length c) ps.length (rows encPacket ps) C ∧ PKS w0 D' ps out ∧ DX w0 D D' ∧ v = .slice A ps.length c ∧ St w0 w' (L' :: C :: D' :: F)
theorem NRet.nil {w0 w' : World} {F : List Chunk} {b bo : Nat} {st' : NS} {sr : Srv} {D L' D' : Chunk} {v : Value} (h1 : NUP w0 b bo st' sr L' D') (h2 : DX w0 D D') (h3 : v = .slice none 0 0) (h4 : St w0 w' (L' :: D' :: F)) : NRet w0 F b bo st' sr D [] v w' :=
  ⟨L', [], none, 0, [], D', h1, Own.nil _ _, PKS.nil, h2, h3, h4.cast (by simp)⟩
theorem narrA {b bo : Nat} {st st' : NS} {sr : Srv} {L D : Chunk} {w0 w : World} {F : List Chunk} {out : List PN} (hS : St w0 w (L :: D :: F)) (hN : NUP w0 b bo st sr L D) (p : PN) {d : Value} (hd : RdSX w0 (D :: F) 1 d p.da.length (rows encB p.da)) (h : narrM st p = some (st', out)) :
    Ret Tryz.prog 38 #[vP b 0, pval p d] w (NRet w0 F b bo st' sr D out) := by
  rw [narrM] at h
  by_cases hto : p.to = st.c.id
  · rw [if_pos hto] at h
    cases hg : gaddM st.gs p with
    | none => rw [hg] at h; cases h
    | some r =>
      obtain ⟨vs', r⟩ := r
      rw [hg] at h
      cases r with
      | none =>
        injection h with h; injection h with e1 e2; subst e1; subst e2
        refine Calls.mono (narr_no38 hS hN p hto hd hg) ?_
        rintro e w' ⟨v, he, L', D', g1, g2, g3, g4⟩
        exact ⟨v, he, NRet.nil g1 g2 g3 g4⟩
      | some bs =>
        dsimp only at h
        cases hdc : decM bs with
        | none => rw [hdc] at h; cases h
        | some m =>
          rw [hdc] at h
          obtain ⟨hb, hm⟩ := decM_some hdc
          dsimp only at h
          by_cases h1 : m.to = 0
          · rw [if_pos h1] at h
            by_cases h2 : m.op = 1
            · rw [if_pos h2] at h
              by_cases h3 : st.c.port = 0 ∨ ¬ m.ar = st.c.port
              · rw [if_pos h3] at h
                injection h with h; injection h with e1 e2; subst e1; subst e2
                refine Calls.mono (narr_locno38 hS hN p hto hd hg m hm hb h1 h2 h3) ?_
                rintro e w' ⟨v, he, L', D', g1, g2, g3, g4⟩
                exact ⟨v, he, NRet.nil g1 g2 g3 g4⟩
              · rw [if_neg h3] at h
                by_cases h4 : 1 ≤ st.c.pc ∧ st.c.pc ≤ 32768 ∧ st.c.sent < 1000000000
                · rw [if_pos h4] at h
                  injection h with h; injection h with e1 e2; subst e1; subst e2
                  exact narr_loc38 hS hN p hto hd hg m hm hb h1 h2 (fun q => h3 (.inl q)) (Classical.byContradiction fun q => h3 (.inr q)) h4.1 h4.2.1 h4.2.2
                · rw [if_neg h4] at h; cases h
            · rw [if_neg h2] at h
              by_cases h3 : m.op = 2
              · rw [if_pos h3] at h
                by_cases h4 : st.pl.length < 16
                · rw [if_pos h4] at h
                  injection h with h; injection h with e1 e2; subst e1; subst e2
                  refine Calls.mono (narr_here38 hS hN p hto hd hg m hm hb h1 h3 h4) ?_
                  rintro e w' ⟨v, he, L', D', g1, g2, g3, g4⟩
                  exact ⟨v, he, NRet.nil g1 g2 g3 g4⟩
                · rw [if_neg h4] at h; cases h
              · rw [if_neg h3] at h; cases h
          · rw [if_neg h1] at h
            by_cases h2 : m.to = st.c.rep
            · rw [if_pos h2] at h
              by_cases h4 : st.us.length < st.c.ro
              · rw [if_pos h4] at h
                injection h with h; injection h with e1 e2; subst e1; subst e2
                refine Calls.mono (narr_reply38 hS hN p hto hd hg m hm hb h1 h2 h4) ?_
                rintro e w' ⟨v, he, L', D', g1, g2, g3, g4⟩
                exact ⟨v, he, NRet.nil g1 g2 g3 g4⟩
              · rw [if_neg h4] at h; cases h
            · rw [if_neg h2] at h
              by_cases h3 : m.to = st.c.port
              · rw [if_pos h3] at h
                by_cases h4 : st.ps.length < st.c.ro
                · rw [if_pos h4] at h
                  injection h with h; injection h with e1 e2; subst e1; subst e2
                  rcases sdput_cases m.rp p.fr st.sd with ⟨k1, k2⟩ | ⟨j, z, k1, k3, k2⟩
                  · rw [k2]
                    refine Calls.mono (narr_reqnew38 hS hN p hto hd hg m hm hb h1 h2 h3 h4 k1) ?_
                    rintro e w' ⟨v, he, L', D', g1, g2, g3, g4⟩
                    exact ⟨v, he, NRet.nil g1 g2 g3 g4⟩
                  · rw [k2]
                    refine Calls.mono (narr_reqhit38 hS hN p hto hd hg m hm hb h1 h2 h3 h4 k1 k3) ?_
                    rintro e w' ⟨v, he, L', D', g1, g2, g3, g4⟩
                    exact ⟨v, he, NRet.nil g1 g2 g3 g4⟩
                · rw [if_neg h4] at h; cases h
              · rw [if_neg h3] at h; cases h
  · rw [if_neg hto] at h; cases h
instance (ca : List CA) : Decidable (cal ca) := by unfold cal; infer_instance
instance (ca : List CA) : Decidable (cag ca) := by unfold cag; infer_instance
instance (st : NS) : Decidable (rqok st) := by unfold rqok; infer_instance
def bndC (s : NC) (pl : List (Nat × Nat × Nat)) : Prop := 1 ≤ s.pc ∧ s.pc ≤ 32768 ∧ s.sent + 1000 < 1000000000 ∧ s.now + 1 < 1000000 ∧ (∀ x ∈ pl, x.2.2 < 1000000) ∧ s.ag < 1000000 ∧ s.rep < 281474976710656 ∧ s.no ≤ 8
instance (s : NC) (pl : List (Nat × Nat × Nat)) : Decidable (bndC s pl) := by unfold bndC; infer_instance
def calM (st : NS) (m : MN) : MN := { m with rp := st.c.rep, id := st.ca.length + 1, st := 0 }
def ncallM (st : NS) (m : MN) : Option (NS × List PN) :=
  if m.ok ∧ st.ca.length < 64 ∧ nP (encM (calM st m)) st.c.pc ≤ 256 ∧ bndC st.c st.pl ∧ ¬ m.to = st.c.port then some ({ st with c := { st.c with sent := (reqP st.c st.pl (calM st m)).2 }, ca := st.ca ++ [⟨calM st m, 1, 1, st.c.wa, MN.zero⟩] }, (reqP st.c st.pl (calM st m)).1) else none
theorem ncallB {b bo : Nat} {st st' : NS} {sr : Srv} {L D : Chunk} {w0 w : World} {F : List Chunk} {out : List PN} (hS : St w0 w (L :: D :: F)) (hN : NUP w0 b bo st sr L D) (m : MN) {d : Value} (hd : RdSX w0 (D :: F) 1 d m.da.length (rows encB m.da)) (h : ncallM st m = some (st', out)) :
    Ret Tryz.prog 33 #[vP b 0, .agg #[vU m.to, vU m.rp, vW m.id, vH m.op, vH m.st, vU m.po, vW m.ob, vB m.ri, vU m.ck, vU m.ar, d]] w (fun v w' => ∃ L' ps A c C D', NUP w0 b bo st' sr L' D' ∧ Own 94 6 (.slice A ps.length c) ps.length (rows encPacket ps) C ∧ PKS w0 D' ps out ∧ DX w0 D D' ∧ v = .tuple #[vW (st.ca.length + 1), .slice A ps.length c, .nilIface] ∧ St w0 w' (L' :: C :: D' :: F)) := by
  rw [ncallM] at h
  by_cases hc : m.ok ∧ st.ca.length < 64 ∧ nP (encM (calM st m)) st.c.pc ≤ 256 ∧ bndC st.c st.pl ∧ ¬ m.to = st.c.port
  · rw [if_pos hc] at h
    injection h with h; injection h with e1 e2; subst e1; subst e2
    obtain ⟨h1, h2, h3, ⟨b1, b2, b3, b4, b5, b6, b7, b8⟩, h5⟩ := hc
    refine Calls.mono (ncallA hS hN m h1 hd h2 h3 b1 b2 (by omega) (by omega) b5 b6 b7 b8 h5) ?_
    rintro e w' ⟨v, he, L', ps, A, c, C, D', ⟨g1, g2, g3, g4, g5, g6⟩⟩
    exact ⟨v, he, L', ps, A, c, C, D', g1, g2, g3, g4, g5, g6⟩
  · rw [if_neg hc] at h; cases h
def ntickM (st : NS) : Option (NS × List PN) :=
  if st.ca.length ≤ 64 ∧ cal st.ca ∧ cag st.ca ∧ rqok st ∧ st.c.wa ≤ 1000 ∧ bndC st.c st.pl then some ({ st with c := { st.c with now := st.c.now + 1, sent := (tickP { st.c with now := st.c.now + 1 } st.pl ((st.ca.filter (agA st.c.tr)).map CA.rq)).2 }, ca := st.ca.map (tickA st.c.wa st.c.tr) }, (tickP { st.c with now := st.c.now + 1 } st.pl ((st.ca.filter (agA st.c.tr)).map CA.rq)).1) else none
theorem ntickB {b bo : Nat} {st st' : NS} {sr : Srv} {L D : Chunk} {w0 w : World} {F : List Chunk} {out : List PN} (hS : St w0 w (L :: D :: F)) (hN : NUP w0 b bo st sr L D) (h : ntickM st = some (st', out)) :
    Ret Tryz.prog 41 #[vP b 0] w (NRet w0 F b bo st' sr D out) := by
  rw [ntickM] at h
  by_cases hc : st.ca.length ≤ 64 ∧ cal st.ca ∧ cag st.ca ∧ rqok st ∧ st.c.wa ≤ 1000 ∧ bndC st.c st.pl
  · rw [if_pos hc] at h
    injection h with h; injection h with e1 e2; subst e1; subst e2
    obtain ⟨h1, h2, h3, h4, h5, ⟨b1, b2, b3, b4, b5, b6, b7, b8⟩⟩ := hc
    exact ntick41 hS hN h1 h2 h3 h4 h5 b1 b2 b3 b4 b5 b6 b7 b8
  · rw [if_neg hc] at h; cases h
def sdof (sd : List (Nat × Nat)) (k : Nat) : Option Nat := (sd.find? (fun y => y.1 == k)).map (·.2)
theorem sdof_some {sd : List (Nat × Nat)} {k z : Nat} (h : sdof sd k = some z) : ∃ j : Nat, sd[j]? = some (k, z) ∧ ∀ (q : Nat) (y : Nat × Nat), q < j → sd[q]? = some y → ¬ y.1 = k := by
  rw [sdof] at h
  cases hf : sd.find? (fun y => y.1 == k) with
  | none => rw [hf] at h; cases h
  | some x =>
    rw [hf] at h
    obtain ⟨j, h1, h2, h3⟩ := find_at hf
    obtain ⟨x1, x2⟩ := x
    have e1 : x1 = k := beq_iff_eq.1 h2
    injection h with h
    have e2 : x2 = z := h
    subst e1; subst e2
    exact ⟨j, h1, fun q y hq hy => beq_eq_false_iff_ne.1 (h3 q y hq hy)⟩
def flof (fl : List (Nat × List UInt8)) (k : Nat) : Option (List UInt8) := (fl.find? (fun y => y.1 == k)).map (·.2)
theorem flof_some {fl : List (Nat × List UInt8)} {k : Nat} {z : List UInt8} (h : flof fl k = some z) : ∃ j : Nat, fl[j]? = some (k, z) ∧ ∀ (q : Nat) (y : Nat × List UInt8), q < j → fl[q]? = some y → ¬ y.1 = k := by
  rw [flof] at h
  cases hf : fl.find? (fun y => y.1 == k) with
  | none => rw [hf] at h; cases h
  | some x =>
    rw [hf] at h
    obtain ⟨j, h1, h2, h3⟩ := find_at hf
    obtain ⟨x1, x2⟩ := x
    have e1 : x1 = k := beq_iff_eq.1 h2
    injection h with h
    have e2 : x2 = z := h
    subst e1; subst e2
    exact ⟨j, h1, fun q y hq hy => beq_eq_false_iff_ne.1 (h3 q y hq hy)⟩
end Go.Proofs.YthiakdmhpfkjbaaGreatDoor

set_option linter.unusedVariables false
set_option linter.unusedSimpArgs false
set_option maxRecDepth 4000
namespace Go.Proofs.YthiakdmhpfkjbaaGreatDoor
open Go Go.SK
def mkR (m : MN) (po ob x0 : Nat) : MN := ⟨m.rp, m.to, m.id, 100, 0, po, ob, 255, x0, 0, []⟩
def rdR (m : MN) (bs : List UInt8) : MN := ⟨m.rp, m.to, m.id, 101, 0, 0, 0, 0, 0, 0, bs⟩
def wokC (st : NS) (m : MN) : Prop := m.ok ∧ m.ri = 255 ∧ m.po = st.c.port ∧ (∀ y ∈ st.es, ¬ (y.who = m.rp ∧ y.id = m.id)) ∧ st.es.length < 32 ∧ 1 ≤ st.c.pc ∧ st.c.pc ≤ 32768 ∧ st.c.sent < 1000000000
instance (st : NS) (m : MN) : Decidable (wokC st m) := by unfold wokC; infer_instance
def workMake (st : NS) (os : List (Bool × Nat × Int × Int × Int)) (fl : List (Nat × List UInt8)) (nx bb : Nat) (ts : List Nat) (k : Nat) (m : MN) (ps2 : List MN) : Option (NS × Srv × Nat × Bool × List PN) :=
  match os[m.ob]?, sdof st.sd m.rp, ts[k]? with
  | some (true, s0, _, va, _), some z0, some x0 =>
    if wokC st m ∧ va = -1 ∧ s0 < 2 ^ 64 ∧ s0 % 281474976710656 = m.ck ∧ (∀ x ∈ os, x.1 = true) ∧ os.length < 64 ∧ (∀ x ∈ fl, x.1 < nx) ∧ nx < 1000000 ∧ bb + m.da.length ≤ 65536 ∧ (mkR m st.c.port os.length x0).ok ∧ nP (encM (mkR m st.c.port os.length x0)) st.c.pc ≤ 256 then
      some ({ st with c := { st.c with sent := st.c.sent + 1 }, ps := ps2, es := st.es ++ [⟨m.rp, m.id, 2, mkR m st.c.port os.length x0⟩] }, .file (os ++ [(true, x0, 0, ((nx : Nat) : Int), 24)]) (fl ++ [(nx, m.da)]) (nx + 1) (bb + m.da.length), k + 1, true, splitM (encM (mkR m st.c.port os.length x0)) st.c.id z0 (st.c.sent + 1) st.c.pc)
    else none
  | _, _, _ => none
def workRead (st : NS) (os : List (Bool × Nat × Int × Int × Int)) (fl : List (Nat × List UInt8)) (nx bb : Nat) (k : Nat) (m : MN) (ps2 : List MN) : Option (NS × Srv × Nat × Bool × List PN) :=
  match os[m.ob]?, sdof st.sd m.rp with
  | some (true, s0, _, .ofNat va, _), some z0 =>
    match flof fl va with
    | some bs =>
      if wokC st m ∧ s0 < 2 ^ 64 ∧ s0 % 281474976710656 = m.ck ∧ os.length ≤ 64 ∧ bs.length ≤ 65536 ∧ m.ar % 4294967296 ≤ 4096 ∧ m.ar / 4294967296 + m.ar % 4294967296 ≤ bs.length ∧ (rdR m (bsub bs (m.ar / 4294967296) (m.ar % 4294967296))).ok ∧ nP (encM (rdR m (bsub bs (m.ar / 4294967296) (m.ar % 4294967296)))) st.c.pc ≤ 256 then
        some ({ st with c := { st.c with sent := st.c.sent + 1 }, ps := ps2, es := st.es ++ [⟨m.rp, m.id, 2, rdR m (bsub bs (m.ar / 4294967296) (m.ar % 4294967296))⟩] }, .file os fl nx bb, k, true, splitM (encM (rdR m (bsub bs (m.ar / 4294967296) (m.ar % 4294967296)))) st.c.id z0 (st.c.sent + 1) st.c.pc)
      else none
    | none => none
  | _, _ => none
def nworkM (st : NS) (sr : Srv) (ts : List Nat) (k : Nat) : Option (NS × Srv × Nat × Bool × List PN) :=
  match st.us with
  | m :: us2 =>
    match st.ca[m.id - 1]? with
    | some y => if m.to = st.c.rep ∧ 1 ≤ m.id ∧ y.st = 1 ∧ m.rp = y.rq.to ∧ st.ca.length ≤ 64 ∧ m.da.length ≤ 4096 then some ({ st with us := us2, ca := st.ca.set (m.id - 1) { y with st := 2, rp := m } }, sr, k, true, []) else none
    | none => none
  | [] =>
    match st.ps with
    | [] => some (st, sr, k, false, [])
    | m :: ps2 =>
      if m.to = st.c.rep then none else
      match sr with
      | .file os fl nx bb => if m.op = 100 then workMake st os fl nx bb ts k m ps2 else if m.op = 101 then workRead st os fl nx bb k m ps2 else none
      | _ => none
def WRet (w0 : World) (F : List Chunk) (b bo : Nat) (st' : NS) (sr' : Srv) (en : List (Nat × Nat × Nat)) (ts : List Nat) (k' : Nat) (D : Chunk) (ok : Bool) (out : List PN) (v : Value) (w' : World) : Prop := ∃ L' ps A c C O' D', NUP w0 b bo st' sr' L' D' ∧ ORR bo en ts k' O' ∧ Own 94 6 (.slice A ps.length c) ps.length (rows encPacket ps) C ∧ PKS w0 D' ps out ∧ DX w0 D D' ∧ v = .tuple #[.slice A ps.length c, .bool ok] ∧ St w0 w' (L' :: C :: O' :: D' :: F)
theorem St.mid2 {w0 w : World} {L : List Chunk} {A B C : Chunk} (h : St w0 w (A :: B :: C :: L)) : St w0 w (A :: C :: B :: L) := h.pickd [0, 2, 1] [] 3 (by simp only [List.length_cons]; omega) (by decide) rfl
theorem nworkB {b bo : Nat} {st st' : NS} {sr sr' : Srv} {L O D : Chunk} {w0 w : World} {F : List Chunk} {en : List (Nat × Nat × Nat)} {ts : List Nat} {k k' : Nat} {ok : Bool} {out : List PN} (hS : St w0 w (L :: O :: D :: F)) (hN : NUP w0 b bo st sr L D) (hO : ORR bo en ts k O) (h : nworkM st sr ts k = some (st', sr', k', ok, out)) :
    Ret Tryz.prog 42 #[vP b 0] w (WRet w0 F b bo st' sr' en ts k' D ok out) := by
  rw [nworkM] at h
  cases hu : st.us with
  | cons m us2 =>
    rw [hu] at h
    dsimp only at h
    cases hy : st.ca[m.id - 1]? with
    | none => rw [hy] at h; cases h
    | some y =>
      rw [hy] at h
      dsimp only at h
      by_cases hc : m.to = st.c.rep ∧ 1 ≤ m.id ∧ y.st = 1 ∧ m.rp = y.rq.to ∧ st.ca.length ≤ 64 ∧ m.da.length ≤ 4096
      · rw [if_pos hc] at h
        injection h with h; injection h with e1 h; injection h with e2 h; injection h with e3 h; injection h with e4 e5
        subst e1; subst e2; subst e3; subst e4; subst e5
        obtain ⟨h1, h2, h3, h4, h5, h6⟩ := hc
        refine Calls.mono (nwork_reply42 (St.mid2 hS) hN m us2 hu h1 hy (by omega) h3 h4 h5 h6) ?_
        rintro e w' ⟨v, he, L', D', g1, g2, g3, g4⟩
        exact ⟨v, he, L', [], none, 0, [], O, D', g1, hO, Own.nil _ _, PKS.nil, g2, g3, (St.mid2 g4).cast (by simp)⟩
      · rw [if_neg hc] at h; cases h
  | nil =>
    rw [hu] at h
    dsimp only at h
    cases hp : st.ps with
    | nil =>
      rw [hp] at h
      injection h with h; injection h with e1 h; injection h with e2 h; injection h with e3 h; injection h with e4 e5
      subst e1; subst e2; subst e3; subst e4; subst e5
      refine Calls.mono (nwork_none42 (St.mid2 hS) hN hu hp) ?_
      rintro e w' ⟨v, he, L', g1, g3, g4⟩
      exact ⟨v, he, L', [], none, 0, [], O, D, g1, hO, Own.nil _ _, PKS.nil, DX.refl, g3, (St.mid2 g4).cast (by simp)⟩
    | cons m ps2 =>
      rw [hp] at h
      dsimp only at h
      by_cases h1 : m.to = st.c.rep
      · rw [if_pos h1] at h; cases h
      · rw [if_neg h1] at h
        cases sr with
        | none => cases h
        | other => cases h
        | file os fl nx bb =>
          dsimp only at h
          by_cases h2 : m.op = 100
          · rw [if_pos h2, workMake] at h
            cases ho : os[m.ob]? with
            | none => rw [ho] at h; cases h
            | some x =>
              obtain ⟨x1, s0, e0, va, li⟩ := x
              rw [ho] at h
              cases hs : sdof st.sd m.rp with
              | none => rw [hs] at h; cases x1 <;> cases h
              | some z0 =>
                rw [hs] at h
                cases hk : ts[k]? with
                | none => rw [hk] at h; cases x1 <;> cases h
                | some x0 =>
                  rw [hk] at h
                  cases x1 with
                  | false => cases h
                  | true =>
                    dsimp only at h
                    split at h
                    · rename_i hc
                      injection h with h; injection h with e1 h; injection h with e2 h; injection h with e3 h; injection h with e4 e5
                      subst e1; subst e2; subst e3; subst e4; subst e5
                      obtain ⟨⟨w1, w2, w3, w4, w5, w6, w7, w8⟩, c1, c2, c3, c4, c5, c6, c7, c8, c9, c10⟩ := hc
                      subst c1
                      obtain ⟨js, hjs, hjn⟩ := sdof_some hs
                      refine Calls.mono (nwork_make42 hS hN hO m w1 ps2 hu hp h1 h2 w2 w3 w4 w5 ho c2 c3 hjs hjn w6 w7 w8 c4 c5 c6 c7 c8 hk c9 c10) ?_
                      rintro e w' ⟨v, he, L', ps, A, c, C, O', D', g1, g2, g3, g4, g5, g6, g7⟩
                      exact ⟨v, he, L', ps, A, c, C, O', D', g1, g5, g2, g3, g4, g6, g7⟩
                    · cases h
          · rw [if_neg h2] at h
            by_cases h3 : m.op = 101
            · rw [if_pos h3, workRead] at h
              cases ho : os[m.ob]? with
              | none => rw [ho] at h; cases h
              | some x =>
                obtain ⟨x1, s0, e0, va, li⟩ := x
                rw [ho] at h
                cases hs : sdof st.sd m.rp with
                | none => rw [hs] at h; cases x1 <;> cases va <;> cases h
                | some z0 =>
                  rw [hs] at h
                  cases x1 with
                  | false => cases va <;> cases h
                  | true =>
                    cases va with
                    | negSucc n => cases h
                    | ofNat va =>
                      dsimp only at h
                      cases hf : flof fl va with
                      | none => rw [hf] at h; cases h
                      | some bs =>
                        rw [hf] at h
                        dsimp only at h
                        split at h
                        · rename_i hc
                          injection h with h; injection h with e1 h; injection h with e2 h; injection h with e3 h; injection h with e4 e5
                          subst e1; subst e2; subst e3; subst e4; subst e5
                          obtain ⟨⟨w1, w2, w3, w4, w5, w6, w7, w8⟩, c2, c3, c5, c6, c7, c8, c9, c10⟩ := hc
                          obtain ⟨js, hjs, hjn⟩ := sdof_some hs
                          obtain ⟨j, hj, hjb⟩ := flof_some hf
                          refine Calls.mono (nwork_read42 (St.mid2 hS) hN m w1 ps2 hu hp h1 h3 w2 w3 w4 w5 ho c2 c3 hjs hjn w6 w7 w8 c5 (by omega) hj hjb c6 c7 c8 c9 c10) ?_
                          rintro e w' ⟨v, he, L', ps, A, c, C, D', g1, g2, g3, g4, g6, g7⟩
                          exact ⟨v, he, L', ps, A, c, C, O, D', g1, hO, g2, g3, g4, g6, g7.pickd [0, 1, 3, 2] [] 4 (by simp only [List.length_cons]; omega) (by decide) rfl⟩
                        · cases h
            · rw [if_neg h3] at h; cases h
end Go.Proofs.YthiakdmhpfkjbaaGreatDoor

set_option linter.unusedVariables false
set_option linter.unusedSimpArgs false
set_option maxRecDepth 4000
namespace Go.Proofs.YthiakdmhpfkjbaaGreatDoor
open Go Go.SK
def sendC (wi out : List PN) : Prop := wi.length + out.length ≤ 1024 ∧ ∀ p ∈ out, p.da.length ≤ 1000000
instance (wi out : List PN) : Decidable (sendC wi out) := by unfold sendC; infer_instance
theorem set_same9 {α : Type} {l : List α} {i : Nat} {x : α} (h : l[i]? = some x) : l.set i x = l := by
  obtain ⟨h1, h2⟩ := List.getElem?_eq_some_iff.1 h
  rw [← h2]; exact List.set_getElem_self h1
set_option maxHeartbeats 4000000 in
theorem sroot11 {w0 w : World} {F : List Chunk} {b : Nat} {ts : List Nat} {s : SY} {L D : Chunk} {i : Nat} {st : NS} {sr : Srv} (hS : St w0 w (L :: D :: F)) (hY : SYS w0 b ts s L D) (hx : s.nx[i]? = some (.up st sr)) :
 Ret Tryz.prog 11 #[vP b 0, vI i] w (fun v w' => ∃ L', SYS w0 b ts s L' D ∧ v = .tuple #[.agg #[vU st.c.r0, vW st.c.r1, vB st.c.r2, vU st.c.r3], .bool (((st.c.port : Nat) : Int) != 0)] ∧ St w0 w' (L' :: D :: F)) := by
 obtain ⟨bw, bo, bs, A, c, C, NL, WL, OL, hs, rfl⟩ := hY
 replace hS : St w0 w ([(b, rowO [.slice A bs.length c, vP bw 0] 77)] :: C :: NL :: WL :: OL :: D :: F) := hS.cast (by simp)
 have hlen := hs.fn.len; obtain ⟨bi, hbi⟩ := get_ex (l := bs) (k := i) (by have h := (List.getElem?_eq_some_iff.1 hx).1; omega)
 obtain ⟨La, Li, Lb, hNLe, hNi, hback⟩ := hs.fn.at_ hbi hx; subst hNLe
 replace hS : St w0 w ([(b, rowO [.slice A bs.length c, vP bw 0] 77)] :: C :: La :: Li :: Lb :: WL :: OL :: D :: F) := hS.cast (by simp)
 refine enter (vs := [vP b 0, vI i]) 17 Tryz.func11 rfl rfl (by simp) ?_; intro a hA
 refine zs (zr ?_)
 refine st_alloc tbOk hA hS [.int .u64 0, .int .u32 0, .int .u8 0, .int .u64 0] rfl rfl rfl rfl rfl (by decide) fun b1 w2 a hS hA => ?_
 refine zR 1 ((5, .bool false) :: _) hA rfl fun a hA => zn (zx (zs (zr (zR 2 ((8, vI i) :: (7, vP b 0) :: _) hA rfl fun a hA => ?_))))
 replace hS := hS.m2.m2
 refine st_call0 hA rfl rfl rfl isfn31 rfl rfl (by decide) (sat31 (i := i) hS hs.fr hbi) ?_
 clear hA hS; rintro _ w3 a ⟨rfl, hS⟩ hA
 refine zR 1 ((6, vP bi 0) :: _) hA rfl fun a hA => zn (zx (zs (zs (zr (zR 2 ((11, .bool false) :: (10, vP bi 0) :: _) hA rfl fun a hA => zn (zx (cd_cond_f hA rfl (zk (zx (zs (zr (zR 1 ((13, vP bi 0) :: _) hA rfl fun a hA => ?_))))))))))))
 replace hS := hS.m4
 obtain ⟨sv, bd, bg, bc, bp, bx, mp, ob, el, cl, ul, pl2, LS, LG, LC, LP, LB, LV, hn, hLi⟩ := hNi
 have hS2 : St w0 w3 ([(bi, rowO [vI st.c.id, vI st.c.ki, vI st.c.no, vI st.c.pc, vI st.c.wa, vI st.c.tr, vI st.c.ag, vI st.c.pg, vI st.c.ro, vP bo 0, .bool true, vI st.c.now, vU st.c.sent, vU st.c.rep, vU st.c.port, vU st.c.r0, vW st.c.r1, vB st.c.r2, vU st.c.r3, sv, vP bd 0, vP bg 0, vP bc 0, vP bp 0, vP bx 0, .map (some mp)] 121)] :: (LS ++ (LG ++ (LC ++ (LP ++ (LB ++ ((mp, ob) :: LV)))))) :: [(b, rowO [.slice A bs.length c, vP bw 0] 77)] :: C :: [(b1, rowO [.int .u64 0, .int .u32 0, .int .u8 0, .int .u64 0] 39)] :: La :: Lb :: WL :: OL :: D :: F) := by rw [hLi] at hS; exact hS.cast (by simp)
 clear hS; have hS := hS2; clear hS2
 refine st_call0 hA rfl rfl rfl isfn32 rfl rfl (by decide) (nroot_up32 hS) ?_
 clear hA hS; rintro _ w4 a ⟨rfl, hS⟩ hA
 replace hS : St w0 w4 (Li :: [(b, rowO [.slice A bs.length c, vP bw 0] 77)] :: C :: [(b1, rowO [.int .u64 0, .int .u32 0, .int .u8 0, .int .u64 0] 39)] :: La :: Lb :: WL :: OL :: D :: F) := by rw [hLi]; exact hS.cast (by simp)
 have hNi : NUP w0 bi bo st sr Li D := ⟨sv, bd, bg, bc, bp, bx, mp, ob, el, cl, ul, pl2, LS, LG, LC, LP, LB, LV, hn, hLi⟩
 refine zR 2 ((16, .bool (((st.c.port : Nat) : Int) != 0)) :: (15, .agg #[vU st.c.r0, vW st.c.r1, vB st.c.r2, vU st.c.r3]) :: _) hA rfl fun a hA => ?_
 replace hS := hS.m3
 refine st_store tbOk hA hS [vU st.c.r0, vW st.c.r1, vB st.c.r2, vU st.c.r3] [vU st.c.r0, vW st.c.r1, vB st.c.r2, vU st.c.r3] rfl rfl rfl rfl rfl rfl (zn1 rfl) (zle rfl) rfl rfl rfl fun w5 hS => ?_
 refine zR 1 ((5, .bool (((st.c.port : Nat) : Int) != 0)) :: _) hA rfl fun a hA => zn (zx ?_)
 refine wp_ret ?_
 refine retc2 tbOk (fn := Tryz.f11) (cs := [vU st.c.r0, vW st.c.r1, vB st.c.r2, vU st.c.r3]) hA rfl rfl rfl rfl rfl rfl (cells_row (hS.heapAt 0 rfl) rfl) ?_
 replace hS := hS.d0.m3.m3.m3
 replace hS : St w0 w5 (((b, rowO [.slice A bs.length c, vP bw 0] 77) :: (C ++ ((La ++ (Li ++ Lb)) ++ (WL ++ OL)))) :: D :: F) := hS.cast (by simp)
 have hns : s.nx.set i (.up st sr) = s.nx := set_same9 hx
 have hY2 : SYS w0 b ts { s with nx := s.nx.set i (.up st sr) } _ D := ⟨bw, bo, bs, A, c, C, _, _, _, ⟨hback _ _ _ DX.refl (NOD.dx (x := .up _ _) hNi DX.refl), hs.fw, hs.fo, hs.fr⟩, rfl⟩
 rw [hns] at hY2; exact ⟨_, hY2, rfl, hS⟩
theorem sflying14 {w0 w : World} {F : List Chunk} {b : Nat} {ts : List Nat} {s : SY} {L D : Chunk} (hS : St w0 w (L :: D :: F)) (hY : SYS w0 b ts s L D) :
 Ret Tryz.prog 14 #[vP b 0] w (fun v w' => ∃ L', SYS w0 b ts s L' D ∧ v = vI s.wi.length ∧ St w0 w' (L' :: D :: F)) := by
 obtain ⟨bw, bo, bs, A, c, C, NL, WL, OL, hs, rfl⟩ := hY
 replace hS : St w0 w ([(b, rowO [.slice A bs.length c, vP bw 0] 77)] :: C :: NL :: WL :: OL :: D :: F) := hS.cast (by simp)
 refine enter (vs := [vP b 0]) 8 Tryz.func14 rfl rfl (by simp) ?_; intro a hA
 refine zs (zr (zR 1 ((2, .int .i64 0) :: _) hA rfl fun a hA => zn (zx (zs (zr (zR 3 ((5, vP b 1) :: (4, vP b 0) :: (3, vP b 0) :: _) hA rfl fun a hA => zL hA hS 0 rfl rfl rfl rfl rfl rfl rfl rfl rfl fun a hA => ?_))))))
 replace hS := hS.m5.m4
 obtain ⟨wp, hwr, hWK⟩ := hs.fw; have hwl := hWK.len
 refine st_call0 hA rfl rfl rfl isfn36 rfl rfl (by decide) (wlen36 hS hwr) ?_
 clear hA hS; rintro _ w1 a ⟨WL2, hwr2, rfl, hS⟩ hA
 replace hA := hA.rw 7 (v' := vI s.wi.length) rfl (by rw [hwl])
 refine zR 1 ((2, vI s.wi.length) :: _) hA rfl fun a hA => zn (zx ?_)
 refine wp_ret ?_
 refine ret1 (fn := Tryz.f14) hA rfl rfl ?_
 replace hS := hS.m5.m1.m5.m5.m5
 replace hS : St w0 w1 (((b, rowO [.slice A bs.length c, vP bw 0] 77) :: (C ++ (NL ++ (WL2 ++ OL)))) :: D :: F) := hS.cast (by simp)
 exact ⟨_, ⟨bw, bo, bs, A, c, C, _, _, _, ⟨NDS.dx DX.refl hs.fn, (show WRA w0 bw s.wi WL2 D from ⟨wp, hwr2, hWK⟩), hs.fo, hs.fr⟩, rfl⟩, rfl, hS⟩
set_option maxHeartbeats 4000000 in
theorem scall12 {w0 w : World} {F : List Chunk} {b : Nat} {ts : List Nat} {s : SY} {L D : Chunk} {i : Nat} {st st' : NS} {sr : Srv} {out : List PN} (hS : St w0 w (L :: D :: F)) (hY : SYS w0 b ts s L D) (hx : s.nx[i]? = some (.up st sr)) (m : MN) {d : Value} (hd : RdSX w0 (D :: F) 1 d m.da.length (rows encB m.da)) (hc : ncallM st m = some (st', out)) (hsc : sendC s.wi out) :
 Ret Tryz.prog 12 #[vP b 0, vI i, .agg #[vU m.to, vU m.rp, vW m.id, vH m.op, vH m.st, vU m.po, vW m.ob, vB m.ri, vU m.ck, vU m.ar, d]] w (fun v w' => ∃ L' D', SYS w0 b ts { s with nx := s.nx.set i (.up st' sr), wi := s.wi ++ out } L' D' ∧ DX w0 D D' ∧ v = .tuple #[vW (st.ca.length + 1), .nilIface] ∧ St w0 w' (L' :: D' :: F)) := by
 obtain ⟨B, d', rfl, hmd, hdx⟩ := (hd _ (hS.tail 1 rfl)).open'
 obtain ⟨bw, bo, bs, A, c, C, NL, WL, OL, hs, rfl⟩ := hY
 replace hS : St w0 w ([(b, rowO [.slice A bs.length c, vP bw 0] 77)] :: C :: NL :: WL :: OL :: D :: F) := hS.cast (by simp)
 have hlen := hs.fn.len; obtain ⟨bi, hbi⟩ := get_ex (l := bs) (k := i) (by have h := (List.getElem?_eq_some_iff.1 hx).1; omega)
 obtain ⟨La, Li, Lb, hNLe, hNi, hback⟩ := hs.fn.at_ hbi hx; subst hNLe
 replace hS : St w0 w ([(b, rowO [.slice A bs.length c, vP bw 0] 77)] :: C :: La :: Li :: Lb :: WL :: OL :: D :: F) := hS.cast (by simp)
 refine enter (vs := [vP b 0, vI i, .agg #[vU m.to, vU m.rp, vW m.id, vH m.op, vH m.st, vU m.po, vW m.ob, vB m.ri, vU m.ck, vU m.ar, .slice B m.da.length d']]) 32 Tryz.func12 rfl rfl (by simp) ?_; intro a hA
 refine zs (zr ?_)
 refine st_box hA hS [vU m.to, vU m.rp, vW m.id, vH m.op, vH m.st, vU m.po, vW m.ob, vB m.ri, vU m.ck, vU m.ar, .slice B m.da.length d'] rfl rfl rfl rfl rfl (by decide) fun b1 w2 a hS hA => ?_
 refine zR 2 ((7, .nilIface) :: (6, .int .u32 0) :: _) hA rfl fun a hA => zn (zx (zs (zr (zR 2 ((13, vI i) :: (12, vP b 0) :: _) hA rfl fun a hA => ?_))))
 replace hS := hS.m2.m2
 refine st_call0 hA rfl rfl rfl isfn31 rfl rfl (by decide) (sat31 (i := i) hS hs.fr hbi) ?_
 clear hA hS; rintro _ w3 a ⟨rfl, hS⟩ hA
 refine zR 1 ((8, vP bi 0) :: _) hA rfl fun a hA => zn (zx (zs (zs (zr (zR 2 ((16, .bool false) :: (15, vP bi 0) :: _) hA rfl fun a hA => zn (zx (cd_cond_f hA rfl (zk (zx (zs (zr (zR 1 ((19, vP bi 0) :: _) hA rfl fun a hA => zLA hA hS 2 [vU m.to, vU m.rp, vW m.id, vH m.op, vH m.st, vU m.po, vW m.ob, vB m.ri, vU m.ck, vU m.ar, .slice B m.da.length d'] rfl rfl rfl rfl rfl rfl rfl rfl rfl rfl fun a hA => ?_))))))))))))
 replace hS := hS.m8.m5
 refine st_call0 hA rfl rfl rfl isfn33 rfl rfl (by decide) (ncallB hS hNi m (fun w' h => hd _ (St.dmid (R := [[(b, rowO [.slice A bs.length c, vP bw 0] 77)], C, [(b1, rowO [vU m.to, vU m.rp, vW m.id, vH m.op, vH m.st, vU m.po, vW m.ob, vB m.ri, vU m.ck, vU m.ar, .slice B m.da.length d'] 46)], La, Lb, WL, OL]) h)) hc) ?_
 clear hA hS; rintro _ w4 a ⟨Li2, psq, Aq, cq, Cq, D2, hN2, hOq, hKq, hX2, rfl, hS⟩ hA
 refine zR 7 ((11, .nilIface) :: (10, .slice Aq psq.length cq) :: (9, vW (st.ca.length + 1)) :: (24, .nilIface) :: (23, .slice Aq psq.length cq) :: (22, vW (st.ca.length + 1)) :: (18, .tuple #[vW (st.ca.length + 1), .slice Aq psq.length cq, .nilIface]) :: _) hA rfl fun a hA => zn (zx (zs (zs (zr (zR 2 ((26, .bool false) :: (25, .nilIface) :: _) hA rfl fun a hA => zn (zx (cd_cond_f hA rfl (zk (zx (zs (zr (zR 2 ((29, .slice Aq psq.length cq) :: (28, vP b 0) :: _) hA rfl fun a hA => ?_))))))))))))
 replace hS := hS.m2.m2.m8.m4
 refine st_call0 hA rfl rfl rfl isfn34 rfl rfl (by decide) (ssend34 hS (hs.fw.dx hX2) hOq hKq hsc.1 hsc.2) ?_
 clear hA hS; rintro _ w5 a ⟨WL8, Ds7, hW9, hXs6, rfl, hS⟩ hA
 refine zn (zx (zs (zr (zR 3 ((7, .nilIface) :: (6, vW (st.ca.length + 1)) :: (31, vW (st.ca.length + 1)) :: _) hA rfl fun a hA => zn (zx ?_)))))
 refine wp_ret ?_
 refine ret2 (fn := Tryz.f12) hA rfl rfl rfl ?_
 replace hS := hS.d5.m7.m2.m7.m5.m7.m7.m6
 replace hS : St w0 w5 (((b, rowO [.slice A bs.length c, vP bw 0] 77) :: (C ++ ((La ++ (Li2 ++ Lb)) ++ (WL8 ++ OL)))) :: Ds7 :: F) := hS.cast (by simp)
 exact ⟨_, _, ⟨bw, bo, bs, A, c, C, _, _, _, ⟨hback _ _ _ (hX2.trans hXs6) (NOD.dx (x := .up _ _) hN2 hXs6), hW9, hs.fo, hs.fr⟩, rfl⟩, (hX2.trans hXs6), rfl, hS⟩
set_option maxHeartbeats 4000000 in
theorem sget_ok16 {w0 w : World} {F : List Chunk} {b : Nat} {ts : List Nat} {s : SY} {L D : Chunk} {i k : Nat} {st : NS} {sr : Srv} {y : CA} (hS : St w0 w (L :: D :: F)) (hY : SYS w0 b ts s L D) (hx : s.nx[i]? = some (.up st sr)) (hy : st.ca[k]? = some y) (hcal : st.ca.length ≤ 64) (hca : cal st.ca) (hst : ¬ y.st = 3) :
 Ret Tryz.prog 16 #[vP b 0, vI i, vW (k + 1)] w (fun v w' => ∃ L' E A c, SYS w0 b ts s L' (E ++ D) ∧ DD w0 E A c y.rp.da ∧ v = .tuple #[vI y.st, .agg #[vU y.rp.to, vU y.rp.rp, vW y.rp.id, vH y.rp.op, vH y.rp.st, vU y.rp.po, vW y.rp.ob, vB y.rp.ri, vU y.rp.ck, vU y.rp.ar, .slice A y.rp.da.length c], .nilIface] ∧ St w0 w' (L' :: (E ++ D) :: F)) := by
 obtain ⟨bw, bo, bs, A, c, C, NL, WL, OL, hs, rfl⟩ := hY
 replace hS : St w0 w ([(b, rowO [.slice A bs.length c, vP bw 0] 77)] :: C :: NL :: WL :: OL :: D :: F) := hS.cast (by simp)
 have hlen := hs.fn.len; obtain ⟨bi, hbi⟩ := get_ex (l := bs) (k := i) (by have h := (List.getElem?_eq_some_iff.1 hx).1; omega)
 obtain ⟨La, Li, Lb, hNLe, hNi, hback⟩ := hs.fn.at_ hbi hx; subst hNLe
 replace hS : St w0 w ([(b, rowO [.slice A bs.length c, vP bw 0] 77)] :: C :: La :: Li :: Lb :: WL :: OL :: D :: F) := hS.cast (by simp)
 refine enter (vs := [vP b 0, vI i, vW (k + 1)]) 23 Tryz.func16 rfl rfl (by simp) ?_; intro a hA
 refine zs (zr (zR 1 ((6, .int .i64 0) :: _) hA rfl fun a hA => ?_))
 refine st_alloc tbOk hA hS [.int .u64 0, .int .u64 0, .int .u32 0, .int .u16 0, .int .u16 0, .int .u64 0, .int .u32 0, .int .u8 0, .int .u64 0, .int .u64 0, .slice none 0 0] rfl rfl rfl rfl rfl (by decide) fun b1 w2 a hS hA => ?_
 refine zR 1 ((8, .nilIface) :: _) hA rfl fun a hA => zn (zx (zs (zr (zR 2 ((11, vI i) :: (10, vP b 0) :: _) hA rfl fun a hA => ?_))))
 replace hS := hS.m2.m2
 refine st_call0 hA rfl rfl rfl isfn31 rfl rfl (by decide) (sat31 (i := i) hS hs.fr hbi) ?_
 clear hA hS; rintro _ w3 a ⟨rfl, hS⟩ hA
 refine zR 1 ((9, vP bi 0) :: _) hA rfl fun a hA => zn (zx (zs (zs (zr (zR 2 ((14, .bool false) :: (13, vP bi 0) :: _) hA rfl fun a hA => zn (zx (cd_cond_f hA rfl (zk (zx (zs (zr (zR 2 ((18, vW (k + 1)) :: (17, vP bi 0) :: _) hA rfl fun a hA => ?_))))))))))))
 replace hS := hS.m8.m5
 refine st_call0 hA rfl rfl rfl isfn44 rfl rfl (by decide) (nget_ok44 hS hNi hy hcal hca hst) ?_
 clear hA hS; rintro _ w4 a ⟨Li2, E2, A2, c2, hN2, hE2, rfl, hS⟩ hA
 have hX2 : DX w0 D (E2 ++ D) := DX.refl.step
 refine zR 4 ((6, vI y.st) :: (22, .nilIface) :: (21, .agg #[vU y.rp.to, vU y.rp.rp, vW y.rp.id, vH y.rp.op, vH y.rp.st, vU y.rp.po, vW y.rp.ob, vB y.rp.ri, vU y.rp.ck, vU y.rp.ar, .slice A2 y.rp.da.length c2]) :: (20, vI y.st) :: _) hA rfl fun a hA => ?_
 replace hS := hS.m4
 refine st_store tbOk hA hS [vU y.rp.to, vU y.rp.rp, vW y.rp.id, vH y.rp.op, vH y.rp.st, vU y.rp.po, vW y.rp.ob, vB y.rp.ri, vU y.rp.ck, vU y.rp.ar, .slice A2 y.rp.da.length c2] [vU y.rp.to, vU y.rp.rp, vW y.rp.id, vH y.rp.op, vH y.rp.st, vU y.rp.po, vW y.rp.ob, vB y.rp.ri, vU y.rp.ck, vU y.rp.ar, .slice A2 y.rp.da.length c2] rfl rfl rfl rfl rfl rfl (zn1 rfl) (zle rfl) rfl rfl rfl fun w5 hS => ?_
 refine zR 1 ((8, .nilIface) :: _) hA rfl fun a hA => zn (zx ?_)
 refine wp_ret ?_
 refine rettct tbOk (fn := Tryz.f16) (cs := [vU y.rp.to, vU y.rp.rp, vW y.rp.id, vH y.rp.op, vH y.rp.st, vU y.rp.po, vW y.rp.ob, vB y.rp.ri, vU y.rp.ck, vU y.rp.ar, .slice A2 y.rp.da.length c2]) hA rfl rfl rfl rfl rfl rfl rfl (cells_row (hS.heapAt 0 rfl) rfl) ?_
 replace hS := hS.d0.m7.m7.m7.m3.m7.m7.m7
 replace hS : St w0 w5 (((b, rowO [.slice A bs.length c, vP bw 0] 77) :: (C ++ ((La ++ (Li2 ++ Lb)) ++ (WL ++ OL)))) :: (E2 ++ D) :: F) := hS.cast (by simp)
 have hns : s.nx.set i (.up st sr) = s.nx := set_same9 hx
 have hY2 : SYS w0 b ts { s with nx := s.nx.set i (.up st sr) } _ (E2 ++ D) := ⟨bw, bo, bs, A, c, C, _, _, _, ⟨hback _ _ _ hX2 (NOD.dx (x := .up _ _) hN2 DX.refl), hs.fw.dx hX2, hs.fo, hs.fr⟩, rfl⟩
 rw [hns] at hY2; exact ⟨_, E2, A2, c2, hY2, hE2, rfl, hS⟩
set_option maxHeartbeats 4000000 in
theorem sget_failed16 {w0 w : World} {F : List Chunk} {b : Nat} {ts : List Nat} {s : SY} {L D : Chunk} {i k : Nat} {st : NS} {sr : Srv} {y : CA} (hS : St w0 w (L :: D :: F)) (hY : SYS w0 b ts s L D) (hx : s.nx[i]? = some (.up st sr)) (hy : st.ca[k]? = some y) (hcal : st.ca.length ≤ 64) (hca : cal st.ca) (hst : y.st = 3) :
 Ret Tryz.prog 16 #[vP b 0, vI i, vW (k + 1)] w (fun v w' => ∃ L', SYS w0 b ts s L' D ∧ v = .tuple #[.int .i64 3, .agg #[.int .u64 0, .int .u64 0, .int .u32 0, .int .u16 0, .int .u16 0, .int .u64 0, .int .u32 0, .int .u8 0, .int .u64 0, .int .u64 0, .slice none 0 0], .iface 55 (.int .i64 10)] ∧ St w0 w' (L' :: D :: F)) := by
 obtain ⟨bw, bo, bs, A, c, C, NL, WL, OL, hs, rfl⟩ := hY
 replace hS : St w0 w ([(b, rowO [.slice A bs.length c, vP bw 0] 77)] :: C :: NL :: WL :: OL :: D :: F) := hS.cast (by simp)
 have hlen := hs.fn.len; obtain ⟨bi, hbi⟩ := get_ex (l := bs) (k := i) (by have h := (List.getElem?_eq_some_iff.1 hx).1; omega)
 obtain ⟨La, Li, Lb, hNLe, hNi, hback⟩ := hs.fn.at_ hbi hx; subst hNLe
 replace hS : St w0 w ([(b, rowO [.slice A bs.length c, vP bw 0] 77)] :: C :: La :: Li :: Lb :: WL :: OL :: D :: F) := hS.cast (by simp)
 refine enter (vs := [vP b 0, vI i, vW (k + 1)]) 23 Tryz.func16 rfl rfl (by simp) ?_; intro a hA
 refine zs (zr (zR 1 ((6, .int .i64 0) :: _) hA rfl fun a hA => ?_))
 refine st_alloc tbOk hA hS [.int .u64 0, .int .u64 0, .int .u32 0, .int .u16 0, .int .u16 0, .int .u64 0, .int .u32 0, .int .u8 0, .int .u64 0, .int .u64 0, .slice none 0 0] rfl rfl rfl rfl rfl (by decide) fun b1 w2 a hS hA => ?_
 refine zR 1 ((8, .nilIface) :: _) hA rfl fun a hA => zn (zx (zs (zr (zR 2 ((11, vI i) :: (10, vP b 0) :: _) hA rfl fun a hA => ?_))))
 replace hS := hS.m2.m2
 refine st_call0 hA rfl rfl rfl isfn31 rfl rfl (by decide) (sat31 (i := i) hS hs.fr hbi) ?_
 clear hA hS; rintro _ w3 a ⟨rfl, hS⟩ hA
 refine zR 1 ((9, vP bi 0) :: _) hA rfl fun a hA => zn (zx (zs (zs (zr (zR 2 ((14, .bool false) :: (13, vP bi 0) :: _) hA rfl fun a hA => zn (zx (cd_cond_f hA rfl (zk (zx (zs (zr (zR 2 ((18, vW (k + 1)) :: (17, vP bi 0) :: _) hA rfl fun a hA => ?_))))))))))))
 replace hS := hS.m8.m5
 refine st_call0 hA rfl rfl rfl isfn44 rfl rfl (by decide) (nget_failed44 hS hNi hy hcal hca hst) ?_
 clear hA hS; rintro _ w4 a ⟨Li2, hN2, rfl, hS⟩ hA
 refine zR 4 ((6, .int .i64 3) :: (22, .iface 55 (.int .i64 10)) :: (21, .agg #[.int .u64 0, .int .u64 0, .int .u32 0, .int .u16 0, .int .u16 0, .int .u64 0, .int .u32 0, .int .u8 0, .int .u64 0, .int .u64 0, .slice none 0 0]) :: (20, .int .i64 3) :: _) hA rfl fun a hA => ?_
 replace hS := hS.m4
 refine st_store tbOk hA hS [.int .u64 0, .int .u64 0, .int .u32 0, .int .u16 0, .int .u16 0, .int .u64 0, .int .u32 0, .int .u8 0, .int .u64 0, .int .u64 0, .slice none 0 0] [.int .u64 0, .int .u64 0, .int .u32 0, .int .u16 0, .int .u16 0, .int .u64 0, .int .u32 0, .int .u8 0, .int .u64 0, .int .u64 0, .slice none 0 0] rfl rfl rfl rfl rfl rfl (zn1 rfl) (zle rfl) rfl rfl rfl fun w5 hS => ?_
 refine zR 1 ((8, .iface 55 (.int .i64 10)) :: _) hA rfl fun a hA => zn (zx ?_)
 refine wp_ret ?_
 refine rettct tbOk (fn := Tryz.f16) (cs := [.int .u64 0, .int .u64 0, .int .u32 0, .int .u16 0, .int .u16 0, .int .u64 0, .int .u32 0, .int .u8 0, .int .u64 0, .int .u64 0, .slice none 0 0]) hA rfl rfl rfl rfl rfl rfl rfl (cells_row (hS.heapAt 0 rfl) rfl) ?_
 replace hS := hS.d0.m7.m7.m7.m3.m7.m7.m7
 replace hS : St w0 w5 (((b, rowO [.slice A bs.length c, vP bw 0] 77) :: (C ++ ((La ++ (Li2 ++ Lb)) ++ (WL ++ OL)))) :: D :: F) := hS.cast (by simp)
 have hns : s.nx.set i (.up st sr) = s.nx := set_same9 hx
 have hY2 : SYS w0 b ts { s with nx := s.nx.set i (.up st sr) } _ D := ⟨bw, bo, bs, A, c, C, _, _, _, ⟨hback _ _ _ DX.refl (NOD.dx (x := .up _ _) hN2 DX.refl), hs.fw, hs.fo, hs.fr⟩, rfl⟩
 rw [hns] at hY2; exact ⟨_, hY2, rfl, hS⟩
end Go.Proofs.YthiakdmhpfkjbaaGreatDoor

set_option linter.unusedVariables false
set_option linter.unusedSimpArgs false
set_option maxRecDepth 4000
namespace Go.Proofs.YthiakdmhpfkjbaaGreatDoor
open Go Go.SK
theorem ndtick41 {w0 w : World} {F : List Chunk} {b bo : Nat} {s : NC} (hS : St w0 w ([(b, rowO [vI s.id, vI s.ki, vI s.no, vI s.pc, vI s.wa, vI s.tr, vI s.ag, vI s.pg, vI s.ro, vP bo 0, .bool false, vI s.now, vU s.sent, .int .u64 0, .int .u64 0, .int .u64 0, .int .u32 0, .int .u8 0, .int .u64 0, .pointer none, .pointer none, .pointer none, .pointer none, .pointer none, .pointer none, .map none] 121)] :: F)) (hn : s.now < 1000000) :
 Ret Tryz.prog 41 #[vP b 0] w (fun v w' => v = .slice none 0 0 ∧ St w0 w' ([(b, rowO [vI s.id, vI s.ki, vI s.no, vI s.pc, vI s.wa, vI s.tr, vI s.ag, vI s.pg, vI s.ro, vP bo 0, .bool false, vI (s.now + 1), vU s.sent, .int .u64 0, .int .u64 0, .int .u64 0, .int .u32 0, .int .u8 0, .int .u64 0, .pointer none, .pointer none, .pointer none, .pointer none, .pointer none, .pointer none, .map none] 121)] :: F)) := by
 refine enter (vs := [vP b 0]) 35 Tryz.func41 rfl rfl (by simp) ?_; intro a hA
 refine zs (zr (zR 1 ((2, .slice none 0 0) :: _) hA rfl fun a hA => zn (zx (zs (zr (zR 3 ((8, vP b 11) :: (7, vP b 0) :: (6, vP b 0) :: _) hA rfl fun a hA => zL hA hS 0 rfl rfl rfl rfl rfl rfl rfl rfl rfl fun a hA => zR 1 ((10, .int .i64 (IntKind.i64.wrap (((s.now : Nat) : Int) + 1))) :: _) hA rfl fun a hA => ?_))))))
 replace hA := hA.rw 10 (v' := vI (s.now + 1)) rfl (wr64 (by omega) (by omega) (by omega))
 refine zR 2 ((12, vP b 11) :: (11, vP b 0) :: _) hA rfl fun a hA => ?_
 refine st_store tbOk hA hS [vI (s.now + 1)] [vI s.id, vI s.ki, vI s.no, vI s.pc, vI s.wa, vI s.tr, vI s.ag, vI s.pg, vI s.ro, vP bo 0, .bool false, vI (s.now + 1), vU s.sent, .int .u64 0, .int .u64 0, .int .u64 0, .int .u32 0, .int .u8 0, .int .u64 0, .pointer none, .pointer none, .pointer none, .pointer none, .pointer none, .pointer none, .map none] rfl rfl rfl rfl rfl rfl (by intro u hu; rw [List.mem_singleton.1 hu]; rfl) (zle rfl) rfl rfl rfl fun w1 hS => ?_
 refine zn (zx (zs (zs (zr (zR 3 ((15, vP b 10) :: (14, vP b 0) :: (13, vP b 0) :: _) hA rfl fun a hA => zL hA hS 0 rfl rfl rfl rfl rfl rfl rfl rfl rfl fun a hA => zR 1 ((17, .bool true) :: _) hA rfl fun a hA => zn (zx (cd_cond_t hA rfl (zs (zr (zR 1 ((2, .slice none 0 0) :: _) hA rfl fun a hA => zn (zx ?_)))))))))))
 refine wp_ret (xt_ret ?_)
 refine ret1 (fn := Tryz.f41) hA rfl rfl ?_
 exact ⟨rfl, hS⟩
theorem ndwork42 {w0 w : World} {F : List Chunk} {b bo : Nat} {s : NC} (hS : St w0 w ([(b, rowO [vI s.id, vI s.ki, vI s.no, vI s.pc, vI s.wa, vI s.tr, vI s.ag, vI s.pg, vI s.ro, vP bo 0, .bool false, vI s.now, vU s.sent, .int .u64 0, .int .u64 0, .int .u64 0, .int .u32 0, .int .u8 0, .int .u64 0, .pointer none, .pointer none, .pointer none, .pointer none, .pointer none, .pointer none, .map none] 121)] :: F)) :
 Ret Tryz.prog 42 #[vP b 0] w (fun v w' => v = .tuple #[.slice none 0 0, .bool false] ∧ St w0 w' ([(b, rowO [vI s.id, vI s.ki, vI s.no, vI s.pc, vI s.wa, vI s.tr, vI s.ag, vI s.pg, vI s.ro, vP bo 0, .bool false, vI s.now, vU s.sent, .int .u64 0, .int .u64 0, .int .u64 0, .int .u32 0, .int .u8 0, .int .u64 0, .pointer none, .pointer none, .pointer none, .pointer none, .pointer none, .pointer none, .map none] 121)] :: F)) := by
 refine enter (vs := [vP b 0]) 78 Tryz.func42 rfl rfl (by simp) ?_; intro a hA
 refine zs (zr (zR 2 ((3, .bool false) :: (2, .slice none 0 0) :: _) hA rfl fun a hA => zn (zx (zs (zs (zr (zR 3 ((11, vP b 10) :: (10, vP b 0) :: (9, vP b 0) :: _) hA rfl fun a hA => zL hA hS 0 rfl rfl rfl rfl rfl rfl rfl rfl rfl fun a hA => zR 1 ((13, .bool true) :: _) hA rfl fun a hA => zn (zx (cd_cond_t hA rfl (zs (zr (zR 2 ((3, .bool false) :: (2, .slice none 0 0) :: _) hA rfl fun a hA => zn (zx ?_)))))))))))))
 refine wp_ret (xt_ret ?_)
 refine ret2 (fn := Tryz.f42) hA rfl rfl rfl ?_
 exact ⟨rfl, hS⟩
theorem ndarr38 {w0 w : World} {F : List Chunk} {b bo : Nat} {s : NC} (hS : St w0 w ([(b, rowO [vI s.id, vI s.ki, vI s.no, vI s.pc, vI s.wa, vI s.tr, vI s.ag, vI s.pg, vI s.ro, vP bo 0, .bool false, vI s.now, vU s.sent, .int .u64 0, .int .u64 0, .int .u64 0, .int .u32 0, .int .u8 0, .int .u64 0, .pointer none, .pointer none, .pointer none, .pointer none, .pointer none, .pointer none, .map none] 121)] :: F)) (p : PN) (d : Value) :
 Ret Tryz.prog 38 #[vP b 0, .agg #[vI p.fr, vI p.to, vU p.id, vI p.ix, vI p.cn, d]] w (fun v w' => v = .slice none 0 0 ∧ St w0 w' ([(b, rowO [vI s.id, vI s.ki, vI s.no, vI s.pc, vI s.wa, vI s.tr, vI s.ag, vI s.pg, vI s.ro, vP bo 0, .bool false, vI s.now, vU s.sent, .int .u64 0, .int .u64 0, .int .u64 0, .int .u32 0, .int .u8 0, .int .u64 0, .pointer none, .pointer none, .pointer none, .pointer none, .pointer none, .pointer none, .map none] 121)] :: F)) := by
 refine enter (vs := [vP b 0, .agg #[vI p.fr, vI p.to, vU p.id, vI p.ix, vI p.cn, d]]) 144 Tryz.func38 rfl rfl (by simp) ?_; intro a hA
 refine zs (zr ?_)
 refine st_box hA hS [vI p.fr, vI p.to, vU p.id, vI p.ix, vI p.cn, d] rfl rfl rfl rfl rfl (by decide) fun b1 w2 a hS hA => ?_
 refine zR 1 ((4, .slice none 0 0) :: _) hA rfl fun a hA => zn (zx (zs (zs ?_)))
 refine zD0 hS [] [(0, true), (1, true), (2, true), (3, true), (4, true), (5, true), (6, true), (7, true), (8, true), (9, true), (10, true), (11, true), (12, true), (13, true)] mixed (by kernel_rfl) (by rintro c a w ⟨_, _, h, _⟩; cases h) (by rfl) (by kernel_rfl) ?_
 replace hS := hS.drew
 refine zW 3 ((11, vP b 10) :: (10, vP b 0) :: (9, vP b 0) :: _) hA hS rfl fun a hA => zY hA hS 1 rfl rfl rfl rfl rfl rfl rfl rfl rfl rfl fun a hA => zW 10 ((22, .bool true) :: (21, undef) :: (20, undef) :: (19, undef) :: (18, undef) :: (17, undef) :: (16, undef) :: (15, undef) :: (14, .bool true) :: (13, .bool true) :: _) hA hS rfl fun a hA => ze (zx (cd_cond_t hA rfl (zs (zr (zR 1 ((4, .slice none 0 0) :: _) hA rfl fun a hA => zn (zx ?_))))))
 refine wp_ret (xt_ret ?_)
 refine ret1 (fn := Tryz.f38) hA rfl rfl ?_
 replace hS := hS.d0
 exact ⟨rfl, hS⟩
theorem warr37 {w0 w : World} {F : List Chunk} {bw : Nat} {WL D : Chunk} {p : PN} {wi : List PN} (hS : St w0 w (WL :: D :: F)) (hW : WRA w0 bw (p :: wi) WL D) (hlen : wi.length ≤ 1000000) :
    Ret Tryz.prog 37 #[vP bw 0, .int .i64 0] w (fun v w' => ∃ WL' A c, WRA w0 bw wi WL' D ∧ DD w0 D A c p.da ∧ v = .tuple #[pval p (.slice A p.da.length c), .bool true] ∧ St w0 w' (WL' :: D :: F)) := by
  obtain ⟨ps, h1, h2⟩ := hW
  obtain ⟨x, ps2, rfl, e, hm⟩ := map_cons9 h2.1
  refine Calls.mono (arrive_ok37 hS h1 0 (Nat.succ_pos _) (by rw [List.length_cons, map_len9 hm]; omega)) ?_
  rintro en w' ⟨v, he, k, y, hk, hkp, hy, L', g1, g2, g3⟩
  have hk0 : k = 0 := by rw [Int.zero_emod] at hkp; omega
  subst hk0
  injection hy with hy; subst hy
  have hdx := h2.2 x List.mem_cons_self
  obtain ⟨k0, k1, k2, k3, k4, kA, kc, kb⟩ := x
  simp only [pst, pdat, PN.t, Prod.mk.injEq] at e
  obtain ⟨e0, e1, e2, e3, e4, e5⟩ := e
  subst e0 e1 e2 e3 e4 e5
  exact ⟨v, he, L', kA, kc, ⟨ps2, g1, hm, fun z hz => h2.2 z (List.mem_cons_of_mem _ hz)⟩, hdx, g2, g3⟩
theorem wlose39 {w0 w : World} {F : List Chunk} {bw : Nat} {WL D : Chunk} {p : PN} {wi : List PN} (hS : St w0 w (WL :: D :: F)) (hW : WRA w0 bw (p :: wi) WL D) (hlen : wi.length ≤ 1000000) :
 Ret Tryz.prog 39 #[vP bw 0, .int .i64 0] w (fun v w' => ∃ WL', WRA w0 bw wi WL' D ∧ v = .bool true ∧ St w0 w' (WL' :: D :: F)) := by
 refine enter (vs := [vP bw 0, .int .i64 0]) 14 Tryz.func39 rfl rfl (by simp) ?_; intro a hA
 refine zs (zr (zR 1 ((4, .bool false) :: _) hA rfl fun a hA => zn (zx (zs (zr (zR 2 ((9, .int .i64 0) :: (8, vP bw 0) :: _) hA rfl fun a hA => ?_))))))
 replace hS := hS.m1.m1
 refine st_call0 hA rfl rfl rfl isfn37 rfl rfl (by decide) (warr37 hS hW hlen) ?_
 clear hA hS; rintro _ w1 a ⟨WL2, kA, kc, hW2, hdx, rfl, hS⟩ hA
 refine zR 3 ((12, .bool true) :: (11, .agg #[vI p.fr, vI p.to, vU p.id, vI p.ix, vI p.cn, .slice kA p.da.length kc]) :: (7, .tuple #[.agg #[vI p.fr, vI p.to, vU p.id, vI p.ix, vI p.cn, .slice kA p.da.length kc], .bool true]) :: _) hA rfl fun a hA => ?_
 refine st_alloc tbOk hA hS [.int .i64 0, .int .i64 0, .int .u64 0, .int .i64 0, .int .i64 0, .slice none 0 0] rfl rfl rfl rfl rfl (by decide) fun b2 w3 a hS hA => ?_
 refine st_store tbOk hA hS [vI p.fr, vI p.to, vU p.id, vI p.ix, vI p.cn, .slice kA p.da.length kc] [vI p.fr, vI p.to, vU p.id, vI p.ix, vI p.cn, .slice kA p.da.length kc] rfl rfl rfl rfl rfl rfl (zn1 rfl) (zle rfl) rfl rfl rfl fun w4 hS => ?_
 refine zR 1 ((6, .bool true) :: _) hA rfl fun a hA => zn (zx (zs (zr (zR 2 ((4, .bool true) :: (13, .bool true) :: _) hA rfl fun a hA => zn (zx ?_)))))
 refine wp_ret ?_
 refine ret1 (fn := Tryz.f39) hA rfl rfl ?_
 replace hS := hS.d0
 exact ⟨_, hW2, rfl, hS⟩
end Go.Proofs.YthiakdmhpfkjbaaGreatDoor

set_option linter.unusedVariables false
set_option linter.unusedSimpArgs false
set_option maxRecDepth 4000
namespace Go.Proofs.YthiakdmhpfkjbaaGreatDoor
open Go Go.SK
def narrX (x : NX) (p : PN) : Option (NX × List PN) :=
  match x with
  | .up st sr => match narrM st p with
    | some (st', out) => some (.up st' sr, out)
    | none => none
  | .down c => some (.down c, [])
def ntickX (x : NX) : Option (NX × List PN) :=
  match x with
  | .up st sr => match ntickM st with
    | some (st', out) => some (.up st' sr, out)
    | none => none
  | .down c => if c.now < 1000000 then some (.down { c with now := c.now + 1 }, []) else none
def nworkX (x : NX) (ts : List Nat) (k : Nat) : Option (NX × Nat × Bool × List PN) :=
  match x with
  | .up st sr => match nworkM st sr ts k with
    | some (st', sr', k', ok, out) => some (.up st' sr', k', ok, out)
    | none => none
  | .down c => some (.down c, k, false, [])
def XRet (w0 : World) (F : List Chunk) (b bo : Nat) (x' : NX) (D : Chunk) (out : List PN) (v : Value) (w' : World) : Prop := ∃ L' ps A c C D', NOD w0 b bo x' L' D' ∧ Own 94 6 (.slice A ps.length c) ps.length (rows encPacket ps) C ∧ PKS w0 D' ps out ∧ DX w0 D D' ∧ v = .slice A ps.length c ∧ St w0 w' (L' :: C :: D' :: F)
theorem narrX38 {b bo : Nat} {x x' : NX} {L D : Chunk} {w0 w : World} {F : List Chunk} {out : List PN} (hS : St w0 w (L :: D :: F)) (hN : NOD w0 b bo x L D) (p : PN) {d : Value} (hd : RdSX w0 (D :: F) 1 d p.da.length (rows encB p.da)) (h : narrX x p = some (x', out)) :
    Ret Tryz.prog 38 #[vP b 0, pval p d] w (XRet w0 F b bo x' D out) := by
  cases x with
  | up st sr =>
    rw [narrX] at h
    cases hm : narrM st p with
    | none => rw [hm] at h; cases h
    | some r =>
      obtain ⟨st', o2⟩ := r
      rw [hm] at h
      injection h with h; injection h with e1 e2; subst e1; subst e2
      refine Calls.mono (narrA hS hN p hd hm) ?_
      rintro e w' ⟨v, he, L', ps, A, c, C, D', g1, g2, g3, g4, g5, g6⟩
      exact ⟨v, he, L', ps, A, c, C, D', g1, g2, g3, g4, g5, g6⟩
  | down c =>
    injection h with h; injection h with e1 e2; subst e1; subst e2
    have hL : L = _ := hN
    subst hL
    refine Calls.mono (ndarr38 hS p d) ?_
    rintro e w' ⟨v, he, g1, g2⟩
    exact ⟨v, he, _, [], none, 0, [], D, rfl, Own.nil _ _, PKS.nil, DX.refl, g1, g2.cast (by simp)⟩
theorem ntickX41 {b bo : Nat} {x x' : NX} {L D : Chunk} {w0 w : World} {F : List Chunk} {out : List PN} (hS : St w0 w (L :: D :: F)) (hN : NOD w0 b bo x L D) (h : ntickX x = some (x', out)) :
    Ret Tryz.prog 41 #[vP b 0] w (XRet w0 F b bo x' D out) := by
  cases x with
  | up st sr =>
    rw [ntickX] at h
    cases hm : ntickM st with
    | none => rw [hm] at h; cases h
    | some r =>
      obtain ⟨st', o2⟩ := r
      rw [hm] at h
      injection h with h; injection h with e1 e2; subst e1; subst e2
      refine Calls.mono (ntickB hS hN hm) ?_
      rintro e w' ⟨v, he, L', ps, A, c, C, D', g1, g2, g3, g4, g5, g6⟩
      exact ⟨v, he, L', ps, A, c, C, D', g1, g2, g3, g4, g5, g6⟩
  | down c =>
    rw [ntickX] at h
    by_cases hc : c.now < 1000000
    · rw [if_pos hc] at h
      injection h with h; injection h with e1 e2; subst e1; subst e2
      have hL : L = _ := hN
      subst hL
      refine Calls.mono (ndtick41 hS hc) ?_
      rintro e w' ⟨v, he, g1, g2⟩
      exact ⟨v, he, _, [], none, 0, [], D, rfl, Own.nil _ _, PKS.nil, DX.refl, g1, g2.cast (by simp)⟩
    · rw [if_neg hc] at h; cases h
def WXRet (w0 : World) (F : List Chunk) (b bo : Nat) (x' : NX) (en : List (Nat × Nat × Nat)) (ts : List Nat) (k' : Nat) (D : Chunk) (ok : Bool) (out : List PN) (v : Value) (w' : World) : Prop := ∃ L' ps A c C O' D', NOD w0 b bo x' L' D' ∧ ORR bo en ts k' O' ∧ Own 94 6 (.slice A ps.length c) ps.length (rows encPacket ps) C ∧ PKS w0 D' ps out ∧ DX w0 D D' ∧ v = .tuple #[.slice A ps.length c, .bool ok] ∧ St w0 w' (L' :: C :: O' :: D' :: F)
theorem nworkX42 {b bo : Nat} {x x' : NX} {L O D : Chunk} {w0 w : World} {F : List Chunk} {en : List (Nat × Nat × Nat)} {ts : List Nat} {k k' : Nat} {ok : Bool} {out : List PN} (hS : St w0 w (L :: O :: D :: F)) (hN : NOD w0 b bo x L D) (hO : ORR bo en ts k O) (h : nworkX x ts k = some (x', k', ok, out)) :
    Ret Tryz.prog 42 #[vP b 0] w (WXRet w0 F b bo x' en ts k' D ok out) := by
  cases x with
  | up st sr =>
    rw [nworkX] at h
    cases hm : nworkM st sr ts k with
    | none => rw [hm] at h; cases h
    | some r =>
      obtain ⟨st', sr', k2, ok2, o2⟩ := r
      rw [hm] at h
      injection h with h; injection h with e1 h; injection h with e2 h; injection h with e3 e4
      subst e1; subst e2; subst e3; subst e4
      refine Calls.mono (nworkB hS hN hO hm) ?_
      rintro e w' ⟨v, he, L', ps, A, c, C, O', D', g1, g2, g3, g4, g5, g6, g7⟩
      exact ⟨v, he, L', ps, A, c, C, O', D', g1, g2, g3, g4, g5, g6, g7⟩
  | down c =>
    injection h with h; injection h with e1 h; injection h with e2 h; injection h with e3 e4
    subst e1; subst e2; subst e3; subst e4
    have hL : L = _ := hN
    subst hL
    refine Calls.mono (ndwork42 hS) ?_
    rintro e w' ⟨v, he, g1, g2⟩
    exact ⟨v, he, _, [], none, 0, [], O, D, rfl, hO, Own.nil _ _, PKS.nil, DX.refl, g1, g2.cast (by simp)⟩
def arrM (s : SY) : Option SY :=
  match s.wi with
  | [] => none
  | p :: wi => match s.nx[p.to]? with
    | some x => match narrX x p with
      | some (x', out) => if sendC wi out ∧ wi.length ≤ 1000000 then some { s with nx := s.nx.set p.to x', wi := wi ++ out } else none
      | none => none
    | none => none
def workM (ts : List Nat) (s : SY) (i : Nat) : Option (SY × Bool) :=
  match s.nx[i]? with
  | some x => match nworkX x ts s.k with
    | some (x', k', ok, out) => if sendC s.wi out then some ({ s with nx := s.nx.set i x', k := k', wi := s.wi ++ (if ok then out else []) }, ok) else none
    | none => none
  | none => none
def tick1M (s : SY) (i : Nat) : Option SY :=
  match s.nx[i]? with
  | some x => match ntickX x with
    | some (x', out) => if sendC s.wi out then some { s with nx := s.nx.set i x', wi := s.wi ++ out } else none
    | none => none
  | none => none
def ticksM (s : SY) : Nat → Option SY
  | 0 => some s
  | j + 1 => match ticksM s j with
    | some s' => tick1M s' j
    | none => none
theorem ticksM_le {s x : SY} {n : Nat} (h : ticksM s n = some x) : ∀ j ≤ n, ∃ y, ticksM s j = some y := by
  induction n generalizing x with
  | zero => intro j hj; obtain rfl : j = 0 := by omega
            exact ⟨x, h⟩
  | succ n ih =>
    intro j hj
    by_cases hjn : j = n + 1
    · subst hjn; exact ⟨x, h⟩
    · rw [ticksM] at h
      cases hm : ticksM s n with
      | none => rw [hm] at h; cases h
      | some y => exact ih hm j (by omega)
theorem tick1M_some {s s' : SY} {j : Nat} (h : tick1M s j = some s') : ∃ x x' out, s.nx[j]? = some x ∧ ntickX x = some (x', out) ∧ sendC s.wi out ∧ s' = { s with nx := s.nx.set j x', wi := s.wi ++ out } := by
  rw [tick1M] at h
  cases hx : s.nx[j]? with
  | none => rw [hx] at h; cases h
  | some x =>
    rw [hx] at h; dsimp only at h
    cases ht : ntickX x with
    | none => rw [ht] at h; cases h
    | some r =>
      obtain ⟨x', out⟩ := r
      rw [ht] at h; dsimp only at h
      by_cases hc : sendC s.wi out
      · rw [if_pos hc] at h; injection h with h
        exact ⟨x, x', out, rfl, ht, hc, h.symm⟩
      · rw [if_neg hc] at h; cases h
theorem workM_some {ts : List Nat} {s s' : SY} {i : Nat} {ok : Bool} (h : workM ts s i = some (s', ok)) : ∃ x x' k' out, s.nx[i]? = some x ∧ nworkX x ts s.k = some (x', k', ok, out) ∧ sendC s.wi out ∧ s' = { s with nx := s.nx.set i x', k := k', wi := s.wi ++ (if ok then out else []) } := by
  rw [workM] at h
  cases hx : s.nx[i]? with
  | none => rw [hx] at h; cases h
  | some x =>
    rw [hx] at h; dsimp only at h
    cases ht : nworkX x ts s.k with
    | none => rw [ht] at h; cases h
    | some r =>
      obtain ⟨x', k', ok2, out⟩ := r
      rw [ht] at h; dsimp only at h
      by_cases hc : sendC s.wi out
      · rw [if_pos hc] at h; injection h with h; injection h with h h2; subst h2
        exact ⟨x, x', k', out, rfl, ht, hc, h.symm⟩
      · rw [if_neg hc] at h; cases h
theorem arrM_some {s s' : SY} (h : arrM s = some s') : ∃ p wi x x' out, s.wi = p :: wi ∧ s.nx[p.to]? = some x ∧ narrX x p = some (x', out) ∧ sendC wi out ∧ wi.length ≤ 1000000 ∧ s' = { s with nx := s.nx.set p.to x', wi := wi ++ out } := by
  rw [arrM] at h
  cases hw : s.wi with
  | nil => rw [hw] at h; cases h
  | cons p wi =>
    rw [hw] at h; dsimp only at h
    cases hx : s.nx[p.to]? with
    | none => rw [hx] at h; cases h
    | some x =>
      rw [hx] at h; dsimp only at h
      cases ht : narrX x p with
      | none => rw [ht] at h; cases h
      | some r =>
        obtain ⟨x', out⟩ := r
        rw [ht] at h; dsimp only at h
        by_cases hc : sendC wi out ∧ wi.length ≤ 1000000
        · rw [if_pos hc] at h; injection h with h
          exact ⟨p, wi, x, x', out, rfl, hx, ht, hc.1, hc.2, h.symm⟩
        · rw [if_neg hc] at h; cases h
end Go.Proofs.YthiakdmhpfkjbaaGreatDoor

set_option linter.unusedVariables false
set_option linter.unusedSimpArgs false
set_option maxRecDepth 4000
namespace Go.Proofs.YthiakdmhpfkjbaaGreatDoor
open Go Go.SK
set_option maxHeartbeats 4000000 in
theorem do_arr15 {w0 w : World} {F : List Chunk} {b : Nat} {ts : List Nat} {s : SY} {L D : Chunk} {s' : SY} (hS : St w0 w (L :: D :: F)) (hY : SYS w0 b ts s L D) (hM : arrM s = some s') :
 Ret Tryz.prog 15 #[vP b 0, .agg #[.int .u8 0, .int .i64 0, .int .i64 0]] w (fun v w' => ∃ L' D', SYS w0 b ts s' L' D' ∧ DX w0 D D' ∧ v = .nilIface ∧ St w0 w' (L' :: D' :: F)) := by
 obtain ⟨bw, bo, bs, A, c, C, NL, WL, OL, hs, rfl⟩ := hY
 replace hS : St w0 w ([(b, rowO [.slice A bs.length c, vP bw 0] 77)] :: C :: NL :: WL :: OL :: D :: F) := hS.cast (by simp)
 obtain ⟨p, wi, x, x', out, hwi, hx, hc, hsc, hlw, rfl⟩ := arrM_some hM
 have hfw := hs.fw; rw [hwi] at hfw
 refine enter (vs := [vP b 0, .agg #[.int .u8 0, .int .i64 0, .int .i64 0]]) 108 Tryz.func15 rfl rfl (by simp) ?_; intro a hA
 refine zs (zr ?_)
 refine st_box hA hS [.int .u8 0, .int .i64 0, .int .i64 0] rfl rfl rfl rfl rfl (by decide) fun b1 w2 a hS hA => ?_
 refine zR 1 ((4, .nilIface) :: _) hA rfl fun a hA => zn (zx (zs (zs (zr (zR 1 ((13, vP b1 0) :: _) hA rfl fun a hA => zL hA hS 0 rfl rfl rfl rfl rfl rfl rfl rfl rfl fun a hA => zn (zx (zb (zs (zr (zR 2 ((15, .bool true) :: (16, .bool true) :: _) hA rfl fun a hA => zn (zx (cd_cond_t hA rfl (zs ?_)))))))))))))
 replace hS := hS.m6.m5
 refine wp_drawN (fun w' => St w0 w' ([(b1, rowO [.int .u8 0, .int .i64 0, .int .i64 0] 51)] :: [(b, rowO [.slice A bs.length c, vP bw 0] 77)] :: C :: NL :: OL :: F)) [] [(0, true), (1, true), (2, true), (3, true), (4, true), (5, true)] 6 (.L [(7, true), (8, true), (9, true), (10, false), (11, false), (12, true)]) 10 (.L [(6, false), (7, true), (8, true), (9, true), (11, false), (12, true)]) mixed (by kernel_rfl) (by rintro c a w ⟨_, _, h, _⟩; cases h) (by rfl) (by kernel_rfl) ?_
 replace hS := hS.drew
 refine zW 3 ((20, vP b 1) :: (19, vP b 0) :: (18, vP b 0) :: _) hA (hS.tail 2 rfl) rfl fun a hA => zY hA (hS.tail 2 rfl) 1 rfl rfl rfl rfl rfl rfl rfl rfl rfl rfl fun a hA => zW 1 ((22, vP b1 2) :: _) hA (hS.tail 2 rfl) rfl fun a hA => zY hA (hS.tail 2 rfl) 0 rfl rfl rfl rfl rfl rfl rfl rfl rfl rfl fun a hA => ?_
 refine dr_fork ?_ ?_
 · refine dr_b (o := _) rfl ?_
   replace hS := hS.m1.m1
   refine st_call0 hA rfl rfl rfl isfn37 rfl rfl (by decide) (warr37 hS hfw hlw) ?_
   clear hA hS; rintro _ w3 a ⟨WL2, kA, kc, hW2, hdx, rfl, hS⟩ hA
   refine zi (hS.tail 2 rfl) ?_
   refine dr_subL ?_
   refine zW 3 ((26, .bool true) :: (25, .agg #[vI p.fr, vI p.to, vU p.id, vI p.ix, vI p.cn, .slice kA p.da.length kc]) :: (17, .tuple #[.agg #[vI p.fr, vI p.to, vU p.id, vI p.ix, vI p.cn, .slice kA p.da.length kc], .bool true]) :: _) hA (hS.tail 2 rfl) rfl fun a hA => dr_b (o := _) rfl ?_
   refine st_alloc tbOk hA hS [.int .i64 0, .int .i64 0, .int .u64 0, .int .i64 0, .int .i64 0, .slice none 0 0] rfl rfl rfl rfl rfl (by decide) fun b4 w5 a hS hA => ?_
   refine zi (hS.tail 3 rfl) (dr_b (o := _) rfl ?_)
   refine st_store tbOk hA hS [vI p.fr, vI p.to, vU p.id, vI p.ix, vI p.cn, .slice kA p.da.length kc] [vI p.fr, vI p.to, vU p.id, vI p.ix, vI p.cn, .slice kA p.da.length kc] rfl rfl rfl rfl rfl rfl (zn1 rfl) (zle rfl) rfl rfl rfl fun w6 hS => ?_
   refine zi (hS.tail 3 rfl) (zW 1 ((6, .bool true) :: _) hA (hS.tail 3 rfl) rfl fun a hA => ze (zx (zs (zs (zr (zR 2 ((28, .bool false) :: (27, .bool true) :: _) hA rfl fun a hA => zn (zx (cd_cond_f hA rfl (zk (zx (zs (zs (zr ?_)))))))))))))
   have hlen := hs.fn.len; obtain ⟨bi, hbi⟩ := get_ex (l := bs) (k := p.to) (by have h := (List.getElem?_eq_some_iff.1 hx).1; omega)
   obtain ⟨La, Li, Lb, hNLe, hNi, hback⟩ := hs.fn.at_ hbi hx; subst hNLe
   replace hS : St w0 w6 ([(b4, rowO [vI p.fr, vI p.to, vU p.id, vI p.ix, vI p.cn, .slice kA p.da.length kc] 94)] :: WL2 :: D :: [(b1, rowO [.int .u8 0, .int .i64 0, .int .i64 0] 51)] :: [(b, rowO [.slice A bs.length c, vP bw 0] 77)] :: C :: La :: Li :: Lb :: OL :: F) := hS.cast (by simp)
   refine zR 2 ((31, vP b4 1) :: (30, vP b 0) :: _) hA rfl fun a hA => zL hA hS 0 rfl rfl rfl rfl rfl rfl rfl rfl rfl fun a hA => ?_
   replace hS := hS.m5.m5
   refine st_call0 hA rfl rfl rfl isfn31 rfl rfl (by decide) (sat31 (i := p.to) hS hs.fr hbi) ?_
   clear hA hS; rintro _ w7 a ⟨rfl, hS⟩ hA
   refine zR 1 ((7, vP bi 0) :: _) hA rfl fun a hA => zn (zx (zs (zr (zR 2 ((35, .bool true) :: (34, vP bi 0) :: _) hA rfl fun a hA => zn (zx (cd_cond_t hA rfl (zr (zR 2 ((37, vP bi 0) :: (36, vP b 0) :: _) hA rfl fun a hA => zLA hA hS 2 [vI p.fr, vI p.to, vU p.id, vI p.ix, vI p.cn, .slice kA p.da.length kc] rfl rfl rfl rfl rfl rfl rfl rfl rfl rfl fun a hA => ?_))))))))
   replace hS := hS.m4.m7
   refine st_call0 hA rfl rfl rfl isfn38 rfl rfl (by decide) (narrX38 hS hNi p (DD.rds (F := D :: _) hdx 0 rfl) hc) ?_
   clear hA hS; rintro _ w8 a ⟨Li2, psq, Aq, cq, Cq, D2, hN2, hOq, hKq, hX2, rfl, hS⟩ hA
   replace hS := hS.m2.m2.m6.m4
   refine st_call0 hA rfl rfl rfl isfn34 rfl rfl (by decide) (ssend34 hS (hW2.dx hX2) hOq hKq hsc.1 hsc.2) ?_
   clear hA hS; rintro _ w9 a ⟨WL12, Ds11, hW13, hXs10, rfl, hS⟩ hA
   refine zn (zx (zs (zr (zR 1 ((4, .nilIface) :: _) hA rfl fun a hA => zn (zx ?_)))))
   refine wp_ret (xb_ret (xt_ret ?_))
   refine ret1 (fn := Tryz.f15) hA rfl rfl ?_
   replace hS := hS.d6.d5.m7.m2.m7.m5.m7.m7.m6
   replace hS : St w0 w9 (((b, rowO [.slice A bs.length c, vP bw 0] 77) :: (C ++ ((La ++ (Li2 ++ Lb)) ++ (WL12 ++ OL)))) :: Ds11 :: F) := hS.cast (by simp)
   exact ⟨_, _, ⟨bw, bo, bs, A, c, C, _, _, _, ⟨hback _ _ _ (hX2.trans hXs10) (NOD.dx hN2 hXs10), hW13, hs.fo, hs.fr⟩, rfl⟩, (hX2.trans hXs10), rfl, hS⟩
 · refine dr_b (o := _) rfl ?_
   refine st_alloc tbOk hA hS [.int .i64 0, .int .i64 0, .int .u64 0, .int .i64 0, .int .i64 0, .slice none 0 0] rfl rfl rfl rfl rfl (by decide) fun b14 w15 a hS hA => ?_
   refine zi (hS.tail 3 rfl) ?_
   refine dr_subL ?_
   refine dr_b (o := _) rfl ?_
   replace hS := hS.m2.m2
   refine st_call0 hA rfl rfl rfl isfn37 rfl rfl (by decide) (warr37 hS hfw hlw) ?_
   clear hA hS; rintro _ w16 a ⟨WL2, kA, kc, hW2, hdx, rfl, hS⟩ hA
   refine zi (hS.tail 3 rfl) (zW 3 ((26, .bool true) :: (25, .agg #[vI p.fr, vI p.to, vU p.id, vI p.ix, vI p.cn, .slice kA p.da.length kc]) :: (17, .tuple #[.agg #[vI p.fr, vI p.to, vU p.id, vI p.ix, vI p.cn, .slice kA p.da.length kc], .bool true]) :: _) hA (hS.tail 3 rfl) rfl fun a hA => dr_b (o := _) rfl ?_)
   replace hS := hS.m2
   refine st_store tbOk hA hS [vI p.fr, vI p.to, vU p.id, vI p.ix, vI p.cn, .slice kA p.da.length kc] [vI p.fr, vI p.to, vU p.id, vI p.ix, vI p.cn, .slice kA p.da.length kc] rfl rfl rfl rfl rfl rfl (zn1 rfl) (zle rfl) rfl rfl rfl fun w17 hS => ?_
   refine zi (hS.tail 3 rfl) (zW 1 ((6, .bool true) :: _) hA (hS.tail 3 rfl) rfl fun a hA => ze (zx (zs (zs (zr (zR 2 ((28, .bool false) :: (27, .bool true) :: _) hA rfl fun a hA => zn (zx (cd_cond_f hA rfl (zk (zx (zs (zs (zr ?_)))))))))))))
   have hlen := hs.fn.len; obtain ⟨bi, hbi⟩ := get_ex (l := bs) (k := p.to) (by have h := (List.getElem?_eq_some_iff.1 hx).1; omega)
   obtain ⟨La, Li, Lb, hNLe, hNi, hback⟩ := hs.fn.at_ hbi hx; subst hNLe
   replace hS : St w0 w17 ([(b14, rowO [vI p.fr, vI p.to, vU p.id, vI p.ix, vI p.cn, .slice kA p.da.length kc] 94)] :: WL2 :: D :: [(b1, rowO [.int .u8 0, .int .i64 0, .int .i64 0] 51)] :: [(b, rowO [.slice A bs.length c, vP bw 0] 77)] :: C :: La :: Li :: Lb :: OL :: F) := hS.cast (by simp)
   refine zR 2 ((31, vP b14 1) :: (30, vP b 0) :: _) hA rfl fun a hA => zL hA hS 0 rfl rfl rfl rfl rfl rfl rfl rfl rfl fun a hA => ?_
   replace hS := hS.m5.m5
   refine st_call0 hA rfl rfl rfl isfn31 rfl rfl (by decide) (sat31 (i := p.to) hS hs.fr hbi) ?_
   clear hA hS; rintro _ w18 a ⟨rfl, hS⟩ hA
   refine zR 1 ((7, vP bi 0) :: _) hA rfl fun a hA => zn (zx (zs (zr (zR 2 ((35, .bool true) :: (34, vP bi 0) :: _) hA rfl fun a hA => zn (zx (cd_cond_t hA rfl (zr (zR 2 ((37, vP bi 0) :: (36, vP b 0) :: _) hA rfl fun a hA => zLA hA hS 2 [vI p.fr, vI p.to, vU p.id, vI p.ix, vI p.cn, .slice kA p.da.length kc] rfl rfl rfl rfl rfl rfl rfl rfl rfl rfl fun a hA => ?_))))))))
   replace hS := hS.m4.m7
   refine st_call0 hA rfl rfl rfl isfn38 rfl rfl (by decide) (narrX38 hS hNi p (DD.rds (F := D :: _) hdx 0 rfl) hc) ?_
   clear hA hS; rintro _ w19 a ⟨Li2, psq, Aq, cq, Cq, D2, hN2, hOq, hKq, hX2, rfl, hS⟩ hA
   replace hS := hS.m2.m2.m6.m4
   refine st_call0 hA rfl rfl rfl isfn34 rfl rfl (by decide) (ssend34 hS (hW2.dx hX2) hOq hKq hsc.1 hsc.2) ?_
   clear hA hS; rintro _ w20 a ⟨WL23, Ds22, hW24, hXs21, rfl, hS⟩ hA
   refine zn (zx (zs (zr (zR 1 ((4, .nilIface) :: _) hA rfl fun a hA => zn (zx ?_)))))
   refine wp_ret (xb_ret (xt_ret ?_))
   refine ret1 (fn := Tryz.f15) hA rfl rfl ?_
   replace hS := hS.d6.d5.m7.m2.m7.m5.m7.m7.m6
   replace hS : St w0 w20 (((b, rowO [.slice A bs.length c, vP bw 0] 77) :: (C ++ ((La ++ (Li2 ++ Lb)) ++ (WL23 ++ OL)))) :: Ds22 :: F) := hS.cast (by simp)
   exact ⟨_, _, ⟨bw, bo, bs, A, c, C, _, _, _, ⟨hback _ _ _ (hX2.trans hXs21) (NOD.dx hN2 hXs21), hW24, hs.fo, hs.fr⟩, rfl⟩, (hX2.trans hXs21), rfl, hS⟩
set_option maxHeartbeats 4000000 in
theorem do_arr015 {w0 w : World} {F : List Chunk} {b : Nat} {ts : List Nat} {s : SY} {L D : Chunk} (hS : St w0 w (L :: D :: F)) (hY : SYS w0 b ts s L D) (hwi : s.wi = []) :
 Ret Tryz.prog 15 #[vP b 0, .agg #[.int .u8 0, .int .i64 0, .int .i64 0]] w (fun v w' => ∃ L', SYS w0 b ts s L' D ∧ v = .iface 55 (.int .i64 12) ∧ St w0 w' (L' :: D :: F)) := by
 obtain ⟨bw, bo, bs, A, c, C, NL, WL, OL, hs, rfl⟩ := hY
 replace hS : St w0 w ([(b, rowO [.slice A bs.length c, vP bw 0] 77)] :: C :: NL :: WL :: OL :: D :: F) := hS.cast (by simp)
 refine enter (vs := [vP b 0, .agg #[.int .u8 0, .int .i64 0, .int .i64 0]]) 108 Tryz.func15 rfl rfl (by simp) ?_; intro a hA
 refine zs (zr ?_)
 refine st_box hA hS [.int .u8 0, .int .i64 0, .int .i64 0] rfl rfl rfl rfl rfl (by decide) fun b1 w2 a hS hA => ?_
 refine zR 1 ((4, .nilIface) :: _) hA rfl fun a hA => zn (zx (zs (zs (zr (zR 1 ((13, vP b1 0) :: _) hA rfl fun a hA => zL hA hS 0 rfl rfl rfl rfl rfl rfl rfl rfl rfl fun a hA => zn (zx (zb (zs (zr (zR 2 ((15, .bool true) :: (16, .bool true) :: _) hA rfl fun a hA => zn (zx (cd_cond_t hA rfl (zs ?_)))))))))))))
 replace hS := hS.m6.m5
 refine wp_drawN (fun w' => St w0 w' ([(b1, rowO [.int .u8 0, .int .i64 0, .int .i64 0] 51)] :: [(b, rowO [.slice A bs.length c, vP bw 0] 77)] :: C :: NL :: OL :: F)) [] [(0, true), (1, true), (2, true), (3, true), (4, true), (5, true)] 6 (.L [(7, true), (8, true), (9, true), (10, false), (11, false), (12, true)]) 10 (.L [(6, false), (7, true), (8, true), (9, true), (11, false), (12, true)]) mixed (by kernel_rfl) (by rintro c a w ⟨_, _, h, _⟩; cases h) (by rfl) (by kernel_rfl) ?_
 replace hS := hS.drew
 refine zW 3 ((20, vP b 1) :: (19, vP b 0) :: (18, vP b 0) :: _) hA (hS.tail 2 rfl) rfl fun a hA => zY hA (hS.tail 2 rfl) 1 rfl rfl rfl rfl rfl rfl rfl rfl rfl rfl fun a hA => zW 1 ((22, vP b1 2) :: _) hA (hS.tail 2 rfl) rfl fun a hA => zY hA (hS.tail 2 rfl) 0 rfl rfl rfl rfl rfl rfl rfl rfl rfl rfl fun a hA => ?_
 refine dr_fork ?_ ?_
 · refine dr_b (o := _) rfl ?_
   replace hS := hS.m1.m1
   obtain ⟨wp, hwr, hWK⟩ := hs.fw; have hwl := hWK.len; rw [hwi] at hwl
   refine st_call0 hA rfl rfl rfl isfn37 rfl rfl (by decide) (arrive_none37 hS hwr 0 hwl) ?_
   clear hA hS; rintro _ w3 a ⟨WL2, hW2, rfl, hS⟩ hA
   refine zi (hS.tail 2 rfl) ?_
   refine dr_subL ?_
   refine zW 3 ((26, .bool false) :: (25, .agg #[.int .i64 0, .int .i64 0, .int .u64 0, .int .i64 0, .int .i64 0, .slice none 0 0]) :: (17, .tuple #[.agg #[.int .i64 0, .int .i64 0, .int .u64 0, .int .i64 0, .int .i64 0, .slice none 0 0], .bool false]) :: _) hA (hS.tail 2 rfl) rfl fun a hA => dr_b (o := _) rfl ?_
   refine st_alloc tbOk hA hS [.int .i64 0, .int .i64 0, .int .u64 0, .int .i64 0, .int .i64 0, .slice none 0 0] rfl rfl rfl rfl rfl (by decide) fun b4 w5 a hS hA => ?_
   refine zi (hS.tail 3 rfl) (dr_b (o := _) rfl ?_)
   refine st_store tbOk hA hS [.int .i64 0, .int .i64 0, .int .u64 0, .int .i64 0, .int .i64 0, .slice none 0 0] [.int .i64 0, .int .i64 0, .int .u64 0, .int .i64 0, .int .i64 0, .slice none 0 0] rfl rfl rfl rfl rfl rfl (zn1 rfl) (zle rfl) rfl rfl rfl fun w6 hS => ?_
   refine zi (hS.tail 3 rfl) (zW 1 ((6, .bool false) :: _) hA (hS.tail 3 rfl) rfl fun a hA => ze (zx (zs (zs (zr (zR 2 ((28, .bool true) :: (27, .bool false) :: _) hA rfl fun a hA => zn (zx (cd_cond_t hA rfl (zs (zr (zR 2 ((4, .iface 55 (.int .i64 12)) :: (29, .iface 55 (.int .i64 12)) :: _) hA rfl fun a hA => zn (zx ?_))))))))))))
   refine wp_ret (xt_ret (xb_ret (xt_ret ?_)))
   refine ret1 (fn := Tryz.f15) hA rfl rfl ?_
   replace hS := hS.d3.d0.m5.m1.m5.m5.m5
   replace hS : St w0 w6 (((b, rowO [.slice A bs.length c, vP bw 0] 77) :: (C ++ (NL ++ (WL2 ++ OL)))) :: D :: F) := hS.cast (by simp)
   exact ⟨_, ⟨bw, bo, bs, A, c, C, _, _, _, ⟨NDS.dx DX.refl hs.fn, (show WRA w0 bw s.wi WL2 D from ⟨wp, hW2, hWK⟩), hs.fo, hs.fr⟩, rfl⟩, rfl, hS⟩
 · refine dr_b (o := _) rfl ?_
   refine st_alloc tbOk hA hS [.int .i64 0, .int .i64 0, .int .u64 0, .int .i64 0, .int .i64 0, .slice none 0 0] rfl rfl rfl rfl rfl (by decide) fun b7 w8 a hS hA => ?_
   refine zi (hS.tail 3 rfl) ?_
   refine dr_subL ?_
   refine dr_b (o := _) rfl ?_
   replace hS := hS.m2.m2
   obtain ⟨wp, hwr, hWK⟩ := hs.fw; have hwl := hWK.len; rw [hwi] at hwl
   refine st_call0 hA rfl rfl rfl isfn37 rfl rfl (by decide) (arrive_none37 hS hwr 0 hwl) ?_
   clear hA hS; rintro _ w9 a ⟨WL2, hW2, rfl, hS⟩ hA
   refine zi (hS.tail 3 rfl) (zW 3 ((26, .bool false) :: (25, .agg #[.int .i64 0, .int .i64 0, .int .u64 0, .int .i64 0, .int .i64 0, .slice none 0 0]) :: (17, .tuple #[.agg #[.int .i64 0, .int .i64 0, .int .u64 0, .int .i64 0, .int .i64 0, .slice none 0 0], .bool false]) :: _) hA (hS.tail 3 rfl) rfl fun a hA => dr_b (o := _) rfl ?_)
   replace hS := hS.m2
   refine st_store tbOk hA hS [.int .i64 0, .int .i64 0, .int .u64 0, .int .i64 0, .int .i64 0, .slice none 0 0] [.int .i64 0, .int .i64 0, .int .u64 0, .int .i64 0, .int .i64 0, .slice none 0 0] rfl rfl rfl rfl rfl rfl (zn1 rfl) (zle rfl) rfl rfl rfl fun w10 hS => ?_
   refine zi (hS.tail 3 rfl) (zW 1 ((6, .bool false) :: _) hA (hS.tail 3 rfl) rfl fun a hA => ze (zx (zs (zs (zr (zR 2 ((28, .bool true) :: (27, .bool false) :: _) hA rfl fun a hA => zn (zx (cd_cond_t hA rfl (zs (zr (zR 2 ((4, .iface 55 (.int .i64 12)) :: (29, .iface 55 (.int .i64 12)) :: _) hA rfl fun a hA => zn (zx ?_))))))))))))
   refine wp_ret (xt_ret (xb_ret (xt_ret ?_)))
   refine ret1 (fn := Tryz.f15) hA rfl rfl ?_
   replace hS := hS.d3.d0.m5.m1.m5.m5.m5
   replace hS : St w0 w10 (((b, rowO [.slice A bs.length c, vP bw 0] 77) :: (C ++ (NL ++ (WL2 ++ OL)))) :: D :: F) := hS.cast (by simp)
   exact ⟨_, ⟨bw, bo, bs, A, c, C, _, _, _, ⟨NDS.dx DX.refl hs.fn, (show WRA w0 bw s.wi WL2 D from ⟨wp, hW2, hWK⟩), hs.fo, hs.fr⟩, rfl⟩, rfl, hS⟩
set_option maxHeartbeats 4000000 in
theorem do_lose15 {w0 w : World} {F : List Chunk} {b : Nat} {ts : List Nat} {s : SY} {L D : Chunk} {p : PN} {wi : List PN} (hS : St w0 w (L :: D :: F)) (hY : SYS w0 b ts s L D) (hwi : s.wi = p :: wi) (hlw : wi.length ≤ 1000000) :
 Ret Tryz.prog 15 #[vP b 0, .agg #[.int .u8 1, .int .i64 0, .int .i64 0]] w (fun v w' => ∃ L', SYS w0 b ts { s with wi := wi } L' D ∧ v = .nilIface ∧ St w0 w' (L' :: D :: F)) := by
 obtain ⟨bw, bo, bs, A, c, C, NL, WL, OL, hs, rfl⟩ := hY
 replace hS : St w0 w ([(b, rowO [.slice A bs.length c, vP bw 0] 77)] :: C :: NL :: WL :: OL :: D :: F) := hS.cast (by simp)
 have hfw := hs.fw; rw [hwi] at hfw
 refine enter (vs := [vP b 0, .agg #[.int .u8 1, .int .i64 0, .int .i64 0]]) 108 Tryz.func15 rfl rfl (by simp) ?_; intro a hA
 refine zs (zr ?_)
 refine st_box hA hS [.int .u8 1, .int .i64 0, .int .i64 0] rfl rfl rfl rfl rfl (by decide) fun b1 w2 a hS hA => ?_
 refine zR 1 ((4, .nilIface) :: _) hA rfl fun a hA => zn (zx (zs (zs (zr (zR 1 ((13, vP b1 0) :: _) hA rfl fun a hA => zL hA hS 0 rfl rfl rfl rfl rfl rfl rfl rfl rfl fun a hA => zn (zx (zb (zs (zr (zR 2 ((15, .bool false) :: (16, .bool false) :: _) hA rfl fun a hA => zn (zx (cd_cond_f hA rfl (zs (zr (zR 2 ((41, .bool true) :: (42, .bool true) :: _) hA rfl fun a hA => zn (zx (cd_cond_t hA rfl (zs (zs ?_)))))))))))))))))))
 replace hS := hS.m6.m5
 refine zD2 hS [] [(0, true), (1, true), (2, true), (3, true), (4, true), (5, true), (6, false), (7, true)] mixed (by kernel_rfl) (by rintro c a w ⟨_, _, h, _⟩; cases h) (by rfl) (by kernel_rfl) ?_
 replace hS := hS.drew
 refine zW 3 ((45, vP b 1) :: (44, vP b 0) :: (43, vP b 0) :: _) hA (hS.tail 2 rfl) rfl fun a hA => zY hA (hS.tail 2 rfl) 1 rfl rfl rfl rfl rfl rfl rfl rfl rfl rfl fun a hA => zW 1 ((47, vP b1 2) :: _) hA (hS.tail 2 rfl) rfl fun a hA => zY hA (hS.tail 2 rfl) 0 rfl rfl rfl rfl rfl rfl rfl rfl rfl rfl fun a hA => dr_b (o := _) rfl ?_
 replace hS := hS.m1.m1
 refine st_call0 hA rfl rfl rfl isfn39 rfl rfl (by decide) (wlose39 hS hfw hlw) ?_
 clear hA hS; rintro _ w3 a ⟨WL2, hW2, rfl, hS⟩ hA
 refine zi (hS.tail 2 rfl) (zW 1 ((50, .bool false) :: _) hA (hS.tail 2 rfl) rfl fun a hA => ze (zx (cd_cond_f hA rfl (zk (zx (zs (zr (zR 1 ((4, .nilIface) :: _) hA rfl fun a hA => zn (zx ?_)))))))))
 refine wp_ret (xb_ret (xt_ret ?_))
 refine ret1 (fn := Tryz.f15) hA rfl rfl ?_
 replace hS := hS.d2.m5.m1.m5.m5.m5
 replace hS : St w0 w3 (((b, rowO [.slice A bs.length c, vP bw 0] 77) :: (C ++ (NL ++ (WL2 ++ OL)))) :: D :: F) := hS.cast (by simp)
 exact ⟨_, ⟨bw, bo, bs, A, c, C, _, _, _, ⟨NDS.dx DX.refl hs.fn, hW2, hs.fo, hs.fr⟩, rfl⟩, rfl, hS⟩
set_option maxHeartbeats 4000000 in
theorem do_work_t15 {w0 w : World} {F : List Chunk} {b : Nat} {ts : List Nat} {s : SY} {L D : Chunk} {s' : SY} {i : Nat} (hS : St w0 w (L :: D :: F)) (hY : SYS w0 b ts s L D) (hM : workM ts s i = some (s', true)) :
 Ret Tryz.prog 15 #[vP b 0, .agg #[.int .u8 3, vI i, .int .i64 0]] w (fun v w' => ∃ L' D', SYS w0 b ts s' L' D' ∧ DX w0 D D' ∧ v = .nilIface ∧ St w0 w' (L' :: D' :: F)) := by
 obtain ⟨bw, bo, bs, A, c, C, NL, WL, OL, hs, rfl⟩ := hY
 replace hS : St w0 w ([(b, rowO [.slice A bs.length c, vP bw 0] 77)] :: C :: NL :: WL :: OL :: D :: F) := hS.cast (by simp)
 obtain ⟨x, x', k', out, hx, hc, hsc, rfl⟩ := workM_some hM
 have hlen := hs.fn.len; obtain ⟨bi, hbi⟩ := get_ex (l := bs) (k := i) (by have h := (List.getElem?_eq_some_iff.1 hx).1; omega)
 obtain ⟨La, Li, Lb, hNLe, hNi, hback⟩ := hs.fn.at_ hbi hx; subst hNLe
 replace hS : St w0 w ([(b, rowO [.slice A bs.length c, vP bw 0] 77)] :: C :: La :: Li :: Lb :: WL :: OL :: D :: F) := hS.cast (by simp)
 refine enter (vs := [vP b 0, .agg #[.int .u8 3, vI i, .int .i64 0]]) 108 Tryz.func15 rfl rfl (by simp) ?_; intro a hA
 refine zs (zr ?_)
 refine st_box hA hS [.int .u8 3, vI i, .int .i64 0] rfl rfl rfl rfl rfl (by decide) fun b1 w2 a hS hA => ?_
 refine zR 1 ((4, .nilIface) :: _) hA rfl fun a hA => zn (zx (zs (zs (zr (zR 1 ((13, vP b1 0) :: _) hA rfl fun a hA => zL hA hS 0 rfl rfl rfl rfl rfl rfl rfl rfl rfl fun a hA => zn (zx (zb (zs (zr (zR 2 ((15, .bool false) :: (16, .bool false) :: _) hA rfl fun a hA => zn (zx (cd_cond_f hA rfl (zs (zr (zR 2 ((41, .bool false) :: (42, .bool false) :: _) hA rfl fun a hA => zn (zx (cd_cond_f hA rfl (zs (zr (zR 2 ((52, .bool false) :: (53, .bool false) :: _) hA rfl fun a hA => zn (zx (cd_cond_f hA rfl (zs (zr (zR 2 ((61, .bool false) :: (62, .bool false) :: _) hA rfl fun a hA => zn (zx (cd_cond_f hA rfl (zk (zm (zx (zs (zr (zR 2 ((78, vP b1 1) :: (77, vP b 0) :: _) hA rfl fun a hA => zL hA hS 0 rfl rfl rfl rfl rfl rfl rfl rfl rfl fun a hA => ?_)))))))))))))))))))))))))))))))))
 replace hS := hS.m2.m2
 refine st_call0 hA rfl rfl rfl isfn31 rfl rfl (by decide) (sat31 (i := i) hS hs.fr hbi) ?_
 clear hA hS; rintro _ w3 a ⟨rfl, hS⟩ hA
 refine zR 1 ((10, vP bi 0) :: _) hA rfl fun a hA => zn (zx (zs (zs (zr (zR 2 ((82, .bool false) :: (81, vP bi 0) :: _) hA rfl fun a hA => zn (zx (cd_cond_f hA rfl (zk (zx (zs (zs (zr (zR 1 ((84, vP b1 0) :: _) hA rfl fun a hA => zL hA hS 2 rfl rfl rfl rfl rfl rfl rfl rfl rfl fun a hA => zn (zx (zb (zs (zr (zR 2 ((86, .bool true) :: (87, .bool true) :: _) hA rfl fun a hA => zn (zx (cd_cond_t hA rfl (zs (zr (zR 1 ((89, vP bi 0) :: _) hA rfl fun a hA => ?_)))))))))))))))))))))))
 replace hS := hS.m8.m8.m6
 refine st_call0 hA rfl rfl rfl isfn42 rfl rfl (by decide) (nworkX42 hS hNi hs.fo hc) ?_
 clear hA hS; rintro _ w4 a ⟨Li2, psq, Aq, cq, Cq, O2, D2, hN2, hO2, hOq, hKq, hX2, rfl, hS⟩ hA
 refine zR 5 ((12, .bool true) :: (11, .slice Aq psq.length cq) :: (92, .bool true) :: (91, .slice Aq psq.length cq) :: (88, .tuple #[.slice Aq psq.length cq, .bool true]) :: _) hA rfl fun a hA => zn (zx (zs (zs (zr (zR 2 ((94, .bool false) :: (93, .bool true) :: _) hA rfl fun a hA => zn (zx (cd_cond_f hA rfl (zk (zx (zs (zr (zR 2 ((97, .slice Aq psq.length cq) :: (96, vP b 0) :: _) hA rfl fun a hA => ?_))))))))))))
 replace hS := hS.m3.m2.m9.m5
 refine st_call0 hA rfl rfl rfl isfn34 rfl rfl (by decide) (ssend34 hS (hs.fw.dx hX2) hOq hKq hsc.1 hsc.2) ?_
 clear hA hS; rintro _ w5 a ⟨WL8, Ds7, hW9, hXs6, rfl, hS⟩ hA
 refine zn (zx (zs (zr (zR 1 ((4, .nilIface) :: _) hA rfl fun a hA => zn (zx ?_)))))
 refine wp_ret (xb_ret (xt_ret ?_))
 refine ret1 (fn := Tryz.f15) hA rfl rfl ?_
 replace hS := hS.d6.m4.m2.m7.m5.m7.m7.m6
 replace hS : St w0 w5 (((b, rowO [.slice A bs.length c, vP bw 0] 77) :: (C ++ ((La ++ (Li2 ++ Lb)) ++ (WL8 ++ O2)))) :: Ds7 :: F) := hS.cast (by simp)
 exact ⟨_, _, ⟨bw, bo, bs, A, c, C, _, _, _, ⟨hback _ _ _ (hX2.trans hXs6) (NOD.dx hN2 hXs6), hW9, hO2, hs.fr⟩, rfl⟩, (hX2.trans hXs6), rfl, hS⟩
set_option maxHeartbeats 4000000 in
theorem do_work_f15 {w0 w : World} {F : List Chunk} {b : Nat} {ts : List Nat} {s : SY} {L D : Chunk} {s' : SY} {i : Nat} (hS : St w0 w (L :: D :: F)) (hY : SYS w0 b ts s L D) (hM : workM ts s i = some (s', false)) :
 Ret Tryz.prog 15 #[vP b 0, .agg #[.int .u8 3, vI i, .int .i64 0]] w (fun v w' => ∃ L' D', SYS w0 b ts s' L' D' ∧ DX w0 D D' ∧ v = .iface 55 (.int .i64 12) ∧ St w0 w' (L' :: D' :: F)) := by
 obtain ⟨bw, bo, bs, A, c, C, NL, WL, OL, hs, rfl⟩ := hY
 replace hS : St w0 w ([(b, rowO [.slice A bs.length c, vP bw 0] 77)] :: C :: NL :: WL :: OL :: D :: F) := hS.cast (by simp)
 obtain ⟨x, x', k', out, hx, hc, hsc, rfl⟩ := workM_some hM
 have hlen := hs.fn.len; obtain ⟨bi, hbi⟩ := get_ex (l := bs) (k := i) (by have h := (List.getElem?_eq_some_iff.1 hx).1; omega)
 obtain ⟨La, Li, Lb, hNLe, hNi, hback⟩ := hs.fn.at_ hbi hx; subst hNLe
 replace hS : St w0 w ([(b, rowO [.slice A bs.length c, vP bw 0] 77)] :: C :: La :: Li :: Lb :: WL :: OL :: D :: F) := hS.cast (by simp)
 refine enter (vs := [vP b 0, .agg #[.int .u8 3, vI i, .int .i64 0]]) 108 Tryz.func15 rfl rfl (by simp) ?_; intro a hA
 refine zs (zr ?_)
 refine st_box hA hS [.int .u8 3, vI i, .int .i64 0] rfl rfl rfl rfl rfl (by decide) fun b1 w2 a hS hA => ?_
 refine zR 1 ((4, .nilIface) :: _) hA rfl fun a hA => zn (zx (zs (zs (zr (zR 1 ((13, vP b1 0) :: _) hA rfl fun a hA => zL hA hS 0 rfl rfl rfl rfl rfl rfl rfl rfl rfl fun a hA => zn (zx (zb (zs (zr (zR 2 ((15, .bool false) :: (16, .bool false) :: _) hA rfl fun a hA => zn (zx (cd_cond_f hA rfl (zs (zr (zR 2 ((41, .bool false) :: (42, .bool false) :: _) hA rfl fun a hA => zn (zx (cd_cond_f hA rfl (zs (zr (zR 2 ((52, .bool false) :: (53, .bool false) :: _) hA rfl fun a hA => zn (zx (cd_cond_f hA rfl (zs (zr (zR 2 ((61, .bool false) :: (62, .bool false) :: _) hA rfl fun a hA => zn (zx (cd_cond_f hA rfl (zk (zm (zx (zs (zr (zR 2 ((78, vP b1 1) :: (77, vP b 0) :: _) hA rfl fun a hA => zL hA hS 0 rfl rfl rfl rfl rfl rfl rfl rfl rfl fun a hA => ?_)))))))))))))))))))))))))))))))))
 replace hS := hS.m2.m2
 refine st_call0 hA rfl rfl rfl isfn31 rfl rfl (by decide) (sat31 (i := i) hS hs.fr hbi) ?_
 clear hA hS; rintro _ w3 a ⟨rfl, hS⟩ hA
 refine zR 1 ((10, vP bi 0) :: _) hA rfl fun a hA => zn (zx (zs (zs (zr (zR 2 ((82, .bool false) :: (81, vP bi 0) :: _) hA rfl fun a hA => zn (zx (cd_cond_f hA rfl (zk (zx (zs (zs (zr (zR 1 ((84, vP b1 0) :: _) hA rfl fun a hA => zL hA hS 2 rfl rfl rfl rfl rfl rfl rfl rfl rfl fun a hA => zn (zx (zb (zs (zr (zR 2 ((86, .bool true) :: (87, .bool true) :: _) hA rfl fun a hA => zn (zx (cd_cond_t hA rfl (zs (zr (zR 1 ((89, vP bi 0) :: _) hA rfl fun a hA => ?_)))))))))))))))))))))))
 replace hS := hS.m8.m8.m6
 refine st_call0 hA rfl rfl rfl isfn42 rfl rfl (by decide) (nworkX42 hS hNi hs.fo hc) ?_
 clear hA hS; rintro _ w4 a ⟨Li2, psq, Aq, cq, Cq, O2, D2, hN2, hO2, hOq, hKq, hX2, rfl, hS⟩ hA
 refine zR 5 ((12, .bool false) :: (11, .slice Aq psq.length cq) :: (92, .bool false) :: (91, .slice Aq psq.length cq) :: (88, .tuple #[.slice Aq psq.length cq, .bool false]) :: _) hA rfl fun a hA => zn (zx (zs (zs (zr (zR 2 ((94, .bool true) :: (93, .bool false) :: _) hA rfl fun a hA => zn (zx (cd_cond_t hA rfl (zs (zr (zR 2 ((4, .iface 55 (.int .i64 12)) :: (95, .iface 55 (.int .i64 12)) :: _) hA rfl fun a hA => zn (zx ?_)))))))))))
 refine wp_ret (xt_ret (xb_ret (xt_ret ?_)))
 refine ret1 (fn := Tryz.f15) hA rfl rfl ?_
 replace hS := hS.d6.d1.m7.m7.m2.m7.m7.m7
 replace hS : St w0 w4 (((b, rowO [.slice A bs.length c, vP bw 0] 77) :: (C ++ ((La ++ (Li2 ++ Lb)) ++ (WL ++ O2)))) :: D2 :: F) := hS.cast (by simp)
 rw [show (if false = true then out else []) = [] from rfl, List.append_nil]
 exact ⟨_, _, ⟨bw, bo, bs, A, c, C, _, _, _, ⟨hback _ _ _ hX2 (NOD.dx hN2 DX.refl), hs.fw.dx hX2, hO2, hs.fr⟩, rfl⟩, hX2, rfl, hS⟩
end Go.Proofs.YthiakdmhpfkjbaaGreatDoor

set_option linter.unusedVariables false
set_option linter.unusedSimpArgs false
set_option maxRecDepth 4000
namespace Go.Proofs.YthiakdmhpfkjbaaGreatDoor
open Go Go.SK
set_option maxHeartbeats 4000000 in
theorem do_tick15 {w0 w : World} {F : List Chunk} {b : Nat} {ts : List Nat} {s : SY} {L D : Chunk} {s' : SY} (hS : St w0 w (L :: D :: F)) (hY : SYS w0 b ts s L D) (hM : ticksM s s.nx.length = some s') :
 Ret Tryz.prog 15 #[vP b 0, .agg #[.int .u8 4, .int .i64 0, .int .i64 0]] w (fun v w' => ∃ L' D', SYS w0 b ts s' L' D' ∧ DX w0 D D' ∧ v = .nilIface ∧ St w0 w' (L' :: D' :: F)) := by
 obtain ⟨bw, bo, bs, A, c, C, NL, WL, OL, hs, rfl⟩ := hY
 replace hS : St w0 w ([(b, rowO [.slice A bs.length c, vP bw 0] 77)] :: C :: NL :: WL :: OL :: D :: F) := hS.cast (by simp)
 have hbsl := hs.fn.len; have hcapb := hs.fr.rcap
 refine enter (vs := [vP b 0, .agg #[.int .u8 4, .int .i64 0, .int .i64 0]]) 108 Tryz.func15 rfl rfl (by simp) ?_; intro a hA
 refine zs (zr ?_)
 refine st_box hA hS [.int .u8 4, .int .i64 0, .int .i64 0] rfl rfl rfl rfl rfl (by decide) fun b1 w2 a hS hA => ?_
 refine zR 1 ((4, .nilIface) :: _) hA rfl fun a hA => zn (zx (zs (zs (zr (zR 1 ((13, vP b1 0) :: _) hA rfl fun a hA => zL hA hS 0 rfl rfl rfl rfl rfl rfl rfl rfl rfl fun a hA => zn (zx (zb (zs (zr (zR 2 ((15, .bool false) :: (16, .bool false) :: _) hA rfl fun a hA => zn (zx (cd_cond_f hA rfl (zs (zr (zR 2 ((41, .bool false) :: (42, .bool false) :: _) hA rfl fun a hA => zn (zx (cd_cond_f hA rfl (zs (zr (zR 2 ((52, .bool false) :: (53, .bool false) :: _) hA rfl fun a hA => zn (zx (cd_cond_f hA rfl (zs (zr (zR 2 ((61, .bool true) :: (62, .bool true) :: _) hA rfl fun a hA => zn (zx (cd_cond_t hA rfl (zs (zs (zr (zR 3 ((65, vP b 0) :: (64, vP b 0) :: (63, vP b 0) :: _) hA rfl fun a hA => zL hA hS 1 rfl rfl rfl rfl rfl rfl rfl rfl rfl fun a hA => zR 2 ((68, .int .i64 0) :: (67, vI bs.length) :: _) hA rfl fun a hA => zn (zx (zb ?_)))))))))))))))))))))))))))))))))
 replace hS := hS.d0
 refine wp_loop_ghost (fun m a w => ∃ (j : Nat) (sj : SY) (NL' : Chunk) (WL' : Chunk) (OL' : Chunk) (D' : Chunk), m = bs.length - j ∧ Has a 108 [(0, vP b 0), (66, .slice A bs.length c), (67, vI bs.length), (68, vI j)] ∧ St w0 w ([(b, rowO [.slice A bs.length c, vP bw 0] 77)] :: C :: NL' :: WL' :: OL' :: D' :: F) ∧ (j ≤ bs.length) ∧ (ticksM s j = some sj) ∧ (SYS0 w0 ts sj D' bw bo bs A c C NL' WL' OL') ∧ (DX w0 D D')) (bs.length - 0)
  ⟨0, s, NL, WL, OL, D, rfl, (hA.sel [0, 66, 67, 68] rfl), hS, Nat.zero_le _, rfl, hs, DX.refl⟩ ?_
 clear hA hS; rintro m0 a w3 ⟨j, sj, NL', WL', OL', D', rfl, hA, hS, hj, hTj, hsj, hX⟩
 refine zs (zr (zR 1 ((69, .bool (decide (((j : Nat) : Int) < ((bs.length : Nat) : Int)))) :: _) hA rfl fun a hA => zn (zx (zs ?_))))
 by_cases hc4 : ((j : Nat) : Int) < ((bs.length : Nat) : Int)
 · first
   | (exfalso; omega)
   | (replace hA := hA.rw 69 (v' := .bool true) rfl (vb_true hc4)
      refine cd_cond_t hA rfl (zk (zx (zs (zb (zs (zr ?_))))))
      obtain ⟨sj2, hTj2⟩ := ticksM_le hM (j + 1) (by omega)
      have hTj3 := hTj2; rw [ticksM, hTj] at hTj3
      obtain ⟨x, x', out, hx, hc, hsc, rfl⟩ := tick1M_some hTj3
      have hlen := hsj.fn.len; obtain ⟨bi, hbi⟩ := get_ex (l := bs) (k := j) (by omega)
      obtain ⟨La, Li, Lb, hNLe, hNi, hback⟩ := hsj.fn.at_ hbi hx; subst hNLe
      replace hS : St w0 w3 ([(b, rowO [.slice A bs.length c, vP bw 0] 77)] :: C :: La :: Li :: Lb :: WL' :: OL' :: D' :: F) := hS.cast (by simp)
      obtain ⟨b5, o6, rfl⟩ := hs.fr.isSome (k := j) (by omega)
      refine st_val hA rfl rfl (by decide) (rn_indexAddr tbOk hA j (o6 + j) rfl rfl rfl rfl rfl rfl (by rfl) (by omega) (by first | rfl | simp [Nat.mul_one, Nat.zero_add] | omega)) fun a hA => st_val hA rfl rfl (by decide) (rn_load tbOk hA rfl rfl rfl rfl ((hs.fr.rd (hS.own_ 1 rfl)).elem0 (k := j) encPt_ok hbi rfl)) fun a hA => zR 1 ((9, vP bi 0) :: _) hA rfl fun a hA => zn (zx (zr (zR 2 ((73, vP bi 0) :: (72, vP b 0) :: _) hA rfl fun a hA => ?_)))
      replace hS := hS.m7.m4
      refine st_call0 hA rfl rfl rfl isfn41 rfl rfl (by decide) (ntickX41 hS hNi hc) ?_
      clear hA hS; rintro _ w7 a ⟨Li2, psq, Aq, cq, Cq, D2, hN2, hOq, hKq, hX2, rfl, hS⟩ hA
      replace hS := hS.m2.m2.m7.m4
      refine st_call0 hA rfl rfl rfl isfn34 rfl rfl (by decide) (ssend34 hS (hsj.fw.dx hX2) hOq hKq hsc.1 hsc.2) ?_
      clear hA hS; rintro _ w8 a ⟨WL11, Ds10, hW12, hXs9, rfl, hS⟩ hA
      refine zn (zm (zx (zr (zR 1 ((76, .int .i64 (IntKind.i64.wrap (((j : Nat) : Int) + 1))) :: _) hA rfl fun a hA => ?_))))
      replace hA := hA.rw 76 (v' := vI (j + 1)) rfl (wr64 (by omega) (by omega) (by omega))
      refine zR 1 ((68, vI (j + 1)) :: _) hA rfl fun a hA => zn ?_
      replace hS := hS.m7.m2.m7.m5.m7.m7.m6
      replace hS : St w0 w8 ([(b, rowO [.slice (some ⟨b5, o6, none⟩) bs.length c, vP bw 0] 77)] :: C :: (La ++ (Li2 ++ Lb)) :: WL11 :: OL' :: Ds10 :: F) := hS.cast (by simp)
      have hs9 : SYS0 w0 ts { sj with nx := sj.nx.set j x', wi := sj.wi ++ out } Ds10 bw bo bs _ c C _ WL11 OL' := ⟨hback _ _ _ (hX2.trans hXs9) (NOD.dx hN2 hXs9), hW12, hsj.fo, hsj.fr⟩
      exact lp_next _ (by omega) ⟨(j + 1), ({ sj with nx := sj.nx.set j x', wi := sj.wi ++ out }), (La ++ (Li2 ++ Lb)), WL11, OL', Ds10, rfl, (hA.sel [0, 66, 67, 68] rfl), hS, by omega, hTj2, hs9, (hX.trans (hX2.trans hXs9))⟩)
 · first
   | (exfalso; omega)
   | (replace hA := hA.rw 69 (v' := .bool false) rfl (vb_false hc4)
      refine cd_cond_f hA rfl ?_
      refine wp_exit ?_
      refine xt_exit (xt_exit (cd_exit_eq (zx (zs (zr (zR 1 ((4, .nilIface) :: _) hA rfl fun a hA => zn (zx ?_)))))))
      refine wp_ret (xb_ret (xt_ret ?_))
      refine ret1 (fn := Tryz.f15) hA rfl rfl ?_
      have hj9 : j = s.nx.length := by omega
      subst hj9; rw [hM] at hTj; injection hTj with hTj; subst hTj
      replace hS : St w0 w3 (_ :: D' :: F) := (hS.cast (by simp) : St w0 w3 (((b, rowO [.slice A bs.length c, vP bw 0] 77) :: (C ++ (NL' ++ (WL' ++ OL')))) :: D' :: F))
      exact ⟨_, _, ⟨bw, bo, bs, _, c, C, _, _, _, hsj, rfl⟩, hX, rfl, hS⟩)
end Go.Proofs.YthiakdmhpfkjbaaGreatDoor

set_option linter.unusedVariables false
set_option linter.unusedSimpArgs false
set_option maxRecDepth 4000
namespace Go.Proofs.YthiakdmhpfkjbaaGreatDoor
open Go Go.SK
section
variable {Q : Exit → Act → World → Prop} {a : Act} {w : World}
theorem xs_ret (h : Q .ret a w) : Exit.noGoto Q .ret a w := h
end
def worksM (ts : List Nat) (s : SY) : Nat → Nat → Option (SY × Bool)
  | 0, _ => some (s, false)
  | m + 1, i => match workM ts s i with
    | none => none
    | some (s', true) => some (s', true)
    | some (s', false) => worksM ts s' m (i + 1)
def settleM (ts : List Nat) : Nat → SY → Nat → Nat → Option (SY × Nat)
  | 0, _, _, _ => none
  | f + 1, s, d, lim =>
    if d < lim then
      match s.wi with
      | [] => match worksM ts s s.nx.length 0 with
        | none => none
        | some (s', true) => settleM ts f s' (d + 1) lim
        | some (s', false) => some (s', d)
      | _ :: _ => match arrM s with
        | none => none
        | some s' => settleM ts f s' (d + 1) lim
    else some (s, d)
theorem worksM_cases {ts : List Nat} {s s1 : SY} {m i : Nat} {ok : Bool} (h : worksM ts s m i = some (s1, ok)) : (m = 0 ∧ s1 = s ∧ ok = false) ∨ (∃ m', m = m' + 1 ∧ workM ts s i = some (s1, true) ∧ ok = true) ∨ (∃ m' s2, m = m' + 1 ∧ workM ts s i = some (s2, false) ∧ worksM ts s2 m' (i + 1) = some (s1, ok)) := by
  cases m with
  | zero => injection h with h; injection h with h1 h2; exact .inl ⟨rfl, h1.symm, h2.symm⟩
  | succ m =>
    rw [worksM] at h
    cases hw : workM ts s i with
    | none => rw [hw] at h; cases h
    | some r =>
      obtain ⟨s2, ok2⟩ := r
      rw [hw] at h
      cases ok2 with
      | true => injection h with h; injection h with h1 h2; subst h1; exact .inr (.inl ⟨m, rfl, rfl, h2.symm⟩)
      | false => exact .inr (.inr ⟨m, s2, rfl, rfl, h⟩)
theorem settleM_cases {ts : List Nat} {f d lim e : Nat} {s s' : SY} (h : settleM ts f s d lim = some (s', e)) : ∃ f2, f = f2 + 1 ∧ ((¬ d < lim ∧ s' = s ∧ e = d) ∨ (d < lim ∧ ∃ s1, arrM s = some s1 ∧ settleM ts f2 s1 (d + 1) lim = some (s', e)) ∨ (d < lim ∧ s.wi = [] ∧ ∃ s1 ok, worksM ts s s.nx.length 0 = some (s1, ok) ∧ ((ok = true ∧ settleM ts f2 s1 (d + 1) lim = some (s', e)) ∨ (ok = false ∧ s' = s1 ∧ e = d)))) := by
  cases f with
  | zero => cases h
  | succ f =>
    refine ⟨f, rfl, ?_⟩
    rw [settleM] at h
    by_cases hd : d < lim
    · rw [if_pos hd] at h
      cases hw : s.wi with
      | nil =>
        rw [hw] at h; dsimp only at h
        cases hk : worksM ts s s.nx.length 0 with
        | none => rw [hk] at h; cases h
        | some r =>
          obtain ⟨s1, ok⟩ := r
          rw [hk] at h
          cases ok with
          | true => exact .inr (.inr ⟨hd, rfl, s1, true, rfl, .inl ⟨rfl, h⟩⟩)
          | false => injection h with h; injection h with h1 h2; exact .inr (.inr ⟨hd, rfl, s1, false, rfl, .inr ⟨rfl, h1.symm, h2.symm⟩⟩)
      | cons p wi =>
        rw [hw] at h; dsimp only at h
        cases ha : arrM s with
        | none => rw [ha] at h; cases h
        | some s1 => rw [ha] at h; exact .inr (.inl ⟨hd, s1, rfl, h⟩)
    · rw [if_neg hd] at h
      injection h with h; injection h with h1 h2
      exact .inl ⟨hd, h1.symm, h2.symm⟩
set_option maxHeartbeats 4000000 in
theorem settle19 {w0 w : World} {F : List Chunk} {b : Nat} {ts : List Nat} {s : SY} {L D : Chunk} {s' : SY} {f d lim : Nat} (hS : St w0 w (L :: D :: F)) (hY : SYS w0 b ts s L D) (hM : settleM ts f s 0 lim = some (s', d)) (hlim : lim < 1000000) :
 Ret Tryz.prog 19 #[vP b 0, vI lim] w (fun v w' => ∃ L' D', SYS w0 b ts s' L' D' ∧ DX w0 D D' ∧ v = vI d ∧ St w0 w' (L' :: D' :: F)) := by
 refine enter (vs := [vP b 0, vI lim]) 33 Tryz.func19 rfl rfl (by simp) ?_; intro a hA
 refine zs (zr (zR 1 ((4, .int .i64 0) :: _) hA rfl fun a hA => zn (zx ?_)))
 refine wp_scope_straight ?_
 refine zs (zr (zR 1 ((5, .int .i64 0) :: _) hA rfl fun a hA => zn (zx (zs ?_))))
 refine wp_label ?_
 refine zx (zs (zb ?_))
 refine wp_loop_ghost (fun m a w => ∃ (f' : Nat) (dj : Nat) (sj : SY) (L' : Chunk) (D' : Chunk), m = f' ∧ Has a 33 [(0, vP b 0), (1, vI lim), (5, vI dj)] ∧ St w0 w (L' :: D' :: F) ∧ (settleM ts f' sj dj lim = some (s', d)) ∧ (SYS w0 b ts sj L' D') ∧ (DX w0 D D')) (f)
  ⟨f, 0, s, L, D, rfl, (hA.sel [0, 1, 5] rfl), hS, hM, hY, DX.refl⟩ ?_
 clear hA hS; rintro m0 a w1 ⟨f', dj, sj, L', D', rfl, hA, hS, hM, hY, hX⟩
 refine zs (zs (zr ?_))
 obtain ⟨f2, rfl, hMc⟩ := settleM_cases hM; clear hM
 rcases hMc with ⟨hlt, e1, e2⟩ | ⟨hlt, s1, ha, hM2⟩ | ⟨hlt, hwi, s1, ok, hW0, hEnd⟩
 · refine zR 3 ((9, .bool (decide (((dj : Nat) : Int) < ((lim : Nat) : Int)))) :: (8, vI lim) :: (7, vI dj) :: _) hA rfl fun a hA => zn (zx ?_)
   have hc2 : ¬ (((dj : Nat) : Int) < ((lim : Nat) : Int)) := by omega
   replace hA := hA.rw 9 (v' := .bool false) rfl (vb_false hc2)
   refine cd_cond_f hA rfl ?_
   refine wp_exit ?_
   refine xt_exit (xt_exit (cd_exit_eq (zx (zs (zr (zR 2 ((4, vI dj) :: (32, vI dj) :: _) hA rfl fun a hA => zn (zx ?_)))))))
   refine wp_ret (xs_ret ?_)
   refine ret1 (fn := Tryz.f19) hA rfl rfl ?_
   rw [e1, e2]
   exact ⟨_, _, hY, hX, rfl, hS⟩
 · refine zR 3 ((9, .bool (decide (((dj : Nat) : Int) < ((lim : Nat) : Int)))) :: (8, vI lim) :: (7, vI dj) :: _) hA rfl fun a hA => zn (zx ?_)
   have hc3 : ((dj : Nat) : Int) < ((lim : Nat) : Int) := by omega
   replace hA := hA.rw 9 (v' := .bool true) rfl (vb_true hc3)
   refine cd_cond_t hA rfl (zk (zx (zb (zs (zs (zr (zR 2 ((11, .agg #[.int .u8 0, .int .i64 0, .int .i64 0]) :: (10, vP b 0) :: _) hA rfl fun a hA => ?_)))))))
   refine st_call0 hA rfl rfl rfl isfn15 rfl rfl (by decide) (do_arr15 hS hY ha) ?_
   clear hA hS; rintro _ w4 a ⟨L2, D2, hY2, hX2, rfl, hS⟩ hA
   refine zR 1 ((13, .bool true) :: _) hA rfl fun a hA => zn (zx (cd_cond_t hA rfl (zs (zr (zR 2 ((15, .int .i64 (IntKind.i64.wrap (((dj : Nat) : Int) + 1))) :: (14, vI dj) :: _) hA rfl fun a hA => ?_)))))
   replace hA := hA.rw 15 (v' := vI (dj + 1)) rfl (wr64 (by omega) (by omega) (by omega))
   refine zR 1 ((5, vI (dj + 1)) :: _) hA rfl fun a hA => zn (zx ?_)
   refine wp_exit ?_
   refine xt_exit (cd_exit_eq ?_)
   exact lp_next _ (by omega) ⟨f2, (dj + 1), s1, L2, D2, rfl, (hA.sel [0, 1, 5] rfl), hS, hM2, hY2, (hX.trans hX2)⟩
 · refine zR 3 ((9, .bool (decide (((dj : Nat) : Int) < ((lim : Nat) : Int)))) :: (8, vI lim) :: (7, vI dj) :: _) hA rfl fun a hA => zn (zx ?_)
   have hc5 : ((dj : Nat) : Int) < ((lim : Nat) : Int) := by omega
   replace hA := hA.rw 9 (v' := .bool true) rfl (vb_true hc5)
   refine cd_cond_t hA rfl (zk (zx (zb (zs (zs (zr (zR 2 ((11, .agg #[.int .u8 0, .int .i64 0, .int .i64 0]) :: (10, vP b 0) :: _) hA rfl fun a hA => ?_)))))))
   refine st_call0 hA rfl rfl rfl isfn15 rfl rfl (by decide) (do_arr015 hS hY hwi) ?_
   clear hA hS; rintro _ w6 a ⟨L2, hY2, rfl, hS⟩ hA
   refine zR 1 ((13, .bool false) :: _) hA rfl fun a hA => zn (zx (cd_cond_f hA rfl (zk (zx (zs (zs (zr ?_)))))))
   obtain ⟨bw, bo, bs, A, c, C, NL, WL, OL, hs, rfl⟩ := hY2; have hlen := hs.fn.len; have hcapb := hs.fr.rcap
   replace hS : St w0 w6 ([(b, rowO [.slice A bs.length c, vP bw 0] 77)] :: C :: NL :: WL :: OL :: D' :: F) := hS.cast (by simp)
   refine zR 3 ((18, vP b 0) :: (17, vP b 0) :: (16, vP b 0) :: _) hA rfl fun a hA => zL hA hS 0 rfl rfl rfl rfl rfl rfl rfl rfl rfl fun a hA => zR 1 ((20, vI bs.length) :: _) hA rfl fun a hA => ?_
   replace hA := hA.rw 20 (v' := vI sj.nx.length) rfl (by rw [hlen])
   refine zR 1 ((21, .int .i64 0) :: _) hA rfl fun a hA => zn (zx (zb ?_))
   replace hS : St w0 w6 (((b, rowO [.slice A bs.length c, vP bw 0] 77) :: (C ++ (NL ++ (WL ++ OL)))) :: D' :: F) := hS.cast (by simp)
   have hY9 := (show SYS w0 b ts sj _ D' from ⟨bw, bo, bs, A, c, C, _, _, _, ⟨NDS.dx DX.refl hs.fn, hs.fw, hs.fo, hs.fr⟩, rfl⟩)
   replace hS : St w0 w6 (_ :: D' :: F) := hS; revert hS hY9; generalize ((b, rowO [.slice A bs.length c, vP bw 0] 77) :: (C ++ (NL ++ (WL ++ OL)))) = L9; intro hY9 hS
   refine wp_loop_ghost (fun m a w => ∃ (i : Nat) (si : SY) (Li : Chunk) (Di : Chunk), m = sj.nx.length - i ∧ Has a 33 [(0, vP b 0), (1, vI lim), (5, vI dj), (20, vI sj.nx.length), (21, vI i)] ∧ St w0 w (Li :: Di :: F) ∧ (i ≤ sj.nx.length) ∧ (worksM ts si (sj.nx.length - i) i = some (s1, ok)) ∧ (SYS w0 b ts si Li Di) ∧ (DX w0 D' Di)) (sj.nx.length - 0)
    ⟨0, sj, L9, D', rfl, (hA.sel [0, 1, 5, 20, 21] rfl), hS, Nat.zero_le _, hW0, hY9, DX.refl⟩ ?_
   clear hA hS; rintro m0 a w7 ⟨i, si, Li, Di, rfl, hA, hS, hi, hW, hYi, hXi⟩
   refine zs (zr ?_)
   rcases worksM_cases hW with ⟨hm0, rfl, rfl⟩ | ⟨m2, hm0, hw, rfl⟩ | ⟨m2, s2, hm0, hw, hW2⟩
   · obtain ⟨hf, _⟩ | ⟨_, e1, e2⟩ := hEnd; cases hf
     refine zR 1 ((22, .bool (decide (((i : Nat) : Int) < ((sj.nx.length : Nat) : Int)))) :: _) hA rfl fun a hA => zn (zx (zs ?_))
     have hc8 : ¬ (((i : Nat) : Int) < ((sj.nx.length : Nat) : Int)) := by omega
     replace hA := hA.rw 22 (v' := .bool false) rfl (vb_false hc8)
     refine cd_cond_f hA rfl ?_
     refine wp_exit ?_
     refine xt_exit (xt_exit (cd_exit_eq (zx ?_)))
     refine wp_exit ?_
     refine cd_exit_ne (by decide) (xt_exit (cd_exit_eq (zx (zs (zr (zR 2 ((4, vI dj) :: (32, vI dj) :: _) hA rfl fun a hA => zn (zx ?_)))))))
     refine wp_ret (xs_ret ?_)
     refine ret1 (fn := Tryz.f19) hA rfl rfl ?_
     rw [e1, e2]
     exact ⟨_, _, hYi, (hX.trans hXi), rfl, hS⟩
   · obtain ⟨_, hM2⟩ | ⟨hf, _⟩ := hEnd; rotate_left; cases hf
     refine zR 1 ((22, .bool (decide (((i : Nat) : Int) < ((sj.nx.length : Nat) : Int)))) :: _) hA rfl fun a hA => zn (zx (zs ?_))
     have hc9 : ((i : Nat) : Int) < ((sj.nx.length : Nat) : Int) := by omega
     replace hA := hA.rw 22 (v' := .bool true) rfl (vb_true hc9)
     refine cd_cond_t hA rfl (zk (zx (zs (zb (zs (zr (zR 2 ((6, vI i) :: (23, vI i) :: _) hA rfl fun a hA => zn (zx (zs (zr (zR 3 ((26, .agg #[.int .u8 3, vI i, .int .i64 0]) :: (25, vI i) :: (24, vP b 0) :: _) hA rfl fun a hA => ?_)))))))))))
     refine st_call0 hA rfl rfl rfl isfn15 rfl rfl (by decide) (do_work_t15 hS hYi hw) ?_
     clear hA hS; rintro _ w10 a ⟨L4, D4, hY4, hX4, rfl, hS⟩ hA
     refine zR 1 ((28, .bool true) :: _) hA rfl fun a hA => zn (zx (cd_cond_t hA rfl (zs (zr (zR 2 ((30, .int .i64 (IntKind.i64.wrap (((dj : Nat) : Int) + 1))) :: (29, vI dj) :: _) hA rfl fun a hA => ?_)))))
     replace hA := hA.rw 30 (v' := vI (dj + 1)) rfl (wr64 (by omega) (by omega) (by omega))
     refine zR 1 ((5, vI (dj + 1)) :: _) hA rfl fun a hA => zn (zx ?_)
     refine wp_exit ?_
     refine cd_exit_ne (by decide) (xt_exit (xt_exit (cd_exit_ne (by decide) (xt_exit (cd_exit_eq ?_)))))
     exact lp_next _ (by omega) ⟨f2, (dj + 1), s1, L4, D4, rfl, (hA.sel [0, 1, 5] rfl), hS, hM2, hY4, (hX.trans (hXi.trans hX4))⟩
   · refine zR 1 ((22, .bool (decide (((i : Nat) : Int) < ((sj.nx.length : Nat) : Int)))) :: _) hA rfl fun a hA => zn (zx (zs ?_))
     have hc11 : ((i : Nat) : Int) < ((sj.nx.length : Nat) : Int) := by omega
     replace hA := hA.rw 22 (v' := .bool true) rfl (vb_true hc11)
     refine cd_cond_t hA rfl (zk (zx (zs (zb (zs (zr (zR 2 ((6, vI i) :: (23, vI i) :: _) hA rfl fun a hA => zn (zx (zs (zr (zR 3 ((26, .agg #[.int .u8 3, vI i, .int .i64 0]) :: (25, vI i) :: (24, vP b 0) :: _) hA rfl fun a hA => ?_)))))))))))
     refine st_call0 hA rfl rfl rfl isfn15 rfl rfl (by decide) (do_work_f15 hS hYi hw) ?_
     clear hA hS; rintro _ w12 a ⟨L4, D4, hY4, hX4, rfl, hS⟩ hA
     refine zR 1 ((28, .bool false) :: _) hA rfl fun a hA => zn (zx (cd_cond_f hA rfl (zk (zm (zx (zr (zR 1 ((31, .int .i64 (IntKind.i64.wrap (((i : Nat) : Int) + 1))) :: _) hA rfl fun a hA => ?_)))))))
     replace hA := hA.rw 31 (v' := vI (i + 1)) rfl (wr64 (by omega) (by omega) (by omega))
     refine zR 1 ((21, vI (i + 1)) :: _) hA rfl fun a hA => zn ?_
     exact lp_next _ (by omega) ⟨(i + 1), s2, L4, D4, rfl, (hA.sel [0, 1, 5, 20, 21] rfl), hS, by omega, (show worksM ts s2 (sj.nx.length - (i + 1)) (i + 1) = some (s1, ok) by rw [show sj.nx.length - (i + 1) = m2 by omega]; exact hW2), hY4, (hXi.trans hX4)⟩
end Go.Proofs.YthiakdmhpfkjbaaGreatDoor

set_option linter.unusedVariables false
set_option linter.unusedSimpArgs false
set_option maxRecDepth 4000
namespace Go.Proofs.YthiakdmhpfkjbaaGreatDoor
open Go Go.SK
def encKi (x : Nat) : List Value := [vI x]
theorem encKi_ok : Enc encKi 1 := ⟨fun _ => rfl, fun x u hu => by simp only [encKi, List.mem_cons, List.not_mem_nil, or_false] at hu; rcases hu with rfl <;> rfl⟩
def kNC (c : NC) (j ki n : Nat) : NC := ⟨j, ki, n, c.pc, c.wa, c.tr, c.ag, c.pg, c.ro, 0, 0, 0, 0, 0, 0, 0, 0⟩
def bootM (c : NC) (en : List (Nat × Nat × Nat)) (ts : List Nat) (k : Nat) : Option (NX × List (Nat × Nat × Nat) × Nat) :=
  match ts[k]?, ts[k + 1]? with
  | some g, some rp =>
    if g < 281474976710656 ∧ (∀ x ∈ en, ¬ (x.1 = 0 ∧ x.2.1 = g % 281474976710656)) ∧ en.length ≤ 900 ∧ 1 ≤ c.wa ∧ 1 ≤ c.tr ∧ 1 ≤ c.ag ∧ c.ro ≤ 64 then
      if c.ki = 0 then some (.up ⟨⟨c.id, 0, c.no, c.pc, c.wa, c.tr, c.ag, c.pg, c.ro, c.now, c.sent, rp, 0, 0, 0, 0, 0⟩, [], [], [], [], [], [], []⟩ .none, en ++ [(0, g % 281474976710656, rp)], k + 1 + 1)
      else
        match ts[k + 1 + 1]?, ts[k + 1 + 1 + 1]?, ts[k + 1 + 1 + 1 + 1]? with
        | some g2, some po, some x =>
          if g2 < 281474976710656 ∧ (∀ x ∈ en ++ [(0, g % 281474976710656, rp)], ¬ (x.1 = 0 ∧ x.2.1 = g2 % 281474976710656)) then
            if c.ki = 1 ∧ c.pg = 10 then some (.up ⟨⟨c.id, 1, c.no, c.pc, c.wa, c.tr, c.ag, 10, c.ro, c.now, c.sent, rp, po, po, 0, 255, x⟩, [], [], [], [], [], [], []⟩ .other, en ++ [(0, g % 281474976710656, rp)] ++ [(0, g2 % 281474976710656, po)], k + 1 + 1 + 1 + 1 + 1)
            else if c.ki = 2 then some (.up ⟨⟨c.id, 2, c.no, c.pc, c.wa, c.tr, c.ag, c.pg, c.ro, c.now, c.sent, rp, po, po, 0, 255, x⟩, [], [], [], [], [], [], []⟩ .other, en ++ [(0, g % 281474976710656, rp)] ++ [(0, g2 % 281474976710656, po)], k + 1 + 1 + 1 + 1 + 1)
            else if c.ki = 3 then some (.up ⟨⟨c.id, 3, c.no, c.pc, c.wa, c.tr, c.ag, c.pg, c.ro, c.now, c.sent, rp, po, po, 0, 255, x⟩, [], [], [], [], [], [], []⟩ (.file [(true, x, 0, -1, 24)] [] 0 0), en ++ [(0, g % 281474976710656, rp)] ++ [(0, g2 % 281474976710656, po)], k + 1 + 1 + 1 + 1 + 1)
            else none
          else none
        | _, _, _ => none
    else none
  | _, _ => none
theorem bootX29 {w0 w : World} {F : List Chunk} {b bo : Nat} {c : NC} {L D O : Chunk} {en en' : List (Nat × Nat × Nat)} {ts : List Nat} {k k' : Nat} {x' : NX} (hS : St w0 w (L :: O :: F)) (hN : NOD w0 b bo (.down c) L D) (hO : ORR bo en ts k O) (h : bootM c en ts k = some (x', en', k')) :
    Ret Tryz.prog 29 #[vP b 0] w (fun v w' => ∃ L' O', NOD w0 b bo x' L' D ∧ ORR bo en' ts k' O' ∧ v = .nilIface ∧ St w0 w' (L' :: O' :: F)) := by
  have hL : L = _ := hN
  subst hL
  rw [bootM] at h
  cases hg : ts[k]? with
  | none => rw [hg] at h; cases h
  | some g =>
    rw [hg] at h
    cases hp : ts[k + 1]? with
    | none => rw [hp] at h; cases h
    | some rp =>
      rw [hp] at h; dsimp only at h
      by_cases hc : g < 281474976710656 ∧ (∀ x ∈ en, ¬ (x.1 = 0 ∧ x.2.1 = g % 281474976710656)) ∧ en.length ≤ 900 ∧ 1 ≤ c.wa ∧ 1 ≤ c.tr ∧ 1 ≤ c.ag ∧ c.ro ≤ 64
      · rw [if_pos hc] at h
        obtain ⟨c1, c2, c3, c4, c5, c6, c7⟩ := hc
        by_cases k0 : c.ki = 0
        · rw [if_pos k0] at h
          injection h with h; injection h with e1 h; injection h with e2 e3; subst e1; subst e2; subst e3
          rw [k0] at hS
          exact nboot0_29 hS hO hg hp c1 c2 c3 c4 c5 c6 c7
        · rw [if_neg k0] at h
          cases h2 : ts[k + 1 + 1]? with
          | none => rw [h2] at h; cases h
          | some g2 =>
            rw [h2] at h
            cases h3 : ts[k + 1 + 1 + 1]? with
            | none => rw [h3] at h; cases h
            | some po =>
              rw [h3] at h
              cases h4 : ts[k + 1 + 1 + 1 + 1]? with
              | none => rw [h4] at h; cases h
              | some x =>
                rw [h4] at h; dsimp only at h
                by_cases hd : g2 < 281474976710656 ∧ (∀ x ∈ en ++ [(0, g % 281474976710656, rp)], ¬ (x.1 = 0 ∧ x.2.1 = g2 % 281474976710656))
                · rw [if_pos hd] at h
                  by_cases k1 : c.ki = 1 ∧ c.pg = 10
                  · rw [if_pos k1] at h
                    injection h with h; injection h with e1 h; injection h with e2 e3; subst e1; subst e2; subst e3
                    rw [k1.1, k1.2] at hS
                    exact nboot1_29 hS hO hg hp c1 c2 c3 c4 c5 c6 c7 h2 h3 h4 hd.1 hd.2
                  · rw [if_neg k1] at h
                    by_cases k2 : c.ki = 2
                    · rw [if_pos k2] at h
                      injection h with h; injection h with e1 h; injection h with e2 e3; subst e1; subst e2; subst e3
                      rw [k2] at hS
                      exact nboot2_29 hS hO hg hp c1 c2 c3 c4 c5 c6 c7 h2 h3 h4 hd.1 hd.2
                    · rw [if_neg k2] at h
                      by_cases k3 : c.ki = 3
                      · rw [if_pos k3] at h
                        injection h with h; injection h with e1 h; injection h with e2 e3; subst e1; subst e2; subst e3
                        rw [k3] at hS
                        exact nboot3_29 hS hO hg hp c1 c2 c3 c4 c5 c6 c7 h2 h3 h4 hd.1 hd.2
                      · rw [if_neg k3] at h; cases h
                · rw [if_neg hd] at h; cases h
      · rw [if_neg hc] at h; cases h
def ofsM (ks : List Nat) (c : NC) (ts : List Nat) : Nat → Option (List NX × List (Nat × Nat × Nat) × Nat)
  | 0 => some ([], [], 0)
  | j + 1 => match ofsM ks c ts j with
    | none => none
    | some (nx, en, k) => match ks[j]? with
      | none => none
      | some ki => match bootM (kNC c j ki ks.length) en ts k with
        | none => none
        | some (x, en', k') => some (nx ++ [x], en', k')
def ofM (ks : List Nat) (c : NC) (ts : List Nat) : Option SY := (ofsM ks c ts ks.length).map (fun r => ⟨r.1, [], r.2.1, r.2.2⟩)
theorem ofsM_le {ks : List Nat} {c : NC} {ts : List Nat} {n : Nat} {r : List NX × List (Nat × Nat × Nat) × Nat} (h : ofsM ks c ts n = some r) : ∀ j ≤ n, ∃ y, ofsM ks c ts j = some y := by
  induction n generalizing r with
  | zero => intro j hj; obtain rfl : j = 0 := by omega
            exact ⟨r, h⟩
  | succ n ih =>
    intro j hj
    by_cases hjn : j = n + 1
    · subst hjn; exact ⟨r, h⟩
    · rw [ofsM] at h
      cases hm : ofsM ks c ts n with
      | none => rw [hm] at h; cases h
      | some y => exact ih hm j (by omega)
theorem ofsM_some {ks : List Nat} {c : NC} {ts : List Nat} {j k : Nat} {nx : List NX} {en : List (Nat × Nat × Nat)} {y : List NX × List (Nat × Nat × Nat) × Nat} (hj : ofsM ks c ts j = some (nx, en, k)) (h : ofsM ks c ts (j + 1) = some y) : ∃ ki x en' k', ks[j]? = some ki ∧ bootM (kNC c j ki ks.length) en ts k = some (x, en', k') ∧ y = (nx ++ [x], en', k') := by
  rw [ofsM, hj] at h; dsimp only at h
  cases hk : ks[j]? with
  | none => rw [hk] at h; cases h
  | some ki =>
    rw [hk] at h; dsimp only at h
    cases hb : bootM (kNC c j ki ks.length) en ts k with
    | none => rw [hb] at h; cases h
    | some r =>
      obtain ⟨x, en', k'⟩ := r
      rw [hb] at h; injection h with h
      exact ⟨ki, x, en', k', rfl, hb, h.symm⟩
theorem ofM_some {ks : List Nat} {c : NC} {ts : List Nat} {s : SY} (h : ofM ks c ts = some s) : ∃ nx en k, ofsM ks c ts ks.length = some (nx, en, k) ∧ s = ⟨nx, [], en, k⟩ := by
  rw [ofM] at h
  cases hm : ofsM ks c ts ks.length with
  | none => rw [hm] at h; cases h
  | some r =>
    rw [hm] at h; injection h with h
    exact ⟨r.1, r.2.1, r.2.2, rfl, h.symm⟩
theorem ofsM_len {ks : List Nat} {c : NC} {ts : List Nat} : ∀ {j : Nat} {nx : List NX} {en : List (Nat × Nat × Nat)} {k : Nat}, ofsM ks c ts j = some (nx, en, k) → nx.length = j
  | 0, nx, en, k, h => by injection h with h; injection h with h _; subst h; rfl
  | j + 1, nx, en, k, h => by
    obtain ⟨⟨nx0, en0, k0⟩, h0⟩ := ofsM_le h j (by omega)
    obtain ⟨ki, x, en', k', h1, h2, h3⟩ := ofsM_some h0 h
    injection h3 with h3 _; subst h3
    rw [List.length_append, ofsM_len h0]; rfl
set_option maxHeartbeats 4000000 in
theorem of8 {w0 w : World} {F : List Chunk} {ks : List Nat} {kv de : Value} {c : NC} {ts0 ts : List Nat} {s : SY} (hS : St w0 w F) (hk : RdS w0 F 1 kv ks.length (rows encKi ks)) (he : RdS w0 F 1 de ts0.length (rows encW ts0)) (hel : ts0.length ≤ 10000) (hew : ∀ x ∈ ts0, x < 2 ^ 64) (hts : cutl ts0 = ts) (hks1 : 1 ≤ ks.length) (hks2 : ks.length ≤ 8) (hM : ofM ks c ts = some s) :
 Ret Tryz.prog 8 #[kv, .agg #[vI c.no, vI c.pc, vI c.wa, vI c.tr, vI c.ag, vI c.pg, vI c.ro], de] w (fun v w' => ∃ b L, SYS w0 b ts s L [] ∧ v = .tuple #[vP b 0, .nilIface] ∧ St w0 w' (L :: [] :: F)) := by
 obtain ⟨Bk, dk, rfl, hmk, hxk⟩ := (hk _ hS).open'
 obtain ⟨nx, en, k, hof, rfl⟩ := ofM_some hM
 refine enter (vs := [.slice Bk ks.length dk, .agg #[vI c.no, vI c.pc, vI c.wa, vI c.tr, vI c.ag, vI c.pg, vI c.ro], de]) 58 Tryz.func8 rfl rfl (by simp) ?_; intro a hA
 refine zs (zr ?_)
 refine st_box hA hS [vI c.no, vI c.pc, vI c.wa, vI c.tr, vI c.ag, vI c.pg, vI c.ro] rfl rfl rfl rfl rfl (by decide) fun b1 w2 a hS hA => ?_
 refine zR 2 ((7, .nilIface) :: (6, .pointer none) :: _) hA rfl fun a hA => zn (zx (zs (zs (zr (zR 4 ((16, .bool (decide (((ks.length : Nat) : Int) < 1))) :: (15, .bool (decide (((ks.length : Nat) : Int) < 1))) :: (14, vI ks.length) :: (13, .slice Bk ks.length dk) :: _) hA rfl fun a hA => ?_)))))
 have hc3 : ¬ (((ks.length : Nat) : Int) < 1) := by omega
 replace hA := hA.rw 15 (v' := .bool false) rfl (vb_false hc3)
 replace hA := hA.rw 16 (v' := .bool false) rfl (vb_false hc3)
 refine zR 4 ((20, .bool (decide (((ks.length : Nat) : Int) > 8))) :: (19, .bool (decide (((ks.length : Nat) : Int) > 8))) :: (18, vI ks.length) :: (17, .slice Bk ks.length dk) :: _) hA rfl fun a hA => zn (zx ?_)
 have hc4 : ¬ (((ks.length : Nat) : Int) > 8) := by omega
 replace hA := hA.rw 20 (v' := .bool false) rfl (vb_false hc4)
 refine cd_cond_f hA rfl (zk (zx (zs (zr (zR 3 ((24, vP b1 0) :: (23, vI ks.length) :: (22, .slice Bk ks.length dk) :: _) hA rfl fun a hA => ?_)))))
 refine st_store tbOk hA hS [vI ks.length] [vI ks.length, vI c.pc, vI c.wa, vI c.tr, vI c.ag, vI c.pg, vI c.ro] rfl rfl rfl rfl rfl rfl (by intro u hu; rw [List.mem_singleton.1 hu]; rfl) (zle rfl) rfl rfl rfl fun w5 hS => ?_
 refine zn (zx (zs (zr (zR 1 ((25, .agg #[.slice none 0 0]) :: _) hA rfl fun a hA => ?_))))
 refine st_box hA hS [.slice none 0 0] rfl rfl rfl rfl rfl (by decide) fun b6 w7 a hS hA => ?_
 refine zR 1 ((27, .agg #[.slice none 0 0, vP b6 0]) :: _) hA rfl fun a hA => ?_
 refine st_box hA hS [.slice none 0 0, vP b6 0] rfl rfl rfl rfl rfl (by decide) fun b8 w9 a hS hA => ?_
 refine zR 1 ((8, vP b8 0) :: _) hA rfl fun a hA => zn (zx (zs (zr (zR 1 ((29, de) :: _) hA rfl fun a hA => ?_))))
 refine st_call0 hA rfl rfl rfl isfn27 rfl rfl (by decide) (tape_of27 hS (fun w9 h9 => he w9 (h9.tail 3 rfl)) hel hew) ?_
 clear hA hS; rintro _ w10 a ⟨bt, LT, hT, rfl, hS⟩ hA
 refine st_call0 hA rfl rfl rfl isfn26 rfl rfl (by decide) (oracle_of26 hS hT) ?_
 clear hA hS; rintro _ w11 a ⟨bo, OL, hO, rfl, hS⟩ hA; rw [hts] at hO
 refine zR 1 ((9, vP bo 0) :: _) hA rfl fun a hA => zn (zx (zs (zs (zr (zR 3 ((34, .int .i64 0) :: (33, vI ks.length) :: (32, .slice Bk ks.length dk) :: _) hA rfl fun a hA => zn (zx (zb ?_)))))))
 have hks0 : ks.length ≤ 8 := hks2
 replace hS := hS.nil
 replace hS := hS.nil
 replace hS := hS.m4.m2.m2.m4
 refine wp_loop_ghost (fun m a w => ∃ (j : Nat) (nxj : List NX) (enj : List (Nat × Nat × Nat)) (kj : Nat) (bs' : List Nat) (A' : Option Addr) (c' : Nat) (C' : Chunk) (NL' : Chunk) (OL' : Chunk), m = ks.length - j ∧ Has a 58 [(4, vP b1 0), (8, vP b8 0), (9, vP bo 0), (32, .slice Bk ks.length dk), (33, vI ks.length), (34, vI j)] ∧ St w0 w ([(b8, rowO [.slice A' bs'.length c', vP b6 0] 77)] :: C' :: NL' :: [(b6, rowO [.slice none 0 0] 74)] :: OL' :: [(b1, rowO [vI ks.length, vI c.pc, vI c.wa, vI c.tr, vI c.ag, vI c.pg, vI c.ro] 32)] :: F) ∧ (j ≤ ks.length) ∧ (ofsM ks c ts j = some (nxj, enj, kj)) ∧ (NDS w0 bo bs' nxj NL' []) ∧ (ORR bo enj ts kj OL') ∧ (Own 82 1 (.slice A' bs'.length c') bs'.length (rows encPt bs') C')) (ks.length - 0)
  ⟨0, ([]), ([]), 0, ([]), none, 0, ([]), ([]), OL, rfl, (hA.sel [4, 8, 9, 32, 33, 34] rfl), hS, Nat.zero_le _, rfl, rfl, hO, (Own.nil _ _)⟩ ?_
 clear hA hS; rintro m0 a w12 ⟨j, nxj, enj, kj, bs', A', c', C', NL', OL', rfl, hA, hS, hj, hoj, hND, hO, hr⟩
 refine zs (zr (zR 1 ((35, .bool (decide (((j : Nat) : Int) < ((ks.length : Nat) : Int)))) :: _) hA rfl fun a hA => zn (zx (zs ?_))))
 by_cases hc13 : ((j : Nat) : Int) < ((ks.length : Nat) : Int)
 · first
   | (exfalso; omega)
   | (replace hA := hA.rw 35 (v' := .bool true) rfl (vb_true hc13)
      refine cd_cond_t hA rfl (zk (zx (zs (zb (zs (zr ?_))))))
      obtain ⟨y, hof2⟩ := ofsM_le hof (j + 1) (by omega); obtain ⟨ki, x, en', k', hki, hb, rfl⟩ := ofsM_some hoj hof2; have hof3 := hof2; have hbl := hND.len; have hnl : nxj.length = j := ofsM_len hoj
      refine zR 1 ((36, vI j) :: _) hA rfl fun a hA => ?_
      obtain ⟨b14, o15, rfl⟩ := (hk _ (hS.tail 6 rfl)).isSome (k := j) (by omega)
      refine st_val hA rfl rfl (by decide) (rn_indexAddr tbOk hA j (o15 + j) rfl rfl rfl rfl rfl rfl (by rfl) (by omega) (by first | rfl | simp [Nat.mul_one, Nat.zero_add] | omega)) fun a hA => st_val hA rfl rfl (by decide) (rn_load tbOk hA rfl rfl rfl rfl ((hk _ (hS.tail 6 rfl)).elem0 (k := j) encKi_ok hki rfl)) fun a hA => zR 2 ((11, vI ki) :: (10, vI j) :: _) hA rfl fun a hA => zn (zx (zs (zr (zR 2 ((40, vI ki) :: (39, vI j) :: _) hA rfl fun a hA => zLA hA hS 5 [vI ks.length, vI c.pc, vI c.wa, vI c.tr, vI c.ag, vI c.pg, vI c.ro] rfl rfl rfl rfl rfl rfl rfl rfl rfl rfl fun a hA => zR 1 ((42, vP bo 0) :: _) hA rfl fun a hA => ?_))))
      refine st_call0 hA rfl rfl rfl isfn28 rfl rfl (by decide) (node_of28 hS (kNC c j ki ks.length) bo) ?_
      clear hA hS; rintro _ w16 a ⟨bn, rfl, hS⟩ hA
      have hN9 : NOD w0 bn bo (.down (kNC c j ki ks.length)) _ [] := rfl
      refine zR 1 ((12, vP bn 0) :: _) hA rfl fun a hA => zn (zx (zs (zr (zR 1 ((44, vP bn 0) :: _) hA rfl fun a hA => ?_))))
      replace hS := hS.m5.m1
      refine st_call0 hA rfl rfl rfl isfn29 rfl rfl (by decide) (bootX29 hS hN9 hO hb) ?_
      clear hA hS; rintro _ w17 a ⟨Ln, O2, hN2, hO2, rfl, hS⟩ hA
      refine zn (zx (zr (zR 4 ((49, vP b8 0) :: (48, vP b8 0) :: (47, vP b8 0) :: (46, vP b8 0) :: _) hA rfl fun a hA => zL hA hS 2 rfl rfl rfl rfl rfl rfl rfl rfl rfl fun a hA => zR 1 ((51, vP bn 0) :: _) hA rfl fun a hA => ?_)))
      refine st_buildSlice tbOk hA hS [vP bn 0] rfl rfl rfl rfl rfl (by decide) (by kernel_rfl) rfl rfl (by decide) fun b18 w19 a hS hA => ?_
      replace hS := hS.m4
      refine st_append tbOk hA (m := bs'.length) (q := 1) (xs := rows encPt bs') (news := rows encPt ([bn] : List Nat)) rfl rfl rfl rfl rfl rfl rfl rfl (by decide) hr hS (((Own.full (T := 82) (size := 1) (g := b18) (m := 1) rfl (by decide)).rd (hS.own_ 1 rfl)).x) (rows_one encPt_ok _) (maxLen_le (by first | omega | (simp only [List.length_append, be_length, capb_length, List.length_cons, List.length_nil, List.length_drop, List.length_take]; omega))) (by show (bs'.length + 1) * 8 ≤ 140737488355328; first | omega | (simp only [List.length_append, be_length, capb_length, List.length_cons, List.length_nil, List.length_drop, List.length_take]; omega)) rfl rfl (by decide) ?_
      clear hA hS; intro v20 w21 C22 a hO22 hS hA
      replace hO22 := Own.app (l := bs') (l2 := ([bn] : List Nat)) hO22
      obtain ⟨A23, c24, rfl, hmc24, hxc24⟩ := hO22.open'
      refine zR 2 ((55, vP b8 0) :: (54, vP b8 0) :: _) hA rfl fun a hA => ?_
      replace hS := hS.m4
      refine st_store tbOk hA hS [.slice A23 ((bs' ++ ([bn] : List Nat)).length) c24] [.slice A23 ((bs' ++ ([bn] : List Nat)).length) c24, vP b6 0] rfl rfl rfl rfl rfl rfl (by intro u hu; rw [List.mem_singleton.1 hu]; rfl) (zle rfl) rfl rfl rfl fun w25 hS => ?_
      refine zn (zm (zx (zr (zR 1 ((56, .int .i64 (IntKind.i64.wrap (((j : Nat) : Int) + 1))) :: _) hA rfl fun a hA => ?_))))
      replace hA := hA.rw 56 (v' := vI (j + 1)) rfl (wr64 (by omega) (by omega) (by omega))
      refine zR 1 ((34, vI (j + 1)) :: _) hA rfl fun a hA => zn ?_
      replace hS := hS.d2.m5.m3.m5.m4.m4
      replace hS : St w0 w25 ([(b8, rowO [.slice A23 ((bs' ++ ([bn] : List Nat)).length) c24, vP b6 0] 77)] :: C22 :: (NL' ++ Ln) :: [(b6, rowO [.slice none 0 0] 74)] :: O2 :: [(b1, rowO [vI ks.length, vI c.pc, vI c.wa, vI c.tr, vI c.ag, vI c.pg, vI c.ro] 32)] :: F) := hS.cast (by simp)
      exact lp_next _ (by omega) ⟨(j + 1), (nxj ++ [x]), en', k', (bs' ++ [bn]), A23, c24, C22, (NL' ++ Ln), O2, rfl, (hA.sel [4, 8, 9, 32, 33, 34] rfl), hS, by omega, hof3, (NDS.app hN2 hND), hO2, hO22⟩)
 · first
   | (exfalso; omega)
   | (replace hA := hA.rw 35 (v' := .bool false) rfl (vb_false hc13)
      refine cd_cond_f hA rfl ?_
      refine wp_exit ?_
      refine xt_exit (xt_exit (cd_exit_eq (zx (zs (zr (zR 3 ((7, .nilIface) :: (6, vP b8 0) :: (57, vP b8 0) :: _) hA rfl fun a hA => zn (zx ?_)))))))
      refine wp_ret ?_
      refine ret2 (fn := Tryz.f8) hA rfl rfl rfl ?_
      have hj9 : j = ks.length := by omega
      subst hj9; rw [hof] at hoj; injection hoj with hoj; injection hoj with e1 hoj; injection hoj with e2 e3; subst e1; subst e2; subst e3
      replace hS := hS.d5
      replace hS : St w0 w12 (((b8, rowO [.slice A' bs'.length c', vP b6 0] 77) :: (C' ++ (NL' ++ (([(b6, rowO [.slice none 0 0] 74)] ++ []) ++ OL')))) :: [] :: F) := hS.cast (by simp)
      exact ⟨_, _, ⟨_, bo, bs', A', c', C', NL', _, OL', ⟨hND, ⟨[], ⟨_, [], Own.nil _ _, rfl⟩, PKS.nil⟩, hO, hr⟩, rfl⟩, rfl, hS⟩)
end Go.Proofs.YthiakdmhpfkjbaaGreatDoor
