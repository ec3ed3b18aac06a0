import Derived.Test.YthiakdmhpfkjbaaGreatDoorZR3
set_option linter.unusedVariables false
set_option linter.unusedSimpArgs false
set_option linter.unusedVariables false
set_option linter.unusedSimpArgs false
set_option maxRecDepth 4000
namespace Go.Proofs.YthiakdmhpfkjbaaGreatDoor
open Go Go.SK
abbrev FC := Nat × Option Addr × Nat × List UInt8
def DR (w0 : World) (D : Chunk) (A : Option Addr) (c : Nat) (bs : List UInt8) : Prop := ∀ w', St w0 w' [D] → Rd w' 1 (.slice A bs.length c) bs.length (rows encB bs)
theorem DR.left {w0 : World} {D E : Chunk} {A : Option Addr} {c : Nat} {bs : List UInt8} (h : DR w0 D A c bs) : DR w0 (E ++ D) A c bs := fun w' hS => h w' hS.split.drop1
theorem DR.right {w0 : World} {D E : Chunk} {A : Option Addr} {c : Nat} {bs : List UInt8} (h : DR w0 D A c bs) : DR w0 (D ++ E) A c bs := fun w' hS => h w' hS.split.drop2
theorem DR.new {w0 : World} {T c : Nat} {A : Option Addr} {bs : List UInt8} {C : Chunk} (ho : Own T 1 (.slice A bs.length c) bs.length (rows encB bs) C) : DR w0 C A c bs := fun w' hS => ho.rd (hS.own_ 0 rfl)
theorem shr32 {p q : Nat} (hq : q < 4294967296) : ((p * 4294967296 + q : Nat) : Int) / 2 ^ min (32 : Int).toNat 64 = ((p : Nat) : Int) := by
  rw [show min (32 : Int).toNat 64 = 32 from rfl, show (2 : Int) ^ 32 = 4294967296 from rfl]; omega
def mapvs (fc : List FC) : List (Int × Value) := fc.map (fun x => (((x.1 : Nat) : Int), Value.slice x.2.1 x.2.2.2.length x.2.2.1))
def fkey (x : FC) : Nat × List UInt8 := (x.1, x.2.2.2)
theorem mapvs_app (fc : List FC) (x : FC) : mapvs (fc ++ [x]) = mapvs fc ++ [(((x.1 : Nat) : Int), Value.slice x.2.1 x.2.2.2.length x.2.2.1)] := by rw [mapvs, List.map_append]; rfl
theorem mapvs_no {fc : List FC} {fl : List (Nat × List UInt8)} {k : Nat} (h : fc.map fkey = fl) (hk : ∀ x ∈ fl, x.1 < k) : ∀ p ∈ mapvs fc, ¬ p.1 = ((k : Nat) : Int) := fun p hp => by
  obtain ⟨x, hx, rfl⟩ := List.mem_map.1 hp
  have := hk _ (h ▸ List.mem_map_of_mem (f := fkey) hx)
  simp only [fkey] at this
  show ¬ ((x.1 : Nat) : Int) = _
  omega
theorem mapvs_neg {fc : List FC} : ∀ p ∈ mapvs fc, ¬ p.1 = -1 := fun p hp => by
  obtain ⟨x, hx, rfl⟩ := List.mem_map.1 hp
  show ¬ ((x.1 : Nat) : Int) = _
  omega
theorem mapvs_hit {fc : List FC} {fl : List (Nat × List UInt8)} {j k : Nat} {bs : List UInt8} (h : fc.map fkey = fl) (hj : fl[j]? = some (k, bs)) : ∃ A c, fc[j]? = some (k, A, c, bs) ∧ (mapvs fc)[j]? = some (((k : Nat) : Int), Value.slice A bs.length c) := by
  rw [← h, List.getElem?_map] at hj
  cases hx : fc[j]? with
  | none => rw [hx] at hj; cases hj
  | some x =>
    rw [hx] at hj; injection hj with hj; obtain ⟨k2, A, c, b2⟩ := x
    injection hj with h1 h2; subst h1; subst h2
    exact ⟨A, c, rfl, by rw [mapvs, List.getElem?_map, hx]; rfl⟩
theorem mapvs_bef {fc : List FC} {fl : List (Nat × List UInt8)} {j k : Nat} (h : fc.map fkey = fl) (hn : ∀ (q : Nat) (y : Nat × List UInt8), q < j → fl[q]? = some y → ¬ y.1 = k) : ∀ (q : Nat) (p : Int × Value), q < j → (mapvs fc)[q]? = some p → ¬ p.1 = ((k : Nat) : Int) := fun q p hq hp => by
  rw [mapvs, List.getElem?_map] at hp
  cases hx : fc[q]? with
  | none => rw [hx] at hp; cases hp
  | some x =>
    rw [hx] at hp; injection hp with hp; subst hp
    have := hn q (fkey x) hq (by rw [← h, List.getElem?_map, hx]; rfl)
    simp only [fkey] at this
    show ¬ ((x.1 : Nat) : Int) = _
    omega
def FBR (w0 : World) (bf bt po bo : Nat) (os : List (Bool × Nat × Int × Int × Int)) (fl : List (Nat × List UInt8)) (nx bb : Nat) (L D : Chunk) : Prop := ∃ m ob LT fc, OBR bt po bo os LT ∧ MapO .i64 (mapvs fc) ob ∧ fc.map fkey = fl ∧ (∀ x ∈ fc, DR w0 D x.2.1 x.2.2.1 x.2.2.2) ∧ L = (bf, rowO [.map (some m), vI nx, vI bb, vP bt 0] 263) :: ((m, ob) :: LT)
theorem fdd_app {w0 : World} {D C : Chunk} {fc : List FC} {k c : Nat} {A : Option Addr} {bs : List UInt8} (h : ∀ x ∈ fc, DR w0 D x.2.1 x.2.2.1 x.2.2.2) (hd : DR w0 C A c bs) : ∀ x ∈ fc ++ [((k, A, c, bs) : FC)], DR w0 (C ++ D) x.2.1 x.2.2.1 x.2.2.2 := fun x hx => by
  rcases List.mem_append.1 hx with hx | hx
  · exact (h x hx).left
  · rw [List.mem_singleton.1 hx]; exact hd.right
theorem isfn212 : IsFn Tryz.prog 212 := fun args w => by kernel_rfl
theorem isfn214 : IsFn Tryz.prog 214 := fun args w => by kernel_rfl
theorem isfn215 : IsFn Tryz.prog 215 := fun args w => by kernel_rfl
theorem methNeed (b : Nat) : IsMeth Tryz.prog 260 (vP b 0) "Need" 214 := fun w => by kernel_rfl
theorem methDo (b : Nat) : IsMeth Tryz.prog 260 (vP b 0) "Do" 212 := fun w => by kernel_rfl
theorem fmake215 {w0 w : World} {F : List Chunk} {bf bt po bo nx bb : Nat} {os : List (Bool × Nat × Int × Int × Int)} {fl : List (Nat × List UInt8)} {L O D : Chunk} {en : List (Nat × Nat × Nat)} {ts : List Nat} {k : Nat} (hS : St w0 w (L :: O :: D :: F)) (hB : FBR w0 bf bt po bo os fl nx bb L D) (hO : ORR bo en ts k O) {d : Value} {bs : List UInt8} (hd : RdSX w0 (D :: F) 1 d bs.length (rows encB bs)) {x : Nat} (hall : ∀ x ∈ os, x.1 = true) (hol : os.length < 64) (hlt : ∀ x ∈ fl, x.1 < nx) (hnx : nx < 1000000) (hbb : bb + bs.length ≤ 65536) (hx : ts[k]? = some x) :
 Ret Tryz.prog 215 #[vP bf 0, d] w (fun v w' => ∃ L' O' E, FBR w0 bf bt po bo (os ++ [(true, x, 0, ((nx : Nat) : Int), 24)]) (fl ++ [(nx, bs)]) (nx + 1) (bb + bs.length) L' (E ++ D) ∧ ORR bo en ts (k + 1) O' ∧ v = .tuple #[.agg #[vU po, vW os.length, .int .u8 255, vU x, yU, yS], yN] ∧ St w0 w' (L' :: O' :: (E ++ D) :: F)) := by
 obtain ⟨B, d', rfl, hmd, hdx⟩ := (hd _ (hS.tail 2 rfl)).open'
 obtain ⟨m, ob, LT, fc, hT, hMp, hfk, hfd, rfl⟩ := hB
 replace hS : St w0 w ([(bf, rowO [.map (some m), vI nx, vI bb, vP bt 0] 263)] :: [(m, ob)] :: LT :: O :: D :: F) := hS.cast (by simp)
 refine enter (vs := [vP bf 0, .slice B bs.length d']) 62 Tryz.func215 rfl rfl (by simp) ?_; intro a hA
 refine zs (zr ?_)
 refine st_alloc tbOk hA hS [yU, yW, yB, yU, yU, yS] rfl rfl rfl rfl rfl (by decide) fun b1 w2 a hS hA => ?_
 refine zR 1 ((5, yN) :: _) hA rfl fun a hA => zn (zx (zs (zs (zr (zR 5 ((12, vP bf 2) :: (11, vP bf 0) :: (10, vP bf 0) :: (9, vI bs.length) :: (8, .slice B bs.length d') :: _) hA rfl fun a hA => zL hA hS 1 rfl rfl rfl rfl rfl rfl rfl rfl rfl fun a hA => zR 1 ((14, .int .i64 (IntKind.i64.wrap (65536 - ((bb : Nat) : Int)))) :: _) hA rfl fun a hA => ?_)))))
 replace hA := hA.rw 14 (v' := .int .i64 (65536 - ((bb : Nat) : Int))) rfl (wr64 (by omega) (by omega) (by omega))
 refine zR 1 ((15, .bool (decide (((bs.length : Nat) : Int) > 65536 - ((bb : Nat) : Int)))) :: _) hA rfl fun a hA => zn (zx ?_)
 have hc3 : ¬ (((bs.length : Nat) : Int) > 65536 - ((bb : Nat) : Int)) := by omega
 replace hA := hA.rw 15 (v' := yF) rfl (vb_false hc3)
 refine cd_cond_f hA rfl (zk (zx (zs ?_)))
 replace hS := hS.m4.m4
 refine wp_drawN (fun w' => St w0 w' ([(b1, rowO [yU, yW, yB, yU, yU, yS] 225)] :: [(bf, rowO [.map (some m), vI nx, vI bb, vP bt 0] 263)] :: [(m, ob)] :: D :: F)) [] [(0, true), (1, true), (2, true), (3, true), (4, true), (5, true), (6, true), (7, true)] 8 (.L [(9, true), (10, true), (11, true), (12, false), (13, false), (14, true)]) 12 (.L [(8, false), (9, true), (10, true), (11, true), (13, false), (14, true)]) mixed (by kernel_rfl) (by rintro c a w ⟨_, _, h, _⟩; cases h) (by rfl) (by kernel_rfl) ?_
 replace hS := hS.drew
 refine zW 3 ((21, vP bf 3) :: (20, vP bf 0) :: (19, vP bf 0) :: _) hA (hS.tail 2 rfl) rfl fun a hA => zY hA (hS.tail 2 rfl) 1 rfl rfl rfl rfl rfl rfl rfl rfl rfl rfl fun a hA => zW 3 ((25, vP bf 1) :: (24, vP bf 0) :: (23, vP bf 0) :: _) hA (hS.tail 2 rfl) rfl fun a hA => zY hA (hS.tail 2 rfl) 1 rfl rfl rfl rfl rfl rfl rfl rfl rfl rfl fun a hA => ?_
 refine dr_fork ?_ ?_
 · refine dr_b (o := _) rfl ?_
   replace hS := hS.m1.m1
   refine st_call0 hA rfl rfl rfl isfn110 rfl rfl (by decide) (create110 hS hT hO ((nx : Nat) : Int) hall (by omega) hx) ?_
   clear hA hS; rintro _ w4 a ⟨L5, O2, hT2, hO2, rfl, hS⟩ hA
   refine zi (hS.tail 2 rfl) ?_
   refine dr_subL ?_
   refine zW 3 ((29, yN) :: (28, .agg #[vU po, vW os.length, .int .u8 255, vU x]) :: (18, .tuple #[.agg #[vU po, vW os.length, .int .u8 255, vU x], yN]) :: _) hA (hS.tail 2 rfl) rfl fun a hA => dr_b (o := _) rfl ?_
   refine st_alloc tbOk hA hS [yU, yW, yB, yU] rfl rfl rfl rfl rfl (by decide) fun b6 w7 a hS hA => ?_
   refine zi (hS.tail 3 rfl) (dr_b (o := _) rfl ?_)
   refine st_store tbOk hA hS [vU po, vW os.length, .int .u8 255, vU x] [vU po, vW os.length, .int .u8 255, vU x] rfl rfl rfl rfl rfl rfl (zn1 rfl) (zle rfl) rfl rfl rfl fun w8 hS => ?_
   refine zi (hS.tail 3 rfl) (zW 1 ((7, yN) :: _) hA (hS.tail 3 rfl) rfl fun a hA => ze (zx (zs (zs (zr (zR 2 ((31, yF) :: (30, yN) :: _) hA rfl fun a hA => zn (zx (cd_cond_f hA rfl (zk (zx (zs ?_)))))))))))
   replace hS := hS.m5
   refine zD1 hS [10] [(0, true), (1, true), (2, true), (3, true), (4, true), (5, true), (6, true), (7, true), (8, true), (9, false), (10, false)] mixed (by kernel_rfl) (by rintro c a w ⟨_, _, h, _⟩; cases h) (by rfl) (by kernel_rfl) ?_
   replace hS := hS.drew
   refine zW 3 ((36, vP bf 0) :: (35, vP bf 0) :: (34, vP bf 0) :: _) hA (hS.tail 1 rfl) rfl fun a hA => zY hA (hS.tail 1 rfl) 4 rfl rfl rfl rfl rfl rfl rfl rfl rfl rfl fun a hA => zW 3 ((40, vP bf 1) :: (39, vP bf 0) :: (38, vP bf 0) :: _) hA (hS.tail 1 rfl) rfl fun a hA => zY hA (hS.tail 1 rfl) 4 rfl rfl rfl rfl rfl rfl rfl rfl rfl rfl fun a hA => zW 1 ((42, .slice B bs.length d') :: _) hA (hS.tail 1 rfl) rfl fun a hA => dr_b (o := _) rfl ?_
   refine st_call0 hA rfl rfl rfl isfn83 rfl rfl (by decide) (clonex83 hS (l := bs) (fun w' h => (hd _ (h.tail 6 rfl))) (by first | omega | (simp only [List.length_append, List.length_cons, List.length_nil]; omega))) ?_
   clear hA hS; rintro _ w12 a ⟨A9, c10, C11, hOC11, rfl, hS⟩ hA
   refine zi (hS.tail 2 rfl) (dr_b (o := _) rfl ?_)
   replace hS := hS.m1
   refine st_mapNew tbOk hA hS (by first | exact .inl rfl | exact .inr rfl) rfl rfl rfl rfl rfl rfl rfl hMp (mapvs_no hfk hlt) rfl rfl ?_; clear hS; intro w13 ob14 hS hm15
   refine dr_nil (.inl (by decide)) (ze (zx (zs (zr (zR 3 ((46, vP bf 1) :: (45, vP bf 0) :: (44, vP bf 0) :: _) hA rfl fun a hA => zL hA hS 6 rfl rfl rfl rfl rfl rfl rfl rfl rfl fun a hA => zR 1 ((48, .int .i64 (IntKind.i64.wrap (((nx : Nat) : Int) + 1))) :: _) hA rfl fun a hA => ?_)))))
   replace hA := hA.rw 48 (v' := vI (nx + 1)) rfl (wr64 (by omega) (by omega) (by omega))
   refine zR 2 ((50, vP bf 1) :: (49, vP bf 0) :: _) hA rfl fun a hA => ?_
   replace hS := hS.m6
   refine st_store tbOk hA hS [vI (nx + 1)] [.map (some m), vI (nx + 1), vI bb, vP bt 0] rfl rfl rfl rfl rfl rfl (by intro u hu; rw [List.mem_singleton.1 hu]; rfl) (zle rfl) rfl rfl rfl fun w16 hS => ?_
   refine zn (zx (zs (zr (zR 3 ((53, vP bf 2) :: (52, vP bf 0) :: (51, vP bf 0) :: _) hA rfl fun a hA => zL hA hS 0 rfl rfl rfl rfl rfl rfl rfl rfl rfl fun a hA => zR 3 ((57, .int .i64 (IntKind.i64.wrap (((bb : Nat) : Int) + ((bs.length : Nat) : Int)))) :: (56, vI bs.length) :: (55, .slice B bs.length d') :: _) hA rfl fun a hA => ?_))))
   replace hA := hA.rw 57 (v' := vI (bb + bs.length)) rfl (wr64 (by omega) (by omega) (by omega))
   refine zR 2 ((59, vP bf 2) :: (58, vP bf 0) :: _) hA rfl fun a hA => ?_
   refine st_store tbOk hA hS [vI (bb + bs.length)] [.map (some m), vI (nx + 1), vI (bb + bs.length), vP bt 0] rfl rfl rfl rfl rfl rfl (by intro u hu; rw [List.mem_singleton.1 hu]; rfl) (zle rfl) rfl rfl rfl fun w17 hS => ?_
   refine zn (zx (zs (zr (zLA hA hS 3 [vU po, vW os.length, .int .u8 255, vU x] rfl rfl rfl rfl rfl rfl rfl rfl rfl rfl fun a hA => zR 1 ((61, .agg #[vU po, vW os.length, .int .u8 255, vU x, yU, yS]) :: _) hA rfl fun a hA => ?_))))
   replace hS := hS.m6
   refine st_store tbOk hA hS [vU po, vW os.length, .int .u8 255, vU x, yU, yS] [vU po, vW os.length, .int .u8 255, vU x, yU, yS] rfl rfl rfl rfl rfl rfl (zn1 rfl) (zle rfl) rfl rfl rfl fun w18 hS => ?_
   refine zR 1 ((5, yN) :: _) hA rfl fun a hA => zn (zx ?_)
   refine wp_ret ?_
   refine retc2 tbOk (fn := Tryz.f215) (cs := [vU po, vW os.length, .int .u8 255, vU x, yU, yS]) hA rfl rfl rfl rfl rfl rfl (cells_row (hS.heapAt 0 rfl) rfl) ?_
   replace hS := hS.d0.m3.d0.m5.m3.m5.m5.m5.m5
   replace hS : St w0 w18 (((bf, rowO [.map (some m), vI (nx + 1), vI (bb + bs.length), vP bt 0] 263) :: ((m, ob14) :: L5)) :: O2 :: (C11 ++ D) :: F) := hS.cast (by simp)
   have hMp9 := hm15; rw [← mapvs_app fc (nx, A9, c10, bs)] at hMp9
   exact ⟨_, O2, C11, ⟨_, _, _, fc ++ [((nx, A9, c10, bs) : FC)], hT2, hMp9, by rw [List.map_append, hfk]; rfl, fdd_app hfd (DR.new hOC11), rfl⟩, hO2, rfl, hS⟩
 · refine dr_b (o := _) rfl ?_
   refine st_alloc tbOk hA hS [yU, yW, yB, yU] rfl rfl rfl rfl rfl (by decide) fun b19 w20 a hS hA => ?_
   refine zi (hS.tail 3 rfl) ?_
   refine dr_subL ?_
   refine dr_b (o := _) rfl ?_
   replace hS := hS.m2.m2
   refine st_call0 hA rfl rfl rfl isfn110 rfl rfl (by decide) (create110 hS hT hO ((nx : Nat) : Int) hall (by omega) hx) ?_
   clear hA hS; rintro _ w21 a ⟨L22, O2, hT2, hO2, rfl, hS⟩ hA
   refine zi (hS.tail 3 rfl) (zW 3 ((29, yN) :: (28, .agg #[vU po, vW os.length, .int .u8 255, vU x]) :: (18, .tuple #[.agg #[vU po, vW os.length, .int .u8 255, vU x], yN]) :: _) hA (hS.tail 3 rfl) rfl fun a hA => dr_b (o := _) rfl ?_)
   replace hS := hS.m2
   refine st_store tbOk hA hS [vU po, vW os.length, .int .u8 255, vU x] [vU po, vW os.length, .int .u8 255, vU x] rfl rfl rfl rfl rfl rfl (zn1 rfl) (zle rfl) rfl rfl rfl fun w23 hS => ?_
   refine zi (hS.tail 3 rfl) (zW 1 ((7, yN) :: _) hA (hS.tail 3 rfl) rfl fun a hA => ze (zx (zs (zs (zr (zR 2 ((31, yF) :: (30, yN) :: _) hA rfl fun a hA => zn (zx (cd_cond_f hA rfl (zk (zx (zs ?_)))))))))))
   replace hS := hS.m5
   refine zD1 hS [10] [(0, true), (1, true), (2, true), (3, true), (4, true), (5, true), (6, true), (7, true), (8, true), (9, false), (10, false)] mixed (by kernel_rfl) (by rintro c a w ⟨_, _, h, _⟩; cases h) (by rfl) (by kernel_rfl) ?_
   replace hS := hS.drew
   refine zW 3 ((36, vP bf 0) :: (35, vP bf 0) :: (34, vP bf 0) :: _) hA (hS.tail 1 rfl) rfl fun a hA => zY hA (hS.tail 1 rfl) 4 rfl rfl rfl rfl rfl rfl rfl rfl rfl rfl fun a hA => zW 3 ((40, vP bf 1) :: (39, vP bf 0) :: (38, vP bf 0) :: _) hA (hS.tail 1 rfl) rfl fun a hA => zY hA (hS.tail 1 rfl) 4 rfl rfl rfl rfl rfl rfl rfl rfl rfl rfl fun a hA => zW 1 ((42, .slice B bs.length d') :: _) hA (hS.tail 1 rfl) rfl fun a hA => dr_b (o := _) rfl ?_
   refine st_call0 hA rfl rfl rfl isfn83 rfl rfl (by decide) (clonex83 hS (l := bs) (fun w' h => (hd _ (h.tail 6 rfl))) (by first | omega | (simp only [List.length_append, List.length_cons, List.length_nil]; omega))) ?_
   clear hA hS; rintro _ w27 a ⟨A24, c25, C26, hOC26, rfl, hS⟩ hA
   refine zi (hS.tail 2 rfl) (dr_b (o := _) rfl ?_)
   replace hS := hS.m1
   refine st_mapNew tbOk hA hS (by first | exact .inl rfl | exact .inr rfl) rfl rfl rfl rfl rfl rfl rfl hMp (mapvs_no hfk hlt) rfl rfl ?_; clear hS; intro w28 ob29 hS hm30
   refine dr_nil (.inl (by decide)) (ze (zx (zs (zr (zR 3 ((46, vP bf 1) :: (45, vP bf 0) :: (44, vP bf 0) :: _) hA rfl fun a hA => zL hA hS 6 rfl rfl rfl rfl rfl rfl rfl rfl rfl fun a hA => zR 1 ((48, .int .i64 (IntKind.i64.wrap (((nx : Nat) : Int) + 1))) :: _) hA rfl fun a hA => ?_)))))
   replace hA := hA.rw 48 (v' := vI (nx + 1)) rfl (wr64 (by omega) (by omega) (by omega))
   refine zR 2 ((50, vP bf 1) :: (49, vP bf 0) :: _) hA rfl fun a hA => ?_
   replace hS := hS.m6
   refine st_store tbOk hA hS [vI (nx + 1)] [.map (some m), vI (nx + 1), vI bb, vP bt 0] rfl rfl rfl rfl rfl rfl (by intro u hu; rw [List.mem_singleton.1 hu]; rfl) (zle rfl) rfl rfl rfl fun w31 hS => ?_
   refine zn (zx (zs (zr (zR 3 ((53, vP bf 2) :: (52, vP bf 0) :: (51, vP bf 0) :: _) hA rfl fun a hA => zL hA hS 0 rfl rfl rfl rfl rfl rfl rfl rfl rfl fun a hA => zR 3 ((57, .int .i64 (IntKind.i64.wrap (((bb : Nat) : Int) + ((bs.length : Nat) : Int)))) :: (56, vI bs.length) :: (55, .slice B bs.length d') :: _) hA rfl fun a hA => ?_))))
   replace hA := hA.rw 57 (v' := vI (bb + bs.length)) rfl (wr64 (by omega) (by omega) (by omega))
   refine zR 2 ((59, vP bf 2) :: (58, vP bf 0) :: _) hA rfl fun a hA => ?_
   refine st_store tbOk hA hS [vI (bb + bs.length)] [.map (some m), vI (nx + 1), vI (bb + bs.length), vP bt 0] rfl rfl rfl rfl rfl rfl (by intro u hu; rw [List.mem_singleton.1 hu]; rfl) (zle rfl) rfl rfl rfl fun w32 hS => ?_
   refine zn (zx (zs (zr (zLA hA hS 3 [vU po, vW os.length, .int .u8 255, vU x] rfl rfl rfl rfl rfl rfl rfl rfl rfl rfl fun a hA => zR 1 ((61, .agg #[vU po, vW os.length, .int .u8 255, vU x, yU, yS]) :: _) hA rfl fun a hA => ?_))))
   replace hS := hS.m6
   refine st_store tbOk hA hS [vU po, vW os.length, .int .u8 255, vU x, yU, yS] [vU po, vW os.length, .int .u8 255, vU x, yU, yS] rfl rfl rfl rfl rfl rfl (zn1 rfl) (zle rfl) rfl rfl rfl fun w33 hS => ?_
   refine zR 1 ((5, yN) :: _) hA rfl fun a hA => zn (zx ?_)
   refine wp_ret ?_
   refine retc2 tbOk (fn := Tryz.f215) (cs := [vU po, vW os.length, .int .u8 255, vU x, yU, yS]) hA rfl rfl rfl rfl rfl rfl (cells_row (hS.heapAt 0 rfl) rfl) ?_
   replace hS := hS.d0.m3.d0.m5.m3.m5.m5.m5.m5
   replace hS : St w0 w33 (((bf, rowO [.map (some m), vI (nx + 1), vI (bb + bs.length), vP bt 0] 263) :: ((m, ob29) :: L22)) :: O2 :: (C26 ++ D) :: F) := hS.cast (by simp)
   have hMp9 := hm30; rw [← mapvs_app fc (nx, A24, c25, bs)] at hMp9
   exact ⟨_, O2, C26, ⟨_, _, _, fc ++ [((nx, A24, c25, bs) : FC)], hT2, hMp9, by rw [List.map_append, hfk]; rfl, fdd_app hfd (DR.new hOC26), rfl⟩, hO2, rfl, hS⟩
theorem file_of81 {w0 w : World} {F : List Chunk} {bt po bo : Nat} {L O D : Chunk} {en : List (Nat × Nat × Nat)} {ts : List Nat} {k x : Nat} (hS : St w0 w (L :: O :: F)) (hM : OBR bt po bo [] L) (hO : ORR bo en ts k O) (hx : ts[k]? = some x) :
 Ret Tryz.prog 81 #[vP bt 0] w (fun v w' => ∃ b bf L' O', FBR w0 bf bt po bo [(true, x, 0, -1, 24)] [] 0 0 L' D ∧ ORR bo en ts (k + 1) O' ∧ v = .tuple #[vP b 0, .agg #[vU po, yW, .int .u8 255, vU x], yN] ∧ St w0 w' (((b, rowO [vP bt 0, .iface 260 (vP bf 0)] 222) :: L') :: O' :: F)) := by
 refine enter (vs := [vP bt 0]) 24 Tryz.func81 rfl rfl (by simp) ?_; intro a hA
 refine zs (zr (zR 1 ((2, .pointer none) :: _) hA rfl fun a hA => ?_))
 refine st_alloc tbOk hA hS [yU, yW, yB, yU] rfl rfl rfl rfl rfl (by decide) fun b1 w2 a hS hA => ?_
 refine zR 1 ((4, yN) :: _) hA rfl fun a hA => zn (zx (zs (zr (zR 1 ((8, vP bt 0) :: _) hA rfl fun a hA => ?_))))
 replace hS := hS.m2.m2
 refine st_call0 hA rfl rfl rfl isfn110 rfl rfl (by decide) (create110 hS hM hO (-1) (fun x hx => by cases hx) (by decide) hx) ?_
 clear hA hS; rintro _ w3 a ⟨L2, O2, hM2, hO2, rfl, hS⟩ hA
 refine zR 3 ((11, yN) :: (10, .agg #[vU po, yW, .int .u8 255, vU x]) :: (7, .tuple #[.agg #[vU po, yW, .int .u8 255, vU x], yN]) :: _) hA rfl fun a hA => ?_
 refine st_alloc tbOk hA hS [yU, yW, yB, yU] rfl rfl rfl rfl rfl (by decide) fun b4 w5 a hS hA => ?_
 refine st_store tbOk hA hS [vU po, yW, .int .u8 255, vU x] [vU po, yW, .int .u8 255, vU x] rfl rfl rfl rfl rfl rfl (zn1 rfl) (zle rfl) rfl rfl rfl fun w6 hS => ?_
 refine zR 1 ((6, yN) :: _) hA rfl fun a hA => zn (zx (zs (zs (zr (zR 2 ((13, yF) :: (12, yN) :: _) hA rfl fun a hA => zn (zx (cd_cond_f hA rfl (zk (zx (zs ?_))))))))))
 replace hS := hS.m3
 refine zD1 hS [] [(0, true), (2, true), (7, true), (1, false), (3, true), (4, false), (5, true), (6, false), (8, true), (9, false), (10, false)] mixed (by kernel_rfl) (by rintro c a w ⟨_, _, h, _⟩; cases h) (by rfl) (by kernel_rfl) ?_
 replace hS := hS.drew
 refine zW 2 ((18, vP bt 0) :: (16, vP bt 0) :: _) hA (hS.tail 1 rfl) rfl fun a hA => zYA hA (hS.tail 1 rfl) 0 [vU po, yW, .int .u8 255, vU x] rfl rfl rfl rfl rfl rfl rfl rfl rfl rfl rfl fun a hA => dr_b (o := _) rfl ?_
 refine st_makeMap hA hS rfl rfl rfl (by decide) fun m7 w8 a hS hA => ?_
 refine zi (hS.tail 2 rfl) (zW 1 ((19, .agg #[.map (some m7), yI, yI, vP bt 0]) :: _) hA (hS.tail 2 rfl) rfl fun a hA => dr_b (o := _) rfl ?_)
 refine st_box hA hS [.map (some m7), yI, yI, vP bt 0] rfl rfl rfl rfl rfl (by decide) fun b9 w10 a hS hA => ?_
 refine zi (hS.tail 3 rfl) (zW 1 ((21, .iface 260 (vP b9 0)) :: _) hA (hS.tail 3 rfl) rfl fun a hA => dr_b (o := _) rfl ?_)
 refine st_call0 hA rfl rfl rfl isfn111 rfl rfl (by decide) (sk_of111 hS _ _ _) ?_
 clear hA hS; rintro _ w12 a ⟨b11, rfl, hS⟩ hA
 refine zi (hS.tail 4 rfl) (zW 1 ((2, vP b11 0) :: _) hA (hS.tail 4 rfl) rfl fun a hA => dr_b (o := _) rfl ?_)
 replace hS := hS.m3
 refine st_store tbOk hA hS [vU po, yW, .int .u8 255, vU x] [vU po, yW, .int .u8 255, vU x] rfl rfl rfl rfl rfl rfl (zn1 rfl) (zle rfl) rfl rfl rfl fun w13 hS => ?_
 refine zi (hS.tail 4 rfl) (dr_b (o := _) rfl (zR 1 ((4, yN) :: _) hA rfl fun a hA => zi (hS.tail 4 rfl) (ze (zx ?_))))
 refine wp_ret ?_
 refine rettct tbOk (fn := Tryz.f81) (cs := [vU po, yW, .int .u8 255, vU x]) hA rfl rfl rfl rfl rfl rfl rfl (cells_row (hS.heapAt 0 rfl) rfl) ?_
 replace hS := hS.d0.m3.d0.m4.m4.m4.m4.m4
 replace hS : St w0 w13 (((b11, rowO [vP bt 0, .iface 260 (vP b9 0)] 222) :: ((b9, rowO [.map (some m7), yI, yI, vP bt 0] 263) :: ((m7, .map #[] 0) :: L2))) :: O2 :: F) := hS.cast (by simp)
 exact ⟨_, b9, _, O2, ⟨_, _, _, [], hM2, MapO.new .i64, rfl, (fun x hx => by cases hx), rfl⟩, hO2, rfl, hS⟩
theorem fneed_100_214 {w0 w : World} {F : List Chunk} (hS : St w0 w F) (p : Value) :
 Ret Tryz.prog 214 #[p, .int .u16 100] w (fun v w' => v = .tuple #[.int .u8 4, yT] ∧ St w0 w' F) := by
 refine enter (vs := [p, .int .u16 100]) 14 Tryz.func214 rfl rfl (by simp) ?_; intro a hA
 refine zs (zr (zR 2 ((5, yF) :: (4, yB) :: _) hA rfl fun a hA => zn (zx (zs (zs (zr (zR 1 ((6, .int .u16 100) :: _) hA rfl fun a hA => zn (zx (zb (zs (zr (zR 2 ((7, yT) :: (8, yT) :: _) hA rfl fun a hA => zn (zx (cd_cond_t hA rfl (zs (zr (zR 2 ((5, yT) :: (4, .int .u8 4) :: _) hA rfl fun a hA => zn (zx ?_))))))))))))))))))
 refine wp_ret (xb_ret (xt_ret ?_))
 refine ret2 (fn := Tryz.f214) hA rfl rfl rfl ?_
 exact ⟨rfl, hS⟩
theorem fneed_101_214 {w0 w : World} {F : List Chunk} (hS : St w0 w F) (p : Value) :
 Ret Tryz.prog 214 #[p, .int .u16 101] w (fun v w' => v = .tuple #[.int .u8 1, yT] ∧ St w0 w' F) := by
 refine enter (vs := [p, .int .u16 101]) 14 Tryz.func214 rfl rfl (by simp) ?_; intro a hA
 refine zs (zr (zR 2 ((5, yF) :: (4, yB) :: _) hA rfl fun a hA => zn (zx (zs (zs (zr (zR 1 ((6, .int .u16 101) :: _) hA rfl fun a hA => zn (zx (zb (zs (zr (zR 2 ((7, yF) :: (8, yF) :: _) hA rfl fun a hA => zn (zx (cd_cond_f hA rfl (zs (zs (zr (zR 2 ((9, yT) :: (10, yT) :: _) hA rfl fun a hA => zn (zx (cd_cond_t hA rfl (zk (zx (cd_cond_t hA rfl (zs (zr (zR 2 ((5, yT) :: (4, .int .u8 1) :: _) hA rfl fun a hA => zn (zx ?_)))))))))))))))))))))))))))
 refine wp_ret (xb_ret (xt_ret ?_))
 refine ret2 (fn := Tryz.f214) hA rfl rfl rfl ?_
 exact ⟨rfl, hS⟩
theorem St.dmid {w0 w : World} {D : Chunk} {F R : List Chunk} (h : St w0 w (D :: (R ++ F))) : St w0 w (D :: F) := h.sub (by simp)
theorem fdo_make212 {w0 w : World} {F : List Chunk} {bf bt po bo nx bb : Nat} {os : List (Bool × Nat × Int × Int × Int)} {fl : List (Nat × List UInt8)} {L O D : Chunk} {en : List (Nat × Nat × Nat)} {ts : List Nat} {k : Nat} (hS : St w0 w (L :: O :: D :: F)) (hB : FBR w0 bf bt po bo os fl nx bb L D) (hO : ORR bo en ts k O) (m : MN) {d : Value} (hd : RdSX w0 (D :: F) 1 d m.da.length (rows encB m.da)) {x : Nat} (hall : ∀ x ∈ os, x.1 = true) (hol : os.length < 64) (hlt : ∀ x ∈ fl, x.1 < nx) (hnx : nx < 1000000) (hbb : bb + m.da.length ≤ 65536) (hx : ts[k]? = some x) :
 Ret Tryz.prog 212 #[vP bf 0, .int .u16 100, .int .i64 (-1), .agg #[vU m.to, vU m.rp, vW m.id, .int .u16 100, vH m.st, vU m.po, vW m.ob, vB m.ri, vU m.ck, vU m.ar, d]] w (fun v w' => ∃ L' O' E, FBR w0 bf bt po bo (os ++ [(true, x, 0, ((nx : Nat) : Int), 24)]) (fl ++ [(nx, m.da)]) (nx + 1) (bb + m.da.length) L' (E ++ D) ∧ ORR bo en ts (k + 1) O' ∧ v = .tuple #[.agg #[vU po, vW os.length, .int .u8 255, vU x, yU, yS], yN] ∧ St w0 w' (L' :: O' :: (E ++ D) :: F)) := by
 obtain ⟨B, d', rfl, hmd, hdx⟩ := (hd _ (hS.tail 2 rfl)).open'
 have hB0 := hB; obtain ⟨m0, ob, LT, fc, hT, hMp, hfk, hfd, hLe⟩ := hB0
 replace hS : St w0 w ([(bf, rowO [.map (some m0), vI nx, vI bb, vP bt 0] 263)] :: [(m0, ob)] :: LT :: O :: D :: F) := by rw [hLe] at hS; exact hS.cast (by simp)
 refine enter (vs := [vP bf 0, .int .u16 100, .int .i64 (-1), .agg #[vU m.to, vU m.rp, vW m.id, .int .u16 100, vH m.st, vU m.po, vW m.ob, vB m.ri, vU m.ck, vU m.ar, .slice B m.da.length d']]) 113 Tryz.func212 rfl rfl (by simp) ?_; intro a hA
 refine zs (zr ?_)
 refine st_box hA hS [vU m.to, vU m.rp, vW m.id, .int .u16 100, vH m.st, vU m.po, vW m.ob, vB m.ri, vU m.ck, vU m.ar, .slice B m.da.length d'] rfl rfl rfl rfl rfl (by decide) fun b1 w2 a hS hA => ?_
 refine st_alloc tbOk hA hS [yU, yW, yB, yU, yU, yS] rfl rfl rfl rfl rfl (by decide) fun b3 w4 a hS hA => ?_
 refine zR 1 ((9, yN) :: _) hA rfl fun a hA => zn (zx (zs (zs (zr (zR 5 ((18, yF) :: (17, yT) :: (16, .int .i64 (-1)) :: (15, yT) :: (14, .int .u16 100) :: _) hA rfl fun a hA => zn (zx (cd_cond_f hA rfl (zk (zx (zs (zr (zR 3 ((23, vP bf 0) :: (22, vP bf 0) :: (21, vP bf 0) :: _) hA rfl fun a hA => zL hA hS 2 rfl rfl rfl rfl rfl rfl rfl rfl rfl fun a hA => zR 1 ((25, .int .i64 (-1)) :: _) hA rfl fun a hA => st_val hA rfl rfl (by decide) (rn_lookup_no tbOk hA rfl rfl rfl rfl rfl rfl rfl rfl (hS.heapAt 3 rfl) hMp mapvs_neg) fun a hA => zR 1 ((10, yS) :: _) hA rfl fun a hA => zn (zx (zs (zs (zr (zR 1 ((27, .int .u16 100) :: _) hA rfl fun a hA => zn (zx (zb (zs (zr (zR 2 ((28, yT) :: (29, yT) :: _) hA rfl fun a hA => zn (zx (cd_cond_t hA rfl (zs (zr ?_))))))))))))))))))))))))))
 refine zR 2 ((31, vP b1 10) :: (30, vP bf 0) :: _) hA rfl fun a hA => zL hA hS 1 rfl rfl rfl rfl rfl rfl rfl rfl rfl fun a hA => ?_
 replace hS := hS.m1.m1.m6.m6.m6.m6.m6
 replace hS : St w0 w4 (L :: O :: D :: [(b3, rowO [yU, yW, yB, yU, yU, yS] 225)] :: [(b1, rowO [vU m.to, vU m.rp, vW m.id, .int .u16 100, vH m.st, vU m.po, vW m.ob, vB m.ri, vU m.ck, vU m.ar, .slice B m.da.length d'] 46)] :: F) := by rw [hLe]; exact hS.cast (by simp)
 refine st_call0 hA rfl rfl rfl isfn215 rfl rfl (by decide) (fmake215 hS hB hO (bs := m.da) (fun w' h => hd _ (St.dmid (R := [[(b3, rowO [yU, yW, yB, yU, yU, yS] 225)], [(b1, rowO [vU m.to, vU m.rp, vW m.id, .int .u16 100, vH m.st, vU m.po, vW m.ob, vB m.ri, vU m.ck, vU m.ar, .slice B m.da.length d'] 46)]]) h)) hall hol hlt hnx hbb hx) ?_
 clear hA hS; rintro _ w5 a ⟨L2, O2, E2, hB2, hO2, rfl, hS⟩ hA
 refine zR 2 ((35, yN) :: (34, .agg #[vU po, vW os.length, .int .u8 255, vU x, yU, yS]) :: _) hA rfl fun a hA => ?_
 replace hS := hS.m3
 refine st_store tbOk hA hS [vU po, vW os.length, .int .u8 255, vU x, yU, yS] [vU po, vW os.length, .int .u8 255, vU x, yU, yS] rfl rfl rfl rfl rfl rfl (zn1 rfl) (zle rfl) rfl rfl rfl fun w6 hS => ?_
 refine zR 1 ((9, yN) :: _) hA rfl fun a hA => zn (zx ?_)
 refine wp_ret (xb_ret (xt_ret ?_))
 refine retc2 tbOk (fn := Tryz.f212) (cs := [vU po, vW os.length, .int .u8 255, vU x, yU, yS]) hA rfl rfl rfl rfl rfl rfl (cells_row (hS.heapAt 0 rfl) rfl) ?_
 replace hS := hS.d0.m3.d0.m2.m2.m2
 exact ⟨_, _, _, hB2, hO2, rfl, hS⟩
theorem fdo_read212 {w0 w : World} {F : List Chunk} {bf bt po bo nx bb : Nat} {os : List (Bool × Nat × Int × Int × Int)} {fl : List (Nat × List UInt8)} {L D : Chunk} (hS : St w0 w (L :: D :: F)) (hB : FBR w0 bf bt po bo os fl nx bb L D) (m : MN) (d : Value) {j va p n : Nat} {bs : List UInt8} (hj : fl[j]? = some (va, bs)) (hjn : ∀ (q : Nat) (y : Nat × List UInt8), q < j → fl[q]? = some y → ¬ y.1 = va) (hbl : bs.length ≤ 65536) (hn : n ≤ 4096) (hp : p + n ≤ bs.length) :
 Ret Tryz.prog 212 #[vP bf 0, .int .u16 101, vI va, .agg #[vU m.to, vU m.rp, vW m.id, .int .u16 101, vH m.st, vU m.po, vW m.ob, vB m.ri, vU m.ck, vU (p * 4294967296 + n), d]] w (fun v w' => ∃ L' E A c, FBR w0 bf bt po bo os fl nx bb L' (E ++ D) ∧ DR w0 E A c (bsub bs p n) ∧ v = .tuple #[.agg #[yU, yW, yB, yU, yU, .slice A ((bsub bs p n).length) c], yN] ∧ St w0 w' (L' :: (E ++ D) :: F)) := by
 obtain ⟨m0, ob, LT, fc, hT, hMp, hfk, hfd, rfl⟩ := hB
 have hn2 : n < 4294967296 := by omega
 obtain ⟨Af, cf, hfj, hjv⟩ := mapvs_hit hfk hj
 have hfr : ∀ w', St w0 w' [D] → Rd w' 1 (.slice Af bs.length cf) bs.length (rows encB bs) := hfd _ (List.mem_of_getElem? hfj)
 replace hS : St w0 w ([(bf, rowO [.map (some m0), vI nx, vI bb, vP bt 0] 263)] :: [(m0, ob)] :: LT :: D :: F) := hS.cast (by simp)
 have hcf := (hfr _ (hS.only 3 rfl)).cap
 refine enter (vs := [vP bf 0, .int .u16 101, vI va, .agg #[vU m.to, vU m.rp, vW m.id, .int .u16 101, vH m.st, vU m.po, vW m.ob, vB m.ri, vU m.ck, vU (p * 4294967296 + n), d]]) 113 Tryz.func212 rfl rfl (by simp) ?_; intro a hA
 refine zs (zr ?_)
 refine st_box hA hS [vU m.to, vU m.rp, vW m.id, .int .u16 101, vH m.st, vU m.po, vW m.ob, vB m.ri, vU m.ck, vU (p * 4294967296 + n), d] rfl rfl rfl rfl rfl (by decide) fun b1 w2 a hS hA => ?_
 refine st_alloc tbOk hA hS [yU, yW, yB, yU, yU, yS] rfl rfl rfl rfl rfl (by decide) fun b3 w4 a hS hA => ?_
 refine zR 1 ((9, yN) :: _) hA rfl fun a hA => zn (zx (zs (zs (zr (zR 4 ((17, .bool (((va : Nat) : Int) == (-1))) :: (16, vI va) :: (15, yF) :: (14, .int .u16 101) :: _) hA rfl fun a hA => ?_)))))
 have hc5 : ¬ (((va : Nat) : Int) = (-1)) := by omega
 replace hA := hA.rw 17 (v' := yF) rfl (vb_eq_f hc5)
 refine zR 1 ((18, yF) :: _) hA rfl fun a hA => zn (zx (cd_cond_f hA rfl (zk (zx (zs (zr (zR 3 ((23, vP bf 0) :: (22, vP bf 0) :: (21, vP bf 0) :: _) hA rfl fun a hA => zL hA hS 2 rfl rfl rfl rfl rfl rfl rfl rfl rfl fun a hA => zR 1 ((25, vI va) :: _) hA rfl fun a hA => st_val hA rfl rfl (by decide) (rn_lookup_hit tbOk hA rfl rfl rfl rfl rfl rfl rfl (hS.heapAt 3 rfl) hMp hjv (mapvs_bef hfk hjn)) fun a hA => zR 1 ((10, .slice Af bs.length cf) :: _) hA rfl fun a hA => zn (zx (zs (zs (zr (zR 1 ((27, .int .u16 101) :: _) hA rfl fun a hA => zn (zx (zb (zs (zr (zR 2 ((28, yF) :: (29, yF) :: _) hA rfl fun a hA => zn (zx (cd_cond_f hA rfl (zs (zr (zR 2 ((36, yF) :: (37, yF) :: _) hA rfl fun a hA => zn (zx (cd_cond_f hA rfl (zs (zr (zR 2 ((42, yT) :: (43, yT) :: _) hA rfl fun a hA => ?_)))))))))))))))))))))))))))
 refine zn (zx (cd_cond_t hA rfl (zs ?_)))
 refine zD0 hS [] [(0, true), (1, true), (2, true), (3, true), (4, true), (5, true), (6, true), (7, true)] mixed (by kernel_rfl) (by rintro c a w ⟨_, _, h, _⟩; cases h) (by rfl) (by kernel_rfl) ?_
 replace hS := hS.drew
 refine zW 1 ((44, vP b1 9) :: _) hA hS rfl fun a hA => zY hA hS 1 rfl rfl rfl rfl rfl rfl rfl rfl rfl rfl fun a hA => dr_y hA rfl rfl rfl (by decide) hS (fun w' hS' => rn_shr hA rfl rfl rfl (by omega)) fun a hA => ?_
 replace hA := hA.rw 46 (v' := vU p) rfl (vint (shr32 hn2))
 refine zW 1 ((47, vP b1 9) :: _) hA hS rfl fun a hA => zY hA hS 1 rfl rfl rfl rfl rfl rfl rfl rfl rfl rfl fun a hA => dr_y hA rfl rfl rfl (by decide) hS (fun w' hS' => rn_and hA rfl rfl rfl) fun a hA => ?_
 replace hA := hA.rw 49 (v' := vU n) rfl (vint (by rw [low32 (by omega)]; omega))
 refine zW 2 ((12, vU n) :: (11, vU p) :: _) hA hS rfl fun a hA => ze (zx (zs (zb (zs (zr (zR 3 ((50, .bool (decide (((n : Nat) : Int) > 4096))) :: (52, .bool (decide (((n : Nat) : Int) > 4096))) :: (51, vU n) :: _) hA rfl fun a hA => zn (zx ?_)))))))
 have hc6 : ¬ (((n : Nat) : Int) > 4096) := by omega
 replace hA := hA.rw 50 (v' := yF) rfl (vb_false hc6)
 refine cd_cond_f hA rfl (zs (zr (zR 4 ((59, .int .u64 (IntKind.u64.wrap ((bs.length : Nat) : Int))) :: (58, vI bs.length) :: (57, .slice Af bs.length cf) :: (56, vU p) :: _) hA rfl fun a hA => ?_)))
 replace hA := hA.rw 59 (v' := vU bs.length) rfl (by rw [wrap_u64 (by omega) (by omega)])
 refine zR 2 ((61, .bool (decide (((p : Nat) : Int) > ((bs.length : Nat) : Int)))) :: (60, .bool (decide (((p : Nat) : Int) > ((bs.length : Nat) : Int)))) :: _) hA rfl fun a hA => ?_
 have hc7 : ¬ (((p : Nat) : Int) > ((bs.length : Nat) : Int)) := by omega
 replace hA := hA.rw 60 (v' := yF) rfl (vb_false hc7)
 replace hA := hA.rw 61 (v' := yF) rfl (vb_false hc7)
 refine zR 4 ((65, .int .u64 (IntKind.u64.wrap ((bs.length : Nat) : Int))) :: (64, vI bs.length) :: (63, .slice Af bs.length cf) :: (62, vU n) :: _) hA rfl fun a hA => ?_
 replace hA := hA.rw 65 (v' := vU bs.length) rfl (by rw [wrap_u64 (by omega) (by omega)])
 refine zR 2 ((67, .int .u64 (IntKind.u64.wrap (((bs.length : Nat) : Int) - ((p : Nat) : Int)))) :: (66, vU p) :: _) hA rfl fun a hA => ?_
 replace hA := hA.rw 67 (v' := vU (bs.length - p)) rfl (by rw [wrap_u64 (by omega) (by omega)]; exact vint (by omega))
 refine zR 3 ((55, .bool (decide (((n : Nat) : Int) > ((bs.length - p : Nat) : Int)))) :: (69, .bool (decide (((n : Nat) : Int) > ((bs.length - p : Nat) : Int)))) :: (68, .bool (decide (((n : Nat) : Int) > ((bs.length - p : Nat) : Int)))) :: _) hA rfl fun a hA => zn (zx ?_)
 have hc8 : ¬ (((n : Nat) : Int) > ((bs.length - p : Nat) : Int)) := by omega
 replace hA := hA.rw 55 (v' := yF) rfl (vb_false hc8)
 refine cd_cond_f hA rfl (zk (zm (zx (zs (zr (zR 5 ((76, .int .u64 (IntKind.u64.wrap (((p : Nat) : Int) + ((n : Nat) : Int)))) :: (75, vU n) :: (74, vU p) :: (73, vU p) :: (72, .slice Af bs.length cf) :: _) hA rfl fun a hA => ?_))))))
 replace hA := hA.rw 76 (v' := vU (p + n)) rfl (by rw [wrap_u64 (by omega) (by omega)]; exact vint (by omega))
 refine st_val hA rfl rfl (by decide) (rn_slice_lh tbOk hA p (p + n) rfl rfl rfl rfl rfl rfl rfl (by rfl) (by rfl) (by omega) (by omega)) fun a hA => ?_
 refine st_call0 hA rfl rfl rfl isfn83 rfl rfl (by decide) (clonex83 hS (l := (bs.take (p + n)).drop p) (fun w' h => (((hfr _ (h.only 5 rfl)).rslv encB_ok p (p + n) cf (by omega) (by omega) (by omega) (by omega))).x) (by first | omega | (simp only [List.length_append, be_length, capb_length, List.length_cons, List.length_nil, List.length_drop, List.length_take]; omega))) ?_
 clear hA hS; rintro _ w12 a ⟨A9, c10, C11, hOC11, rfl, hS⟩ hA
 refine zR 1 ((79, .agg #[yU, yW, yB, yU, yU, .slice A9 (((bs.take (p + n)).drop p).length) c10]) :: _) hA rfl fun a hA => ?_
 replace hS := hS.m1
 refine st_store tbOk hA hS [yU, yW, yB, yU, yU, .slice A9 (((bs.take (p + n)).drop p).length) c10] [yU, yW, yB, yU, yU, .slice A9 (((bs.take (p + n)).drop p).length) c10] rfl rfl rfl rfl rfl rfl (zn1 rfl) (zle rfl) rfl rfl rfl fun w13 hS => ?_
 refine zR 1 ((9, yN) :: _) hA rfl fun a hA => zn (zx ?_)
 refine wp_ret (xb_ret (xt_ret ?_))
 refine retc2 tbOk (fn := Tryz.f212) (cs := [yU, yW, yB, yU, yU, .slice A9 (((bs.take (p + n)).drop p).length) c10]) hA rfl rfl rfl rfl rfl rfl (cells_row (hS.heapAt 0 rfl) rfl) ?_
 replace hS := hS.d0.m1.d0.m4.m1.m4.m4.m4
 replace hS : St w0 w13 (((bf, rowO [.map (some m0), vI nx, vI bb, vP bt 0] 263) :: ((m0, ob) :: LT)) :: (C11 ++ D) :: F) := hS.cast (by simp)
 have hO9 : Own 5 1 (.slice A9 (bsub bs p n).length c10) (bsub bs p n).length (rows encB (bsub bs p n)) C11 := hOC11
 exact ⟨_, C11, _, _, ⟨_, _, _, _, hT, hMp, hfk, fun x hx => (hfd x hx).left, rfl⟩, DR.new hO9, rfl, hS⟩
end Go.Proofs.YthiakdmhpfkjbaaGreatDoor

set_option linter.unusedVariables false
set_option linter.unusedSimpArgs false
set_option maxRecDepth 4000
namespace Go.Proofs.YthiakdmhpfkjbaaGreatDoor
open Go Go.SK
theorem answer105 {w0 w : World} {F : List Chunk} (hS : St w0 w F) (m : MN) (d : Value) (st po ob ri ck ar : Nat) {e : Value} {da : List UInt8} (he : RdSX w0 F 1 e da.length (rows encB da)) (hl : da.length ≤ 4096) (hst : st < 65536) :
 Ret Tryz.prog 105 #[.agg #[vU m.to, vU m.rp, vW m.id, vH m.op, vH m.st, vU m.po, vW m.ob, vB m.ri, vU m.ck, vU m.ar, d], vI st, .agg #[vU po, vW ob, vB ri, vU ck], vU ar, e] w (fun v w' => ∃ A c C, Own 5 1 (.slice A (da).length c) (da).length (rows encB (da)) C ∧ v = .agg #[vU m.rp, vU m.to, vW m.id, vH m.op, vH st, vU po, vW ob, vB ri, vU ck, vU ar, .slice A da.length c] ∧ St w0 w' (C :: F)) := by
 obtain ⟨B, d', rfl, hmd, hdx⟩ := (he w hS).open'
 refine enter (vs := [.agg #[vU m.to, vU m.rp, vW m.id, vH m.op, vH m.st, vU m.po, vW m.ob, vB m.ri, vU m.ck, vU m.ar, d], vI st, .agg #[vU po, vW ob, vB ri, vU ck], vU ar, .slice B da.length d']) 26 Tryz.func105 rfl rfl (by simp) ?_; intro a hA
 refine zs (zr ?_)
 refine st_box hA hS [vU m.to, vU m.rp, vW m.id, vH m.op, vH m.st, vU m.po, vW m.ob, vB m.ri, vU m.ck, vU m.ar, d] rfl rfl rfl rfl rfl (by decide) fun b1 w2 a hS hA => ?_
 refine st_box hA hS [vU po, vW ob, vB ri, vU ck] rfl rfl rfl rfl rfl (by decide) fun b3 w4 a hS hA => ?_
 refine st_alloc tbOk hA hS [yU, yU, yW, yH, yH, yU, yW, yB, yU, yU, yS] rfl rfl rfl rfl rfl (by decide) fun b5 w6 a hS hA => ?_
 refine zn (zx (zs ?_))
 refine zD1 hS [15] [(0, true), (1, true), (2, true), (3, true), (4, true), (5, true), (6, true), (7, true), (8, true), (9, true), (10, true), (11, true), (12, true), (13, false), (14, true), (15, false)] mixed (by kernel_rfl) (by rintro c a w ⟨_, _, h, _⟩; cases h) (by rfl) (by kernel_rfl) ?_
 replace hS := hS.drew
 refine zW 1 ((11, vP b1 1) :: _) hA (hS.tail 1 rfl) rfl fun a hA => zY hA (hS.tail 1 rfl) 1 rfl rfl rfl rfl rfl rfl rfl rfl rfl rfl fun a hA => zW 1 ((13, vP b1 0) :: _) hA (hS.tail 1 rfl) rfl fun a hA => zY hA (hS.tail 1 rfl) 1 rfl rfl rfl rfl rfl rfl rfl rfl rfl rfl fun a hA => zW 1 ((15, vP b1 2) :: _) hA (hS.tail 1 rfl) rfl fun a hA => zY hA (hS.tail 1 rfl) 1 rfl rfl rfl rfl rfl rfl rfl rfl rfl rfl fun a hA => zW 1 ((17, vP b1 3) :: _) hA (hS.tail 1 rfl) rfl fun a hA => zY hA (hS.tail 1 rfl) 1 rfl rfl rfl rfl rfl rfl rfl rfl rfl rfl fun a hA => zW 2 ((20, .int .u16 (IntKind.u16.wrap ((st : Nat) : Int))) :: (19, vI st) :: _) hA (hS.tail 1 rfl) rfl fun a hA => ?_
 replace hA := hA.rw 20 (v' := vH st) rfl (vint (wrap_u16 (by omega) (by omega)))
 refine zYA hA (hS.tail 1 rfl) 0 [vU po, vW ob, vB ri, vU ck] rfl rfl rfl rfl rfl rfl rfl rfl rfl rfl rfl fun a hA => zW 2 ((23, .slice B da.length d') :: (22, vU ar) :: _) hA (hS.tail 1 rfl) rfl fun a hA => dr_b (o := _) rfl ?_
 replace hS := hS.nil
 refine st_append tbOk hA (m := 0) (q := da.length) (xs := rows encB ([] : List UInt8)) (news := rows encB da) rfl rfl rfl rfl rfl rfl rfl rfl (by decide) (Own.nil 5 1) hS ((he _ (hS.tail 4 rfl))) (rows_one encB_ok _) (maxLen_le (by first | omega | (simp only [List.length_append, be_length, capb_length, List.length_cons, List.length_nil, List.length_drop, List.length_take]; omega))) (by show (0 + da.length) * 1 ≤ 140737488355328; first | omega | (simp only [List.length_append, be_length, capb_length, List.length_cons, List.length_nil, List.length_drop, List.length_take]; omega)) rfl rfl (by decide) ?_
 clear hA hS; intro v7 w8 C9 a hO9 hS hA
 replace hO9 := Own.app (l := ([] : List UInt8)) (l2 := da) hO9
 replace hO9 : Own 5 1 v7 da.length (rows encB da) C9 := hO9
 obtain ⟨A10, c11, rfl, hmc11, hxc11⟩ := hO9.open'
 refine zi (hS.tail 2 rfl) (dr_y hA rfl rfl rfl (by decide) (hS.tail 2 rfl) (fun w' hS' => rn_build tbOk hA rfl rfl rfl rfl rfl rfl rfl) fun a hA => dr_b (o := _) rfl ?_)
 replace hS := hS.m1
 refine st_store tbOk hA hS [vU m.rp, vU m.to, vW m.id, vH m.op, vH st, vU po, vW ob, vB ri, vU ck, vU ar, .slice A10 da.length c11] [vU m.rp, vU m.to, vW m.id, vH m.op, vH st, vU po, vW ob, vB ri, vU ck, vU ar, .slice A10 da.length c11] rfl rfl rfl rfl rfl rfl (zn1 rfl) (zle rfl) rfl rfl rfl fun w12 hS => ?_
 refine dr_nil (.inl (by decide)) (ze (zx ?_))
 refine wp_ret ?_
 refine retc1 tbOk (fn := Tryz.f105) (cs := [vU m.rp, vU m.to, vW m.id, vH m.op, vH st, vU po, vW ob, vB ri, vU ck, vU ar, .slice A10 da.length c11]) hA rfl rfl rfl rfl rfl (cells_row (hS.heapAt 0 rfl) rfl) ?_
 replace hS := hS.d0.d1.d1
 exact ⟨_, _, _, hO9, rfl, hS⟩
def SVR (w0 : World) (b po bo : Nat) (os : List (Bool × Nat × Int × Int × Int)) (fl : List (Nat × List UInt8)) (nx bb : Nat) (L D : Chunk) : Prop := ∃ bf bt L1, FBR w0 bf bt po bo os fl nx bb L1 D ∧ L = (b, rowO [vP bt 0, .iface 260 (vP bf 0)] 222) :: L1
set_option maxHeartbeats 4000000 in
theorem skdo_make104 {w0 w : World} {F : List Chunk} {b po bo nx bb : Nat} {os : List (Bool × Nat × Int × Int × Int)} {fl : List (Nat × List UInt8)} {L O D : Chunk} {en : List (Nat × Nat × Nat)} {ts : List Nat} {k : Nat} (hS : St w0 w (L :: O :: D :: F)) (hV : SVR w0 b po bo os fl nx bb L D) (hO : ORR bo en ts k O) (m : MN) (hpo : po < 281474976710656) (hob : m.ob < 16777216) (hck : m.ck < 281474976710656) {s : Nat} {e li : Int} (hox : os[m.ob]? = some (true, s, e, -1, li)) (hos : s < 2 ^ 64) (hock : s % 281474976710656 = m.ck) {d : Value} (hd : RdSX w0 (D :: F) 1 d m.da.length (rows encB m.da)) (hol1 : os.length ≤ 64) {x : Nat} (hall : ∀ x ∈ os, x.1 = true) (hol : os.length < 64) (hlt : ∀ x ∈ fl, x.1 < nx) (hnx : nx < 1000000) (hbb : bb + m.da.length ≤ 65536) (hx : ts[k]? = some x) :
 Ret Tryz.prog 104 #[vP b 0, .agg #[vU m.to, vU m.rp, vW m.id, .int .u16 100, vH m.st, vU po, vW m.ob, .int .u8 255, vU m.ck, vU m.ar, d]] w (fun v w' => ∃ L' O' E, SVR w0 b po bo (os ++ [(true, x, 0, ((nx : Nat) : Int), 24)]) (fl ++ [(nx, m.da)]) (nx + 1) (bb + m.da.length) L' (E ++ D) ∧ ORR bo en ts (k + 1) O' ∧ v = .tuple #[.agg #[vU po, vW os.length, .int .u8 255, vU x, yU, yS], yN] ∧ St w0 w' (L' :: O' :: (E ++ D) :: F)) := by
 obtain ⟨B, d', rfl, hmd, hdx⟩ := (hd _ (hS.tail 2 rfl)).open'
 obtain ⟨bf, bt, L1, hB, rfl⟩ := hV
 replace hS : St w0 w ([(b, rowO [vP bt 0, .iface 260 (vP bf 0)] 222)] :: L1 :: O :: D :: F) := hS.cast (by simp)
 refine enter (vs := [vP b 0, .agg #[vU m.to, vU m.rp, vW m.id, .int .u16 100, vH m.st, vU po, vW m.ob, .int .u8 255, vU m.ck, vU m.ar, .slice B m.da.length d']]) 152 Tryz.func104 rfl rfl (by simp) ?_; intro a hA
 refine zs (zr ?_)
 refine st_box hA hS [vU m.to, vU m.rp, vW m.id, .int .u16 100, vH m.st, vU po, vW m.ob, .int .u8 255, vU m.ck, vU m.ar, .slice B m.da.length d'] rfl rfl rfl rfl rfl (by decide) fun b1 w2 a hS hA => ?_
 refine st_alloc tbOk hA hS [yU, yW, yB, yU, yU, yS] rfl rfl rfl rfl rfl (by decide) fun b3 w4 a hS hA => ?_
 refine zR 1 ((5, yN) :: _) hA rfl fun a hA => zn (zx (zs (zs (zr (zR 1 ((19, vP b1 5) :: _) hA rfl fun a hA => zLA hA hS 1 [vU po, vW m.ob, .int .u8 255, vU m.ck] rfl rfl rfl rfl rfl rfl rfl rfl rfl rfl fun a hA => ?_)))))
 refine st_call0 hA rfl rfl rfl isfn82 rfl rfl (by decide) (cmay82 hS (po := po) (ob := m.ob) (ri := 255) (ck := m.ck) (by omega) (by omega) (by omega)) ?_
 clear hA hS; rintro _ w5 a ⟨rfl, hS⟩ hA
 refine zR 1 ((22, yF) :: _) hA rfl fun a hA => zn (zx (cd_cond_f hA rfl (zk (zx (zs (zs (zr (zR 1 ((25, vP b1 3) :: _) hA rfl fun a hA => zL hA hS 1 rfl rfl rfl rfl rfl rfl rfl rfl rfl fun a hA => zn (zx (zb (zs (zr (zR 2 ((27, yF) :: (28, yF) :: _) hA rfl fun a hA => zn (zx (cd_cond_f hA rfl (zs (zr (zR 2 ((48, yF) :: (49, yF) :: _) hA rfl fun a hA => zn (zx (cd_cond_f hA rfl (zs (zr (zR 2 ((58, yF) :: (59, yF) :: _) hA rfl fun a hA => zn (zx (cd_cond_f hA rfl (zs (zr (zR 2 ((76, yF) :: (77, yF) :: _) hA rfl fun a hA => zn (zx (cd_cond_f hA rfl (zs (zr (zR 2 ((91, yF) :: (92, yF) :: _) hA rfl fun a hA => zn (zx (cd_cond_f hA rfl (zk (zm (zx (zs ?_)))))))))))))))))))))))))))))))))))))))
 refine zD0 hS [] [(0, true), (1, true), (2, true), (3, true), (4, true), (5, true), (6, false), (7, true), (8, true), (9, true), (10, true), (11, true)] mixed (by kernel_rfl) (by rintro c a w ⟨_, _, h, _⟩; cases h) (by rfl) (by kernel_rfl) ?_
 replace hS := hS.drew
 refine zW 3 ((101, vP b 1) :: (100, vP b 0) :: (99, vP b 0) :: _) hA hS rfl fun a hA => zY hA hS 2 rfl rfl rfl rfl rfl rfl rfl rfl rfl rfl fun a hA => zW 1 ((103, vP b1 3) :: _) hA hS rfl fun a hA => zY hA hS 1 rfl rfl rfl rfl rfl rfl rfl rfl rfl rfl fun a hA => dr_b (o := _) rfl ?_
 refine st_invoke hA rfl rfl rfl rfl (methNeed _) isfn214 rfl rfl (by decide) (fneed_100_214 hS _) ?_
 clear hA hS; rintro _ w6 a ⟨rfl, hS⟩ hA
 refine zi hS (zW 5 ((14, yT) :: (13, .int .u8 4) :: (107, yT) :: (106, .int .u8 4) :: (98, .tuple #[.int .u8 4, yT]) :: _) hA hS rfl fun a hA => ze (zx (zs (zs (zr (zR 4 ((111, vP b1 3) :: (110, yF) :: (109, yF) :: (108, yT) :: _) hA rfl fun a hA => zL hA hS 1 rfl rfl rfl rfl rfl rfl rfl rfl rfl fun a hA => zR 2 ((114, yF) :: (113, yF) :: _) hA rfl fun a hA => zn (zx (cd_cond_f hA rfl (zk (zx (zs ?_)))))))))))
 replace hS := hS.m3
 refine zD1 hS [] [(0, true), (1, true), (2, true), (3, true), (4, true), (5, true), (6, true), (7, false), (8, true), (9, true), (10, true), (11, true), (12, true)] mixed (by kernel_rfl) (by rintro c a w ⟨_, _, h, _⟩; cases h) (by rfl) (by kernel_rfl) ?_
 replace hS := hS.drew
 refine zW 3 ((120, vP b 0) :: (119, vP b 0) :: (118, vP b 0) :: _) hA (hS.tail 1 rfl) rfl fun a hA => zY hA (hS.tail 1 rfl) 2 rfl rfl rfl rfl rfl rfl rfl rfl rfl rfl fun a hA => zW 1 ((122, vP b1 5) :: _) hA (hS.tail 1 rfl) rfl fun a hA => zYA hA (hS.tail 1 rfl) 1 [vU po, vW m.ob, .int .u8 255, vU m.ck] rfl rfl rfl rfl rfl rfl rfl rfl rfl rfl rfl fun a hA => zW 1 ((124, .int .u8 4) :: _) hA (hS.tail 1 rfl) rfl fun a hA => dr_b (o := _) rfl ?_
 obtain ⟨mq7, obq7, LTq7, fcq7, hTq7, hMpq7, hfkq7, hfdq7, rfl⟩ := hB
 replace hS : St w0 w6.drew (LTq7 :: [(bf, rowO [.map (some mq7), vI nx, vI bb, vP bt 0] 263), (mq7, obq7)] :: [(b3, rowO [yU, yW, yB, yU, yU, yS] 225)] :: [(b1, rowO [vU m.to, vU m.rp, vW m.id, .int .u16 100, vH m.st, vU po, vW m.ob, .int .u8 255, vU m.ck, vU m.ar, .slice B m.da.length d'] 46)] :: [(b, rowO [vP bt 0, .iface 260 (vP bf 0)] 222)] :: O :: D :: F) := (hS.cast (L' := [(bf, rowO [.map (some mq7), vI nx, vI bb, vP bt 0] 263), (mq7, obq7)] :: LTq7 :: [(b3, rowO [yU, yW, yB, yU, yU, yS] 225)] :: [(b1, rowO [vU m.to, vU m.rp, vW m.id, .int .u16 100, vH m.st, vU po, vW m.ob, .int .u8 255, vU m.ck, vU m.ar, .slice B m.da.length d'] 46)] :: [(b, rowO [vP bt 0, .iface 260 (vP bf 0)] 222)] :: O :: D :: F) (by simp)).swap
 refine st_call0 hA rfl rfl rfl isfn127 rfl rfl (by decide) (ocheck127 hS hTq7 hox (by omega) hos hock (by decide)) ?_
 clear hA hS; rintro _ wq7 a ⟨LT2q7, hT2q7, rfl, hS⟩ hA
 replace hS : St w0 wq7 (((bf, rowO [.map (some mq7), vI nx, vI bb, vP bt 0] 263) :: ((mq7, obq7) :: LT2q7)) :: [(b3, rowO [yU, yW, yB, yU, yU, yS] 225)] :: [(b1, rowO [vU m.to, vU m.rp, vW m.id, .int .u16 100, vH m.st, vU po, vW m.ob, .int .u8 255, vU m.ck, vU m.ar, .slice B m.da.length d'] 46)] :: [(b, rowO [vP bt 0, .iface 260 (vP bf 0)] 222)] :: O :: D :: F) := hS.swap.cast (by simp)
 obtain ⟨L9q7, hBq7, hS9⟩ : ∃ L9, FBR w0 bf bt po bo os fl nx bb L9 D ∧ St w0 wq7 (L9 :: [(b3, rowO [yU, yW, yB, yU, yU, yS] 225)] :: [(b1, rowO [vU m.to, vU m.rp, vW m.id, .int .u16 100, vH m.st, vU po, vW m.ob, .int .u8 255, vU m.ck, vU m.ar, .slice B m.da.length d'] 46)] :: [(b, rowO [vP bt 0, .iface 260 (vP bf 0)] 222)] :: O :: D :: F) := ⟨_, ⟨_, _, _, _, hT2q7, hMpq7, hfkq7, hfdq7, rfl⟩, hS⟩
 clear hS; have hS := hS9; clear hS9
 refine zi (hS.tail 1 rfl) (zW 5 ((16, yN) :: (15, vI m.ob) :: (127, yN) :: (126, vI m.ob) :: (117, .tuple #[vI m.ob, yN]) :: _) hA (hS.tail 1 rfl) rfl fun a hA => ze (zx (zs (zs (zr (zR 2 ((129, yF) :: (128, yN) :: _) hA rfl fun a hA => zn (zx (cd_cond_f hA rfl (zk (zx (zs (zr (zR 3 ((135, vP b 0) :: (134, vP b 0) :: (133, vP b 0) :: _) hA rfl fun a hA => zL hA hS 3 rfl rfl rfl rfl rfl rfl rfl rfl rfl fun a hA => zR 1 ((137, vI m.ob) :: _) hA rfl fun a hA => ?_)))))))))))))
 obtain ⟨mq8, obq8, LTq8, fcq8, hTq8, hMpq8, hfkq8, hfdq8, rfl⟩ := hBq7
 replace hS : St w0 wq7 (LTq8 :: [(bf, rowO [.map (some mq8), vI nx, vI bb, vP bt 0] 263), (mq8, obq8)] :: [(b3, rowO [yU, yW, yB, yU, yU, yS] 225)] :: [(b1, rowO [vU m.to, vU m.rp, vW m.id, .int .u16 100, vH m.st, vU po, vW m.ob, .int .u8 255, vU m.ck, vU m.ar, .slice B m.da.length d'] 46)] :: [(b, rowO [vP bt 0, .iface 260 (vP bf 0)] 222)] :: O :: D :: F) := (hS.cast (L' := [(bf, rowO [.map (some mq8), vI nx, vI bb, vP bt 0] 263), (mq8, obq8)] :: LTq8 :: [(b3, rowO [yU, yW, yB, yU, yU, yS] 225)] :: [(b1, rowO [vU m.to, vU m.rp, vW m.id, .int .u16 100, vH m.st, vU po, vW m.ob, .int .u8 255, vU m.ck, vU m.ar, .slice B m.da.length d'] 46)] :: [(b, rowO [vP bt 0, .iface 260 (vP bf 0)] 222)] :: O :: D :: F) (by simp)).swap
 refine st_call0 hA rfl rfl rfl isfn128 rfl rfl (by decide) (ovalue128 hS hTq8 hox (by omega)) ?_
 clear hA hS; rintro _ wq8 a ⟨LT2q8, hT2q8, rfl, hS⟩ hA
 replace hS : St w0 wq8 (((bf, rowO [.map (some mq8), vI nx, vI bb, vP bt 0] 263) :: ((mq8, obq8) :: LT2q8)) :: [(b3, rowO [yU, yW, yB, yU, yU, yS] 225)] :: [(b1, rowO [vU m.to, vU m.rp, vW m.id, .int .u16 100, vH m.st, vU po, vW m.ob, .int .u8 255, vU m.ck, vU m.ar, .slice B m.da.length d'] 46)] :: [(b, rowO [vP bt 0, .iface 260 (vP bf 0)] 222)] :: O :: D :: F) := hS.swap.cast (by simp)
 obtain ⟨L9q8, hBq8, hS9⟩ : ∃ L9, FBR w0 bf bt po bo os fl nx bb L9 D ∧ St w0 wq8 (L9 :: [(b3, rowO [yU, yW, yB, yU, yU, yS] 225)] :: [(b1, rowO [vU m.to, vU m.rp, vW m.id, .int .u16 100, vH m.st, vU po, vW m.ob, .int .u8 255, vU m.ck, vU m.ar, .slice B m.da.length d'] 46)] :: [(b, rowO [vP bt 0, .iface 260 (vP bf 0)] 222)] :: O :: D :: F) := ⟨_, ⟨_, _, _, _, hT2q8, hMpq8, hfkq8, hfdq8, rfl⟩, hS⟩
 clear hS; have hS := hS9; clear hS9
 refine zR 5 ((18, yT) :: (17, .int .i64 (-1)) :: (140, yT) :: (139, .int .i64 (-1)) :: (132, .tuple #[.int .i64 (-1), yT]) :: _) hA rfl fun a hA => zn (zx (zs ?_))
 replace hS := hS.m1.m5.m5.m3
 refine zD4 hS [] [(0, true), (1, true), (2, true), (3, true), (4, true), (5, true), (6, true), (7, true), (8, false), (9, true), (10, true), (11, false), (12, true)] mixed (by kernel_rfl) (by rintro c a w ⟨_, _, h, _⟩; cases h) (by rfl) (by kernel_rfl) ?_
 replace hS := hS.drew
 refine zW 3 ((143, vP b 1) :: (142, vP b 0) :: (141, vP b 0) :: _) hA (hS.tail 4 rfl) rfl fun a hA => zY hA (hS.tail 4 rfl) 1 rfl rfl rfl rfl rfl rfl rfl rfl rfl rfl fun a hA => zW 1 ((145, vP b1 3) :: _) hA (hS.tail 4 rfl) rfl fun a hA => zY hA (hS.tail 4 rfl) 0 rfl rfl rfl rfl rfl rfl rfl rfl rfl rfl fun a hA => zW 1 ((147, .int .i64 (-1)) :: _) hA (hS.tail 4 rfl) rfl fun a hA => zYA hA (hS.tail 4 rfl) 0 [vU m.to, vU m.rp, vW m.id, .int .u16 100, vH m.st, vU po, vW m.ob, .int .u8 255, vU m.ck, vU m.ar, .slice B m.da.length d'] rfl rfl rfl rfl rfl rfl rfl rfl rfl rfl rfl fun a hA => dr_b (o := _) rfl ?_
 replace hS := hS.m5.m5.m5.m5.m5.m5
 refine st_invoke hA rfl rfl rfl rfl (methDo _) isfn212 rfl rfl (by decide) (fdo_make212 hS hBq8 hO { m with po := po, ri := 255 } (fun w' h => hd _ (St.dmid (R := [[(b3, rowO [yU, yW, yB, yU, yU, yS] 225)], [(b1, rowO [vU m.to, vU m.rp, vW m.id, .int .u16 100, vH m.st, vU po, vW m.ob, .int .u8 255, vU m.ck, vU m.ar, .slice B m.da.length d'] 46)], [(b, rowO [vP bt 0, .iface 260 (vP bf 0)] 222)]]) h)) hall hol hlt hnx hbb hx) ?_
 clear hA hS; rintro _ w9 a ⟨L2, O2, E2, hB2, hO2, rfl, hS⟩ hA
 refine zi (hS.tail 4 rfl) (zW 2 ((151, yN) :: (150, .agg #[vU po, vW os.length, .int .u8 255, vU x, yU, yS]) :: _) hA (hS.tail 4 rfl) rfl fun a hA => dr_b (o := _) rfl ?_)
 replace hS := hS.m3
 refine st_store tbOk hA hS [vU po, vW os.length, .int .u8 255, vU x, yU, yS] [vU po, vW os.length, .int .u8 255, vU x, yU, yS] rfl rfl rfl rfl rfl rfl (zn1 rfl) (zle rfl) rfl rfl rfl fun w10 hS => ?_
 refine zi (hS.tail 4 rfl) (zW 1 ((5, yN) :: _) hA (hS.tail 4 rfl) rfl fun a hA => ze (zx ?_))
 refine wp_ret ?_
 refine retc2 tbOk (fn := Tryz.f104) (cs := [vU po, vW os.length, .int .u8 255, vU x, yU, yS]) hA rfl rfl rfl rfl rfl rfl (cells_row (hS.heapAt 0 rfl) rfl) ?_
 replace hS := hS.d0.m3.d0.m2.m2.m2.m3
 exact ⟨_, _, _, ⟨_, _, _, hB2, rfl⟩, hO2, rfl, hS.join⟩
set_option maxHeartbeats 4000000 in
theorem skdo_read104 {w0 w : World} {F : List Chunk} {b po bo nx bb : Nat} {os : List (Bool × Nat × Int × Int × Int)} {fl : List (Nat × List UInt8)} {L D : Chunk} (hS : St w0 w (L :: D :: F)) (hV : SVR w0 b po bo os fl nx bb L D) (d : Value) (hol1 : os.length ≤ 64) {j va p n : Nat} {bs : List UInt8} (hj : fl[j]? = some (va, bs)) (hjn : ∀ (q : Nat) (y : Nat × List UInt8), q < j → fl[q]? = some y → ¬ y.1 = va) (hbl : bs.length ≤ 65536) (hn : n ≤ 4096) (hp : p + n ≤ bs.length) (m : MN) (hpo : po < 281474976710656) (hob : m.ob < 16777216) (hck : m.ck < 281474976710656) {s : Nat} {e li : Int} (hox : os[m.ob]? = some (true, s, e, ((va : Nat) : Int), li)) (hos : s < 2 ^ 64) (hock : s % 281474976710656 = m.ck)  :
 Ret Tryz.prog 104 #[vP b 0, .agg #[vU m.to, vU m.rp, vW m.id, .int .u16 101, vH m.st, vU po, vW m.ob, .int .u8 255, vU m.ck, vU (p * 4294967296 + n), d]] w (fun v w' => ∃ L' E A c, SVR w0 b po bo os fl nx bb L' (E ++ D) ∧ DR w0 E A c (bsub bs p n) ∧ v = .tuple #[.agg #[yU, yW, yB, yU, yU, .slice A ((bsub bs p n).length) c], yN] ∧ St w0 w' (L' :: (E ++ D) :: F)) := by
 obtain ⟨bf, bt, L1, hB, rfl⟩ := hV
 replace hS : St w0 w ([(b, rowO [vP bt 0, .iface 260 (vP bf 0)] 222)] :: L1 :: D :: F) := hS.cast (by simp)
 refine enter (vs := [vP b 0, .agg #[vU m.to, vU m.rp, vW m.id, .int .u16 101, vH m.st, vU po, vW m.ob, .int .u8 255, vU m.ck, vU (p * 4294967296 + n), d]]) 152 Tryz.func104 rfl rfl (by simp) ?_; intro a hA
 refine zs (zr ?_)
 refine st_box hA hS [vU m.to, vU m.rp, vW m.id, .int .u16 101, vH m.st, vU po, vW m.ob, .int .u8 255, vU m.ck, vU (p * 4294967296 + n), d] rfl rfl rfl rfl rfl (by decide) fun b1 w2 a hS hA => ?_
 refine st_alloc tbOk hA hS [yU, yW, yB, yU, yU, yS] rfl rfl rfl rfl rfl (by decide) fun b3 w4 a hS hA => ?_
 refine zR 1 ((5, yN) :: _) hA rfl fun a hA => zn (zx (zs (zs (zr (zR 1 ((19, vP b1 5) :: _) hA rfl fun a hA => zLA hA hS 1 [vU po, vW m.ob, .int .u8 255, vU m.ck] rfl rfl rfl rfl rfl rfl rfl rfl rfl rfl fun a hA => ?_)))))
 refine st_call0 hA rfl rfl rfl isfn82 rfl rfl (by decide) (cmay82 hS (po := po) (ob := m.ob) (ri := 255) (ck := m.ck) (by omega) (by omega) (by omega)) ?_
 clear hA hS; rintro _ w5 a ⟨rfl, hS⟩ hA
 refine zR 1 ((22, yF) :: _) hA rfl fun a hA => zn (zx (cd_cond_f hA rfl (zk (zx (zs (zs (zr (zR 1 ((25, vP b1 3) :: _) hA rfl fun a hA => zL hA hS 1 rfl rfl rfl rfl rfl rfl rfl rfl rfl fun a hA => zn (zx (zb (zs (zr (zR 2 ((27, yF) :: (28, yF) :: _) hA rfl fun a hA => zn (zx (cd_cond_f hA rfl (zs (zr (zR 2 ((48, yF) :: (49, yF) :: _) hA rfl fun a hA => zn (zx (cd_cond_f hA rfl (zs (zr (zR 2 ((58, yF) :: (59, yF) :: _) hA rfl fun a hA => zn (zx (cd_cond_f hA rfl (zs (zr (zR 2 ((76, yF) :: (77, yF) :: _) hA rfl fun a hA => zn (zx (cd_cond_f hA rfl (zs (zr (zR 2 ((91, yF) :: (92, yF) :: _) hA rfl fun a hA => zn (zx (cd_cond_f hA rfl (zk (zm (zx (zs ?_)))))))))))))))))))))))))))))))))))))))
 refine zD0 hS [] [(0, true), (1, true), (2, true), (3, true), (4, true), (5, true), (6, false), (7, true), (8, true), (9, true), (10, true), (11, true)] mixed (by kernel_rfl) (by rintro c a w ⟨_, _, h, _⟩; cases h) (by rfl) (by kernel_rfl) ?_
 replace hS := hS.drew
 refine zW 3 ((101, vP b 1) :: (100, vP b 0) :: (99, vP b 0) :: _) hA hS rfl fun a hA => zY hA hS 2 rfl rfl rfl rfl rfl rfl rfl rfl rfl rfl fun a hA => zW 1 ((103, vP b1 3) :: _) hA hS rfl fun a hA => zY hA hS 1 rfl rfl rfl rfl rfl rfl rfl rfl rfl rfl fun a hA => dr_b (o := _) rfl ?_
 refine st_invoke hA rfl rfl rfl rfl (methNeed _) isfn214 rfl rfl (by decide) (fneed_101_214 hS _) ?_
 clear hA hS; rintro _ w6 a ⟨rfl, hS⟩ hA
 refine zi hS (zW 5 ((14, yT) :: (13, .int .u8 1) :: (107, yT) :: (106, .int .u8 1) :: (98, .tuple #[.int .u8 1, yT]) :: _) hA hS rfl fun a hA => ze (zx (zs (zs (zr (zR 4 ((111, vP b1 3) :: (110, yF) :: (109, yF) :: (108, yT) :: _) hA rfl fun a hA => zL hA hS 1 rfl rfl rfl rfl rfl rfl rfl rfl rfl fun a hA => zR 2 ((114, yF) :: (113, yF) :: _) hA rfl fun a hA => zn (zx (cd_cond_f hA rfl (zk (zx (zs ?_)))))))))))
 replace hS := hS.m3
 refine zD1 hS [] [(0, true), (1, true), (2, true), (3, true), (4, true), (5, true), (6, true), (7, false), (8, true), (9, true), (10, true), (11, true), (12, true)] mixed (by kernel_rfl) (by rintro c a w ⟨_, _, h, _⟩; cases h) (by rfl) (by kernel_rfl) ?_
 replace hS := hS.drew
 refine zW 3 ((120, vP b 0) :: (119, vP b 0) :: (118, vP b 0) :: _) hA (hS.tail 1 rfl) rfl fun a hA => zY hA (hS.tail 1 rfl) 2 rfl rfl rfl rfl rfl rfl rfl rfl rfl rfl fun a hA => zW 1 ((122, vP b1 5) :: _) hA (hS.tail 1 rfl) rfl fun a hA => zYA hA (hS.tail 1 rfl) 1 [vU po, vW m.ob, .int .u8 255, vU m.ck] rfl rfl rfl rfl rfl rfl rfl rfl rfl rfl rfl fun a hA => zW 1 ((124, .int .u8 1) :: _) hA (hS.tail 1 rfl) rfl fun a hA => dr_b (o := _) rfl ?_
 obtain ⟨mq7, obq7, LTq7, fcq7, hTq7, hMpq7, hfkq7, hfdq7, rfl⟩ := hB
 replace hS : St w0 w6.drew (LTq7 :: [(bf, rowO [.map (some mq7), vI nx, vI bb, vP bt 0] 263), (mq7, obq7)] :: [(b3, rowO [yU, yW, yB, yU, yU, yS] 225)] :: [(b1, rowO [vU m.to, vU m.rp, vW m.id, .int .u16 101, vH m.st, vU po, vW m.ob, .int .u8 255, vU m.ck, vU (p * 4294967296 + n), d] 46)] :: [(b, rowO [vP bt 0, .iface 260 (vP bf 0)] 222)] :: D :: F) := (hS.cast (L' := [(bf, rowO [.map (some mq7), vI nx, vI bb, vP bt 0] 263), (mq7, obq7)] :: LTq7 :: [(b3, rowO [yU, yW, yB, yU, yU, yS] 225)] :: [(b1, rowO [vU m.to, vU m.rp, vW m.id, .int .u16 101, vH m.st, vU po, vW m.ob, .int .u8 255, vU m.ck, vU (p * 4294967296 + n), d] 46)] :: [(b, rowO [vP bt 0, .iface 260 (vP bf 0)] 222)] :: D :: F) (by simp)).swap
 refine st_call0 hA rfl rfl rfl isfn127 rfl rfl (by decide) (ocheck127 hS hTq7 hox (by omega) hos hock (by decide)) ?_
 clear hA hS; rintro _ wq7 a ⟨LT2q7, hT2q7, rfl, hS⟩ hA
 replace hS : St w0 wq7 (((bf, rowO [.map (some mq7), vI nx, vI bb, vP bt 0] 263) :: ((mq7, obq7) :: LT2q7)) :: [(b3, rowO [yU, yW, yB, yU, yU, yS] 225)] :: [(b1, rowO [vU m.to, vU m.rp, vW m.id, .int .u16 101, vH m.st, vU po, vW m.ob, .int .u8 255, vU m.ck, vU (p * 4294967296 + n), d] 46)] :: [(b, rowO [vP bt 0, .iface 260 (vP bf 0)] 222)] :: D :: F) := hS.swap.cast (by simp)
 obtain ⟨L9q7, hBq7, hS9⟩ : ∃ L9, FBR w0 bf bt po bo os fl nx bb L9 D ∧ St w0 wq7 (L9 :: [(b3, rowO [yU, yW, yB, yU, yU, yS] 225)] :: [(b1, rowO [vU m.to, vU m.rp, vW m.id, .int .u16 101, vH m.st, vU po, vW m.ob, .int .u8 255, vU m.ck, vU (p * 4294967296 + n), d] 46)] :: [(b, rowO [vP bt 0, .iface 260 (vP bf 0)] 222)] :: D :: F) := ⟨_, ⟨_, _, _, _, hT2q7, hMpq7, hfkq7, hfdq7, rfl⟩, hS⟩
 clear hS; have hS := hS9; clear hS9
 refine zi (hS.tail 1 rfl) (zW 5 ((16, yN) :: (15, vI m.ob) :: (127, yN) :: (126, vI m.ob) :: (117, .tuple #[vI m.ob, yN]) :: _) hA (hS.tail 1 rfl) rfl fun a hA => ze (zx (zs (zs (zr (zR 2 ((129, yF) :: (128, yN) :: _) hA rfl fun a hA => zn (zx (cd_cond_f hA rfl (zk (zx (zs (zr (zR 3 ((135, vP b 0) :: (134, vP b 0) :: (133, vP b 0) :: _) hA rfl fun a hA => zL hA hS 3 rfl rfl rfl rfl rfl rfl rfl rfl rfl fun a hA => zR 1 ((137, vI m.ob) :: _) hA rfl fun a hA => ?_)))))))))))))
 obtain ⟨mq8, obq8, LTq8, fcq8, hTq8, hMpq8, hfkq8, hfdq8, rfl⟩ := hBq7
 replace hS : St w0 wq7 (LTq8 :: [(bf, rowO [.map (some mq8), vI nx, vI bb, vP bt 0] 263), (mq8, obq8)] :: [(b3, rowO [yU, yW, yB, yU, yU, yS] 225)] :: [(b1, rowO [vU m.to, vU m.rp, vW m.id, .int .u16 101, vH m.st, vU po, vW m.ob, .int .u8 255, vU m.ck, vU (p * 4294967296 + n), d] 46)] :: [(b, rowO [vP bt 0, .iface 260 (vP bf 0)] 222)] :: D :: F) := (hS.cast (L' := [(bf, rowO [.map (some mq8), vI nx, vI bb, vP bt 0] 263), (mq8, obq8)] :: LTq8 :: [(b3, rowO [yU, yW, yB, yU, yU, yS] 225)] :: [(b1, rowO [vU m.to, vU m.rp, vW m.id, .int .u16 101, vH m.st, vU po, vW m.ob, .int .u8 255, vU m.ck, vU (p * 4294967296 + n), d] 46)] :: [(b, rowO [vP bt 0, .iface 260 (vP bf 0)] 222)] :: D :: F) (by simp)).swap
 refine st_call0 hA rfl rfl rfl isfn128 rfl rfl (by decide) (ovalue128 hS hTq8 hox (by omega)) ?_
 clear hA hS; rintro _ wq8 a ⟨LT2q8, hT2q8, rfl, hS⟩ hA
 replace hS : St w0 wq8 (((bf, rowO [.map (some mq8), vI nx, vI bb, vP bt 0] 263) :: ((mq8, obq8) :: LT2q8)) :: [(b3, rowO [yU, yW, yB, yU, yU, yS] 225)] :: [(b1, rowO [vU m.to, vU m.rp, vW m.id, .int .u16 101, vH m.st, vU po, vW m.ob, .int .u8 255, vU m.ck, vU (p * 4294967296 + n), d] 46)] :: [(b, rowO [vP bt 0, .iface 260 (vP bf 0)] 222)] :: D :: F) := hS.swap.cast (by simp)
 obtain ⟨L9q8, hBq8, hS9⟩ : ∃ L9, FBR w0 bf bt po bo os fl nx bb L9 D ∧ St w0 wq8 (L9 :: [(b3, rowO [yU, yW, yB, yU, yU, yS] 225)] :: [(b1, rowO [vU m.to, vU m.rp, vW m.id, .int .u16 101, vH m.st, vU po, vW m.ob, .int .u8 255, vU m.ck, vU (p * 4294967296 + n), d] 46)] :: [(b, rowO [vP bt 0, .iface 260 (vP bf 0)] 222)] :: D :: F) := ⟨_, ⟨_, _, _, _, hT2q8, hMpq8, hfkq8, hfdq8, rfl⟩, hS⟩
 clear hS; have hS := hS9; clear hS9
 refine zR 5 ((18, yT) :: (17, vI va) :: (140, yT) :: (139, vI va) :: (132, .tuple #[vI va, yT]) :: _) hA rfl fun a hA => zn (zx (zs ?_))
 replace hS := hS.m1.m4.m2
 refine zD3 hS [] [(0, true), (1, true), (2, true), (3, true), (4, true), (5, true), (6, true), (7, true), (8, false), (9, true), (10, true), (11, false), (12, true)] mixed (by kernel_rfl) (by rintro c a w ⟨_, _, h, _⟩; cases h) (by rfl) (by kernel_rfl) ?_
 replace hS := hS.drew
 refine zW 3 ((143, vP b 1) :: (142, vP b 0) :: (141, vP b 0) :: _) hA (hS.tail 3 rfl) rfl fun a hA => zY hA (hS.tail 3 rfl) 1 rfl rfl rfl rfl rfl rfl rfl rfl rfl rfl fun a hA => zW 1 ((145, vP b1 3) :: _) hA (hS.tail 3 rfl) rfl fun a hA => zY hA (hS.tail 3 rfl) 0 rfl rfl rfl rfl rfl rfl rfl rfl rfl rfl fun a hA => zW 1 ((147, vI va) :: _) hA (hS.tail 3 rfl) rfl fun a hA => zYA hA (hS.tail 3 rfl) 0 [vU m.to, vU m.rp, vW m.id, .int .u16 101, vH m.st, vU po, vW m.ob, .int .u8 255, vU m.ck, vU (p * 4294967296 + n), d] rfl rfl rfl rfl rfl rfl rfl rfl rfl rfl rfl fun a hA => dr_b (o := _) rfl ?_
 replace hS := hS.m4.m4.m4.m4.m4
 refine st_invoke hA rfl rfl rfl rfl (methDo _) isfn212 rfl rfl (by decide) (fdo_read212 hS hBq8 { m with po := po, ri := 255 } _ hj hjn hbl hn hp) ?_
 clear hA hS; rintro _ w9 a ⟨L2, E2, A2, c2, hB2, hE2, rfl, hS⟩ hA
 refine zi (hS.tail 3 rfl) (zW 2 ((151, yN) :: (150, .agg #[yU, yW, yB, yU, yU, .slice A2 ((bsub bs p n).length) c2]) :: _) hA (hS.tail 3 rfl) rfl fun a hA => dr_b (o := _) rfl ?_)
 replace hS := hS.m2
 refine st_store tbOk hA hS [yU, yW, yB, yU, yU, .slice A2 ((bsub bs p n).length) c2] [yU, yW, yB, yU, yU, .slice A2 ((bsub bs p n).length) c2] rfl rfl rfl rfl rfl rfl (zn1 rfl) (zle rfl) rfl rfl rfl fun w10 hS => ?_
 refine zi (hS.tail 3 rfl) (zW 1 ((5, yN) :: _) hA (hS.tail 3 rfl) rfl fun a hA => ze (zx ?_))
 refine wp_ret ?_
 refine retc2 tbOk (fn := Tryz.f104) (cs := [yU, yW, yB, yU, yU, .slice A2 ((bsub bs p n).length) c2]) hA rfl rfl rfl rfl rfl rfl (cells_row (hS.heapAt 0 rfl) rfl) ?_
 replace hS := hS.d0.m2.d0.m1.m1.m2
 exact ⟨_, _, _, _, ⟨_, _, _, hB2, rfl⟩, hE2, rfl, hS.join⟩
end Go.Proofs.YthiakdmhpfkjbaaGreatDoor

set_option linter.unusedVariables false
set_option linter.unusedSimpArgs false
set_option maxRecDepth 4000
namespace Go.Proofs.YthiakdmhpfkjbaaGreatDoor
open Go Go.SK
theorem SVR.mono {w0 : World} {b po bo nx bb : Nat} {os : List (Bool × Nat × Int × Int × Int)} {fl : List (Nat × List UInt8)} {L D E C : Chunk} (h : SVR w0 b po bo os fl nx bb L (E ++ D)) : SVR w0 b po bo os fl nx bb L ((C ++ E) ++ D) := by
  obtain ⟨bf, bt, L1, ⟨m, ob, LT, fc, h1, h2, h3, h4, h5⟩, h6⟩ := h
  exact ⟨bf, bt, L1, ⟨m, ob, LT, fc, h1, h2, h3, fun x hx => by rw [List.append_assoc]; exact (h4 x hx).left, h5⟩, h6⟩
set_option maxHeartbeats 4000000 in
theorem serve_make69 {w0 w : World} {F : List Chunk} {b po bo nx bb : Nat} {os : List (Bool × Nat × Int × Int × Int)} {fl : List (Nat × List UInt8)} {L O D : Chunk} {en : List (Nat × Nat × Nat)} {ts : List Nat} {k : Nat} (hS : St w0 w (L :: O :: D :: F)) (hV : SVR w0 b po bo os fl nx bb L D) (hO : ORR bo en ts k O) (m : MN) (hpo : po < 281474976710656) (hob : m.ob < 16777216) (hck : m.ck < 281474976710656) {s : Nat} {e li : Int} (hox : os[m.ob]? = some (true, s, e, -1, li)) (hos : s < 2 ^ 64) (hock : s % 281474976710656 = m.ck) {d : Value} (hd : RdSX w0 (D :: F) 1 d m.da.length (rows encB m.da)) (hol1 : os.length ≤ 64) {x : Nat} (hall : ∀ x ∈ os, x.1 = true) (hol : os.length < 64) (hlt : ∀ x ∈ fl, x.1 < nx) (hnx : nx < 1000000) (hbb : bb + m.da.length ≤ 65536) (hx : ts[k]? = some x) :
 Ret Tryz.prog 69 #[vP b 0, .agg #[vU m.to, vU m.rp, vW m.id, .int .u16 100, vH m.st, vU po, vW m.ob, .int .u8 255, vU m.ck, vU m.ar, d]] w (fun v w' => ∃ L' O' E A c, SVR w0 b po bo (os ++ [(true, x, 0, ((nx : Nat) : Int), 24)]) (fl ++ [(nx, m.da)]) (nx + 1) (bb + m.da.length) L' (E ++ D) ∧ ORR bo en ts (k + 1) O' ∧ DD w0 E A c [] ∧ v = .agg #[vU m.rp, vU m.to, vW m.id, .int .u16 100, yH, vU po, vW os.length, .int .u8 255, vU x, yU, .slice A 0 c] ∧ St w0 w' (L' :: O' :: (E ++ D) :: F)) := by
 have hV0 := hV; obtain ⟨bf0, bt0, L10, hB0, hLe⟩ := hV0
 obtain ⟨B, d', rfl, hmd, hdx⟩ := (hd _ (hS.tail 2 rfl)).open'
 replace hS : St w0 w ([(b, rowO [vP bt0 0, .iface 260 (vP bf0 0)] 222)] :: L10 :: O :: D :: F) := by rw [hLe] at hS; exact hS.cast (by simp)
 refine enter (vs := [vP b 0, .agg #[vU m.to, vU m.rp, vW m.id, .int .u16 100, vH m.st, vU po, vW m.ob, .int .u8 255, vU m.ck, vU m.ar, .slice B m.da.length d']]) 41 Tryz.func69 rfl rfl (by simp) ?_; intro a hA
 refine zs (zr ?_)
 refine st_box hA hS [vU m.to, vU m.rp, vW m.id, .int .u16 100, vH m.st, vU po, vW m.ob, .int .u8 255, vU m.ck, vU m.ar, .slice B m.da.length d'] rfl rfl rfl rfl rfl (by decide) fun b1 w2 a hS hA => ?_
 refine st_alloc tbOk hA hS [yU, yU, yW, yH, yH, yU, yW, yB, yU, yU, yS] rfl rfl rfl rfl rfl (by decide) fun b3 w4 a hS hA => ?_
 refine zn (zx (zs (zs (zr (zR 3 ((9, vP b 0) :: (8, vP b 0) :: (7, vP b 0) :: _) hA rfl fun a hA => zL hA hS 2 rfl rfl rfl rfl rfl rfl rfl rfl rfl fun a hA => zR 5 ((15, vP b 1) :: (14, vP b 0) :: (13, vP b 0) :: (12, yF) :: (11, yF) :: _) hA rfl fun a hA => zL hA hS 2 rfl rfl rfl rfl rfl rfl rfl rfl rfl fun a hA => zR 2 ((18, yF) :: (17, yF) :: _) hA rfl fun a hA => zn (zx (cd_cond_f hA rfl (zk (zx (zs (zr (zR 1 ((23, vP b 0) :: _) hA rfl fun a hA => zLA hA hS 1 [vU m.to, vU m.rp, vW m.id, .int .u16 100, vH m.st, vU po, vW m.ob, .int .u8 255, vU m.ck, vU m.ar, .slice B m.da.length d'] rfl rfl rfl rfl rfl rfl rfl rfl rfl rfl fun a hA => ?_))))))))))))
 replace hS := hS.m1.m1.m5.m5.m5.m5
 replace hS : St w0 w4 (L :: O :: D :: [(b3, rowO [yU, yU, yW, yH, yH, yU, yW, yB, yU, yU, yS] 46)] :: [(b1, rowO [vU m.to, vU m.rp, vW m.id, .int .u16 100, vH m.st, vU po, vW m.ob, .int .u8 255, vU m.ck, vU m.ar, .slice B m.da.length d'] 46)] :: F) := by rw [hLe]; exact hS.cast (by simp)
 refine st_call0 hA rfl rfl rfl isfn104 rfl rfl (by decide) (skdo_make104 hS hV hO m hpo hob hck hox hos hock (fun w' h => hd _ (St.dmid (R := [[(b3, rowO [yU, yU, yW, yH, yH, yU, yW, yB, yU, yU, yS] 46)], [(b1, rowO [vU m.to, vU m.rp, vW m.id, .int .u16 100, vH m.st, vU po, vW m.ob, .int .u8 255, vU m.ck, vU m.ar, .slice B m.da.length d'] 46)]]) h)) hol1 hall hol hlt hnx hbb hx) ?_
 clear hA hS; rintro _ w5 a ⟨L2, O2, E2, hV2, hO2, rfl, hS⟩ hA
 refine zR 3 ((27, yN) :: (26, .agg #[vU po, vW os.length, .int .u8 255, vU x, yU, yS]) :: (22, .tuple #[.agg #[vU po, vW os.length, .int .u8 255, vU x, yU, yS], yN]) :: _) hA rfl fun a hA => ?_
 refine st_alloc tbOk hA hS [yU, yW, yB, yU, yU, yS] rfl rfl rfl rfl rfl (by decide) fun b6 w7 a hS hA => ?_
 refine st_store tbOk hA hS [vU po, vW os.length, .int .u8 255, vU x, yU, yS] [vU po, vW os.length, .int .u8 255, vU x, yU, yS] rfl rfl rfl rfl rfl rfl (zn1 rfl) (zle rfl) rfl rfl rfl fun w8 hS => ?_
 refine zR 1 ((6, yN) :: _) hA rfl fun a hA => zn (zx (zs (zs (zr (zR 2 ((29, yF) :: (28, yN) :: _) hA rfl fun a hA => zn (zx (cd_cond_f hA rfl (zk (zx (zs (zr (zLA hA hS 5 [vU m.to, vU m.rp, vW m.id, .int .u16 100, vH m.st, vU po, vW m.ob, .int .u8 255, vU m.ck, vU m.ar, .slice B m.da.length d'] rfl rfl rfl rfl rfl rfl rfl rfl rfl rfl fun a hA => zR 1 ((34, vP b6 0) :: _) hA rfl fun a hA => zLA hA hS 0 [vU po, vW os.length, .int .u8 255, vU x] rfl rfl rfl rfl rfl rfl rfl rfl rfl rfl fun a hA => zR 1 ((36, vP b6 4) :: _) hA rfl fun a hA => zL hA hS 0 rfl rfl rfl rfl rfl rfl rfl rfl rfl fun a hA => zR 1 ((38, vP b6 5) :: _) hA rfl fun a hA => zL hA hS 0 rfl rfl rfl rfl rfl rfl rfl rfl rfl fun a hA => ?_))))))))))))
 refine st_call0 hA rfl rfl rfl isfn105 rfl rfl (by decide) (answer105 hS { m with op := 100, po := po, ri := 255 } _ 0 po os.length 255 x 0 (da := ([] : List UInt8)) RdSX.nil (by first | omega | (simp only [List.length_append, be_length, capb_length, List.length_cons, List.length_nil, List.length_drop, List.length_take]; omega)) (by omega)) ?_
 clear hA hS; rintro _ w12 a ⟨A9, c10, C11, hO11, rfl, hS⟩ hA
 obtain ⟨_, _, _, hmc10, hxc10⟩ := hO11.open'
 replace hS := hS.m5
 refine st_store tbOk hA hS [vU m.rp, vU m.to, vW m.id, .int .u16 100, yH, vU po, vW os.length, .int .u8 255, vU x, yU, .slice A9 (([] : List UInt8).length) c10] [vU m.rp, vU m.to, vW m.id, .int .u16 100, yH, vU po, vW os.length, .int .u8 255, vU x, yU, .slice A9 (([] : List UInt8).length) c10] rfl rfl rfl rfl rfl rfl (zn1 rfl) (zle rfl) rfl rfl rfl fun w13 hS => ?_
 refine zn (zx ?_)
 refine wp_ret ?_
 refine retc1 tbOk (fn := Tryz.f69) (cs := [vU m.rp, vU m.to, vW m.id, .int .u16 100, yH, vU po, vW os.length, .int .u8 255, vU x, yU, .slice A9 (([] : List UInt8).length) c10]) hA rfl rfl rfl rfl rfl (cells_row (hS.heapAt 0 rfl) rfl) ?_
 replace hS := hS.d0.m1.d0.m4.d0.m3.m1.m3.m3
 replace hS : St w0 w13 (L2 :: O2 :: ((C11 ++ E2) ++ D) :: F) := hS.cast (by simp)
 exact ⟨_, _, C11 ++ E2, _, _, SVR.mono hV2, hO2, (DD.new hO11).right, rfl, hS⟩
set_option maxHeartbeats 4000000 in
theorem serve_read69 {w0 w : World} {F : List Chunk} {b po bo nx bb : Nat} {os : List (Bool × Nat × Int × Int × Int)} {fl : List (Nat × List UInt8)} {L D : Chunk} (hS : St w0 w (L :: D :: F)) (hV : SVR w0 b po bo os fl nx bb L D) (d : Value) (hol1 : os.length ≤ 64) {j va p n : Nat} {bs : List UInt8} (hj : fl[j]? = some (va, bs)) (hjn : ∀ (q : Nat) (y : Nat × List UInt8), q < j → fl[q]? = some y → ¬ y.1 = va) (hbl : bs.length ≤ 65536) (hn : n ≤ 4096) (hp : p + n ≤ bs.length) (m : MN) (hpo : po < 281474976710656) (hob : m.ob < 16777216) (hck : m.ck < 281474976710656) {s : Nat} {e li : Int} (hox : os[m.ob]? = some (true, s, e, ((va : Nat) : Int), li)) (hos : s < 2 ^ 64) (hock : s % 281474976710656 = m.ck)  :
 Ret Tryz.prog 69 #[vP b 0, .agg #[vU m.to, vU m.rp, vW m.id, .int .u16 101, vH m.st, vU po, vW m.ob, .int .u8 255, vU m.ck, vU (p * 4294967296 + n), d]] w (fun v w' => ∃ L' E A c, SVR w0 b po bo os fl nx bb L' (E ++ D) ∧ DD w0 E A c (bsub bs p n) ∧ v = .agg #[vU m.rp, vU m.to, vW m.id, .int .u16 101, yH, yU, yW, yB, yU, yU, .slice A ((bsub bs p n).length) c] ∧ St w0 w' (L' :: (E ++ D) :: F)) := by
 have hV0 := hV; obtain ⟨bf0, bt0, L10, hB0, hLe⟩ := hV0
 replace hS : St w0 w ([(b, rowO [vP bt0 0, .iface 260 (vP bf0 0)] 222)] :: L10 :: D :: F) := by rw [hLe] at hS; exact hS.cast (by simp)
 refine enter (vs := [vP b 0, .agg #[vU m.to, vU m.rp, vW m.id, .int .u16 101, vH m.st, vU po, vW m.ob, .int .u8 255, vU m.ck, vU (p * 4294967296 + n), d]]) 41 Tryz.func69 rfl rfl (by simp) ?_; intro a hA
 refine zs (zr ?_)
 refine st_box hA hS [vU m.to, vU m.rp, vW m.id, .int .u16 101, vH m.st, vU po, vW m.ob, .int .u8 255, vU m.ck, vU (p * 4294967296 + n), d] rfl rfl rfl rfl rfl (by decide) fun b1 w2 a hS hA => ?_
 refine st_alloc tbOk hA hS [yU, yU, yW, yH, yH, yU, yW, yB, yU, yU, yS] rfl rfl rfl rfl rfl (by decide) fun b3 w4 a hS hA => ?_
 refine zn (zx (zs (zs (zr (zR 3 ((9, vP b 0) :: (8, vP b 0) :: (7, vP b 0) :: _) hA rfl fun a hA => zL hA hS 2 rfl rfl rfl rfl rfl rfl rfl rfl rfl fun a hA => zR 5 ((15, vP b 1) :: (14, vP b 0) :: (13, vP b 0) :: (12, yF) :: (11, yF) :: _) hA rfl fun a hA => zL hA hS 2 rfl rfl rfl rfl rfl rfl rfl rfl rfl fun a hA => zR 2 ((18, yF) :: (17, yF) :: _) hA rfl fun a hA => zn (zx (cd_cond_f hA rfl (zk (zx (zs (zr (zR 1 ((23, vP b 0) :: _) hA rfl fun a hA => zLA hA hS 1 [vU m.to, vU m.rp, vW m.id, .int .u16 101, vH m.st, vU po, vW m.ob, .int .u8 255, vU m.ck, vU (p * 4294967296 + n), d] rfl rfl rfl rfl rfl rfl rfl rfl rfl rfl fun a hA => ?_))))))))))))
 replace hS := hS.m1.m1.m4.m4.m4
 replace hS : St w0 w4 (L :: D :: [(b3, rowO [yU, yU, yW, yH, yH, yU, yW, yB, yU, yU, yS] 46)] :: [(b1, rowO [vU m.to, vU m.rp, vW m.id, .int .u16 101, vH m.st, vU po, vW m.ob, .int .u8 255, vU m.ck, vU (p * 4294967296 + n), d] 46)] :: F) := by rw [hLe]; exact hS.cast (by simp)
 refine st_call0 hA rfl rfl rfl isfn104 rfl rfl (by decide) (skdo_read104 hS hV _ hol1 hj hjn hbl hn hp m hpo hob hck hox hos hock) ?_
 clear hA hS; rintro _ w5 a ⟨L2, E2, A2, c2, hV2, hE2, rfl, hS⟩ hA
 have hbsl := bsub_length hp
 refine zR 3 ((27, yN) :: (26, .agg #[yU, yW, yB, yU, yU, .slice A2 ((bsub bs p n).length) c2]) :: (22, .tuple #[.agg #[yU, yW, yB, yU, yU, .slice A2 ((bsub bs p n).length) c2], yN]) :: _) hA rfl fun a hA => ?_
 refine st_alloc tbOk hA hS [yU, yW, yB, yU, yU, yS] rfl rfl rfl rfl rfl (by decide) fun b6 w7 a hS hA => ?_
 refine st_store tbOk hA hS [yU, yW, yB, yU, yU, .slice A2 ((bsub bs p n).length) c2] [yU, yW, yB, yU, yU, .slice A2 ((bsub bs p n).length) c2] rfl rfl rfl rfl rfl rfl (zn1 rfl) (zle rfl) rfl rfl rfl fun w8 hS => ?_
 refine zR 1 ((6, yN) :: _) hA rfl fun a hA => zn (zx (zs (zs (zr (zR 2 ((29, yF) :: (28, yN) :: _) hA rfl fun a hA => zn (zx (cd_cond_f hA rfl (zk (zx (zs (zr ?_)))))))))))
 have hE3 : RdS w0 ([(b6, rowO [yU, yW, yB, yU, yU, .slice A2 ((bsub bs p n).length) c2] 225)] :: L2 :: (E2 ++ D) :: [(b3, rowO [yU, yU, yW, yH, yH, yU, yW, yB, yU, yU, yS] 46)] :: [(b1, rowO [vU m.to, vU m.rp, vW m.id, .int .u16 101, vH m.st, vU po, vW m.ob, .int .u8 255, vU m.ck, vU (p * 4294967296 + n), d] 46)] :: F) 1 (.slice A2 (bsub bs p n).length c2) (bsub bs p n).length (rows encB (bsub bs p n)) := fun w' h => (DR.right hE2) _ (h.only 2 rfl)
 refine zLA hA hS 4 [vU m.to, vU m.rp, vW m.id, .int .u16 101, vH m.st, vU po, vW m.ob, .int .u8 255, vU m.ck, vU (p * 4294967296 + n), d] rfl rfl rfl rfl rfl rfl rfl rfl rfl rfl fun a hA => zR 1 ((34, vP b6 0) :: _) hA rfl fun a hA => zLA hA hS 0 [yU, yW, yB, yU] rfl rfl rfl rfl rfl rfl rfl rfl rfl rfl fun a hA => zR 1 ((36, vP b6 4) :: _) hA rfl fun a hA => zL hA hS 0 rfl rfl rfl rfl rfl rfl rfl rfl rfl fun a hA => zR 1 ((38, vP b6 5) :: _) hA rfl fun a hA => zL hA hS 0 rfl rfl rfl rfl rfl rfl rfl rfl rfl fun a hA => ?_
 refine st_call0 hA rfl rfl rfl isfn105 rfl rfl (by decide) (answer105 hS { m with op := 101, po := po, ri := 255, ar := p * 4294967296 + n } _ 0 0 0 0 0 0 (da := bsub bs p n) (fun w' h => ((hE3 _ h)).x) (by first | omega | (simp only [List.length_append, be_length, capb_length, List.length_cons, List.length_nil, List.length_drop, List.length_take]; omega)) (by omega)) ?_
 clear hA hS; rintro _ w12 a ⟨A9, c10, C11, hO11, rfl, hS⟩ hA
 obtain ⟨_, _, _, hmc10, hxc10⟩ := hO11.open'
 replace hS := hS.m4
 refine st_store tbOk hA hS [vU m.rp, vU m.to, vW m.id, .int .u16 101, yH, yU, yW, yB, yU, yU, .slice A9 ((bsub bs p n).length) c10] [vU m.rp, vU m.to, vW m.id, .int .u16 101, yH, yU, yW, yB, yU, yU, .slice A9 ((bsub bs p n).length) c10] rfl rfl rfl rfl rfl rfl (zn1 rfl) (zle rfl) rfl rfl rfl fun w13 hS => ?_
 refine zn (zx ?_)
 refine wp_ret ?_
 refine retc1 tbOk (fn := Tryz.f69) (cs := [vU m.rp, vU m.to, vW m.id, .int .u16 101, yH, yU, yW, yB, yU, yU, .slice A9 ((bsub bs p n).length) c10]) hA rfl rfl rfl rfl rfl (cells_row (hS.heapAt 0 rfl) rfl) ?_
 replace hS := hS.d0.m1.d0.m3.d0.m2.m1.m2
 replace hS : St w0 w13 (L2 :: ((C11 ++ E2) ++ D) :: F) := hS.cast (by simp)
 exact ⟨_, C11 ++ E2, _, _, SVR.mono hV2, (DD.new hO11).right, rfl, hS⟩
theorem ask_35 {w0 w : World} {F : List Chunk} (hS : St w0 w F) (po ob ri ck op ar : Nat) {e : Value} {da : List UInt8} (he : RdSX w0 F 1 e da.length (rows encB da)) (hl : da.length ≤ 4096) :
 Ret Tryz.prog 35 #[.agg #[vU po, vW ob, vB ri, vU ck], vH op, vU ar, e] w (fun v w' => ∃ A c C, Own 5 1 (.slice A (da).length c) (da).length (rows encB (da)) C ∧ v = .agg #[vU po, yU, yW, vH op, yH, vU po, vW ob, vB ri, vU ck, vU ar, .slice A da.length c] ∧ St w0 w' (C :: F)) := by
 obtain ⟨B, d', rfl, hmd, hdx⟩ := (he w hS).open'
 refine enter (vs := [.agg #[vU po, vW ob, vB ri, vU ck], vH op, vU ar, .slice B da.length d']) 17 Tryz.func35 rfl rfl (by simp) ?_; intro a hA
 refine zs (zr ?_)
 refine st_box hA hS [vU po, vW ob, vB ri, vU ck] rfl rfl rfl rfl rfl (by decide) fun b1 w2 a hS hA => ?_
 refine st_alloc tbOk hA hS [yU, yU, yW, yH, yH, yU, yW, yB, yU, yU, yS] rfl rfl rfl rfl rfl (by decide) fun b3 w4 a hS hA => ?_
 refine zn (zx (zs ?_))
 refine zD1 hS [8] [(0, true), (1, true), (2, true), (3, true), (4, true), (5, true), (6, false), (7, true), (8, false)] mixed (by kernel_rfl) (by rintro c a w ⟨_, _, h, _⟩; cases h) (by rfl) (by kernel_rfl) ?_
 replace hS := hS.drew
 refine zW 1 ((9, vP b1 0) :: _) hA (hS.tail 1 rfl) rfl fun a hA => zY hA (hS.tail 1 rfl) 0 rfl rfl rfl rfl rfl rfl rfl rfl rfl rfl fun a hA => zW 1 ((11, vH op) :: _) hA (hS.tail 1 rfl) rfl fun a hA => zYA hA (hS.tail 1 rfl) 0 [vU po, vW ob, vB ri, vU ck] rfl rfl rfl rfl rfl rfl rfl rfl rfl rfl rfl fun a hA => zW 2 ((14, .slice B da.length d') :: (13, vU ar) :: _) hA (hS.tail 1 rfl) rfl fun a hA => dr_b (o := _) rfl ?_
 replace hS := hS.nil
 refine st_append tbOk hA (m := 0) (q := da.length) (xs := rows encB ([] : List UInt8)) (news := rows encB da) rfl rfl rfl rfl rfl rfl rfl rfl (by decide) (Own.nil 5 1) hS ((he _ (hS.tail 3 rfl))) (rows_one encB_ok _) (maxLen_le (by first | omega | (simp only [List.length_append, be_length, capb_length, List.length_cons, List.length_nil, List.length_drop, List.length_take]; omega))) (by show (0 + da.length) * 1 ≤ 140737488355328; first | omega | (simp only [List.length_append, be_length, capb_length, List.length_cons, List.length_nil, List.length_drop, List.length_take]; omega)) rfl rfl (by decide) ?_
 clear hA hS; intro v5 w6 C7 a hO7 hS hA
 replace hO7 := Own.app (l := ([] : List UInt8)) (l2 := da) hO7
 replace hO7 : Own 5 1 v5 da.length (rows encB da) C7 := hO7
 obtain ⟨A8, c9, rfl, hmc9, hxc9⟩ := hO7.open'
 refine zi (hS.tail 2 rfl) (dr_y hA rfl rfl rfl (by decide) (hS.tail 2 rfl) (fun w' hS' => rn_build tbOk hA rfl rfl rfl rfl rfl rfl rfl) fun a hA => dr_b (o := _) rfl ?_)
 replace hS := hS.m1
 refine st_store tbOk hA hS [vU po, yU, yW, vH op, yH, vU po, vW ob, vB ri, vU ck, vU ar, .slice A8 da.length c9] [vU po, yU, yW, vH op, yH, vU po, vW ob, vB ri, vU ck, vU ar, .slice A8 da.length c9] rfl rfl rfl rfl rfl rfl (zn1 rfl) (zle rfl) rfl rfl rfl fun w10 hS => ?_
 refine dr_nil (.inl (by decide)) (ze (zx ?_))
 refine wp_ret ?_
 refine retc1 tbOk (fn := Tryz.f35) (cs := [vU po, yU, yW, vH op, yH, vU po, vW ob, vB ri, vU ck, vU ar, .slice A8 da.length c9]) hA rfl rfl rfl rfl rfl (cells_row (hS.heapAt 0 rfl) rfl) ?_
 replace hS := hS.d0.d1
 exact ⟨_, _, _, hO7, rfl, hS⟩
theorem stmake13 {w0 w : World} {F : List Chunk} (hS : St w0 w F) (po ob ri ck : Nat) {e : Value} {da : List UInt8} (he : RdSX w0 F 1 e da.length (rows encB da)) (hl : da.length ≤ 4096) :
 Ret Tryz.prog 13 #[.agg #[vU po, vW ob, vB ri, vU ck], e] w (fun v w' => ∃ A c C, Own 5 1 (.slice A (da).length c) (da).length (rows encB (da)) C ∧ v = .agg #[vU po, yU, yW, .int .u16 100, yH, vU po, vW ob, vB ri, vU ck, yU, .slice A da.length c] ∧ St w0 w' (C :: F)) := by
 obtain ⟨B, d', rfl, hmd, hdx⟩ := (he w hS).open'
 refine enter (vs := [.agg #[vU po, vW ob, vB ri, vU ck], .slice B da.length d']) 8 Tryz.func13 rfl rfl (by simp) ?_; intro a hA
 refine zs (zr ?_)
 refine st_box hA hS [vU po, vW ob, vB ri, vU ck] rfl rfl rfl rfl rfl (by decide) fun b1 w2 a hS hA => ?_
 refine st_alloc tbOk hA hS [yU, yU, yW, yH, yH, yU, yW, yB, yU, yU, yS] rfl rfl rfl rfl rfl (by decide) fun b3 w4 a hS hA => ?_
 refine zn (zx (zs (zr (zLA hA hS 1 [vU po, vW ob, vB ri, vU ck] rfl rfl rfl rfl rfl rfl rfl rfl rfl rfl fun a hA => zR 1 ((6, .slice B da.length d') :: _) hA rfl fun a hA => ?_))))
 refine st_call0 hA rfl rfl rfl isfn35 rfl rfl (by decide) (ask_35 hS po ob ri ck 100 0 (da := da) (fun w' h => (he _ (h.tail 2 rfl))) (by first | omega | exact Nat.zero_le _)) ?_
 clear hA hS; rintro _ w8 a ⟨A5, c6, C7, hO7, rfl, hS⟩ hA
 obtain ⟨_, _, _, hmc6, hxc6⟩ := hO7.open'
 replace hS := hS.m1
 refine st_store tbOk hA hS [vU po, yU, yW, .int .u16 100, yH, vU po, vW ob, vB ri, vU ck, yU, .slice A5 da.length c6] [vU po, yU, yW, .int .u16 100, yH, vU po, vW ob, vB ri, vU ck, yU, .slice A5 da.length c6] rfl rfl rfl rfl rfl rfl (zn1 rfl) (zle rfl) rfl rfl rfl fun w9 hS => ?_
 refine zn (zx ?_)
 refine wp_ret ?_
 refine retc1 tbOk (fn := Tryz.f13) (cs := [vU po, yU, yW, .int .u16 100, yH, vU po, vW ob, vB ri, vU ck, yU, .slice A5 da.length c6]) hA rfl rfl rfl rfl rfl (cells_row (hS.heapAt 0 rfl) rfl) ?_
 replace hS := hS.d0.d1
 exact ⟨_, _, _, hO7, rfl, hS⟩
theorem span_bits {p n : Nat} (hp : p < 4294967296) (hn : n < 4294967296) : Go.bits .or .u64 (IntKind.u64.wrap (((p : Nat) : Int) * 2 ^ min (32 : Int).toNat 64)) ((n : Nat) : Int) = ((p * 4294967296 + n : Nat) : Int) := by
  have e : IntKind.u64.wrap (((p : Nat) : Int) * 2 ^ min (32 : Int).toNat 64) = ((p * 4294967296 : Nat) : Int) := by
    rw [show min (32 : Int).toNat 64 = 32 from rfl, show (2 : Int) ^ 32 = 4294967296 from rfl, wrap_u64 (by omega) (by omega)]; omega
  have h1 := bits_or_u64 (p := p * 4294967296) (q := n) (by omega) (by omega)
  have h2 := Nat.two_pow_add_eq_or_of_lt (b := n) (i := 32) (by omega) p
  rw [show p * 4294967296 = 2 ^ 32 * p by omega, ← h2] at h1
  rw [e, show p * 4294967296 = 2 ^ 32 * p by omega]
  exact h1
theorem span_46 {w0 w : World} {F : List Chunk} (hS : St w0 w F) {p n : Nat} (hp : p < 4294967296) (hn : n < 4294967296) :
 Ret Tryz.prog 46 #[vW p, vW n] w (fun v w' => v = vU (p * 4294967296 + n) ∧ St w0 w' F) := by
 refine enter (vs := [vW p, vW n]) 11 Tryz.func46 rfl rfl (by simp) ?_; intro a hA
 refine zs (zr (zR 1 ((4, yU) :: _) hA rfl fun a hA => zn (zx (zs (zr (zR 2 ((6, .int .u64 (IntKind.u64.wrap ((p : Nat) : Int))) :: (5, vW p) :: _) hA rfl fun a hA => ?_))))))
 replace hA := hA.rw 6 (v' := vU p) rfl (by rw [wrap_u64 (by omega) (by omega)])
 refine st_val hA rfl rfl (by decide) (rn_shl hA rfl rfl rfl (by omega)) fun a hA => zR 2 ((9, .int .u64 (IntKind.u64.wrap ((n : Nat) : Int))) :: (8, vW n) :: _) hA rfl fun a hA => ?_
 replace hA := hA.rw 9 (v' := vU n) rfl (by rw [wrap_u64 (by omega) (by omega)])
 refine st_val hA rfl rfl (by decide) (rn_or hA rfl rfl rfl) fun a hA => ?_
 replace hA := hA.rw 10 (v' := vU (p * 4294967296 + n)) rfl (vint (span_bits (by omega) (by omega)))
 refine zR 1 ((4, vU (p * 4294967296 + n)) :: _) hA rfl fun a hA => zn (zx ?_)
 refine wp_ret ?_
 refine ret1 (fn := Tryz.f46) hA rfl rfl ?_
 exact ⟨rfl, hS⟩
theorem stread25 {w0 w : World} {F : List Chunk} (hS : St w0 w F) (po ob ri ck : Nat) {p n : Nat} (hp : p < 4294967296) (hn : n < 4294967296) :
 Ret Tryz.prog 25 #[.agg #[vU po, vW ob, vB ri, vU ck], vW p, vW n] w (fun v w' => ∃ A c C, Own 5 1 (.slice A (([] : List UInt8)).length c) (([] : List UInt8)).length (rows encB (([] : List UInt8))) C ∧ v = .agg #[vU po, yU, yW, .int .u16 101, yH, vU po, vW ob, vB ri, vU ck, vU (p * 4294967296 + n), .slice A 0 c] ∧ St w0 w' (C :: F)) := by
 refine enter (vs := [.agg #[vU po, vW ob, vB ri, vU ck], vW p, vW n]) 12 Tryz.func25 rfl rfl (by simp) ?_; intro a hA
 refine zs (zr ?_)
 refine st_box hA hS [vU po, vW ob, vB ri, vU ck] rfl rfl rfl rfl rfl (by decide) fun b1 w2 a hS hA => ?_
 refine st_alloc tbOk hA hS [yU, yU, yW, yH, yH, yU, yW, yB, yU, yU, yS] rfl rfl rfl rfl rfl (by decide) fun b3 w4 a hS hA => ?_
 refine zn (zx (zs ?_))
 refine zD1 hS [5] [(0, true), (1, true), (2, true), (3, false), (4, false), (5, false)] mixed (by kernel_rfl) (by rintro c a w ⟨_, _, h, _⟩; cases h) (by rfl) (by kernel_rfl) ?_
 replace hS := hS.drew
 refine zYA hA (hS.tail 1 rfl) 0 [vU po, vW ob, vB ri, vU ck] rfl rfl rfl rfl rfl rfl rfl rfl rfl rfl rfl fun a hA => zW 2 ((9, vW n) :: (8, vW p) :: _) hA (hS.tail 1 rfl) rfl fun a hA => dr_b (o := _) rfl ?_
 refine st_call0 hA rfl rfl rfl isfn46 rfl rfl (by decide) (span_46 hS hp hn) ?_
 clear hA hS; rintro _ w5 a ⟨rfl, hS⟩ hA
 refine zi (hS.tail 1 rfl) (dr_b (o := _) rfl ?_)
 refine st_call0 hA rfl rfl rfl isfn35 rfl rfl (by decide) (ask_35 hS po ob ri ck 101 (p * 4294967296 + n) (da := ([] : List UInt8)) RdSX.nil (by first | omega | exact Nat.zero_le _)) ?_
 clear hA hS; rintro _ w9 a ⟨A6, c7, C8, hO8, rfl, hS⟩ hA
 obtain ⟨_, _, _, hmc7, hxc7⟩ := hO8.open'
 refine zi (hS.tail 2 rfl) (dr_b (o := _) rfl ?_)
 replace hS := hS.m1
 refine st_store tbOk hA hS [vU po, yU, yW, .int .u16 101, yH, vU po, vW ob, vB ri, vU ck, vU (p * 4294967296 + n), .slice A6 (([] : List UInt8).length) c7] [vU po, yU, yW, .int .u16 101, yH, vU po, vW ob, vB ri, vU ck, vU (p * 4294967296 + n), .slice A6 (([] : List UInt8).length) c7] rfl rfl rfl rfl rfl rfl (zn1 rfl) (zle rfl) rfl rfl rfl fun w10 hS => ?_
 refine dr_nil (.inl (by decide)) (ze (zx ?_))
 refine wp_ret ?_
 refine retc1 tbOk (fn := Tryz.f25) (cs := [vU po, yU, yW, .int .u16 101, yH, vU po, vW ob, vB ri, vU ck, vU (p * 4294967296 + n), .slice A6 (([] : List UInt8).length) c7]) hA rfl rfl rfl rfl rfl (cells_row (hS.heapAt 0 rfl) rfl) ?_
 replace hS := hS.d0.d1
 exact ⟨_, _, _, hO8, rfl, hS⟩
end Go.Proofs.YthiakdmhpfkjbaaGreatDoor

set_option linter.unusedVariables false
set_option linter.unusedSimpArgs false
set_option maxRecDepth 4000
namespace Go.Proofs.YthiakdmhpfkjbaaGreatDoor
open Go Go.SK
structure PN where
  fr : Nat
  to : Nat
  id : Nat
  ix : Nat
  cn : Nat
  da : List UInt8
deriving DecidableEq
abbrev PTup := Int × Int × Int × Int × Int × List UInt8
def PN.t (p : PN) : PTup := (((p.fr : Nat) : Int), ((p.to : Nat) : Int), ((p.id : Nat) : Int), ((p.ix : Nat) : Int), ((p.cn : Nat) : Int), p.da)
def pst (x : Pkt) : PTup := (x.1, x.2.1, x.2.2.1, x.2.2.2.1, x.2.2.2.2.1, pdat x)
theorem piece_eq (l : List UInt8) (s i : Nat) : piece l s i = (l.drop (i * s)).take s := by
  have h1 : (i + 1) * s = i * s + s := Nat.succ_mul i s
  rw [piece, List.drop_take]
  by_cases h : i * s ≤ l.length
  · rw [Nat.min_eq_left h]
    by_cases h2 : (i + 1) * s ≤ l.length
    · rw [Nat.min_eq_left h2, show (i + 1) * s - i * s = s by omega]
    · rw [Nat.min_eq_right (by omega), List.take_of_length_le (by rw [List.length_drop]; omega), List.take_of_length_le (by rw [List.length_drop]; omega)]
  · rw [Nat.min_eq_right (by omega : l.length ≤ i * s), List.drop_length, List.drop_eq_nil_of_le (by omega : l.length ≤ i * s)]
    simp
def spG (fr to id n s : Nat) : Nat → Nat → List UInt8 → List PN
  | 0, _, _ => []
  | f + 1, i, l => ⟨fr, to, id, i, n, l.take s⟩ :: spG fr to id n s f (i + 1) (l.drop s)
theorem spG_eq (fr to id n s : Nat) (l : List UInt8) : ∀ f i : Nat, spG fr to id n s f i (l.drop (i * s)) = (List.range f).map (fun j => (⟨fr, to, id, i + j, n, piece l s (i + j)⟩ : PN))
  | 0, i => rfl
  | f + 1, i => by
    rw [spG, List.drop_drop, show i * s + s = (i + 1) * s from (Nat.succ_mul i s).symm, spG_eq fr to id n s l f (i + 1), List.range_succ_eq_map, List.map_cons, List.map_map, piece_eq]
    congr 1
    apply List.map_congr_left
    intro j _
    simp only [Function.comp, show i + 1 + j = i + (j + 1) by omega, Nat.succ_eq_add_one]
def splitM (l : List UInt8) (fr to id s : Nat) : List PN := spG fr to id (nP l s) s (nP l s) 0 l
theorem splitM_eq (l : List UInt8) (fr to id s : Nat) : splitM l fr to id s = (List.range (nP l s)).map (fun i => (⟨fr, to, id, i, nP l s, piece l s i⟩ : PN)) := by
  have h := spG_eq fr to id (nP l s) s l (nP l s) 0
  rw [Nat.zero_mul, List.drop_zero] at h
  rw [splitM, h]
  simp only [Nat.zero_add]
theorem splitM_length (l : List UInt8) (fr to id s : Nat) : (splitM l fr to id s).length = nP l s := by rw [splitM_eq, List.length_map, List.length_range]
def PKS (w0 : World) (D : Chunk) (ps : List Pkt) (pn : List PN) : Prop := ps.map pst = pn.map PN.t ∧ ∀ x ∈ ps, encPacket_dd w0 D x
theorem PKS.len {w0 : World} {D : Chunk} {ps : List Pkt} {pn : List PN} (h : PKS w0 D ps pn) : ps.length = pn.length := by have := congrArg List.length h.1; simpa using this
theorem PKS.nil {w0 : World} {D : Chunk} : PKS w0 D [] [] := ⟨rfl, fun x hx => by cases hx⟩
theorem PKS.app {w0 : World} {D E : Chunk} {ps qs : List Pkt} {pn qn : List PN} (h : PKS w0 D ps pn) (k : PKS w0 E qs qn) : PKS w0 (E ++ D) (ps ++ qs) (pn ++ qn) := ⟨by rw [List.map_append, List.map_append, h.1, k.1], fun x hx => by
  rcases List.mem_append.1 hx with hx | hx
  · exact encPacket_left (h.2 x hx)
  · exact DD.right (k.2 x hx)⟩
theorem PKS.split {w0 : World} {D : Chunk} {ps : List Pkt} {l : List UInt8} {fr to id s : Nat} (hl : ps.length = nP l s) (h : ∀ (i : Nat) (x : Pkt), ps[i]? = some x → isPk l ((fr : Nat) : Int) ((to : Nat) : Int) ((id : Nat) : Int) s i x) (hd : ∀ x ∈ ps, encPacket_dd w0 D x) : PKS w0 D ps (splitM l fr to id s) := by
  refine ⟨?_, hd⟩
  apply List.ext_getElem?
  intro i
  rw [List.getElem?_map, List.getElem?_map, splitM_eq, List.getElem?_map]
  by_cases hi : i < nP l s
  · obtain ⟨x, hx⟩ := get_ex (l := ps) (k := i) (by omega)
    obtain ⟨A, c, rfl⟩ := h i x hx
    rw [hx, List.getElem?_range hi]; rfl
  · rw [List.getElem?_eq_none (by omega), List.getElem?_eq_none (by rw [List.length_range]; omega)]; rfl
structure NC where
  id : Nat
  ki : Nat
  no : Nat
  pc : Nat
  wa : Nat
  tr : Nat
  ag : Nat
  pg : Nat
  ro : Nat
  now : Nat
  sent : Nat
  rep : Nat
  port : Nat
  r0 : Nat
  r1 : Nat
  r2 : Nat
  r3 : Nat
deriving DecidableEq
theorem npackets62 {w0 w : World} {F : List Chunk} {b bo bd bg bc bp bx mp : Nat} {sv : Value} {s : NC} {D : Chunk} (hS : St w0 w ([(b, rowO [vI s.id, vI s.ki, vI s.no, vI s.pc, vI s.wa, vI s.tr, vI s.ag, vI s.pg, vI s.ro, vP bo 0, yT, vI s.now, vU s.sent, vU s.rep, vU s.port, vU s.r0, vW s.r1, vB s.r2, vU s.r3, sv, vP bd 0, vP bg 0, vP bc 0, vP bp 0, vP bx 0, .map (some mp)] 121)] :: D :: F)) (m : MN) (hm : m.ok) (to : Nat) {d : Value} (hd : RdSX w0 (D :: F) 1 d m.da.length (rows encB m.da)) (hst : s.sent < 1000000000) (hp1 : 1 ≤ s.pc) (hp2 : s.pc ≤ 32768) (hnp : nP (encM m) s.pc ≤ 256) :
 Ret Tryz.prog 62 #[vP b 0, .agg #[vU m.to, vU m.rp, vW m.id, vH m.op, vH m.st, vU m.po, vW m.ob, vB m.ri, vU m.ck, vU m.ar, d], vI to] w (fun v w' => ∃ ps A c C E, Own 94 6 (.slice A ps.length c) ps.length (rows encPacket ps) C ∧ PKS w0 E ps (splitM (encM m) s.id to (s.sent + 1) s.pc) ∧ v = .slice A ps.length c ∧ St w0 w' ([(b, rowO [vI s.id, vI s.ki, vI s.no, vI s.pc, vI s.wa, vI s.tr, vI s.ag, vI s.pg, vI s.ro, vP bo 0, yT, vI s.now, vU (s.sent + 1), vU s.rep, vU s.port, vU s.r0, vW s.r1, vB s.r2, vU s.r3, sv, vP bd 0, vP bg 0, vP bc 0, vP bp 0, vP bx 0, .map (some mp)] 121)] :: C :: (E ++ D) :: F)) := by
 obtain ⟨B, d', rfl, hmd, hdx⟩ := (hd _ (hS.tail 1 rfl)).open'
 have hdl0 : m.da.length ≤ 4096 := hm.2.2.2.2.2.2.2.2.2.2
 refine enter (vs := [vP b 0, .agg #[vU m.to, vU m.rp, vW m.id, vH m.op, vH m.st, vU m.po, vW m.ob, vB m.ri, vU m.ck, vU m.ar, .slice B m.da.length d'], vI to]) 46 Tryz.func62 rfl rfl (by simp) ?_; intro a hA
 refine zs (zr ?_)
 refine st_box hA hS [vU m.to, vU m.rp, vW m.id, vH m.op, vH m.st, vU m.po, vW m.ob, vB m.ri, vU m.ck, vU m.ar, .slice B m.da.length d'] rfl rfl rfl rfl rfl (by decide) fun b1 w2 a hS hA => ?_
 refine zR 1 ((6, yS) :: _) hA rfl fun a hA => zn (zx (zs (zr (zLA hA hS 0 [vU m.to, vU m.rp, vW m.id, vH m.op, vH m.st, vU m.po, vW m.ob, vB m.ri, vU m.ck, vU m.ar, .slice B m.da.length d'] rfl rfl rfl rfl rfl rfl rfl rfl rfl rfl fun a hA => ?_))))
 refine st_call0 hA rfl rfl rfl isfn95 rfl rfl (by decide) (henc95 hS m hm (fun w' h => (hd _ (h.tail 2 rfl)))) ?_
 clear hA hS; rintro _ w6 a ⟨A3, c4, C5, hO5, rfl, hS⟩ hA
 obtain ⟨_, _, _, hmc4, hxc4⟩ := hO5.open'
 refine zR 5 ((8, yN) :: (7, .slice A3 ((encM m).length) c4) :: (14, yN) :: (13, .slice A3 ((encM m).length) c4) :: (10, .tuple #[.slice A3 ((encM m).length) c4, yN]) :: _) hA rfl fun a hA => zn (zx (zs (zs (zr (zR 2 ((16, yF) :: (15, yN) :: _) hA rfl fun a hA => zn (zx (cd_cond_f hA rfl (zk (zx (zs (zr (zR 3 ((19, vP b 12) :: (18, vP b 0) :: (17, vP b 0) :: _) hA rfl fun a hA => zL hA hS 2 rfl rfl rfl rfl rfl rfl rfl rfl rfl fun a hA => zR 1 ((21, .int .u64 (IntKind.u64.wrap (((s.sent : Nat) : Int) + 1))) :: _) hA rfl fun a hA => ?_))))))))))))
 replace hA := hA.rw 21 (v' := vU (s.sent + 1)) rfl (by rw [wrap_u64 (by omega) (by omega)]; exact vint (by omega))
 refine zR 2 ((23, vP b 12) :: (22, vP b 0) :: _) hA rfl fun a hA => ?_
 replace hS := hS.m2
 refine st_store tbOk hA hS [vU (s.sent + 1)] [vI s.id, vI s.ki, vI s.no, vI s.pc, vI s.wa, vI s.tr, vI s.ag, vI s.pg, vI s.ro, vP bo 0, yT, vI s.now, vU (s.sent + 1), vU s.rep, vU s.port, vU s.r0, vW s.r1, vB s.r2, vU s.r3, sv, vP bd 0, vP bg 0, vP bc 0, vP bp 0, vP bx 0, .map (some mp)] rfl rfl rfl rfl rfl rfl (by intro u hu; rw [List.mem_singleton.1 hu]; rfl) (zle rfl) rfl rfl rfl fun w7 hS => ?_
 refine zn (zx (zs ?_))
 refine zD0 hS [] [(0, true), (1, true), (2, true), (3, true), (4, true), (5, true), (6, true), (7, true), (8, true), (9, true), (10, true), (11, true), (12, true), (13, true), (14, true), (15, false), (16, true), (17, true), (18, true), (19, true), (20, true)] mixed (by kernel_rfl) (by rintro c a w ⟨_, _, h, _⟩; cases h) (by rfl) (by kernel_rfl) ?_
 replace hS := hS.drew
 refine zW 4 ((28, vP b 0) :: (27, vP b 0) :: (26, vP b 0) :: (25, .slice A3 ((encM m).length) c4) :: _) hA hS rfl fun a hA => zY hA hS 0 rfl rfl rfl rfl rfl rfl rfl rfl rfl rfl fun a hA => zW 4 ((33, vP b 12) :: (32, vP b 0) :: (31, vP b 0) :: (30, vI to) :: _) hA hS rfl fun a hA => zY hA hS 0 rfl rfl rfl rfl rfl rfl rfl rfl rfl rfl fun a hA => zW 4 ((38, vP b 3) :: (37, vP b 2) :: (36, vP b 0) :: (35, vP b 0) :: _) hA hS rfl fun a hA => zY hA hS 0 rfl rfl rfl rfl rfl rfl rfl rfl rfl rfl fun a hA => dr_b (o := _) rfl ?_
 refine st_call0 hA rfl rfl rfl isfn96 rfl rfl (by decide) (split_ok96 hS (l := encM m) (RdS.own hO5 1 rfl) ((s.id : Nat) : Int) ((to : Nat) : Int) ((s.sent + 1 : Nat) : Int) s.pc hp1 hp2 hnp (by rw [encM_length]; omega)) ?_
 clear hA hS; rintro _ w8 a ⟨v1, ps, C1, D1, hO1, hpl, hpk, hpd, rfl, hS⟩ hA; obtain ⟨A1, c1, rfl, hm1, hx1⟩ := hO1.open'
 refine zi (hS.tail 2 rfl) (zW 5 ((8, yN) :: (9, .slice A1 ps.length c1) :: (42, yN) :: (41, .slice A1 ps.length c1) :: (24, .tuple #[.slice A1 ps.length c1, yN]) :: _) hA (hS.tail 2 rfl) rfl fun a hA => ze (zx (zs (zs (zr (zR 2 ((44, yF) :: (43, yN) :: _) hA rfl fun a hA => zn (zx (cd_cond_f hA rfl (zk (zx (zs (zr (zR 2 ((6, .slice A1 ps.length c1) :: (45, .slice A1 ps.length c1) :: _) hA rfl fun a hA => zn (zx ?_))))))))))))))
 refine wp_ret ?_
 refine ret1 (fn := Tryz.f62) hA rfl rfl ?_
 replace hS := hS.m3.d0.m3.d0.m3.m2.m2.m3
 exact ⟨_, _, _, _, D1, hO1, PKS.split (fr := s.id) (to := to) (id := s.sent + 1) hpl hpk hpd, rfl, hS.cast (by simp)⟩
theorem nroot_up32 {w0 w : World} {F : List Chunk} {b bo : Nat} {sv q0 q1 q2 q3 q4 q5 : Value} {s : NC} (hS : St w0 w ([(b, rowO [vI s.id, vI s.ki, vI s.no, vI s.pc, vI s.wa, vI s.tr, vI s.ag, vI s.pg, vI s.ro, vP bo 0, yT, vI s.now, vU s.sent, vU s.rep, vU s.port, vU s.r0, vW s.r1, vB s.r2, vU s.r3, sv, q0, q1, q2, q3, q4, q5] 121)] :: F)) :
 Ret Tryz.prog 32 #[vP b 0] w (fun v w' => v = .tuple #[.agg #[vU s.r0, vW s.r1, vB s.r2, vU s.r3], .bool (((s.port : Nat) : Int) != 0)] ∧ St w0 w' ([(b, rowO [vI s.id, vI s.ki, vI s.no, vI s.pc, vI s.wa, vI s.tr, vI s.ag, vI s.pg, vI s.ro, vP bo 0, yT, vI s.now, vU s.sent, vU s.rep, vU s.port, vU s.r0, vW s.r1, vB s.r2, vU s.r3, sv, q0, q1, q2, q3, q4, q5] 121)] :: F)) := by
 refine enter (vs := [vP b 0]) 19 Tryz.func32 rfl rfl (by simp) ?_; intro a hA
 refine zs (zr ?_)
 refine st_alloc tbOk hA hS [yU, yW, yB, yU] rfl rfl rfl rfl rfl (by decide) fun b1 w2 a hS hA => ?_
 refine zR 1 ((3, yF) :: _) hA rfl fun a hA => zn (zx (zs ?_))
 refine zD1 hS [] [(0, true), (1, true), (2, true), (3, true), (4, true), (5, true), (6, true), (7, true), (8, true), (9, true), (10, true), (11, true), (12, true), (13, true), (14, true), (15, false), (16, true)] mixed (by kernel_rfl) (by rintro c a w ⟨_, _, h, _⟩; cases h) (by rfl) (by kernel_rfl) ?_
 replace hS := hS.drew
 refine zW 3 ((6, vP b 15) :: (5, vP b 0) :: (4, vP b 0) :: _) hA (hS.tail 1 rfl) rfl fun a hA => zYA hA (hS.tail 1 rfl) 0 [vU s.r0, vW s.r1, vB s.r2, vU s.r3] rfl rfl rfl rfl rfl rfl rfl rfl rfl rfl rfl fun a hA => zW 3 ((10, vP b 10) :: (9, vP b 0) :: (8, vP b 0) :: _) hA (hS.tail 1 rfl) rfl fun a hA => zY hA (hS.tail 1 rfl) 0 rfl rfl rfl rfl rfl rfl rfl rfl rfl rfl fun a hA => zW 4 ((15, vP b 14) :: (14, vP b 0) :: (13, vP b 0) :: (12, yT) :: _) hA (hS.tail 1 rfl) rfl fun a hA => zY hA (hS.tail 1 rfl) 0 rfl rfl rfl rfl rfl rfl rfl rfl rfl rfl fun a hA => zW 2 ((18, .bool (((s.port : Nat) : Int) != 0)) :: (17, .bool (((s.port : Nat) : Int) != 0)) :: _) hA (hS.tail 1 rfl) rfl fun a hA => dr_b (o := _) rfl ?_
 refine st_store tbOk hA hS [vU s.r0, vW s.r1, vB s.r2, vU s.r3] [vU s.r0, vW s.r1, vB s.r2, vU s.r3] rfl rfl rfl rfl rfl rfl (zn1 rfl) (zle rfl) rfl rfl rfl fun w3 hS => ?_
 refine zi (hS.tail 1 rfl) (zW 1 ((3, .bool (((s.port : Nat) : Int) != 0)) :: _) hA (hS.tail 1 rfl) rfl fun a hA => ze (zx ?_))
 refine wp_ret ?_
 refine retc2 tbOk (fn := Tryz.f32) (cs := [vU s.r0, vW s.r1, vB s.r2, vU s.r3]) hA rfl rfl rfl rfl rfl rfl (cells_row (hS.heapAt 0 rfl) rfl) ?_
 replace hS := hS.d0
 exact ⟨by first | rfl | simp, hS⟩
end Go.Proofs.YthiakdmhpfkjbaaGreatDoor

set_option linter.unusedVariables false
set_option linter.unusedSimpArgs false
set_option maxRecDepth 4000
namespace Go.Proofs.YthiakdmhpfkjbaaGreatDoor
open Go Go.SK
def locM (rp q : Nat) : MN := ⟨0, rp, 0, 1, 0, 0, 0, 0, 0, q, []⟩
theorem locM_ok {rp q : Nat} (h1 : rp < 281474976710656) (h2 : q < 281474976710656) : (locM rp q).ok := by
  refine ⟨Nat.lt_of_sub_ne_zero (by show 281474976710656 - 0 ≠ 0; decide), h1, ?_⟩
  show (0 : Nat) < 4294967296 ∧ (1 : Nat) < 65536 ∧ (0 : Nat) < 65536 ∧ (0 : Nat) < 281474976710656 ∧ (0 : Nat) < 16777216 ∧ (0 : Nat) < 256 ∧ (0 : Nat) < 281474976710656 ∧ q < 18446744073709551616 ∧ (0 : Nat) ≤ 4096
  omega
theorem nP_le {l : List UInt8} {s : Nat} (hs : 1 ≤ s) : nP l s ≤ l.length + 1 := by
  have : (l.length + s - 1) / s ≤ l.length + 1 := Nat.div_le_of_le_mul (by
    have : l.length * 1 ≤ l.length * s := Nat.mul_le_mul_left _ hs
    rw [Nat.mul_add, Nat.mul_comm]; omega)
  unfold nP; omega
theorem nP_loc {rp q s : Nat} (hs : 1 ≤ s) : nP (encM (locM rp q)) s ≤ 256 := by
  have := nP_le (l := encM (locM rp q)) hs
  rw [encM_length] at this
  simp only [locM, List.length_nil] at this ⊢
  omega
def locP (s : NC) (q : Nat) : Nat → List PN × Nat
  | 0 => ([], s.sent)
  | n + 1 => if n = s.id then locP s q n else ((locP s q n).1 ++ splitM (encM (locM s.rep q)) s.id n ((locP s q n).2 + 1) s.pc, (locP s q n).2 + 1)
theorem locP_skip {s : NC} {q n : Nat} (h : n = s.id) : locP s q (n + 1) = locP s q n := by rw [locP, if_pos h]
theorem locP_step {s : NC} {q n : Nat} (h : ¬ n = s.id) : locP s q (n + 1) = ((locP s q n).1 ++ splitM (encM (locM s.rep q)) s.id n ((locP s q n).2 + 1) s.pc, (locP s q n).2 + 1) := by rw [locP, if_neg h]
theorem locP_sent (s : NC) (q : Nat) : ∀ n, (locP s q n).2 ≤ s.sent + n
  | 0 => Nat.le_refl _
  | n + 1 => by
    have := locP_sent s q n
    by_cases h : n = s.id
    · rw [locP_skip h]; omega
    · rw [locP_step h]; show (locP s q n).2 + 1 ≤ _; omega
theorem locP_len (s : NC) (q : Nat) (hs : 1 ≤ s.pc) : ∀ n, (locP s q n).1.length ≤ 64 * n
  | 0 => Nat.le_refl _
  | n + 1 => by
    have := locP_len s q hs n
    by_cases h : n = s.id
    · rw [locP_skip h]; omega
    · rw [locP_step h]
      have h2 := nP_le (l := encM (locM s.rep q)) hs
      rw [encM_length] at h2
      simp only [locM, List.length_nil] at h2
      rw [List.length_append, splitM_length]; simp only [locM] at *; omega
set_option maxHeartbeats 4000000 in
theorem nreq_hit56 {w0 w : World} {F : List Chunk} {b bo bd bg bc bp bx mp : Nat} {sv : Value} {s : NC} {P D : Chunk} {ag : Int} {pl : List (Nat × Nat × Nat)} (hS : St w0 w ([(b, rowO [vI s.id, vI s.ki, vI s.no, vI s.pc, vI s.wa, vI s.tr, vI s.ag, vI s.pg, vI s.ro, vP bo 0, yT, vI s.now, vU s.sent, vU s.rep, vU s.port, vU s.r0, vW s.r1, vB s.r2, vU s.r3, sv, vP bd 0, vP bg 0, vP bc 0, vP bp 0, vP bx 0, .map (some mp)] 121)] :: P :: D :: F)) (hP : PMR bp ag pl P) (mq : MN) (hm : mq.ok) {d : Value} (hd : RdSX w0 (D :: F) 1 d mq.da.length (rows encB mq.da)) (hnp : nP (encM mq) s.pc ≤ 256) (hp1 : 1 ≤ s.pc) (hp2 : s.pc ≤ 32768) (hsn : s.sent + s.no < 1000000000) (hnow : s.now < 1000000) (hpl : ∀ x ∈ pl, x.2.2 < 1000000) (hag : 0 ≤ ag ∧ ag < 1000000) {j no at_ : Nat} (hj : pl[j]? = some (mq.to, no, at_)) (h1 : at_ ≤ s.now) (h2 : ((s.now : Nat) : Int) - ((at_ : Nat) : Int) < ag) (hno : ∀ (q : Nat) (y : Nat × Nat × Nat), q < j → pl[q]? = some y → pfit mq.to s.now ag y = false) :
 Ret Tryz.prog 56 #[vP b 0, .agg #[vU mq.to, vU mq.rp, vW mq.id, vH mq.op, vH mq.st, vU mq.po, vW mq.ob, vB mq.ri, vU mq.ck, vU mq.ar, d]] w (fun v w' => ∃ P' ps A c C E, PMR bp ag pl P' ∧ Own 94 6 (.slice A ps.length c) ps.length (rows encPacket ps) C ∧ PKS w0 E ps (splitM (encM mq) s.id no (s.sent + 1) s.pc) ∧ v = .slice A ps.length c ∧ St w0 w' ([(b, rowO [vI s.id, vI s.ki, vI s.no, vI s.pc, vI s.wa, vI s.tr, vI s.ag, vI s.pg, vI s.ro, vP bo 0, yT, vI s.now, vU (s.sent + 1), vU s.rep, vU s.port, vU s.r0, vW s.r1, vB s.r2, vU s.r3, sv, vP bd 0, vP bg 0, vP bc 0, vP bp 0, vP bx 0, .map (some mp)] 121)] :: P' :: C :: (E ++ D) :: F)) := by
 obtain ⟨B, d', rfl, hmd, hdx⟩ := (hd _ (hS.tail 2 rfl)).open'
 refine enter (vs := [vP b 0, .agg #[vU mq.to, vU mq.rp, vW mq.id, vH mq.op, vH mq.st, vU mq.po, vW mq.ob, vB mq.ri, vU mq.ck, vU mq.ar, .slice B mq.da.length d']]) 65 Tryz.func56 rfl rfl (by simp) ?_; intro a hA
 refine zs (zr ?_)
 refine st_box hA hS [vU mq.to, vU mq.rp, vW mq.id, vH mq.op, vH mq.st, vU mq.po, vW mq.ob, vB mq.ri, vU mq.ck, vU mq.ar, .slice B mq.da.length d'] rfl rfl rfl rfl rfl (by decide) fun b1 w2 a hS hA => ?_
 refine zR 1 ((4, yS) :: _) hA rfl fun a hA => zn (zx (zs (zs ?_)))
 replace hS := hS.m2
 refine zD1 hS [] [(0, true), (1, true), (2, true), (3, true), (4, true), (5, true), (6, true), (7, true), (8, true), (9, true), (10, false), (11, true), (12, true), (13, true), (14, true), (15, true)] mixed (by kernel_rfl) (by rintro c a w ⟨_, _, h, _⟩; cases h) (by rfl) (by kernel_rfl) ?_
 replace hS := hS.drew
 refine zW 3 ((12, vP b 23) :: (11, vP b 0) :: (10, vP b 0) :: _) hA (hS.tail 1 rfl) rfl fun a hA => zY hA (hS.tail 1 rfl) 1 rfl rfl rfl rfl rfl rfl rfl rfl rfl rfl fun a hA => zW 1 ((14, vP b1 0) :: _) hA (hS.tail 1 rfl) rfl fun a hA => zY hA (hS.tail 1 rfl) 0 rfl rfl rfl rfl rfl rfl rfl rfl rfl rfl fun a hA => zW 3 ((18, vP b 11) :: (17, vP b 0) :: (16, vP b 0) :: _) hA (hS.tail 1 rfl) rfl fun a hA => zY hA (hS.tail 1 rfl) 1 rfl rfl rfl rfl rfl rfl rfl rfl rfl rfl fun a hA => dr_b (o := _) rfl ?_
 refine st_call0 hA rfl rfl rfl isfn85 rfl rfl (by decide) (pfind_hit85 hS hP mq.to s.now (by omega) hpl hag hj h1 h2 hno) ?_
 clear hA hS; rintro _ w3 a ⟨P2, hP2, rfl, hS⟩ hA
 refine zi (hS.tail 1 rfl) (zW 5 ((6, yT) :: (5, vI no) :: (22, yT) :: (21, vI no) :: (9, .tuple #[vI no, yT]) :: _) hA (hS.tail 1 rfl) rfl fun a hA => ze (zx (zs (zr (zR 1 ((23, yT) :: _) hA rfl fun a hA => zn (zx (cd_cond_t hA rfl (zs (zr (zR 1 ((24, vP b 0) :: _) hA rfl fun a hA => zLA hA hS 1 [vU mq.to, vU mq.rp, vW mq.id, vH mq.op, vH mq.st, vU mq.po, vW mq.ob, vB mq.ri, vU mq.ck, vU mq.ar, .slice B mq.da.length d'] rfl rfl rfl rfl rfl rfl rfl rfl rfl rfl fun a hA => zR 1 ((26, vI no) :: _) hA rfl fun a hA => ?_))))))))))
 replace hS := hS.m3.m3
 refine st_call0 hA rfl rfl rfl isfn62 rfl rfl (by decide) (npackets62 (s := s) hS mq hm no (fun w' h => hd _ (St.dmid (R := [P2, [(b1, rowO [vU mq.to, vU mq.rp, vW mq.id, vH mq.op, vH mq.st, vU mq.po, vW mq.ob, vB mq.ri, vU mq.ck, vU mq.ar, .slice B mq.da.length d'] 46)]]) h)) (by omega) hp1 hp2 hnp) ?_
 clear hA hS; rintro _ wz4 a ⟨psz4, Az4, cz4, Cz4, Ez4, hOz4, hKz4, rfl, hS⟩ hA; have hcz4 := hOz4.rcap
 refine zR 1 ((4, .slice Az4 psz4.length cz4) :: _) hA rfl fun a hA => zn (zx ?_)
 refine wp_ret (xt_ret ?_)
 refine ret1 (fn := Tryz.f56) hA rfl rfl ?_
 replace hS := hS.m4.d0.m2.m2.m3.m3
 exact ⟨_, _, _, _, _, Ez4, hP2, hOz4, hKz4, rfl, hS⟩
set_option maxHeartbeats 4000000 in
theorem nreq_loc56 {w0 w : World} {F : List Chunk} {b bo bd bg bc bp bx mp : Nat} {sv : Value} {s : NC} {P D : Chunk} {ag : Int} {pl : List (Nat × Nat × Nat)} (hS : St w0 w ([(b, rowO [vI s.id, vI s.ki, vI s.no, vI s.pc, vI s.wa, vI s.tr, vI s.ag, vI s.pg, vI s.ro, vP bo 0, yT, vI s.now, vU s.sent, vU s.rep, vU s.port, vU s.r0, vW s.r1, vB s.r2, vU s.r3, sv, vP bd 0, vP bg 0, vP bc 0, vP bp 0, vP bx 0, .map (some mp)] 121)] :: P :: D :: F)) (hP : PMR bp ag pl P) (mq : MN) (d : Value) (hto : mq.to < 281474976710656) (hrep : s.rep < 281474976710656) (hpt : ¬ mq.to = s.port) (hnn : s.no ≤ 8) (hp1 : 1 ≤ s.pc) (hp2 : s.pc ≤ 32768) (hsn : s.sent + s.no < 1000000000) (hnow : s.now < 1000000) (hpl : ∀ x ∈ pl, x.2.2 < 1000000) (hag : 0 ≤ ag ∧ ag < 1000000) (hno : ∀ x ∈ pl, pfit mq.to s.now ag x = false) :
 Ret Tryz.prog 56 #[vP b 0, .agg #[vU mq.to, vU mq.rp, vW mq.id, vH mq.op, vH mq.st, vU mq.po, vW mq.ob, vB mq.ri, vU mq.ck, vU mq.ar, d]] w (fun v w' => ∃ P' ps A c C D', PMR bp ag pl P' ∧ Own 94 6 (.slice A ps.length c) ps.length (rows encPacket ps) C ∧ PKS w0 D' ps ((locP s mq.to s.no).1) ∧ DX w0 D D' ∧ v = .slice A ps.length c ∧ St w0 w' ([(b, rowO [vI s.id, vI s.ki, vI s.no, vI s.pc, vI s.wa, vI s.tr, vI s.ag, vI s.pg, vI s.ro, vP bo 0, yT, vI s.now, vU ((locP s mq.to s.no).2), vU s.rep, vU s.port, vU s.r0, vW s.r1, vB s.r2, vU s.r3, sv, vP bd 0, vP bg 0, vP bc 0, vP bp 0, vP bx 0, .map (some mp)] 121)] :: P' :: C :: D' :: F)) := by
 refine enter (vs := [vP b 0, .agg #[vU mq.to, vU mq.rp, vW mq.id, vH mq.op, vH mq.st, vU mq.po, vW mq.ob, vB mq.ri, vU mq.ck, vU mq.ar, d]]) 65 Tryz.func56 rfl rfl (by simp) ?_; intro a hA
 refine zs (zr ?_)
 refine st_box hA hS [vU mq.to, vU mq.rp, vW mq.id, vH mq.op, vH mq.st, vU mq.po, vW mq.ob, vB mq.ri, vU mq.ck, vU mq.ar, d] rfl rfl rfl rfl rfl (by decide) fun b1 w2 a hS hA => ?_
 refine zR 1 ((4, yS) :: _) hA rfl fun a hA => zn (zx (zs (zs ?_)))
 replace hS := hS.m2
 refine zD1 hS [] [(0, true), (1, true), (2, true), (3, true), (4, true), (5, true), (6, true), (7, true), (8, true), (9, true), (10, false), (11, true), (12, true), (13, true), (14, true), (15, true)] mixed (by kernel_rfl) (by rintro c a w ⟨_, _, h, _⟩; cases h) (by rfl) (by kernel_rfl) ?_
 replace hS := hS.drew
 refine zW 3 ((12, vP b 23) :: (11, vP b 0) :: (10, vP b 0) :: _) hA (hS.tail 1 rfl) rfl fun a hA => zY hA (hS.tail 1 rfl) 1 rfl rfl rfl rfl rfl rfl rfl rfl rfl rfl fun a hA => zW 1 ((14, vP b1 0) :: _) hA (hS.tail 1 rfl) rfl fun a hA => zY hA (hS.tail 1 rfl) 0 rfl rfl rfl rfl rfl rfl rfl rfl rfl rfl fun a hA => zW 3 ((18, vP b 11) :: (17, vP b 0) :: (16, vP b 0) :: _) hA (hS.tail 1 rfl) rfl fun a hA => zY hA (hS.tail 1 rfl) 1 rfl rfl rfl rfl rfl rfl rfl rfl rfl rfl fun a hA => dr_b (o := _) rfl ?_
 refine st_call0 hA rfl rfl rfl isfn85 rfl rfl (by decide) (pfind_none85 hS hP mq.to s.now (by omega) hpl hag hno) ?_
 clear hA hS; rintro _ w3 a ⟨P2, hP2, rfl, hS⟩ hA
 refine zi (hS.tail 1 rfl) (zW 5 ((6, yF) :: (5, yI) :: (22, yF) :: (21, yI) :: (9, .tuple #[yI, yF]) :: _) hA (hS.tail 1 rfl) rfl fun a hA => ze (zx (zs (zr (zR 1 ((23, yF) :: _) hA rfl fun a hA => zn (zx (cd_cond_f hA rfl (zk (zx (zs (zr (zR 1 ((7, yS) :: _) hA rfl fun a hA => zn (zx (zs (zs (zr (zR 4 ((31, vP b 2) :: (30, vP b 2) :: (29, vP b 0) :: (28, vP b 0) :: _) hA rfl fun a hA => zL hA hS 2 rfl rfl rfl rfl rfl rfl rfl rfl rfl fun a hA => zR 1 ((33, yI) :: _) hA rfl fun a hA => zn (zx (zb ?_)))))))))))))))))))
 replace hS := hS.nil
 replace hS := hS.m4.m1.m4
 refine wp_loop_ghost (fun m a w => ∃ (j : Nat) (ps : List Pkt) (A : Option Addr) (c : Nat) (C : Chunk) (D' : Chunk), m = s.no - j ∧ Has a 65 [(0, vP b 0), (3, vP b1 0), (7, .slice A ps.length c), (32, vI s.no), (33, vI j)] ∧ St w0 w ([(b, rowO [vI s.id, vI s.ki, vI s.no, vI s.pc, vI s.wa, vI s.tr, vI s.ag, vI s.pg, vI s.ro, vP bo 0, yT, vI s.now, vU ((locP s mq.to j).2), vU s.rep, vU s.port, vU s.r0, vW s.r1, vB s.r2, vU s.r3, sv, vP bd 0, vP bg 0, vP bc 0, vP bp 0, vP bx 0, .map (some mp)] 121)] :: C :: D' :: P2 :: [(b1, rowO [vU mq.to, vU mq.rp, vW mq.id, vH mq.op, vH mq.st, vU mq.po, vW mq.ob, vB mq.ri, vU mq.ck, vU mq.ar, d] 46)] :: F) ∧ (j ≤ s.no) ∧ (Own 94 6 (.slice A ps.length c) ps.length (rows encPacket ps) C) ∧ (PKS w0 D' ps (locP s mq.to j).1) ∧ (DX w0 D D')) (s.no - 0)
  ⟨0, ([]), none, 0, ([]), D, rfl, (hA.sel [0, 3, 7, 32, 33] rfl), hS, Nat.zero_le _, (Own.nil 94 6), PKS.nil, DX.refl⟩ ?_
 clear hA hS; rintro m0 a w4 ⟨j, ps, A, c, C, D', rfl, hA, hS, hj, hO, hK, hX⟩
 have hls := locP_sent s mq.to j; have hll := locP_len s mq.to hp1 j; have hpn := hK.len; have hcap := hO.rcap
 refine zs (zr (zR 1 ((34, .bool (decide (((j : Nat) : Int) < ((s.no : Nat) : Int)))) :: _) hA rfl fun a hA => zn (zx (zs ?_))))
 by_cases hc5 : ((j : Nat) : Int) < ((s.no : Nat) : Int)
 · first
   | (exfalso; omega)
   | (replace hA := hA.rw 34 (v' := yT) rfl (vb_true hc5)
      refine cd_cond_t hA rfl (zk (zx (zs (zb (zs (zr (zR 2 ((8, vI j) :: (35, vI j) :: _) hA rfl fun a hA => zn (zx (zs ?_)))))))))
      refine zD0 hS [] [(0, true), (1, true), (2, true), (3, true), (4, true), (5, true), (6, true), (7, true), (8, true), (9, true), (10, true), (11, true), (12, true), (13, true), (14, true)] mixed (by kernel_rfl) (by rintro c a w ⟨_, _, h, _⟩; cases h) (by rfl) (by kernel_rfl) ?_
      replace hS := hS.drew
      refine zW 4 ((39, vP b 0) :: (38, vP b 0) :: (37, vP b 0) :: (36, vI j) :: _) hA hS rfl fun a hA => zY hA hS 0 rfl rfl rfl rfl rfl rfl rfl rfl rfl rfl fun a hA => zW 2 ((42, .bool (((j : Nat) : Int) != ((s.id : Nat) : Int))) :: (41, .bool (((j : Nat) : Int) != ((s.id : Nat) : Int))) :: _) hA hS rfl fun a hA => ?_
      by_cases hc6 : ((j : Nat) : Int) = ((s.id : Nat) : Int)
      · first
        | (exfalso; omega)
        | (replace hA := hA.rw 41 (v' := yF) rfl (vb_ne_f hc6)
           replace hA := hA.rw 42 (v' := yF) rfl (vb_ne_f hc6)
           refine zW 1 ((43, vP b1 0) :: _) hA hS rfl fun a hA => zY hA hS 4 rfl rfl rfl rfl rfl rfl rfl rfl rfl rfl fun a hA => zW 3 ((47, vP b 14) :: (46, vP b 0) :: (45, vP b 0) :: _) hA hS rfl fun a hA => zY hA hS 0 rfl rfl rfl rfl rfl rfl rfl rfl rfl rfl fun a hA => zW 2 ((50, .bool (((mq.to : Nat) : Int) == ((s.port : Nat) : Int))) :: (49, .bool (((mq.to : Nat) : Int) == ((s.port : Nat) : Int))) :: _) hA hS rfl fun a hA => ze (zx ?_)
           have hc7 : ¬ (((mq.to : Nat) : Int) = ((s.port : Nat) : Int)) := by omega
           replace hA := hA.rw 50 (v' := yF) rfl (vb_eq_f hc7)
           refine cd_cond_f hA rfl (zk (zm (zx (zr (zR 1 ((63, .int .i64 (IntKind.i64.wrap (((j : Nat) : Int) + 1))) :: _) hA rfl fun a hA => ?_)))))
           replace hA := hA.rw 63 (v' := vI (j + 1)) rfl (wr64 (by omega) (by omega) (by omega))
           refine zR 1 ((33, vI (j + 1)) :: _) hA rfl fun a hA => zn ?_
           replace hS := hS.m4.m4.m4.m4.m4
           have hst9 := locP_skip (s := s) (q := mq.to) (n := j) (by omega)
           replace hS : St w0 w4.drew ([(b, rowO [vI s.id, vI s.ki, vI s.no, vI s.pc, vI s.wa, vI s.tr, vI s.ag, vI s.pg, vI s.ro, vP bo 0, yT, vI s.now, vU ((locP s mq.to (j + 1)).2), vU s.rep, vU s.port, vU s.r0, vW s.r1, vB s.r2, vU s.r3, sv, vP bd 0, vP bg 0, vP bc 0, vP bp 0, vP bx 0, .map (some mp)] 121)] :: C :: D' :: P2 :: [(b1, rowO [vU mq.to, vU mq.rp, vW mq.id, vH mq.op, vH mq.st, vU mq.po, vW mq.ob, vB mq.ri, vU mq.ck, vU mq.ar, d] 46)] :: F) := by rw [hst9]; exact hS
           exact lp_next _ (by omega) ⟨(j + 1), ps, A, c, C, D', rfl, (hA.sel [0, 3, 7, 32, 33] rfl), hS, by omega, hO, (by rw [hst9]; exact hK), hX⟩)
      · first
        | (exfalso; omega)
        | (replace hA := hA.rw 41 (v' := yT) rfl (vb_ne_t hc6)
           replace hA := hA.rw 42 (v' := yT) rfl (vb_ne_t hc6)
           refine zW 8 ((50, yT) :: (49, undef) :: (48, undef) :: (47, undef) :: (46, undef) :: (45, undef) :: (44, undef) :: (43, undef) :: _) hA hS rfl fun a hA => ze (zx (cd_cond_t hA rfl ?_))
           have hne : ¬ j = s.id := by omega
           replace hS := hS.m2.m2
           refine wp_draw (fun w' => ∃ z9, St w0 w' ([(b, rowO [vI s.id, vI s.ki, vI s.no, vI s.pc, vI s.wa, vI s.tr, vI s.ag, vI s.pg, vI s.ro, vP bo 0, yT, vI s.now, vU z9, vU s.rep, vU s.port, vU s.r0, vW s.r1, vB s.r2, vU s.r3, sv, vP bd 0, vP bg 0, vP bc 0, vP bp 0, vP bx 0, .map (some mp)] 121)] :: P2 :: [(b1, rowO [vU mq.to, vU mq.rp, vW mq.id, vH mq.op, vH mq.st, vU mq.po, vW mq.ob, vB mq.ri, vU mq.ck, vU mq.ar, d] 46)] :: F)) [] [(0, true), (1, true), (2, true), (3, true), (4, true), (5, true), (6, true), (7, true), (8, true), (9, true), (10, false), (11, false), (12, true)] mixed (by kernel_rfl) (by rintro c a w ⟨_, _, h, _⟩; cases h) (by rfl) (by kernel_rfl) ?_
           replace hS := hS.drew
           refine dr_run tbOk 5 hA ⟨_, (hS.tail 2 rfl)⟩ (e' := (55, vP b 13) :: (54, vP b 0) :: (53, vP b 0) :: (52, vP b 0) :: (51, .slice A ps.length c) :: _) rfl fun a hA => dr_y hA rfl rfl rfl (by decide) ⟨_, (hS.tail 2 rfl)⟩ (fun w' ⟨z9, hS'⟩ => rn_load tbOk hA rfl rfl rfl rfl (cell_row (hS'.heapAt 0 rfl) rfl)) fun a hA => dr_run tbOk 1 hA ⟨_, (hS.tail 2 rfl)⟩ (e' := (57, vP b1 0) :: _) rfl fun a hA => dr_y hA rfl rfl rfl (by decide) ⟨_, (hS.tail 2 rfl)⟩ (fun w' ⟨z9, hS'⟩ => rn_load tbOk hA rfl rfl rfl rfl (cell_row (hS'.heapAt 2 rfl) rfl)) fun a hA => dr_y hA rfl rfl rfl (by decide) ⟨_, (hS.tail 2 rfl)⟩ (fun w' ⟨z9, hS'⟩ => rn_build tbOk hA rfl rfl rfl rfl rfl rfl rfl) fun a hA => dr_run tbOk 1 hA ⟨_, (hS.tail 2 rfl)⟩ (e' := (60, vI j) :: _) rfl fun a hA => dr_b (o := _) rfl ?_
           replace hS := hS.m1.m2
           refine st_call0 hA rfl rfl rfl isfn62 rfl rfl (by decide) (npackets62 (s := { s with sent := (locP s mq.to j).2 }) hS (locM s.rep mq.to) (locM_ok hrep hto) j (d := yS) RdSX.nil (by show (locP s mq.to j).2 < _; omega) hp1 hp2 (nP_loc hp1)) ?_
           clear hA hS; rintro _ wz8 a ⟨psz8, Az8, cz8, Cz8, Ez8, hOz8, hKz8, rfl, hS⟩ hA; have hcz8 := hOz8.rcap
           have hlz : psz8.length = nP (encM (locM s.rep mq.to)) s.pc := by have h := hKz8.len; rw [splitM_length] at h; exact h
           have hnz := nP_loc (rp := s.rep) (q := mq.to) hp1
           replace hS := hS.m5.m5.m2.m4.m4.m5
           refine dr_nil (.inr ⟨_, (hS.tail 3 rfl)⟩) (dr_b (o := _) rfl ?_)
           refine st_append tbOk hA (m := ps.length) (q := psz8.length) (xs := rows encPacket ps) (news := rows encPacket psz8) rfl rfl rfl rfl rfl rfl rfl rfl (by decide) hO hS ((hOz8.rd (hS.own_ 1 rfl)).x) (rows_one encPacket_ok _) (maxLen_le (by omega)) (by show (ps.length + psz8.length) * 64 ≤ 140737488355328; omega) rfl rfl (by decide) ?_
           clear hA hS; intro v9 w10 C11 a hO11 hS hA
           replace hO11 := Own.app (l := ps) (l2 := psz8) hO11
           obtain ⟨A12, c13, rfl, hmc13, hxc13⟩ := hO11.open'
           refine dr_nil (.inr ⟨_, (hS.tail 3 rfl)⟩) (dr_run tbOk 1 hA ⟨_, (hS.tail 3 rfl)⟩ (e' := (7, .slice A12 ((ps ++ psz8).length) c13) :: _) rfl fun a hA => ze (zm (zx (zr (zR 1 ((63, .int .i64 (IntKind.i64.wrap (((j : Nat) : Int) + 1))) :: _) hA rfl fun a hA => ?_)))))
           replace hA := hA.rw 63 (v' := vI (j + 1)) rfl (wr64 (by omega) (by omega) (by omega))
           refine zR 1 ((33, vI (j + 1)) :: _) hA rfl fun a hA => zn ?_
           replace hS := hS.m1.d0.m4.m4.m3.m3.m4
           have hst9 := locP_step (s := s) (q := mq.to) (n := j) hne
           have hK9 : PKS w0 (Ez8 ++ D') (ps ++ psz8) (locP s mq.to (j + 1)).1 := by rw [hst9]; exact hK.app hKz8
           replace hS : St w0 w10 ([(b, rowO [vI s.id, vI s.ki, vI s.no, vI s.pc, vI s.wa, vI s.tr, vI s.ag, vI s.pg, vI s.ro, vP bo 0, yT, vI s.now, vU ((locP s mq.to (j + 1)).2), vU s.rep, vU s.port, vU s.r0, vW s.r1, vB s.r2, vU s.r3, sv, vP bd 0, vP bg 0, vP bc 0, vP bp 0, vP bx 0, .map (some mp)] 121)] :: C11 :: (Ez8 ++ D') :: P2 :: [(b1, rowO [vU mq.to, vU mq.rp, vW mq.id, vH mq.op, vH mq.st, vU mq.po, vW mq.ob, vB mq.ri, vU mq.ck, vU mq.ar, d] 46)] :: F) := by rw [hst9]; exact hS
           exact lp_next _ (by omega) ⟨(j + 1), (ps ++ psz8), A12, c13, C11, (Ez8 ++ D'), rfl, (hA.sel [0, 3, 7, 32, 33] rfl), hS, by omega, hO11, hK9, (hX.step)⟩))
 · first
   | (exfalso; omega)
   | (replace hA := hA.rw 34 (v' := yF) rfl (vb_false hc5)
      refine cd_cond_f hA rfl ?_
      refine wp_exit ?_
      refine xt_exit (xt_exit (cd_exit_eq (zx (zs (zr (zR 2 ((4, .slice A ps.length c) :: (64, .slice A ps.length c) :: _) hA rfl fun a hA => zn (zx ?_)))))))
      refine wp_ret ?_
      refine ret1 (fn := Tryz.f56) hA rfl rfl ?_
      replace hS := hS.m4.d0.m2.m2.m3.m3
      obtain rfl : j = s.no := by omega
      exact ⟨_, _, _, _, _, _, hP2, hO, hK, hX, rfl, hS⟩)
end Go.Proofs.YthiakdmhpfkjbaaGreatDoor

set_option linter.unusedVariables false
set_option linter.unusedSimpArgs false
set_option maxRecDepth 4000
namespace Go.Proofs.YthiakdmhpfkjbaaGreatDoor
open Go Go.SK
abbrev MTup := Int × Int × Int × Int × Int × Int × Int × Int × Int × Int × List UInt8
def MN.t (m : MN) : MTup := (((m.to : Nat) : Int), ((m.rp : Nat) : Int), ((m.id : Nat) : Int), ((m.op : Nat) : Int), ((m.st : Nat) : Int), ((m.po : Nat) : Int), ((m.ob : Nat) : Int), ((m.ri : Nat) : Int), ((m.ck : Nat) : Int), ((m.ar : Nat) : Int), m.da)
def MN.zero : MN := ⟨0, 0, 0, 0, 0, 0, 0, 0, 0, 0, []⟩
structure EA where
  who : Nat
  id : Nat
  st : Nat
  rep : MN
deriving DecidableEq
def EA.t (x : EA) : Int × Int × Int × MTup := (((x.who : Nat) : Int), ((x.id : Nat) : Int), ((x.st : Nat) : Int), x.rep.t)
def est (x : Ent) : Int × Int × Int × MTup := (x.1, x.2.1, x.2.2.1, x.2.2.2.1, x.2.2.2.2.1, x.2.2.2.2.2.1, x.2.2.2.2.2.2.1, x.2.2.2.2.2.2.2.1, x.2.2.2.2.2.2.2.2.1, x.2.2.2.2.2.2.2.2.2.1, x.2.2.2.2.2.2.2.2.2.2.1, x.2.2.2.2.2.2.2.2.2.2.2.1, x.2.2.2.2.2.2.2.2.2.2.2.2.1, x.2.2.2.2.2.2.2.2.2.2.2.2.2.2.2)
structure CA where
  rq : MN
  st : Nat
  tr : Nat
  lf : Nat
  rp : MN
deriving DecidableEq
def CA.t (y : CA) : MTup × Int × Int × Int × MTup := (y.rq.t, ((y.st : Nat) : Int), ((y.tr : Nat) : Int), ((y.lf : Nat) : Int), y.rp.t)
def c5 (x : Call) : MTup × Int × Int × Int × MTup := (mst (rq x), cst x, ctr x, clf x, mst (rp x))
structure NS where
  c : NC
  es : List EA
  gs : List GV
  ca : List CA
  pl : List (Nat × Nat × Nat)
  us : List MN
  ps : List MN
  sd : List (Nat × Nat)
inductive Srv where
  | none : Srv
  | other : Srv
  | file (os : List (Bool × Nat × Int × Int × Int)) (fl : List (Nat × List UInt8)) (nx bb : Nat) : Srv
def SVO (w0 : World) (bo po : Nat) : Srv → Value → Chunk → Chunk → Prop
  | .none, sv, LV, _ => sv = .pointer Option.none ∧ LV = []
  | .other, sv, _, _ => ∃ b, sv = .pointer (some ⟨b, 0, Option.none⟩)
  | .file os fl nx bb, sv, LV, D => ∃ b, sv = .pointer (some ⟨b, 0, Option.none⟩) ∧ SVR w0 b po bo os fl nx bb LV D
def sdv (sd : List (Nat × Nat)) : List (Int × Value) := sd.map (fun x => (((x.1 : Nat) : Int), Value.int .i64 ((x.2 : Nat) : Int)))
structure NUS (w0 : World) (bo : Nat) (st : NS) (sr : Srv) (D : Chunk) (sv : Value) (bd bg bc bp bx mp : Nat) (ob : Obj) (el : List Ent) (cl : List Call) (ul pl2 : List Msg) (LS LG LC LP LB LV : Chunk) : Prop where
  fsr : SR bd el LS
  fgs : GS w0 bg st.gs LG D
  fcr : CR bc ((st.c.rep : Nat) : Int) ((st.c.wa : Nat) : Int) ((st.c.tr : Nat) : Int) cl LC
  fpm : PMR bp ((st.c.ag : Nat) : Int) st.pl LP
  fbx : BX bx st.c.ro ul pl2 LB
  fmp : MapO .u64 (sdv st.sd) ob
  fsv : SVO w0 bo st.c.port sr sv LV D
  fel : el.map est = st.es.map EA.t
  fed : ∀ x ∈ el, encEntry_dd w0 D x
  fcl : cl.map c5 = st.ca.map CA.t
  fcd : ∀ x ∈ cl, encCall_dd w0 D x
  ful : ul.map mst = st.us.map MN.t
  fud : ∀ x ∈ ul, encMessage_dd w0 D x
  fpl : pl2.map mst = st.ps.map MN.t
  fpd : ∀ x ∈ pl2, encMessage_dd w0 D x
def NUP (w0 : World) (b bo : Nat) (st : NS) (sr : Srv) (L D : Chunk) : Prop := ∃ sv bd bg bc bp bx mp ob el cl ul pl2 LS LG LC LP LB LV, NUS w0 bo st sr D sv bd bg bc bp bx mp ob el cl ul pl2 LS LG LC LP LB LV ∧ L = (b, rowO [vI st.c.id, vI st.c.ki, vI st.c.no, vI st.c.pc, vI st.c.wa, vI st.c.tr, vI st.c.ag, vI st.c.pg, vI st.c.ro, vP bo 0, yT, vI st.c.now, vU st.c.sent, vU st.c.rep, vU st.c.port, vU st.c.r0, vW st.c.r1, vB st.c.r2, vU st.c.r3, sv, vP bd 0, vP bg 0, vP bc 0, vP bp 0, vP bx 0, .map (some mp)] 121) :: (LS ++ (LG ++ (LC ++ (LP ++ (LB ++ ((mp, ob) :: LV))))))
theorem GS.dx {w0 : World} {b : Nat} {vs : List GV} {L D D' : Chunk} (h : GS w0 b vs L D) (k : DX w0 D D') : GS w0 b vs L D' := by
  obtain ⟨ps, v, C, R, h1, h2, h3, h4, h5, h6⟩ := h
  exact ⟨ps, v, C, R, h1, h2, h3, h4, fun x hx y hy => k.dd (h5 x hx y hy), h6⟩
theorem SVR.dx {w0 : World} {b po bo nx bb : Nat} {os : List (Bool × Nat × Int × Int × Int)} {fl : List (Nat × List UInt8)} {L D D' : Chunk} (h : SVR w0 b po bo os fl nx bb L D) (k : DX w0 D D') : SVR w0 b po bo os fl nx bb L D' := by
  obtain ⟨bf, bt, L1, ⟨m, ob, LT, fc, h1, h2, h3, h4, h5⟩, h6⟩ := h
  exact ⟨bf, bt, L1, ⟨m, ob, LT, fc, h1, h2, h3, fun x hx w' hS => h4 x hx w' (k w' hS), h5⟩, h6⟩
theorem SVO.dx {w0 : World} {bo po : Nat} {sr : Srv} {sv : Value} {L D D' : Chunk} (h : SVO w0 bo po sr sv L D) (k : DX w0 D D') : SVO w0 bo po sr sv L D' := by
  cases sr with
  | none => exact h
  | other => exact h
  | file os fl nx bb => obtain ⟨b, h1, h2⟩ := h; exact ⟨b, h1, h2.dx k⟩
theorem ent_dx {w0 : World} {D D' : Chunk} {l : List Ent} (h : ∀ x ∈ l, encEntry_dd w0 D x) (k : DX w0 D D') : ∀ x ∈ l, encEntry_dd w0 D' x := fun x hx => k.dd (h x hx)
theorem msg_dx {w0 : World} {D D' : Chunk} {l : List Msg} (h : ∀ x ∈ l, encMessage_dd w0 D x) (k : DX w0 D D') : ∀ x ∈ l, encMessage_dd w0 D' x := fun x hx => k.dd (h x hx)
theorem NUS.dx {w0 : World} {bo : Nat} {st : NS} {sr : Srv} {D D' : Chunk} {sv : Value} {bd bg bc bp bx mp : Nat} {ob : Obj} {el : List Ent} {cl : List Call} {ul pl2 : List Msg} {LS LG LC LP LB LV : Chunk} (h : NUS w0 bo st sr D sv bd bg bc bp bx mp ob el cl ul pl2 LS LG LC LP LB LV) (k : DX w0 D D') : NUS w0 bo st sr D' sv bd bg bc bp bx mp ob el cl ul pl2 LS LG LC LP LB LV :=
  ⟨h.fsr, h.fgs.dx k, h.fcr, h.fpm, h.fbx, h.fmp, h.fsv.dx k, h.fel, ent_dx h.fed k, h.fcl, k.calls h.fcd, h.ful, msg_dx h.fud k, h.fpl, msg_dx h.fpd k⟩
theorem NUP.dx {w0 : World} {b bo : Nat} {st : NS} {sr : Srv} {L D D' : Chunk} (h : NUP w0 b bo st sr L D) (k : DX w0 D D') : NUP w0 b bo st sr L D' := by
  obtain ⟨sv, bd, bg, bc, bp, bx, mp, ob, el, cl, ul, pl2, LS, LG, LC, LP, LB, LV, h1, h2⟩ := h
  exact ⟨sv, bd, bg, bc, bp, bx, mp, ob, el, cl, ul, pl2, LS, LG, LC, LP, LB, LV, h1.dx k, h2⟩
theorem map_snoc9 {α β γ : Type} {f : α → γ} {g : β → γ} {l : List α} {k : List β} {x : α} {y : β} (h : l.map f = k.map g) (hx : f x = g y) : (l ++ [x]).map f = (k ++ [y]).map g := by rw [List.map_append, List.map_append, h]; simp [hx]
theorem all_snoc9 {α : Type} {p q : α → Prop} {l : List α} {x : α} (h : ∀ y ∈ l, p y) (hpq : ∀ y, p y → q y) (hx : q x) : ∀ y ∈ l ++ [x], q y := fun y hy => by
  rcases List.mem_append.1 hy with hy | hy
  · exact hpq y (h y hy)
  · rw [List.mem_singleton.1 hy]; exact hx
theorem map_len9 {α β γ : Type} {f : α → γ} {g : β → γ} {l : List α} {k : List β} (h : l.map f = k.map g) : l.length = k.length := by have := congrArg List.length h; simpa using this
theorem map_at9 {α β γ : Type} {f : α → γ} {g : β → γ} {l : List α} {k : List β} {i : Nat} {y : β} (h : l.map f = k.map g) (hy : k[i]? = some y) : ∃ x, l[i]? = some x ∧ f x = g y := by
  have h2 := congrArg (fun l => l[i]?) h
  simp only [List.getElem?_map, hy, Option.map_some] at h2
  cases hx : l[i]? with
  | none => rw [hx] at h2; cases h2
  | some x => rw [hx] at h2; exact ⟨x, rfl, Option.some.inj h2⟩
theorem map_set9 {α β γ : Type} {f : α → γ} {g : β → γ} {l : List α} {k : List β} {i : Nat} {x : α} {y : β} (h : l.map f = k.map g) (hx : f x = g y) : (l.set i x).map f = (k.set i y).map g := by rw [List.map_set, List.map_set, h, hx]
def cal (ca : List CA) : Prop := ∀ y ∈ ca, y.rq.da.length ≤ 4096 ∧ y.rp.da.length ≤ 4096
theorem csz_of {cl : List Call} {ca : List CA} (h : cl.map c5 = ca.map CA.t) (k : cal ca) : ∀ x ∈ cl, csz x := fun x hx => by
  have h1 : c5 x ∈ ca.map CA.t := h ▸ List.mem_map_of_mem (f := c5) hx
  obtain ⟨y, hy, e⟩ := List.mem_map.1 h1
  have e1 : mdat (rq x) = y.rq.da := by have := congrArg (fun z => z.1.2.2.2.2.2.2.2.2.2.2) e; exact this.symm
  have e2 : mdat (rp x) = y.rp.da := by have := congrArg (fun z => z.2.2.2.2.2.2.2.2.2.2.2.2.2.2) e; exact this.symm
  have := k y hy
  unfold csz
  rw [e1, e2]; omega
set_option maxHeartbeats 4000000 in
theorem ncall_loc33 {w0 w : World} {F : List Chunk} {b bo : Nat} {st : NS} {sr : Srv} {L D : Chunk} (hS : St w0 w (L :: D :: F)) (hN : NUP w0 b bo st sr L D) (m : MN) (hm : m.ok) {d : Value} (hd : RdSX w0 (D :: F) 1 d m.da.length (rows encB m.da)) (hcal : st.ca.length < 64) (hrep : st.c.rep < 281474976710656) (hp1 : 1 ≤ st.c.pc) (hp2 : st.c.pc ≤ 32768) (hsn : st.c.sent + st.c.no < 1000000000) (hnow : st.c.now < 1000000) (hpl : ∀ x ∈ st.pl, x.2.2 < 1000000) (hag : 0 ≤ ((st.c.ag : Nat) : Int) ∧ ((st.c.ag : Nat) : Int) < 1000000) (hpt : ¬ m.to = st.c.port) (hnn : st.c.no ≤ 8) (hno : ∀ x ∈ st.pl, pfit m.to st.c.now ((st.c.ag : Nat) : Int) x = false) :
 Ret Tryz.prog 33 #[vP b 0, .agg #[vU m.to, vU m.rp, vW m.id, vH m.op, vH m.st, vU m.po, vW m.ob, vB m.ri, vU m.ck, vU m.ar, d]] w (fun v w' => ∃ L' ps A c C D', NUP w0 b bo { st with c := { st.c with sent := (locP st.c m.to st.c.no).2 }, ca := st.ca ++ [⟨{ m with rp := st.c.rep, id := st.ca.length + 1, st := 0 }, 1, 1, st.c.wa, MN.zero⟩] } sr L' D' ∧ Own 94 6 (.slice A ps.length c) ps.length (rows encPacket ps) C ∧ PKS w0 D' ps ((locP st.c m.to st.c.no).1) ∧ DX w0 D D' ∧ v = .tuple #[vW (st.ca.length + 1), .slice A ps.length c, yN] ∧ St w0 w' (L' :: C :: D' :: F)) := by
 obtain ⟨B, d', rfl, hmd, hdx⟩ := (hd _ (hS.tail 1 rfl)).open'
 have hm0 := hm
 obtain ⟨hk1, hk2, hk3, hk4, hk5, hk6, hk7, hk8, hk9, hk10, hk11⟩ := hm
 obtain ⟨sv, bd, bg, bc, bp, bx, mp, ob, el, cl, ul, pl2, LS, LG, LC, LP, LB, LV, hn, rfl⟩ := hN
 replace hS : St w0 w ([(b, rowO [vI st.c.id, vI st.c.ki, vI st.c.no, vI st.c.pc, vI st.c.wa, vI st.c.tr, vI st.c.ag, vI st.c.pg, vI st.c.ro, vP bo 0, yT, vI st.c.now, vU st.c.sent, vU st.c.rep, vU st.c.port, vU st.c.r0, vW st.c.r1, vB st.c.r2, vU st.c.r3, sv, vP bd 0, vP bg 0, vP bc 0, vP bp 0, vP bx 0, .map (some mp)] 121)] :: LS :: LG :: LC :: LP :: LB :: [(mp, ob)] :: LV :: D :: F) := hS.cast (by simp)
 have hcl := map_len9 hn.fcl
 refine enter (vs := [vP b 0, .agg #[vU m.to, vU m.rp, vW m.id, vH m.op, vH m.st, vU m.po, vW m.ob, vB m.ri, vU m.ck, vU m.ar, .slice B m.da.length d']]) 35 Tryz.func33 rfl rfl (by simp) ?_; intro a hA
 refine zs (zr ?_)
 refine st_box hA hS [vU m.to, vU m.rp, vW m.id, vH m.op, vH m.st, vU m.po, vW m.ob, vB m.ri, vU m.ck, vU m.ar, .slice B m.da.length d'] rfl rfl rfl rfl rfl (by decide) fun b1 w2 a hS hA => ?_
 refine zR 3 ((6, yN) :: (5, yS) :: (4, yW) :: _) hA rfl fun a hA => zn (zx (zs (zs (zr (zR 3 ((10, vP b 10) :: (9, vP b 0) :: (8, vP b 0) :: _) hA rfl fun a hA => zL hA hS 1 rfl rfl rfl rfl rfl rfl rfl rfl rfl fun a hA => zR 1 ((12, yF) :: _) hA rfl fun a hA => zn (zx (cd_cond_f hA rfl (zk (zx (zs (zs (zr (zLA hA hS 0 [vU m.to, vU m.rp, vW m.id, vH m.op, vH m.st, vU m.po, vW m.ob, vB m.ri, vU m.ck, vU m.ar, .slice B m.da.length d'] rfl rfl rfl rfl rfl rfl rfl rfl rfl rfl fun a hA => ?_)))))))))))))
 refine st_call0 hA rfl rfl rfl isfn54 rfl rfl (by decide) (hmay54 hS m hm0 B d' ) ?_
 clear hA hS; rintro _ w3 a ⟨rfl, hS⟩ hA
 refine zR 1 ((16, yF) :: _) hA rfl fun a hA => zn (zx (cd_cond_f hA rfl (zk (zx (zs ?_)))))
 replace hS := hS.m9.m5
 refine zD3 hS [] [(0, true), (1, true), (2, true), (3, true), (4, false), (5, false), (6, true), (7, true), (8, true), (9, false), (10, true)] mixed (by kernel_rfl) (by rintro c a w ⟨_, _, h, _⟩; cases h) (by rfl) (by kernel_rfl) ?_
 replace hS := hS.drew
 refine zW 3 ((21, vP b 22) :: (20, vP b 0) :: (19, vP b 0) :: _) hA (hS.tail 3 rfl) rfl fun a hA => zY hA (hS.tail 3 rfl) 0 rfl rfl rfl rfl rfl rfl rfl rfl rfl rfl fun a hA => dr_b (o := _) rfl (zLA hA hS 2 [vU m.to, vU m.rp, vW m.id, vH m.op, vH m.st, vU m.po, vW m.ob, vB m.ri, vU m.ck, vU m.ar, .slice B m.da.length d'] rfl rfl rfl rfl rfl rfl rfl rfl rfl rfl fun a hA => zi (hS.tail 3 rfl) (dr_b (o := _) rfl ?_))
 replace hS := hS.m1.m1
 refine st_call0 hA rfl rfl rfl isfn55 rfl rfl (by decide) (start_ok55 hS hn.fcr ((m.to : Nat) : Int) ((m.rp : Nat) : Int) ((m.id : Nat) : Int) ((m.op : Nat) : Int) ((m.st : Nat) : Int) ((m.po : Nat) : Int) ((m.ob : Nat) : Int) ((m.ri : Nat) : Int) ((m.ck : Nat) : Int) ((m.ar : Nat) : Int) (bs := m.da) (fun w' h => hd _ (St.dmid (R := [[(b1, rowO [vU m.to, vU m.rp, vW m.id, vH m.op, vH m.st, vU m.po, vW m.ob, vB m.ri, vU m.ck, vU m.ar, .slice B m.da.length d'] 46)], [(b, rowO [vI st.c.id, vI st.c.ki, vI st.c.no, vI st.c.pc, vI st.c.wa, vI st.c.tr, vI st.c.ag, vI st.c.pg, vI st.c.ro, vP bo 0, yT, vI st.c.now, vU st.c.sent, vU st.c.rep, vU st.c.port, vU st.c.r0, vW st.c.r1, vB st.c.r2, vU st.c.r3, sv, vP bd 0, vP bg 0, vP bc 0, vP bp 0, vP bx 0, .map (some mp)] 121)], LS, LG, LP, LB, [(mp, ob)], LV]) h)) (by omega) (by omega)) ?_
 clear hA hS; rintro _ w4 a ⟨LC2, E1, A1, c1, A2, c2, hcr2, hE1, hE2, rfl, hS⟩ hA
 have hX5 : DX w0 D (E1 ++ D) := DX.refl.step
 refine zi (hS.tail 3 rfl) (zW 3 ((26, yN) :: (25, .agg #[vU m.to, vU st.c.rep, vW (cl.length + 1), vH m.op, yH, vU m.po, vW m.ob, vB m.ri, vU m.ck, vU m.ar, .slice A2 m.da.length c2]) :: (18, .tuple #[.agg #[vU m.to, vU st.c.rep, vW (cl.length + 1), vH m.op, yH, vU m.po, vW m.ob, vB m.ri, vU m.ck, vU m.ar, .slice A2 m.da.length c2], yN]) :: _) hA (hS.tail 3 rfl) rfl fun a hA => dr_b (o := _) rfl ?_)
 replace hS := hS.m2
 refine st_store tbOk hA hS [vU m.to, vU st.c.rep, vW (cl.length + 1), vH m.op, yH, vU m.po, vW m.ob, vB m.ri, vU m.ck, vU m.ar, .slice A2 m.da.length c2] [vU m.to, vU st.c.rep, vW (cl.length + 1), vH m.op, yH, vU m.po, vW m.ob, vB m.ri, vU m.ck, vU m.ar, .slice A2 m.da.length c2] rfl rfl rfl rfl rfl rfl (zn1 rfl) (zle rfl) rfl rfl rfl fun w6 hS => ?_
 refine zi (hS.tail 3 rfl) (zW 1 ((7, yN) :: _) hA (hS.tail 3 rfl) rfl fun a hA => ze (zx (zs (zs (zr ?_)))))
 rw [hcl] at hS
 refine zR 2 ((28, yF) :: (27, yN) :: _) hA rfl fun a hA => zn (zx (cd_cond_f hA rfl (zk (zx (zs ?_)))))
 replace hS := hS.m2.m6.m4
 refine zD3 hS [] [(0, true), (1, true), (2, true), (3, true), (4, false), (5, true), (6, true), (7, true)] mixed (by kernel_rfl) (by rintro c a w ⟨_, _, h, _⟩; cases h) (by rfl) (by kernel_rfl) ?_
 replace hS := hS.drew
 refine zW 1 ((30, vP b1 2) :: _) hA (hS.tail 3 rfl) rfl fun a hA => zY hA (hS.tail 3 rfl) 0 rfl rfl rfl rfl rfl rfl rfl rfl rfl rfl fun a hA => zW 1 ((32, vP b 0) :: _) hA (hS.tail 3 rfl) rfl fun a hA => zYA hA (hS.tail 3 rfl) 0 [vU m.to, vU st.c.rep, vW (st.ca.length + 1), vH m.op, yH, vU m.po, vW m.ob, vB m.ri, vU m.ck, vU m.ar, .slice A2 m.da.length c2] rfl rfl rfl rfl rfl rfl rfl rfl rfl rfl rfl fun a hA => dr_b (o := _) rfl ?_
 replace hS := hS.m2.m2.m2
 refine st_call0 hA rfl rfl rfl isfn56 rfl rfl (by decide) (nreq_loc56 hS hn.fpm { m with rp := st.c.rep, id := st.ca.length + 1, st := 0 } _ hk1 hrep hpt hnn hp1 hp2 hsn hnow hpl hag hno) ?_
 clear hA hS; rintro _ w7 a ⟨LP2, psq, Aq, cq, Cq, D2, hP2, hOq, hKq, hXq, rfl, hS⟩ hA
 have hX8 : DX w0 (E1 ++ D) D2 := hXq
 refine zi (hS.tail 4 rfl) (zW 3 ((6, yN) :: (5, .slice Aq psq.length cq) :: (4, vW (st.ca.length + 1)) :: _) hA (hS.tail 4 rfl) rfl fun a hA => ze (zx ?_))
 refine wp_ret ?_
 refine ret3 (fn := Tryz.f33) hA rfl rfl rfl rfl ?_
 replace hS := hS.m4.d0.m3.m3.m9.m9.m9.m6.m7.m9.m9.m9
 replace hS : St w0 w7 (((b, rowO [vI st.c.id, vI st.c.ki, vI st.c.no, vI st.c.pc, vI st.c.wa, vI st.c.tr, vI st.c.ag, vI st.c.pg, vI st.c.ro, vP bo 0, yT, vI st.c.now, vU ((locP st.c m.to st.c.no).2), vU st.c.rep, vU st.c.port, vU st.c.r0, vW st.c.r1, vB st.c.r2, vU st.c.r3, sv, vP bd 0, vP bg 0, vP bc 0, vP bp 0, vP bx 0, .map (some mp)] 121) :: (LS ++ (LG ++ (LC2 ++ (LP2 ++ (LB ++ ((mp, ob) :: LV))))))) :: Cq :: D2 :: F) := hS.cast (by simp)
 exact ⟨_, psq, Aq, cq, Cq, D2, ⟨_, _, _, _, _, _, _, _, _, _, _, _, _, _, _, _, _, _, ⟨hn.fsr, (hn.fgs.dx (hX5.trans hX8)), hcr2, hP2, hn.fbx, hn.fmp, (hn.fsv.dx (hX5.trans hX8)), hn.fel, (ent_dx hn.fed (hX5.trans hX8)), (map_snoc9 (y := ⟨{ m with rp := st.c.rep, id := st.ca.length + 1, st := 0 }, 1, 1, st.c.wa, MN.zero⟩) hn.fcl (by rw [hcl]; rfl)), (hX8.calls (all_snoc9 hn.fcd (fun y hy => encCall_left hy) ⟨hE1.right, DD.nil⟩)), hn.ful, (msg_dx hn.fud (hX5.trans hX8)), hn.fpl, (msg_dx hn.fpd (hX5.trans hX8))⟩, rfl⟩, hOq, hKq, (hX5.trans hX8), rfl, hS⟩
set_option maxHeartbeats 4000000 in
theorem ncall_hit33 {w0 w : World} {F : List Chunk} {b bo : Nat} {st : NS} {sr : Srv} {L D : Chunk} (hS : St w0 w (L :: D :: F)) (hN : NUP w0 b bo st sr L D) (m : MN) (hm : m.ok) {d : Value} (hd : RdSX w0 (D :: F) 1 d m.da.length (rows encB m.da)) (hcal : st.ca.length < 64) (hrep : st.c.rep < 281474976710656) (hp1 : 1 ≤ st.c.pc) (hp2 : st.c.pc ≤ 32768) (hsn : st.c.sent + st.c.no < 1000000000) (hnow : st.c.now < 1000000) (hpl : ∀ x ∈ st.pl, x.2.2 < 1000000) (hag : 0 ≤ ((st.c.ag : Nat) : Int) ∧ ((st.c.ag : Nat) : Int) < 1000000) (hnp : nP (encM { m with rp := st.c.rep, id := st.ca.length + 1, st := 0 }) st.c.pc ≤ 256) {j no at_ : Nat} (hj : st.pl[j]? = some (m.to, no, at_)) (h1 : at_ ≤ st.c.now) (h2 : ((st.c.now : Nat) : Int) - ((at_ : Nat) : Int) < ((st.c.ag : Nat) : Int)) (hno : ∀ (q : Nat) (y : Nat × Nat × Nat), q < j → st.pl[q]? = some y → pfit m.to st.c.now ((st.c.ag : Nat) : Int) y = false) :
 Ret Tryz.prog 33 #[vP b 0, .agg #[vU m.to, vU m.rp, vW m.id, vH m.op, vH m.st, vU m.po, vW m.ob, vB m.ri, vU m.ck, vU m.ar, d]] w (fun v w' => ∃ L' ps A c C D', NUP w0 b bo { st with c := { st.c with sent := st.c.sent + 1 }, ca := st.ca ++ [⟨{ m with rp := st.c.rep, id := st.ca.length + 1, st := 0 }, 1, 1, st.c.wa, MN.zero⟩] } sr L' D' ∧ Own 94 6 (.slice A ps.length c) ps.length (rows encPacket ps) C ∧ PKS w0 D' ps (splitM (encM { m with rp := st.c.rep, id := st.ca.length + 1, st := 0 }) st.c.id no (st.c.sent + 1) st.c.pc) ∧ DX w0 D D' ∧ v = .tuple #[vW (st.ca.length + 1), .slice A ps.length c, yN] ∧ St w0 w' (L' :: C :: D' :: F)) := by
 obtain ⟨B, d', rfl, hmd, hdx⟩ := (hd _ (hS.tail 1 rfl)).open'
 have hm0 := hm
 obtain ⟨hk1, hk2, hk3, hk4, hk5, hk6, hk7, hk8, hk9, hk10, hk11⟩ := hm
 obtain ⟨sv, bd, bg, bc, bp, bx, mp, ob, el, cl, ul, pl2, LS, LG, LC, LP, LB, LV, hn, rfl⟩ := hN
 replace hS : St w0 w ([(b, rowO [vI st.c.id, vI st.c.ki, vI st.c.no, vI st.c.pc, vI st.c.wa, vI st.c.tr, vI st.c.ag, vI st.c.pg, vI st.c.ro, vP bo 0, yT, vI st.c.now, vU st.c.sent, vU st.c.rep, vU st.c.port, vU st.c.r0, vW st.c.r1, vB st.c.r2, vU st.c.r3, sv, vP bd 0, vP bg 0, vP bc 0, vP bp 0, vP bx 0, .map (some mp)] 121)] :: LS :: LG :: LC :: LP :: LB :: [(mp, ob)] :: LV :: D :: F) := hS.cast (by simp)
 have hcl := map_len9 hn.fcl
 refine enter (vs := [vP b 0, .agg #[vU m.to, vU m.rp, vW m.id, vH m.op, vH m.st, vU m.po, vW m.ob, vB m.ri, vU m.ck, vU m.ar, .slice B m.da.length d']]) 35 Tryz.func33 rfl rfl (by simp) ?_; intro a hA
 have hmq : ({ m with rp := st.c.rep, id := st.ca.length + 1, st := 0 } : MN).ok := ⟨hk1, hrep, by show st.ca.length + 1 < _; omega, hk4, by show 0 < 65536; decide, hk6, hk7, hk8, hk9, hk10, hk11⟩
 refine zs (zr ?_)
 refine st_box hA hS [vU m.to, vU m.rp, vW m.id, vH m.op, vH m.st, vU m.po, vW m.ob, vB m.ri, vU m.ck, vU m.ar, .slice B m.da.length d'] rfl rfl rfl rfl rfl (by decide) fun b1 w2 a hS hA => ?_
 refine zR 3 ((6, yN) :: (5, yS) :: (4, yW) :: _) hA rfl fun a hA => zn (zx (zs (zs (zr (zR 3 ((10, vP b 10) :: (9, vP b 0) :: (8, vP b 0) :: _) hA rfl fun a hA => zL hA hS 1 rfl rfl rfl rfl rfl rfl rfl rfl rfl fun a hA => zR 1 ((12, yF) :: _) hA rfl fun a hA => zn (zx (cd_cond_f hA rfl (zk (zx (zs (zs (zr (zLA hA hS 0 [vU m.to, vU m.rp, vW m.id, vH m.op, vH m.st, vU m.po, vW m.ob, vB m.ri, vU m.ck, vU m.ar, .slice B m.da.length d'] rfl rfl rfl rfl rfl rfl rfl rfl rfl rfl fun a hA => ?_)))))))))))))
 refine st_call0 hA rfl rfl rfl isfn54 rfl rfl (by decide) (hmay54 hS m hm0 B d' ) ?_
 clear hA hS; rintro _ w3 a ⟨rfl, hS⟩ hA
 refine zR 1 ((16, yF) :: _) hA rfl fun a hA => zn (zx (cd_cond_f hA rfl (zk (zx (zs ?_)))))
 replace hS := hS.m9.m5
 refine zD3 hS [] [(0, true), (1, true), (2, true), (3, true), (4, false), (5, false), (6, true), (7, true), (8, true), (9, false), (10, true)] mixed (by kernel_rfl) (by rintro c a w ⟨_, _, h, _⟩; cases h) (by rfl) (by kernel_rfl) ?_
 replace hS := hS.drew
 refine zW 3 ((21, vP b 22) :: (20, vP b 0) :: (19, vP b 0) :: _) hA (hS.tail 3 rfl) rfl fun a hA => zY hA (hS.tail 3 rfl) 0 rfl rfl rfl rfl rfl rfl rfl rfl rfl rfl fun a hA => dr_b (o := _) rfl (zLA hA hS 2 [vU m.to, vU m.rp, vW m.id, vH m.op, vH m.st, vU m.po, vW m.ob, vB m.ri, vU m.ck, vU m.ar, .slice B m.da.length d'] rfl rfl rfl rfl rfl rfl rfl rfl rfl rfl fun a hA => zi (hS.tail 3 rfl) (dr_b (o := _) rfl ?_))
 replace hS := hS.m1.m1
 refine st_call0 hA rfl rfl rfl isfn55 rfl rfl (by decide) (start_ok55 hS hn.fcr ((m.to : Nat) : Int) ((m.rp : Nat) : Int) ((m.id : Nat) : Int) ((m.op : Nat) : Int) ((m.st : Nat) : Int) ((m.po : Nat) : Int) ((m.ob : Nat) : Int) ((m.ri : Nat) : Int) ((m.ck : Nat) : Int) ((m.ar : Nat) : Int) (bs := m.da) (fun w' h => hd _ (St.dmid (R := [[(b1, rowO [vU m.to, vU m.rp, vW m.id, vH m.op, vH m.st, vU m.po, vW m.ob, vB m.ri, vU m.ck, vU m.ar, .slice B m.da.length d'] 46)], [(b, rowO [vI st.c.id, vI st.c.ki, vI st.c.no, vI st.c.pc, vI st.c.wa, vI st.c.tr, vI st.c.ag, vI st.c.pg, vI st.c.ro, vP bo 0, yT, vI st.c.now, vU st.c.sent, vU st.c.rep, vU st.c.port, vU st.c.r0, vW st.c.r1, vB st.c.r2, vU st.c.r3, sv, vP bd 0, vP bg 0, vP bc 0, vP bp 0, vP bx 0, .map (some mp)] 121)], LS, LG, LP, LB, [(mp, ob)], LV]) h)) (by omega) (by omega)) ?_
 clear hA hS; rintro _ w4 a ⟨LC2, E1, A1, c1, A2, c2, hcr2, hE1, hE2, rfl, hS⟩ hA
 have hX5 : DX w0 D (E1 ++ D) := DX.refl.step
 refine zi (hS.tail 3 rfl) (zW 3 ((26, yN) :: (25, .agg #[vU m.to, vU st.c.rep, vW (cl.length + 1), vH m.op, yH, vU m.po, vW m.ob, vB m.ri, vU m.ck, vU m.ar, .slice A2 m.da.length c2]) :: (18, .tuple #[.agg #[vU m.to, vU st.c.rep, vW (cl.length + 1), vH m.op, yH, vU m.po, vW m.ob, vB m.ri, vU m.ck, vU m.ar, .slice A2 m.da.length c2], yN]) :: _) hA (hS.tail 3 rfl) rfl fun a hA => dr_b (o := _) rfl ?_)
 replace hS := hS.m2
 refine st_store tbOk hA hS [vU m.to, vU st.c.rep, vW (cl.length + 1), vH m.op, yH, vU m.po, vW m.ob, vB m.ri, vU m.ck, vU m.ar, .slice A2 m.da.length c2] [vU m.to, vU st.c.rep, vW (cl.length + 1), vH m.op, yH, vU m.po, vW m.ob, vB m.ri, vU m.ck, vU m.ar, .slice A2 m.da.length c2] rfl rfl rfl rfl rfl rfl (zn1 rfl) (zle rfl) rfl rfl rfl fun w6 hS => ?_
 refine zi (hS.tail 3 rfl) (zW 1 ((7, yN) :: _) hA (hS.tail 3 rfl) rfl fun a hA => ze (zx (zs (zs (zr ?_)))))
 rw [hcl] at hS
 refine zR 2 ((28, yF) :: (27, yN) :: _) hA rfl fun a hA => zn (zx (cd_cond_f hA rfl (zk (zx (zs ?_)))))
 replace hS := hS.m2.m6.m4
 refine zD3 hS [] [(0, true), (1, true), (2, true), (3, true), (4, false), (5, true), (6, true), (7, true)] mixed (by kernel_rfl) (by rintro c a w ⟨_, _, h, _⟩; cases h) (by rfl) (by kernel_rfl) ?_
 replace hS := hS.drew
 refine zW 1 ((30, vP b1 2) :: _) hA (hS.tail 3 rfl) rfl fun a hA => zY hA (hS.tail 3 rfl) 0 rfl rfl rfl rfl rfl rfl rfl rfl rfl rfl fun a hA => zW 1 ((32, vP b 0) :: _) hA (hS.tail 3 rfl) rfl fun a hA => zYA hA (hS.tail 3 rfl) 0 [vU m.to, vU st.c.rep, vW (st.ca.length + 1), vH m.op, yH, vU m.po, vW m.ob, vB m.ri, vU m.ck, vU m.ar, .slice A2 m.da.length c2] rfl rfl rfl rfl rfl rfl rfl rfl rfl rfl rfl fun a hA => dr_b (o := _) rfl ?_
 replace hS := hS.m2.m2.m2
 refine st_call0 hA rfl rfl rfl isfn56 rfl rfl (by decide) (nreq_hit56 hS hn.fpm { m with rp := st.c.rep, id := st.ca.length + 1, st := 0 } hmq ((DD.right hE2).rds 0 rfl) hnp hp1 hp2 hsn hnow hpl hag hj h1 h2 hno) ?_
 clear hA hS; rintro _ w7 a ⟨LP2, psq, Aq, cq, Cq, Eq, hP2, hOq, hKq, rfl, hS⟩ hA
 have hX8 : DX w0 (E1 ++ D) (Eq ++ (E1 ++ D)) := DX.refl.step
 refine zi (hS.tail 4 rfl) (zW 3 ((6, yN) :: (5, .slice Aq psq.length cq) :: (4, vW (st.ca.length + 1)) :: _) hA (hS.tail 4 rfl) rfl fun a hA => ze (zx ?_))
 refine wp_ret ?_
 refine ret3 (fn := Tryz.f33) hA rfl rfl rfl rfl ?_
 replace hS := hS.m4.d0.m3.m3.m9.m9.m9.m6.m7.m9.m9.m9
 replace hS : St w0 w7 (((b, rowO [vI st.c.id, vI st.c.ki, vI st.c.no, vI st.c.pc, vI st.c.wa, vI st.c.tr, vI st.c.ag, vI st.c.pg, vI st.c.ro, vP bo 0, yT, vI st.c.now, vU (st.c.sent + 1), vU st.c.rep, vU st.c.port, vU st.c.r0, vW st.c.r1, vB st.c.r2, vU st.c.r3, sv, vP bd 0, vP bg 0, vP bc 0, vP bp 0, vP bx 0, .map (some mp)] 121) :: (LS ++ (LG ++ (LC2 ++ (LP2 ++ (LB ++ ((mp, ob) :: LV))))))) :: Cq :: (Eq ++ (E1 ++ D)) :: F) := hS.cast (by simp)
 exact ⟨_, psq, Aq, cq, Cq, (Eq ++ (E1 ++ D)), ⟨_, _, _, _, _, _, _, _, _, _, _, _, _, _, _, _, _, _, ⟨hn.fsr, (hn.fgs.dx (hX5.trans hX8)), hcr2, hP2, hn.fbx, hn.fmp, (hn.fsv.dx (hX5.trans hX8)), hn.fel, (ent_dx hn.fed (hX5.trans hX8)), (map_snoc9 (y := ⟨{ m with rp := st.c.rep, id := st.ca.length + 1, st := 0 }, 1, 1, st.c.wa, MN.zero⟩) hn.fcl (by rw [hcl]; rfl)), (hX8.calls (all_snoc9 hn.fcd (fun y hy => encCall_left hy) ⟨hE1.right, DD.nil⟩)), hn.ful, (msg_dx hn.fud (hX5.trans hX8)), hn.fpl, (msg_dx hn.fpd (hX5.trans hX8))⟩, rfl⟩, hOq, ⟨hKq.1, fun x hx => DD.right (hKq.2 x hx)⟩, (hX5.trans hX8), rfl, hS⟩
end Go.Proofs.YthiakdmhpfkjbaaGreatDoor

set_option linter.unusedVariables false
set_option linter.unusedSimpArgs false
set_option maxRecDepth 4000
namespace Go.Proofs.YthiakdmhpfkjbaaGreatDoor
open Go Go.SK
def reqP (s : NC) (pl : List (Nat × Nat × Nat)) (m : MN) : List PN × Nat :=
  match pl.find? (pfit m.to s.now ((s.ag : Nat) : Int)) with
  | some x => (splitM (encM m) s.id x.2.1 (s.sent + 1) s.pc, s.sent + 1)
  | none => locP s m.to s.no
theorem find_at {α : Type} {p : α → Bool} : ∀ {l : List α} {x : α}, l.find? p = some x → ∃ j : Nat, l[j]? = some x ∧ p x = true ∧ ∀ (q : Nat) (y : α), q < j → l[q]? = some y → p y = false
  | [], x, h => by cases h
  | z :: l, x, h => by
    rw [List.find?_cons] at h
    cases hz : p z with
    | true => rw [hz] at h; injection h with h; subst h; exact ⟨0, rfl, hz, fun q y hq => absurd hq (Nat.not_lt_zero _)⟩
    | false =>
      rw [hz] at h
      obtain ⟨j, h1, h2, h3⟩ := find_at h
      refine ⟨j + 1, h1, h2, fun q y hq hy => ?_⟩
      cases q with
      | zero => injection hy with hy; subst hy; exact hz
      | succ q => exact h3 q y (by omega) hy
theorem find_no9 {α : Type} {p : α → Bool} {l : List α} (h : l.find? p = none) : ∀ x ∈ l, p x = false := fun x hx => by
  have := List.find?_eq_none.1 h x hx
  cases hp : p x with
  | true => exact absurd hp this
  | false => rfl
theorem pfit_out {po now : Nat} {ag : Int} {x : Nat × Nat × Nat} (h : pfit po now ag x = true) : x.1 = po ∧ x.2.2 ≤ now ∧ ((now : Nat) : Int) - ((x.2.2 : Nat) : Int) < ag := of_decide_eq_true h
theorem nreqA {b bo bd bg bc bp bx mp : Nat} {sv : Value} {s : NC} {P D : Chunk} {w0 w : World} {F : List Chunk} {pl : List (Nat × Nat × Nat)} (hS : St w0 w ([(b, rowO [vI s.id, vI s.ki, vI s.no, vI s.pc, vI s.wa, vI s.tr, vI s.ag, vI s.pg, vI s.ro, vP bo 0, yT, vI s.now, vU s.sent, vU s.rep, vU s.port, vU s.r0, vW s.r1, vB s.r2, vU s.r3, sv, vP bd 0, vP bg 0, vP bc 0, vP bp 0, vP bx 0, .map (some mp)] 121)] :: P :: D :: F)) (hP : PMR bp ((s.ag : Nat) : Int) pl P) (mq : MN) (hm : mq.ok) {d : Value} (hd : RdSX w0 (D :: F) 1 d mq.da.length (rows encB mq.da)) (hnp : nP (encM mq) s.pc ≤ 256) (hp1 : 1 ≤ s.pc) (hp2 : s.pc ≤ 32768) (hsn : s.sent + s.no < 1000000000) (hnow : s.now < 1000000) (hpl : ∀ x ∈ pl, x.2.2 < 1000000) (hag : s.ag < 1000000) (hrep : s.rep < 281474976710656) (hnn : s.no ≤ 8) (hpt : ¬ mq.to = s.port) :
    Ret Tryz.prog 56 #[vP b 0, .agg #[vU mq.to, vU mq.rp, vW mq.id, vH mq.op, vH mq.st, vU mq.po, vW mq.ob, vB mq.ri, vU mq.ck, vU mq.ar, d]] w (fun v w' => ∃ P' ps A c C D', PMR bp ((s.ag : Nat) : Int) pl P' ∧ Own 94 6 (.slice A ps.length c) ps.length (rows encPacket ps) C ∧ PKS w0 D' ps ((reqP s pl mq).1) ∧ DX w0 D D' ∧ v = .slice A ps.length c ∧ St w0 w' ([(b, rowO [vI s.id, vI s.ki, vI s.no, vI s.pc, vI s.wa, vI s.tr, vI s.ag, vI s.pg, vI s.ro, vP bo 0, yT, vI s.now, vU ((reqP s pl mq).2), vU s.rep, vU s.port, vU s.r0, vW s.r1, vB s.r2, vU s.r3, sv, vP bd 0, vP bg 0, vP bc 0, vP bp 0, vP bx 0, .map (some mp)] 121)] :: P' :: C :: D' :: F)) := by
  cases hf : pl.find? (pfit mq.to s.now ((s.ag : Nat) : Int)) with
  | none =>
    refine Calls.mono (nreq_loc56 hS hP mq d hm.1 hrep hpt hnn hp1 hp2 hsn hnow hpl (by omega) (find_no9 hf)) ?_
    rintro e w' ⟨v, he, P', ps, A, c, C, D', h1, h2, h3, h4, h5, h6⟩
    have e1 : reqP s pl mq = locP s mq.to s.no := by rw [reqP, hf]
    rw [e1]
    exact ⟨v, he, P', ps, A, c, C, D', h1, h2, h3, h4, h5, h6⟩
  | some x =>
    obtain ⟨j, hj, hx, hno⟩ := find_at hf
    obtain ⟨x1, x2, x3⟩ := x
    obtain ⟨hx1, hx2, hx3⟩ := pfit_out hx
    dsimp only at hx1 hx2 hx3
    subst hx1
    refine Calls.mono (nreq_hit56 hS hP mq hm hd hnp hp1 hp2 hsn hnow hpl (by omega) hj hx2 hx3 hno) ?_
    rintro e w' ⟨v, he, P', ps, A, c, C, E, h1, h2, h3, h5, h6⟩
    have e1 : reqP s pl mq = (splitM (encM mq) s.id x2 (s.sent + 1) s.pc, s.sent + 1) := by rw [reqP, hf]
    rw [e1]
    exact ⟨v, he, P', ps, A, c, C, E ++ D, h1, h2, ⟨h3.1, fun x hx => DD.right (h3.2 x hx)⟩, DX.refl.step, h5, h6⟩
theorem ncallA {b bo : Nat} {st : NS} {sr : Srv} {L D : Chunk} {w0 w : World} {F : List Chunk} (hS : St w0 w (L :: D :: F)) (hN : NUP w0 b bo st sr L D) (m : MN) (hm : m.ok) {d : Value} (hd : RdSX w0 (D :: F) 1 d m.da.length (rows encB m.da)) (hcal : st.ca.length < 64) (hnp : nP (encM { m with rp := st.c.rep, id := st.ca.length + 1, st := 0 }) st.c.pc ≤ 256) (hp1 : 1 ≤ st.c.pc) (hp2 : st.c.pc ≤ 32768) (hsn : st.c.sent + st.c.no < 1000000000) (hnow : st.c.now < 1000000) (hpl : ∀ x ∈ st.pl, x.2.2 < 1000000) (hag : st.c.ag < 1000000) (hrep : st.c.rep < 281474976710656) (hnn : st.c.no ≤ 8) (hpt : ¬ m.to = st.c.port) :
    Ret Tryz.prog 33 #[vP b 0, .agg #[vU m.to, vU m.rp, vW m.id, vH m.op, vH m.st, vU m.po, vW m.ob, vB m.ri, vU m.ck, vU m.ar, d]] w (fun v w' => ∃ L' ps A c C D', NUP w0 b bo { st with c := { st.c with sent := (reqP st.c st.pl { m with rp := st.c.rep, id := st.ca.length + 1, st := 0 }).2 }, ca := st.ca ++ [⟨{ m with rp := st.c.rep, id := st.ca.length + 1, st := 0 }, 1, 1, st.c.wa, MN.zero⟩] } sr L' D' ∧ Own 94 6 (.slice A ps.length c) ps.length (rows encPacket ps) C ∧ PKS w0 D' ps ((reqP st.c st.pl { m with rp := st.c.rep, id := st.ca.length + 1, st := 0 }).1) ∧ DX w0 D D' ∧ v = .tuple #[vW (st.ca.length + 1), .slice A ps.length c, yN] ∧ St w0 w' (L' :: C :: D' :: F)) := by
  cases hf : st.pl.find? (pfit m.to st.c.now ((st.c.ag : Nat) : Int)) with
  | none =>
    have e1 : reqP st.c st.pl { m with rp := st.c.rep, id := st.ca.length + 1, st := 0 } = locP st.c m.to st.c.no := by rw [reqP]; show (match st.pl.find? (pfit m.to st.c.now ((st.c.ag : Nat) : Int)) with | some x => _ | none => _) = _; rw [hf]
    rw [e1]
    exact ncall_loc33 hS hN m hm hd hcal hrep hp1 hp2 hsn hnow hpl (by omega) hpt hnn (find_no9 hf)
  | some x =>
    obtain ⟨j, hj, hx, hno⟩ := find_at hf
    obtain ⟨x1, x2, x3⟩ := x
    obtain ⟨hx1, hx2, hx3⟩ := pfit_out hx
    dsimp only at hx1 hx2 hx3
    subst hx1
    have e1 : reqP st.c st.pl { m with rp := st.c.rep, id := st.ca.length + 1, st := 0 } = (splitM (encM { m with rp := st.c.rep, id := st.ca.length + 1, st := 0 }) st.c.id x2 (st.c.sent + 1) st.c.pc, st.c.sent + 1) := by rw [reqP]; show (match st.pl.find? (pfit m.to st.c.now ((st.c.ag : Nat) : Int)) with | some x => _ | none => _) = _; rw [hf]
    rw [e1]
    exact ncall_hit33 hS hN m hm hd hcal hrep hp1 hp2 hsn hnow hpl (by omega) hnp hj hx2 hx3 hno
set_option maxHeartbeats 4000000 in
theorem nget_ok44 {w0 w : World} {F : List Chunk} {b bo : Nat} {st : NS} {sr : Srv} {L D : Chunk} (hS : St w0 w (L :: D :: F)) (hN : NUP w0 b bo st sr L D) {k : Nat} {y : CA} (hy : st.ca[k]? = some y) (hcal : st.ca.length ≤ 64) (hca : cal st.ca) (hst : ¬ y.st = 3) :
 Ret Tryz.prog 44 #[vP b 0, vW (k + 1)] w (fun v w' => ∃ L' E A c, NUP w0 b bo st sr L' (E ++ D) ∧ DD w0 E A c y.rp.da ∧ v = .tuple #[vI y.st, .agg #[vU y.rp.to, vU y.rp.rp, vW y.rp.id, vH y.rp.op, vH y.rp.st, vU y.rp.po, vW y.rp.ob, vB y.rp.ri, vU y.rp.ck, vU y.rp.ar, .slice A y.rp.da.length c], yN] ∧ St w0 w' (L' :: (E ++ D) :: F)) := by
 obtain ⟨sv, bd, bg, bc, bp, bx, mp, ob, el, cl, ul, pl2, LS, LG, LC, LP, LB, LV, hn, rfl⟩ := hN
 replace hS : St w0 w ([(b, rowO [vI st.c.id, vI st.c.ki, vI st.c.no, vI st.c.pc, vI st.c.wa, vI st.c.tr, vI st.c.ag, vI st.c.pg, vI st.c.ro, vP bo 0, yT, vI st.c.now, vU st.c.sent, vU st.c.rep, vU st.c.port, vU st.c.r0, vW st.c.r1, vB st.c.r2, vU st.c.r3, sv, vP bd 0, vP bg 0, vP bc 0, vP bp 0, vP bx 0, .map (some mp)] 121)] :: LS :: LG :: LC :: LP :: LB :: [(mp, ob)] :: LV :: D :: F) := hS.cast (by simp)
 have hcl := map_len9 hn.fcl
 obtain ⟨x, hx, e⟩ := map_at9 hn.fcl hy
 obtain ⟨q0, q1, q2, q3, q4, q5, q6, q7, q8, q9, qA, qc, qb, x13, x14, x15, r0, r1, r2, r3, r4, r5, r6, r7, r8, r9, rA, rc, rb⟩ := x
 simp only [c5, rq, rp, mst, mdat, cst, ctr, clf, CA.t, MN.t, Prod.mk.injEq] at e
 obtain ⟨⟨e0, e1, e2, e3, e4, e5, e6, e7, e8, e9, e10⟩, e13, e14, e15, ⟨g0, g1, g2, g3, g4, g5, g6, g7, g8, g9, g10⟩⟩ := e
 subst e0 e1 e2 e3 e4 e5 e6 e7 e8 e9 e10 e13 e14 e15 g0 g1 g2 g3 g4 g5 g6 g7 g8 g9 g10
 have hcs := csz_of hn.fcl hca
 refine enter (vs := [vP b 0, vW (k + 1)]) 23 Tryz.func44 rfl rfl (by simp) ?_; intro a hA
 refine zs (zr (zR 1 ((4, yI) :: _) hA rfl fun a hA => ?_))
 refine st_alloc tbOk hA hS [yU, yU, yW, yH, yH, yU, yW, yB, yU, yU, yS] rfl rfl rfl rfl rfl (by decide) fun b1 w2 a hS hA => ?_
 refine zR 1 ((6, yN) :: _) hA rfl fun a hA => zn (zx (zs (zs (zr (zR 3 ((9, vP b 10) :: (8, vP b 0) :: (7, vP b 0) :: _) hA rfl fun a hA => zL hA hS 1 rfl rfl rfl rfl rfl rfl rfl rfl rfl fun a hA => zR 1 ((11, yF) :: _) hA rfl fun a hA => zn (zx (cd_cond_f hA rfl (zk (zx (zs (zr (zR 3 ((16, vP b 22) :: (15, vP b 0) :: (14, vP b 0) :: _) hA rfl fun a hA => zL hA hS 1 rfl rfl rfl rfl rfl rfl rfl rfl rfl fun a hA => zR 1 ((18, vW (k + 1)) :: _) hA rfl fun a hA => ?_))))))))))))
 replace hS := hS.m9.m5
 refine st_call0 hA rfl rfl rfl isfn71 rfl rfl (by decide) (cget_ok71 hS hn.fcr hx (by omega) (id := ((k + 1 : Nat) : Int)) (by omega) (by show ¬ ((y.st : Nat) : Int) = 3; omega) hn.fcd hcs) ?_
 clear hA hS; rintro _ w3 a ⟨LC2, E1, A1, c1, hcr2, hE1, rfl, hS⟩ hA
 have hX4 : DX w0 D (E1 ++ D) := DX.refl.step
 replace hA := hA.rw 19 (v' := .tuple #[vI y.st, .agg #[vU y.rp.to, vU y.rp.rp, vW y.rp.id, vH y.rp.op, vH y.rp.st, vU y.rp.po, vW y.rp.ob, vB y.rp.ri, vU y.rp.ck, vU y.rp.ar, .slice A1 y.rp.da.length c1], yN]) rfl rfl
 refine zR 4 ((4, vI y.st) :: (22, yN) :: (21, .agg #[vU y.rp.to, vU y.rp.rp, vW y.rp.id, vH y.rp.op, vH y.rp.st, vU y.rp.po, vW y.rp.ob, vB y.rp.ri, vU y.rp.ck, vU y.rp.ar, .slice A1 y.rp.da.length c1]) :: (20, vI y.st) :: _) hA rfl fun a hA => ?_
 replace hS := hS.m2
 refine st_store tbOk hA hS [vU y.rp.to, vU y.rp.rp, vW y.rp.id, vH y.rp.op, vH y.rp.st, vU y.rp.po, vW y.rp.ob, vB y.rp.ri, vU y.rp.ck, vU y.rp.ar, .slice A1 y.rp.da.length c1] [vU y.rp.to, vU y.rp.rp, vW y.rp.id, vH y.rp.op, vH y.rp.st, vU y.rp.po, vW y.rp.ob, vB y.rp.ri, vU y.rp.ck, vU y.rp.ar, .slice A1 y.rp.da.length c1] rfl rfl rfl rfl rfl rfl (zn1 rfl) (zle rfl) rfl rfl rfl fun w5 hS => ?_
 refine zR 1 ((6, yN) :: _) hA rfl fun a hA => zn (zx ?_)
 refine wp_ret ?_
 refine rettct tbOk (fn := Tryz.f44) (cs := [vU y.rp.to, vU y.rp.rp, vW y.rp.id, vH y.rp.op, vH y.rp.st, vU y.rp.po, vW y.rp.ob, vB y.rp.ri, vU y.rp.ck, vU y.rp.ar, .slice A1 y.rp.da.length c1]) hA rfl rfl rfl rfl rfl rfl rfl (cells_row (hS.heapAt 0 rfl) rfl) ?_
 replace hS := hS.d0.m1.m8.m8.m8.m8.m5.m8.m8.m8
 replace hS : St w0 w5 (((b, rowO [vI st.c.id, vI st.c.ki, vI st.c.no, vI st.c.pc, vI st.c.wa, vI st.c.tr, vI st.c.ag, vI st.c.pg, vI st.c.ro, vP bo 0, yT, vI st.c.now, vU st.c.sent, vU st.c.rep, vU st.c.port, vU st.c.r0, vW st.c.r1, vB st.c.r2, vU st.c.r3, sv, vP bd 0, vP bg 0, vP bc 0, vP bp 0, vP bx 0, .map (some mp)] 121) :: (LS ++ (LG ++ (LC2 ++ (LP ++ (LB ++ ((mp, ob) :: LV))))))) :: (E1 ++ D) :: F) := hS.cast (by simp)
 exact ⟨_, E1, _, _, ⟨_, _, _, _, _, _, _, _, _, _, _, _, _, _, _, _, _, _, ⟨hn.fsr, (hn.fgs.dx hX4), hcr2, hn.fpm, hn.fbx, hn.fmp, (hn.fsv.dx hX4), hn.fel, (ent_dx hn.fed hX4), hn.fcl, (hX4.calls hn.fcd), hn.ful, (msg_dx hn.fud hX4), hn.fpl, (msg_dx hn.fpd hX4)⟩, rfl⟩, hE1, rfl, hS⟩
set_option maxHeartbeats 4000000 in
theorem nget_failed44 {w0 w : World} {F : List Chunk} {b bo : Nat} {st : NS} {sr : Srv} {L D : Chunk} (hS : St w0 w (L :: D :: F)) (hN : NUP w0 b bo st sr L D) {k : Nat} {y : CA} (hy : st.ca[k]? = some y) (hcal : st.ca.length ≤ 64) (hca : cal st.ca) (hst : y.st = 3) :
 Ret Tryz.prog 44 #[vP b 0, vW (k + 1)] w (fun v w' => ∃ L', NUP w0 b bo st sr L' D ∧ v = .tuple #[.int .i64 3, .agg #[yU, yU, yW, yH, yH, yU, yW, yB, yU, yU, yS], .iface 55 (.int .i64 10)] ∧ St w0 w' (L' :: D :: F)) := by
 obtain ⟨sv, bd, bg, bc, bp, bx, mp, ob, el, cl, ul, pl2, LS, LG, LC, LP, LB, LV, hn, rfl⟩ := hN
 replace hS : St w0 w ([(b, rowO [vI st.c.id, vI st.c.ki, vI st.c.no, vI st.c.pc, vI st.c.wa, vI st.c.tr, vI st.c.ag, vI st.c.pg, vI st.c.ro, vP bo 0, yT, vI st.c.now, vU st.c.sent, vU st.c.rep, vU st.c.port, vU st.c.r0, vW st.c.r1, vB st.c.r2, vU st.c.r3, sv, vP bd 0, vP bg 0, vP bc 0, vP bp 0, vP bx 0, .map (some mp)] 121)] :: LS :: LG :: LC :: LP :: LB :: [(mp, ob)] :: LV :: D :: F) := hS.cast (by simp)
 have hcl := map_len9 hn.fcl
 obtain ⟨x, hx, e⟩ := map_at9 hn.fcl hy
 obtain ⟨q0, q1, q2, q3, q4, q5, q6, q7, q8, q9, qA, qc, qb, x13, x14, x15, r0, r1, r2, r3, r4, r5, r6, r7, r8, r9, rA, rc, rb⟩ := x
 simp only [c5, rq, rp, mst, mdat, cst, ctr, clf, CA.t, MN.t, Prod.mk.injEq] at e
 obtain ⟨⟨e0, e1, e2, e3, e4, e5, e6, e7, e8, e9, e10⟩, e13, e14, e15, ⟨g0, g1, g2, g3, g4, g5, g6, g7, g8, g9, g10⟩⟩ := e
 subst e0 e1 e2 e3 e4 e5 e6 e7 e8 e9 e10 e13 e14 e15 g0 g1 g2 g3 g4 g5 g6 g7 g8 g9 g10
 have hcs := csz_of hn.fcl hca
 refine enter (vs := [vP b 0, vW (k + 1)]) 23 Tryz.func44 rfl rfl (by simp) ?_; intro a hA
 refine zs (zr (zR 1 ((4, yI) :: _) hA rfl fun a hA => ?_))
 refine st_alloc tbOk hA hS [yU, yU, yW, yH, yH, yU, yW, yB, yU, yU, yS] rfl rfl rfl rfl rfl (by decide) fun b1 w2 a hS hA => ?_
 refine zR 1 ((6, yN) :: _) hA rfl fun a hA => zn (zx (zs (zs (zr (zR 3 ((9, vP b 10) :: (8, vP b 0) :: (7, vP b 0) :: _) hA rfl fun a hA => zL hA hS 1 rfl rfl rfl rfl rfl rfl rfl rfl rfl fun a hA => zR 1 ((11, yF) :: _) hA rfl fun a hA => zn (zx (cd_cond_f hA rfl (zk (zx (zs (zr (zR 3 ((16, vP b 22) :: (15, vP b 0) :: (14, vP b 0) :: _) hA rfl fun a hA => zL hA hS 1 rfl rfl rfl rfl rfl rfl rfl rfl rfl fun a hA => zR 1 ((18, vW (k + 1)) :: _) hA rfl fun a hA => ?_))))))))))))
 replace hS := hS.m9.m5
 refine st_call0 hA rfl rfl rfl isfn71 rfl rfl (by decide) (cget_failed71 hS hn.fcr hx (by omega) (id := ((k + 1 : Nat) : Int)) (by omega) (by show ((y.st : Nat) : Int) = 3; omega)) ?_
 clear hA hS; rintro _ w3 a ⟨LC2, hcr2, rfl, hS⟩ hA
 refine zR 4 ((4, .int .i64 3) :: (22, .iface 55 (.int .i64 10)) :: (21, .agg #[yU, yU, yW, yH, yH, yU, yW, yB, yU, yU, yS]) :: (20, .int .i64 3) :: _) hA rfl fun a hA => ?_
 replace hS := hS.m2
 refine st_store tbOk hA hS [yU, yU, yW, yH, yH, yU, yW, yB, yU, yU, yS] [yU, yU, yW, yH, yH, yU, yW, yB, yU, yU, yS] rfl rfl rfl rfl rfl rfl (zn1 rfl) (zle rfl) rfl rfl rfl fun w4 hS => ?_
 refine zR 1 ((6, .iface 55 (.int .i64 10)) :: _) hA rfl fun a hA => zn (zx ?_)
 refine wp_ret ?_
 refine rettct tbOk (fn := Tryz.f44) (cs := [yU, yU, yW, yH, yH, yU, yW, yB, yU, yU, yS]) hA rfl rfl rfl rfl rfl rfl rfl (cells_row (hS.heapAt 0 rfl) rfl) ?_
 replace hS := hS.d0.m1.m8.m8.m8.m8.m5.m8.m8.m8
 replace hS : St w0 w4 (((b, rowO [vI st.c.id, vI st.c.ki, vI st.c.no, vI st.c.pc, vI st.c.wa, vI st.c.tr, vI st.c.ag, vI st.c.pg, vI st.c.ro, vP bo 0, yT, vI st.c.now, vU st.c.sent, vU st.c.rep, vU st.c.port, vU st.c.r0, vW st.c.r1, vB st.c.r2, vU st.c.r3, sv, vP bd 0, vP bg 0, vP bc 0, vP bp 0, vP bx 0, .map (some mp)] 121) :: (LS ++ (LG ++ (LC2 ++ (LP ++ (LB ++ ((mp, ob) :: LV))))))) :: D :: F) := hS.cast (by simp)
 exact ⟨_, ⟨_, _, _, _, _, _, _, _, _, _, _, _, _, _, _, _, _, _, ⟨hn.fsr, hn.fgs, hcr2, hn.fpm, hn.fbx, hn.fmp, hn.fsv, hn.fel, hn.fed, hn.fcl, hn.fcd, hn.ful, hn.fud, hn.fpl, hn.fpd⟩, rfl⟩, rfl, hS⟩
end Go.Proofs.YthiakdmhpfkjbaaGreatDoor

set_option linter.unusedVariables false
set_option linter.unusedSimpArgs false
set_option maxRecDepth 4000
namespace Go.Proofs.YthiakdmhpfkjbaaGreatDoor
open Go Go.SK
def tickA (wa tr : Nat) (y : CA) : CA := if y.st = 1 then (if 1 < y.lf then { y with lf := y.lf - 1 } else if y.tr = tr then { y with st := 3, lf := y.lf - 1 } else { y with tr := y.tr + 1, lf := wa }) else y
def agA (tr : Nat) (y : CA) : Bool := decide (y.st = 1 ∧ ¬ 1 < y.lf ∧ ¬ y.tr = tr)
def cag (ca : List CA) : Prop := ∀ y ∈ ca, y.st = 1 → (1 ≤ y.lf ∧ y.lf ≤ 1000) ∧ 1 ≤ y.tr ∧ y.tr ≤ 1000
theorem c5_mkc (q : Msg) (s t l : Int) (r : Msg) : c5 (mkc q s t l r) = (mst q, s, t, l, mst r) := rfl
theorem tick_c5 {wa tr : Nat} {x : Call} {y : CA} (e : c5 x = y.t) (hg : y.st = 1 → 1 ≤ y.lf) : c5 (tick1 ((wa : Nat) : Int) ((tr : Nat) : Int) x) = (tickA wa tr y).t ∧ again1 ((tr : Nat) : Int) x = agA tr y := by
  have h1 : mst (rq x) = y.rq.t := congrArg (fun z => z.1) e
  have h2 : cst x = ((y.st : Nat) : Int) := congrArg (fun z => z.2.1) e
  have h3 : ctr x = ((y.tr : Nat) : Int) := congrArg (fun z => z.2.2.1) e
  have h4 : clf x = ((y.lf : Nat) : Int) := congrArg (fun z => z.2.2.2.1) e
  have h5 : mst (rp x) = y.rp.t := congrArg (fun z => z.2.2.2.2) e
  refine ⟨?_, ?_⟩
  · by_cases a : y.st = 1
    · have hl := hg a
      by_cases b : 1 < y.lf
      · rw [tick_a (by omega) (by omega), tickA, if_pos a, if_pos b, c5_mkc, h1, h2, h3, h4, h5]
        simp only [CA.t, Prod.mk.injEq, true_and, and_true]
        omega
      · by_cases c : y.tr = tr
        · rw [tick_b (by omega) (by omega) (by omega), tickA, if_pos a, if_neg b, if_pos c, c5_mkc, h1, h3, h4, h5]
          simp only [CA.t, Prod.mk.injEq, true_and, and_true]
          omega
        · rw [tick_c (by omega) (by omega) (by omega), tickA, if_pos a, if_neg b, if_neg c, c5_mkc, h1, h2, h3, h5]
          simp only [CA.t, Prod.mk.injEq, true_and, and_true]
          omega
    · rw [tick_n (by omega), tickA, if_neg a, e]
  · rw [again1, agA, Bool.eq_iff_iff, decide_eq_true_iff, decide_eq_true_iff]
    omega
theorem tick_maps {wa tr : Nat} : ∀ {cl : List Call} {ca : List CA}, cl.map c5 = ca.map CA.t → cag ca → (cl.map (tick1 ((wa : Nat) : Int) ((tr : Nat) : Int))).map c5 = (ca.map (tickA wa tr)).map CA.t ∧ (cl.filter (again1 ((tr : Nat) : Int))).map (fun x => mst (rq x)) = ((ca.filter (agA tr)).map CA.rq).map MN.t
  | [], [], _, _ => ⟨rfl, rfl⟩
  | [], _ :: _, h, _ => by simp at h
  | _ :: _, [], h, _ => by simp at h
  | x :: cl, y :: ca, h, hg => by
    simp only [List.map_cons, List.cons.injEq] at h
    obtain ⟨h1, h2⟩ := tick_c5 (wa := wa) (tr := tr) h.1 (fun q => ((hg y List.mem_cons_self q).1).1)
    obtain ⟨h3, h4⟩ := tick_maps (wa := wa) (tr := tr) h.2 (fun z hz => hg z (List.mem_cons_of_mem _ hz))
    refine ⟨by rw [List.map_cons, List.map_cons, List.map_cons, List.map_cons, h1, h3], ?_⟩
    rw [List.filter_cons, List.filter_cons, h2]
    cases agA tr y with
    | true =>
      have h5 : mst (rq x) = y.rq.t := congrArg (fun z => z.1) h.1
      simp only [if_true, List.map_cons, h4, h5]
    | false => exact h4
theorem cgd_of {cl : List Call} {ca : List CA} (h : cl.map c5 = ca.map CA.t) (k : cag ca) : ∀ x ∈ cl, cgd x := fun x hx hs => by
  have h1 : c5 x ∈ ca.map CA.t := h ▸ List.mem_map_of_mem (f := c5) hx
  obtain ⟨y, hy, e⟩ := List.mem_map.1 h1
  have h2 : cst x = ((y.st : Nat) : Int) := congrArg (fun z => z.2.1) e.symm
  have h3 : ctr x = ((y.tr : Nat) : Int) := congrArg (fun z => z.2.2.1) e.symm
  have h4 : clf x = ((y.lf : Nat) : Int) := congrArg (fun z => z.2.2.2.1) e.symm
  have := k y hy (by omega)
  omega
theorem reqP_sent {s : NC} {pl : List (Nat × Nat × Nat)} {m : MN} (hn : s.no ≤ 8) : (reqP s pl m).2 ≤ s.sent + 8 := by
  rw [reqP]
  split
  · show s.sent + 1 ≤ _; omega
  · have := locP_sent s m.to s.no; omega
theorem reqP_len {s : NC} {pl : List (Nat × Nat × Nat)} {m : MN} (hn : s.no ≤ 8) (hs : 1 ≤ s.pc) (hnp : nP (encM m) s.pc ≤ 256) : (reqP s pl m).1.length ≤ 512 := by
  rw [reqP]
  split
  · show (splitM _ _ _ _ _).length ≤ _; rw [splitM_length]; omega
  · have := locP_len s m.to hs s.no; omega
def tickP (s : NC) (pl : List (Nat × Nat × Nat)) (ms : List MN) : List PN × Nat := ms.foldl (fun a m => (a.1 ++ (reqP { s with sent := a.2 } pl m).1, (reqP { s with sent := a.2 } pl m).2)) ([], s.sent)
theorem tickP_step {s : NC} {pl : List (Nat × Nat × Nat)} {ms : List MN} {j : Nat} {m : MN} (h : ms[j]? = some m) : tickP s pl (ms.take (j + 1)) = ((tickP s pl (ms.take j)).1 ++ (reqP { s with sent := (tickP s pl (ms.take j)).2 } pl m).1, (reqP { s with sent := (tickP s pl (ms.take j)).2 } pl m).2) := by
  rw [List.take_add_one, h, tickP, List.foldl_append]; rfl
theorem tickP_bnd {s : NC} {pl : List (Nat × Nat × Nat)} {ms : List MN} (hn : s.no ≤ 8) (hs : 1 ≤ s.pc) (hm : ∀ m ∈ ms, nP (encM m) s.pc ≤ 256) : ∀ j, (tickP s pl (ms.take j)).2 ≤ s.sent + 8 * j ∧ (tickP s pl (ms.take j)).1.length ≤ 512 * j
  | 0 => ⟨Nat.le_refl _, Nat.le_refl _⟩
  | j + 1 => by
    have ih := tickP_bnd (pl := pl) hn hs hm j
    cases h : ms[j]? with
    | none => rw [List.take_add_one, h]; simp only [Option.toList_none, List.append_nil]; omega
    | some m =>
      rw [tickP_step h]
      have h1 := reqP_sent (s := { s with sent := (tickP s pl (ms.take j)).2 }) (pl := pl) (m := m) hn
      have h2 := reqP_len (s := { s with sent := (tickP s pl (ms.take j)).2 }) (pl := pl) (m := m) hn hs (hm m (List.mem_of_getElem? h))
      refine ⟨?_, ?_⟩
      · show (reqP _ pl m).2 ≤ _
        have h3 : (reqP { s with sent := (tickP s pl (ms.take j)).2 } pl m).2 ≤ (tickP s pl (ms.take j)).2 + 8 := h1
        omega
      · show ((tickP s pl (ms.take j)).1 ++ (reqP { s with sent := (tickP s pl (ms.take j)).2 } pl m).1).length ≤ 512 * (j + 1)
        rw [List.length_append]; omega
def rqok (st : NS) : Prop := ∀ y ∈ st.ca, y.st = 1 → y.rq.ok ∧ ¬ y.rq.to = st.c.port ∧ nP (encM y.rq) st.c.pc ≤ 256
theorem rqok_of {st : NS} (h : rqok st) : ∀ m ∈ (st.ca.filter (agA st.c.tr)).map CA.rq, m.ok ∧ ¬ m.to = st.c.port ∧ nP (encM m) st.c.pc ≤ 256 := fun m hm => by
  obtain ⟨y, hy, rfl⟩ := List.mem_map.1 hm
  obtain ⟨h1, h2⟩ := List.mem_filter.1 hy
  have h3 := of_decide_eq_true h2
  exact h y h1 h3.1
theorem tick_dx {w0 : World} {D D' : Chunk} {wt tr : Int} {cl : List Call} (k : DX w0 D D') (h : ∀ x ∈ cl, encCall_dd w0 D x) : ∀ x ∈ cl.map (tick1 wt tr), encCall_dd w0 D' x := fun x hx => by
  obtain ⟨z, hz, rfl⟩ := List.mem_map.1 hx
  have h1 := k.calls h z hz
  rw [tick1]
  split
  · split
    · exact h1
    · split <;> exact h1
  · exact h1
set_option maxHeartbeats 8000000 in
theorem ntick41 {w0 w : World} {F : List Chunk} {b bo : Nat} {st : NS} {sr : Srv} {L D : Chunk} (hS : St w0 w (L :: D :: F)) (hN : NUP w0 b bo st sr L D) (hcal : st.ca.length ≤ 64) (hca : cal st.ca) (hcag : cag st.ca) (hro : rqok st) (hwa : st.c.wa ≤ 1000) (hp1 : 1 ≤ st.c.pc) (hp2 : st.c.pc ≤ 32768) (hsn : st.c.sent + 1000 < 1000000000) (hnow : st.c.now + 1 < 1000000) (hpl : ∀ x ∈ st.pl, x.2.2 < 1000000) (hag : st.c.ag < 1000000) (hrep : st.c.rep < 281474976710656) (hnn : st.c.no ≤ 8)  :
 Ret Tryz.prog 41 #[vP b 0] w (fun v w' => ∃ L' ps A c C D', NUP w0 b bo { st with c := { st.c with now := st.c.now + 1, sent := (tickP { st.c with now := st.c.now + 1 } st.pl ((st.ca.filter (agA st.c.tr)).map CA.rq)).2 }, ca := st.ca.map (tickA st.c.wa st.c.tr) } sr L' D' ∧ Own 94 6 (.slice A ps.length c) ps.length (rows encPacket ps) C ∧ PKS w0 D' ps ((tickP { st.c with now := st.c.now + 1 } st.pl ((st.ca.filter (agA st.c.tr)).map CA.rq)).1) ∧ DX w0 D D' ∧ v = .slice A ps.length c ∧ St w0 w' (L' :: C :: D' :: F)) := by
 obtain ⟨sv, bd, bg, bc, bp, bx, mp, ob, el, cl, ul, pl2, LS, LG, LC, LP, LB, LV, hn, rfl⟩ := hN
 replace hS : St w0 w ([(b, rowO [vI st.c.id, vI st.c.ki, vI st.c.no, vI st.c.pc, vI st.c.wa, vI st.c.tr, vI st.c.ag, vI st.c.pg, vI st.c.ro, vP bo 0, yT, vI st.c.now, vU st.c.sent, vU st.c.rep, vU st.c.port, vU st.c.r0, vW st.c.r1, vB st.c.r2, vU st.c.r3, sv, vP bd 0, vP bg 0, vP bc 0, vP bp 0, vP bx 0, .map (some mp)] 121)] :: LS :: LG :: LC :: LP :: LB :: [(mp, ob)] :: LV :: D :: F) := hS.cast (by simp)
 have hcl := map_len9 hn.fcl; have hcs := csz_of hn.fcl hca; have hcg := cgd_of hn.fcl hcag; obtain ⟨htm, hfm⟩ := tick_maps (wa := st.c.wa) (tr := st.c.tr) hn.fcl hcag
 obtain ⟨ms, hms⟩ : ∃ z, z = (st.ca.filter (agA st.c.tr)).map CA.rq := ⟨_, rfl⟩; have hmo := rqok_of hro; rw [← hms] at hmo hfm
 have hml : ms.length ≤ st.ca.length := by rw [hms, List.length_map]; exact List.length_filter_le _ _
 refine enter (vs := [vP b 0]) 35 Tryz.func41 rfl rfl (by simp) ?_; intro a hA
 refine zs (zr (zR 1 ((2, yS) :: _) hA rfl fun a hA => zn (zx (zs (zr (zR 3 ((8, vP b 11) :: (7, vP b 0) :: (6, vP b 0) :: _) hA rfl fun a hA => zL hA hS 0 rfl rfl rfl rfl rfl rfl rfl rfl rfl fun a hA => zR 1 ((10, .int .i64 (IntKind.i64.wrap (((st.c.now : Nat) : Int) + 1))) :: _) hA rfl fun a hA => ?_))))))
 replace hA := hA.rw 10 (v' := vI (st.c.now + 1)) rfl (wr64 (by omega) (by omega) (by omega))
 refine zR 2 ((12, vP b 11) :: (11, vP b 0) :: _) hA rfl fun a hA => ?_
 refine st_store tbOk hA hS [vI (st.c.now + 1)] [vI st.c.id, vI st.c.ki, vI st.c.no, vI st.c.pc, vI st.c.wa, vI st.c.tr, vI st.c.ag, vI st.c.pg, vI st.c.ro, vP bo 0, yT, vI (st.c.now + 1), vU st.c.sent, vU st.c.rep, vU st.c.port, vU st.c.r0, vW st.c.r1, vB st.c.r2, vU st.c.r3, sv, vP bd 0, vP bg 0, vP bc 0, vP bp 0, vP bx 0, .map (some mp)] rfl rfl rfl rfl rfl rfl (by intro u hu; rw [List.mem_singleton.1 hu]; rfl) (zle rfl) rfl rfl rfl fun w1 hS => ?_
 refine zn (zx (zs (zs (zr (zR 3 ((15, vP b 10) :: (14, vP b 0) :: (13, vP b 0) :: _) hA rfl fun a hA => zL hA hS 0 rfl rfl rfl rfl rfl rfl rfl rfl rfl fun a hA => zR 1 ((17, yF) :: _) hA rfl fun a hA => zn (zx (cd_cond_f hA rfl (zk (zx (zs (zr (zR 1 ((3, yS) :: _) hA rfl fun a hA => zn (zx (zs (zs (zr (zR 3 ((20, vP b 22) :: (19, vP b 0) :: (18, vP b 0) :: _) hA rfl fun a hA => zL hA hS 0 rfl rfl rfl rfl rfl rfl rfl rfl rfl fun a hA => ?_)))))))))))))))))
 replace hS := hS.m8.m4
 refine st_call0 hA rfl rfl rfl isfn65 rfl rfl (by decide) (ctick65 hS hn.fcr hn.fcd hcs hcg (by omega) (by omega) (by omega)) ?_
 clear hA hS; rintro _ w2 a ⟨LC2, D2, out, Au, cu, U, hcr2, hU, hum, hud, hX1, rfl, hS⟩ hA; rw [hfm] at hum; have hol := map_len9 hum; have hcu := hU.rcap
 refine zR 2 ((24, yI) :: (23, vI out.length) :: _) hA rfl fun a hA => zn (zx (zb ?_))
 replace hS := hS.nil
 replace hS := hS.m3.m1.m7.m5
 replace hS : St w0 w2 ([(b, rowO [vI st.c.id, vI st.c.ki, vI st.c.no, vI st.c.pc, vI st.c.wa, vI st.c.tr, vI st.c.ag, vI st.c.pg, vI st.c.ro, vP bo 0, yT, vI (st.c.now + 1), vU ((tickP { st.c with now := st.c.now + 1 } st.pl (ms.take 0)).2), vU st.c.rep, vU st.c.port, vU st.c.r0, vW st.c.r1, vB st.c.r2, vU st.c.r3, sv, vP bd 0, vP bg 0, vP bc 0, vP bp 0, vP bx 0, .map (some mp)] 121)] :: LP :: [] :: D2 :: U :: LC2 :: LS :: LG :: LB :: [(mp, ob)] :: LV :: F) := hS
 refine wp_loop_ghost (fun m a w => ∃ (j : Nat) (ps : List Pkt) (A : Option Addr) (c : Nat) (C : Chunk) (D3 : Chunk) (LP3 : Chunk), m = out.length - j ∧ Has a 35 [(0, vP b 0), (3, .slice A ps.length c), (22, .slice Au out.length cu), (23, vI out.length), (24, vI j)] ∧ St w0 w ([(b, rowO [vI st.c.id, vI st.c.ki, vI st.c.no, vI st.c.pc, vI st.c.wa, vI st.c.tr, vI st.c.ag, vI st.c.pg, vI st.c.ro, vP bo 0, yT, vI (st.c.now + 1), vU ((tickP { st.c with now := st.c.now + 1 } st.pl (ms.take j)).2), vU st.c.rep, vU st.c.port, vU st.c.r0, vW st.c.r1, vB st.c.r2, vU st.c.r3, sv, vP bd 0, vP bg 0, vP bc 0, vP bp 0, vP bx 0, .map (some mp)] 121)] :: LP3 :: C :: D3 :: U :: LC2 :: LS :: LG :: LB :: [(mp, ob)] :: LV :: F) ∧ (j ≤ out.length) ∧ (Own 94 6 (.slice A ps.length c) ps.length (rows encPacket ps) C) ∧ (PKS w0 D3 ps (tickP { st.c with now := st.c.now + 1 } st.pl (ms.take j)).1) ∧ (DX w0 D2 D3) ∧ (PMR bp ((st.c.ag : Nat) : Int) st.pl LP3) ∧ (∀ y ∈ out, encMessage_dd w0 D3 y)) (out.length - 0)
  ⟨0, ([]), none, 0, ([]), D2, LP, rfl, (hA.sel [0, 3, 22, 23, 24] rfl), hS, Nat.zero_le _, (Own.nil 94 6), PKS.nil, DX.refl, hn.fpm, hud⟩ ?_
 clear hA hS; rintro m0 a w3 ⟨j, ps, A, c, C, D3, LP3, rfl, hA, hS, hj, hO, hK, hX3, hP3, hud3⟩
 have htb : (tickP { st.c with now := st.c.now + 1 } st.pl (ms.take j)).2 ≤ st.c.sent + 8 * j ∧ (tickP { st.c with now := st.c.now + 1 } st.pl (ms.take j)).1.length ≤ 512 * j := tickP_bnd (s := { st.c with now := st.c.now + 1 }) (pl := st.pl) (ms := ms) hnn hp1 (fun m hm => (hmo m hm).2.2) j; have hpn := hK.len; have hcap := hO.rcap
 refine zs (zr (zR 1 ((25, .bool (decide (((j : Nat) : Int) < ((out.length : Nat) : Int)))) :: _) hA rfl fun a hA => zn (zx (zs ?_))))
 by_cases hc4 : ((j : Nat) : Int) < ((out.length : Nat) : Int)
 · first
   | (exfalso; omega)
   | (replace hA := hA.rw 25 (v' := yT) rfl (vb_true hc4)
      refine cd_cond_t hA rfl (zk (zx (zs (zb (zs (zr ?_))))))
      obtain ⟨x, hx⟩ := get_ex (l := out) (k := j) (by omega)
      obtain ⟨y, hmj, e⟩ := map_at9 hum.symm hx; have e := e.symm; have hdx := hud3 _ (List.mem_of_getElem? hx)
      obtain ⟨x0, x1, x2, x3, x4, x5, x6, x7, x8, x9, xA, xc, xb⟩ := x
      simp only [mst, mdat, MN.t, Prod.mk.injEq] at e
      obtain ⟨e0, e1, e2, e3, e4, e5, e6, e7, e8, e9, e10⟩ := e
      subst e0 e1 e2 e3 e4 e5 e6 e7 e8 e9 e10
      have hmy := hmo y (List.mem_of_getElem? hmj)
      obtain ⟨b5, o6, rfl⟩ := hU.isSome (k := j) (by omega)
      refine st_val hA rfl rfl (by decide) (rn_indexAddr tbOk hA j (o6 + (j * 11)) rfl rfl rfl rfl rfl rfl (by rfl) (by omega) (by first | rfl | simp [Nat.mul_one, Nat.zero_add] | omega)) fun a hA => st_val hA rfl rfl (by decide) (rn_loadA tbOk hA ([vU y.to, vU y.rp, vW y.id, vH y.op, vH y.st, vU y.po, vW y.ob, vB y.ri, vU y.ck, vU y.ar, .slice xA y.da.length xc]) rfl rfl rfl rfl (by rfl) ((hU.rd (hS.own_ 4 rfl)).elem (k := j) encMessage_ok hx)) fun a hA => ?_
      refine st_alloc tbOk hA hS [yU, yU, yW, yH, yH, yU, yW, yB, yU, yU, yS] rfl rfl rfl rfl rfl (by decide) fun b7 w8 a hS hA => ?_
      refine st_store tbOk hA hS [vU y.to, vU y.rp, vW y.id, vH y.op, vH y.st, vU y.po, vW y.ob, vB y.ri, vU y.ck, vU y.ar, .slice xA y.da.length xc] [vU y.to, vU y.rp, vW y.id, vH y.op, vH y.st, vU y.po, vW y.ob, vB y.ri, vU y.ck, vU y.ar, .slice xA y.da.length xc] rfl rfl rfl rfl rfl rfl (zn1 rfl) (zle rfl) rfl rfl rfl fun w9 hS => ?_
      refine zn (zx (zr (zR 2 ((29, vP b 0) :: (28, .slice A ps.length c) :: _) hA rfl fun a hA => zLA hA hS 0 [vU y.to, vU y.rp, vW y.id, vH y.op, vH y.st, vU y.po, vW y.ob, vB y.ri, vU y.ck, vU y.ar, .slice xA y.da.length xc] rfl rfl rfl rfl rfl rfl rfl rfl rfl rfl fun a hA => ?_)))
      replace hS := hS.m4.m3.m3
      refine st_call0 hA rfl rfl rfl isfn56 rfl rfl (by decide) (nreqA (s := { st.c with now := st.c.now + 1, sent := (tickP { st.c with now := st.c.now + 1 } st.pl (ms.take j)).2 }) hS hP3 y hmy.1 (DD.rds (F := D3 :: _) hdx 0 rfl) hmy.2.2 hp1 hp2 (by show (tickP { st.c with now := st.c.now + 1 } st.pl (ms.take j)).2 + st.c.no < _; omega) (by show st.c.now + 1 < _; omega) hpl hag hrep hnn hmy.2.1) ?_
      clear hA hS; rintro _ w10 a ⟨LP4, psq, Aq, cq, Cq, D4, hPq, hOq, hKq, hXq, rfl, hS⟩ hA
      have hlz : psq.length ≤ 512 := by have h := hKq.len; have h2 := reqP_len (s := { st.c with now := st.c.now + 1, sent := (tickP { st.c with now := st.c.now + 1 } st.pl (ms.take j)).2 }) (pl := st.pl) (m := y) hnn hp1 hmy.2.2; omega
      replace hS := hS.m5
      refine st_append tbOk hA (m := ps.length) (q := psq.length) (xs := rows encPacket ps) (news := rows encPacket psq) rfl rfl rfl rfl rfl rfl rfl rfl (by decide) hO hS ((hOq.rd (hS.own_ 3 rfl)).x) (rows_one encPacket_ok _) (maxLen_le (by omega)) (by show (ps.length + psq.length) * 64 ≤ 140737488355328; omega) rfl rfl (by decide) ?_
      clear hA hS; intro v11 w12 C13 a hO13 hS hA
      replace hO13 := Own.app (l := ps) (l2 := psq) hO13
      obtain ⟨A14, c15, rfl, hmc15, hxc15⟩ := hO13.open'
      refine zR 1 ((3, .slice A14 ((ps ++ psq).length) c15) :: _) hA rfl fun a hA => zn (zm (zx (zr (zR 1 ((33, .int .i64 (IntKind.i64.wrap (((j : Nat) : Int) + 1))) :: _) hA rfl fun a hA => ?_))))
      replace hA := hA.rw 33 (v' := vI (j + 1)) rfl (wr64 (by omega) (by omega) (by omega))
      refine zR 1 ((24, vI (j + 1)) :: _) hA rfl fun a hA => zn ?_
      replace hS := hS.m3.d0.m4.d0.m10.m10.m10.m10.m10.m10.m10.m10.m8.m10.m10
      have hst9 := tickP_step (s := { st.c with now := st.c.now + 1 }) (pl := st.pl) hmj
      have hK9 : PKS w0 D4 (ps ++ psq) (tickP { st.c with now := st.c.now + 1 } st.pl (ms.take (j + 1))).1 := by rw [hst9]; exact ⟨by rw [List.map_append, List.map_append, hK.1, hKq.1], fun x hx => (List.mem_append.1 hx).elim (fun hx => hXq.dd (hK.2 x hx)) (fun hx => hKq.2 x hx)⟩
      replace hS : St w0 w12 ([(b, rowO [vI st.c.id, vI st.c.ki, vI st.c.no, vI st.c.pc, vI st.c.wa, vI st.c.tr, vI st.c.ag, vI st.c.pg, vI st.c.ro, vP bo 0, yT, vI (st.c.now + 1), vU ((tickP { st.c with now := st.c.now + 1 } st.pl (ms.take (j + 1))).2), vU st.c.rep, vU st.c.port, vU st.c.r0, vW st.c.r1, vB st.c.r2, vU st.c.r3, sv, vP bd 0, vP bg 0, vP bc 0, vP bp 0, vP bx 0, .map (some mp)] 121)] :: LP4 :: C13 :: D4 :: U :: LC2 :: LS :: LG :: LB :: [(mp, ob)] :: LV :: F) := by rw [hst9]; exact hS
      exact lp_next _ (by omega) ⟨(j + 1), (ps ++ psq), A14, c15, C13, D4, LP4, rfl, (hA.sel [0, 3, 22, 23, 24] rfl), hS, by omega, hO13, hK9, (hX3.trans hXq), hPq, (msg_dx hud3 hXq)⟩)
 · first
   | (exfalso; omega)
   | (replace hA := hA.rw 25 (v' := yF) rfl (vb_false hc4)
      refine cd_cond_f hA rfl ?_
      refine wp_exit ?_
      refine xt_exit (xt_exit (cd_exit_eq (zx (zs (zr (zR 2 ((2, .slice A ps.length c) :: (34, .slice A ps.length c) :: _) hA rfl fun a hA => zn (zx ?_)))))))
      refine wp_ret ?_
      refine ret1 (fn := Tryz.f41) hA rfl rfl ?_
      replace hS := hS.m4.d0.m3.m3.m9.m9.m9.m6.m7.m9.m9.m9
      replace hS : St w0 w3 (((b, rowO [vI st.c.id, vI st.c.ki, vI st.c.no, vI st.c.pc, vI st.c.wa, vI st.c.tr, vI st.c.ag, vI st.c.pg, vI st.c.ro, vP bo 0, yT, vI (st.c.now + 1), vU ((tickP { st.c with now := st.c.now + 1 } st.pl (ms.take j)).2), vU st.c.rep, vU st.c.port, vU st.c.r0, vW st.c.r1, vB st.c.r2, vU st.c.r3, sv, vP bd 0, vP bg 0, vP bc 0, vP bp 0, vP bx 0, .map (some mp)] 121) :: (LS ++ (LG ++ (LC2 ++ (LP3 ++ (LB ++ ((mp, ob) :: LV))))))) :: C :: D3 :: F) := hS.cast (by simp)
      have hj9 : j = out.length := by omega
      have ht9 : ms.take j = ms := List.take_of_length_le (by omega)
      rw [ht9] at hS hK; subst hms
      exact ⟨_, ps, A, c, C, D3, ⟨_, _, _, _, _, _, _, _, _, _, _, _, _, _, _, _, _, _, ⟨hn.fsr, (hn.fgs.dx (hX1.trans hX3)), hcr2, hP3, hn.fbx, hn.fmp, (hn.fsv.dx (hX1.trans hX3)), hn.fel, (ent_dx hn.fed (hX1.trans hX3)), htm, (hX3.calls (tick_dx hX1 hn.fcd)), hn.ful, (msg_dx hn.fud (hX1.trans hX3)), hn.fpl, (msg_dx hn.fpd (hX1.trans hX3))⟩, rfl⟩, hO, hK, hX1.trans hX3, rfl, hS⟩)
end Go.Proofs.YthiakdmhpfkjbaaGreatDoor

set_option linter.unusedVariables false
set_option linter.unusedSimpArgs false
set_option maxRecDepth 4000
namespace Go.Proofs.YthiakdmhpfkjbaaGreatDoor
open Go Go.SK
def gfind (fr to id : Int) : List GV → Option (Nat × GV)
  | [] => none
  | z :: l => if z.1 = fr ∧ z.2.1 = to ∧ z.2.2.1 = id then some (0, z) else (gfind fr to id l).map (fun r => (r.1 + 1, r.2))
theorem gfind_none {fr to id : Int} : ∀ {vs : List GV}, gfind fr to id vs = none → ∀ (i : Nat) (z : GV), vs[i]? = some z → ¬ vkey fr to id z
  | [], _, i, z, h => by cases h
  | y :: l, h, i, z, hz => by
    rw [gfind] at h
    by_cases hy : y.1 = fr ∧ y.2.1 = to ∧ y.2.2.1 = id
    · rw [if_pos hy] at h; cases h
    · rw [if_neg hy] at h
      have h2 : gfind fr to id l = none := by
        cases hq : gfind fr to id l with
        | none => rfl
        | some r => rw [hq] at h; cases h
      cases i with
      | zero => injection hz with hz; subst hz; exact hy
      | succ i => exact gfind_none h2 i z hz
theorem gfind_some {fr to id : Int} : ∀ {vs : List GV} {k : Nat} {z : GV}, gfind fr to id vs = some (k, z) → vs[k]? = some z ∧ vkey fr to id z ∧ ∀ (i : Nat) (y : GV), i < k → vs[i]? = some y → ¬ vkey fr to id y
  | [], k, z, h => by cases h
  | y :: l, k, z, h => by
    rw [gfind] at h
    by_cases hy : y.1 = fr ∧ y.2.1 = to ∧ y.2.2.1 = id
    · rw [if_pos hy] at h; injection h with h; injection h with h1 h2; subst h1; subst h2
      exact ⟨rfl, hy, fun i y hi => absurd hi (Nat.not_lt_zero _)⟩
    · rw [if_neg hy] at h
      cases hq : gfind fr to id l with
      | none => rw [hq] at h; cases h
      | some r =>
        rw [hq] at h; obtain ⟨k2, z2⟩ := r; injection h with h; injection h with h1 h2; subst h1; subst h2
        obtain ⟨a, b, c⟩ := gfind_some hq
        refine ⟨a, b, fun i x hi hx => ?_⟩
        cases i with
        | zero => injection hx with hx; subst hx; exact hy
        | succ i => exact c i x (by omega) hx
def forceS {α β : Type} : List α → (List α → β) → β
  | [], k => k []
  | a :: l, k => forceS l (fun l' => k (a :: l'))
theorem forceS_eq {α β : Type} : ∀ (l : List α) (k : List α → β), forceS l k = k l
  | [], k => rfl
  | a :: l, k => by rw [forceS, forceS_eq]
def gaddM (vs : List GV) (p : PN) : Option (List GV × Option (List UInt8)) :=
  if p.ix < p.cn ∧ p.cn ≤ 256 ∧ p.da.length ≤ 32768 then
    match gfind ((p.fr : Nat) : Int) ((p.to : Nat) : Int) ((p.id : Nat) : Int) vs with
    | some (k, z) =>
      if z.2.2.2.1.length = p.cn then
        (match z.2.2.2.1[p.ix]? with
        | some true => some (vs, none)
        | some false => forceS (z.2.2.2.1.set p.ix true) fun hs => forceS (z.2.2.2.2.set p.ix p.da) fun ds => if hs.any (fun y => y == false) = true then some (vs.set k (((p.fr : Nat) : Int), ((p.to : Nat) : Int), ((p.id : Nat) : Int), hs, ds), none) else some (vs.take k ++ vs.drop (k + 1), some ds.flatten)
        | none => none)
      else none
    | none =>
      if vs.length < 16 then
        if ((List.replicate p.cn false).set p.ix true).any (fun y => y == false) = true then some (vs ++ [(((p.fr : Nat) : Int), ((p.to : Nat) : Int), ((p.id : Nat) : Int), (List.replicate p.cn false).set p.ix true, (List.replicate p.cn []).set p.ix p.da)], none) else none
      else none
  else none
def pval (p : PN) (d : Value) : Value := .agg #[vI p.fr, vI p.to, vU p.id, vI p.ix, vI p.cn, d]
def GRet (w0 : World) (F : List Chunk) (b : Nat) (vs' : List GV) (D : Chunk) (r : Option (List UInt8)) (v : Value) (w' : World) : Prop := match r with
  | none => ∃ L' D', GS w0 b vs' L' D' ∧ DX w0 D D' ∧ v = .tuple #[yS, yF] ∧ St w0 w' (L' :: D' :: F)
  | some bs => ∃ L' D' C A c, GS w0 b vs' L' D' ∧ DX w0 D D' ∧ Own 5 1 (.slice A bs.length c) bs.length (rows encB bs) C ∧ v = .tuple #[.slice A bs.length c, yT] ∧ St w0 w' (L' :: D' :: C :: F)
theorem gaddA {w0 w : World} {F : List Chunk} {L D : Chunk} {b : Nat} {vs vs' : List GV} {r : Option (List UInt8)} (hS : St w0 w (L :: D :: F)) (hM : GS w0 b vs L D) (p : PN) {d : Value} (hd : RdSX w0 (D :: F) 1 d p.da.length (rows encB p.da)) (h : gaddM vs p = some (vs', r)) :
    Ret Tryz.prog 60 #[vP b 0, pval p d] w (GRet w0 F b vs' D r) := by
  rw [gaddM] at h
  by_cases h0 : p.ix < p.cn ∧ p.cn ≤ 256 ∧ p.da.length ≤ 32768
  · rw [if_pos h0] at h
    obtain ⟨h1, h2, h3⟩ := h0
    cases hf : gfind ((p.fr : Nat) : Int) ((p.to : Nat) : Int) ((p.id : Nat) : Int) vs with
    | some kz =>
      obtain ⟨k, z⟩ := kz
      obtain ⟨hz, hk, hb⟩ := gfind_some hf
      obtain ⟨z1, z2, z3, has, dat⟩ := z
      obtain ⟨k1, k2, k3⟩ := hk
      dsimp only at k1 k2 k3
      subst k1; subst k2; subst k3
      rw [hf] at h
      dsimp only at h
      by_cases hl : has.length = p.cn
      · rw [if_pos hl] at h
        cases hi : has[p.ix]? with
        | none => rw [hi] at h; cases h
        | some t =>
          rw [hi] at h
          cases t with
          | true =>
            injection h with h; injection h with e1 e2; subst e1; subst e2
            refine Calls.mono (add_hit_rejT60 hS hM _ _ _ p.ix p.cn hd h1 h2 h3 hz hb hl hi) ?_
            rintro e w' ⟨v, he, L', g1, g2, g3⟩
            exact ⟨v, he, L', D, g1, DX.refl, g2, g3⟩
          | false =>
            dsimp only at h
            rw [forceS_eq, forceS_eq] at h
            by_cases ha : (has.set p.ix true).any (fun y => y == false) = true
            · rw [if_pos ha] at h
              injection h with h; injection h with e1 e2; subst e1; subst e2
              refine Calls.mono (add_hit_put60 hS hM _ _ _ p.ix p.cn hd h1 h2 h3 hz hb hl hi ha) ?_
              rintro e w' ⟨v, he, L', E, g1, g2, g3⟩
              exact ⟨v, he, L', E ++ D, g1, DX.refl.step, g2, g3⟩
            · rw [if_neg ha] at h
              injection h with h; injection h with e1 e2; subst e1; subst e2
              refine Calls.mono (add_hit_full60 hS hM _ _ _ p.ix p.cn hd h1 h2 h3 hz hb hl hi (by simpa using ha)) ?_
              rintro e w' ⟨v, he, L', E, C, v1, g1, g2, g3, g4⟩
              obtain ⟨A, c, rfl, _, _⟩ := g2.open'
              exact ⟨v, he, L', E ++ D, C, A, c, g1, DX.refl.step, g2, g3, g4⟩
      · rw [if_neg hl] at h; cases h
    | none =>
      have hno := gfind_none hf
      rw [hf] at h
      dsimp only at h
      by_cases hl : vs.length < 16
      · rw [if_pos hl] at h
        by_cases ha : ((List.replicate p.cn false).set p.ix true).any (fun y => y == false) = true
        · rw [if_pos ha] at h
          injection h with h; injection h with e1 e2; subst e1; subst e2
          refine Calls.mono (add_new_put60 hS hM _ _ _ p.ix p.cn hd h1 h2 h3 hno hl ha) ?_
          rintro e w' ⟨v, he, L', E, g1, g2, g3⟩
          exact ⟨v, he, L', E ++ D, g1, DX.refl.step, g2, g3⟩
        · rw [if_neg ha] at h; cases h
      · rw [if_neg hl] at h; cases h
  · rw [if_neg h0] at h; cases h
def hereM (q : Nat) : MN := ⟨0, 0, 0, 2, 0, 0, 0, 0, 0, q, []⟩
theorem hereM_ok {q : Nat} (h : q < 18446744073709551616) : (hereM q).ok := by
  show (0 : Nat) < 281474976710656 ∧ (0 : Nat) < 281474976710656 ∧ (0 : Nat) < 4294967296 ∧ (2 : Nat) < 65536 ∧ (0 : Nat) < 65536 ∧ (0 : Nat) < 281474976710656 ∧ (0 : Nat) < 16777216 ∧ (0 : Nat) < 256 ∧ (0 : Nat) < 281474976710656 ∧ q < 18446744073709551616 ∧ (0 : Nat) ≤ 4096
  omega
theorem nP_here {q s : Nat} (hs : 1 ≤ s) : nP (encM (hereM q)) s ≤ 256 := by
  have := nP_le (l := encM (hereM q)) hs
  rw [encM_length] at this
  simp only [hereM, List.length_nil] at this ⊢
  omega
def sdput (k v : Nat) : List (Nat × Nat) → List (Nat × Nat)
  | [] => [(k, v)]
  | x :: l => if x.1 = k then (k, v) :: l else x :: sdput k v l
theorem sdv_no {sd : List (Nat × Nat)} {k : Nat} (h : ∀ x ∈ sd, ¬ x.1 = k) : ∀ p ∈ sdv sd, ¬ p.1 = ((k : Nat) : Int) := fun p hp => by
  obtain ⟨x, hx, rfl⟩ := List.mem_map.1 hp
  have := h x hx
  show ¬ ((x.1 : Nat) : Int) = _
  omega
theorem sdv_at {sd : List (Nat × Nat)} {j k z : Nat} (h : sd[j]? = some (k, z)) : (sdv sd)[j]? = some (((k : Nat) : Int), Value.int .i64 ((z : Nat) : Int)) := by rw [sdv, List.getElem?_map, h]; rfl
theorem sdv_bef {sd : List (Nat × Nat)} {j k : Nat} (h : ∀ (q : Nat) (y : Nat × Nat), q < j → sd[q]? = some y → ¬ y.1 = k) : ∀ (q : Nat) (p : Int × Value), q < j → (sdv sd)[q]? = some p → ¬ p.1 = ((k : Nat) : Int) := fun q p hq hp => by
  rw [sdv, List.getElem?_map] at hp
  cases hx : sd[q]? with
  | none => rw [hx] at hp; cases hp
  | some x =>
    rw [hx] at hp; injection hp with hp; subst hp
    have := h q x hq hx
    show ¬ ((x.1 : Nat) : Int) = _
    omega
theorem sdv_app {sd : List (Nat × Nat)} {k z : Nat} {ob : Obj} (h : MapO .u64 (sdv sd ++ [(((k : Nat) : Int), Value.int .i64 ((z : Nat) : Int))]) ob) : MapO .u64 (sdv (sd ++ [(k, z)])) ob := by rw [sdv, List.map_append]; exact h
theorem sdv_set {sd : List (Nat × Nat)} {j k z : Nat} {ob : Obj} (h : MapO .u64 ((sdv sd).set j (((k : Nat) : Int), Value.int .i64 ((z : Nat) : Int))) ob) : MapO .u64 (sdv (sd.set j (k, z))) ob := by rw [sdv, List.map_set]; exact h
set_option maxHeartbeats 8000000 in
theorem narr_no38 {w0 w : World} {F : List Chunk} {b bo : Nat} {st : NS} {sr : Srv} {L D : Chunk} {vs' : List GV} (hS : St w0 w (L :: D :: F)) (hN : NUP w0 b bo st sr L D) (p : PN) (hpt : p.to = st.c.id) {d : Value} (hd : RdSX w0 (D :: F) 1 d p.da.length (rows encB p.da)) (hga : gaddM st.gs p = some (vs', none))  :
 Ret Tryz.prog 38 #[vP b 0, .agg #[vI p.fr, vI p.to, vU p.id, vI p.ix, vI p.cn, d]] w (fun v w' => ∃ L' D', NUP w0 b bo { st with gs := vs' } sr L' D' ∧ DX w0 D D' ∧ v = yS ∧ St w0 w' (L' :: D' :: F)) := by
 obtain ⟨B, d', rfl, hmd, hdx⟩ := (hd _ (hS.tail 1 rfl)).open'
 obtain ⟨sv, bd, bg, bc, bp, bx, mp, ob, el, cl, ul, pl2, LS, LG, LC, LP, LB, LV, hn, rfl⟩ := hN
 replace hS : St w0 w ([(b, rowO [vI st.c.id, vI st.c.ki, vI st.c.no, vI st.c.pc, vI st.c.wa, vI st.c.tr, vI st.c.ag, vI st.c.pg, vI st.c.ro, vP bo 0, yT, vI st.c.now, vU st.c.sent, vU st.c.rep, vU st.c.port, vU st.c.r0, vW st.c.r1, vB st.c.r2, vU st.c.r3, sv, vP bd 0, vP bg 0, vP bc 0, vP bp 0, vP bx 0, .map (some mp)] 121)] :: LS :: LG :: LC :: LP :: LB :: [(mp, ob)] :: LV :: D :: F) := hS.cast (by simp)
 refine enter (vs := [vP b 0, .agg #[vI p.fr, vI p.to, vU p.id, vI p.ix, vI p.cn, .slice B p.da.length d']]) 144 Tryz.func38 rfl rfl (by simp) ?_; intro a hA
 refine zs (zr ?_)
 refine st_box hA hS [vI p.fr, vI p.to, vU p.id, vI p.ix, vI p.cn, .slice B p.da.length d'] rfl rfl rfl rfl rfl (by decide) fun b1 w2 a hS hA => ?_
 refine zR 1 ((4, yS) :: _) hA rfl fun a hA => zn (zx (zs (zs ?_)))
 refine zD0 hS [] [(0, true), (1, true), (2, true), (3, true), (4, true), (5, true), (6, true), (7, true), (8, true), (9, true), (10, true), (11, true), (12, true), (13, true)] mixed (by kernel_rfl) (by rintro c a w ⟨_, _, h, _⟩; cases h) (by rfl) (by kernel_rfl) ?_
 replace hS := hS.drew
 refine zW 3 ((11, vP b 10) :: (10, vP b 0) :: (9, vP b 0) :: _) hA hS rfl fun a hA => zY hA hS 1 rfl rfl rfl rfl rfl rfl rfl rfl rfl rfl fun a hA => zW 3 ((15, vP b1 1) :: (14, yF) :: (13, yF) :: _) hA hS rfl fun a hA => zY hA hS 0 rfl rfl rfl rfl rfl rfl rfl rfl rfl rfl fun a hA => zW 3 ((19, vP b 0) :: (18, vP b 0) :: (17, vP b 0) :: _) hA hS rfl fun a hA => zY hA hS 1 rfl rfl rfl rfl rfl rfl rfl rfl rfl rfl fun a hA => zW 2 ((22, .bool (((p.to : Nat) : Int) != ((st.c.id : Nat) : Int))) :: (21, .bool (((p.to : Nat) : Int) != ((st.c.id : Nat) : Int))) :: _) hA hS rfl fun a hA => ze (zx ?_)
 have hc3 : ((p.to : Nat) : Int) = ((st.c.id : Nat) : Int) := by omega
 replace hA := hA.rw 22 (v' := yF) rfl (vb_ne_f hc3)
 refine cd_cond_f hA rfl (zk (zx (zs ?_)))
 replace hS := hS.m9.m4
 refine zD2 hS [] [(0, true), (1, true), (2, true), (3, true), (4, true), (5, false), (6, true), (7, true), (8, true), (9, true), (10, true)] mixed (by kernel_rfl) (by rintro c a w ⟨_, _, h, _⟩; cases h) (by rfl) (by kernel_rfl) ?_
 replace hS := hS.drew
 refine zW 3 ((26, vP b 21) :: (25, vP b 0) :: (24, vP b 0) :: _) hA (hS.tail 2 rfl) rfl fun a hA => zY hA (hS.tail 2 rfl) 1 rfl rfl rfl rfl rfl rfl rfl rfl rfl rfl fun a hA => zYA hA (hS.tail 2 rfl) 0 [vI p.fr, vI p.to, vU p.id, vI p.ix, vI p.cn, .slice B p.da.length d'] rfl rfl rfl rfl rfl rfl rfl rfl rfl rfl rfl fun a hA => dr_b (o := _) rfl ?_
 replace hS := hS.m1.m1
 refine st_call0 hA rfl rfl rfl isfn60 rfl rfl (by decide) (gaddA hS hn.fgs p (fun w' h => hd _ (St.dmid (R := [[(b1, rowO [vI p.fr, vI p.to, vU p.id, vI p.ix, vI p.cn, .slice B p.da.length d'] 94)], [(b, rowO [vI st.c.id, vI st.c.ki, vI st.c.no, vI st.c.pc, vI st.c.wa, vI st.c.tr, vI st.c.ag, vI st.c.pg, vI st.c.ro, vP bo 0, yT, vI st.c.now, vU st.c.sent, vU st.c.rep, vU st.c.port, vU st.c.r0, vW st.c.r1, vB st.c.r2, vU st.c.r3, sv, vP bd 0, vP bg 0, vP bc 0, vP bp 0, vP bx 0, .map (some mp)] 121)], LS, LC, LP, LB, [(mp, ob)], LV]) h)) hga) ?_
 clear hA hS; rintro _ w4 a ⟨LG2, D2, hg2, hXg, rfl, hS⟩ hA
 have hX5 : DX w0 D D2 := hXg
 refine zi (hS.tail 2 rfl) (zW 5 ((6, yF) :: (5, yS) :: (31, yF) :: (30, yS) :: (23, .tuple #[yS, yF]) :: _) hA (hS.tail 2 rfl) rfl fun a hA => ze (zx (zs (zs (zr (zR 2 ((33, yT) :: (32, yF) :: _) hA rfl fun a hA => zn (zx (cd_cond_t hA rfl (zs (zr (zR 1 ((4, yS) :: _) hA rfl fun a hA => zn (zx ?_))))))))))))
 refine wp_ret (xt_ret ?_)
 refine ret1 (fn := Tryz.f38) hA rfl rfl ?_
 replace hS := hS.m2.d0.m1.m8.m8.m8.m8.m8.m6.m8.m8
 replace hS : St w0 w4 (((b, rowO [vI st.c.id, vI st.c.ki, vI st.c.no, vI st.c.pc, vI st.c.wa, vI st.c.tr, vI st.c.ag, vI st.c.pg, vI st.c.ro, vP bo 0, yT, vI st.c.now, vU st.c.sent, vU st.c.rep, vU st.c.port, vU st.c.r0, vW st.c.r1, vB st.c.r2, vU st.c.r3, sv, vP bd 0, vP bg 0, vP bc 0, vP bp 0, vP bx 0, .map (some mp)] 121) :: (LS ++ (LG2 ++ (LC ++ (LP ++ (LB ++ ((mp, ob) :: LV))))))) :: D2 :: F) := hS.cast (by simp)
 exact ⟨_, D2, ⟨_, _, _, _, _, _, _, _, _, _, _, _, _, _, _, _, _, _, ⟨hn.fsr, hg2, hn.fcr, hn.fpm, hn.fbx, hn.fmp, (hn.fsv.dx hX5), hn.fel, (ent_dx hn.fed hX5), hn.fcl, (hX5.calls hn.fcd), hn.ful, (msg_dx hn.fud hX5), hn.fpl, (msg_dx hn.fpd hX5)⟩, rfl⟩, hX5, rfl, hS⟩
set_option maxHeartbeats 8000000 in
theorem narr_locno38 {w0 w : World} {F : List Chunk} {b bo : Nat} {st : NS} {sr : Srv} {L D : Chunk} {vs' : List GV} {bs : List UInt8} (hS : St w0 w (L :: D :: F)) (hN : NUP w0 b bo st sr L D) (p : PN) (hpt : p.to = st.c.id) {d : Value} (hd : RdSX w0 (D :: F) 1 d p.da.length (rows encB p.da)) (hga : gaddM st.gs p = some (vs', some bs)) (m : MN) (hm : m.ok) (hbs : bs = encM m) (h1 : m.to = 0) (h2 : m.op = 1) (h3 : st.c.port = 0 ∨ ¬ m.ar = st.c.port) :
 Ret Tryz.prog 38 #[vP b 0, .agg #[vI p.fr, vI p.to, vU p.id, vI p.ix, vI p.cn, d]] w (fun v w' => ∃ L' D', NUP w0 b bo { st with gs := vs' } sr L' D' ∧ DX w0 D D' ∧ v = yS ∧ St w0 w' (L' :: D' :: F)) := by
 obtain ⟨B, d', rfl, hmd, hdx⟩ := (hd _ (hS.tail 1 rfl)).open'
 have hm0 := hm
 obtain ⟨hk1, hk2, hk3, hk4, hk5, hk6, hk7, hk8, hk9, hk10, hk11⟩ := hm
 obtain ⟨sv, bd, bg, bc, bp, bx, mp, ob, el, cl, ul, pl2, LS, LG, LC, LP, LB, LV, hn, rfl⟩ := hN
 replace hS : St w0 w ([(b, rowO [vI st.c.id, vI st.c.ki, vI st.c.no, vI st.c.pc, vI st.c.wa, vI st.c.tr, vI st.c.ag, vI st.c.pg, vI st.c.ro, vP bo 0, yT, vI st.c.now, vU st.c.sent, vU st.c.rep, vU st.c.port, vU st.c.r0, vW st.c.r1, vB st.c.r2, vU st.c.r3, sv, vP bd 0, vP bg 0, vP bc 0, vP bp 0, vP bx 0, .map (some mp)] 121)] :: LS :: LG :: LC :: LP :: LB :: [(mp, ob)] :: LV :: D :: F) := hS.cast (by simp)
 refine enter (vs := [vP b 0, .agg #[vI p.fr, vI p.to, vU p.id, vI p.ix, vI p.cn, .slice B p.da.length d']]) 144 Tryz.func38 rfl rfl (by simp) ?_; intro a hA
 refine zs (zr ?_)
 refine st_box hA hS [vI p.fr, vI p.to, vU p.id, vI p.ix, vI p.cn, .slice B p.da.length d'] rfl rfl rfl rfl rfl (by decide) fun b1 w2 a hS hA => ?_
 refine zR 1 ((4, yS) :: _) hA rfl fun a hA => zn (zx (zs (zs ?_)))
 refine zD0 hS [] [(0, true), (1, true), (2, true), (3, true), (4, true), (5, true), (6, true), (7, true), (8, true), (9, true), (10, true), (11, true), (12, true), (13, true)] mixed (by kernel_rfl) (by rintro c a w ⟨_, _, h, _⟩; cases h) (by rfl) (by kernel_rfl) ?_
 replace hS := hS.drew
 refine zW 3 ((11, vP b 10) :: (10, vP b 0) :: (9, vP b 0) :: _) hA hS rfl fun a hA => zY hA hS 1 rfl rfl rfl rfl rfl rfl rfl rfl rfl rfl fun a hA => zW 3 ((15, vP b1 1) :: (14, yF) :: (13, yF) :: _) hA hS rfl fun a hA => zY hA hS 0 rfl rfl rfl rfl rfl rfl rfl rfl rfl rfl fun a hA => zW 3 ((19, vP b 0) :: (18, vP b 0) :: (17, vP b 0) :: _) hA hS rfl fun a hA => zY hA hS 1 rfl rfl rfl rfl rfl rfl rfl rfl rfl rfl fun a hA => zW 2 ((22, .bool (((p.to : Nat) : Int) != ((st.c.id : Nat) : Int))) :: (21, .bool (((p.to : Nat) : Int) != ((st.c.id : Nat) : Int))) :: _) hA hS rfl fun a hA => ze (zx ?_)
 have hc3 : ((p.to : Nat) : Int) = ((st.c.id : Nat) : Int) := by omega
 replace hA := hA.rw 22 (v' := yF) rfl (vb_ne_f hc3)
 refine cd_cond_f hA rfl (zk (zx (zs ?_)))
 replace hS := hS.m9.m4
 refine zD2 hS [] [(0, true), (1, true), (2, true), (3, true), (4, true), (5, false), (6, true), (7, true), (8, true), (9, true), (10, true)] mixed (by kernel_rfl) (by rintro c a w ⟨_, _, h, _⟩; cases h) (by rfl) (by kernel_rfl) ?_
 replace hS := hS.drew
 refine zW 3 ((26, vP b 21) :: (25, vP b 0) :: (24, vP b 0) :: _) hA (hS.tail 2 rfl) rfl fun a hA => zY hA (hS.tail 2 rfl) 1 rfl rfl rfl rfl rfl rfl rfl rfl rfl rfl fun a hA => zYA hA (hS.tail 2 rfl) 0 [vI p.fr, vI p.to, vU p.id, vI p.ix, vI p.cn, .slice B p.da.length d'] rfl rfl rfl rfl rfl rfl rfl rfl rfl rfl rfl fun a hA => dr_b (o := _) rfl ?_
 replace hS := hS.m1.m1
 refine st_call0 hA rfl rfl rfl isfn60 rfl rfl (by decide) (gaddA hS hn.fgs p (fun w' h => hd _ (St.dmid (R := [[(b1, rowO [vI p.fr, vI p.to, vU p.id, vI p.ix, vI p.cn, .slice B p.da.length d'] 94)], [(b, rowO [vI st.c.id, vI st.c.ki, vI st.c.no, vI st.c.pc, vI st.c.wa, vI st.c.tr, vI st.c.ag, vI st.c.pg, vI st.c.ro, vP bo 0, yT, vI st.c.now, vU st.c.sent, vU st.c.rep, vU st.c.port, vU st.c.r0, vW st.c.r1, vB st.c.r2, vU st.c.r3, sv, vP bd 0, vP bg 0, vP bc 0, vP bp 0, vP bx 0, .map (some mp)] 121)], LS, LC, LP, LB, [(mp, ob)], LV]) h)) hga) ?_
 clear hA hS; rintro _ w4 a ⟨LG2, D2, Cb, Ab, cb, hg2, hXg, hOb, rfl, hS⟩ hA; have hcb := hOb.rcap
 have hX5 : DX w0 D D2 := hXg
 refine zi (hS.tail 3 rfl) (zW 5 ((6, yT) :: (5, .slice Ab bs.length cb) :: (31, yT) :: (30, .slice Ab bs.length cb) :: (23, .tuple #[.slice Ab bs.length cb, yT]) :: _) hA (hS.tail 3 rfl) rfl fun a hA => ze (zx (zs (zs (zr (zR 2 ((33, yF) :: (32, yT) :: _) hA rfl fun a hA => zn (zx (cd_cond_f hA rfl (zk (zx (zs (zr (zR 1 ((35, .slice Ab bs.length cb) :: _) hA rfl fun a hA => ?_)))))))))))))
 refine st_call0 hA rfl rfl rfl isfn61 rfl rfl (by decide) (hdec61 hS (b := bs) (RdS.own hOb 2 rfl) m hm0 hbs) ?_
 clear hA hS; rintro _ w9 a ⟨A6, c7, C8, hO8, rfl, hS⟩ hA
 obtain ⟨_, _, _, hmc7, hxc7⟩ := hO8.open'
 refine zR 3 ((38, yN) :: (37, .agg #[vU m.to, vU m.rp, vW m.id, vH m.op, vH m.st, vU m.po, vW m.ob, vB m.ri, vU m.ck, vU m.ar, .slice A6 m.da.length c7]) :: (34, .tuple #[.agg #[vU m.to, vU m.rp, vW m.id, vH m.op, vH m.st, vU m.po, vW m.ob, vB m.ri, vU m.ck, vU m.ar, .slice A6 m.da.length c7], yN]) :: _) hA rfl fun a hA => ?_
 refine st_alloc tbOk hA hS [yU, yU, yW, yH, yH, yU, yW, yB, yU, yU, yS] rfl rfl rfl rfl rfl (by decide) fun b10 w11 a hS hA => ?_
 refine st_store tbOk hA hS [vU m.to, vU m.rp, vW m.id, vH m.op, vH m.st, vU m.po, vW m.ob, vB m.ri, vU m.ck, vU m.ar, .slice A6 m.da.length c7] [vU m.to, vU m.rp, vW m.id, vH m.op, vH m.st, vU m.po, vW m.ob, vB m.ri, vU m.ck, vU m.ar, .slice A6 m.da.length c7] rfl rfl rfl rfl rfl rfl (zn1 rfl) (zle rfl) rfl rfl rfl fun w12 hS => ?_
 refine zR 1 ((8, yN) :: _) hA rfl fun a hA => zn (zx (zs (zs (zr (zR 2 ((40, yF) :: (39, yN) :: _) hA rfl fun a hA => zn (zx (cd_cond_f hA rfl (zk (zx (zs (zb (zs (zr (zR 1 ((42, vP b10 0) :: _) hA rfl fun a hA => zL hA hS 0 rfl rfl rfl rfl rfl rfl rfl rfl rfl fun a hA => zR 2 ((45, .bool (((m.to : Nat) : Int) == 0)) :: (44, .bool (((m.to : Nat) : Int) == 0)) :: _) hA rfl fun a hA => ?_))))))))))))))
 have hc13 : ((m.to : Nat) : Int) = 0 := by omega
 replace hA := hA.rw 44 (v' := yT) rfl (vb_eq_t hc13)
 replace hA := hA.rw 45 (v' := yT) rfl (vb_eq_t hc13)
 refine zR 1 ((46, vP b10 3) :: _) hA rfl fun a hA => zL hA hS 0 rfl rfl rfl rfl rfl rfl rfl rfl rfl fun a hA => zR 3 ((41, .bool (((m.op : Nat) : Int) == 1)) :: (49, .bool (((m.op : Nat) : Int) == 1)) :: (48, .bool (((m.op : Nat) : Int) == 1)) :: _) hA rfl fun a hA => zn (zx ?_)
 have hc14 : ((m.op : Nat) : Int) = 1 := by omega
 replace hA := hA.rw 41 (v' := yT) rfl (vb_eq_t hc14)
 refine cd_cond_t hA rfl (zs (zs ?_))
 refine zD0 hS [] [(0, true), (1, true), (2, true), (3, true), (4, true), (5, true), (6, true), (7, true), (8, true), (9, true), (10, true), (11, true), (12, true), (13, true)] mixed (by kernel_rfl) (by rintro c a w ⟨_, _, h, _⟩; cases h) (by rfl) (by kernel_rfl) ?_
 replace hS := hS.drew
 refine zW 3 ((52, vP b 14) :: (51, vP b 0) :: (50, vP b 0) :: _) hA hS rfl fun a hA => zY hA hS 6 rfl rfl rfl rfl rfl rfl rfl rfl rfl rfl fun a hA => zW 2 ((55, .bool (((st.c.port : Nat) : Int) == 0)) :: (54, .bool (((st.c.port : Nat) : Int) == 0)) :: _) hA hS rfl fun a hA => ?_
 by_cases hc15 : ((st.c.port : Nat) : Int) = 0
 · first
   | (exfalso; omega)
   | (replace hA := hA.rw 54 (v' := yT) rfl (vb_eq_t hc15)
      replace hA := hA.rw 55 (v' := yT) rfl (vb_eq_t hc15)
      refine zW 8 ((63, yT) :: (62, undef) :: (61, undef) :: (60, undef) :: (59, undef) :: (58, undef) :: (57, undef) :: (56, undef) :: _) hA hS rfl fun a hA => ze (zx (cd_cond_t hA rfl (zs (zr (zR 1 ((4, yS) :: _) hA rfl fun a hA => zn (zx ?_))))))
      refine wp_ret (xt_ret (xb_ret (xt_ret ?_)))
      refine ret1 (fn := Tryz.f38) hA rfl rfl ?_
      replace hS := hS.d0.d0.m2.d0.m2.d0.m1.m8.m8.m8.m8.m8.m6.m8.m8
      replace hS : St w0 w12.drew (((b, rowO [vI st.c.id, vI st.c.ki, vI st.c.no, vI st.c.pc, vI st.c.wa, vI st.c.tr, vI st.c.ag, vI st.c.pg, vI st.c.ro, vP bo 0, yT, vI st.c.now, vU st.c.sent, vU st.c.rep, vU st.c.port, vU st.c.r0, vW st.c.r1, vB st.c.r2, vU st.c.r3, sv, vP bd 0, vP bg 0, vP bc 0, vP bp 0, vP bx 0, .map (some mp)] 121) :: (LS ++ (LG2 ++ (LC ++ (LP ++ (LB ++ ((mp, ob) :: LV))))))) :: D2 :: F) := hS.cast (by simp)
      exact ⟨_, D2, ⟨_, _, _, _, _, _, _, _, _, _, _, _, _, _, _, _, _, _, ⟨hn.fsr, hg2, hn.fcr, hn.fpm, hn.fbx, hn.fmp, (hn.fsv.dx hX5), hn.fel, (ent_dx hn.fed hX5), hn.fcl, (hX5.calls hn.fcd), hn.ful, (msg_dx hn.fud hX5), hn.fpl, (msg_dx hn.fpd hX5)⟩, rfl⟩, hX5, rfl, hS⟩)
 · first
   | (exfalso; omega)
   | (replace hA := hA.rw 54 (v' := yF) rfl (vb_eq_f hc15)
      replace hA := hA.rw 55 (v' := yF) rfl (vb_eq_f hc15)
      refine zW 1 ((56, vP b10 9) :: _) hA hS rfl fun a hA => zY hA hS 0 rfl rfl rfl rfl rfl rfl rfl rfl rfl rfl fun a hA => zW 3 ((60, vP b 14) :: (59, vP b 0) :: (58, vP b 0) :: _) hA hS rfl fun a hA => zY hA hS 6 rfl rfl rfl rfl rfl rfl rfl rfl rfl rfl fun a hA => zW 2 ((63, .bool (((m.ar : Nat) : Int) != ((st.c.port : Nat) : Int))) :: (62, .bool (((m.ar : Nat) : Int) != ((st.c.port : Nat) : Int))) :: _) hA hS rfl fun a hA => ze (zx ?_)
      by_cases hc16 : ((m.ar : Nat) : Int) = ((st.c.port : Nat) : Int)
      · first
        | (exfalso; omega)
        | (replace hA := hA.rw 63 (v' := yF) rfl (vb_ne_f hc16)
           refine cd_cond_f hA rfl (zk (zx (zs (zr (zR 2 ((65, vP b10 9) :: (64, vP b 0) :: _) hA rfl fun a hA => zL hA hS 0 rfl rfl rfl rfl rfl rfl rfl rfl rfl fun a hA => st_val hA rfl rfl (by decide) (rn_build tbOk hA rfl rfl rfl rfl rfl rfl rfl) fun a hA => zR 1 ((68, vP b1 0) :: _) hA rfl fun a hA => zL hA hS 5 rfl rfl rfl rfl rfl rfl rfl rfl rfl fun a hA => ?_)))))
           replace hS := hS.m3.m6
           refine st_call0 hA rfl rfl rfl isfn62 rfl rfl (by decide) (npackets62 (s := st.c) hS (hereM m.ar) (hereM_ok hk10) p.fr (d := yS) RdSX.nil (by omega) hp1 hp2 (nP_here hp1)) ?_
           clear hA hS; rintro _ w17 a ⟨psq, Aq, cq, Cq, Eq, hOq, hKq, rfl, hS⟩ hA
           have hX18 : DX w0 D2 (Eq ++ D2) := DX.refl.step
           refine zR 1 ((4, .slice Aq psq.length cq) :: _) hA rfl fun a hA => zn (zx ?_)
           refine wp_ret (xb_ret (xt_ret ?_))
           refine ret1 (fn := Tryz.f38) hA rfl rfl ?_
           replace hS := hS.m1.d0.m2.d0.m2.d0.m3.d0.m3.d0.m1.m8.m8.m8.m8.m8.m7.m8.m8
           replace hS : St w0 w17 (((b, rowO [vI st.c.id, vI st.c.ki, vI st.c.no, vI st.c.pc, vI st.c.wa, vI st.c.tr, vI st.c.ag, vI st.c.pg, vI st.c.ro, vP bo 0, yT, vI st.c.now, vU (st.c.sent + 1), vU st.c.rep, vU st.c.port, vU st.c.r0, vW st.c.r1, vB st.c.r2, vU st.c.r3, sv, vP bd 0, vP bg 0, vP bc 0, vP bp 0, vP bx 0, .map (some mp)] 121) :: (LS ++ (LG2 ++ (LC ++ (LP ++ (LB ++ ((mp, ob) :: LV))))))) :: (Eq ++ D2) :: F) := hS.cast (by simp)
           exact ⟨_, (Eq ++ D2), ⟨_, _, _, _, _, _, _, _, _, _, _, _, _, _, _, _, _, _, ⟨hn.fsr, (hg2.dx hX18), hn.fcr, hn.fpm, hn.fbx, hn.fmp, (hn.fsv.dx (hX5.trans hX18)), hn.fel, (ent_dx hn.fed (hX5.trans hX18)), hn.fcl, ((hX5.trans hX18).calls hn.fcd), hn.ful, (msg_dx hn.fud (hX5.trans hX18)), hn.fpl, (msg_dx hn.fpd (hX5.trans hX18))⟩, rfl⟩, (hX5.trans hX18), rfl, hS⟩)
      · first
        | (exfalso; omega)
        | (replace hA := hA.rw 63 (v' := yT) rfl (vb_ne_t hc16)
           refine cd_cond_t hA rfl (zs (zr (zR 1 ((4, yS) :: _) hA rfl fun a hA => zn (zx ?_))))
           refine wp_ret (xt_ret (xb_ret (xt_ret ?_)))
           refine ret1 (fn := Tryz.f38) hA rfl rfl ?_
           replace hS := hS.d0.d0.m2.d0.m2.d0.m1.m8.m8.m8.m8.m8.m6.m8.m8
           replace hS : St w0 w12.drew (((b, rowO [vI st.c.id, vI st.c.ki, vI st.c.no, vI st.c.pc, vI st.c.wa, vI st.c.tr, vI st.c.ag, vI st.c.pg, vI st.c.ro, vP bo 0, yT, vI st.c.now, vU st.c.sent, vU st.c.rep, vU st.c.port, vU st.c.r0, vW st.c.r1, vB st.c.r2, vU st.c.r3, sv, vP bd 0, vP bg 0, vP bc 0, vP bp 0, vP bx 0, .map (some mp)] 121) :: (LS ++ (LG2 ++ (LC ++ (LP ++ (LB ++ ((mp, ob) :: LV))))))) :: D2 :: F) := hS.cast (by simp)
           exact ⟨_, D2, ⟨_, _, _, _, _, _, _, _, _, _, _, _, _, _, _, _, _, _, ⟨hn.fsr, hg2, hn.fcr, hn.fpm, hn.fbx, hn.fmp, (hn.fsv.dx hX5), hn.fel, (ent_dx hn.fed hX5), hn.fcl, (hX5.calls hn.fcd), hn.ful, (msg_dx hn.fud hX5), hn.fpl, (msg_dx hn.fpd hX5)⟩, rfl⟩, hX5, rfl, hS⟩))
set_option maxHeartbeats 8000000 in
theorem narr_loc38 {w0 w : World} {F : List Chunk} {b bo : Nat} {st : NS} {sr : Srv} {L D : Chunk} {vs' : List GV} {bs : List UInt8} (hS : St w0 w (L :: D :: F)) (hN : NUP w0 b bo st sr L D) (p : PN) (hpt : p.to = st.c.id) {d : Value} (hd : RdSX w0 (D :: F) 1 d p.da.length (rows encB p.da)) (hga : gaddM st.gs p = some (vs', some bs)) (m : MN) (hm : m.ok) (hbs : bs = encM m) (h1 : m.to = 0) (h2 : m.op = 1) (h3 : ¬ st.c.port = 0) (h4 : m.ar = st.c.port) (hp1 : 1 ≤ st.c.pc) (hp2 : st.c.pc ≤ 32768) (hsn : st.c.sent < 1000000000) :
 Ret Tryz.prog 38 #[vP b 0, .agg #[vI p.fr, vI p.to, vU p.id, vI p.ix, vI p.cn, d]] w (fun v w' => ∃ L' ps A c C D', NUP w0 b bo { st with gs := vs', c := { st.c with sent := st.c.sent + 1 } } sr L' D' ∧ Own 94 6 (.slice A ps.length c) ps.length (rows encPacket ps) C ∧ PKS w0 D' ps (splitM (encM (hereM m.ar)) st.c.id p.fr (st.c.sent + 1) st.c.pc) ∧ DX w0 D D' ∧ v = .slice A ps.length c ∧ St w0 w' (L' :: C :: D' :: F)) := by
 obtain ⟨B, d', rfl, hmd, hdx⟩ := (hd _ (hS.tail 1 rfl)).open'
 have hm0 := hm
 obtain ⟨hk1, hk2, hk3, hk4, hk5, hk6, hk7, hk8, hk9, hk10, hk11⟩ := hm
 obtain ⟨sv, bd, bg, bc, bp, bx, mp, ob, el, cl, ul, pl2, LS, LG, LC, LP, LB, LV, hn, rfl⟩ := hN
 replace hS : St w0 w ([(b, rowO [vI st.c.id, vI st.c.ki, vI st.c.no, vI st.c.pc, vI st.c.wa, vI st.c.tr, vI st.c.ag, vI st.c.pg, vI st.c.ro, vP bo 0, yT, vI st.c.now, vU st.c.sent, vU st.c.rep, vU st.c.port, vU st.c.r0, vW st.c.r1, vB st.c.r2, vU st.c.r3, sv, vP bd 0, vP bg 0, vP bc 0, vP bp 0, vP bx 0, .map (some mp)] 121)] :: LS :: LG :: LC :: LP :: LB :: [(mp, ob)] :: LV :: D :: F) := hS.cast (by simp)
 refine enter (vs := [vP b 0, .agg #[vI p.fr, vI p.to, vU p.id, vI p.ix, vI p.cn, .slice B p.da.length d']]) 144 Tryz.func38 rfl rfl (by simp) ?_; intro a hA
 refine zs (zr ?_)
 refine st_box hA hS [vI p.fr, vI p.to, vU p.id, vI p.ix, vI p.cn, .slice B p.da.length d'] rfl rfl rfl rfl rfl (by decide) fun b1 w2 a hS hA => ?_
 refine zR 1 ((4, yS) :: _) hA rfl fun a hA => zn (zx (zs (zs ?_)))
 refine zD0 hS [] [(0, true), (1, true), (2, true), (3, true), (4, true), (5, true), (6, true), (7, true), (8, true), (9, true), (10, true), (11, true), (12, true), (13, true)] mixed (by kernel_rfl) (by rintro c a w ⟨_, _, h, _⟩; cases h) (by rfl) (by kernel_rfl) ?_
 replace hS := hS.drew
 refine zW 3 ((11, vP b 10) :: (10, vP b 0) :: (9, vP b 0) :: _) hA hS rfl fun a hA => zY hA hS 1 rfl rfl rfl rfl rfl rfl rfl rfl rfl rfl fun a hA => zW 3 ((15, vP b1 1) :: (14, yF) :: (13, yF) :: _) hA hS rfl fun a hA => zY hA hS 0 rfl rfl rfl rfl rfl rfl rfl rfl rfl rfl fun a hA => zW 3 ((19, vP b 0) :: (18, vP b 0) :: (17, vP b 0) :: _) hA hS rfl fun a hA => zY hA hS 1 rfl rfl rfl rfl rfl rfl rfl rfl rfl rfl fun a hA => zW 2 ((22, .bool (((p.to : Nat) : Int) != ((st.c.id : Nat) : Int))) :: (21, .bool (((p.to : Nat) : Int) != ((st.c.id : Nat) : Int))) :: _) hA hS rfl fun a hA => ze (zx ?_)
 have hc3 : ((p.to : Nat) : Int) = ((st.c.id : Nat) : Int) := by omega
 replace hA := hA.rw 22 (v' := yF) rfl (vb_ne_f hc3)
 refine cd_cond_f hA rfl (zk (zx (zs ?_)))
 replace hS := hS.m9.m4
 refine zD2 hS [] [(0, true), (1, true), (2, true), (3, true), (4, true), (5, false), (6, true), (7, true), (8, true), (9, true), (10, true)] mixed (by kernel_rfl) (by rintro c a w ⟨_, _, h, _⟩; cases h) (by rfl) (by kernel_rfl) ?_
 replace hS := hS.drew
 refine zW 3 ((26, vP b 21) :: (25, vP b 0) :: (24, vP b 0) :: _) hA (hS.tail 2 rfl) rfl fun a hA => zY hA (hS.tail 2 rfl) 1 rfl rfl rfl rfl rfl rfl rfl rfl rfl rfl fun a hA => zYA hA (hS.tail 2 rfl) 0 [vI p.fr, vI p.to, vU p.id, vI p.ix, vI p.cn, .slice B p.da.length d'] rfl rfl rfl rfl rfl rfl rfl rfl rfl rfl rfl fun a hA => dr_b (o := _) rfl ?_
 replace hS := hS.m1.m1
 refine st_call0 hA rfl rfl rfl isfn60 rfl rfl (by decide) (gaddA hS hn.fgs p (fun w' h => hd _ (St.dmid (R := [[(b1, rowO [vI p.fr, vI p.to, vU p.id, vI p.ix, vI p.cn, .slice B p.da.length d'] 94)], [(b, rowO [vI st.c.id, vI st.c.ki, vI st.c.no, vI st.c.pc, vI st.c.wa, vI st.c.tr, vI st.c.ag, vI st.c.pg, vI st.c.ro, vP bo 0, yT, vI st.c.now, vU st.c.sent, vU st.c.rep, vU st.c.port, vU st.c.r0, vW st.c.r1, vB st.c.r2, vU st.c.r3, sv, vP bd 0, vP bg 0, vP bc 0, vP bp 0, vP bx 0, .map (some mp)] 121)], LS, LC, LP, LB, [(mp, ob)], LV]) h)) hga) ?_
 clear hA hS; rintro _ w4 a ⟨LG2, D2, Cb, Ab, cb, hg2, hXg, hOb, rfl, hS⟩ hA; have hcb := hOb.rcap
 have hX5 : DX w0 D D2 := hXg
 refine zi (hS.tail 3 rfl) (zW 5 ((6, yT) :: (5, .slice Ab bs.length cb) :: (31, yT) :: (30, .slice Ab bs.length cb) :: (23, .tuple #[.slice Ab bs.length cb, yT]) :: _) hA (hS.tail 3 rfl) rfl fun a hA => ze (zx (zs (zs (zr (zR 2 ((33, yF) :: (32, yT) :: _) hA rfl fun a hA => zn (zx (cd_cond_f hA rfl (zk (zx (zs (zr (zR 1 ((35, .slice Ab bs.length cb) :: _) hA rfl fun a hA => ?_)))))))))))))
 refine st_call0 hA rfl rfl rfl isfn61 rfl rfl (by decide) (hdec61 hS (b := bs) (RdS.own hOb 2 rfl) m hm0 hbs) ?_
 clear hA hS; rintro _ w9 a ⟨A6, c7, C8, hO8, rfl, hS⟩ hA
 obtain ⟨_, _, _, hmc7, hxc7⟩ := hO8.open'
 refine zR 3 ((38, yN) :: (37, .agg #[vU m.to, vU m.rp, vW m.id, vH m.op, vH m.st, vU m.po, vW m.ob, vB m.ri, vU m.ck, vU m.ar, .slice A6 m.da.length c7]) :: (34, .tuple #[.agg #[vU m.to, vU m.rp, vW m.id, vH m.op, vH m.st, vU m.po, vW m.ob, vB m.ri, vU m.ck, vU m.ar, .slice A6 m.da.length c7], yN]) :: _) hA rfl fun a hA => ?_
 refine st_alloc tbOk hA hS [yU, yU, yW, yH, yH, yU, yW, yB, yU, yU, yS] rfl rfl rfl rfl rfl (by decide) fun b10 w11 a hS hA => ?_
 refine st_store tbOk hA hS [vU m.to, vU m.rp, vW m.id, vH m.op, vH m.st, vU m.po, vW m.ob, vB m.ri, vU m.ck, vU m.ar, .slice A6 m.da.length c7] [vU m.to, vU m.rp, vW m.id, vH m.op, vH m.st, vU m.po, vW m.ob, vB m.ri, vU m.ck, vU m.ar, .slice A6 m.da.length c7] rfl rfl rfl rfl rfl rfl (zn1 rfl) (zle rfl) rfl rfl rfl fun w12 hS => ?_
 refine zR 1 ((8, yN) :: _) hA rfl fun a hA => zn (zx (zs (zs (zr (zR 2 ((40, yF) :: (39, yN) :: _) hA rfl fun a hA => zn (zx (cd_cond_f hA rfl (zk (zx (zs (zb (zs (zr (zR 1 ((42, vP b10 0) :: _) hA rfl fun a hA => zL hA hS 0 rfl rfl rfl rfl rfl rfl rfl rfl rfl fun a hA => zR 2 ((45, .bool (((m.to : Nat) : Int) == 0)) :: (44, .bool (((m.to : Nat) : Int) == 0)) :: _) hA rfl fun a hA => ?_))))))))))))))
 have hc13 : ((m.to : Nat) : Int) = 0 := by omega
 replace hA := hA.rw 44 (v' := yT) rfl (vb_eq_t hc13)
 replace hA := hA.rw 45 (v' := yT) rfl (vb_eq_t hc13)
 refine zR 1 ((46, vP b10 3) :: _) hA rfl fun a hA => zL hA hS 0 rfl rfl rfl rfl rfl rfl rfl rfl rfl fun a hA => zR 3 ((41, .bool (((m.op : Nat) : Int) == 1)) :: (49, .bool (((m.op : Nat) : Int) == 1)) :: (48, .bool (((m.op : Nat) : Int) == 1)) :: _) hA rfl fun a hA => zn (zx ?_)
 have hc14 : ((m.op : Nat) : Int) = 1 := by omega
 replace hA := hA.rw 41 (v' := yT) rfl (vb_eq_t hc14)
 refine cd_cond_t hA rfl (zs (zs ?_))
 refine zD0 hS [] [(0, true), (1, true), (2, true), (3, true), (4, true), (5, true), (6, true), (7, true), (8, true), (9, true), (10, true), (11, true), (12, true), (13, true)] mixed (by kernel_rfl) (by rintro c a w ⟨_, _, h, _⟩; cases h) (by rfl) (by kernel_rfl) ?_
 replace hS := hS.drew
 refine zW 3 ((52, vP b 14) :: (51, vP b 0) :: (50, vP b 0) :: _) hA hS rfl fun a hA => zY hA hS 6 rfl rfl rfl rfl rfl rfl rfl rfl rfl rfl fun a hA => zW 2 ((55, .bool (((st.c.port : Nat) : Int) == 0)) :: (54, .bool (((st.c.port : Nat) : Int) == 0)) :: _) hA hS rfl fun a hA => ?_
 have hc15 : ¬ (((st.c.port : Nat) : Int) = 0) := by omega
 replace hA := hA.rw 54 (v' := yF) rfl (vb_eq_f hc15)
 replace hA := hA.rw 55 (v' := yF) rfl (vb_eq_f hc15)
 refine zW 1 ((56, vP b10 9) :: _) hA hS rfl fun a hA => zY hA hS 0 rfl rfl rfl rfl rfl rfl rfl rfl rfl rfl fun a hA => zW 3 ((60, vP b 14) :: (59, vP b 0) :: (58, vP b 0) :: _) hA hS rfl fun a hA => zY hA hS 6 rfl rfl rfl rfl rfl rfl rfl rfl rfl rfl fun a hA => zW 2 ((63, .bool (((m.ar : Nat) : Int) != ((st.c.port : Nat) : Int))) :: (62, .bool (((m.ar : Nat) : Int) != ((st.c.port : Nat) : Int))) :: _) hA hS rfl fun a hA => ze (zx ?_)
 have hc16 : ((m.ar : Nat) : Int) = ((st.c.port : Nat) : Int) := by omega
 replace hA := hA.rw 63 (v' := yF) rfl (vb_ne_f hc16)
 refine cd_cond_f hA rfl (zk (zx (zs (zr (zR 2 ((65, vP b10 9) :: (64, vP b 0) :: _) hA rfl fun a hA => zL hA hS 0 rfl rfl rfl rfl rfl rfl rfl rfl rfl fun a hA => st_val hA rfl rfl (by decide) (rn_build tbOk hA rfl rfl rfl rfl rfl rfl rfl) fun a hA => zR 1 ((68, vP b1 0) :: _) hA rfl fun a hA => zL hA hS 5 rfl rfl rfl rfl rfl rfl rfl rfl rfl fun a hA => ?_)))))
 replace hS := hS.m3.m6
 refine st_call0 hA rfl rfl rfl isfn62 rfl rfl (by decide) (npackets62 (s := st.c) hS (hereM m.ar) (hereM_ok hk10) p.fr (d := yS) RdSX.nil (by omega) hp1 hp2 (nP_here hp1)) ?_
 clear hA hS; rintro _ w17 a ⟨psq, Aq, cq, Cq, Eq, hOq, hKq, rfl, hS⟩ hA
 have hX18 : DX w0 D2 (Eq ++ D2) := DX.refl.step
 refine zR 1 ((4, .slice Aq psq.length cq) :: _) hA rfl fun a hA => zn (zx ?_)
 refine wp_ret (xb_ret (xt_ret ?_))
 refine ret1 (fn := Tryz.f38) hA rfl rfl ?_
 replace hS := hS.m3.d0.m3.d0.m4.d0.m4.d0.m2.m2.m9.m9.m9.m9.m9.m8.m9.m9
 replace hS : St w0 w17 (((b, rowO [vI st.c.id, vI st.c.ki, vI st.c.no, vI st.c.pc, vI st.c.wa, vI st.c.tr, vI st.c.ag, vI st.c.pg, vI st.c.ro, vP bo 0, yT, vI st.c.now, vU (st.c.sent + 1), vU st.c.rep, vU st.c.port, vU st.c.r0, vW st.c.r1, vB st.c.r2, vU st.c.r3, sv, vP bd 0, vP bg 0, vP bc 0, vP bp 0, vP bx 0, .map (some mp)] 121) :: (LS ++ (LG2 ++ (LC ++ (LP ++ (LB ++ ((mp, ob) :: LV))))))) :: Cq :: (Eq ++ D2) :: F) := hS.cast (by simp)
 exact ⟨_, psq, Aq, cq, Cq, (Eq ++ D2), ⟨_, _, _, _, _, _, _, _, _, _, _, _, _, _, _, _, _, _, ⟨hn.fsr, (hg2.dx hX18), hn.fcr, hn.fpm, hn.fbx, hn.fmp, (hn.fsv.dx (hX5.trans hX18)), hn.fel, (ent_dx hn.fed (hX5.trans hX18)), hn.fcl, ((hX5.trans hX18).calls hn.fcd), hn.ful, (msg_dx hn.fud (hX5.trans hX18)), hn.fpl, (msg_dx hn.fpd (hX5.trans hX18))⟩, rfl⟩, hOq, ⟨hKq.1, fun x hx => DD.right (hKq.2 x hx)⟩, (hX5.trans hX18), rfl, hS⟩
set_option maxHeartbeats 8000000 in
theorem narr_here38 {w0 w : World} {F : List Chunk} {b bo : Nat} {st : NS} {sr : Srv} {L D : Chunk} {vs' : List GV} {bs : List UInt8} (hS : St w0 w (L :: D :: F)) (hN : NUP w0 b bo st sr L D) (p : PN) (hpt : p.to = st.c.id) {d : Value} (hd : RdSX w0 (D :: F) 1 d p.da.length (rows encB p.da)) (hga : gaddM st.gs p = some (vs', some bs)) (m : MN) (hm : m.ok) (hbs : bs = encM m) (h1 : m.to = 0) (h2 : m.op = 2) (hpl16 : st.pl.length < 16) :
 Ret Tryz.prog 38 #[vP b 0, .agg #[vI p.fr, vI p.to, vU p.id, vI p.ix, vI p.cn, d]] w (fun v w' => ∃ L' D', NUP w0 b bo { st with gs := vs', pl := st.pl.filter (fun x => !(x.1 == m.ar)) ++ [(m.ar, p.fr, st.c.now)] } sr L' D' ∧ DX w0 D D' ∧ v = yS ∧ St w0 w' (L' :: D' :: F)) := by
 obtain ⟨B, d', rfl, hmd, hdx⟩ := (hd _ (hS.tail 1 rfl)).open'
 have hm0 := hm
 obtain ⟨hk1, hk2, hk3, hk4, hk5, hk6, hk7, hk8, hk9, hk10, hk11⟩ := hm
 obtain ⟨sv, bd, bg, bc, bp, bx, mp, ob, el, cl, ul, pl2, LS, LG, LC, LP, LB, LV, hn, rfl⟩ := hN
 replace hS : St w0 w ([(b, rowO [vI st.c.id, vI st.c.ki, vI st.c.no, vI st.c.pc, vI st.c.wa, vI st.c.tr, vI st.c.ag, vI st.c.pg, vI st.c.ro, vP bo 0, yT, vI st.c.now, vU st.c.sent, vU st.c.rep, vU st.c.port, vU st.c.r0, vW st.c.r1, vB st.c.r2, vU st.c.r3, sv, vP bd 0, vP bg 0, vP bc 0, vP bp 0, vP bx 0, .map (some mp)] 121)] :: LS :: LG :: LC :: LP :: LB :: [(mp, ob)] :: LV :: D :: F) := hS.cast (by simp)
 refine enter (vs := [vP b 0, .agg #[vI p.fr, vI p.to, vU p.id, vI p.ix, vI p.cn, .slice B p.da.length d']]) 144 Tryz.func38 rfl rfl (by simp) ?_; intro a hA
 refine zs (zr ?_)
 refine st_box hA hS [vI p.fr, vI p.to, vU p.id, vI p.ix, vI p.cn, .slice B p.da.length d'] rfl rfl rfl rfl rfl (by decide) fun b1 w2 a hS hA => ?_
 refine zR 1 ((4, yS) :: _) hA rfl fun a hA => zn (zx (zs (zs ?_)))
 refine zD0 hS [] [(0, true), (1, true), (2, true), (3, true), (4, true), (5, true), (6, true), (7, true), (8, true), (9, true), (10, true), (11, true), (12, true), (13, true)] mixed (by kernel_rfl) (by rintro c a w ⟨_, _, h, _⟩; cases h) (by rfl) (by kernel_rfl) ?_
 replace hS := hS.drew
 refine zW 3 ((11, vP b 10) :: (10, vP b 0) :: (9, vP b 0) :: _) hA hS rfl fun a hA => zY hA hS 1 rfl rfl rfl rfl rfl rfl rfl rfl rfl rfl fun a hA => zW 3 ((15, vP b1 1) :: (14, yF) :: (13, yF) :: _) hA hS rfl fun a hA => zY hA hS 0 rfl rfl rfl rfl rfl rfl rfl rfl rfl rfl fun a hA => zW 3 ((19, vP b 0) :: (18, vP b 0) :: (17, vP b 0) :: _) hA hS rfl fun a hA => zY hA hS 1 rfl rfl rfl rfl rfl rfl rfl rfl rfl rfl fun a hA => zW 2 ((22, .bool (((p.to : Nat) : Int) != ((st.c.id : Nat) : Int))) :: (21, .bool (((p.to : Nat) : Int) != ((st.c.id : Nat) : Int))) :: _) hA hS rfl fun a hA => ze (zx ?_)
 have hc3 : ((p.to : Nat) : Int) = ((st.c.id : Nat) : Int) := by omega
 replace hA := hA.rw 22 (v' := yF) rfl (vb_ne_f hc3)
 refine cd_cond_f hA rfl (zk (zx (zs ?_)))
 replace hS := hS.m9.m4
 refine zD2 hS [] [(0, true), (1, true), (2, true), (3, true), (4, true), (5, false), (6, true), (7, true), (8, true), (9, true), (10, true)] mixed (by kernel_rfl) (by rintro c a w ⟨_, _, h, _⟩; cases h) (by rfl) (by kernel_rfl) ?_
 replace hS := hS.drew
 refine zW 3 ((26, vP b 21) :: (25, vP b 0) :: (24, vP b 0) :: _) hA (hS.tail 2 rfl) rfl fun a hA => zY hA (hS.tail 2 rfl) 1 rfl rfl rfl rfl rfl rfl rfl rfl rfl rfl fun a hA => zYA hA (hS.tail 2 rfl) 0 [vI p.fr, vI p.to, vU p.id, vI p.ix, vI p.cn, .slice B p.da.length d'] rfl rfl rfl rfl rfl rfl rfl rfl rfl rfl rfl fun a hA => dr_b (o := _) rfl ?_
 replace hS := hS.m1.m1
 refine st_call0 hA rfl rfl rfl isfn60 rfl rfl (by decide) (gaddA hS hn.fgs p (fun w' h => hd _ (St.dmid (R := [[(b1, rowO [vI p.fr, vI p.to, vU p.id, vI p.ix, vI p.cn, .slice B p.da.length d'] 94)], [(b, rowO [vI st.c.id, vI st.c.ki, vI st.c.no, vI st.c.pc, vI st.c.wa, vI st.c.tr, vI st.c.ag, vI st.c.pg, vI st.c.ro, vP bo 0, yT, vI st.c.now, vU st.c.sent, vU st.c.rep, vU st.c.port, vU st.c.r0, vW st.c.r1, vB st.c.r2, vU st.c.r3, sv, vP bd 0, vP bg 0, vP bc 0, vP bp 0, vP bx 0, .map (some mp)] 121)], LS, LC, LP, LB, [(mp, ob)], LV]) h)) hga) ?_
 clear hA hS; rintro _ w4 a ⟨LG2, D2, Cb, Ab, cb, hg2, hXg, hOb, rfl, hS⟩ hA; have hcb := hOb.rcap
 have hX5 : DX w0 D D2 := hXg
 refine zi (hS.tail 3 rfl) (zW 5 ((6, yT) :: (5, .slice Ab bs.length cb) :: (31, yT) :: (30, .slice Ab bs.length cb) :: (23, .tuple #[.slice Ab bs.length cb, yT]) :: _) hA (hS.tail 3 rfl) rfl fun a hA => ze (zx (zs (zs (zr (zR 2 ((33, yF) :: (32, yT) :: _) hA rfl fun a hA => zn (zx (cd_cond_f hA rfl (zk (zx (zs (zr (zR 1 ((35, .slice Ab bs.length cb) :: _) hA rfl fun a hA => ?_)))))))))))))
 refine st_call0 hA rfl rfl rfl isfn61 rfl rfl (by decide) (hdec61 hS (b := bs) (RdS.own hOb 2 rfl) m hm0 hbs) ?_
 clear hA hS; rintro _ w9 a ⟨A6, c7, C8, hO8, rfl, hS⟩ hA
 obtain ⟨_, _, _, hmc7, hxc7⟩ := hO8.open'
 refine zR 3 ((38, yN) :: (37, .agg #[vU m.to, vU m.rp, vW m.id, vH m.op, vH m.st, vU m.po, vW m.ob, vB m.ri, vU m.ck, vU m.ar, .slice A6 m.da.length c7]) :: (34, .tuple #[.agg #[vU m.to, vU m.rp, vW m.id, vH m.op, vH m.st, vU m.po, vW m.ob, vB m.ri, vU m.ck, vU m.ar, .slice A6 m.da.length c7], yN]) :: _) hA rfl fun a hA => ?_
 refine st_alloc tbOk hA hS [yU, yU, yW, yH, yH, yU, yW, yB, yU, yU, yS] rfl rfl rfl rfl rfl (by decide) fun b10 w11 a hS hA => ?_
 refine st_store tbOk hA hS [vU m.to, vU m.rp, vW m.id, vH m.op, vH m.st, vU m.po, vW m.ob, vB m.ri, vU m.ck, vU m.ar, .slice A6 m.da.length c7] [vU m.to, vU m.rp, vW m.id, vH m.op, vH m.st, vU m.po, vW m.ob, vB m.ri, vU m.ck, vU m.ar, .slice A6 m.da.length c7] rfl rfl rfl rfl rfl rfl (zn1 rfl) (zle rfl) rfl rfl rfl fun w12 hS => ?_
 refine zR 1 ((8, yN) :: _) hA rfl fun a hA => zn (zx (zs (zs (zr (zR 2 ((40, yF) :: (39, yN) :: _) hA rfl fun a hA => zn (zx (cd_cond_f hA rfl (zk (zx (zs (zb (zs (zr (zR 1 ((42, vP b10 0) :: _) hA rfl fun a hA => zL hA hS 0 rfl rfl rfl rfl rfl rfl rfl rfl rfl fun a hA => zR 2 ((45, .bool (((m.to : Nat) : Int) == 0)) :: (44, .bool (((m.to : Nat) : Int) == 0)) :: _) hA rfl fun a hA => ?_))))))))))))))
 have hc13 : ((m.to : Nat) : Int) = 0 := by omega
 replace hA := hA.rw 44 (v' := yT) rfl (vb_eq_t hc13)
 replace hA := hA.rw 45 (v' := yT) rfl (vb_eq_t hc13)
 refine zR 1 ((46, vP b10 3) :: _) hA rfl fun a hA => zL hA hS 0 rfl rfl rfl rfl rfl rfl rfl rfl rfl fun a hA => zR 3 ((41, .bool (((m.op : Nat) : Int) == 1)) :: (49, .bool (((m.op : Nat) : Int) == 1)) :: (48, .bool (((m.op : Nat) : Int) == 1)) :: _) hA rfl fun a hA => zn (zx ?_)
 have hc14 : ¬ (((m.op : Nat) : Int) = 1) := by omega
 replace hA := hA.rw 41 (v' := yF) rfl (vb_eq_f hc14)
 refine cd_cond_f hA rfl (zs (zr (zR 1 ((72, vP b10 0) :: _) hA rfl fun a hA => zL hA hS 0 rfl rfl rfl rfl rfl rfl rfl rfl rfl fun a hA => zR 2 ((75, .bool (((m.to : Nat) : Int) == 0)) :: (74, .bool (((m.to : Nat) : Int) == 0)) :: _) hA rfl fun a hA => ?_)))
 have hc15 : ((m.to : Nat) : Int) = 0 := by omega
 replace hA := hA.rw 74 (v' := yT) rfl (vb_eq_t hc15)
 replace hA := hA.rw 75 (v' := yT) rfl (vb_eq_t hc15)
 refine zR 1 ((76, vP b10 3) :: _) hA rfl fun a hA => zL hA hS 0 rfl rfl rfl rfl rfl rfl rfl rfl rfl fun a hA => zR 3 ((71, .bool (((m.op : Nat) : Int) == 2)) :: (79, .bool (((m.op : Nat) : Int) == 2)) :: (78, .bool (((m.op : Nat) : Int) == 2)) :: _) hA rfl fun a hA => zn (zx ?_)
 have hc16 : ((m.op : Nat) : Int) = 2 := by omega
 replace hA := hA.rw 71 (v' := yT) rfl (vb_eq_t hc16)
 refine cd_cond_t hA rfl ?_
 replace hS := hS.m9
 refine zD1 hS [] [(0, true), (1, true), (2, true), (3, true), (4, true), (5, true), (6, true), (7, true), (8, true), (9, true), (10, true), (11, true), (12, false)] mixed (by kernel_rfl) (by rintro c a w ⟨_, _, h, _⟩; cases h) (by rfl) (by kernel_rfl) ?_
 replace hS := hS.drew
 refine zW 3 ((82, vP b 23) :: (81, vP b 0) :: (80, vP b 0) :: _) hA (hS.tail 1 rfl) rfl fun a hA => zY hA (hS.tail 1 rfl) 6 rfl rfl rfl rfl rfl rfl rfl rfl rfl rfl fun a hA => zW 1 ((84, vP b10 9) :: _) hA (hS.tail 1 rfl) rfl fun a hA => zY hA (hS.tail 1 rfl) 0 rfl rfl rfl rfl rfl rfl rfl rfl rfl rfl fun a hA => zW 1 ((86, vP b1 0) :: _) hA (hS.tail 1 rfl) rfl fun a hA => zY hA (hS.tail 1 rfl) 5 rfl rfl rfl rfl rfl rfl rfl rfl rfl rfl fun a hA => zW 3 ((90, vP b 11) :: (89, vP b 0) :: (88, vP b 0) :: _) hA (hS.tail 1 rfl) rfl fun a hA => zY hA (hS.tail 1 rfl) 6 rfl rfl rfl rfl rfl rfl rfl rfl rfl rfl fun a hA => dr_b (o := _) rfl ?_
 refine st_call0 hA rfl rfl rfl isfn63 rfl rfl (by decide) (plearn63 hS hn.fpm m.ar p.fr st.c.now hpl16) ?_
 clear hA hS; rintro _ w17 a ⟨LP2, hP2, rfl, hS⟩ hA
 refine zi (hS.tail 1 rfl) (ze (zm (zx (zs (zr (zR 1 ((4, yS) :: _) hA rfl fun a hA => zn (zx ?_)))))))
 refine wp_ret ?_
 refine ret1 (fn := Tryz.f38) hA rfl rfl ?_
 replace hS := hS.m1.d0.m1.d0.m3.d0.m3.d0.m2.m8.m8.m8.m4.m8.m6.m8.m8
 replace hS : St w0 w17 (((b, rowO [vI st.c.id, vI st.c.ki, vI st.c.no, vI st.c.pc, vI st.c.wa, vI st.c.tr, vI st.c.ag, vI st.c.pg, vI st.c.ro, vP bo 0, yT, vI st.c.now, vU st.c.sent, vU st.c.rep, vU st.c.port, vU st.c.r0, vW st.c.r1, vB st.c.r2, vU st.c.r3, sv, vP bd 0, vP bg 0, vP bc 0, vP bp 0, vP bx 0, .map (some mp)] 121) :: (LS ++ (LG2 ++ (LC ++ (LP2 ++ (LB ++ ((mp, ob) :: LV))))))) :: D2 :: F) := hS.cast (by simp)
 exact ⟨_, D2, ⟨_, _, _, _, _, _, _, _, _, _, _, _, _, _, _, _, _, _, ⟨hn.fsr, hg2, hn.fcr, hP2, hn.fbx, hn.fmp, (hn.fsv.dx hX5), hn.fel, (ent_dx hn.fed hX5), hn.fcl, (hX5.calls hn.fcd), hn.ful, (msg_dx hn.fud hX5), hn.fpl, (msg_dx hn.fpd hX5)⟩, rfl⟩, hX5, rfl, hS⟩
end Go.Proofs.YthiakdmhpfkjbaaGreatDoor

set_option linter.unusedVariables false
set_option linter.unusedSimpArgs false
set_option maxRecDepth 4000
namespace Go.Proofs.YthiakdmhpfkjbaaGreatDoor
open Go Go.SK
set_option maxHeartbeats 8000000 in
theorem narr_reply38 {w0 w : World} {F : List Chunk} {b bo : Nat} {st : NS} {sr : Srv} {L D : Chunk} {vs' : List GV} {bs : List UInt8} (hS : St w0 w (L :: D :: F)) (hN : NUP w0 b bo st sr L D) (p : PN) (hpt : p.to = st.c.id) {d : Value} (hd : RdSX w0 (D :: F) 1 d p.da.length (rows encB p.da)) (hga : gaddM st.gs p = some (vs', some bs)) (m : MN) (hm : m.ok) (hbs : bs = encM m) (h1 : ¬ m.to = 0) (h2 : m.to = st.c.rep) (hbr : st.us.length < st.c.ro) :
 Ret Tryz.prog 38 #[vP b 0, .agg #[vI p.fr, vI p.to, vU p.id, vI p.ix, vI p.cn, d]] w (fun v w' => ∃ L' D', NUP w0 b bo { st with gs := vs', us := st.us ++ [m] } sr L' D' ∧ DX w0 D D' ∧ v = yS ∧ St w0 w' (L' :: D' :: F)) := by
 obtain ⟨B, d', rfl, hmd, hdx⟩ := (hd _ (hS.tail 1 rfl)).open'
 have hm0 := hm
 obtain ⟨hk1, hk2, hk3, hk4, hk5, hk6, hk7, hk8, hk9, hk10, hk11⟩ := hm
 obtain ⟨sv, bd, bg, bc, bp, bx, mp, ob, el, cl, ul, pl2, LS, LG, LC, LP, LB, LV, hn, rfl⟩ := hN
 replace hS : St w0 w ([(b, rowO [vI st.c.id, vI st.c.ki, vI st.c.no, vI st.c.pc, vI st.c.wa, vI st.c.tr, vI st.c.ag, vI st.c.pg, vI st.c.ro, vP bo 0, yT, vI st.c.now, vU st.c.sent, vU st.c.rep, vU st.c.port, vU st.c.r0, vW st.c.r1, vB st.c.r2, vU st.c.r3, sv, vP bd 0, vP bg 0, vP bc 0, vP bp 0, vP bx 0, .map (some mp)] 121)] :: LS :: LG :: LC :: LP :: LB :: [(mp, ob)] :: LV :: D :: F) := hS.cast (by simp)
 refine enter (vs := [vP b 0, .agg #[vI p.fr, vI p.to, vU p.id, vI p.ix, vI p.cn, .slice B p.da.length d']]) 144 Tryz.func38 rfl rfl (by simp) ?_; intro a hA
 refine zs (zr ?_)
 refine st_box hA hS [vI p.fr, vI p.to, vU p.id, vI p.ix, vI p.cn, .slice B p.da.length d'] rfl rfl rfl rfl rfl (by decide) fun b1 w2 a hS hA => ?_
 refine zR 1 ((4, yS) :: _) hA rfl fun a hA => zn (zx (zs (zs ?_)))
 refine zD0 hS [] [(0, true), (1, true), (2, true), (3, true), (4, true), (5, true), (6, true), (7, true), (8, true), (9, true), (10, true), (11, true), (12, true), (13, true)] mixed (by kernel_rfl) (by rintro c a w ⟨_, _, h, _⟩; cases h) (by rfl) (by kernel_rfl) ?_
 replace hS := hS.drew
 refine zW 3 ((11, vP b 10) :: (10, vP b 0) :: (9, vP b 0) :: _) hA hS rfl fun a hA => zY hA hS 1 rfl rfl rfl rfl rfl rfl rfl rfl rfl rfl fun a hA => zW 3 ((15, vP b1 1) :: (14, yF) :: (13, yF) :: _) hA hS rfl fun a hA => zY hA hS 0 rfl rfl rfl rfl rfl rfl rfl rfl rfl rfl fun a hA => zW 3 ((19, vP b 0) :: (18, vP b 0) :: (17, vP b 0) :: _) hA hS rfl fun a hA => zY hA hS 1 rfl rfl rfl rfl rfl rfl rfl rfl rfl rfl fun a hA => zW 2 ((22, .bool (((p.to : Nat) : Int) != ((st.c.id : Nat) : Int))) :: (21, .bool (((p.to : Nat) : Int) != ((st.c.id : Nat) : Int))) :: _) hA hS rfl fun a hA => ze (zx ?_)
 have hc3 : ((p.to : Nat) : Int) = ((st.c.id : Nat) : Int) := by omega
 replace hA := hA.rw 22 (v' := yF) rfl (vb_ne_f hc3)
 refine cd_cond_f hA rfl (zk (zx (zs ?_)))
 replace hS := hS.m9.m4
 refine zD2 hS [] [(0, true), (1, true), (2, true), (3, true), (4, true), (5, false), (6, true), (7, true), (8, true), (9, true), (10, true)] mixed (by kernel_rfl) (by rintro c a w ⟨_, _, h, _⟩; cases h) (by rfl) (by kernel_rfl) ?_
 replace hS := hS.drew
 refine zW 3 ((26, vP b 21) :: (25, vP b 0) :: (24, vP b 0) :: _) hA (hS.tail 2 rfl) rfl fun a hA => zY hA (hS.tail 2 rfl) 1 rfl rfl rfl rfl rfl rfl rfl rfl rfl rfl fun a hA => zYA hA (hS.tail 2 rfl) 0 [vI p.fr, vI p.to, vU p.id, vI p.ix, vI p.cn, .slice B p.da.length d'] rfl rfl rfl rfl rfl rfl rfl rfl rfl rfl rfl fun a hA => dr_b (o := _) rfl ?_
 replace hS := hS.m1.m1
 refine st_call0 hA rfl rfl rfl isfn60 rfl rfl (by decide) (gaddA hS hn.fgs p (fun w' h => hd _ (St.dmid (R := [[(b1, rowO [vI p.fr, vI p.to, vU p.id, vI p.ix, vI p.cn, .slice B p.da.length d'] 94)], [(b, rowO [vI st.c.id, vI st.c.ki, vI st.c.no, vI st.c.pc, vI st.c.wa, vI st.c.tr, vI st.c.ag, vI st.c.pg, vI st.c.ro, vP bo 0, yT, vI st.c.now, vU st.c.sent, vU st.c.rep, vU st.c.port, vU st.c.r0, vW st.c.r1, vB st.c.r2, vU st.c.r3, sv, vP bd 0, vP bg 0, vP bc 0, vP bp 0, vP bx 0, .map (some mp)] 121)], LS, LC, LP, LB, [(mp, ob)], LV]) h)) hga) ?_
 clear hA hS; rintro _ w4 a ⟨LG2, D2, Cb, Ab, cb, hg2, hXg, hOb, rfl, hS⟩ hA; have hcb := hOb.rcap
 have hX5 : DX w0 D D2 := hXg
 refine zi (hS.tail 3 rfl) (zW 5 ((6, yT) :: (5, .slice Ab bs.length cb) :: (31, yT) :: (30, .slice Ab bs.length cb) :: (23, .tuple #[.slice Ab bs.length cb, yT]) :: _) hA (hS.tail 3 rfl) rfl fun a hA => ze (zx (zs (zs (zr (zR 2 ((33, yF) :: (32, yT) :: _) hA rfl fun a hA => zn (zx (cd_cond_f hA rfl (zk (zx (zs (zr (zR 1 ((35, .slice Ab bs.length cb) :: _) hA rfl fun a hA => ?_)))))))))))))
 refine st_call0 hA rfl rfl rfl isfn61 rfl rfl (by decide) (hdec61 hS (b := bs) (RdS.own hOb 2 rfl) m hm0 hbs) ?_
 clear hA hS; rintro _ w9 a ⟨A6, c7, C8, hO8, rfl, hS⟩ hA
 obtain ⟨_, _, _, hmc7, hxc7⟩ := hO8.open'
 refine zR 3 ((38, yN) :: (37, .agg #[vU m.to, vU m.rp, vW m.id, vH m.op, vH m.st, vU m.po, vW m.ob, vB m.ri, vU m.ck, vU m.ar, .slice A6 m.da.length c7]) :: (34, .tuple #[.agg #[vU m.to, vU m.rp, vW m.id, vH m.op, vH m.st, vU m.po, vW m.ob, vB m.ri, vU m.ck, vU m.ar, .slice A6 m.da.length c7], yN]) :: _) hA rfl fun a hA => ?_
 refine st_alloc tbOk hA hS [yU, yU, yW, yH, yH, yU, yW, yB, yU, yU, yS] rfl rfl rfl rfl rfl (by decide) fun b10 w11 a hS hA => ?_
 refine st_store tbOk hA hS [vU m.to, vU m.rp, vW m.id, vH m.op, vH m.st, vU m.po, vW m.ob, vB m.ri, vU m.ck, vU m.ar, .slice A6 m.da.length c7] [vU m.to, vU m.rp, vW m.id, vH m.op, vH m.st, vU m.po, vW m.ob, vB m.ri, vU m.ck, vU m.ar, .slice A6 m.da.length c7] rfl rfl rfl rfl rfl rfl (zn1 rfl) (zle rfl) rfl rfl rfl fun w12 hS => ?_
 refine zR 1 ((8, yN) :: _) hA rfl fun a hA => zn (zx (zs (zs (zr (zR 2 ((40, yF) :: (39, yN) :: _) hA rfl fun a hA => zn (zx (cd_cond_f hA rfl (zk (zx (zs (zb (zs (zr (zR 1 ((42, vP b10 0) :: _) hA rfl fun a hA => zL hA hS 0 rfl rfl rfl rfl rfl rfl rfl rfl rfl fun a hA => zR 2 ((45, .bool (((m.to : Nat) : Int) == 0)) :: (44, .bool (((m.to : Nat) : Int) == 0)) :: _) hA rfl fun a hA => ?_))))))))))))))
 have hc13 : ¬ (((m.to : Nat) : Int) = 0) := by omega
 replace hA := hA.rw 44 (v' := yF) rfl (vb_eq_f hc13)
 replace hA := hA.rw 45 (v' := yF) rfl (vb_eq_f hc13)
 refine zR 5 ((41, yF) :: (49, yF) :: (48, undef) :: (47, undef) :: (46, undef) :: _) hA rfl fun a hA => zn (zx (cd_cond_f hA rfl (zs (zr (zR 1 ((72, vP b10 0) :: _) hA rfl fun a hA => zL hA hS 0 rfl rfl rfl rfl rfl rfl rfl rfl rfl fun a hA => zR 2 ((75, .bool (((m.to : Nat) : Int) == 0)) :: (74, .bool (((m.to : Nat) : Int) == 0)) :: _) hA rfl fun a hA => ?_)))))
 have hc14 : ¬ (((m.to : Nat) : Int) = 0) := by omega
 replace hA := hA.rw 74 (v' := yF) rfl (vb_eq_f hc14)
 replace hA := hA.rw 75 (v' := yF) rfl (vb_eq_f hc14)
 refine zR 5 ((71, yF) :: (79, yF) :: (78, undef) :: (77, undef) :: (76, undef) :: _) hA rfl fun a hA => zn (zx (cd_cond_f hA rfl (zs ?_)))
 refine zD0 hS [] [(0, true), (1, true), (2, true), (3, true), (4, true), (5, true), (6, true), (7, true), (8, true), (9, true), (10, true), (11, true), (12, true), (13, true), (14, true)] mixed (by kernel_rfl) (by rintro c a w ⟨_, _, h, _⟩; cases h) (by rfl) (by kernel_rfl) ?_
 replace hS := hS.drew
 refine zW 1 ((94, vP b10 0) :: _) hA hS rfl fun a hA => zY hA hS 0 rfl rfl rfl rfl rfl rfl rfl rfl rfl rfl fun a hA => zW 3 ((98, vP b 13) :: (97, vP b 0) :: (96, vP b 0) :: _) hA hS rfl fun a hA => zY hA hS 6 rfl rfl rfl rfl rfl rfl rfl rfl rfl rfl fun a hA => zW 2 ((101, .bool (((m.to : Nat) : Int) == ((st.c.rep : Nat) : Int))) :: (100, .bool (((m.to : Nat) : Int) == ((st.c.rep : Nat) : Int))) :: _) hA hS rfl fun a hA => ?_
 have hc15 : ((m.to : Nat) : Int) = ((st.c.rep : Nat) : Int) := by omega
 replace hA := hA.rw 100 (v' := yT) rfl (vb_eq_t hc15)
 replace hA := hA.rw 101 (v' := yT) rfl (vb_eq_t hc15)
 refine zW 3 ((104, vP b 13) :: (103, vP b 0) :: (102, vP b 0) :: _) hA hS rfl fun a hA => zY hA hS 6 rfl rfl rfl rfl rfl rfl rfl rfl rfl rfl fun a hA => zW 3 ((93, .bool (((st.c.rep : Nat) : Int) != 0)) :: (107, .bool (((st.c.rep : Nat) : Int) != 0)) :: (106, .bool (((st.c.rep : Nat) : Int) != 0)) :: _) hA hS rfl fun a hA => ze (zx ?_)
 have hc16 : ¬ (((st.c.rep : Nat) : Int) = 0) := by omega
 replace hA := hA.rw 93 (v' := yT) rfl (vb_ne_t hc16)
 refine cd_cond_t hA rfl ?_
 replace hS := hS.m3.m10
 refine zD2 hS [] [(0, true), (1, true), (2, true), (3, true), (4, true), (5, false)] mixed (by kernel_rfl) (by rintro c a w ⟨_, _, h, _⟩; cases h) (by rfl) (by kernel_rfl) ?_
 replace hS := hS.drew
 refine zW 3 ((110, vP b 24) :: (109, vP b 0) :: (108, vP b 0) :: _) hA (hS.tail 2 rfl) rfl fun a hA => zY hA (hS.tail 2 rfl) 5 rfl rfl rfl rfl rfl rfl rfl rfl rfl rfl fun a hA => zYA hA (hS.tail 2 rfl) 0 [vU m.to, vU m.rp, vW m.id, vH m.op, vH m.st, vU m.po, vW m.ob, vB m.ri, vU m.ck, vU m.ar, .slice A6 m.da.length c7] rfl rfl rfl rfl rfl rfl rfl rfl rfl rfl rfl fun a hA => dr_b (o := _) rfl ?_
 replace hS := hS.m1.m1
 refine st_call0 hA rfl rfl rfl isfn64 rfl rfl (by decide) (put_u_room64 hS hn.fbx ((m.to : Nat) : Int) ((m.rp : Nat) : Int) ((m.id : Nat) : Int) ((m.op : Nat) : Int) ((m.st : Nat) : Int) ((m.po : Nat) : Int) ((m.ob : Nat) : Int) ((m.ri : Nat) : Int) ((m.ck : Nat) : Int) ((m.ar : Nat) : Int) (bs := m.da) (RdS.x (RdS.own hO8 2 rfl)) (by omega) (by rw [map_len9 hn.ful]; exact hbr)) ?_
 clear hA hS; rintro _ w17 a ⟨LB2, E3, A3, c3, hb2, hE3, rfl, hS⟩ hA
 have hX18 : DX w0 D2 (E3 ++ D2) := DX.refl.step
 refine zi (hS.tail 2 rfl) (ze (zm (zx (zs (zr (zR 1 ((4, yS) :: _) hA rfl fun a hA => zn (zx ?_)))))))
 refine wp_ret ?_
 refine ret1 (fn := Tryz.f38) hA rfl rfl ?_
 replace hS := hS.m2.d0.m2.d0.m3.d0.m3.d0.m1.m8.m8.m3.m8.m8.m6.m8.m8
 replace hS : St w0 w17 (((b, rowO [vI st.c.id, vI st.c.ki, vI st.c.no, vI st.c.pc, vI st.c.wa, vI st.c.tr, vI st.c.ag, vI st.c.pg, vI st.c.ro, vP bo 0, yT, vI st.c.now, vU st.c.sent, vU st.c.rep, vU st.c.port, vU st.c.r0, vW st.c.r1, vB st.c.r2, vU st.c.r3, sv, vP bd 0, vP bg 0, vP bc 0, vP bp 0, vP bx 0, .map (some mp)] 121) :: (LS ++ (LG2 ++ (LC ++ (LP ++ (LB2 ++ ((mp, ob) :: LV))))))) :: (E3 ++ D2) :: F) := hS.cast (by simp)
 exact ⟨_, (E3 ++ D2), ⟨_, _, _, _, _, _, _, _, _, _, _, _, _, _, _, _, _, _, ⟨hn.fsr, (hg2.dx hX18), hn.fcr, hn.fpm, hb2, hn.fmp, (hn.fsv.dx (hX5.trans hX18)), hn.fel, (ent_dx hn.fed (hX5.trans hX18)), hn.fcl, ((hX5.trans hX18).calls hn.fcd), (map_snoc9 (y := m) hn.ful rfl), (all_snoc9 (msg_dx hn.fud hX5) (fun y hy => encMessage_left hy) hE3.right), hn.fpl, (msg_dx hn.fpd (hX5.trans hX18))⟩, rfl⟩, (hX5.trans hX18), rfl, hS⟩
set_option maxHeartbeats 8000000 in
theorem narr_reqnew38 {w0 w : World} {F : List Chunk} {b bo : Nat} {st : NS} {sr : Srv} {L D : Chunk} {vs' : List GV} {bs : List UInt8} (hS : St w0 w (L :: D :: F)) (hN : NUP w0 b bo st sr L D) (p : PN) (hpt : p.to = st.c.id) {d : Value} (hd : RdSX w0 (D :: F) 1 d p.da.length (rows encB p.da)) (hga : gaddM st.gs p = some (vs', some bs)) (m : MN) (hm : m.ok) (hbs : bs = encM m) (h1 : ¬ m.to = 0) (h2 : ¬ m.to = st.c.rep) (h3 : m.to = st.c.port) (hbr : st.ps.length < st.c.ro) (hsd : ∀ x ∈ st.sd, ¬ x.1 = m.rp) :
 Ret Tryz.prog 38 #[vP b 0, .agg #[vI p.fr, vI p.to, vU p.id, vI p.ix, vI p.cn, d]] w (fun v w' => ∃ L' D', NUP w0 b bo { st with gs := vs', ps := st.ps ++ [m], sd := st.sd ++ [(m.rp, p.fr)] } sr L' D' ∧ DX w0 D D' ∧ v = yS ∧ St w0 w' (L' :: D' :: F)) := by
 obtain ⟨B, d', rfl, hmd, hdx⟩ := (hd _ (hS.tail 1 rfl)).open'
 have hm0 := hm
 obtain ⟨hk1, hk2, hk3, hk4, hk5, hk6, hk7, hk8, hk9, hk10, hk11⟩ := hm
 obtain ⟨sv, bd, bg, bc, bp, bx, mp, ob, el, cl, ul, pl2, LS, LG, LC, LP, LB, LV, hn, rfl⟩ := hN
 replace hS : St w0 w ([(b, rowO [vI st.c.id, vI st.c.ki, vI st.c.no, vI st.c.pc, vI st.c.wa, vI st.c.tr, vI st.c.ag, vI st.c.pg, vI st.c.ro, vP bo 0, yT, vI st.c.now, vU st.c.sent, vU st.c.rep, vU st.c.port, vU st.c.r0, vW st.c.r1, vB st.c.r2, vU st.c.r3, sv, vP bd 0, vP bg 0, vP bc 0, vP bp 0, vP bx 0, .map (some mp)] 121)] :: LS :: LG :: LC :: LP :: LB :: [(mp, ob)] :: LV :: D :: F) := hS.cast (by simp)
 refine enter (vs := [vP b 0, .agg #[vI p.fr, vI p.to, vU p.id, vI p.ix, vI p.cn, .slice B p.da.length d']]) 144 Tryz.func38 rfl rfl (by simp) ?_; intro a hA
 refine zs (zr ?_)
 refine st_box hA hS [vI p.fr, vI p.to, vU p.id, vI p.ix, vI p.cn, .slice B p.da.length d'] rfl rfl rfl rfl rfl (by decide) fun b1 w2 a hS hA => ?_
 refine zR 1 ((4, yS) :: _) hA rfl fun a hA => zn (zx (zs (zs ?_)))
 refine zD0 hS [] [(0, true), (1, true), (2, true), (3, true), (4, true), (5, true), (6, true), (7, true), (8, true), (9, true), (10, true), (11, true), (12, true), (13, true)] mixed (by kernel_rfl) (by rintro c a w ⟨_, _, h, _⟩; cases h) (by rfl) (by kernel_rfl) ?_
 replace hS := hS.drew
 refine zW 3 ((11, vP b 10) :: (10, vP b 0) :: (9, vP b 0) :: _) hA hS rfl fun a hA => zY hA hS 1 rfl rfl rfl rfl rfl rfl rfl rfl rfl rfl fun a hA => zW 3 ((15, vP b1 1) :: (14, yF) :: (13, yF) :: _) hA hS rfl fun a hA => zY hA hS 0 rfl rfl rfl rfl rfl rfl rfl rfl rfl rfl fun a hA => zW 3 ((19, vP b 0) :: (18, vP b 0) :: (17, vP b 0) :: _) hA hS rfl fun a hA => zY hA hS 1 rfl rfl rfl rfl rfl rfl rfl rfl rfl rfl fun a hA => zW 2 ((22, .bool (((p.to : Nat) : Int) != ((st.c.id : Nat) : Int))) :: (21, .bool (((p.to : Nat) : Int) != ((st.c.id : Nat) : Int))) :: _) hA hS rfl fun a hA => ze (zx ?_)
 have hc3 : ((p.to : Nat) : Int) = ((st.c.id : Nat) : Int) := by omega
 replace hA := hA.rw 22 (v' := yF) rfl (vb_ne_f hc3)
 refine cd_cond_f hA rfl (zk (zx (zs ?_)))
 replace hS := hS.m9.m4
 refine zD2 hS [] [(0, true), (1, true), (2, true), (3, true), (4, true), (5, false), (6, true), (7, true), (8, true), (9, true), (10, true)] mixed (by kernel_rfl) (by rintro c a w ⟨_, _, h, _⟩; cases h) (by rfl) (by kernel_rfl) ?_
 replace hS := hS.drew
 refine zW 3 ((26, vP b 21) :: (25, vP b 0) :: (24, vP b 0) :: _) hA (hS.tail 2 rfl) rfl fun a hA => zY hA (hS.tail 2 rfl) 1 rfl rfl rfl rfl rfl rfl rfl rfl rfl rfl fun a hA => zYA hA (hS.tail 2 rfl) 0 [vI p.fr, vI p.to, vU p.id, vI p.ix, vI p.cn, .slice B p.da.length d'] rfl rfl rfl rfl rfl rfl rfl rfl rfl rfl rfl fun a hA => dr_b (o := _) rfl ?_
 replace hS := hS.m1.m1
 refine st_call0 hA rfl rfl rfl isfn60 rfl rfl (by decide) (gaddA hS hn.fgs p (fun w' h => hd _ (St.dmid (R := [[(b1, rowO [vI p.fr, vI p.to, vU p.id, vI p.ix, vI p.cn, .slice B p.da.length d'] 94)], [(b, rowO [vI st.c.id, vI st.c.ki, vI st.c.no, vI st.c.pc, vI st.c.wa, vI st.c.tr, vI st.c.ag, vI st.c.pg, vI st.c.ro, vP bo 0, yT, vI st.c.now, vU st.c.sent, vU st.c.rep, vU st.c.port, vU st.c.r0, vW st.c.r1, vB st.c.r2, vU st.c.r3, sv, vP bd 0, vP bg 0, vP bc 0, vP bp 0, vP bx 0, .map (some mp)] 121)], LS, LC, LP, LB, [(mp, ob)], LV]) h)) hga) ?_
 clear hA hS; rintro _ w4 a ⟨LG2, D2, Cb, Ab, cb, hg2, hXg, hOb, rfl, hS⟩ hA; have hcb := hOb.rcap
 have hX5 : DX w0 D D2 := hXg
 refine zi (hS.tail 3 rfl) (zW 5 ((6, yT) :: (5, .slice Ab bs.length cb) :: (31, yT) :: (30, .slice Ab bs.length cb) :: (23, .tuple #[.slice Ab bs.length cb, yT]) :: _) hA (hS.tail 3 rfl) rfl fun a hA => ze (zx (zs (zs (zr (zR 2 ((33, yF) :: (32, yT) :: _) hA rfl fun a hA => zn (zx (cd_cond_f hA rfl (zk (zx (zs (zr (zR 1 ((35, .slice Ab bs.length cb) :: _) hA rfl fun a hA => ?_)))))))))))))
 refine st_call0 hA rfl rfl rfl isfn61 rfl rfl (by decide) (hdec61 hS (b := bs) (RdS.own hOb 2 rfl) m hm0 hbs) ?_
 clear hA hS; rintro _ w9 a ⟨A6, c7, C8, hO8, rfl, hS⟩ hA
 obtain ⟨_, _, _, hmc7, hxc7⟩ := hO8.open'
 refine zR 3 ((38, yN) :: (37, .agg #[vU m.to, vU m.rp, vW m.id, vH m.op, vH m.st, vU m.po, vW m.ob, vB m.ri, vU m.ck, vU m.ar, .slice A6 m.da.length c7]) :: (34, .tuple #[.agg #[vU m.to, vU m.rp, vW m.id, vH m.op, vH m.st, vU m.po, vW m.ob, vB m.ri, vU m.ck, vU m.ar, .slice A6 m.da.length c7], yN]) :: _) hA rfl fun a hA => ?_
 refine st_alloc tbOk hA hS [yU, yU, yW, yH, yH, yU, yW, yB, yU, yU, yS] rfl rfl rfl rfl rfl (by decide) fun b10 w11 a hS hA => ?_
 refine st_store tbOk hA hS [vU m.to, vU m.rp, vW m.id, vH m.op, vH m.st, vU m.po, vW m.ob, vB m.ri, vU m.ck, vU m.ar, .slice A6 m.da.length c7] [vU m.to, vU m.rp, vW m.id, vH m.op, vH m.st, vU m.po, vW m.ob, vB m.ri, vU m.ck, vU m.ar, .slice A6 m.da.length c7] rfl rfl rfl rfl rfl rfl (zn1 rfl) (zle rfl) rfl rfl rfl fun w12 hS => ?_
 refine zR 1 ((8, yN) :: _) hA rfl fun a hA => zn (zx (zs (zs (zr (zR 2 ((40, yF) :: (39, yN) :: _) hA rfl fun a hA => zn (zx (cd_cond_f hA rfl (zk (zx (zs (zb (zs (zr (zR 1 ((42, vP b10 0) :: _) hA rfl fun a hA => zL hA hS 0 rfl rfl rfl rfl rfl rfl rfl rfl rfl fun a hA => zR 2 ((45, .bool (((m.to : Nat) : Int) == 0)) :: (44, .bool (((m.to : Nat) : Int) == 0)) :: _) hA rfl fun a hA => ?_))))))))))))))
 have hc13 : ¬ (((m.to : Nat) : Int) = 0) := by omega
 replace hA := hA.rw 44 (v' := yF) rfl (vb_eq_f hc13)
 replace hA := hA.rw 45 (v' := yF) rfl (vb_eq_f hc13)
 refine zR 5 ((41, yF) :: (49, yF) :: (48, undef) :: (47, undef) :: (46, undef) :: _) hA rfl fun a hA => zn (zx (cd_cond_f hA rfl (zs (zr (zR 1 ((72, vP b10 0) :: _) hA rfl fun a hA => zL hA hS 0 rfl rfl rfl rfl rfl rfl rfl rfl rfl fun a hA => zR 2 ((75, .bool (((m.to : Nat) : Int) == 0)) :: (74, .bool (((m.to : Nat) : Int) == 0)) :: _) hA rfl fun a hA => ?_)))))
 have hc14 : ¬ (((m.to : Nat) : Int) = 0) := by omega
 replace hA := hA.rw 74 (v' := yF) rfl (vb_eq_f hc14)
 replace hA := hA.rw 75 (v' := yF) rfl (vb_eq_f hc14)
 refine zR 5 ((71, yF) :: (79, yF) :: (78, undef) :: (77, undef) :: (76, undef) :: _) hA rfl fun a hA => zn (zx (cd_cond_f hA rfl (zs ?_)))
 refine zD0 hS [] [(0, true), (1, true), (2, true), (3, true), (4, true), (5, true), (6, true), (7, true), (8, true), (9, true), (10, true), (11, true), (12, true), (13, true), (14, true)] mixed (by kernel_rfl) (by rintro c a w ⟨_, _, h, _⟩; cases h) (by rfl) (by kernel_rfl) ?_
 replace hS := hS.drew
 refine zW 1 ((94, vP b10 0) :: _) hA hS rfl fun a hA => zY hA hS 0 rfl rfl rfl rfl rfl rfl rfl rfl rfl rfl fun a hA => zW 3 ((98, vP b 13) :: (97, vP b 0) :: (96, vP b 0) :: _) hA hS rfl fun a hA => zY hA hS 6 rfl rfl rfl rfl rfl rfl rfl rfl rfl rfl fun a hA => zW 2 ((101, .bool (((m.to : Nat) : Int) == ((st.c.rep : Nat) : Int))) :: (100, .bool (((m.to : Nat) : Int) == ((st.c.rep : Nat) : Int))) :: _) hA hS rfl fun a hA => ?_
 have hc15 : ¬ (((m.to : Nat) : Int) = ((st.c.rep : Nat) : Int)) := by omega
 replace hA := hA.rw 100 (v' := yF) rfl (vb_eq_f hc15)
 replace hA := hA.rw 101 (v' := yF) rfl (vb_eq_f hc15)
 refine zW 7 ((93, yF) :: (107, yF) :: (106, undef) :: (105, undef) :: (104, undef) :: (103, undef) :: (102, undef) :: _) hA hS rfl fun a hA => ze (zx (cd_cond_f hA rfl (zs ?_)))
 refine zD0 hS [] [(0, true), (1, true), (2, true), (3, true), (4, true), (5, true), (6, true), (7, true), (8, true), (9, true), (10, true), (11, true), (12, true), (13, true), (14, true)] mixed (by kernel_rfl) (by rintro c a w ⟨_, _, h, _⟩; cases h) (by rfl) (by kernel_rfl) ?_
 replace hS := hS.drew
 refine zW 1 ((115, vP b10 0) :: _) hA hS rfl fun a hA => zY hA hS 0 rfl rfl rfl rfl rfl rfl rfl rfl rfl rfl fun a hA => zW 3 ((119, vP b 14) :: (118, vP b 0) :: (117, vP b 0) :: _) hA hS rfl fun a hA => zY hA hS 6 rfl rfl rfl rfl rfl rfl rfl rfl rfl rfl fun a hA => zW 2 ((122, .bool (((m.to : Nat) : Int) == ((st.c.port : Nat) : Int))) :: (121, .bool (((m.to : Nat) : Int) == ((st.c.port : Nat) : Int))) :: _) hA hS rfl fun a hA => ?_
 have hc16 : ((m.to : Nat) : Int) = ((st.c.port : Nat) : Int) := by omega
 replace hA := hA.rw 121 (v' := yT) rfl (vb_eq_t hc16)
 replace hA := hA.rw 122 (v' := yT) rfl (vb_eq_t hc16)
 refine zW 3 ((125, vP b 14) :: (124, vP b 0) :: (123, vP b 0) :: _) hA hS rfl fun a hA => zY hA hS 6 rfl rfl rfl rfl rfl rfl rfl rfl rfl rfl fun a hA => zW 3 ((114, .bool (((st.c.port : Nat) : Int) != 0)) :: (128, .bool (((st.c.port : Nat) : Int) != 0)) :: (127, .bool (((st.c.port : Nat) : Int) != 0)) :: _) hA hS rfl fun a hA => ze (zx ?_)
 have hc17 : ¬ (((st.c.port : Nat) : Int) = 0) := by omega
 replace hA := hA.rw 114 (v' := yT) rfl (vb_ne_t hc17)
 refine cd_cond_t hA rfl (zs ?_)
 replace hS := hS.m3.m10
 refine zD2 hS [] [(0, true), (1, true), (2, true), (3, true), (4, true), (5, false), (6, true)] mixed (by kernel_rfl) (by rintro c a w ⟨_, _, h, _⟩; cases h) (by rfl) (by kernel_rfl) ?_
 replace hS := hS.drew
 refine zW 3 ((131, vP b 24) :: (130, vP b 0) :: (129, vP b 0) :: _) hA (hS.tail 2 rfl) rfl fun a hA => zY hA (hS.tail 2 rfl) 5 rfl rfl rfl rfl rfl rfl rfl rfl rfl rfl fun a hA => zYA hA (hS.tail 2 rfl) 0 [vU m.to, vU m.rp, vW m.id, vH m.op, vH m.st, vU m.po, vW m.ob, vB m.ri, vU m.ck, vU m.ar, .slice A6 m.da.length c7] rfl rfl rfl rfl rfl rfl rfl rfl rfl rfl rfl fun a hA => dr_b (o := _) rfl ?_
 replace hS := hS.m1.m1
 refine st_call0 hA rfl rfl rfl isfn64 rfl rfl (by decide) (put_p_room64 hS hn.fbx ((m.to : Nat) : Int) ((m.rp : Nat) : Int) ((m.id : Nat) : Int) ((m.op : Nat) : Int) ((m.st : Nat) : Int) ((m.po : Nat) : Int) ((m.ob : Nat) : Int) ((m.ri : Nat) : Int) ((m.ck : Nat) : Int) ((m.ar : Nat) : Int) (bs := m.da) (RdS.x (RdS.own hO8 2 rfl)) (by omega) (by rw [map_len9 hn.fpl]; exact hbr)) ?_
 clear hA hS; rintro _ w18 a ⟨LB2, E3, A3, c3, hb2, hE3, rfl, hS⟩ hA
 have hX19 : DX w0 D2 (E3 ++ D2) := DX.refl.step
 refine zi (hS.tail 2 rfl) (zW 1 ((135, yT) :: _) hA (hS.tail 2 rfl) rfl fun a hA => ze (zx (cd_cond_t hA rfl ?_)))
 replace hS := hS.m11
 refine zD1 hS [8] [(0, true), (1, true), (2, true), (3, true), (4, true), (5, true), (6, true), (7, true), (8, false)] mixed (by kernel_rfl) (by rintro c a w ⟨_, _, h, _⟩; cases h) (by rfl) (by kernel_rfl) ?_
 replace hS := hS.drew
 refine zW 3 ((138, vP b 25) :: (137, vP b 0) :: (136, vP b 0) :: _) hA (hS.tail 1 rfl) rfl fun a hA => zY hA (hS.tail 1 rfl) 7 rfl rfl rfl rfl rfl rfl rfl rfl rfl rfl fun a hA => zW 1 ((140, vP b10 1) :: _) hA (hS.tail 1 rfl) rfl fun a hA => zY hA (hS.tail 1 rfl) 2 rfl rfl rfl rfl rfl rfl rfl rfl rfl rfl fun a hA => zW 1 ((142, vP b1 0) :: _) hA (hS.tail 1 rfl) rfl fun a hA => zY hA (hS.tail 1 rfl) 6 rfl rfl rfl rfl rfl rfl rfl rfl rfl rfl fun a hA => dr_b (o := _) rfl ?_
 refine st_mapNew tbOk hA hS (by first | exact .inl rfl | exact .inr rfl) rfl rfl rfl rfl rfl rfl rfl hn.fmp (sdv_no hsd) rfl rfl ?_; clear hS; intro w20 ob21 hS hm22
 refine dr_nil (.inl (by decide)) (ze (zm (zx (zs (zr (zR 1 ((4, yS) :: _) hA rfl fun a hA => zn (zx ?_)))))))
 refine wp_ret ?_
 refine ret1 (fn := Tryz.f38) hA rfl rfl ?_
 replace hS := hS.m3.d0.m3.d0.m4.d0.m4.d0.m2.m8.m2.m3.m8.m8.m6.m8.m8
 replace hS : St w0 w20 (((b, rowO [vI st.c.id, vI st.c.ki, vI st.c.no, vI st.c.pc, vI st.c.wa, vI st.c.tr, vI st.c.ag, vI st.c.pg, vI st.c.ro, vP bo 0, yT, vI st.c.now, vU st.c.sent, vU st.c.rep, vU st.c.port, vU st.c.r0, vW st.c.r1, vB st.c.r2, vU st.c.r3, sv, vP bd 0, vP bg 0, vP bc 0, vP bp 0, vP bx 0, .map (some mp)] 121) :: (LS ++ (LG2 ++ (LC ++ (LP ++ (LB2 ++ ((mp, ob21) :: LV))))))) :: (E3 ++ D2) :: F) := hS.cast (by simp)
 exact ⟨_, (E3 ++ D2), ⟨_, _, _, _, _, _, _, _, _, _, _, _, _, _, _, _, _, _, ⟨hn.fsr, (hg2.dx hX19), hn.fcr, hn.fpm, hb2, (sdv_app hm22), (hn.fsv.dx (hX5.trans hX19)), hn.fel, (ent_dx hn.fed (hX5.trans hX19)), hn.fcl, ((hX5.trans hX19).calls hn.fcd), hn.ful, (msg_dx hn.fud (hX5.trans hX19)), (map_snoc9 (y := m) hn.fpl rfl), (all_snoc9 (msg_dx hn.fpd hX5) (fun y hy => encMessage_left hy) hE3.right)⟩, rfl⟩, (hX5.trans hX19), rfl, hS⟩
set_option maxHeartbeats 8000000 in
theorem narr_reqhit38 {w0 w : World} {F : List Chunk} {b bo : Nat} {st : NS} {sr : Srv} {L D : Chunk} {vs' : List GV} {bs : List UInt8} (hS : St w0 w (L :: D :: F)) (hN : NUP w0 b bo st sr L D) (p : PN) (hpt : p.to = st.c.id) {d : Value} (hd : RdSX w0 (D :: F) 1 d p.da.length (rows encB p.da)) (hga : gaddM st.gs p = some (vs', some bs)) (m : MN) (hm : m.ok) (hbs : bs = encM m) (h1 : ¬ m.to = 0) (h2 : ¬ m.to = st.c.rep) (h3 : m.to = st.c.port) (hbr : st.ps.length < st.c.ro) {js z0 : Nat} (hj : st.sd[js]? = some (m.rp, z0)) (hjn : ∀ (q : Nat) (y : Nat × Nat), q < js → st.sd[q]? = some y → ¬ y.1 = m.rp) :
 Ret Tryz.prog 38 #[vP b 0, .agg #[vI p.fr, vI p.to, vU p.id, vI p.ix, vI p.cn, d]] w (fun v w' => ∃ L' D', NUP w0 b bo { st with gs := vs', ps := st.ps ++ [m], sd := st.sd.set js (m.rp, p.fr) } sr L' D' ∧ DX w0 D D' ∧ v = yS ∧ St w0 w' (L' :: D' :: F)) := by
 obtain ⟨B, d', rfl, hmd, hdx⟩ := (hd _ (hS.tail 1 rfl)).open'
 have hm0 := hm
 obtain ⟨hk1, hk2, hk3, hk4, hk5, hk6, hk7, hk8, hk9, hk10, hk11⟩ := hm
 obtain ⟨sv, bd, bg, bc, bp, bx, mp, ob, el, cl, ul, pl2, LS, LG, LC, LP, LB, LV, hn, rfl⟩ := hN
 replace hS : St w0 w ([(b, rowO [vI st.c.id, vI st.c.ki, vI st.c.no, vI st.c.pc, vI st.c.wa, vI st.c.tr, vI st.c.ag, vI st.c.pg, vI st.c.ro, vP bo 0, yT, vI st.c.now, vU st.c.sent, vU st.c.rep, vU st.c.port, vU st.c.r0, vW st.c.r1, vB st.c.r2, vU st.c.r3, sv, vP bd 0, vP bg 0, vP bc 0, vP bp 0, vP bx 0, .map (some mp)] 121)] :: LS :: LG :: LC :: LP :: LB :: [(mp, ob)] :: LV :: D :: F) := hS.cast (by simp)
 refine enter (vs := [vP b 0, .agg #[vI p.fr, vI p.to, vU p.id, vI p.ix, vI p.cn, .slice B p.da.length d']]) 144 Tryz.func38 rfl rfl (by simp) ?_; intro a hA
 refine zs (zr ?_)
 refine st_box hA hS [vI p.fr, vI p.to, vU p.id, vI p.ix, vI p.cn, .slice B p.da.length d'] rfl rfl rfl rfl rfl (by decide) fun b1 w2 a hS hA => ?_
 refine zR 1 ((4, yS) :: _) hA rfl fun a hA => zn (zx (zs (zs ?_)))
 refine zD0 hS [] [(0, true), (1, true), (2, true), (3, true), (4, true), (5, true), (6, true), (7, true), (8, true), (9, true), (10, true), (11, true), (12, true), (13, true)] mixed (by kernel_rfl) (by rintro c a w ⟨_, _, h, _⟩; cases h) (by rfl) (by kernel_rfl) ?_
 replace hS := hS.drew
 refine zW 3 ((11, vP b 10) :: (10, vP b 0) :: (9, vP b 0) :: _) hA hS rfl fun a hA => zY hA hS 1 rfl rfl rfl rfl rfl rfl rfl rfl rfl rfl fun a hA => zW 3 ((15, vP b1 1) :: (14, yF) :: (13, yF) :: _) hA hS rfl fun a hA => zY hA hS 0 rfl rfl rfl rfl rfl rfl rfl rfl rfl rfl fun a hA => zW 3 ((19, vP b 0) :: (18, vP b 0) :: (17, vP b 0) :: _) hA hS rfl fun a hA => zY hA hS 1 rfl rfl rfl rfl rfl rfl rfl rfl rfl rfl fun a hA => zW 2 ((22, .bool (((p.to : Nat) : Int) != ((st.c.id : Nat) : Int))) :: (21, .bool (((p.to : Nat) : Int) != ((st.c.id : Nat) : Int))) :: _) hA hS rfl fun a hA => ze (zx ?_)
 have hc3 : ((p.to : Nat) : Int) = ((st.c.id : Nat) : Int) := by omega
 replace hA := hA.rw 22 (v' := yF) rfl (vb_ne_f hc3)
 refine cd_cond_f hA rfl (zk (zx (zs ?_)))
 replace hS := hS.m9.m4
 refine zD2 hS [] [(0, true), (1, true), (2, true), (3, true), (4, true), (5, false), (6, true), (7, true), (8, true), (9, true), (10, true)] mixed (by kernel_rfl) (by rintro c a w ⟨_, _, h, _⟩; cases h) (by rfl) (by kernel_rfl) ?_
 replace hS := hS.drew
 refine zW 3 ((26, vP b 21) :: (25, vP b 0) :: (24, vP b 0) :: _) hA (hS.tail 2 rfl) rfl fun a hA => zY hA (hS.tail 2 rfl) 1 rfl rfl rfl rfl rfl rfl rfl rfl rfl rfl fun a hA => zYA hA (hS.tail 2 rfl) 0 [vI p.fr, vI p.to, vU p.id, vI p.ix, vI p.cn, .slice B p.da.length d'] rfl rfl rfl rfl rfl rfl rfl rfl rfl rfl rfl fun a hA => dr_b (o := _) rfl ?_
 replace hS := hS.m1.m1
 refine st_call0 hA rfl rfl rfl isfn60 rfl rfl (by decide) (gaddA hS hn.fgs p (fun w' h => hd _ (St.dmid (R := [[(b1, rowO [vI p.fr, vI p.to, vU p.id, vI p.ix, vI p.cn, .slice B p.da.length d'] 94)], [(b, rowO [vI st.c.id, vI st.c.ki, vI st.c.no, vI st.c.pc, vI st.c.wa, vI st.c.tr, vI st.c.ag, vI st.c.pg, vI st.c.ro, vP bo 0, yT, vI st.c.now, vU st.c.sent, vU st.c.rep, vU st.c.port, vU st.c.r0, vW st.c.r1, vB st.c.r2, vU st.c.r3, sv, vP bd 0, vP bg 0, vP bc 0, vP bp 0, vP bx 0, .map (some mp)] 121)], LS, LC, LP, LB, [(mp, ob)], LV]) h)) hga) ?_
 clear hA hS; rintro _ w4 a ⟨LG2, D2, Cb, Ab, cb, hg2, hXg, hOb, rfl, hS⟩ hA; have hcb := hOb.rcap
 have hX5 : DX w0 D D2 := hXg
 refine zi (hS.tail 3 rfl) (zW 5 ((6, yT) :: (5, .slice Ab bs.length cb) :: (31, yT) :: (30, .slice Ab bs.length cb) :: (23, .tuple #[.slice Ab bs.length cb, yT]) :: _) hA (hS.tail 3 rfl) rfl fun a hA => ze (zx (zs (zs (zr (zR 2 ((33, yF) :: (32, yT) :: _) hA rfl fun a hA => zn (zx (cd_cond_f hA rfl (zk (zx (zs (zr (zR 1 ((35, .slice Ab bs.length cb) :: _) hA rfl fun a hA => ?_)))))))))))))
 refine st_call0 hA rfl rfl rfl isfn61 rfl rfl (by decide) (hdec61 hS (b := bs) (RdS.own hOb 2 rfl) m hm0 hbs) ?_
 clear hA hS; rintro _ w9 a ⟨A6, c7, C8, hO8, rfl, hS⟩ hA
 obtain ⟨_, _, _, hmc7, hxc7⟩ := hO8.open'
 refine zR 3 ((38, yN) :: (37, .agg #[vU m.to, vU m.rp, vW m.id, vH m.op, vH m.st, vU m.po, vW m.ob, vB m.ri, vU m.ck, vU m.ar, .slice A6 m.da.length c7]) :: (34, .tuple #[.agg #[vU m.to, vU m.rp, vW m.id, vH m.op, vH m.st, vU m.po, vW m.ob, vB m.ri, vU m.ck, vU m.ar, .slice A6 m.da.length c7], yN]) :: _) hA rfl fun a hA => ?_
 refine st_alloc tbOk hA hS [yU, yU, yW, yH, yH, yU, yW, yB, yU, yU, yS] rfl rfl rfl rfl rfl (by decide) fun b10 w11 a hS hA => ?_
 refine st_store tbOk hA hS [vU m.to, vU m.rp, vW m.id, vH m.op, vH m.st, vU m.po, vW m.ob, vB m.ri, vU m.ck, vU m.ar, .slice A6 m.da.length c7] [vU m.to, vU m.rp, vW m.id, vH m.op, vH m.st, vU m.po, vW m.ob, vB m.ri, vU m.ck, vU m.ar, .slice A6 m.da.length c7] rfl rfl rfl rfl rfl rfl (zn1 rfl) (zle rfl) rfl rfl rfl fun w12 hS => ?_
 refine zR 1 ((8, yN) :: _) hA rfl fun a hA => zn (zx (zs (zs (zr (zR 2 ((40, yF) :: (39, yN) :: _) hA rfl fun a hA => zn (zx (cd_cond_f hA rfl (zk (zx (zs (zb (zs (zr (zR 1 ((42, vP b10 0) :: _) hA rfl fun a hA => zL hA hS 0 rfl rfl rfl rfl rfl rfl rfl rfl rfl fun a hA => zR 2 ((45, .bool (((m.to : Nat) : Int) == 0)) :: (44, .bool (((m.to : Nat) : Int) == 0)) :: _) hA rfl fun a hA => ?_))))))))))))))
 have hc13 : ¬ (((m.to : Nat) : Int) = 0) := by omega
 replace hA := hA.rw 44 (v' := yF) rfl (vb_eq_f hc13)
 replace hA := hA.rw 45 (v' := yF) rfl (vb_eq_f hc13)
 refine zR 5 ((41, yF) :: (49, yF) :: (48, undef) :: (47, undef) :: (46, undef) :: _) hA rfl fun a hA => zn (zx (cd_cond_f hA rfl (zs (zr (zR 1 ((72, vP b10 0) :: _) hA rfl fun a hA => zL hA hS 0 rfl rfl rfl rfl rfl rfl rfl rfl rfl fun a hA => zR 2 ((75, .bool (((m.to : Nat) : Int) == 0)) :: (74, .bool (((m.to : Nat) : Int) == 0)) :: _) hA rfl fun a hA => ?_)))))
 have hc14 : ¬ (((m.to : Nat) : Int) = 0) := by omega
 replace hA := hA.rw 74 (v' := yF) rfl (vb_eq_f hc14)
 replace hA := hA.rw 75 (v' := yF) rfl (vb_eq_f hc14)
 refine zR 5 ((71, yF) :: (79, yF) :: (78, undef) :: (77, undef) :: (76, undef) :: _) hA rfl fun a hA => zn (zx (cd_cond_f hA rfl (zs ?_)))
 refine zD0 hS [] [(0, true), (1, true), (2, true), (3, true), (4, true), (5, true), (6, true), (7, true), (8, true), (9, true), (10, true), (11, true), (12, true), (13, true), (14, true)] mixed (by kernel_rfl) (by rintro c a w ⟨_, _, h, _⟩; cases h) (by rfl) (by kernel_rfl) ?_
 replace hS := hS.drew
 refine zW 1 ((94, vP b10 0) :: _) hA hS rfl fun a hA => zY hA hS 0 rfl rfl rfl rfl rfl rfl rfl rfl rfl rfl fun a hA => zW 3 ((98, vP b 13) :: (97, vP b 0) :: (96, vP b 0) :: _) hA hS rfl fun a hA => zY hA hS 6 rfl rfl rfl rfl rfl rfl rfl rfl rfl rfl fun a hA => zW 2 ((101, .bool (((m.to : Nat) : Int) == ((st.c.rep : Nat) : Int))) :: (100, .bool (((m.to : Nat) : Int) == ((st.c.rep : Nat) : Int))) :: _) hA hS rfl fun a hA => ?_
 have hc15 : ¬ (((m.to : Nat) : Int) = ((st.c.rep : Nat) : Int)) := by omega
 replace hA := hA.rw 100 (v' := yF) rfl (vb_eq_f hc15)
 replace hA := hA.rw 101 (v' := yF) rfl (vb_eq_f hc15)
 refine zW 7 ((93, yF) :: (107, yF) :: (106, undef) :: (105, undef) :: (104, undef) :: (103, undef) :: (102, undef) :: _) hA hS rfl fun a hA => ze (zx (cd_cond_f hA rfl (zs ?_)))
 refine zD0 hS [] [(0, true), (1, true), (2, true), (3, true), (4, true), (5, true), (6, true), (7, true), (8, true), (9, true), (10, true), (11, true), (12, true), (13, true), (14, true)] mixed (by kernel_rfl) (by rintro c a w ⟨_, _, h, _⟩; cases h) (by rfl) (by kernel_rfl) ?_
 replace hS := hS.drew
 refine zW 1 ((115, vP b10 0) :: _) hA hS rfl fun a hA => zY hA hS 0 rfl rfl rfl rfl rfl rfl rfl rfl rfl rfl fun a hA => zW 3 ((119, vP b 14) :: (118, vP b 0) :: (117, vP b 0) :: _) hA hS rfl fun a hA => zY hA hS 6 rfl rfl rfl rfl rfl rfl rfl rfl rfl rfl fun a hA => zW 2 ((122, .bool (((m.to : Nat) : Int) == ((st.c.port : Nat) : Int))) :: (121, .bool (((m.to : Nat) : Int) == ((st.c.port : Nat) : Int))) :: _) hA hS rfl fun a hA => ?_
 have hc16 : ((m.to : Nat) : Int) = ((st.c.port : Nat) : Int) := by omega
 replace hA := hA.rw 121 (v' := yT) rfl (vb_eq_t hc16)
 replace hA := hA.rw 122 (v' := yT) rfl (vb_eq_t hc16)
 refine zW 3 ((125, vP b 14) :: (124, vP b 0) :: (123, vP b 0) :: _) hA hS rfl fun a hA => zY hA hS 6 rfl rfl rfl rfl rfl rfl rfl rfl rfl rfl fun a hA => zW 3 ((114, .bool (((st.c.port : Nat) : Int) != 0)) :: (128, .bool (((st.c.port : Nat) : Int) != 0)) :: (127, .bool (((st.c.port : Nat) : Int) != 0)) :: _) hA hS rfl fun a hA => ze (zx ?_)
 have hc17 : ¬ (((st.c.port : Nat) : Int) = 0) := by omega
 replace hA := hA.rw 114 (v' := yT) rfl (vb_ne_t hc17)
 refine cd_cond_t hA rfl (zs ?_)
 replace hS := hS.m3.m10
 refine zD2 hS [] [(0, true), (1, true), (2, true), (3, true), (4, true), (5, false), (6, true)] mixed (by kernel_rfl) (by rintro c a w ⟨_, _, h, _⟩; cases h) (by rfl) (by kernel_rfl) ?_
 replace hS := hS.drew
 refine zW 3 ((131, vP b 24) :: (130, vP b 0) :: (129, vP b 0) :: _) hA (hS.tail 2 rfl) rfl fun a hA => zY hA (hS.tail 2 rfl) 5 rfl rfl rfl rfl rfl rfl rfl rfl rfl rfl fun a hA => zYA hA (hS.tail 2 rfl) 0 [vU m.to, vU m.rp, vW m.id, vH m.op, vH m.st, vU m.po, vW m.ob, vB m.ri, vU m.ck, vU m.ar, .slice A6 m.da.length c7] rfl rfl rfl rfl rfl rfl rfl rfl rfl rfl rfl fun a hA => dr_b (o := _) rfl ?_
 replace hS := hS.m1.m1
 refine st_call0 hA rfl rfl rfl isfn64 rfl rfl (by decide) (put_p_room64 hS hn.fbx ((m.to : Nat) : Int) ((m.rp : Nat) : Int) ((m.id : Nat) : Int) ((m.op : Nat) : Int) ((m.st : Nat) : Int) ((m.po : Nat) : Int) ((m.ob : Nat) : Int) ((m.ri : Nat) : Int) ((m.ck : Nat) : Int) ((m.ar : Nat) : Int) (bs := m.da) (RdS.x (RdS.own hO8 2 rfl)) (by omega) (by rw [map_len9 hn.fpl]; exact hbr)) ?_
 clear hA hS; rintro _ w18 a ⟨LB2, E3, A3, c3, hb2, hE3, rfl, hS⟩ hA
 have hX19 : DX w0 D2 (E3 ++ D2) := DX.refl.step
 refine zi (hS.tail 2 rfl) (zW 1 ((135, yT) :: _) hA (hS.tail 2 rfl) rfl fun a hA => ze (zx (cd_cond_t hA rfl ?_)))
 replace hS := hS.m11
 refine zD1 hS [8] [(0, true), (1, true), (2, true), (3, true), (4, true), (5, true), (6, true), (7, true), (8, false)] mixed (by kernel_rfl) (by rintro c a w ⟨_, _, h, _⟩; cases h) (by rfl) (by kernel_rfl) ?_
 replace hS := hS.drew
 refine zW 3 ((138, vP b 25) :: (137, vP b 0) :: (136, vP b 0) :: _) hA (hS.tail 1 rfl) rfl fun a hA => zY hA (hS.tail 1 rfl) 7 rfl rfl rfl rfl rfl rfl rfl rfl rfl rfl fun a hA => zW 1 ((140, vP b10 1) :: _) hA (hS.tail 1 rfl) rfl fun a hA => zY hA (hS.tail 1 rfl) 2 rfl rfl rfl rfl rfl rfl rfl rfl rfl rfl fun a hA => zW 1 ((142, vP b1 0) :: _) hA (hS.tail 1 rfl) rfl fun a hA => zY hA (hS.tail 1 rfl) 6 rfl rfl rfl rfl rfl rfl rfl rfl rfl rfl fun a hA => dr_b (o := _) rfl ?_
 refine st_mapHit (j := js) tbOk hA hS (by first | exact .inl rfl | exact .inr rfl) rfl rfl rfl rfl rfl rfl rfl hn.fmp (sdv_at hj) (sdv_bef hjn) rfl rfl ?_; clear hS; intro w20 ob21 hS hm22
 refine dr_nil (.inl (by decide)) (ze (zm (zx (zs (zr (zR 1 ((4, yS) :: _) hA rfl fun a hA => zn (zx ?_)))))))
 refine wp_ret ?_
 refine ret1 (fn := Tryz.f38) hA rfl rfl ?_
 replace hS := hS.m3.d0.m3.d0.m4.d0.m4.d0.m2.m8.m2.m3.m8.m8.m6.m8.m8
 replace hS : St w0 w20 (((b, rowO [vI st.c.id, vI st.c.ki, vI st.c.no, vI st.c.pc, vI st.c.wa, vI st.c.tr, vI st.c.ag, vI st.c.pg, vI st.c.ro, vP bo 0, yT, vI st.c.now, vU st.c.sent, vU st.c.rep, vU st.c.port, vU st.c.r0, vW st.c.r1, vB st.c.r2, vU st.c.r3, sv, vP bd 0, vP bg 0, vP bc 0, vP bp 0, vP bx 0, .map (some mp)] 121) :: (LS ++ (LG2 ++ (LC ++ (LP ++ (LB2 ++ ((mp, ob21) :: LV))))))) :: (E3 ++ D2) :: F) := hS.cast (by simp)
 exact ⟨_, (E3 ++ D2), ⟨_, _, _, _, _, _, _, _, _, _, _, _, _, _, _, _, _, _, ⟨hn.fsr, (hg2.dx hX19), hn.fcr, hn.fpm, hb2, (sdv_set hm22), (hn.fsv.dx (hX5.trans hX19)), hn.fel, (ent_dx hn.fed (hX5.trans hX19)), hn.fcl, ((hX5.trans hX19).calls hn.fcd), hn.ful, (msg_dx hn.fud (hX5.trans hX19)), (map_snoc9 (y := m) hn.fpl rfl), (all_snoc9 (msg_dx hn.fpd hX5) (fun y hy => encMessage_left hy) hE3.right)⟩, rfl⟩, (hX5.trans hX19), rfl, hS⟩
end Go.Proofs.YthiakdmhpfkjbaaGreatDoor

set_option linter.unusedVariables false
set_option linter.unusedSimpArgs false
set_option maxRecDepth 4000
namespace Go.Proofs.YthiakdmhpfkjbaaGreatDoor
open Go Go.SK
theorem map_cons9 {α β γ : Type} {f : α → γ} {g : β → γ} {l : List α} {y : β} {k : List β} (h : l.map f = (y :: k).map g) : ∃ x l', l = x :: l' ∧ f x = g y ∧ l'.map f = k.map g := by
  cases l with
  | nil => cases h
  | cons x l => rw [List.map_cons, List.map_cons] at h; injection h with h1 h2; exact ⟨x, l, rfl, h1, h2⟩
theorem map_nil9 {α β γ : Type} {f : α → γ} {g : β → γ} {l : List α} (h : l.map f = ([] : List β).map g) : l = [] := by
  cases l with
  | nil => rfl
  | cons x l => cases h
theorem fnd_of {el : List Ent} {es : List EA} {who id : Nat} (h : el.map est = es.map EA.t) (hno : ∀ y ∈ es, ¬ (y.who = who ∧ y.id = id)) : ∀ (i : Nat) (x : Ent), el[i]? = some x → fnd ((who : Nat) : Int) ((id : Nat) : Int) x = false := fun i x hx => by
  obtain ⟨y, hy, e⟩ := map_at9 h.symm hx
  have h1 := hno y (List.mem_of_getElem? hy)
  have e1 : ((y.who : Nat) : Int) = x.1 := congrArg (fun z => z.1) e
  have e2 : ((y.id : Nat) : Int) = x.2.1 := congrArg (fun z => z.2.1) e
  rw [fnd, Bool.and_eq_false_iff, beq_eq_false_iff_ne, beq_eq_false_iff_ne]
  omega
theorem SVO.mk {w0 : World} {b po bo nx bb : Nat} {os : List (Bool × Nat × Int × Int × Int)} {fl : List (Nat × List UInt8)} {L D : Chunk} (h : SVR w0 b po bo os fl nx bb L D) : SVO w0 bo po (.file os fl nx bb) (vP b 0) L D := ⟨b, rfl, h⟩
theorem last_at {α : Type} {l : List α} {x : α} : (l ++ [x])[l.length]? = some x := by simp
theorem bef_last {α : Type} {p : α → Bool} {l : List α} {x : α} (h : ∀ (i : Nat) (y : α), l[i]? = some y → p y = false) : ∀ (i : Nat) (y : α), i < l.length → (l ++ [x])[i]? = some y → p y = false := fun i y hi hy => h i y (by rwa [List.getElem?_append_left hi] at hy)
theorem call_set9 {w0 : World} {D E : Chunk} {cl : List Call} {k : Nat} {x : Call} {s t l : Int} {m0 m1 m2 m3 m4 m5 m6 m7 m8 m9 : Int} {A : Option Addr} {c : Nat} {bs : List UInt8} (h : ∀ x ∈ cl, encCall_dd w0 D x) (hx : cl[k]? = some x) (hE : DD w0 E A c bs) : ∀ z ∈ cl.set k (mkc (rq x) s t l (m0, m1, m2, m3, m4, m5, m6, m7, m8, m9, A, c, bs)), encCall_dd w0 (E ++ D) z := fun z hz => by
  rcases List.mem_or_eq_of_mem_set hz with hz | rfl
  · exact encCall_left (h z hz)
  · exact ⟨DD.left (h x (List.mem_of_getElem? hx)).1, hE.right⟩
set_option maxHeartbeats 8000000 in
theorem nwork_none42 {w0 w : World} {F : List Chunk} {b bo : Nat} {st : NS} {sr : Srv} {L D : Chunk} (hS : St w0 w (L :: D :: F)) (hN : NUP w0 b bo st sr L D) (hus : st.us = []) (hps : st.ps = []) :
 Ret Tryz.prog 42 #[vP b 0] w (fun v w' => ∃ L', NUP w0 b bo st sr L' D ∧ v = .tuple #[yS, yF] ∧ St w0 w' (L' :: D :: F)) := by
 obtain ⟨sv, bd, bg, bc, bp, bx, mp, ob, el, cl, ul, pl2, LS, LG, LC, LP, LB, LV, hn, rfl⟩ := hN
 replace hS : St w0 w ([(b, rowO [vI st.c.id, vI st.c.ki, vI st.c.no, vI st.c.pc, vI st.c.wa, vI st.c.tr, vI st.c.ag, vI st.c.pg, vI st.c.ro, vP bo 0, yT, vI st.c.now, vU st.c.sent, vU st.c.rep, vU st.c.port, vU st.c.r0, vW st.c.r1, vB st.c.r2, vU st.c.r3, sv, vP bd 0, vP bg 0, vP bc 0, vP bp 0, vP bx 0, .map (some mp)] 121)] :: LS :: LG :: LC :: LP :: LB :: [(mp, ob)] :: LV :: D :: F) := hS.cast (by simp)
 have hu0 : ul = [] := map_nil9 (by rw [hn.ful, hus]); have hp0 : pl2 = [] := map_nil9 (by rw [hn.fpl, hps]); have hbx0 := hn.fbx; rw [hu0, hp0] at hbx0
 refine enter (vs := [vP b 0]) 78 Tryz.func42 rfl rfl (by simp) ?_; intro a hA
 refine zs (zr (zR 2 ((3, yF) :: (2, yS) :: _) hA rfl fun a hA => zn (zx (zs (zs (zr (zR 3 ((11, vP b 10) :: (10, vP b 0) :: (9, vP b 0) :: _) hA rfl fun a hA => zL hA hS 0 rfl rfl rfl rfl rfl rfl rfl rfl rfl fun a hA => zR 1 ((13, yF) :: _) hA rfl fun a hA => zn (zx (cd_cond_f hA rfl (zk (zx (zs (zr (zR 3 ((17, vP b 24) :: (16, vP b 0) :: (15, vP b 0) :: _) hA rfl fun a hA => zL hA hS 0 rfl rfl rfl rfl rfl rfl rfl rfl rfl fun a hA => ?_))))))))))))))
 replace hS := hS.m5
 refine st_call0 hA rfl rfl rfl isfn66 rfl rfl (by decide) (get_none66 hS hbx0) ?_
 clear hA hS; rintro _ w1 a ⟨LB2, hb2, rfl, hS⟩ hA
 refine zR 3 ((21, yF) :: (20, .agg #[yU, yU, yW, yH, yH, yU, yW, yB, yU, yU, yS]) :: (14, .tuple #[.agg #[yU, yU, yW, yH, yH, yU, yW, yB, yU, yU, yS], yF]) :: _) hA rfl fun a hA => ?_
 refine st_alloc tbOk hA hS [yU, yU, yW, yH, yH, yU, yW, yB, yU, yU, yS] rfl rfl rfl rfl rfl (by decide) fun b2 w3 a hS hA => ?_
 refine st_store tbOk hA hS [yU, yU, yW, yH, yH, yU, yW, yB, yU, yU, yS] [yU, yU, yW, yH, yH, yU, yW, yB, yU, yU, yS] rfl rfl rfl rfl rfl rfl (zn1 rfl) (zle rfl) rfl rfl rfl fun w4 hS => ?_
 refine zR 1 ((5, yF) :: _) hA rfl fun a hA => zn (zx (zs (zs (zr (zR 2 ((23, yT) :: (22, yF) :: _) hA rfl fun a hA => zn (zx (cd_cond_t hA rfl (zs (zr (zR 2 ((3, yF) :: (2, yS) :: _) hA rfl fun a hA => zn (zx ?_)))))))))))
 refine wp_ret (xt_ret ?_)
 refine ret2 (fn := Tryz.f42) hA rfl rfl rfl ?_
 replace hS := hS.d0.m8.m8.m8.m3.m8.m8.m8.m8.m8
 replace hS : St w0 w4 (((b, rowO [vI st.c.id, vI st.c.ki, vI st.c.no, vI st.c.pc, vI st.c.wa, vI st.c.tr, vI st.c.ag, vI st.c.pg, vI st.c.ro, vP bo 0, yT, vI st.c.now, vU st.c.sent, vU st.c.rep, vU st.c.port, vU st.c.r0, vW st.c.r1, vB st.c.r2, vU st.c.r3, sv, vP bd 0, vP bg 0, vP bc 0, vP bp 0, vP bx 0, .map (some mp)] 121) :: (LS ++ (LG ++ (LC ++ (LP ++ (LB2 ++ ((mp, ob) :: LV))))))) :: D :: F) := hS.cast (by simp)
 subst hu0; subst hp0; exact ⟨_, ⟨_, _, _, _, _, _, _, _, _, _, _, _, _, _, _, _, _, _, ⟨hn.fsr, hn.fgs, hn.fcr, hn.fpm, hb2, hn.fmp, hn.fsv, hn.fel, hn.fed, hn.fcl, hn.fcd, hn.ful, hn.fud, hn.fpl, hn.fpd⟩, rfl⟩, rfl, hS⟩
set_option maxHeartbeats 8000000 in
theorem nwork_reply42 {w0 w : World} {F : List Chunk} {b bo : Nat} {st : NS} {sr : Srv} {L D : Chunk} (hS : St w0 w (L :: D :: F)) (hN : NUP w0 b bo st sr L D) (m : MN) (us2 : List MN) (hus : st.us = m :: us2) (h1 : m.to = st.c.rep) {k : Nat} {y : CA} (hy : st.ca[k]? = some y) (hid : m.id = k + 1) (hst : y.st = 1) (hfr : m.rp = y.rq.to) (hcal : st.ca.length ≤ 64) (hml : m.da.length ≤ 4096) :
 Ret Tryz.prog 42 #[vP b 0] w (fun v w' => ∃ L' D', NUP w0 b bo { st with us := us2, ca := st.ca.set k { y with st := 2, rp := m } } sr L' D' ∧ DX w0 D D' ∧ v = .tuple #[yS, yT] ∧ St w0 w' (L' :: D' :: F)) := by
 obtain ⟨sv, bd, bg, bc, bp, bx, mp, ob, el, cl, ul, pl2, LS, LG, LC, LP, LB, LV, hn, rfl⟩ := hN
 replace hS : St w0 w ([(b, rowO [vI st.c.id, vI st.c.ki, vI st.c.no, vI st.c.pc, vI st.c.wa, vI st.c.tr, vI st.c.ag, vI st.c.pg, vI st.c.ro, vP bo 0, yT, vI st.c.now, vU st.c.sent, vU st.c.rep, vU st.c.port, vU st.c.r0, vW st.c.r1, vB st.c.r2, vU st.c.r3, sv, vP bd 0, vP bg 0, vP bc 0, vP bp 0, vP bx 0, .map (some mp)] 121)] :: LS :: LG :: LC :: LP :: LB :: [(mp, ob)] :: LV :: D :: F) := hS.cast (by simp)
 obtain ⟨x, ul2, hul, e, hum⟩ := map_cons9 (l := ul) (y := m) (k := us2) (by rw [hn.ful, hus]); have hdx := hn.fud x (by rw [hul]; exact List.mem_cons_self); have hbx0 := hn.fbx; rw [hul] at hbx0
 obtain ⟨x0, x1, x2, x3, x4, x5, x6, x7, x8, x9, xA, xc, xb⟩ := x
 simp only [mst, mdat, MN.t, Prod.mk.injEq] at e
 obtain ⟨e0, e1, e2, e3, e4, e5, e6, e7, e8, e9, e10⟩ := e
 subst e0 e1 e2 e3 e4 e5 e6 e7 e8 e9 e10
 obtain ⟨xk, hxk, ek⟩ := map_at9 hn.fcl hy
 obtain ⟨q0, q1, q2, q3, q4, q5, q6, q7, q8, q9, qA, qc, qb, x13, x14, x15, r0, r1, r2, r3, r4, r5, r6, r7, r8, r9, rA, rc, rb⟩ := xk
 simp only [c5, rq, rp, mst, mdat, cst, ctr, clf, CA.t, MN.t, Prod.mk.injEq] at ek
 obtain ⟨⟨e0, e1, e2, e3, e4, e5, e6, e7, e8, e9, e10⟩, e13, e14, e15, ⟨g0, g1, g2, g3, g4, g5, g6, g7, g8, g9, g10⟩⟩ := ek
 subst e0 e1 e2 e3 e4 e5 e6 e7 e8 e9 e10 e13 e14 e15 g0 g1 g2 g3 g4 g5 g6 g7 g8 g9 g10
 refine enter (vs := [vP b 0]) 78 Tryz.func42 rfl rfl (by simp) ?_; intro a hA
 refine zs (zr (zR 2 ((3, yF) :: (2, yS) :: _) hA rfl fun a hA => zn (zx (zs (zs (zr (zR 3 ((11, vP b 10) :: (10, vP b 0) :: (9, vP b 0) :: _) hA rfl fun a hA => zL hA hS 0 rfl rfl rfl rfl rfl rfl rfl rfl rfl fun a hA => zR 1 ((13, yF) :: _) hA rfl fun a hA => zn (zx (cd_cond_f hA rfl (zk (zx (zs (zr (zR 3 ((17, vP b 24) :: (16, vP b 0) :: (15, vP b 0) :: _) hA rfl fun a hA => zL hA hS 0 rfl rfl rfl rfl rfl rfl rfl rfl rfl fun a hA => ?_))))))))))))))
 replace hS := hS.m5
 refine st_call0 hA rfl rfl rfl isfn66 rfl rfl (by decide) (get_u66 hS hbx0) ?_
 clear hA hS; rintro _ w1 a ⟨LB2, hb2, rfl, hS⟩ hA
 replace hA := hA.rw 19 (v' := .tuple #[.agg #[vU m.to, vU m.rp, vW m.id, vH m.op, vH m.st, vU m.po, vW m.ob, vB m.ri, vU m.ck, vU m.ar, .slice xA m.da.length xc], yT]) rfl rfl
 refine zR 3 ((21, yT) :: (20, .agg #[vU m.to, vU m.rp, vW m.id, vH m.op, vH m.st, vU m.po, vW m.ob, vB m.ri, vU m.ck, vU m.ar, .slice xA m.da.length xc]) :: (14, .tuple #[.agg #[vU m.to, vU m.rp, vW m.id, vH m.op, vH m.st, vU m.po, vW m.ob, vB m.ri, vU m.ck, vU m.ar, .slice xA m.da.length xc], yT]) :: _) hA rfl fun a hA => ?_
 refine st_alloc tbOk hA hS [yU, yU, yW, yH, yH, yU, yW, yB, yU, yU, yS] rfl rfl rfl rfl rfl (by decide) fun b2 w3 a hS hA => ?_
 refine st_store tbOk hA hS [vU m.to, vU m.rp, vW m.id, vH m.op, vH m.st, vU m.po, vW m.ob, vB m.ri, vU m.ck, vU m.ar, .slice xA m.da.length xc] [vU m.to, vU m.rp, vW m.id, vH m.op, vH m.st, vU m.po, vW m.ob, vB m.ri, vU m.ck, vU m.ar, .slice xA m.da.length xc] rfl rfl rfl rfl rfl rfl (zn1 rfl) (zle rfl) rfl rfl rfl fun w4 hS => ?_
 refine zR 1 ((5, yT) :: _) hA rfl fun a hA => zn (zx (zs (zs (zr (zR 2 ((23, yF) :: (22, yT) :: _) hA rfl fun a hA => zn (zx (cd_cond_f hA rfl (zk (zx (zs (zs ?_)))))))))))
 refine zD0 hS [] [(0, true), (1, true), (2, true), (3, true), (4, true), (5, true), (6, true)] mixed (by kernel_rfl) (by rintro c a w ⟨_, _, h, _⟩; cases h) (by rfl) (by kernel_rfl) ?_
 replace hS := hS.drew
 refine zW 1 ((24, vP b2 0) :: _) hA hS rfl fun a hA => zY hA hS 0 rfl rfl rfl rfl rfl rfl rfl rfl rfl rfl fun a hA => zW 3 ((28, vP b 13) :: (27, vP b 0) :: (26, vP b 0) :: _) hA hS rfl fun a hA => zY hA hS 2 rfl rfl rfl rfl rfl rfl rfl rfl rfl rfl fun a hA => zW 1 ((30, .bool (((m.to : Nat) : Int) == ((st.c.rep : Nat) : Int))) :: _) hA hS rfl fun a hA => ze (zx ?_)
 have hc5 : ((m.to : Nat) : Int) = ((st.c.rep : Nat) : Int) := by omega
 replace hA := hA.rw 30 (v' := yT) rfl (vb_eq_t hc5)
 refine cd_cond_t hA rfl (zs ?_)
 replace hS := hS.m9.m6
 refine zD2 hS [] [(0, true), (1, true), (2, true), (3, true), (4, true), (5, false)] mixed (by kernel_rfl) (by rintro c a w ⟨_, _, h, _⟩; cases h) (by rfl) (by kernel_rfl) ?_
 replace hS := hS.drew
 refine zW 3 ((33, vP b 22) :: (32, vP b 0) :: (31, vP b 0) :: _) hA (hS.tail 2 rfl) rfl fun a hA => zY hA (hS.tail 2 rfl) 2 rfl rfl rfl rfl rfl rfl rfl rfl rfl rfl fun a hA => zYA hA (hS.tail 2 rfl) 0 [vU m.to, vU m.rp, vW m.id, vH m.op, vH m.st, vU m.po, vW m.ob, vB m.ri, vU m.ck, vU m.ar, .slice xA m.da.length xc] rfl rfl rfl rfl rfl rfl rfl rfl rfl rfl rfl fun a hA => dr_b (o := _) rfl ?_
 replace hS := hS.m1.m1
 refine st_call0 hA rfl rfl rfl isfn67 rfl rfl (by decide) (answer_ok67 hS hn.fcr ((m.to : Nat) : Int) ((m.rp : Nat) : Int) ((m.id : Nat) : Int) ((m.op : Nat) : Int) ((m.st : Nat) : Int) ((m.po : Nat) : Int) ((m.ob : Nat) : Int) ((m.ri : Nat) : Int) ((m.ck : Nat) : Int) ((m.ar : Nat) : Int) (bs := m.da) ((DD.rds (F := D :: _) hdx 0 rfl)) (by omega) hxk (by have h := map_len9 hn.fcl; omega) (by omega) (by show ((y.st : Nat) : Int) = 1; omega) (by omega) (by show ((m.rp : Nat) : Int) = ((y.rq.to : Nat) : Int); omega)) ?_
 clear hA hS; rintro _ w6 a ⟨LC2, E1, A1, c1, hcr2, hE1, rfl, hS⟩ hA
 have hX7 : DX w0 D (E1 ++ D) := DX.refl.step
 refine zi (hS.tail 2 rfl) (ze (zx (zs (zr (zR 2 ((3, yT) :: (2, yS) :: _) hA rfl fun a hA => zn (zx ?_))))))
 refine wp_ret (xt_ret ?_)
 refine ret2 (fn := Tryz.f42) hA rfl rfl rfl ?_
 replace hS := hS.m2.d0.m1.m8.m8.m4.m8.m5.m8.m8.m8
 replace hS : St w0 w6 (((b, rowO [vI st.c.id, vI st.c.ki, vI st.c.no, vI st.c.pc, vI st.c.wa, vI st.c.tr, vI st.c.ag, vI st.c.pg, vI st.c.ro, vP bo 0, yT, vI st.c.now, vU st.c.sent, vU st.c.rep, vU st.c.port, vU st.c.r0, vW st.c.r1, vB st.c.r2, vU st.c.r3, sv, vP bd 0, vP bg 0, vP bc 0, vP bp 0, vP bx 0, .map (some mp)] 121) :: (LS ++ (LG ++ (LC2 ++ (LP ++ (LB2 ++ ((mp, ob) :: LV))))))) :: (E1 ++ D) :: F) := hS.cast (by simp)
 exact ⟨_, (E1 ++ D), ⟨_, _, _, _, _, _, _, _, _, _, _, _, _, _, _, _, _, _, ⟨hn.fsr, (hn.fgs.dx hX7), hcr2, hn.fpm, hb2, hn.fmp, (hn.fsv.dx hX7), hn.fel, (ent_dx hn.fed hX7), (map_set9 (y := { y with st := 2, rp := m }) hn.fcl (by rfl)), (call_set9 hn.fcd hxk hE1), hum, (msg_dx (fun z hz => hn.fud z (by rw [hul]; exact List.mem_cons_of_mem _ hz)) hX7), hn.fpl, (msg_dx hn.fpd hX7)⟩, rfl⟩, hX7, rfl, hS⟩
end Go.Proofs.YthiakdmhpfkjbaaGreatDoor
