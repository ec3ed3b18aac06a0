import Derived.Test.YthiakdmhpfkjbaaGreatDoorZR1
set_option linter.unusedVariables false
set_option linter.unusedSimpArgs false
set_option linter.unusedVariables false
set_option linter.unusedSimpArgs false
set_option maxRecDepth 4000
namespace Go.Proofs.YthiakdmhpfkjbaaGreatDoor
open Go Go.SK
def encPacket (x : Int × Int × Int × Int × Int × Option Addr × Nat × List UInt8) : List Value := [.int .i64 x.1, .int .i64 x.2.1, .int .u64 x.2.2.1, .int .i64 x.2.2.2.1, .int .i64 x.2.2.2.2.1, .slice x.2.2.2.2.2.1 x.2.2.2.2.2.2.2.length x.2.2.2.2.2.2.1]
theorem encPacket_ok : Enc encPacket 6 := ⟨fun _ => rfl, fun x u hu => by simp only [encPacket, List.mem_cons, List.not_mem_nil, or_false] at hu; rcases hu with rfl | rfl | rfl | rfl | rfl | rfl <;> rfl⟩
def encPacket_dd (w0 : World) (D : Chunk) (x : Int × Int × Int × Int × Int × Option Addr × Nat × List UInt8) : Prop := DD w0 D x.2.2.2.2.2.1 x.2.2.2.2.2.2.1 x.2.2.2.2.2.2.2
theorem encPacket_left {w0 : World} {D E : Chunk} {x : Int × Int × Int × Int × Int × Option Addr × Nat × List UInt8} (h : encPacket_dd w0 D x) : encPacket_dd w0 (E ++ D) x := DD.left h
abbrev Pkt := Int × Int × Int × Int × Int × Option Addr × Nat × List UInt8
def pdat (x : Pkt) : List UInt8 := x.2.2.2.2.2.2.2
def nP (l : List UInt8) (s : Nat) : Nat := max 1 ((l.length + s - 1) / s)
def piece (l : List UInt8) (s i : Nat) : List UInt8 := (l.take (min ((i + 1) * s) l.length)).drop (min (i * s) l.length)
def isPk (l : List UInt8) (fr to id : Int) (s i : Nat) (x : Pkt) : Prop := ∃ A c, x = (fr, to, id, ((i : Nat) : Int), ((nP l s : Nat) : Int), A, c, piece l s i)
theorem piece_len (l : List UInt8) (s i : Nat) : (piece l s i).length = min ((i + 1) * s) l.length - min (i * s) l.length := by
  rw [piece, List.length_drop, List.length_take]; omega
theorem piece_le (l : List UInt8) (s i : Nat) : (piece l s i).length ≤ s := by
  rw [piece_len, Nat.succ_mul]; omega
def cat (ps : List Pkt) (k : Nat) : List UInt8 := ((ps.take k).map pdat).flatten
theorem cat_succ {ps : List Pkt} {k : Nat} {x : Pkt} (hx : ps[k]? = some x) : cat ps k ++ pdat x = cat ps (k + 1) := by
  rw [cat, cat, List.take_add_one, hx, List.map_append, List.flatten_append]; simp
def fits (ps : List Pkt) (p0 x : Pkt) (k : Nat) : Prop := (1 ≤ x.2.2.2.2.1 ∧ x.2.2.2.2.1 ≤ 256 ∧ 0 ≤ x.2.2.2.1 ∧ x.2.2.2.1 < x.2.2.2.2.1 ∧ (pdat x).length ≤ 32768) ∧ x.2.2.2.1 = ((k : Nat) : Int) ∧ x.2.2.2.2.1 = ((ps.length : Nat) : Int) ∧ x.2.2.1 = p0.2.2.1 ∧ x.1 = p0.1 ∧ x.2.1 = p0.2.1
theorem may87 {w0 w : World} {F : List Chunk} (hS : St w0 w F) (x0 x1 x2 x3 x4 : Int) (A : Option Addr) (c : Nat) (bs : List UInt8) :
 Ret Tryz.prog 87 #[.agg #[.int .i64 x0, .int .i64 x1, .int .u64 x2, .int .i64 x3, .int .i64 x4, .slice A bs.length c]] w (fun v w' => v = .bool (decide (1 ≤ x4 ∧ x4 ≤ 256 ∧ 0 ≤ x3 ∧ x3 < x4 ∧ bs.length ≤ 32768)) ∧ St w0 w' F) := by
 refine enter (vs := [.agg #[.int .i64 x0, .int .i64 x1, .int .u64 x2, .int .i64 x3, .int .i64 x4, .slice A bs.length c]]) 29 Tryz.func87 rfl rfl (by simp) ?_; intro a hA
 refine zs (zr ?_)
 refine st_box hA hS [.int .i64 x0, .int .i64 x1, .int .u64 x2, .int .i64 x3, .int .i64 x4, .slice A bs.length c] rfl rfl rfl rfl rfl (by decide) fun b1 w2 a hS hA => ?_
 refine zR 1 ((2, yF) :: _) hA rfl fun a hA => zn (zx (zs (zr (zR 1 ((3, vP b1 4) :: _) hA rfl fun a hA => zL hA hS 0 rfl rfl rfl rfl rfl rfl rfl rfl rfl fun a hA => zR 2 ((6, .bool (decide (x4 ≥ 1))) :: (5, .bool (decide (x4 ≥ 1))) :: _) hA rfl fun a hA => ?_))))
 by_cases hc3 : x4 ≥ 1
 · first
   | (exfalso; omega)
   | (replace hA := hA.rw 5 (v' := yT) rfl (vb_true hc3)
      replace hA := hA.rw 6 (v' := yT) rfl (vb_true hc3)
      refine zR 1 ((7, vP b1 4) :: _) hA rfl fun a hA => zL hA hS 0 rfl rfl rfl rfl rfl rfl rfl rfl rfl fun a hA => zR 3 ((11, .bool (decide (x4 ≤ 256))) :: (10, .bool (decide (x4 ≤ 256))) :: (9, .bool (decide (x4 ≤ 256))) :: _) hA rfl fun a hA => ?_
      by_cases hc4 : x4 ≤ 256
      · first
        | (exfalso; omega)
        | (replace hA := hA.rw 9 (v' := yT) rfl (vb_true hc4)
           replace hA := hA.rw 10 (v' := yT) rfl (vb_true hc4)
           replace hA := hA.rw 11 (v' := yT) rfl (vb_true hc4)
           refine zR 1 ((12, vP b1 3) :: _) hA rfl fun a hA => zL hA hS 0 rfl rfl rfl rfl rfl rfl rfl rfl rfl fun a hA => zR 3 ((16, .bool (decide (x3 ≥ 0))) :: (15, .bool (decide (x3 ≥ 0))) :: (14, .bool (decide (x3 ≥ 0))) :: _) hA rfl fun a hA => ?_
           by_cases hc5 : x3 ≥ 0
           · first
             | (exfalso; omega)
             | (replace hA := hA.rw 14 (v' := yT) rfl (vb_true hc5)
                replace hA := hA.rw 15 (v' := yT) rfl (vb_true hc5)
                replace hA := hA.rw 16 (v' := yT) rfl (vb_true hc5)
                refine zR 1 ((17, vP b1 3) :: _) hA rfl fun a hA => zL hA hS 0 rfl rfl rfl rfl rfl rfl rfl rfl rfl fun a hA => zR 1 ((19, vP b1 4) :: _) hA rfl fun a hA => zL hA hS 0 rfl rfl rfl rfl rfl rfl rfl rfl rfl fun a hA => zR 3 ((23, .bool (decide (x3 < x4))) :: (22, .bool (decide (x3 < x4))) :: (21, .bool (decide (x3 < x4))) :: _) hA rfl fun a hA => ?_
                by_cases hc6 : x3 < x4
                · first
                  | (exfalso; omega)
                  | (replace hA := hA.rw 21 (v' := yT) rfl (vb_true hc6)
                     replace hA := hA.rw 22 (v' := yT) rfl (vb_true hc6)
                     replace hA := hA.rw 23 (v' := yT) rfl (vb_true hc6)
                     refine zR 1 ((24, vP b1 5) :: _) hA rfl fun a hA => zL hA hS 0 rfl rfl rfl rfl rfl rfl rfl rfl rfl fun a hA => zR 4 ((2, .bool (decide (((bs.length : Nat) : Int) ≤ 32768))) :: (28, .bool (decide (((bs.length : Nat) : Int) ≤ 32768))) :: (27, .bool (decide (((bs.length : Nat) : Int) ≤ 32768))) :: (26, vI bs.length) :: _) hA rfl fun a hA => zn (zx ?_)
                     refine wp_ret ?_
                     refine ret1 (fn := Tryz.f87) hA rfl rfl ?_
                     replace hS := hS.d0
                     exact ⟨congrArg Value.bool (by rw [decide_eq_decide]; omega), hS⟩)
                · first
                  | (exfalso; omega)
                  | (replace hA := hA.rw 21 (v' := yF) rfl (vb_false hc6)
                     replace hA := hA.rw 22 (v' := yF) rfl (vb_false hc6)
                     replace hA := hA.rw 23 (v' := yF) rfl (vb_false hc6)
                     refine zR 6 ((2, yF) :: (28, yF) :: (27, undef) :: (26, undef) :: (25, undef) :: (24, undef) :: _) hA rfl fun a hA => zn (zx ?_)
                     refine wp_ret ?_
                     refine ret1 (fn := Tryz.f87) hA rfl rfl ?_
                     replace hS := hS.d0
                     exact ⟨congrArg Value.bool (by rw [eq_comm, decide_eq_false]; omega), hS⟩))
           · first
             | (exfalso; omega)
             | (replace hA := hA.rw 14 (v' := yF) rfl (vb_false hc5)
                replace hA := hA.rw 15 (v' := yF) rfl (vb_false hc5)
                replace hA := hA.rw 16 (v' := yF) rfl (vb_false hc5)
                refine zR 13 ((2, yF) :: (28, yF) :: (27, undef) :: (26, undef) :: (25, undef) :: (24, undef) :: (23, yF) :: (22, yF) :: (21, undef) :: (20, undef) :: (19, undef) :: (18, undef) :: (17, undef) :: _) hA rfl fun a hA => zn (zx ?_)
                refine wp_ret ?_
                refine ret1 (fn := Tryz.f87) hA rfl rfl ?_
                replace hS := hS.d0
                exact ⟨congrArg Value.bool (by rw [eq_comm, decide_eq_false]; omega), hS⟩))
      · first
        | (exfalso; omega)
        | (replace hA := hA.rw 9 (v' := yF) rfl (vb_false hc4)
           replace hA := hA.rw 10 (v' := yF) rfl (vb_false hc4)
           replace hA := hA.rw 11 (v' := yF) rfl (vb_false hc4)
           refine zR 18 ((2, yF) :: (28, yF) :: (27, undef) :: (26, undef) :: (25, undef) :: (24, undef) :: (23, yF) :: (22, yF) :: (21, undef) :: (20, undef) :: (19, undef) :: (18, undef) :: (17, undef) :: (16, yF) :: (15, yF) :: (14, undef) :: (13, undef) :: (12, undef) :: _) hA rfl fun a hA => zn (zx ?_)
           refine wp_ret ?_
           refine ret1 (fn := Tryz.f87) hA rfl rfl ?_
           replace hS := hS.d0
           exact ⟨congrArg Value.bool (by rw [eq_comm, decide_eq_false]; omega), hS⟩))
 · first
   | (exfalso; omega)
   | (replace hA := hA.rw 5 (v' := yF) rfl (vb_false hc3)
      replace hA := hA.rw 6 (v' := yF) rfl (vb_false hc3)
      refine zR 23 ((2, yF) :: (28, yF) :: (27, undef) :: (26, undef) :: (25, undef) :: (24, undef) :: (23, yF) :: (22, yF) :: (21, undef) :: (20, undef) :: (19, undef) :: (18, undef) :: (17, undef) :: (16, yF) :: (15, yF) :: (14, undef) :: (13, undef) :: (12, undef) :: (11, yF) :: (10, yF) :: (9, undef) :: (8, undef) :: (7, undef) :: _) hA rfl fun a hA => zn (zx ?_)
      refine wp_ret ?_
      refine ret1 (fn := Tryz.f87) hA rfl rfl ?_
      replace hS := hS.d0
      exact ⟨congrArg Value.bool (by rw [eq_comm, decide_eq_false]; omega), hS⟩)
theorem split_ok96 {w0 w : World} {F : List Chunk} (hS : St w0 w F) {v : Value} {l : List UInt8} (hr : RdS w0 F 1 v l.length (rows encB l)) (fr to id : Int) (s : Nat) (h1 : 1 ≤ s) (h2 : s ≤ 32768) (h3 : nP l s ≤ 256) (hlb : l.length ≤ 281474976710656) :
 Ret Tryz.prog 96 #[v, .int .i64 fr, .int .i64 to, .int .u64 id, vI s] w (fun v w' => ∃ v1 ps C D, Own 94 6 v1 ps.length (rows encPacket ps) C ∧ ps.length = nP l s ∧ (∀ (i : Nat) (x : Pkt), ps[i]? = some x → isPk l fr to id s i x) ∧ (∀ x ∈ ps, encPacket_dd w0 D x) ∧ v = .tuple #[v1, yN] ∧ St w0 w' (C :: D :: F)) := by
 obtain ⟨A, c, rfl, hmc, hcx⟩ := (hr w hS).open'
 refine enter (vs := [.slice A l.length c, .int .i64 fr, .int .i64 to, .int .u64 id, vI s]) 69 Tryz.func96 rfl rfl (by simp) ?_; intro a hA
 refine zs (zr (zR 2 ((11, yN) :: (10, yS) :: _) hA rfl fun a hA => zn (zx (zs (zs (zr (zR 3 ((18, .bool (decide (((s : Nat) : Int) < 1))) :: (17, .bool (decide (((s : Nat) : Int) < 1))) :: (16, vI s) :: _) hA rfl fun a hA => ?_)))))))
 have hc1 : ¬ (((s : Nat) : Int) < 1) := by omega
 replace hA := hA.rw 17 (v' := yF) rfl (vb_false hc1)
 replace hA := hA.rw 18 (v' := yF) rfl (vb_false hc1)
 refine zR 3 ((21, .bool (decide (((s : Nat) : Int) > 32768))) :: (20, .bool (decide (((s : Nat) : Int) > 32768))) :: (19, vI s) :: _) hA rfl fun a hA => zn (zx ?_)
 have hc2 : ¬ (((s : Nat) : Int) > 32768) := by omega
 replace hA := hA.rw 21 (v' := yF) rfl (vb_false hc2)
 refine cd_cond_f hA rfl (zk (zx (zs (zr (zR 4 ((26, .int .i64 (IntKind.i64.wrap (((l.length : Nat) : Int) + ((s : Nat) : Int)))) :: (25, vI s) :: (24, vI l.length) :: (23, .slice A l.length c) :: _) hA rfl fun a hA => ?_)))))
 replace hA := hA.rw 26 (v' := vI (l.length + s)) rfl (wr64 (by omega) (by omega) (by omega))
 refine zR 1 ((27, .int .i64 (IntKind.i64.wrap (((l.length + s : Nat) : Int) - 1))) :: _) hA rfl fun a hA => ?_
 replace hA := hA.rw 27 (v' := .int .i64 (((l.length + s : Nat) : Int) - 1)) rfl (wr64 (by omega) (by omega) (by omega))
 replace hA := hA.rw 27 (v' := vI (l.length + s - 1)) rfl (vint (by omega))
 refine zR 1 ((28, vI s) :: _) hA rfl fun a hA => st_val hA rfl rfl (by decide) (rn_quo hA rfl rfl rfl (by omega)) fun a hA => ?_
 have hdv3 := Nat.div_le_self (l.length + s - 1) s
 replace hA := hA.rw 29 (v' := vI ((l.length + s - 1) / s)) rfl (wr64 (Int.ofNat_tdiv _ _).symm (Int.le_trans (show (-9223372036854775808 : Int) ≤ 0 by decide) (Int.natCast_nonneg _)) (by omega))
 refine zR 1 ((30, .int .i64 (if (((l.length + s - 1) / s : Nat) : Int) > 1 then (((l.length + s - 1) / s : Nat) : Int) else 1)) :: _) hA rfl fun a hA => ?_
 replace hA := hA.rw 30 (v' := vI (nP l s)) rfl (vint (by unfold nP; split <;> omega))
 refine zR 1 ((12, vI (nP l s)) :: _) hA rfl fun a hA => zn (zx (zs (zs (zr (zR 2 ((32, .bool (decide (((nP l s : Nat) : Int) > 256))) :: (31, vI (nP l s)) :: _) hA rfl fun a hA => zn (zx ?_))))))
 have hc4 : ¬ (((nP l s : Nat) : Int) > 256) := by omega
 replace hA := hA.rw 32 (v' := yF) rfl (vb_false hc4)
 refine cd_cond_f hA rfl (zk (zx (zs (zr (zR 1 ((34, vI (nP l s)) :: _) hA rfl fun a hA => ?_)))))
 refine st_makeSlice tbOk hA hS (nP l s) encPacket_ok (by decide) (0, 0, 0, 0, 0, none, 0, ([] : List UInt8)) rfl rfl rfl rfl rfl rfl rfl rfl (by show 64 * (nP l s) ≤ 281474976710656; omega) (by omega) rfl rfl (by decide) fun b5 w6 a hS hA => ?_
 obtain ⟨C7, hO7, hS⟩ : ∃ Cq9, Own 94 6 (.slice (some ⟨b5, 0, none⟩) (nP l s) (nP l s)) (nP l s) (rows encPacket (List.replicate (nP l s) (0, 0, 0, 0, 0, none, 0, ([] : List UInt8)))) Cq9 ∧ St w0 w6 (Cq9 :: F) := ⟨_, Own.full (by rw [rows_length encPacket_ok, List.length_replicate]) (by show (nP l s) ≤ 9223372036854775807; omega), hS⟩
 generalize (some (⟨b5, 0, none⟩ : Addr)) = A8 at hO7 hA
 refine zR 1 ((13, .slice A8 (nP l s) (nP l s)) :: _) hA rfl fun a hA => zn (zx (zs (zs (zr (zR 3 ((38, yI) :: (37, vI (nP l s)) :: (36, .slice A8 (nP l s) (nP l s)) :: _) hA rfl fun a hA => zn (zx (zb ?_)))))))
 replace hS := hS.nil
 replace hS := hS.m1
 have hrl : (List.replicate (nP l s) ((0, 0, 0, 0, 0, none, 0, ([] : List UInt8)) : Pkt)).length = nP l s := List.length_replicate
 replace hA := hA.rw 13 (v' := .slice A8 ((List.replicate (nP l s) ((0, 0, 0, 0, 0, none, 0, ([] : List UInt8)) : Pkt)).length) (nP l s)) rfl (by rw [hrl])
 have hO0 : Own 94 6 (.slice A8 (List.replicate (nP l s) ((0, 0, 0, 0, 0, none, 0, ([] : List UInt8)) : Pkt)).length (nP l s)) (List.replicate (nP l s) ((0, 0, 0, 0, 0, none, 0, ([] : List UInt8)) : Pkt)).length (rows encPacket (List.replicate (nP l s) ((0, 0, 0, 0, 0, none, 0, ([] : List UInt8)) : Pkt))) C7 := by rw [hrl]; exact hO7
 refine wp_loop_ghost (fun m a w => ∃ (k : Nat) (ps : List Pkt) (Ap : Option Addr) (cp : Nat) (C : Chunk) (D : Chunk), m = nP l s - k ∧ Has a 69 [(0, .slice A l.length c), (1, .int .i64 fr), (2, .int .i64 to), (3, .int .u64 id), (4, vI s), (12, vI (nP l s)), (13, .slice Ap ps.length cp), (37, vI (nP l s)), (38, vI k)] ∧ St w0 w (C :: D :: F) ∧ (k ≤ nP l s) ∧ (ps.length = nP l s) ∧ (∀ (i : Nat) (x : Pkt), i < k → ps[i]? = some x → isPk l fr to id s i x) ∧ (∀ x ∈ ps, encPacket_dd w0 D x) ∧ (Own 94 6 (.slice Ap ps.length cp) ps.length (rows encPacket ps) C)) (nP l s - 0)
  ⟨0, (List.replicate (nP l s) ((0, 0, 0, 0, 0, none, 0, ([] : List UInt8)) : Pkt)), A8, (nP l s), C7, ([]), rfl, (hA.sel [0, 1, 2, 3, 4, 12, 13, 37, 38] rfl), hS, Nat.zero_le _, hrl, (fun i x hi => absurd hi (by omega)), (fun x hx => by rw [List.eq_of_mem_replicate hx]; exact DD.nil), hO0⟩ ?_
 clear hA hS; rintro m0 a w9 ⟨k, ps, Ap, cp, C, D, rfl, hA, hS, hk, hpl, hall, hdd, hP⟩
 have hk1 : (k + 1) * s = k * s + s := Nat.succ_mul k s
 refine zs (zr (zR 1 ((39, .bool (decide (((k : Nat) : Int) < ((nP l s : Nat) : Int)))) :: _) hA rfl fun a hA => zn (zx (zs ?_))))
 by_cases hc10 : ((k : Nat) : Int) < ((nP l s : Nat) : Int)
 · first
   | (exfalso; omega)
   | (replace hA := hA.rw 39 (v' := yT) rfl (vb_true hc10)
      refine cd_cond_t hA rfl (zk (zx (zs (zb (zs (zr (zR 2 ((14, vI k) :: (40, vI k) :: _) hA rfl fun a hA => zn (zx (zs (zr ?_))))))))))
      have hks : k * s ≤ 256 * 32768 := Nat.mul_le_mul (by omega) (by omega)
      refine zR 4 ((44, .int .i64 (IntKind.i64.wrap (((k : Nat) : Int) * ((s : Nat) : Int)))) :: (43, vI s) :: (42, vI k) :: (41, .slice A l.length c) :: _) hA rfl fun a hA => ?_
      replace hA := hA.rw 44 (v' := vI (k * s)) rfl (wr64 (by omega) (by omega) (by omega))
      refine zR 3 ((47, .int .i64 (if ((l.length : Nat) : Int) < ((k * s : Nat) : Int) then ((l.length : Nat) : Int) else ((k * s : Nat) : Int))) :: (46, vI l.length) :: (45, .slice A l.length c) :: _) hA rfl fun a hA => ?_
      replace hA := hA.rw 47 (v' := vI (min (k * s) l.length)) rfl (vint (by split <;> omega))
      refine zR 2 ((49, .int .i64 (IntKind.i64.wrap (((k : Nat) : Int) + 1))) :: (48, vI k) :: _) hA rfl fun a hA => ?_
      replace hA := hA.rw 49 (v' := vI (k + 1)) rfl (wr64 (by omega) (by omega) (by omega))
      refine zR 2 ((51, .int .i64 (IntKind.i64.wrap (((k + 1 : Nat) : Int) * ((s : Nat) : Int)))) :: (50, vI s) :: _) hA rfl fun a hA => ?_
      replace hA := hA.rw 51 (v' := vI ((k + 1) * s)) rfl (wr64 (by omega) (by omega) (by omega))
      refine zR 3 ((54, .int .i64 (if ((l.length : Nat) : Int) < (((k + 1) * s : Nat) : Int) then ((l.length : Nat) : Int) else (((k + 1) * s : Nat) : Int))) :: (53, vI l.length) :: (52, .slice A l.length c) :: _) hA rfl fun a hA => ?_
      replace hA := hA.rw 54 (v' := vI (min ((k + 1) * s) l.length)) rfl (vint (by split <;> omega))
      refine st_val hA rfl rfl (by decide) (rn_slice_lh tbOk hA (min (k * s) l.length) (min ((k + 1) * s) l.length) rfl rfl rfl rfl rfl rfl rfl (by rfl) (by rfl) (by omega) (by omega)) fun a hA => zR 1 ((15, slv A (min (k * s) l.length) (min ((k + 1) * s) l.length) c 1) :: _) hA rfl fun a hA => zn (zx (zr (zR 8 ((63, slv A (min (k * s) l.length) (min ((k + 1) * s) l.length) c 1) :: (62, vI (nP l s)) :: (61, vI k) :: (60, .int .u64 id) :: (59, .int .i64 to) :: (58, .int .i64 fr) :: (57, vI k) :: (56, .slice Ap ps.length cp) :: _) hA rfl fun a hA => ?_)))
      replace hS := hS.nil
      refine st_append tbOk hA (m := 0) (q := ((l.take (min ((k + 1) * s) l.length)).drop (min (k * s) l.length)).length) (xs := rows encB ([] : List UInt8)) (news := rows encB ((l.take (min ((k + 1) * s) l.length)).drop (min (k * s) l.length))) rfl rfl rfl rfl rfl rfl rfl rfl (by decide) (Own.nil 5 1) hS (((hr _ (hS.tail 3 rfl)).rslv encB_ok (min (k * s) l.length) (min ((k + 1) * s) l.length) c (by omega) (by omega) (by omega) (by omega)).x) (rows_one encB_ok _) (maxLen_le (by first | omega | (have h9 := piece_le l s k; rw [piece] at h9; omega))) (by show (0 + ((l.take (min ((k + 1) * s) l.length)).drop (min (k * s) l.length)).length) * 1 ≤ 140737488355328; first | omega | (have h9 := piece_le l s k; rw [piece] at h9; omega)) rfl rfl (by decide) ?_
      clear hA hS; intro v11 w12 C13 a hO13 hS hA
      replace hO13 := Own.app (l := ([] : List UInt8)) (l2 := (l.take (min ((k + 1) * s) l.length)).drop (min (k * s) l.length)) hO13
      replace hO13 : Own 5 1 v11 ((l.take (min ((k + 1) * s) l.length)).drop (min (k * s) l.length)).length (rows encB ((l.take (min ((k + 1) * s) l.length)).drop (min (k * s) l.length))) C13 := hO13
      obtain ⟨A14, c15, rfl, hmc15, hxc15⟩ := hO13.open'
      have hl : (l.take (min ((k + 1) * s) l.length)).drop (min (k * s) l.length) = piece l s k := rfl
      rw [hl] at hO13; rw [hl] at hA
      refine st_val hA rfl rfl (by decide) (rn_build tbOk hA rfl rfl rfl rfl rfl rfl rfl) fun a hA => ?_
      obtain ⟨b16, o17, rfl⟩ := hP.isSome (k := k) (by omega)
      refine st_val hA rfl rfl (by decide) (rn_indexAddr tbOk hA k (o17 + (k * 6)) rfl rfl rfl rfl rfl rfl (by rfl) (by omega) (by first | rfl | simp [Nat.mul_one, Nat.zero_add] | omega)) fun a hA => ?_
      obtain ⟨px, hpx⟩ := get_ex (l := ps) (k := k) (by omega)
      replace hS := hS.m1
      refine st_store_own tbOk hA hP hS ((k * 6)) (o17 + (k * 6)) [.int .i64 fr, .int .i64 to, .int .u64 id, vI k, vI (nP l s), .slice A14 ((piece l s k).length) c15] (rows encPacket (ps.set k (fr, to, id, ((k : Nat) : Int), ((nP l s : Nat) : Int), A14, c15, (piece l s k)))) rfl rfl rfl rfl (by rfl) rfl rfl (by exact encPacket_ok.one (fr, to, id, ((k : Nat) : Int), ((nP l s : Nat) : Int), A14, c15, (piece l s k))) (by simp only [rows_length encPacket_ok]; simp; omega) (rows_setf encPacket_ok (fr, to, id, ((k : Nat) : Int), ((nP l s : Nat) : Int), A14, c15, (piece l s k)) (show ps[k]? = some _ from hpx) 0 [.int .i64 fr, .int .i64 to, .int .u64 id, vI k, vI (nP l s), .slice A14 ((piece l s k).length) c15] (zle rfl) rfl) rfl rfl ?_; clear hS; intro w18 C19 hO19 hS
      refine zn (zm (zx (zr (zR 1 ((67, .int .i64 (IntKind.i64.wrap (((k : Nat) : Int) + 1))) :: _) hA rfl fun a hA => ?_))))
      replace hA := hA.rw 67 (v' := vI (k + 1)) rfl (wr64 (by omega) (by omega) (by omega))
      refine zR 1 ((38, vI (k + 1)) :: _) hA rfl fun a hA => zn ?_
      replace hS := hS.m2.m2
      replace hS := hS.join
      replace hS := hS.m1
      have hdn := (DD.new (w0 := w0) hO13).right (E := D)
      have hkp : k < ps.length := by omega
      replace hA := hA.rw 13 (v' := .slice (some ⟨b16, o17, none⟩) ((ps.set k (fr, to, id, ((k : Nat) : Int), ((nP l s : Nat) : Int), A14, c15, (piece l s k))).length) cp) rfl (by rw [List.length_set])
      exact lp_next _ (by omega) ⟨(k + 1), (ps.set k (fr, to, id, ((k : Nat) : Int), ((nP l s : Nat) : Int), A14, c15, (piece l s k))), (some ⟨b16, o17, none⟩), cp, C19, (C13 ++ D), rfl, (hA.sel [0, 1, 2, 3, 4, 12, 13, 37, 38] rfl), hS, by omega, (by rw [List.length_set]; omega), (fun i x hi hx => by
            by_cases hik : i = k
            · subst hik
              rw [List.getElem?_set_self hkp] at hx
              injection hx with hx
              subst hx
              exact ⟨_, _, rfl⟩
            · rw [List.getElem?_set_ne (Ne.symm hik)] at hx
              exact hall i x (by omega) hx), (fun x hx => by
            rcases List.mem_or_eq_of_mem_set hx with hx | rfl
            · exact encPacket_left (hdd x hx)
            · exact hdn), (by rw [List.length_set]; exact hO19)⟩)
 · first
   | (exfalso; omega)
   | (replace hA := hA.rw 39 (v' := yF) rfl (vb_false hc10)
      refine cd_cond_f hA rfl ?_
      refine wp_exit ?_
      refine xt_exit (xt_exit (cd_exit_eq (zx (zs (zr (zR 3 ((11, yN) :: (10, .slice Ap ps.length cp) :: (68, .slice Ap ps.length cp) :: _) hA rfl fun a hA => zn (zx ?_)))))))
      refine wp_ret ?_
      refine ret2 (fn := Tryz.f96) hA rfl rfl rfl ?_
      have hkn : k = ps.length := by omega
      exact ⟨_, ps, C, D, hP, hpl, fun i x hx => hall i x (by have := (List.getElem?_eq_some_iff.1 hx).1; omega) hx, hdd, rfl, hS⟩)
def AllFit (ps : List Pkt) : Prop := ∀ (k : Nat) (x p0 : Pkt), ps[k]? = some x → ps[0]? = some p0 → fits ps p0 x k
theorem join91 {w0 w : World} {F : List Chunk} {D : Chunk} (hS : St w0 w (D :: F)) {v : Value} {ps : List Pkt} (hr : RdS w0 (D :: F) 6 v ps.length (rows encPacket ps)) (hdd : ∀ x ∈ ps, encPacket_dd w0 D x) :
 Ret Tryz.prog 91 #[v] w (fun v w' => ∃ C v1 out, Own 5 1 v1 out.length (rows encB out) C ∧ ((AllFit ps ∧ out = cat ps ps.length ∧ v = .tuple #[v1, .bool (decide (((ps.length : Nat) : Int) > 0))]) ∨ (¬ AllFit ps ∧ out = [] ∧ v = .tuple #[v1, yF])) ∧ St w0 w' (C :: D :: F)) := by
 obtain ⟨A, c, rfl, hmc, hcx⟩ := (hr w hS).open'
 refine enter (vs := [.slice A ps.length c]) 66 Tryz.func91 rfl rfl (by simp) ?_; intro a hA
 refine zs (zr (zR 2 ((3, yF) :: (2, yS) :: _) hA rfl fun a hA => zn (zx (zs (zr (zR 1 ((4, yS) :: _) hA rfl fun a hA => zn (zx (zs (zs (zr (zR 3 ((9, yI) :: (8, vI ps.length) :: (7, .slice A ps.length c) :: _) hA rfl fun a hA => zn (zx (zb ?_)))))))))))))
 replace hS := hS.nil
 refine wp_loop_ghost (fun m a w => ∃ (k : Nat) (Ao : Option Addr) (co : Nat) (Co : Chunk), m = ps.length - k ∧ Has a 66 [(0, .slice A ps.length c), (4, .slice Ao ((cat ps k).length) co), (7, .slice A ps.length c), (8, vI ps.length), (9, vI k)] ∧ St w0 w (Co :: D :: F) ∧ (k ≤ ps.length) ∧ ((cat ps k).length ≤ k * 32768) ∧ (∀ (i : Nat) (x p0 : Pkt), i < k → ps[i]? = some x → ps[0]? = some p0 → fits ps p0 x i) ∧ (Own 5 1 (.slice Ao (cat ps k).length co) (cat ps k).length (rows encB (cat ps k)) Co)) (ps.length - 0)
  ⟨0, none, 0, ([]), rfl, (hA.sel [0, 4, 7, 8, 9] rfl), hS, Nat.zero_le _, Nat.zero_le _, fun i x p0 hi => absurd hi (by omega), (Own.nil 5 1)⟩ ?_
 clear hA hS; rintro m0 a w1 ⟨k, Ao, co, Co, rfl, hA, hS, hk, hcl, hfit, hO⟩
 refine zs (zr (zR 1 ((10, .bool (decide (((k : Nat) : Int) < ((ps.length : Nat) : Int)))) :: _) hA rfl fun a hA => zn (zx (zs ?_))))
 by_cases hc2 : ((k : Nat) : Int) < ((ps.length : Nat) : Int)
 · first
   | (exfalso; omega)
   | (replace hA := hA.rw 10 (v' := yT) rfl (vb_true hc2)
      refine cd_cond_t hA rfl (zk (zx (zs (zb (zs (zr (zR 1 ((11, vI k) :: _) hA rfl fun a hA => ?_)))))))
      obtain ⟨x3, hx3⟩ := get_ex (l := ps) (k := 0) (by omega)
      obtain ⟨x3f0, x3f1, x3f2, x3f3, x3f4, x3A5, x3c5, x3b5⟩ := x3
      have hd4 := hdd _ (List.mem_of_getElem? hx3)
      obtain ⟨x5, hx5⟩ := get_ex (l := ps) (k := k) (by omega)
      obtain ⟨x5f0, x5f1, x5f2, x5f3, x5f4, x5A5, x5c5, x5b5⟩ := x5
      have hd6 := hdd _ (List.mem_of_getElem? hx5)
      obtain ⟨b7, o8, rfl⟩ := (hr _ (hS.tail 1 rfl)).isSome (k := k) (by omega)
      refine st_val hA rfl rfl (by decide) (rn_indexAddr tbOk hA k (o8 + (k * 6)) rfl rfl rfl rfl rfl rfl (by rfl) (by omega) (by first | rfl | simp [Nat.mul_one, Nat.zero_add] | omega)) fun a hA => st_val hA rfl rfl (by decide) (rn_loadA tbOk hA ([.int .i64 x5f0, .int .i64 x5f1, .int .u64 x5f2, .int .i64 x5f3, .int .i64 x5f4, .slice x5A5 x5b5.length x5c5]) rfl rfl rfl rfl (by rfl) ((hr _ (hS.tail 1 rfl)).elem (k := k) encPacket_ok hx5)) fun a hA => ?_
      refine st_alloc tbOk hA hS [yI, yI, yU, yI, yI, yS] rfl rfl rfl rfl rfl (by decide) fun b9 w10 a hS hA => ?_
      refine zR 1 ((5, vI k) :: _) hA rfl fun a hA => ?_
      refine st_store tbOk hA hS [.int .i64 x5f0, .int .i64 x5f1, .int .u64 x5f2, .int .i64 x5f3, .int .i64 x5f4, .slice x5A5 x5b5.length x5c5] [.int .i64 x5f0, .int .i64 x5f1, .int .u64 x5f2, .int .i64 x5f3, .int .i64 x5f4, .slice x5A5 x5b5.length x5c5] rfl rfl rfl rfl rfl rfl (zn1 rfl) (zle rfl) rfl rfl rfl fun w11 hS => ?_
      refine zn (zx (zs (zs ?_)))
      refine zD0 hS [] [(0, true), (1, false), (2, true), (3, true), (4, true), (5, true), (6, true), (7, true), (8, true), (9, true), (10, true), (11, true), (12, true), (13, true), (14, true), (15, true), (16, true), (17, true), (18, true), (19, true), (20, true), (21, true), (22, true), (23, true), (24, true), (25, true), (26, true), (27, true), (28, true), (29, true), (30, true), (31, true), (32, true), (33, true), (34, true), (35, true), (36, true), (37, true), (38, true), (39, true), (40, true), (41, true), (42, true)] mixed (by kernel_rfl) (by rintro c a w ⟨_, _, h, _⟩; cases h) (by rfl) (by kernel_rfl) ?_
      replace hS := hS.drew
      refine zYA hA hS 0 [.int .i64 x5f0, .int .i64 x5f1, .int .u64 x5f2, .int .i64 x5f3, .int .i64 x5f4, .slice x5A5 x5b5.length x5c5] rfl rfl rfl rfl rfl rfl rfl rfl rfl rfl rfl fun a hA => dr_b (o := _) rfl ?_
      refine st_call0 hA rfl rfl rfl isfn87 rfl rfl (by decide) (may87 hS x5f0 x5f1 x5f2 x5f3 x5f4 x5A5 x5c5 x5b5) ?_
      clear hA hS; rintro v w12 a ⟨rfl, hS⟩ hA
      refine zi hS ?_
      by_cases hc13 : 1 ≤ x5f4 ∧ x5f4 ≤ 256 ∧ 0 ≤ x5f3 ∧ x5f3 < x5f4 ∧ x5b5.length ≤ 32768
      · first
        | (exfalso; omega)
        | (replace hA := hA.rw 15 (v' := yT) rfl (vb_true hc13)
           refine zW 3 ((18, vP b9 3) :: (17, yF) :: (16, yF) :: _) hA hS rfl fun a hA => zY hA hS 0 rfl rfl rfl rfl rfl rfl rfl rfl rfl rfl fun a hA => zW 4 ((23, .bool (x5f3 != ((k : Nat) : Int))) :: (22, .bool (x5f3 != ((k : Nat) : Int))) :: (21, .bool (x5f3 != ((k : Nat) : Int))) :: (20, vI k) :: _) hA hS rfl fun a hA => ?_
           by_cases hc14 : x5f3 = ((k : Nat) : Int)
           · first
             | (exfalso; omega)
             | (replace hA := hA.rw 21 (v' := yF) rfl (vb_ne_f hc14)
                replace hA := hA.rw 22 (v' := yF) rfl (vb_ne_f hc14)
                replace hA := hA.rw 23 (v' := yF) rfl (vb_ne_f hc14)
                refine zW 1 ((24, vP b9 4) :: _) hA hS rfl fun a hA => zY hA hS 0 rfl rfl rfl rfl rfl rfl rfl rfl rfl rfl fun a hA => zW 5 ((30, .bool (x5f4 != ((ps.length : Nat) : Int))) :: (29, .bool (x5f4 != ((ps.length : Nat) : Int))) :: (28, .bool (x5f4 != ((ps.length : Nat) : Int))) :: (27, vI ps.length) :: (26, .slice (some ⟨b7, o8, none⟩) ps.length c) :: _) hA hS rfl fun a hA => ?_
                by_cases hc15 : x5f4 = ((ps.length : Nat) : Int)
                · first
                  | (exfalso; omega)
                  | (replace hA := hA.rw 28 (v' := yF) rfl (vb_ne_f hc15)
                     replace hA := hA.rw 29 (v' := yF) rfl (vb_ne_f hc15)
                     replace hA := hA.rw 30 (v' := yF) rfl (vb_ne_f hc15)
                     refine zW 1 ((31, vP b9 2) :: _) hA hS rfl fun a hA => zY hA hS 0 rfl rfl rfl rfl rfl rfl rfl rfl rfl rfl fun a hA => zW 1 ((33, .slice (some ⟨b7, o8, none⟩) ps.length c) :: _) hA hS rfl fun a hA => dr_y hA rfl rfl rfl (by decide) hS (fun w' hS' => rn_indexAddr tbOk hA 0 o8 rfl rfl rfl rfl rfl rfl (by rfl) (by omega) (by first | rfl | simp [Nat.mul_one, Nat.zero_add] | omega)) fun a hA => zW 1 ((35, vP b7 (o8 + 2)) :: _) hA hS rfl fun a hA => dr_y hA rfl rfl rfl (by decide) hS (fun w' hS' => rn_load tbOk hA rfl rfl rfl rfl ((hr _ (hS'.tail 2 rfl)).elemf (k := 0) encPacket_ok hx3 (j := 2) rfl)) fun a hA => zW 3 ((39, .bool (x5f2 != x3f2)) :: (38, .bool (x5f2 != x3f2)) :: (37, .bool (x5f2 != x3f2)) :: _) hA hS rfl fun a hA => ?_
                     by_cases hc16 : x5f2 = x3f2
                     · first
                       | (exfalso; omega)
                       | (replace hA := hA.rw 37 (v' := yF) rfl (vb_ne_f hc16)
                          replace hA := hA.rw 38 (v' := yF) rfl (vb_ne_f hc16)
                          replace hA := hA.rw 39 (v' := yF) rfl (vb_ne_f hc16)
                          refine zW 1 ((40, vP b9 0) :: _) hA hS rfl fun a hA => zY hA hS 0 rfl rfl rfl rfl rfl rfl rfl rfl rfl rfl fun a hA => zW 1 ((42, .slice (some ⟨b7, o8, none⟩) ps.length c) :: _) hA hS rfl fun a hA => dr_y hA rfl rfl rfl (by decide) hS (fun w' hS' => rn_indexAddr tbOk hA 0 o8 rfl rfl rfl rfl rfl rfl (by rfl) (by omega) (by first | rfl | simp [Nat.mul_one, Nat.zero_add] | omega)) fun a hA => zW 1 ((44, vP b7 o8) :: _) hA hS rfl fun a hA => dr_y hA rfl rfl rfl (by decide) hS (fun w' hS' => rn_load tbOk hA rfl rfl rfl rfl ((hr _ (hS'.tail 2 rfl)).elemf (k := 0) encPacket_ok hx3 (j := 0) rfl)) fun a hA => zW 3 ((48, .bool (x5f0 != x3f0)) :: (47, .bool (x5f0 != x3f0)) :: (46, .bool (x5f0 != x3f0)) :: _) hA hS rfl fun a hA => ?_
                          by_cases hc17 : x5f0 = x3f0
                          · first
                            | (exfalso; omega)
                            | (replace hA := hA.rw 46 (v' := yF) rfl (vb_ne_f hc17)
                               replace hA := hA.rw 47 (v' := yF) rfl (vb_ne_f hc17)
                               replace hA := hA.rw 48 (v' := yF) rfl (vb_ne_f hc17)
                               refine zW 1 ((49, vP b9 1) :: _) hA hS rfl fun a hA => zY hA hS 0 rfl rfl rfl rfl rfl rfl rfl rfl rfl rfl fun a hA => zW 1 ((51, .slice (some ⟨b7, o8, none⟩) ps.length c) :: _) hA hS rfl fun a hA => dr_y hA rfl rfl rfl (by decide) hS (fun w' hS' => rn_indexAddr tbOk hA 0 o8 rfl rfl rfl rfl rfl rfl (by rfl) (by omega) (by first | rfl | simp [Nat.mul_one, Nat.zero_add] | omega)) fun a hA => zW 1 ((53, vP b7 (o8 + 1)) :: _) hA hS rfl fun a hA => dr_y hA rfl rfl rfl (by decide) hS (fun w' hS' => rn_load tbOk hA rfl rfl rfl rfl ((hr _ (hS'.tail 2 rfl)).elemf (k := 0) encPacket_ok hx3 (j := 1) rfl)) fun a hA => zW 2 ((56, .bool (x5f1 != x3f1)) :: (55, .bool (x5f1 != x3f1)) :: _) hA hS rfl fun a hA => ze (zx ?_)
                               by_cases hc18 : x5f1 = x3f1
                               · first
                                 | (exfalso; omega)
                                 | (replace hA := hA.rw 56 (v' := yF) rfl (vb_ne_f hc18)
                                    refine cd_cond_f hA rfl (zk (zx (zr (zR 2 ((58, vP b9 5) :: (57, .slice Ao ((cat ps k).length) co) :: _) hA rfl fun a hA => zL hA hS 0 rfl rfl rfl rfl rfl rfl rfl rfl rfl fun a hA => ?_))))
                                    replace hS := hS.m1
                                    refine st_append tbOk hA (m := (cat ps k).length) (q := x5b5.length) (xs := rows encB (cat ps k)) (news := rows encB x5b5) rfl rfl rfl rfl rfl rfl rfl rfl (by decide) hO hS ((hd6 _ (hS.only 2 rfl))) (rows_one encB_ok _) (maxLen_le (by omega)) (by show ((cat ps k).length + x5b5.length) * 1 ≤ 140737488355328; omega) rfl rfl (by decide) ?_
                                    clear hA hS; intro v19 w20 C21 a hO21 hS hA
                                    replace hO21 := Own.app (l := cat ps k) (l2 := x5b5) hO21
                                    obtain ⟨A22, c23, rfl, hmc23, hxc23⟩ := hO21.open'
                                    refine zR 1 ((4, .slice A22 (((cat ps k) ++ x5b5).length) c23) :: _) hA rfl fun a hA => zn (zm (zx (zr (zR 1 ((61, .int .i64 (IntKind.i64.wrap (((k : Nat) : Int) + 1))) :: _) hA rfl fun a hA => ?_))))
                                    replace hA := hA.rw 61 (v' := vI (k + 1)) rfl (wr64 (by omega) (by omega) (by omega))
                                    refine zR 1 ((9, vI (k + 1)) :: _) hA rfl fun a hA => zn ?_
                                    have hcs := cat_succ hx5
                                    have hcl : (cat ps (k + 1)).length ≤ (k + 1) * 32768 := by rw [← hcs, List.length_append]; show _ + x5b5.length ≤ _; omega
                                    have hl : (cat ps k) ++ x5b5 = cat ps (k + 1) := hcs
                                    rw [hl] at hO21; rw [hl] at hA
                                    replace hS := hS.m1.d0
                                    exact lp_next _ (by omega) ⟨(k + 1), A22, c23, C21, rfl, (hA.sel [0, 4, 7, 8, 9] rfl), hS, by omega, hcl, (fun i y p0 hi hy h0 => by
                                          by_cases hik : i = k
                                          · subst hik
                                            rw [hx5] at hy; injection hy with hy; subst hy
                                            rw [hx3] at h0; injection h0 with h0; subst h0
                                            refine ⟨⟨?_, ?_, ?_, ?_, ?_⟩, ?_, ?_, ?_, ?_, ?_⟩ <;> dsimp only [pdat] <;> omega
                                          · exact hfit i y p0 (by omega) hy h0), hO21⟩)
                               · first
                                 | (exfalso; omega)
                                 | (replace hA := hA.rw 56 (v' := yT) rfl (vb_ne_t hc18)
                                    refine cd_cond_t hA rfl (zs (zr (zR 2 ((3, yF) :: (2, yS) :: _) hA rfl fun a hA => zn (zx ?_))))
                                    refine wp_ret (xt_ret (xb_ret (xt_ret (xt_ret (xb_ret (xt_ret ?_))))))
                                    refine ret2 (fn := Tryz.f91) hA rfl rfl rfl ?_
                                    replace hS := hS.d0.d0
                                    exact ⟨[], _, [], Own.nil 5 1, .inr ⟨fun hf => by have h9 := hf _ _ _ hx5 hx3; unfold fits at h9; dsimp only [pdat] at h9; omega, rfl, rfl⟩, hS.nil⟩))
                          · first
                            | (exfalso; omega)
                            | (replace hA := hA.rw 46 (v' := yT) rfl (vb_ne_t hc17)
                               replace hA := hA.rw 47 (v' := yT) rfl (vb_ne_t hc17)
                               replace hA := hA.rw 48 (v' := yT) rfl (vb_ne_t hc17)
                               refine zW 8 ((56, yT) :: (55, undef) :: (54, undef) :: (53, undef) :: (52, undef) :: (51, undef) :: (50, undef) :: (49, undef) :: _) hA hS rfl fun a hA => ze (zx (cd_cond_t hA rfl (zs (zr (zR 2 ((3, yF) :: (2, yS) :: _) hA rfl fun a hA => zn (zx ?_))))))
                               refine wp_ret (xt_ret (xb_ret (xt_ret (xt_ret (xb_ret (xt_ret ?_))))))
                               refine ret2 (fn := Tryz.f91) hA rfl rfl rfl ?_
                               replace hS := hS.d0.d0
                               exact ⟨[], _, [], Own.nil 5 1, .inr ⟨fun hf => by have h9 := hf _ _ _ hx5 hx3; unfold fits at h9; dsimp only [pdat] at h9; omega, rfl, rfl⟩, hS.nil⟩))
                     · first
                       | (exfalso; omega)
                       | (replace hA := hA.rw 37 (v' := yT) rfl (vb_ne_t hc16)
                          replace hA := hA.rw 38 (v' := yT) rfl (vb_ne_t hc16)
                          replace hA := hA.rw 39 (v' := yT) rfl (vb_ne_t hc16)
                          refine zW 17 ((56, yT) :: (55, undef) :: (54, undef) :: (53, undef) :: (52, undef) :: (51, undef) :: (50, undef) :: (49, undef) :: (48, yT) :: (47, yT) :: (46, undef) :: (45, undef) :: (44, undef) :: (43, undef) :: (42, undef) :: (41, undef) :: (40, undef) :: _) hA hS rfl fun a hA => ze (zx (cd_cond_t hA rfl (zs (zr (zR 2 ((3, yF) :: (2, yS) :: _) hA rfl fun a hA => zn (zx ?_))))))
                          refine wp_ret (xt_ret (xb_ret (xt_ret (xt_ret (xb_ret (xt_ret ?_))))))
                          refine ret2 (fn := Tryz.f91) hA rfl rfl rfl ?_
                          replace hS := hS.d0.d0
                          exact ⟨[], _, [], Own.nil 5 1, .inr ⟨fun hf => by have h9 := hf _ _ _ hx5 hx3; unfold fits at h9; dsimp only [pdat] at h9; omega, rfl, rfl⟩, hS.nil⟩))
                · first
                  | (exfalso; omega)
                  | (replace hA := hA.rw 28 (v' := yT) rfl (vb_ne_t hc15)
                     replace hA := hA.rw 29 (v' := yT) rfl (vb_ne_t hc15)
                     replace hA := hA.rw 30 (v' := yT) rfl (vb_ne_t hc15)
                     refine zW 26 ((56, yT) :: (55, undef) :: (54, undef) :: (53, undef) :: (52, undef) :: (51, undef) :: (50, undef) :: (49, undef) :: (48, yT) :: (47, yT) :: (46, undef) :: (45, undef) :: (44, undef) :: (43, undef) :: (42, undef) :: (41, undef) :: (40, undef) :: (39, yT) :: (38, yT) :: (37, undef) :: (36, undef) :: (35, undef) :: (34, undef) :: (33, undef) :: (32, undef) :: (31, undef) :: _) hA hS rfl fun a hA => ze (zx (cd_cond_t hA rfl (zs (zr (zR 2 ((3, yF) :: (2, yS) :: _) hA rfl fun a hA => zn (zx ?_))))))
                     refine wp_ret (xt_ret (xb_ret (xt_ret (xt_ret (xb_ret (xt_ret ?_))))))
                     refine ret2 (fn := Tryz.f91) hA rfl rfl rfl ?_
                     replace hS := hS.d0.d0
                     exact ⟨[], _, [], Own.nil 5 1, .inr ⟨fun hf => by have h9 := hf _ _ _ hx5 hx3; unfold fits at h9; dsimp only [pdat] at h9; omega, rfl, rfl⟩, hS.nil⟩))
           · first
             | (exfalso; omega)
             | (replace hA := hA.rw 21 (v' := yT) rfl (vb_ne_t hc14)
                replace hA := hA.rw 22 (v' := yT) rfl (vb_ne_t hc14)
                replace hA := hA.rw 23 (v' := yT) rfl (vb_ne_t hc14)
                refine zW 33 ((56, yT) :: (55, undef) :: (54, undef) :: (53, undef) :: (52, undef) :: (51, undef) :: (50, undef) :: (49, undef) :: (48, yT) :: (47, yT) :: (46, undef) :: (45, undef) :: (44, undef) :: (43, undef) :: (42, undef) :: (41, undef) :: (40, undef) :: (39, yT) :: (38, yT) :: (37, undef) :: (36, undef) :: (35, undef) :: (34, undef) :: (33, undef) :: (32, undef) :: (31, undef) :: (30, yT) :: (29, yT) :: (28, undef) :: (27, undef) :: (26, undef) :: (25, undef) :: (24, undef) :: _) hA hS rfl fun a hA => ze (zx (cd_cond_t hA rfl (zs (zr (zR 2 ((3, yF) :: (2, yS) :: _) hA rfl fun a hA => zn (zx ?_))))))
                refine wp_ret (xt_ret (xb_ret (xt_ret (xt_ret (xb_ret (xt_ret ?_))))))
                refine ret2 (fn := Tryz.f91) hA rfl rfl rfl ?_
                replace hS := hS.d0.d0
                exact ⟨[], _, [], Own.nil 5 1, .inr ⟨fun hf => by have h9 := hf _ _ _ hx5 hx3; unfold fits at h9; dsimp only [pdat] at h9; omega, rfl, rfl⟩, hS.nil⟩))
      · first
        | (exfalso; omega)
        | (replace hA := hA.rw 15 (v' := yF) rfl (vb_false hc13)
           refine zW 41 ((56, yT) :: (55, undef) :: (54, undef) :: (53, undef) :: (52, undef) :: (51, undef) :: (50, undef) :: (49, undef) :: (48, yT) :: (47, yT) :: (46, undef) :: (45, undef) :: (44, undef) :: (43, undef) :: (42, undef) :: (41, undef) :: (40, undef) :: (39, yT) :: (38, yT) :: (37, undef) :: (36, undef) :: (35, undef) :: (34, undef) :: (33, undef) :: (32, undef) :: (31, undef) :: (30, yT) :: (29, yT) :: (28, undef) :: (27, undef) :: (26, undef) :: (25, undef) :: (24, undef) :: (23, yT) :: (22, yT) :: (21, undef) :: (20, undef) :: (19, undef) :: (18, undef) :: (17, yT) :: (16, yT) :: _) hA hS rfl fun a hA => ze (zx (cd_cond_t hA rfl (zs (zr (zR 2 ((3, yF) :: (2, yS) :: _) hA rfl fun a hA => zn (zx ?_))))))
           refine wp_ret (xt_ret (xb_ret (xt_ret (xt_ret (xb_ret (xt_ret ?_))))))
           refine ret2 (fn := Tryz.f91) hA rfl rfl rfl ?_
           replace hS := hS.d0.d0
           exact ⟨[], _, [], Own.nil 5 1, .inr ⟨fun hf => by have h9 := hf _ _ _ hx5 hx3; unfold fits at h9; dsimp only [pdat] at h9; omega, rfl, rfl⟩, hS.nil⟩))
 · first
   | (exfalso; omega)
   | (replace hA := hA.rw 10 (v' := yF) rfl (vb_false hc2)
      refine cd_cond_f hA rfl ?_
      refine wp_exit ?_
      refine xt_exit (xt_exit (cd_exit_eq (zx (zs (zr (zR 6 ((3, .bool (decide (((ps.length : Nat) : Int) > 0))) :: (2, .slice Ao ((cat ps k).length) co) :: (65, .bool (decide (((ps.length : Nat) : Int) > 0))) :: (64, vI ps.length) :: (63, .slice A ps.length c) :: (62, .slice Ao ((cat ps k).length) co) :: _) hA rfl fun a hA => zn (zx ?_)))))))
      refine wp_ret ?_
      refine ret2 (fn := Tryz.f91) hA rfl rfl rfl ?_
      have hkl : k = ps.length := by omega
      subst hkl
      exact ⟨_, _, _, hO, .inl ⟨fun i x p0 hx h0 => hfit i x p0 (List.getElem?_eq_some_iff.1 hx).1 hx h0, rfl, rfl⟩, hS⟩)
def encPart (x : Int × Int × Int × Option Addr × Nat × List Bool × Option Addr × Nat × List Pkt) : List Value := [.int .i64 x.1, .int .i64 x.2.1, .int .u64 x.2.2.1, .slice x.2.2.2.1 x.2.2.2.2.2.1.length x.2.2.2.2.1, .slice x.2.2.2.2.2.2.1 x.2.2.2.2.2.2.2.2.length x.2.2.2.2.2.2.2.1]
theorem encPart_ok : Enc encPart 5 := ⟨fun _ => rfl, fun x u hu => by simp only [encPart, List.mem_cons, List.not_mem_nil, or_false] at hu; rcases hu with rfl | rfl | rfl | rfl | rfl <;> rfl⟩
abbrev Part := Int × Int × Int × Option Addr × Nat × List Bool × Option Addr × Nat × List Pkt
def phas (x : Part) : List Bool := x.2.2.2.2.2.1
def ppk (x : Part) : List Pkt := x.2.2.2.2.2.2.2.2
abbrev GV := Int × Int × Int × List Bool × List (List UInt8)
def gv (x : Part) : GV := (x.1, x.2.1, x.2.2.1, phas x, (ppk x).map pdat)
def gkey (fr to id : Int) (x : Part) : Bool := x.1 == fr && (x.2.1 == to && x.2.2.1 == id)
def vkey (fr to id : Int) (x : GV) : Prop := x.1 = fr ∧ x.2.1 = to ∧ x.2.2.1 = id
def PO : List Part → Chunk → Prop
  | [], R => R = []
  | x :: l, R => ∃ Ch Cp R', R = Ch ++ (Cp ++ R') ∧ Own 4 1 (.slice x.2.2.2.1 (phas x).length x.2.2.2.2.1) (phas x).length (rows encBo (phas x)) Ch ∧ Own 94 6 (.slice x.2.2.2.2.2.2.1 (ppk x).length x.2.2.2.2.2.2.2.1) (ppk x).length (rows encPacket (ppk x)) Cp ∧ PO l R'
structure PI (x : Part) : Prop where
  hp : (phas x).length = (ppk x).length
  l1 : 1 ≤ (phas x).length
  l2 : (phas x).length ≤ 256
  at_ : ∀ (i : Nat), (phas x)[i]? = some true → ∃ (A : Option Addr) (c : Nat) (bs : List UInt8), (ppk x)[i]? = some (x.1, x.2.1, x.2.2.1, ((i : Nat) : Int), (((phas x).length : Nat) : Int), A, c, bs) ∧ bs.length ≤ 32768
  dl : ∀ y ∈ ppk x, (pdat y).length ≤ 32768
def GS (w0 : World) (b : Nat) (vs : List GV) (L D : Chunk) : Prop := ∃ (ps : List Part) (v : Value) (C R : Chunk), Own 195 5 v ps.length (rows encPart ps) C ∧ L = (b, rowO [v] 130) :: (C ++ R) ∧ PO ps R ∧ (∀ x ∈ ps, PI x) ∧ (∀ x ∈ ps, ∀ y ∈ ppk x, encPacket_dd w0 D y) ∧ ps.map gv = vs
theorem GS.new (w0 : World) (b : Nat) : GS w0 b [] [(b, rowO [yS] 130)] [] := ⟨[], _, [], [], Own.nil _ _, rfl, rfl, fun x h => (by cases h), fun x h => (by cases h), rfl⟩
theorem PO.app : ∀ {l m : List Part} {R S : Chunk}, PO l R → PO m S → PO (l ++ m) (R ++ S)
  | [], m, R, S, h, h2 => by have e : R = [] := h; subst e; exact h2
  | x :: l, m, R, S, h, h2 => by
    obtain ⟨Ch, Cp, R', rfl, h3, h4, h5⟩ := h
    exact ⟨Ch, Cp, R' ++ S, by simp, h3, h4, PO.app h5 h2⟩
theorem PO.cut : ∀ {l m : List Part} {R : Chunk}, PO (l ++ m) R → ∃ R1 R2, R = R1 ++ R2 ∧ PO l R1 ∧ PO m R2
  | [], m, R, h => ⟨[], R, rfl, rfl, h⟩
  | x :: l, m, R, h => by
    obtain ⟨Ch, Cp, R', rfl, h3, h4, h5⟩ := h
    obtain ⟨R1, R2, rfl, h6, h7⟩ := PO.cut (l := l) (m := m) h5
    exact ⟨Ch ++ (Cp ++ R1), R2, by simp, ⟨Ch, Cp, R1, rfl, h3, h4, h6⟩, h7⟩
theorem cut_at {α : Type} {l : List α} {k : Nat} {x : α} (h : l[k]? = some x) : l = l.take k ++ (x :: l.drop (k + 1)) := by
  have hk := (List.getElem?_eq_some_iff.1 h).1
  have he := (List.getElem?_eq_some_iff.1 h).2
  rw [← he, ← List.drop_eq_getElem_cons hk, List.take_append_drop]
theorem set_cut {α : Type} {l : List α} {k : Nat} {y : α} (hk : k < l.length) : l.set k y = l.take k ++ (y :: l.drop (k + 1)) := List.set_eq_take_append_cons_drop .. |>.trans (if_pos hk)
theorem PO.at {ps : List Part} {k : Nat} {x : Part} {R : Chunk} (h : PO ps R) (hx : ps[k]? = some x) : ∃ R1 Ch Cp R2, R = R1 ++ (Ch ++ (Cp ++ R2)) ∧ PO (ps.take k) R1 ∧ Own 4 1 (.slice x.2.2.2.1 (phas x).length x.2.2.2.2.1) (phas x).length (rows encBo (phas x)) Ch ∧ Own 94 6 (.slice x.2.2.2.2.2.2.1 (ppk x).length x.2.2.2.2.2.2.2.1) (ppk x).length (rows encPacket (ppk x)) Cp ∧ PO (ps.drop (k + 1)) R2 := by
  rw [cut_at hx] at h
  obtain ⟨R1, R2, rfl, h1, Ch, Cp, R', rfl, h3, h4, h5⟩ := PO.cut h
  have e : ps.take k ++ (x :: ps.drop (k + 1)) = ps := (cut_at hx).symm
  exact ⟨R1, Ch, Cp, R', rfl, h1, h3, h4, h5⟩
theorem PO.put {ps : List Part} {k : Nat} {y : Part} {R1 Ch Cp R2 : Chunk} (h1 : PO (ps.take k) R1) (h3 : Own 4 1 (.slice y.2.2.2.1 (phas y).length y.2.2.2.2.1) (phas y).length (rows encBo (phas y)) Ch) (h4 : Own 94 6 (.slice y.2.2.2.2.2.2.1 (ppk y).length y.2.2.2.2.2.2.2.1) (ppk y).length (rows encPacket (ppk y)) Cp) (h2 : PO (ps.drop (k + 1)) R2) (hk : k < ps.length) : PO (ps.set k y) (R1 ++ (Ch ++ (Cp ++ R2))) := by
  rw [set_cut hk]
  exact PO.app h1 ⟨Ch, Cp, R2, rfl, h3, h4, h2⟩
theorem rows_same {α : Type} {en : α → List Value} {l : List α} {k : Nat} {x y : α} (hx : l[k]? = some x) (h : en y = en x) : rows en (l.set k y) = rows en l := by
  have hk := (List.getElem?_eq_some_iff.1 hx).1
  have e : l.set k y = l.take k ++ (y :: l.drop (k + 1)) := set_cut hk
  rw [e]
  conv => rhs; rw [cut_at hx]
  rw [rows_append, rows_append, rows_cons, rows_cons, h]
theorem PI.put {fr to id : Int} {hA pA : Option Addr} {hc pc : Nat} {hb : List Bool} {pk : List Pkt} (h : PI (fr, to, id, hA, hc, hb, pA, pc, pk)) {ix cn : Nat} {A : Option Addr} {c : Nat} {bs : List UInt8} (hcn : hb.length = cn) (hix : ix < cn) (hbl : bs.length ≤ 32768) (hA2 pA2 : Option Addr) : PI (fr, to, id, hA2, hc, hb.set ix true, pA2, pc, pk.set ix (fr, to, id, ((ix : Nat) : Int), ((cn : Nat) : Int), A, c, bs)) := by
  have hp : hb.length = pk.length := h.hp
  have l1 : 1 ≤ hb.length := h.l1
  have l2 : hb.length ≤ 256 := h.l2
  refine ⟨?_, ?_, ?_, fun i hi => ?_, fun y hy => ?_⟩
  · show (hb.set ix true).length = (pk.set ix _).length; rw [List.length_set, List.length_set]; exact hp
  · show 1 ≤ (hb.set ix true).length; rw [List.length_set]; exact l1
  · show (hb.set ix true).length ≤ 256; rw [List.length_set]; exact l2
  · change (hb.set ix true)[i]? = some true at hi
    show ∃ (A2 : Option Addr) (c2 : Nat) (bs2 : List UInt8), (pk.set ix (fr, to, id, ((ix : Nat) : Int), ((cn : Nat) : Int), A, c, bs))[i]? = some (fr, to, id, ((i : Nat) : Int), (((hb.set ix true).length : Nat) : Int), A2, c2, bs2) ∧ bs2.length ≤ 32768
    rw [List.length_set, hcn]
    by_cases e : ix = i
    · subst e
      exact ⟨A, c, bs, List.getElem?_set_self (by omega), hbl⟩
    · rw [List.getElem?_set_ne e] at hi ⊢
      have h9 := h.at_ i hi
      change ∃ (A2 : Option Addr) (c2 : Nat) (bs2 : List UInt8), pk[i]? = some (fr, to, id, ((i : Nat) : Int), ((hb.length : Nat) : Int), A2, c2, bs2) ∧ bs2.length ≤ 32768 at h9
      rw [hcn] at h9; exact h9
  · rcases List.mem_or_eq_of_mem_set (show y ∈ pk.set ix _ from hy) with hy | rfl
    · exact h.dl y hy
    · exact hbl
theorem PI.allfit {x : Part} (h : PI x) (ha : (phas x).any (fun y => y == false) = false) : AllFit (ppk x) := by
  have hall : ∀ (k : Nat) (y : Pkt), (ppk x)[k]? = some y → ∃ (A : Option Addr) (c : Nat) (bs : List UInt8), y = (x.1, x.2.1, x.2.2.1, ((k : Nat) : Int), (((phas x).length : Nat) : Int), A, c, bs) ∧ bs.length ≤ 32768 := fun k y hy => by
    have hk := (List.getElem?_eq_some_iff.1 hy).1
    have hk2 : k < (phas x).length := by rw [h.hp]; exact hk
    have ht : (phas x)[k]? = some true := by
      rw [List.any_eq_false] at ha
      have := ha _ (List.getElem_mem hk2)
      rw [List.getElem?_eq_getElem hk2]
      cases hc : (phas x)[k] with
      | true => rfl
      | false => rw [hc] at this; exact absurd rfl this
    obtain ⟨A, c, bs, h1, h2⟩ := h.at_ k ht
    rw [hy] at h1; injection h1 with h1
    exact ⟨A, c, bs, h1, h2⟩
  intro k y p0 hy h0
  have hk := (List.getElem?_eq_some_iff.1 hy).1
  obtain ⟨A, c, bs, rfl, hb⟩ := hall k y hy
  obtain ⟨A0, c0, bs0, rfl, hb0⟩ := hall 0 p0 h0
  have l1 := h.l1; have l2 := h.l2; have hp := h.hp
  unfold fits
  dsimp only [pdat]
  refine ⟨⟨by omega, by omega, by omega, by omega, hb⟩, rfl, by omega, rfl, rfl, rfl⟩
theorem map_at' {ps : List Part} {vs : List GV} (h : ps.map gv = vs) {k : Nat} {z : GV} (hz : vs[k]? = some z) : ∃ x, ps[k]? = some x ∧ gv x = z := by
  subst h
  rw [List.getElem?_map] at hz
  cases hx : ps[k]? with
  | none => rw [hx] at hz; cases hz
  | some x => rw [hx] at hz; injection hz with hz; exact ⟨x, rfl, hz⟩
theorem gkey_no {ps : List Part} {fr to id : Int} {k : Nat} (h : ∀ (i : Nat) (z : GV), i < k → (ps.map gv)[i]? = some z → ¬ vkey fr to id z) : ∀ (i : Nat) (x : Part), i < k → ps[i]? = some x → gkey fr to id x = false := fun i x hi hx => by
  have h1 := h i (gv x) hi (by rw [List.getElem?_map, hx]; rfl)
  rw [Bool.eq_false_iff]; intro h2
  simp only [gkey, Bool.and_eq_true, beq_iff_eq] at h2
  exact h1 h2
theorem cat_dat {ps : List Pkt} : cat ps ps.length = (ps.map pdat).flatten := by rw [cat, List.take_length]
theorem part_dd {w0 : World} {D E : Chunk} {ps : List Part} (h : ∀ x ∈ ps, ∀ y ∈ ppk x, encPacket_dd w0 D y) {k : Nat} {x : Part} {pk : List Pkt} {ix : Nat} {p : Pkt} (hx : ppk x = pk.set ix p) (hpk : ∀ y ∈ pk, encPacket_dd w0 D y) (hd : encPacket_dd w0 (E ++ D) p) : ∀ z ∈ ps.set k x, ∀ y ∈ ppk z, encPacket_dd w0 (E ++ D) y := fun z hz y hy => by
  rcases List.mem_or_eq_of_mem_set hz with hz | rfl
  · exact encPacket_left (h z hz y hy)
  · rw [hx] at hy
    rcases List.mem_or_eq_of_mem_set hy with hy | rfl
    · exact encPacket_left (hpk y hy)
    · exact hd
theorem set_all {α : Type} {P : α → Prop} {l : List α} {k : Nat} {x : α} (h : ∀ y ∈ l, P y) (hx : P x) : ∀ y ∈ l.set k x, P y := fun y hy => (List.mem_or_eq_of_mem_set hy).elim (h y) (fun e => e ▸ hx)
theorem sub_all {α : Type} {P : α → Prop} {l : List α} {k : Nat} (h : ∀ y ∈ l, P y) : ∀ y ∈ l.take k ++ l.drop (k + 1), P y := fun y hy => (List.mem_append.1 hy).elim (fun hy => h y (List.mem_of_mem_take hy)) (fun hy => h y (List.mem_of_mem_drop hy))
theorem snoc_all {α : Type} {P : α → Prop} {l : List α} {x : α} (h : ∀ y ∈ l, P y) (hx : P x) : ∀ y ∈ l ++ [x], P y := fun y hy => (List.mem_append.1 hy).elim (h y) (fun hy => by rw [List.mem_singleton.1 hy]; exact hx)
theorem set_same {α : Type} {l : List α} {n : Nat} {x : α} (h : l[n]? = some x) : l.set n x = l := by
  obtain ⟨hn, hx⟩ := List.getElem?_eq_some_iff.1 h
  rw [← hx]; exact List.set_getElem_self hn
theorem encs_left {w0 : World} {D E : Chunk} {ps : List Part} (h : ∀ x ∈ ps, ∀ y ∈ ppk x, encPacket_dd w0 D y) : ∀ x ∈ ps, ∀ y ∈ ppk x, encPacket_dd w0 (E ++ D) y := fun x hx y hy => encPacket_left (h x hx y hy)
theorem new_set {α β : Type} {f : α → β} {l : List α} {x : α} {k : Nat} {z : β} (hk : k = l.length) : ((l ++ [x]).map f).set k z = l.map f ++ [z] := by
  subst hk
  rw [List.map_append, List.set_append_right _ _ (by rw [List.length_map]; exact Nat.le_refl _), List.length_map, Nat.sub_self]; rfl
theorem PI.fresh {fr to id : Int} {hA pA : Option Addr} {hc pc cn : Nat} (h1 : 1 ≤ cn) (h2 : cn ≤ 256) : PI (fr, to, id, hA, hc, List.replicate cn false, pA, pc, List.replicate cn ((0, 0, 0, 0, 0, none, 0, []) : Pkt)) := by
  refine ⟨?_, ?_, ?_, fun i hi => ?_, fun y hy => ?_⟩
  · show (List.replicate cn false).length = (List.replicate cn ((0, 0, 0, 0, 0, none, 0, []) : Pkt)).length; rw [List.length_replicate, List.length_replicate]
  · show 1 ≤ (List.replicate cn false).length; rw [List.length_replicate]; exact h1
  · show (List.replicate cn false).length ≤ 256; rw [List.length_replicate]; exact h2
  · change (List.replicate cn false)[i]? = some true at hi
    rw [List.getElem?_replicate] at hi; split at hi
    · injection hi with hi; cases hi
    · cases hi
  · have h9 : y = ((0, 0, 0, 0, 0, none, 0, []) : Pkt) := List.eq_of_mem_replicate (show y ∈ List.replicate cn ((0, 0, 0, 0, 0, none, 0, []) : Pkt) from hy)
    rw [h9]; exact Nat.zero_le _
theorem indexb115 {w0 w : World} {F : List Chunk} (hS : St w0 w F) {v : Value} {l : List Bool} (hr : RdS w0 F 1 v l.length (rows encBo l)) :
 Ret Tryz.prog 115 #[v, yF] w (fun v w' => v = .int .i64 (idx (fun y => y == false) l) ∧ St w0 w' F) := by
 obtain ⟨A, c, rfl, hmc, hcx⟩ := (hr w hS).open'
 refine enter (vs := [.slice A l.length c, yF]) 19 Tryz.func115 rfl rfl (by simp) ?_; intro a hA
 refine zs (zr (zR 1 ((4, yI) :: _) hA rfl fun a hA => zn (zx (zs (zs (zr (zR 3 ((8, yI) :: (7, vI l.length) :: (6, .slice A l.length c) :: _) hA rfl fun a hA => zn (zx (zb ?_)))))))))
 refine wp_loop_ghost (fun m a w => ∃ (k : Nat), m = l.length - k ∧ Has a 19 [(0, .slice A l.length c), (1, yF), (7, vI l.length), (8, vI k)] ∧ St w0 w (F) ∧ (k ≤ l.length) ∧ (∀ (i : Nat) (y : Bool), i < k → l[i]? = some y → (y == false) = false)) (l.length - 0)
  ⟨0, rfl, (hA.sel [0, 1, 7, 8] rfl), hS, Nat.zero_le _, fun i y hi => absurd hi (by omega)⟩ ?_
 clear hA hS; rintro m0 a w1 ⟨k, rfl, hA, hS, hk, hb⟩
 refine zs (zr (zR 1 ((9, .bool (decide (((k : Nat) : Int) < ((l.length : Nat) : Int)))) :: _) hA rfl fun a hA => zn (zx (zs ?_))))
 by_cases hc2 : ((k : Nat) : Int) < ((l.length : Nat) : Int)
 · first
   | (exfalso; omega)
   | (replace hA := hA.rw 9 (v' := yT) rfl (vb_true hc2)
      refine cd_cond_t hA rfl (zk (zx (zs (zb (zs (zr (zR 2 ((5, vI k) :: (10, vI k) :: _) hA rfl fun a hA => zn (zx (zs (zr (zR 3 ((13, vI k) :: (12, .slice A l.length c) :: (11, yF) :: _) hA rfl fun a hA => ?_)))))))))))
      obtain ⟨x0, hx0⟩ := get_ex (l := l) (k := k) (by omega)
      rcases Bool.eq_false_or_eq_true x0 with h0 | h0
      · subst h0
        obtain ⟨b3, o4, rfl⟩ := (hr _ hS).isSome (k := k) (by omega)
        refine st_val hA rfl rfl (by decide) (rn_indexAddr tbOk hA k (o4 + k) rfl rfl rfl rfl rfl rfl (by rfl) (by omega) (by first | rfl | simp [Nat.mul_one, Nat.zero_add] | omega)) fun a hA => st_val hA rfl rfl (by decide) (rn_load tbOk hA rfl rfl rfl rfl ((hr _ hS).elem0 (k := k) encBo_ok hx0 rfl)) fun a hA => zR 1 ((16, yF) :: _) hA rfl fun a hA => zn (zx (cd_cond_f hA rfl (zk (zm (zx (zr (zR 1 ((18, .int .i64 (IntKind.i64.wrap (((k : Nat) : Int) + 1))) :: _) hA rfl fun a hA => ?_)))))))
        replace hA := hA.rw 18 (v' := vI (k + 1)) rfl (wr64 (by omega) (by omega) (by omega))
        refine zR 1 ((8, vI (k + 1)) :: _) hA rfl fun a hA => zn ?_
        exact lp_next _ (by omega) ⟨(k + 1), rfl, (hA.sel [0, 1, 7, 8] rfl), hS, by omega, fun i y hi hy => (Nat.lt_succ_iff_lt_or_eq.1 hi).elim (fun h => hb i y h hy) (fun h => by subst h; rw [hx0] at hy; injection hy with hy; subst hy; rfl)⟩
      · subst h0
        obtain ⟨b5, o6, rfl⟩ := (hr _ hS).isSome (k := k) (by omega)
        refine st_val hA rfl rfl (by decide) (rn_indexAddr tbOk hA k (o6 + k) rfl rfl rfl rfl rfl rfl (by rfl) (by omega) (by first | rfl | simp [Nat.mul_one, Nat.zero_add] | omega)) fun a hA => st_val hA rfl rfl (by decide) (rn_load tbOk hA rfl rfl rfl rfl ((hr _ hS).elem0 (k := k) encBo_ok hx0 rfl)) fun a hA => zR 1 ((16, yT) :: _) hA rfl fun a hA => zn (zx (cd_cond_t hA rfl (zs (zr (zR 2 ((4, vI k) :: (17, vI k) :: _) hA rfl fun a hA => zn (zx ?_))))))
        refine wp_ret (xb_ret (xt_ret (xt_ret (xb_ret (xt_ret ?_)))))
        refine ret1 (fn := Tryz.f115) hA rfl rfl ?_
        exact ⟨vint (idx_some (p := fun y => y == false) hx0 rfl (fun i y hi hy => hb i y hi hy)).symm, hS⟩)
 · first
   | (exfalso; omega)
   | (replace hA := hA.rw 9 (v' := yF) rfl (vb_false hc2)
      refine cd_cond_f hA rfl ?_
      refine wp_exit ?_
      refine xt_exit (xt_exit (cd_exit_eq (zx (zs (zr (zR 1 ((4, .int .i64 (-1)) :: _) hA rfl fun a hA => zn (zx ?_)))))))
      refine wp_ret ?_
      refine ret1 (fn := Tryz.f115) hA rfl rfl ?_
      exact ⟨vint (idx_none (fun i y hy => hb i y (by have := (List.getElem?_eq_some_iff.1 hy).1; omega) hy)).symm, hS⟩)
theorem containsb90 {w0 w : World} {F : List Chunk} (hS : St w0 w F) {v : Value} {l : List Bool} (hr : RdS w0 F 1 v l.length (rows encBo l)) :
 Ret Tryz.prog 90 #[v, yF] w (fun v w' => v = .bool (l.any (fun y => y == false)) ∧ St w0 w' F) := by
 obtain ⟨A, c, rfl, hmc, hcx⟩ := (hr w hS).open'
 refine enter (vs := [.slice A l.length c, yF]) 9 Tryz.func90 rfl rfl (by simp) ?_; intro a hA
 refine zs (zr (zR 1 ((4, yF) :: _) hA rfl fun a hA => zn (zx (zs (zr (zR 2 ((6, yF) :: (5, .slice A l.length c) :: _) hA rfl fun a hA => ?_))))))
 refine st_call0 hA rfl rfl rfl isfn115 rfl rfl (by decide) (indexb115 hS (l := l) (fun w' h => (hr _ h))) ?_
 clear hA hS; rintro v w1 a ⟨rfl, hS⟩ hA
 refine zR 2 ((4, .bool (decide (idx (fun y => y == false) l ≥ 0))) :: (8, .bool (decide (idx (fun y => y == false) l ≥ 0))) :: _) hA rfl fun a hA => zn (zx ?_)
 refine wp_ret ?_
 refine ret1 (fn := Tryz.f90) hA rfl rfl ?_
 exact ⟨vbool (idx_any _ _), hS⟩
theorem indexFunc113 {w0 w : World} {F : List Chunk} (hS : St w0 w F) {v : Value} {l : List (Int × Int × Int × Option Addr × Nat × List Bool × Option Addr × Nat × List Pkt)} (hr : RdS w0 F 5 v l.length (rows encPart l)) {g : Nat} {first cap : Array Value} {p : (Int × Int × Int × Option Addr × Nat × List Bool × Option Addr × Nat × List Pkt) → Bool} (hg : IsFn Tryz.prog g) (hp : Pred Tryz.prog w0 F g first cap (fun x => .agg (encPart x).toArray) p) :
 Ret Tryz.prog 113 #[v, .func (.func g) first cap] w (fun v w' => v = .int .i64 (idx p l) ∧ St w0 w' F) := by
 obtain ⟨A, c, rfl, hmc, hcx⟩ := (hr w hS).open'
 refine enter (vs := [.slice A l.length c, .func (.func g) first cap]) 19 Tryz.func113 rfl rfl (by simp) ?_; intro a hA
 refine zs (zr (zR 1 ((4, yI) :: _) hA rfl fun a hA => zn (zx (zs (zs (zr (zR 3 ((8, yI) :: (7, vI l.length) :: (6, .slice A l.length c) :: _) hA rfl fun a hA => zn (zx (zb ?_)))))))))
 refine wp_loop_ghost (fun m a w => ∃ (k : Nat), m = l.length - k ∧ Has a 19 [(0, .slice A l.length c), (1, .func (.func g) first cap), (7, vI l.length), (8, vI k)] ∧ St w0 w (F) ∧ (k ≤ l.length) ∧ (∀ (i : Nat) (y : (Int × Int × Int × Option Addr × Nat × List Bool × Option Addr × Nat × List Pkt)), i < k → l[i]? = some y → p y = false)) (l.length - 0)
  ⟨0, rfl, (hA.sel [0, 1, 7, 8] rfl), hS, Nat.zero_le _, fun i y hi => absurd hi (by omega)⟩ ?_
 clear hA hS; rintro m0 a w1 ⟨k, rfl, hA, hS, hk, hb⟩
 refine zs (zr (zR 1 ((9, .bool (decide (((k : Nat) : Int) < ((l.length : Nat) : Int)))) :: _) hA rfl fun a hA => zn (zx (zs ?_))))
 by_cases hc2 : ((k : Nat) : Int) < ((l.length : Nat) : Int)
 · first
   | (exfalso; omega)
   | (replace hA := hA.rw 9 (v' := yT) rfl (vb_true hc2)
      refine cd_cond_t hA rfl (zk (zx (zs (zb (zs (zr (zR 2 ((5, vI k) :: (10, vI k) :: _) hA rfl fun a hA => zn (zx (zs (zr (zR 3 ((13, vI k) :: (12, .slice A l.length c) :: (11, .func (.func g) first cap) :: _) hA rfl fun a hA => ?_)))))))))))
      obtain ⟨b3, o4, rfl⟩ := (hr _ hS).isSome (k := k) (by omega)
      refine st_val hA rfl rfl (by decide) (rn_indexAddr tbOk hA k (o4 + (k * 5)) rfl rfl rfl rfl rfl rfl (by rfl) (by omega) (by first | rfl | simp [Nat.mul_one, Nat.zero_add] | omega)) fun a hA => ?_
      obtain ⟨x5, hx5⟩ := get_ex (l := l) (k := k) (by omega)
      obtain ⟨x5f0, x5f1, x5f2, x5A3, x5c3, x5b3, x5A6, x5c6, x5b6⟩ := x5
      refine st_val hA rfl rfl (by decide) (rn_loadA tbOk hA ([.int .i64 x5f0, .int .i64 x5f1, .int .u64 x5f2, .slice x5A3 x5b3.length x5c3, .slice x5A6 x5b6.length x5c6]) rfl rfl rfl rfl (by rfl) ((hr _ hS).elem (k := k) encPart_ok hx5)) fun a hA => ?_
      refine st_call hA rfl rfl rfl rfl hg rfl rfl (by decide) (hp _ (x5f0, x5f1, x5f2, x5A3, x5c3, x5b3, x5A6, x5c6, x5b6) hS) ?_
      clear hA; rintro v w6 a ⟨rfl, hS'⟩ hA; replace hS : St w0 w6 (F) := hS.trans hS'
      refine zn (zx ?_)
      by_cases hpx : (p (x5f0, x5f1, x5f2, x5A3, x5c3, x5b3, x5A6, x5c6, x5b6)) = true
      · first
        | (exfalso; omega)
        | (replace hA := hA.rw 16 (v' := yT) rfl (vb_t hpx)
           refine cd_cond_t hA rfl (zs (zr (zR 2 ((4, vI k) :: (17, vI k) :: _) hA rfl fun a hA => zn (zx ?_))))
           refine wp_ret (xb_ret (xt_ret (xt_ret (xb_ret (xt_ret ?_)))))
           refine ret1 (fn := Tryz.f113) hA rfl rfl ?_
           exact ⟨vint (idx_some hx5 hpx (fun i y hi hy => hb i y hi hy)).symm, hS⟩)
      · first
        | (exfalso; omega)
        | (replace hA := hA.rw 16 (v' := yF) rfl (vb_f hpx)
           refine cd_cond_f hA rfl (zk (zm (zx (zr (zR 1 ((18, .int .i64 (IntKind.i64.wrap (((k : Nat) : Int) + 1))) :: _) hA rfl fun a hA => ?_)))))
           replace hA := hA.rw 18 (v' := vI (k + 1)) rfl (wr64 (by omega) (by omega) (by omega))
           refine zR 1 ((8, vI (k + 1)) :: _) hA rfl fun a hA => zn ?_
           exact lp_next _ (by omega) ⟨(k + 1), rfl, (hA.sel [0, 1, 7, 8] rfl), hS, by omega, fun i y hi hy => (Nat.lt_succ_iff_lt_or_eq.1 hi).elim (fun h => hb i y h hy) (fun h => by subst h; rw [hx5] at hy; injection hy with hy; subst hy; simpa using hpx)⟩))
 · first
   | (exfalso; omega)
   | (replace hA := hA.rw 9 (v' := yF) rfl (vb_false hc2)
      refine cd_cond_f hA rfl ?_
      refine wp_exit ?_
      refine xt_exit (xt_exit (cd_exit_eq (zx (zs (zr (zR 1 ((4, .int .i64 (-1)) :: _) hA rfl fun a hA => zn (zx ?_)))))))
      refine wp_ret ?_
      refine ret1 (fn := Tryz.f113) hA rfl rfl ?_
      exact ⟨vint (idx_none (fun i y hy => hb i y (by have := (List.getElem?_eq_some_iff.1 hy).1; omega) hy)).symm, hS⟩)
theorem delete89 {w0 w : World} {F : List Chunk} {C : Chunk} (hS : St w0 w (C :: F)) {v : Value} {l : List (Int × Int × Int × Option Addr × Nat × List Bool × Option Addr × Nat × List Pkt)} (hO : Own 195 5 v l.length (rows encPart l) C) (i j : Nat) (hij : i ≤ j) (hj : j ≤ l.length) :
 Ret Tryz.prog 89 #[v, vI i, vI j] w (fun v w' => ∃ C', Own 195 5 v (l.take i ++ l.drop j).length (rows encPart (l.take i ++ l.drop j)) C' ∧ St w0 w' (C' :: F)) := by
 obtain ⟨A, c, rfl, hmc, hcx⟩ := hO.open'
 refine enter (vs := [.slice A l.length c, vI i, vI j]) 33 Tryz.func89 rfl rfl (by simp) ?_; intro a hA
 refine zs (zr (zR 1 ((6, yS) :: _) hA rfl fun a hA => zn (zx (zs (zr (zR 5 ((12, vI l.length) :: (11, .slice A l.length c) :: (10, vI j) :: (9, vI i) :: (8, .slice A l.length c) :: _) hA rfl fun a hA => st_val hA rfl rfl (by decide) (rn_slice_lhm tbOk hA i j l.length rfl rfl rfl rfl rfl rfl rfl rfl (by rfl) (by rfl) (by rfl) (by omega) (by omega) (by omega)) fun a hA => zn (zx (zs (zs (zr (zR 3 ((16, .bool (((i : Nat) : Int) == ((j : Nat) : Int))) :: (15, vI j) :: (14, vI i) :: _) hA rfl fun a hA => zn (zx ?_))))))))))))
 by_cases hc1 : ((i : Nat) : Int) = ((j : Nat) : Int)
 · first
   | (exfalso; omega)
   | (replace hA := hA.rw 16 (v' := yT) rfl (vb_eq_t hc1)
      refine cd_cond_t hA rfl (zs (zr (zR 2 ((6, .slice A l.length c) :: (17, .slice A l.length c) :: _) hA rfl fun a hA => zn (zx ?_))))
      refine wp_ret (xt_ret ?_)
      refine ret1 (fn := Tryz.f89) hA rfl rfl ?_
      have e0 : l.take i ++ l.drop j = l := by rw [show j = i by omega, List.take_append_drop]
      exact ⟨C, by rw [e0]; exact hO, hS⟩)
 · first
   | (exfalso; omega)
   | (replace hA := hA.rw 16 (v' := yF) rfl (vb_eq_f hc1)
      refine cd_cond_f hA rfl (zk (zx (zs (zr (zR 3 ((7, vI l.length) :: (19, vI l.length) :: (18, .slice A l.length c) :: _) hA rfl fun a hA => zn (zx (zs ?_)))))))
      refine zD1 hS [] [(0, true), (1, true), (2, true), (3, true), (4, true), (5, true), (6, false), (7, true)] mixed (by kernel_rfl) (by rintro c a w ⟨_, _, h, _⟩; cases h) (by rfl) (by kernel_rfl) ?_
      replace hS := hS.drew
      refine zW 2 ((21, vI i) :: (20, .slice A l.length c) :: _) hA (hS.tail 1 rfl) rfl fun a hA => dr_y hA rfl rfl rfl (by decide) (hS.tail 1 rfl) (fun w' hS' => rn_slice_h tbOk hA i rfl rfl rfl rfl rfl rfl (by rfl) (by omega)) fun a hA => zW 2 ((24, vI j) :: (23, .slice A l.length c) :: _) hA (hS.tail 1 rfl) rfl fun a hA => dr_y hA rfl rfl rfl (by decide) (hS.tail 1 rfl) (fun w' hS' => rn_slice_l tbOk hA j rfl rfl rfl rfl rfl rfl (by rfl) (by omega)) fun a hA => dr_b (o := _) rfl ?_
      refine st_append_rm tbOk hA (m := i) (q := ((l.take l.length).drop j).length) (c := c) (xs := (rows encPart l).take (i * 5)) (news := rows encPart ((l.take l.length).drop j)) rfl rfl rfl rfl rfl rfl rfl (hO.head i (by omega)) hS ((hO.rd (hS.own_ 0 rfl)).rslv encPart_ok j l.length c (by omega) (by omega) (by omega) (by omega)) (rows_one encPart_ok _) (by simp; omega) rfl rfl (by decide) ?_
      clear hA hS; intro w2 C3 a hO3 hS hA
      have e1 : i + ((l.take l.length).drop j).length = (l.take i ++ l.drop j).length := by simp; omega
      have e2 : (rows encPart l).take (i * 5) ++ rows encPart ((l.take l.length).drop j) = rows encPart (l.take i ++ l.drop j) := by rw [rows_take encPart_ok, rows_append, List.take_length]
      rw [e2, e1] at hO3
      rw [e1] at hA
      have e3 : (l.take i ++ l.drop j).length ≤ l.length := by simp; omega
      refine zi (hS.tail 1 rfl) (zW 1 ((0, .slice A ((l.take i ++ l.drop j).length) c) :: _) hA (hS.tail 1 rfl) rfl fun a hA => ze (zx (zs (zr (zR 4 ((30, vI l.length) :: (29, vI ((l.take i ++ l.drop j).length)) :: (28, .slice A ((l.take i ++ l.drop j).length) c) :: (27, .slice A ((l.take i ++ l.drop j).length) c) :: _) hA rfl fun a hA => st_val hA rfl rfl (by decide) (rn_slice_lh tbOk hA ((l.take i ++ l.drop j).length) l.length rfl rfl rfl rfl rfl rfl rfl (by rfl) (by rfl) (by omega) (by omega)) fun a hA => ?_)))))
      refine st_clear tbOk hA (h := (l.take i ++ l.drop j).length) (old := l.length) (c := c) rfl rfl rfl rfl rfl rfl (fun u hu => List.all_eq_true.1 (by rfl) u hu) hO3 hS (by omega) (by omega) rfl rfl ?_; clear hS; intro w4 C5 hO5 hS
      refine zn (zx (zs (zr (zR 2 ((6, .slice A ((l.take i ++ l.drop j).length) c) :: (32, .slice A ((l.take i ++ l.drop j).length) c) :: _) hA rfl fun a hA => zn (zx ?_)))))
      refine wp_ret ?_
      refine ret1 (fn := Tryz.f89) hA rfl rfl ?_
      exact ⟨_, hO5, hS⟩)
theorem clonex83 {w0 w : World} {F : List Chunk} (hS : St w0 w F) {v : Value} {l : List UInt8} (hr : RdSX w0 F 1 v l.length (rows encB l)) (hb : l.length ≤ 140737488351232) :
 Ret Tryz.prog 83 #[v] w (fun v w' => ∃ A c C, Own 5 1 (.slice A l.length c) l.length (rows encB l) C ∧ v = .slice A l.length c ∧ St w0 w' (C :: F)) := by
 obtain ⟨hl0, ⟨rfl, h0⟩ | ⟨ad, c, rfl, hmc, hcx, hcells⟩⟩ := hr w hS
 all_goals clear hl0
 · obtain rfl := List.eq_nil_of_length_eq_zero h0
   refine enter (vs := [yS]) 8 Tryz.func83 rfl rfl (by simp) ?_; intro a hA
   refine zs (zr (zR 1 ((2, yS) :: _) hA rfl fun a hA => zn (zx (zs (zs (zr (zR 2 ((4, yT) :: (3, yS) :: _) hA rfl fun a hA => zn (zx (cd_cond_t hA rfl (zs (zr (zR 1 ((2, yS) :: _) hA rfl fun a hA => zn (zx ?_)))))))))))))
   refine wp_ret (xt_ret ?_)
   refine ret1 (fn := Tryz.f83) hA rfl rfl ?_
   exact ⟨none, 0, [], Own.nil _ _, rfl, hS.nil⟩
 · clear hcells
   refine enter (vs := [.slice (some ad) l.length c]) 8 Tryz.func83 rfl rfl (by simp) ?_; intro a hA
   refine zs (zr (zR 1 ((2, yS) :: _) hA rfl fun a hA => zn (zx (zs (zs (zr (zR 2 ((4, yF) :: (3, .slice (some ad) l.length c) :: _) hA rfl fun a hA => zn (zx (cd_cond_f hA rfl (zk (zx (zs (zr ?_)))))))))))))
   refine st_buildSlice tbOk hA hS [] rfl rfl rfl rfl rfl (by decide) (by kernel_rfl) rfl rfl (by decide) fun b1 w2 a hS hA => ?_
   refine zR 1 ((6, .slice (some ad) l.length c) :: _) hA rfl fun a hA => ?_
   refine st_append tbOk hA (m := 0) (q := l.length) (xs := rows encB ([] : List UInt8)) (news := rows encB l) rfl rfl rfl rfl rfl rfl rfl rfl (by decide) (Own.full (T := 5) (size := 1) (g := b1) (m := 0) rfl (by decide)) hS ((hr _ (hS.tail 1 rfl))) (rows_one encB_ok _) (maxLen_le (by omega)) (by show (0 + l.length) * 1 ≤ 140737488355328; omega) rfl rfl (by decide) ?_
   clear hA hS; intro v3 w4 C5 a hO5 hS hA
   replace hO5 := Own.app (l := ([] : List UInt8)) (l2 := l) hO5
   replace hO5 : Own 5 1 v3 l.length (rows encB l) C5 := hO5
   obtain ⟨A6, c7, rfl, hmc7, hxc7⟩ := hO5.open'
   refine zR 1 ((2, .slice A6 l.length c7) :: _) hA rfl fun a hA => zn (zx ?_)
   refine wp_ret ?_
   refine ret1 (fn := Tryz.f83) hA rfl rfl ?_
   exact ⟨_, _, _, hO5, rfl, hS⟩
theorem fndc114 {w0 w : World} {F : List Chunk} (hS : St w0 w F) {bx : Nat} {fr to id : Int} (hc0 : ∀ w', St w0 w' F → w'.cell? ⟨bx, 0, none⟩ = some (.int .i64 fr)) (hc1 : ∀ w', St w0 w' F → w'.cell? ⟨bx, 1, none⟩ = some (.int .i64 to)) (hc2 : ∀ w', St w0 w' F → w'.cell? ⟨bx, 2, none⟩ = some (.int .u64 id)) (x : Part) :
 Ret Tryz.prog 114 #[.agg #[.int .i64 x.1, .int .i64 x.2.1, .int .u64 x.2.2.1, .slice x.2.2.2.1 x.2.2.2.2.2.1.length x.2.2.2.2.1, .slice x.2.2.2.2.2.2.1 x.2.2.2.2.2.2.2.2.length x.2.2.2.2.2.2.2.1], vP bx 0] w (fun v w' => v = .bool (gkey fr to id x) ∧ St w0 w' F) := by
 refine enter (vs := [.agg #[.int .i64 x.1, .int .i64 x.2.1, .int .u64 x.2.2.1, .slice x.2.2.2.1 x.2.2.2.2.2.1.length x.2.2.2.2.1, .slice x.2.2.2.2.2.2.1 x.2.2.2.2.2.2.2.2.length x.2.2.2.2.2.2.2.1], vP bx 0]) 23 Tryz.func114 rfl rfl (by simp) ?_; intro a hA
 refine zs (zr ?_)
 refine st_box hA hS [.int .i64 x.1, .int .i64 x.2.1, .int .u64 x.2.2.1, .slice x.2.2.2.1 x.2.2.2.2.2.1.length x.2.2.2.2.1, .slice x.2.2.2.2.2.2.1 x.2.2.2.2.2.2.2.2.length x.2.2.2.2.2.2.2.1] rfl rfl rfl rfl rfl (by decide) fun b1 w2 a hS hA => ?_
 refine zR 1 ((3, yF) :: _) hA rfl fun a hA => zn (zx (zs (zr (zR 1 ((4, vP b1 0) :: _) hA rfl fun a hA => zL hA hS 0 rfl rfl rfl rfl rfl rfl rfl rfl rfl fun a hA => zR 1 ((6, vP bx 0) :: _) hA rfl fun a hA => st_val hA rfl rfl (by decide) (rn_load tbOk hA rfl rfl rfl rfl (hc0 _ (hS.tail 1 rfl))) fun a hA => zR 2 ((9, .bool (x.1 == fr)) :: (8, .bool (x.1 == fr)) :: _) hA rfl fun a hA => ?_))))
 by_cases hc3 : x.1 = fr
 · replace hA := hA.rw 8 (v' := yT) rfl (vb_eq_t hc3)
   replace hA := hA.rw 9 (v' := yT) rfl (vb_eq_t hc3)
   refine zR 1 ((10, vP b1 1) :: _) hA rfl fun a hA => zL hA hS 0 rfl rfl rfl rfl rfl rfl rfl rfl rfl fun a hA => zR 1 ((12, vP bx 1) :: _) hA rfl fun a hA => st_val hA rfl rfl (by decide) (rn_load tbOk hA rfl rfl rfl rfl (hc1 _ (hS.tail 1 rfl))) fun a hA => zR 3 ((16, .bool (x.2.1 == to)) :: (15, .bool (x.2.1 == to)) :: (14, .bool (x.2.1 == to)) :: _) hA rfl fun a hA => ?_
   by_cases hc4 : x.2.1 = to
   · replace hA := hA.rw 14 (v' := yT) rfl (vb_eq_t hc4)
     replace hA := hA.rw 15 (v' := yT) rfl (vb_eq_t hc4)
     replace hA := hA.rw 16 (v' := yT) rfl (vb_eq_t hc4)
     refine zR 1 ((17, vP b1 2) :: _) hA rfl fun a hA => zL hA hS 0 rfl rfl rfl rfl rfl rfl rfl rfl rfl fun a hA => zR 1 ((19, vP bx 2) :: _) hA rfl fun a hA => st_val hA rfl rfl (by decide) (rn_load tbOk hA rfl rfl rfl rfl (hc2 _ (hS.tail 1 rfl))) fun a hA => zR 3 ((3, .bool (x.2.2.1 == id)) :: (22, .bool (x.2.2.1 == id)) :: (21, .bool (x.2.2.1 == id)) :: _) hA rfl fun a hA => zn (zx ?_)
     refine wp_ret ?_
     refine ret1 (fn := Tryz.f114) hA rfl rfl ?_
     replace hS := hS.d0
     exact ⟨congrArg Value.bool (by have e1 : x.1 = fr := by assumption
                                    have e2 : x.2.1 = to := by assumption
                                    simp [gkey, e1, e2]), hS⟩
   · replace hA := hA.rw 14 (v' := yF) rfl (vb_eq_f hc4)
     replace hA := hA.rw 15 (v' := yF) rfl (vb_eq_f hc4)
     replace hA := hA.rw 16 (v' := yF) rfl (vb_eq_f hc4)
     refine zR 7 ((3, yF) :: (22, yF) :: (21, undef) :: (20, undef) :: (19, undef) :: (18, undef) :: (17, undef) :: _) hA rfl fun a hA => zn (zx ?_)
     refine wp_ret ?_
     refine ret1 (fn := Tryz.f114) hA rfl rfl ?_
     replace hS := hS.d0
     exact ⟨congrArg Value.bool (by simp [gkey]; intros; omega), hS⟩
 · replace hA := hA.rw 8 (v' := yF) rfl (vb_eq_f hc3)
   replace hA := hA.rw 9 (v' := yF) rfl (vb_eq_f hc3)
   refine zR 14 ((3, yF) :: (22, yF) :: (21, undef) :: (20, undef) :: (19, undef) :: (18, undef) :: (17, undef) :: (16, yF) :: (15, yF) :: (14, undef) :: (13, undef) :: (12, undef) :: (11, undef) :: (10, undef) :: _) hA rfl fun a hA => zn (zx ?_)
   refine wp_ret ?_
   refine ret1 (fn := Tryz.f114) hA rfl rfl ?_
   replace hS := hS.d0
   exact ⟨congrArg Value.bool (by simp [gkey]; intros; omega), hS⟩
theorem fndgP {w0 : World} {F : List Chunk} {bx : Nat} {fr to id : Int} (hc0 : ∀ w', St w0 w' F → w'.cell? ⟨bx, 0, none⟩ = some (.int .i64 fr)) (hc1 : ∀ w', St w0 w' F → w'.cell? ⟨bx, 1, none⟩ = some (.int .i64 to)) (hc2 : ∀ w', St w0 w' F → w'.cell? ⟨bx, 2, none⟩ = some (.int .u64 id)) : Pred Tryz.prog w0 F 114 #[] #[vP bx 0] (fun x => .agg (encPart x).toArray) (fun x => gkey fr to id x) := by
  intro w x hS
  exact fndc114 (St.refl w) (fun w' h => h.old (hc0 w hS)) (fun w' h => h.old (hc1 w hS)) (fun w' h => h.old (hc2 w hS)) x
theorem find88 {w0 w : World} {F : List Chunk} {C : Chunk} {b : Nat} {ps : List Part} {A : Option Addr} {c : Nat} (hS : St w0 w ([(b, rowO [.slice A ps.length c] 130)] :: C :: F)) (hO : Own 195 5 (.slice A ps.length c) ps.length (rows encPart ps) C) (fr to id i3 i4 : Int) (d : Value) :
 Ret Tryz.prog 88 #[vP b 0, .agg #[.int .i64 fr, .int .i64 to, .int .u64 id, .int .i64 i3, .int .i64 i4, d]] w (fun v w' => v = .int .i64 (idx (fun x => gkey fr to id x) ps) ∧ St w0 w' ([(b, rowO [.slice A ps.length c] 130)] :: C :: F)) := by
 refine enter (vs := [vP b 0, .agg #[.int .i64 fr, .int .i64 to, .int .u64 id, .int .i64 i3, .int .i64 i4, d]]) 11 Tryz.func88 rfl rfl (by simp) ?_; intro a hA
 refine zs (zr ?_)
 refine st_box hA hS [.int .i64 fr, .int .i64 to, .int .u64 id, .int .i64 i3, .int .i64 i4, d] rfl rfl rfl rfl rfl (by decide) fun b1 w2 a hS hA => ?_
 refine zR 1 ((4, yI) :: _) hA rfl fun a hA => zn (zx (zs (zr (zR 3 ((7, vP b 0) :: (6, vP b 0) :: (5, vP b 0) :: _) hA rfl fun a hA => zL hA hS 1 rfl rfl rfl rfl rfl rfl rfl rfl rfl fun a hA => zR 1 ((9, .func (.func 114) #[] #[vP b1 0]) :: _) hA rfl fun a hA => ?_))))
 refine st_call0 hA rfl rfl rfl isfn113 rfl rfl (by decide) (indexFunc113 hS (l := ps) (RdS.own hO 2 rfl) isfn114 (fndgP (bx := b1) (fun w' h => cell_row (h.heapAt 0 rfl) rfl) (fun w' h => cell_row (h.heapAt 0 rfl) rfl) (fun w' h => cell_row (h.heapAt 0 rfl) rfl))) ?_
 clear hA hS; rintro v w3 a ⟨rfl, hS⟩ hA
 refine zR 1 ((4, .int .i64 (idx (fun x => gkey fr to id x) ps)) :: _) hA rfl fun a hA => zn (zx ?_)
 refine wp_ret ?_
 refine ret1 (fn := Tryz.f88) hA rfl rfl ?_
 replace hS := hS.d0.m1.m1
 exact ⟨rfl, hS⟩
set_option maxHeartbeats 4000000 in
theorem add_hit_rejT60 {w0 w : World} {F : List Chunk} {L D : Chunk} {b : Nat} {vs : List GV} (hS : St w0 w (L :: D :: F)) (hM : GS w0 b vs L D) (fr to id : Int) (ix cn : Nat) {d : Value} {bs : List UInt8} (hd : RdSX w0 (D :: F) 1 d bs.length (rows encB bs)) (h1 : ix < cn) (h2 : cn ≤ 256) (h3 : bs.length ≤ 32768) {k : Nat} {has : List Bool} {dat : List (List UInt8)} (hz : vs[k]? = some (fr, to, id, has, dat)) (hbf : ∀ (i : Nat) (z : GV), i < k → vs[i]? = some z → ¬ vkey fr to id z) (hcn : has.length = cn) (hT : has[ix]? = some true) :
 Ret Tryz.prog 60 #[vP b 0, .agg #[.int .i64 fr, .int .i64 to, .int .u64 id, vI ix, vI cn, d]] w (fun v w' => ∃ L', GS w0 b vs L' D ∧ v = .tuple #[yS, yF] ∧ St w0 w' (L' :: D :: F)) := by
 obtain ⟨ps, v, C, R, hO, rfl, hR, hI, hdd, rfl⟩ := hM
 obtain ⟨A, c, rfl, hmc, hcx⟩ := hO.open'
 replace hS : St w0 w ([(b, rowO [.slice A ps.length c] 130)] :: C :: R :: D :: F) := hS.split3
 obtain ⟨B, d', rfl, hmd, hdx⟩ := (hd _ (hS.tail 3 rfl)).open'
 obtain ⟨x, hx, hgx⟩ := map_at' rfl hz
 obtain ⟨xf0, xf1, xf2, xA3, xc3, xb3, xA6, xc6, xb6⟩ := x
 simp only [gv, phas, ppk, Prod.mk.injEq] at hgx
 obtain ⟨g1, g2, g3, g4, g5⟩ := hgx
 have g1 := g1.symm; have g2 := g2.symm; have g3 := g3.symm; have g4 := g4.symm
 subst g1; subst g2; subst g3; subst g4; subst g5
 have hkl := (List.getElem?_eq_some_iff.1 hx).1
 have hPI := hI _ (List.mem_of_getElem? hx)
 have hpl : has.length = xb6.length := hPI.hp
 have hhl : has.length ≤ 256 := hPI.l2
 obtain ⟨R1, Ch, Cp, R2, rfl, hR1, hOh, hOp, hR2⟩ := hR.at hx
 replace hOh : Own 4 1 (.slice xA3 has.length xc3) has.length (rows encBo has) Ch := hOh
 replace hOp : Own 94 6 (.slice xA6 xb6.length xc6) xb6.length (rows encPacket xb6) Cp := hOp
 replace hS := hS.m2
 replace hS := hS.split
 replace hS := hS.m1
 replace hS := hS.split
 replace hS := hS.m1
 replace hS := hS.split
 replace hS := hS.m6.m2.m2.m3.m4.m6.m6
 refine enter (vs := [vP b 0, .agg #[.int .i64 fr, .int .i64 to, .int .u64 id, vI ix, vI cn, .slice B bs.length d']]) 137 Tryz.func60 rfl rfl (by simp) ?_; intro a hA
 refine zs (zr ?_)
 refine st_box hA hS [.int .i64 fr, .int .i64 to, .int .u64 id, vI ix, vI cn, .slice B bs.length d'] rfl rfl rfl rfl rfl (by decide) fun b1 w2 a hS hA => ?_
 refine zR 2 ((5, yF) :: (4, yS) :: _) hA rfl fun a hA => zn (zx (zs (zs (zr (zLA hA hS 0 [.int .i64 fr, .int .i64 to, .int .u64 id, vI ix, vI cn, .slice B bs.length d'] rfl rfl rfl rfl rfl rfl rfl rfl rfl rfl fun a hA => ?_)))))
 refine st_call0 hA rfl rfl rfl isfn87 rfl rfl (by decide) (may87 hS fr to id ((ix : Nat) : Int) ((cn : Nat) : Int) B d' bs) ?_
 clear hA hS; rintro v w3 a ⟨rfl, hS⟩ hA
 have hc4 : 1 ≤ ((cn : Nat) : Int) ∧ ((cn : Nat) : Int) ≤ 256 ∧ 0 ≤ ((ix : Nat) : Int) ∧ ((ix : Nat) : Int) < ((cn : Nat) : Int) ∧ bs.length ≤ 32768 := by omega
 replace hA := hA.rw 11 (v' := yT) rfl (vb_true hc4)
 refine zR 1 ((12, yF) :: _) hA rfl fun a hA => zn (zx (cd_cond_f hA rfl (zk (zx (zs (zr (zR 1 ((13, vP b 0) :: _) hA rfl fun a hA => zLA hA hS 0 [.int .i64 fr, .int .i64 to, .int .u64 id, vI ix, vI cn, .slice B bs.length d'] rfl rfl rfl rfl rfl rfl rfl rfl rfl rfl fun a hA => ?_)))))))
 replace hS := hS.m2.m2
 refine st_call0 hA rfl rfl rfl isfn88 rfl rfl (by decide) (find88 hS hO fr to id _ _ _) ?_
 clear hA hS; rintro v w5 a ⟨rfl, hS⟩ hA
 have hix := idx_some (p := fun x => gkey fr to id x) hx (by simp [gkey]) (gkey_no hbf)
 replace hA := hA.rw 15 (v' := vI k) rfl (vint hix)
 replace hS := hS.m7.m7.m7.m7.m7.m7.m7.m7
 refine zR 1 ((6, vI k) :: _) hA rfl fun a hA => zn (zx (zs (zs (zr (zR 2 ((17, .bool (decide (((k : Nat) : Int) < 0))) :: (16, vI k) :: _) hA rfl fun a hA => zn (zx ?_))))))
 have hc6 : ¬ (((k : Nat) : Int) < 0) := by omega
 replace hA := hA.rw 17 (v' := yF) rfl (vb_false hc6)
 refine cd_cond_f hA rfl (zk (zx (zs (zr (zR 3 ((61, vP b 0) :: (60, vP b 0) :: (59, vP b 0) :: _) hA rfl fun a hA => zL hA hS 0 rfl rfl rfl rfl rfl rfl rfl rfl rfl fun a hA => zR 1 ((63, vI k) :: _) hA rfl fun a hA => ?_)))))
 obtain ⟨b7, o8, rfl⟩ := hO.isSome (k := k) (by omega)
 refine st_val hA rfl rfl (by decide) (rn_indexAddr tbOk hA k (o8 + (k * 5)) rfl rfl rfl rfl rfl rfl (by rfl) (by omega) (by first | rfl | simp [Nat.mul_one, Nat.zero_add] | omega)) fun a hA => zR 1 ((7, vP b7 (o8 + (k * 5))) :: _) hA rfl fun a hA => zn (zx (zs (zs ?_)))
 obtain ⟨b9, o10, rfl⟩ := hOh.isSome (k := ix) (by omega)
 refine zD0 hS [] [(0, true), (1, true), (2, true), (3, true), (4, true), (5, true), (6, true), (7, true), (8, true), (9, true), (10, true), (11, true), (12, true), (13, true), (14, true), (15, true), (16, true), (17, true)] mixed (by kernel_rfl) (by rintro c a w ⟨_, _, h, _⟩; cases h) (by rfl) (by kernel_rfl) ?_
 replace hS := hS.drew
 refine zW 3 ((67, vP b7 (o8 + (k * 5) + 3)) :: (66, vP b7 (o8 + (k * 5))) :: (65, vP b7 (o8 + (k * 5))) :: _) hA hS rfl fun a hA => dr_y hA rfl rfl rfl (by decide) hS (fun w' hS' => rn_load tbOk hA rfl rfl rfl rfl ((hO.rd (hS'.own_ 1 rfl)).elemf (k := k) encPart_ok hx (j := 3) rfl)) fun a hA => zW 2 ((70, vP b1 4) :: (69, vI has.length) :: _) hA hS rfl fun a hA => zY hA hS 2 rfl rfl rfl rfl rfl rfl rfl rfl rfl rfl fun a hA => zW 2 ((73, .bool (((has.length : Nat) : Int) != ((cn : Nat) : Int))) :: (72, .bool (((has.length : Nat) : Int) != ((cn : Nat) : Int))) :: _) hA hS rfl fun a hA => ?_
 have hc11 : ((has.length : Nat) : Int) = ((cn : Nat) : Int) := by omega
 replace hA := hA.rw 72 (v' := yF) rfl (vb_ne_f hc11)
 replace hA := hA.rw 73 (v' := yF) rfl (vb_ne_f hc11)
 refine zW 3 ((76, vP b7 (o8 + (k * 5) + 3)) :: (75, vP b7 (o8 + (k * 5))) :: (74, vP b7 (o8 + (k * 5))) :: _) hA hS rfl fun a hA => dr_y hA rfl rfl rfl (by decide) hS (fun w' hS' => rn_load tbOk hA rfl rfl rfl rfl ((hO.rd (hS'.own_ 1 rfl)).elemf (k := k) encPart_ok hx (j := 3) rfl)) fun a hA => zW 1 ((78, vP b1 3) :: _) hA hS rfl fun a hA => zY hA hS 2 rfl rfl rfl rfl rfl rfl rfl rfl rfl rfl fun a hA => ?_
 replace hA := hA.rw 77 (v' := .slice (some ⟨b9, o10, none⟩) has.length xc3) rfl rfl
 refine dr_y hA rfl rfl rfl (by decide) hS (fun w' hS' => rn_indexAddr tbOk hA ix (o10 + ix) rfl rfl rfl rfl rfl rfl (by rfl) (by omega) (by first | rfl | simp [Nat.mul_one, Nat.zero_add] | omega)) fun a hA => dr_y hA rfl rfl rfl (by decide) hS (fun w' hS' => rn_load tbOk hA rfl rfl rfl rfl ((hOh.rd (hS'.own_ 4 rfl)).elem0 (k := ix) encBo_ok hT rfl)) fun a hA => zW 1 ((82, yT) :: _) hA hS rfl fun a hA => ze (zx (cd_cond_t hA rfl (zs (zr (zR 2 ((5, yF) :: (4, yS) :: _) hA rfl fun a hA => zn (zx ?_))))))
 refine wp_ret (xt_ret ?_)
 refine ret2 (fn := Tryz.f60) hA rfl rfl rfl ?_
 replace hS := hS.m2.d0.m6.m6.m6.m6.m6.m6.m6.m5.m5
 replace hS := hS.join
 replace hS := hS.m4
 replace hS := hS.join
 replace hS := hS.m3
 replace hS := hS.join
 replace hS := hS.m2.m2
 replace hS := hS.join3
 exact ⟨_, ⟨_, _, _, _, hO, rfl, (by have h8 := PO.put (y := (fr, to, id, (some ⟨b9, o10, none⟩), xc3, has, xA6, xc6, xb6)) hR1 hOh hOp hR2 hkl; rw [set_same hx] at h8; exact h8), hI, hdd, rfl⟩, rfl, hS⟩
set_option maxHeartbeats 4000000 in
theorem add_hit_put60 {w0 w : World} {F : List Chunk} {L D : Chunk} {b : Nat} {vs : List GV} (hS : St w0 w (L :: D :: F)) (hM : GS w0 b vs L D) (fr to id : Int) (ix cn : Nat) {d : Value} {bs : List UInt8} (hd : RdSX w0 (D :: F) 1 d bs.length (rows encB bs)) (h1 : ix < cn) (h2 : cn ≤ 256) (h3 : bs.length ≤ 32768) {k : Nat} {has : List Bool} {dat : List (List UInt8)} (hz : vs[k]? = some (fr, to, id, has, dat)) (hbf : ∀ (i : Nat) (z : GV), i < k → vs[i]? = some z → ¬ vkey fr to id z) (hcn : has.length = cn) (hF : has[ix]? = some false) (hany : (has.set ix true).any (fun y => y == false) = true) :
 Ret Tryz.prog 60 #[vP b 0, .agg #[.int .i64 fr, .int .i64 to, .int .u64 id, vI ix, vI cn, d]] w (fun v w' => ∃ L' E, GS w0 b (vs.set k (fr, to, id, has.set ix true, dat.set ix bs)) L' (E ++ D) ∧ v = .tuple #[yS, yF] ∧ St w0 w' (L' :: (E ++ D) :: F)) := by
 obtain ⟨ps, v, C, R, hO, rfl, hR, hI, hdd, rfl⟩ := hM
 obtain ⟨A, c, rfl, hmc, hcx⟩ := hO.open'
 replace hS : St w0 w ([(b, rowO [.slice A ps.length c] 130)] :: C :: R :: D :: F) := hS.split3
 obtain ⟨B, d', rfl, hmd, hdx⟩ := (hd _ (hS.tail 3 rfl)).open'
 obtain ⟨x, hx, hgx⟩ := map_at' rfl hz
 obtain ⟨xf0, xf1, xf2, xA3, xc3, xb3, xA6, xc6, xb6⟩ := x
 simp only [gv, phas, ppk, Prod.mk.injEq] at hgx
 obtain ⟨g1, g2, g3, g4, g5⟩ := hgx
 have g1 := g1.symm; have g2 := g2.symm; have g3 := g3.symm; have g4 := g4.symm
 subst g1; subst g2; subst g3; subst g4; subst g5
 have hkl := (List.getElem?_eq_some_iff.1 hx).1
 have hPI := hI _ (List.mem_of_getElem? hx)
 have hpl : has.length = xb6.length := hPI.hp
 have hhl : has.length ≤ 256 := hPI.l2
 obtain ⟨R1, Ch, Cp, R2, rfl, hR1, hOh, hOp, hR2⟩ := hR.at hx
 replace hOh : Own 4 1 (.slice xA3 has.length xc3) has.length (rows encBo has) Ch := hOh
 replace hOp : Own 94 6 (.slice xA6 xb6.length xc6) xb6.length (rows encPacket xb6) Cp := hOp
 replace hS := hS.m2
 replace hS := hS.split
 replace hS := hS.m1
 replace hS := hS.split
 replace hS := hS.m1
 replace hS := hS.split
 replace hS := hS.m6.m2.m2.m3.m4.m6.m6
 refine enter (vs := [vP b 0, .agg #[.int .i64 fr, .int .i64 to, .int .u64 id, vI ix, vI cn, .slice B bs.length d']]) 137 Tryz.func60 rfl rfl (by simp) ?_; intro a hA
 refine zs (zr ?_)
 refine st_box hA hS [.int .i64 fr, .int .i64 to, .int .u64 id, vI ix, vI cn, .slice B bs.length d'] rfl rfl rfl rfl rfl (by decide) fun b1 w2 a hS hA => ?_
 refine zR 2 ((5, yF) :: (4, yS) :: _) hA rfl fun a hA => zn (zx (zs (zs (zr (zLA hA hS 0 [.int .i64 fr, .int .i64 to, .int .u64 id, vI ix, vI cn, .slice B bs.length d'] rfl rfl rfl rfl rfl rfl rfl rfl rfl rfl fun a hA => ?_)))))
 refine st_call0 hA rfl rfl rfl isfn87 rfl rfl (by decide) (may87 hS fr to id ((ix : Nat) : Int) ((cn : Nat) : Int) B d' bs) ?_
 clear hA hS; rintro v w3 a ⟨rfl, hS⟩ hA
 have hc4 : 1 ≤ ((cn : Nat) : Int) ∧ ((cn : Nat) : Int) ≤ 256 ∧ 0 ≤ ((ix : Nat) : Int) ∧ ((ix : Nat) : Int) < ((cn : Nat) : Int) ∧ bs.length ≤ 32768 := by omega
 replace hA := hA.rw 11 (v' := yT) rfl (vb_true hc4)
 refine zR 1 ((12, yF) :: _) hA rfl fun a hA => zn (zx (cd_cond_f hA rfl (zk (zx (zs (zr (zR 1 ((13, vP b 0) :: _) hA rfl fun a hA => zLA hA hS 0 [.int .i64 fr, .int .i64 to, .int .u64 id, vI ix, vI cn, .slice B bs.length d'] rfl rfl rfl rfl rfl rfl rfl rfl rfl rfl fun a hA => ?_)))))))
 replace hS := hS.m2.m2
 refine st_call0 hA rfl rfl rfl isfn88 rfl rfl (by decide) (find88 hS hO fr to id _ _ _) ?_
 clear hA hS; rintro v w5 a ⟨rfl, hS⟩ hA
 have hix := idx_some (p := fun x => gkey fr to id x) hx (by simp [gkey]) (gkey_no hbf)
 replace hA := hA.rw 15 (v' := vI k) rfl (vint hix)
 replace hS := hS.m7.m7.m7.m7.m7.m7.m7.m7
 refine zR 1 ((6, vI k) :: _) hA rfl fun a hA => zn (zx (zs (zs (zr (zR 2 ((17, .bool (decide (((k : Nat) : Int) < 0))) :: (16, vI k) :: _) hA rfl fun a hA => zn (zx ?_))))))
 have hc6 : ¬ (((k : Nat) : Int) < 0) := by omega
 replace hA := hA.rw 17 (v' := yF) rfl (vb_false hc6)
 refine cd_cond_f hA rfl (zk (zx (zs (zr (zR 3 ((61, vP b 0) :: (60, vP b 0) :: (59, vP b 0) :: _) hA rfl fun a hA => zL hA hS 0 rfl rfl rfl rfl rfl rfl rfl rfl rfl fun a hA => zR 1 ((63, vI k) :: _) hA rfl fun a hA => ?_)))))
 obtain ⟨b7, o8, rfl⟩ := hO.isSome (k := k) (by omega)
 refine st_val hA rfl rfl (by decide) (rn_indexAddr tbOk hA k (o8 + (k * 5)) rfl rfl rfl rfl rfl rfl (by rfl) (by omega) (by first | rfl | simp [Nat.mul_one, Nat.zero_add] | omega)) fun a hA => zR 1 ((7, vP b7 (o8 + (k * 5))) :: _) hA rfl fun a hA => zn (zx (zs (zs ?_)))
 obtain ⟨b9, o10, rfl⟩ := hOh.isSome (k := ix) (by omega)
 refine zD0 hS [] [(0, true), (1, true), (2, true), (3, true), (4, true), (5, true), (6, true), (7, true), (8, true), (9, true), (10, true), (11, true), (12, true), (13, true), (14, true), (15, true), (16, true), (17, true)] mixed (by kernel_rfl) (by rintro c a w ⟨_, _, h, _⟩; cases h) (by rfl) (by kernel_rfl) ?_
 replace hS := hS.drew
 refine zW 3 ((67, vP b7 (o8 + (k * 5) + 3)) :: (66, vP b7 (o8 + (k * 5))) :: (65, vP b7 (o8 + (k * 5))) :: _) hA hS rfl fun a hA => dr_y hA rfl rfl rfl (by decide) hS (fun w' hS' => rn_load tbOk hA rfl rfl rfl rfl ((hO.rd (hS'.own_ 1 rfl)).elemf (k := k) encPart_ok hx (j := 3) rfl)) fun a hA => zW 2 ((70, vP b1 4) :: (69, vI has.length) :: _) hA hS rfl fun a hA => zY hA hS 2 rfl rfl rfl rfl rfl rfl rfl rfl rfl rfl fun a hA => zW 2 ((73, .bool (((has.length : Nat) : Int) != ((cn : Nat) : Int))) :: (72, .bool (((has.length : Nat) : Int) != ((cn : Nat) : Int))) :: _) hA hS rfl fun a hA => ?_
 have hc11 : ((has.length : Nat) : Int) = ((cn : Nat) : Int) := by omega
 replace hA := hA.rw 72 (v' := yF) rfl (vb_ne_f hc11)
 replace hA := hA.rw 73 (v' := yF) rfl (vb_ne_f hc11)
 refine zW 3 ((76, vP b7 (o8 + (k * 5) + 3)) :: (75, vP b7 (o8 + (k * 5))) :: (74, vP b7 (o8 + (k * 5))) :: _) hA hS rfl fun a hA => dr_y hA rfl rfl rfl (by decide) hS (fun w' hS' => rn_load tbOk hA rfl rfl rfl rfl ((hO.rd (hS'.own_ 1 rfl)).elemf (k := k) encPart_ok hx (j := 3) rfl)) fun a hA => zW 1 ((78, vP b1 3) :: _) hA hS rfl fun a hA => zY hA hS 2 rfl rfl rfl rfl rfl rfl rfl rfl rfl rfl fun a hA => ?_
 replace hA := hA.rw 77 (v' := .slice (some ⟨b9, o10, none⟩) has.length xc3) rfl rfl
 refine dr_y hA rfl rfl rfl (by decide) hS (fun w' hS' => rn_indexAddr tbOk hA ix (o10 + ix) rfl rfl rfl rfl rfl rfl (by rfl) (by omega) (by first | rfl | simp [Nat.mul_one, Nat.zero_add] | omega)) fun a hA => dr_y hA rfl rfl rfl (by decide) hS (fun w' hS' => rn_load tbOk hA rfl rfl rfl rfl ((hOh.rd (hS'.own_ 4 rfl)).elem0 (k := ix) encBo_ok hF rfl)) fun a hA => zW 1 ((82, yF) :: _) hA hS rfl fun a hA => ze (zx (cd_cond_f hA rfl (zk (zx (zs ?_)))))
 replace hS := hS.m4
 refine zD1 hS [7] [(0, true), (1, true), (2, true), (3, true), (4, true), (5, true), (6, true), (7, false)] mixed (by kernel_rfl) (by rintro c a w ⟨_, _, h, _⟩; cases h) (by rfl) (by kernel_rfl) ?_
 replace hS := hS.drew
 refine zW 3 ((85, vP b7 (o8 + (k * 5) + 3)) :: (84, vP b7 (o8 + (k * 5))) :: (83, vP b7 (o8 + (k * 5))) :: _) hA (hS.tail 1 rfl) rfl fun a hA => dr_y hA rfl rfl rfl (by decide) (hS.tail 1 rfl) (fun w' hS' => rn_load tbOk hA rfl rfl rfl rfl ((hO.rd (hS'.own_ 1 rfl)).elemf (k := k) encPart_ok hx (j := 3) rfl)) fun a hA => zW 1 ((87, vP b1 3) :: _) hA (hS.tail 1 rfl) rfl fun a hA => zY hA (hS.tail 1 rfl) 2 rfl rfl rfl rfl rfl rfl rfl rfl rfl rfl fun a hA => ?_
 replace hA := hA.rw 86 (v' := .slice (some ⟨b9, o10, none⟩) has.length xc3) rfl rfl
 refine dr_y hA rfl rfl rfl (by decide) (hS.tail 1 rfl) (fun w' hS' => rn_indexAddr tbOk hA ix (o10 + ix) rfl rfl rfl rfl rfl rfl (by rfl) (by omega) (by first | rfl | simp [Nat.mul_one, Nat.zero_add] | omega)) fun a hA => dr_b (o := _) rfl ?_
 refine st_store_own tbOk hA hOh hS (ix) (o10 + ix) [yT] (rows encBo (has.set ix true)) rfl rfl rfl rfl (by rfl) rfl rfl (by intro u hu; rw [List.mem_singleton.1 hu]; rfl) (by simp only [rows_length encBo_ok, rows_length encPacket_ok, List.length_cons, List.length_nil]; omega) (by have := rows_set encBo_ok (x := true) (l := has) (k := ix) (by omega); rw [Nat.mul_one] at this; exact this) rfl rfl ?_; clear hS; intro w12 C13 hO13 hS
 refine dr_nil (.inl (by decide)) (ze (zx (zs ?_)))
 obtain ⟨b14, o15, rfl⟩ := hOp.isSome (k := ix) (by omega)
 replace hS := hS.m5
 refine zD1 hS [21] [(0, true), (1, true), (2, true), (3, true), (4, true), (5, true), (6, true), (7, true), (8, true), (9, true), (10, true), (11, true), (12, true), (13, true), (14, true), (15, true), (16, true), (17, true), (18, false), (19, true), (20, true), (21, false)] mixed (by kernel_rfl) (by rintro c a w ⟨_, _, h, _⟩; cases h) (by rfl) (by kernel_rfl) ?_
 replace hS := hS.drew
 refine zW 3 ((92, vP b7 (o8 + (k * 5) + 4)) :: (91, vP b7 (o8 + (k * 5))) :: (90, vP b7 (o8 + (k * 5))) :: _) hA (hS.tail 1 rfl) rfl fun a hA => dr_y hA rfl rfl rfl (by decide) (hS.tail 1 rfl) (fun w' hS' => rn_load tbOk hA rfl rfl rfl rfl ((hO.rd (hS'.own_ 2 rfl)).elemf (k := k) encPart_ok hx (j := 4) rfl)) fun a hA => zW 1 ((94, vP b1 3) :: _) hA (hS.tail 1 rfl) rfl fun a hA => zY hA (hS.tail 1 rfl) 3 rfl rfl rfl rfl rfl rfl rfl rfl rfl rfl fun a hA => zW 1 ((96, vP b1 0) :: _) hA (hS.tail 1 rfl) rfl fun a hA => zY hA (hS.tail 1 rfl) 3 rfl rfl rfl rfl rfl rfl rfl rfl rfl rfl fun a hA => zW 1 ((98, vP b1 1) :: _) hA (hS.tail 1 rfl) rfl fun a hA => zY hA (hS.tail 1 rfl) 3 rfl rfl rfl rfl rfl rfl rfl rfl rfl rfl fun a hA => zW 1 ((100, vP b1 2) :: _) hA (hS.tail 1 rfl) rfl fun a hA => zY hA (hS.tail 1 rfl) 3 rfl rfl rfl rfl rfl rfl rfl rfl rfl rfl fun a hA => ?_
 refine zW 1 ((102, vP b1 3) :: _) hA (hS.tail 1 rfl) rfl fun a hA => zY hA (hS.tail 1 rfl) 3 rfl rfl rfl rfl rfl rfl rfl rfl rfl rfl fun a hA => zW 1 ((104, vP b1 4) :: _) hA (hS.tail 1 rfl) rfl fun a hA => zY hA (hS.tail 1 rfl) 3 rfl rfl rfl rfl rfl rfl rfl rfl rfl rfl fun a hA => zW 1 ((106, vP b1 5) :: _) hA (hS.tail 1 rfl) rfl fun a hA => zY hA (hS.tail 1 rfl) 3 rfl rfl rfl rfl rfl rfl rfl rfl rfl rfl fun a hA => dr_b (o := _) rfl ?_
 refine st_call0 hA rfl rfl rfl isfn83 rfl rfl (by decide) (clonex83 hS (l := bs) (fun w' h => (hd _ (h.tail 7 rfl))) (by first | omega | (simp; omega))) ?_
 clear hA hS; rintro _ w19 a ⟨A16, c17, C18, hOC18, rfl, hS⟩ hA
 refine zi (hS.tail 2 rfl) (dr_y hA rfl rfl rfl (by decide) (hS.tail 2 rfl) (fun w' hS' => rn_build tbOk hA rfl rfl rfl rfl rfl rfl rfl) fun a hA => ?_)
 replace hA := hA.rw 93 (v' := .slice (some ⟨b14, o15, none⟩) xb6.length xc6) rfl rfl
 refine dr_y hA rfl rfl rfl (by decide) (hS.tail 2 rfl) (fun w' hS' => rn_indexAddr tbOk hA ix (o15 + (ix * 6)) rfl rfl rfl rfl rfl rfl (by rfl) (by omega) (by first | rfl | simp [Nat.mul_one, Nat.zero_add] | omega)) fun a hA => dr_b (o := _) rfl ?_
 replace hS := hS.m1
 refine st_store_own tbOk hA hOp hS ((ix * 6)) (o15 + (ix * 6)) [.int .i64 fr, .int .i64 to, .int .u64 id, vI ix, vI cn, .slice A16 bs.length c17] (rows encPacket (xb6.set ix (fr, to, id, ((ix : Nat) : Int), ((cn : Nat) : Int), A16, c17, bs))) rfl rfl rfl rfl (by rfl) rfl rfl (by exact encPacket_ok.one (fr, to, id, ((ix : Nat) : Int), ((cn : Nat) : Int), A16, c17, bs)) (by simp only [rows_length encBo_ok, rows_length encPacket_ok, List.length_cons, List.length_nil]; omega) (rows_set encPacket_ok (x := (fr, to, id, ((ix : Nat) : Int), ((cn : Nat) : Int), A16, c17, bs)) (l := xb6) (k := ix) (by omega)) rfl rfl ?_; clear hS; intro w20 C21 hO21 hS
 refine dr_nil (.inl (by decide)) (ze (zx (zs (zs (zr (zR 3 ((113, vP b7 (o8 + (k * 5) + 3)) :: (112, vP b7 (o8 + (k * 5))) :: (111, vP b7 (o8 + (k * 5))) :: _) hA rfl fun a hA => st_val hA rfl rfl (by decide) (rn_load tbOk hA rfl rfl rfl rfl ((hO.rd (hS.own_ 4 rfl)).elemf (k := k) encPart_ok hx (j := 3) rfl)) fun a hA => ?_))))))
 have hOh2 : Own 4 1 (.slice (some ⟨b9, o10, none⟩) (has.set ix true).length xc3) (has.set ix true).length (rows encBo (has.set ix true)) C13 := by rw [List.length_set]; exact hO13
 replace hA := hA.rw 114 (v' := .slice (some ⟨b9, o10, none⟩) ((has.set ix true).length) xc3) rfl (by rw [List.length_set])
 refine st_call0 hA rfl rfl rfl isfn90 rfl rfl (by decide) (containsb90 hS (l := has.set ix true) (RdS.own hOh2 2 rfl)) ?_
 clear hA hS; rintro v w22 a ⟨rfl, hS⟩ hA
 replace hA := hA.rw 115 (v' := yT) rfl (congrArg Value.bool hany)
 refine zn (zx (cd_cond_t hA rfl (zs (zr (zR 2 ((5, yF) :: (4, yS) :: _) hA rfl fun a hA => zn (zx ?_))))))
 refine wp_ret (xt_ret ?_)
 refine ret2 (fn := Tryz.f60) hA rfl rfl rfl ?_
 have hOp2 : Own 94 6 (.slice (some ⟨b14, o15, none⟩) (xb6.set ix (fr, to, id, ((ix : Nat) : Int), ((cn : Nat) : Int), A16, c17, bs)).length xc6) (xb6.set ix (fr, to, id, ((ix : Nat) : Int), ((cn : Nat) : Int), A16, c17, bs)).length (rows encPacket (xb6.set ix (fr, to, id, ((ix : Nat) : Int), ((cn : Nat) : Int), A16, c17, bs))) C21 := by rw [List.length_set]; exact hO21
 replace hS := hS.m8.m2
 replace hS := hS.join
 have hdE := (DD.new (w0 := w0) hOC18).right (E := D)
 have hPI2 : PI (fr, to, id, (some ⟨b9, o10, none⟩), xc3, has.set ix true, (some ⟨b14, o15, none⟩), xc6, xb6.set ix (fr, to, id, ((ix : Nat) : Int), ((cn : Nat) : Int), A16, c17, bs)) := hPI.put (by omega) (by omega) (by omega) _ _
 have hpd : ∀ y ∈ xb6.set ix (fr, to, id, ((ix : Nat) : Int), ((cn : Nat) : Int), A16, c17, bs), encPacket_dd w0 (C18 ++ D) y := fun y hy => (List.mem_or_eq_of_mem_set hy).elim (fun hy => encPacket_left ((hdd _ (List.mem_of_getElem? hx)) y hy)) (fun e => by rw [e]; exact hdE)
 replace hS := hS.m5.d0.m6.m2.m3.m6.m6.m6.m5.m5
 replace hS := hS.join
 replace hS := hS.m4
 replace hS := hS.join
 replace hS := hS.m3
 replace hS := hS.join
 replace hS := hS.m2.m2
 replace hS := hS.join3
 have hOO : Own 195 5 (.slice (some ⟨b7, o8, none⟩) (ps).length c) ((ps).set k (fr, to, id, (some ⟨b9, o10, none⟩), xc3, has.set ix true, (some ⟨b14, o15, none⟩), xc6, xb6.set ix (fr, to, id, ((ix : Nat) : Int), ((cn : Nat) : Int), A16, c17, bs))).length (rows encPart ((ps).set k (fr, to, id, (some ⟨b9, o10, none⟩), xc3, has.set ix true, (some ⟨b14, o15, none⟩), xc6, xb6.set ix (fr, to, id, ((ix : Nat) : Int), ((cn : Nat) : Int), A16, c17, bs)))) C := by rw [List.length_set, rows_same hx (by simp [encPart])]; exact hO
 have hmp : ((ps).set k (fr, to, id, (some ⟨b9, o10, none⟩), xc3, has.set ix true, (some ⟨b14, o15, none⟩), xc6, xb6.set ix (fr, to, id, ((ix : Nat) : Int), ((cn : Nat) : Int), A16, c17, bs))).map gv = (ps.map gv).set k (fr, to, id, has.set ix true, (xb6.map pdat).set ix bs) := by rw [List.map_set]; all_goals (first | rfl | (simp only [gv, phas, ppk, List.map_set]; rfl))
 exact ⟨_, C18, ⟨_, _, _, _, hOO, rfl, PO.put (y := (fr, to, id, (some ⟨b9, o10, none⟩), xc3, has.set ix true, (some ⟨b14, o15, none⟩), xc6, xb6.set ix (fr, to, id, ((ix : Nat) : Int), ((cn : Nat) : Int), A16, c17, bs))) hR1 hOh2 hOp2 hR2 hkl, set_all hI hPI2, part_dd (k := k) (x := (fr, to, id, (some ⟨b9, o10, none⟩), xc3, has.set ix true, (some ⟨b14, o15, none⟩), xc6, xb6.set ix (fr, to, id, ((ix : Nat) : Int), ((cn : Nat) : Int), A16, c17, bs))) hdd rfl (hdd _ (List.mem_of_getElem? hx)) hdE, hmp⟩, rfl, hS⟩
set_option maxHeartbeats 4000000 in
theorem add_hit_full60 {w0 w : World} {F : List Chunk} {L D : Chunk} {b : Nat} {vs : List GV} (hS : St w0 w (L :: D :: F)) (hM : GS w0 b vs L D) (fr to id : Int) (ix cn : Nat) {d : Value} {bs : List UInt8} (hd : RdSX w0 (D :: F) 1 d bs.length (rows encB bs)) (h1 : ix < cn) (h2 : cn ≤ 256) (h3 : bs.length ≤ 32768) {k : Nat} {has : List Bool} {dat : List (List UInt8)} (hz : vs[k]? = some (fr, to, id, has, dat)) (hbf : ∀ (i : Nat) (z : GV), i < k → vs[i]? = some z → ¬ vkey fr to id z) (hcn : has.length = cn) (hF : has[ix]? = some false) (hany : (has.set ix true).any (fun y => y == false) = false) :
 Ret Tryz.prog 60 #[vP b 0, .agg #[.int .i64 fr, .int .i64 to, .int .u64 id, vI ix, vI cn, d]] w (fun v w' => ∃ L' E C v1, GS w0 b (vs.take k ++ vs.drop (k + 1)) L' (E ++ D) ∧ Own 5 1 v1 ((dat.set ix bs).flatten).length (rows encB ((dat.set ix bs).flatten)) C ∧ v = .tuple #[v1, yT] ∧ St w0 w' (L' :: (E ++ D) :: C :: F)) := by
 obtain ⟨ps, v, C, R, hO, rfl, hR, hI, hdd, rfl⟩ := hM
 obtain ⟨A, c, rfl, hmc, hcx⟩ := hO.open'
 replace hS : St w0 w ([(b, rowO [.slice A ps.length c] 130)] :: C :: R :: D :: F) := hS.split3
 obtain ⟨B, d', rfl, hmd, hdx⟩ := (hd _ (hS.tail 3 rfl)).open'
 obtain ⟨x, hx, hgx⟩ := map_at' rfl hz
 obtain ⟨xf0, xf1, xf2, xA3, xc3, xb3, xA6, xc6, xb6⟩ := x
 simp only [gv, phas, ppk, Prod.mk.injEq] at hgx
 obtain ⟨g1, g2, g3, g4, g5⟩ := hgx
 have g1 := g1.symm; have g2 := g2.symm; have g3 := g3.symm; have g4 := g4.symm
 subst g1; subst g2; subst g3; subst g4; subst g5
 have hkl := (List.getElem?_eq_some_iff.1 hx).1
 have hPI := hI _ (List.mem_of_getElem? hx)
 have hpl : has.length = xb6.length := hPI.hp
 have hhl : has.length ≤ 256 := hPI.l2
 obtain ⟨R1, Ch, Cp, R2, rfl, hR1, hOh, hOp, hR2⟩ := hR.at hx
 replace hOh : Own 4 1 (.slice xA3 has.length xc3) has.length (rows encBo has) Ch := hOh
 replace hOp : Own 94 6 (.slice xA6 xb6.length xc6) xb6.length (rows encPacket xb6) Cp := hOp
 replace hS := hS.m2
 replace hS := hS.split
 replace hS := hS.m1
 replace hS := hS.split
 replace hS := hS.m1
 replace hS := hS.split
 replace hS := hS.m6.m2.m2.m3.m4.m6.m6
 refine enter (vs := [vP b 0, .agg #[.int .i64 fr, .int .i64 to, .int .u64 id, vI ix, vI cn, .slice B bs.length d']]) 137 Tryz.func60 rfl rfl (by simp) ?_; intro a hA
 refine zs (zr ?_)
 refine st_box hA hS [.int .i64 fr, .int .i64 to, .int .u64 id, vI ix, vI cn, .slice B bs.length d'] rfl rfl rfl rfl rfl (by decide) fun b1 w2 a hS hA => ?_
 refine zR 2 ((5, yF) :: (4, yS) :: _) hA rfl fun a hA => zn (zx (zs (zs (zr (zLA hA hS 0 [.int .i64 fr, .int .i64 to, .int .u64 id, vI ix, vI cn, .slice B bs.length d'] rfl rfl rfl rfl rfl rfl rfl rfl rfl rfl fun a hA => ?_)))))
 refine st_call0 hA rfl rfl rfl isfn87 rfl rfl (by decide) (may87 hS fr to id ((ix : Nat) : Int) ((cn : Nat) : Int) B d' bs) ?_
 clear hA hS; rintro v w3 a ⟨rfl, hS⟩ hA
 have hc4 : 1 ≤ ((cn : Nat) : Int) ∧ ((cn : Nat) : Int) ≤ 256 ∧ 0 ≤ ((ix : Nat) : Int) ∧ ((ix : Nat) : Int) < ((cn : Nat) : Int) ∧ bs.length ≤ 32768 := by omega
 replace hA := hA.rw 11 (v' := yT) rfl (vb_true hc4)
 refine zR 1 ((12, yF) :: _) hA rfl fun a hA => zn (zx (cd_cond_f hA rfl (zk (zx (zs (zr (zR 1 ((13, vP b 0) :: _) hA rfl fun a hA => zLA hA hS 0 [.int .i64 fr, .int .i64 to, .int .u64 id, vI ix, vI cn, .slice B bs.length d'] rfl rfl rfl rfl rfl rfl rfl rfl rfl rfl fun a hA => ?_)))))))
 replace hS := hS.m2.m2
 refine st_call0 hA rfl rfl rfl isfn88 rfl rfl (by decide) (find88 hS hO fr to id _ _ _) ?_
 clear hA hS; rintro v w5 a ⟨rfl, hS⟩ hA
 have hix := idx_some (p := fun x => gkey fr to id x) hx (by simp [gkey]) (gkey_no hbf)
 replace hA := hA.rw 15 (v' := vI k) rfl (vint hix)
 replace hS := hS.m7.m7.m7.m7.m7.m7.m7.m7
 refine zR 1 ((6, vI k) :: _) hA rfl fun a hA => zn (zx (zs (zs (zr (zR 2 ((17, .bool (decide (((k : Nat) : Int) < 0))) :: (16, vI k) :: _) hA rfl fun a hA => zn (zx ?_))))))
 have hc6 : ¬ (((k : Nat) : Int) < 0) := by omega
 replace hA := hA.rw 17 (v' := yF) rfl (vb_false hc6)
 refine cd_cond_f hA rfl (zk (zx (zs (zr (zR 3 ((61, vP b 0) :: (60, vP b 0) :: (59, vP b 0) :: _) hA rfl fun a hA => zL hA hS 0 rfl rfl rfl rfl rfl rfl rfl rfl rfl fun a hA => zR 1 ((63, vI k) :: _) hA rfl fun a hA => ?_)))))
 obtain ⟨b7, o8, rfl⟩ := hO.isSome (k := k) (by omega)
 refine st_val hA rfl rfl (by decide) (rn_indexAddr tbOk hA k (o8 + (k * 5)) rfl rfl rfl rfl rfl rfl (by rfl) (by omega) (by first | rfl | simp [Nat.mul_one, Nat.zero_add] | omega)) fun a hA => zR 1 ((7, vP b7 (o8 + (k * 5))) :: _) hA rfl fun a hA => zn (zx (zs (zs ?_)))
 obtain ⟨b9, o10, rfl⟩ := hOh.isSome (k := ix) (by omega)
 refine zD0 hS [] [(0, true), (1, true), (2, true), (3, true), (4, true), (5, true), (6, true), (7, true), (8, true), (9, true), (10, true), (11, true), (12, true), (13, true), (14, true), (15, true), (16, true), (17, true)] mixed (by kernel_rfl) (by rintro c a w ⟨_, _, h, _⟩; cases h) (by rfl) (by kernel_rfl) ?_
 replace hS := hS.drew
 refine zW 3 ((67, vP b7 (o8 + (k * 5) + 3)) :: (66, vP b7 (o8 + (k * 5))) :: (65, vP b7 (o8 + (k * 5))) :: _) hA hS rfl fun a hA => dr_y hA rfl rfl rfl (by decide) hS (fun w' hS' => rn_load tbOk hA rfl rfl rfl rfl ((hO.rd (hS'.own_ 1 rfl)).elemf (k := k) encPart_ok hx (j := 3) rfl)) fun a hA => zW 2 ((70, vP b1 4) :: (69, vI has.length) :: _) hA hS rfl fun a hA => zY hA hS 2 rfl rfl rfl rfl rfl rfl rfl rfl rfl rfl fun a hA => zW 2 ((73, .bool (((has.length : Nat) : Int) != ((cn : Nat) : Int))) :: (72, .bool (((has.length : Nat) : Int) != ((cn : Nat) : Int))) :: _) hA hS rfl fun a hA => ?_
 have hc11 : ((has.length : Nat) : Int) = ((cn : Nat) : Int) := by omega
 replace hA := hA.rw 72 (v' := yF) rfl (vb_ne_f hc11)
 replace hA := hA.rw 73 (v' := yF) rfl (vb_ne_f hc11)
 refine zW 3 ((76, vP b7 (o8 + (k * 5) + 3)) :: (75, vP b7 (o8 + (k * 5))) :: (74, vP b7 (o8 + (k * 5))) :: _) hA hS rfl fun a hA => dr_y hA rfl rfl rfl (by decide) hS (fun w' hS' => rn_load tbOk hA rfl rfl rfl rfl ((hO.rd (hS'.own_ 1 rfl)).elemf (k := k) encPart_ok hx (j := 3) rfl)) fun a hA => zW 1 ((78, vP b1 3) :: _) hA hS rfl fun a hA => zY hA hS 2 rfl rfl rfl rfl rfl rfl rfl rfl rfl rfl fun a hA => ?_
 replace hA := hA.rw 77 (v' := .slice (some ⟨b9, o10, none⟩) has.length xc3) rfl rfl
 refine dr_y hA rfl rfl rfl (by decide) hS (fun w' hS' => rn_indexAddr tbOk hA ix (o10 + ix) rfl rfl rfl rfl rfl rfl (by rfl) (by omega) (by first | rfl | simp [Nat.mul_one, Nat.zero_add] | omega)) fun a hA => dr_y hA rfl rfl rfl (by decide) hS (fun w' hS' => rn_load tbOk hA rfl rfl rfl rfl ((hOh.rd (hS'.own_ 4 rfl)).elem0 (k := ix) encBo_ok hF rfl)) fun a hA => zW 1 ((82, yF) :: _) hA hS rfl fun a hA => ze (zx (cd_cond_f hA rfl (zk (zx (zs ?_)))))
 replace hS := hS.m4
 refine zD1 hS [7] [(0, true), (1, true), (2, true), (3, true), (4, true), (5, true), (6, true), (7, false)] mixed (by kernel_rfl) (by rintro c a w ⟨_, _, h, _⟩; cases h) (by rfl) (by kernel_rfl) ?_
 replace hS := hS.drew
 refine zW 3 ((85, vP b7 (o8 + (k * 5) + 3)) :: (84, vP b7 (o8 + (k * 5))) :: (83, vP b7 (o8 + (k * 5))) :: _) hA (hS.tail 1 rfl) rfl fun a hA => dr_y hA rfl rfl rfl (by decide) (hS.tail 1 rfl) (fun w' hS' => rn_load tbOk hA rfl rfl rfl rfl ((hO.rd (hS'.own_ 1 rfl)).elemf (k := k) encPart_ok hx (j := 3) rfl)) fun a hA => zW 1 ((87, vP b1 3) :: _) hA (hS.tail 1 rfl) rfl fun a hA => zY hA (hS.tail 1 rfl) 2 rfl rfl rfl rfl rfl rfl rfl rfl rfl rfl fun a hA => ?_
 replace hA := hA.rw 86 (v' := .slice (some ⟨b9, o10, none⟩) has.length xc3) rfl rfl
 refine dr_y hA rfl rfl rfl (by decide) (hS.tail 1 rfl) (fun w' hS' => rn_indexAddr tbOk hA ix (o10 + ix) rfl rfl rfl rfl rfl rfl (by rfl) (by omega) (by first | rfl | simp [Nat.mul_one, Nat.zero_add] | omega)) fun a hA => dr_b (o := _) rfl ?_
 refine st_store_own tbOk hA hOh hS (ix) (o10 + ix) [yT] (rows encBo (has.set ix true)) rfl rfl rfl rfl (by rfl) rfl rfl (by intro u hu; rw [List.mem_singleton.1 hu]; rfl) (by simp only [rows_length encBo_ok, rows_length encPacket_ok, List.length_cons, List.length_nil]; omega) (by have := rows_set encBo_ok (x := true) (l := has) (k := ix) (by omega); rw [Nat.mul_one] at this; exact this) rfl rfl ?_; clear hS; intro w12 C13 hO13 hS
 refine dr_nil (.inl (by decide)) (ze (zx (zs ?_)))
 obtain ⟨b14, o15, rfl⟩ := hOp.isSome (k := ix) (by omega)
 replace hS := hS.m5
 refine zD1 hS [21] [(0, true), (1, true), (2, true), (3, true), (4, true), (5, true), (6, true), (7, true), (8, true), (9, true), (10, true), (11, true), (12, true), (13, true), (14, true), (15, true), (16, true), (17, true), (18, false), (19, true), (20, true), (21, false)] mixed (by kernel_rfl) (by rintro c a w ⟨_, _, h, _⟩; cases h) (by rfl) (by kernel_rfl) ?_
 replace hS := hS.drew
 refine zW 3 ((92, vP b7 (o8 + (k * 5) + 4)) :: (91, vP b7 (o8 + (k * 5))) :: (90, vP b7 (o8 + (k * 5))) :: _) hA (hS.tail 1 rfl) rfl fun a hA => dr_y hA rfl rfl rfl (by decide) (hS.tail 1 rfl) (fun w' hS' => rn_load tbOk hA rfl rfl rfl rfl ((hO.rd (hS'.own_ 2 rfl)).elemf (k := k) encPart_ok hx (j := 4) rfl)) fun a hA => zW 1 ((94, vP b1 3) :: _) hA (hS.tail 1 rfl) rfl fun a hA => zY hA (hS.tail 1 rfl) 3 rfl rfl rfl rfl rfl rfl rfl rfl rfl rfl fun a hA => zW 1 ((96, vP b1 0) :: _) hA (hS.tail 1 rfl) rfl fun a hA => zY hA (hS.tail 1 rfl) 3 rfl rfl rfl rfl rfl rfl rfl rfl rfl rfl fun a hA => zW 1 ((98, vP b1 1) :: _) hA (hS.tail 1 rfl) rfl fun a hA => zY hA (hS.tail 1 rfl) 3 rfl rfl rfl rfl rfl rfl rfl rfl rfl rfl fun a hA => zW 1 ((100, vP b1 2) :: _) hA (hS.tail 1 rfl) rfl fun a hA => zY hA (hS.tail 1 rfl) 3 rfl rfl rfl rfl rfl rfl rfl rfl rfl rfl fun a hA => ?_
 refine zW 1 ((102, vP b1 3) :: _) hA (hS.tail 1 rfl) rfl fun a hA => zY hA (hS.tail 1 rfl) 3 rfl rfl rfl rfl rfl rfl rfl rfl rfl rfl fun a hA => zW 1 ((104, vP b1 4) :: _) hA (hS.tail 1 rfl) rfl fun a hA => zY hA (hS.tail 1 rfl) 3 rfl rfl rfl rfl rfl rfl rfl rfl rfl rfl fun a hA => zW 1 ((106, vP b1 5) :: _) hA (hS.tail 1 rfl) rfl fun a hA => zY hA (hS.tail 1 rfl) 3 rfl rfl rfl rfl rfl rfl rfl rfl rfl rfl fun a hA => dr_b (o := _) rfl ?_
 refine st_call0 hA rfl rfl rfl isfn83 rfl rfl (by decide) (clonex83 hS (l := bs) (fun w' h => (hd _ (h.tail 7 rfl))) (by first | omega | (simp; omega))) ?_
 clear hA hS; rintro _ w19 a ⟨A16, c17, C18, hOC18, rfl, hS⟩ hA
 refine zi (hS.tail 2 rfl) (dr_y hA rfl rfl rfl (by decide) (hS.tail 2 rfl) (fun w' hS' => rn_build tbOk hA rfl rfl rfl rfl rfl rfl rfl) fun a hA => ?_)
 replace hA := hA.rw 93 (v' := .slice (some ⟨b14, o15, none⟩) xb6.length xc6) rfl rfl
 refine dr_y hA rfl rfl rfl (by decide) (hS.tail 2 rfl) (fun w' hS' => rn_indexAddr tbOk hA ix (o15 + (ix * 6)) rfl rfl rfl rfl rfl rfl (by rfl) (by omega) (by first | rfl | simp [Nat.mul_one, Nat.zero_add] | omega)) fun a hA => dr_b (o := _) rfl ?_
 replace hS := hS.m1
 refine st_store_own tbOk hA hOp hS ((ix * 6)) (o15 + (ix * 6)) [.int .i64 fr, .int .i64 to, .int .u64 id, vI ix, vI cn, .slice A16 bs.length c17] (rows encPacket (xb6.set ix (fr, to, id, ((ix : Nat) : Int), ((cn : Nat) : Int), A16, c17, bs))) rfl rfl rfl rfl (by rfl) rfl rfl (by exact encPacket_ok.one (fr, to, id, ((ix : Nat) : Int), ((cn : Nat) : Int), A16, c17, bs)) (by simp only [rows_length encBo_ok, rows_length encPacket_ok, List.length_cons, List.length_nil]; omega) (rows_set encPacket_ok (x := (fr, to, id, ((ix : Nat) : Int), ((cn : Nat) : Int), A16, c17, bs)) (l := xb6) (k := ix) (by omega)) rfl rfl ?_; clear hS; intro w20 C21 hO21 hS
 refine dr_nil (.inl (by decide)) (ze (zx (zs (zs (zr (zR 3 ((113, vP b7 (o8 + (k * 5) + 3)) :: (112, vP b7 (o8 + (k * 5))) :: (111, vP b7 (o8 + (k * 5))) :: _) hA rfl fun a hA => st_val hA rfl rfl (by decide) (rn_load tbOk hA rfl rfl rfl rfl ((hO.rd (hS.own_ 4 rfl)).elemf (k := k) encPart_ok hx (j := 3) rfl)) fun a hA => ?_))))))
 have hOh2 : Own 4 1 (.slice (some ⟨b9, o10, none⟩) (has.set ix true).length xc3) (has.set ix true).length (rows encBo (has.set ix true)) C13 := by rw [List.length_set]; exact hO13
 replace hA := hA.rw 114 (v' := .slice (some ⟨b9, o10, none⟩) ((has.set ix true).length) xc3) rfl (by rw [List.length_set])
 refine st_call0 hA rfl rfl rfl isfn90 rfl rfl (by decide) (containsb90 hS (l := has.set ix true) (RdS.own hOh2 2 rfl)) ?_
 clear hA hS; rintro v w22 a ⟨rfl, hS⟩ hA
 replace hA := hA.rw 115 (v' := yF) rfl (congrArg Value.bool hany)
 refine zn (zx (cd_cond_f hA rfl (zk (zx (zs (zr (zR 3 ((119, vP b7 (o8 + (k * 5) + 4)) :: (118, vP b7 (o8 + (k * 5))) :: (117, vP b7 (o8 + (k * 5))) :: _) hA rfl fun a hA => st_val hA rfl rfl (by decide) (rn_load tbOk hA rfl rfl rfl rfl ((hO.rd (hS.own_ 4 rfl)).elemf (k := k) encPart_ok hx (j := 4) rfl)) fun a hA => ?_)))))))
 have hOp2 : Own 94 6 (.slice (some ⟨b14, o15, none⟩) (xb6.set ix (fr, to, id, ((ix : Nat) : Int), ((cn : Nat) : Int), A16, c17, bs)).length xc6) (xb6.set ix (fr, to, id, ((ix : Nat) : Int), ((cn : Nat) : Int), A16, c17, bs)).length (rows encPacket (xb6.set ix (fr, to, id, ((ix : Nat) : Int), ((cn : Nat) : Int), A16, c17, bs))) C21 := by rw [List.length_set]; exact hO21
 replace hA := hA.rw 120 (v' := .slice (some ⟨b14, o15, none⟩) ((xb6.set ix (fr, to, id, ((ix : Nat) : Int), ((cn : Nat) : Int), A16, c17, bs)).length) xc6) rfl (by rw [List.length_set])
 replace hS := hS.m8.m2
 replace hS := hS.join
 have hdE := (DD.new (w0 := w0) hOC18).right (E := D)
 have hPI2 : PI (fr, to, id, (some ⟨b9, o10, none⟩), xc3, has.set ix true, (some ⟨b14, o15, none⟩), xc6, xb6.set ix (fr, to, id, ((ix : Nat) : Int), ((cn : Nat) : Int), A16, c17, bs)) := hPI.put (by omega) (by omega) (by omega) _ _
 have hpd : ∀ y ∈ xb6.set ix (fr, to, id, ((ix : Nat) : Int), ((cn : Nat) : Int), A16, c17, bs), encPacket_dd w0 (C18 ++ D) y := fun y hy => (List.mem_or_eq_of_mem_set hy).elim (fun hy => encPacket_left ((hdd _ (List.mem_of_getElem? hx)) y hy)) (fun e => by rw [e]; exact hdE)
 refine st_call0 hA rfl rfl rfl isfn91 rfl rfl (by decide) (join91 hS (ps := xb6.set ix (fr, to, id, ((ix : Nat) : Int), ((cn : Nat) : Int), A16, c17, bs)) (RdS.own hOp2 1 rfl) hpd) ?_
 clear hA hS; rintro _ w23 a ⟨C25, v24, ou28, hO25, hjC25, hS⟩ hA
 obtain ⟨A26, c27, rfl, hmc27, hxc27⟩ := hO25.open'
 obtain ⟨-, rfl, rfl⟩ := hjC25.resolve_right (fun h => h.1 (hPI2.allfit hany))
 refine zR 5 ((9, .bool (decide ((((xb6.set ix (fr, to, id, ((ix : Nat) : Int), ((cn : Nat) : Int), A16, c17, bs)).length : Nat) : Int) > 0))) :: (8, .slice A26 ((cat (xb6.set ix (fr, to, id, ((ix : Nat) : Int), ((cn : Nat) : Int), A16, c17, bs)) (xb6.set ix (fr, to, id, ((ix : Nat) : Int), ((cn : Nat) : Int), A16, c17, bs)).length).length) c27) :: (123, .bool (decide ((((xb6.set ix (fr, to, id, ((ix : Nat) : Int), ((cn : Nat) : Int), A16, c17, bs)).length : Nat) : Int) > 0))) :: (122, .slice A26 ((cat (xb6.set ix (fr, to, id, ((ix : Nat) : Int), ((cn : Nat) : Int), A16, c17, bs)) (xb6.set ix (fr, to, id, ((ix : Nat) : Int), ((cn : Nat) : Int), A16, c17, bs)).length).length) c27) :: (116, .tuple #[.slice A26 ((cat (xb6.set ix (fr, to, id, ((ix : Nat) : Int), ((cn : Nat) : Int), A16, c17, bs)) (xb6.set ix (fr, to, id, ((ix : Nat) : Int), ((cn : Nat) : Int), A16, c17, bs)).length).length) c27, .bool (decide ((((xb6.set ix (fr, to, id, ((ix : Nat) : Int), ((cn : Nat) : Int), A16, c17, bs)).length : Nat) : Int) > 0))]) :: _) hA rfl fun a hA => ?_
 refine zn (zx (zs (zr (zR 4 ((127, vP b 0) :: (126, vP b 0) :: (125, vP b 0) :: (124, vP b 0) :: _) hA rfl fun a hA => zL hA hS 4 rfl rfl rfl rfl rfl rfl rfl rfl rfl fun a hA => zR 3 ((131, .int .i64 (IntKind.i64.wrap (((k : Nat) : Int) + 1))) :: (130, vI k) :: (129, vI k) :: _) hA rfl fun a hA => ?_))))
 replace hA := hA.rw 131 (v' := vI (k + 1)) rfl (wr64 (by omega) (by omega) (by omega))
 replace hS := hS.m5
 refine st_call0 hA rfl rfl rfl isfn89 rfl rfl (by decide) (delete89 hS (l := ps) hO k (k + 1) (by omega) (by first | omega | (simp; omega))) ?_
 clear hA hS; rintro v29 w30 a ⟨C31, hO31, hS⟩ hA
 obtain ⟨A32, c33, rfl, hmc33, hxc33⟩ := hO31.open'
 refine zR 2 ((134, vP b 0) :: (133, vP b 0) :: _) hA rfl fun a hA => ?_
 replace hS := hS.m5
 refine st_store tbOk hA hS [.slice A32 ((ps.take k ++ ps.drop (k + 1)).length) c33] [.slice A32 ((ps.take k ++ ps.drop (k + 1)).length) c33] rfl rfl rfl rfl rfl rfl (by intro u hu; rw [List.mem_singleton.1 hu]; rfl) (zle rfl) rfl rfl rfl fun w34 hS => ?_
 refine zn (zx (zs (zr (zR 4 ((5, .bool (decide ((((xb6.set ix (fr, to, id, ((ix : Nat) : Int), ((cn : Nat) : Int), A16, c17, bs)).length : Nat) : Int) > 0))) :: (4, .slice A26 ((cat (xb6.set ix (fr, to, id, ((ix : Nat) : Int), ((cn : Nat) : Int), A16, c17, bs)) (xb6.set ix (fr, to, id, ((ix : Nat) : Int), ((cn : Nat) : Int), A16, c17, bs)).length).length) c27) :: (136, .bool (decide ((((xb6.set ix (fr, to, id, ((ix : Nat) : Int), ((cn : Nat) : Int), A16, c17, bs)).length : Nat) : Int) > 0))) :: (135, .slice A26 ((cat (xb6.set ix (fr, to, id, ((ix : Nat) : Int), ((cn : Nat) : Int), A16, c17, bs)) (xb6.set ix (fr, to, id, ((ix : Nat) : Int), ((cn : Nat) : Int), A16, c17, bs)).length).length) c27) :: _) hA rfl fun a hA => zn (zx ?_)))))
 refine wp_ret ?_
 refine ret2 (fn := Tryz.f60) hA rfl rfl rfl ?_
 replace hS := hS.m4.d0.m4.d0.m4.d0.m2.m3.m5.m5.m5.m5.m5.m5.m5.m5
 replace hS := hS.join
 replace hS := hS.m4.m4
 replace hS := hS.join3
 have hmp : (ps.take k ++ ps.drop (k + 1)).map gv = (ps.map gv).take k ++ (ps.map gv).drop (k + 1) := by rw [List.map_append, List.map_take, List.map_drop]; all_goals (first | rfl | (simp only [gv, phas, ppk, List.map_set]; rfl))
 have hcd : cat (xb6.set ix (fr, to, id, ((ix : Nat) : Int), ((cn : Nat) : Int), A16, c17, bs)) (xb6.set ix (fr, to, id, ((ix : Nat) : Int), ((cn : Nat) : Int), A16, c17, bs)).length = ((xb6.map pdat).set ix bs).flatten := by rw [cat_dat, List.map_set]; rfl
 have hpos : decide ((((xb6.set ix (fr, to, id, ((ix : Nat) : Int), ((cn : Nat) : Int), A16, c17, bs)).length : Nat) : Int) > 0) = true := decide_eq_true (by rw [List.length_set]; omega)
 rw [hcd] at hO25
 exact ⟨_, C18, _, _, ⟨_, _, _, _, hO31, rfl, PO.app hR1 hR2, sub_all hI, encs_left (sub_all hdd), hmp⟩, hO25, by rw [hcd, hpos], hS⟩
end Go.Proofs.YthiakdmhpfkjbaaGreatDoor

set_option linter.unusedVariables false
set_option linter.unusedSimpArgs false
set_option maxRecDepth 4000
namespace Go.Proofs.YthiakdmhpfkjbaaGreatDoor
open Go Go.SK
set_option maxHeartbeats 4000000 in
theorem add_new_put60 {w0 w : World} {F : List Chunk} {L D : Chunk} {b : Nat} {vs : List GV} (hS : St w0 w (L :: D :: F)) (hM : GS w0 b vs L D) (fr to id : Int) (ix cn : Nat) {d : Value} {bs : List UInt8} (hd : RdSX w0 (D :: F) 1 d bs.length (rows encB bs)) (h1 : ix < cn) (h2 : cn ≤ 256) (h3 : bs.length ≤ 32768) (hno : ∀ (i : Nat) (z : GV), vs[i]? = some z → ¬ vkey fr to id z) (hl : vs.length < 16) (hany : ((List.replicate cn false).set ix true).any (fun y => y == false) = true) :
 Ret Tryz.prog 60 #[vP b 0, .agg #[.int .i64 fr, .int .i64 to, .int .u64 id, vI ix, vI cn, d]] w (fun v w' => ∃ L' E, GS w0 b (vs ++ [(fr, to, id, (List.replicate cn false).set ix true, (List.replicate cn []).set ix bs)]) L' (E ++ D) ∧ v = .tuple #[yS, yF] ∧ St w0 w' (L' :: (E ++ D) :: F)) := by
 obtain ⟨ps, v, C, R, hO, rfl, hR, hI, hdd, rfl⟩ := hM
 obtain ⟨A, c, rfl, hmc, hcx⟩ := hO.open'
 replace hS : St w0 w ([(b, rowO [.slice A ps.length c] 130)] :: C :: R :: D :: F) := hS.split3
 obtain ⟨B, d', rfl, hmd, hdx⟩ := (hd _ (hS.tail 3 rfl)).open'
 rw [List.length_map] at hl
 refine enter (vs := [vP b 0, .agg #[.int .i64 fr, .int .i64 to, .int .u64 id, vI ix, vI cn, .slice B bs.length d']]) 137 Tryz.func60 rfl rfl (by simp) ?_; intro a hA
 refine zs (zr ?_)
 refine st_box hA hS [.int .i64 fr, .int .i64 to, .int .u64 id, vI ix, vI cn, .slice B bs.length d'] rfl rfl rfl rfl rfl (by decide) fun b1 w2 a hS hA => ?_
 refine zR 2 ((5, yF) :: (4, yS) :: _) hA rfl fun a hA => zn (zx (zs (zs (zr (zLA hA hS 0 [.int .i64 fr, .int .i64 to, .int .u64 id, vI ix, vI cn, .slice B bs.length d'] rfl rfl rfl rfl rfl rfl rfl rfl rfl rfl fun a hA => ?_)))))
 refine st_call0 hA rfl rfl rfl isfn87 rfl rfl (by decide) (may87 hS fr to id ((ix : Nat) : Int) ((cn : Nat) : Int) B d' bs) ?_
 clear hA hS; rintro v w3 a ⟨rfl, hS⟩ hA
 have hc4 : 1 ≤ ((cn : Nat) : Int) ∧ ((cn : Nat) : Int) ≤ 256 ∧ 0 ≤ ((ix : Nat) : Int) ∧ ((ix : Nat) : Int) < ((cn : Nat) : Int) ∧ bs.length ≤ 32768 := by omega
 replace hA := hA.rw 11 (v' := yT) rfl (vb_true hc4)
 refine zR 1 ((12, yF) :: _) hA rfl fun a hA => zn (zx (cd_cond_f hA rfl (zk (zx (zs (zr (zR 1 ((13, vP b 0) :: _) hA rfl fun a hA => zLA hA hS 0 [.int .i64 fr, .int .i64 to, .int .u64 id, vI ix, vI cn, .slice B bs.length d'] rfl rfl rfl rfl rfl rfl rfl rfl rfl rfl fun a hA => ?_)))))))
 replace hS := hS.m2.m2
 refine st_call0 hA rfl rfl rfl isfn88 rfl rfl (by decide) (find88 hS hO fr to id _ _ _) ?_
 clear hA hS; rintro v w5 a ⟨rfl, hS⟩ hA
 have hix := idx_none (p := fun x => gkey fr to id x) (l := ps) (fun i y hy => gkey_no (k := ps.length) (fun i z _ hz => hno i z hz) i y (List.getElem?_eq_some_iff.1 hy).1 hy)
 replace hA := hA.rw 15 (v' := .int .i64 (-1)) rfl (vint hix)
 replace hS := hS.m4.m4.m4.m4.m4
 refine zR 1 ((6, .int .i64 (-1)) :: _) hA rfl fun a hA => zn (zx (zs (zs (zr (zR 2 ((17, yT) :: (16, .int .i64 (-1)) :: _) hA rfl fun a hA => zn (zx (cd_cond_t hA rfl (zs (zs (zr (zR 3 ((20, vP b 0) :: (19, vP b 0) :: (18, vP b 0) :: _) hA rfl fun a hA => zL hA hS 0 rfl rfl rfl rfl rfl rfl rfl rfl rfl fun a hA => zR 2 ((23, .bool (((ps.length : Nat) : Int) == 16)) :: (22, vI ps.length) :: _) hA rfl fun a hA => zn (zx ?_))))))))))))
 have hc6 : ¬ (((ps.length : Nat) : Int) = 16) := by omega
 replace hA := hA.rw 23 (v' := yF) rfl (vb_eq_f hc6)
 refine cd_cond_f hA rfl (zk (zx (zs (zr (zR 3 ((34, vP b 0) :: (33, vP b 0) :: (32, vP b 0) :: _) hA rfl fun a hA => zL hA hS 0 rfl rfl rfl rfl rfl rfl rfl rfl rfl fun a hA => zR 2 ((6, vI ps.length) :: (36, vI ps.length) :: _) hA rfl fun a hA => zn (zx ?_))))))
 replace hS := hS.m1
 refine wp_drawN (fun w' => St w0 w' ([(b, rowO [.slice A ps.length c] 130)] :: [(b1, rowO [.int .i64 fr, .int .i64 to, .int .u64 id, vI ix, vI cn, .slice B bs.length d'] 94)] :: R :: D :: F)) [22] [(0, true), (1, true), (2, true), (3, true), (4, true), (5, true), (6, true), (7, true), (8, true), (9, true), (10, true), (11, true), (12, true), (14, true), (15, true)] 13 (.L [(16, false), (17, true), (18, false), (19, false), (20, true), (21, true), (22, false)]) 16 (.L [(13, false), (17, true), (18, false), (19, false), (20, true), (21, true), (22, false)]) mixed (by kernel_rfl) (by rintro c a w ⟨_, _, h, _⟩; cases h) (by rfl) (by kernel_rfl) ?_
 replace hS := hS.drew
 refine zW 4 ((40, vP b 0) :: (39, vP b 0) :: (38, vP b 0) :: (37, vP b 0) :: _) hA (hS.tail 1 rfl) rfl fun a hA => zY hA (hS.tail 1 rfl) 0 rfl rfl rfl rfl rfl rfl rfl rfl rfl rfl fun a hA => zW 1 ((42, vP b1 0) :: _) hA (hS.tail 1 rfl) rfl fun a hA => zY hA (hS.tail 1 rfl) 1 rfl rfl rfl rfl rfl rfl rfl rfl rfl rfl fun a hA => zW 1 ((44, vP b1 1) :: _) hA (hS.tail 1 rfl) rfl fun a hA => zY hA (hS.tail 1 rfl) 1 rfl rfl rfl rfl rfl rfl rfl rfl rfl rfl fun a hA => zW 1 ((46, vP b1 2) :: _) hA (hS.tail 1 rfl) rfl fun a hA => zY hA (hS.tail 1 rfl) 1 rfl rfl rfl rfl rfl rfl rfl rfl rfl rfl fun a hA => zW 1 ((48, vP b1 4) :: _) hA (hS.tail 1 rfl) rfl fun a hA => zY hA (hS.tail 1 rfl) 1 rfl rfl rfl rfl rfl rfl rfl rfl rfl rfl fun a hA => zW 1 ((51, vP b1 4) :: _) hA (hS.tail 1 rfl) rfl fun a hA => zY hA (hS.tail 1 rfl) 1 rfl rfl rfl rfl rfl rfl rfl rfl rfl rfl fun a hA => ?_
 refine dr_fork ?_ ?_
 · refine dr_b (o := _) rfl ?_
   refine st_makeSlice tbOk hA hS cn encBo_ok (by decide) false rfl rfl rfl rfl rfl rfl rfl rfl (by show 1 * cn ≤ 281474976710656; omega) (by omega) rfl rfl (by decide) fun b7 w8 a hS hA => ?_
   obtain ⟨C9, hO9, hS⟩ : ∃ Cq9, Own 4 1 (.slice (some ⟨b7, 0, none⟩) cn cn) cn (rows encBo (List.replicate cn false)) Cq9 ∧ St w0 w8 (Cq9 :: C :: [(b, rowO [.slice A ps.length c] 130)] :: [(b1, rowO [.int .i64 fr, .int .i64 to, .int .u64 id, vI ix, vI cn, .slice B bs.length d'] 94)] :: R :: D :: F) := ⟨_, Own.full (by rw [rows_length encBo_ok, List.length_replicate]) (by show cn ≤ 9223372036854775807; omega), hS⟩
   generalize (some (⟨b7, 0, none⟩ : Addr)) = A10 at hO9 hA
   refine zi (hS.tail 2 rfl) ?_
   refine dr_subL ?_
   refine dr_b (o := _) rfl ?_
   refine st_makeSlice tbOk hA hS cn encPacket_ok (by decide) (0, 0, 0, 0, 0, none, 0, ([] : List UInt8)) rfl rfl rfl rfl rfl rfl rfl rfl (by show 64 * cn ≤ 281474976710656; omega) (by omega) rfl rfl (by decide) fun b11 w12 a hS hA => ?_
   obtain ⟨C13, hO13, hS⟩ : ∃ Cq9, Own 94 6 (.slice (some ⟨b11, 0, none⟩) cn cn) cn (rows encPacket (List.replicate cn (0, 0, 0, 0, 0, none, 0, ([] : List UInt8)))) Cq9 ∧ St w0 w12 (Cq9 :: C9 :: C :: [(b, rowO [.slice A ps.length c] 130)] :: [(b1, rowO [.int .i64 fr, .int .i64 to, .int .u64 id, vI ix, vI cn, .slice B bs.length d'] 94)] :: R :: D :: F) := ⟨_, Own.full (by rw [rows_length encPacket_ok, List.length_replicate]) (by show cn ≤ 9223372036854775807; omega), hS⟩
   generalize (some (⟨b11, 0, none⟩ : Addr)) = A14 at hO13 hA
   refine zi (hS.tail 3 rfl) ?_
   replace hA := hA.rw 50 (v' := .slice A10 ((List.replicate cn false).length) cn) rfl (by rw [List.length_replicate])
   replace hA := hA.rw 53 (v' := .slice A14 ((List.replicate cn ((0, 0, 0, 0, 0, none, 0, ([] : List UInt8)) : Pkt)).length) cn) rfl (by rw [List.length_replicate])
   refine dr_y hA rfl rfl rfl (by decide) (hS.tail 3 rfl) (fun w' hS' => rn_build tbOk hA rfl rfl rfl rfl rfl rfl rfl) fun a hA => dr_b (o := _) rfl ?_
   refine st_buildSlice tbOk hA hS [.int .i64 fr, .int .i64 to, .int .u64 id, .slice A10 ((List.replicate cn false).length) cn, .slice A14 ((List.replicate cn ((0, 0, 0, 0, 0, none, 0, ([] : List UInt8)) : Pkt)).length) cn] rfl rfl rfl rfl rfl (by decide) (by kernel_rfl) rfl rfl (by decide) fun b15 w16 a hS hA => ?_
   refine zi (hS.tail 4 rfl) (dr_b (o := _) rfl ?_)
   replace hS := hS.m3
   refine st_append tbOk hA (m := ps.length) (q := 1) (xs := rows encPart ps) (news := rows encPart ([(fr, to, id, A10, cn, (List.replicate cn false), A14, cn, (List.replicate cn ((0, 0, 0, 0, 0, none, 0, ([] : List UInt8)) : Pkt)))] : List (Int × Int × Int × Option Addr × Nat × List Bool × Option Addr × Nat × List Pkt))) rfl rfl rfl rfl rfl rfl rfl rfl (by decide) hO hS (((Own.full (T := 195) (size := 5) (g := b15) (m := 1) rfl (by decide)).rd (hS.own_ 1 rfl)).x) (rows_one encPart_ok _) (maxLen_le (by first | omega | (simp; omega))) (by show (ps.length + 1) * 72 ≤ 140737488355328; first | omega | (simp; omega)) rfl rfl (by decide) ?_
   clear hA hS; intro v17 w18 C19 a hO19 hS hA
   replace hO19 := Own.app (l := ps) (l2 := ([(fr, to, id, A10, cn, (List.replicate cn false), A14, cn, (List.replicate cn ((0, 0, 0, 0, 0, none, 0, ([] : List UInt8)) : Pkt)))] : List (Int × Int × Int × Option Addr × Nat × List Bool × Option Addr × Nat × List Pkt))) hO19
   obtain ⟨A20, c21, rfl, hmc21, hxc21⟩ := hO19.open'
   refine zi (hS.tail 4 rfl) (zW 2 ((58, vP b 0) :: (57, vP b 0) :: _) hA (hS.tail 4 rfl) rfl fun a hA => dr_b (o := _) rfl ?_)
   replace hS := hS.m4
   refine st_store tbOk hA hS [.slice A20 ((ps ++ ([(fr, to, id, A10, cn, (List.replicate cn false), A14, cn, (List.replicate cn ((0, 0, 0, 0, 0, none, 0, ([] : List UInt8)) : Pkt)))] : List (Int × Int × Int × Option Addr × Nat × List Bool × Option Addr × Nat × List Pkt))).length) c21] [.slice A20 ((ps ++ ([(fr, to, id, A10, cn, (List.replicate cn false), A14, cn, (List.replicate cn ((0, 0, 0, 0, 0, none, 0, ([] : List UInt8)) : Pkt)))] : List (Int × Int × Int × Option Addr × Nat × List Bool × Option Addr × Nat × List Pkt))).length) c21] rfl rfl rfl rfl rfl rfl (by intro u hu; rw [List.mem_singleton.1 hu]; rfl) (zle rfl) rfl rfl rfl fun w22 hS => ?_
   refine dr_nil (.inl (by decide)) (ze (zx (zs (zr ?_))))
   obtain ⟨k, hk⟩ : ∃ k, k = ps.length := ⟨_, rfl⟩
   replace hA := hA.rw 6 (v' := vI k) rfl (by rw [hk])
   obtain ⟨qs, hqs⟩ : ∃ qs, qs = ps ++ ([(fr, to, id, A10, cn, (List.replicate cn false), A14, cn, (List.replicate cn ((0, 0, 0, 0, 0, none, 0, ([] : List UInt8)) : Pkt)))] : List (Int × Int × Int × Option Addr × Nat × List Bool × Option Addr × Nat × List Pkt)) := ⟨_, rfl⟩
   rw [← hqs] at hO19 hS
   have hx : qs[k]? = some (fr, to, id, A10, cn, (List.replicate cn false), A14, cn, (List.replicate cn ((0, 0, 0, 0, 0, none, 0, ([] : List UInt8)) : Pkt))) := by rw [hqs, hk]; simp
   have hkl : k < qs.length := (List.getElem?_eq_some_iff.1 hx).1
   have hPI : PI (fr, to, id, A10, cn, (List.replicate cn false), A14, cn, (List.replicate cn ((0, 0, 0, 0, 0, none, 0, ([] : List UInt8)) : Pkt))) := PI.fresh (by omega) (by omega)
   have hR1 : PO (qs.take k) R := by rw [hqs, hk, List.take_left]; exact hR
   have hR2 : PO (qs.drop (k + 1)) [] := by rw [hqs, List.drop_eq_nil_of_le (by rw [hk, List.length_append]; exact Nat.le_refl _)]; exact rfl
   have hpk2 : ∀ y ∈ (List.replicate cn ((0, 0, 0, 0, 0, none, 0, ([] : List UInt8)) : Pkt)), encPacket_dd w0 D y := fun y hy => by rw [List.eq_of_mem_replicate hy]; exact DD.nil
   have hI2 : ∀ y ∈ qs, PI y := by rw [hqs]; exact snoc_all hI hPI
   have hdd2 : ∀ z ∈ qs, ∀ y ∈ ppk z, encPacket_dd w0 D y := by rw [hqs]; exact snoc_all (x := (fr, to, id, A10, cn, (List.replicate cn false), A14, cn, (List.replicate cn ((0, 0, 0, 0, 0, none, 0, ([] : List UInt8)) : Pkt)))) hdd hpk2
   have hhl9 : (List.replicate cn false).length = cn := List.length_replicate
   have hpl9 : (List.replicate cn ((0, 0, 0, 0, 0, none, 0, ([] : List UInt8)) : Pkt)).length = cn := List.length_replicate
   have hF : (List.replicate cn false)[ix]? = some false := by rw [List.getElem?_replicate, if_pos (by omega)]
   have hOhN : Own 4 1 (.slice A10 (List.replicate cn false).length cn) (List.replicate cn false).length (rows encBo (List.replicate cn false)) C9 := by rw [List.length_replicate]; exact hO9
   have hOpN : Own 94 6 (.slice A14 (List.replicate cn ((0, 0, 0, 0, 0, none, 0, ([] : List UInt8)) : Pkt)).length cn) (List.replicate cn ((0, 0, 0, 0, 0, none, 0, ([] : List UInt8)) : Pkt)).length (rows encPacket (List.replicate cn ((0, 0, 0, 0, 0, none, 0, ([] : List UInt8)) : Pkt))) C13 := by rw [List.length_replicate]; exact hO13
   replace hS := hS.nil
   replace hS := hS.m8.m8.m8.m8.m8.m8.m8.m8.m8
   refine zR 3 ((61, vP b 0) :: (60, vP b 0) :: (59, vP b 0) :: _) hA rfl fun a hA => zL hA hS 1 rfl rfl rfl rfl rfl rfl rfl rfl rfl fun a hA => zR 1 ((63, vI k) :: _) hA rfl fun a hA => ?_
   obtain ⟨b23, o24, rfl⟩ := hO19.isSome (k := k) (by omega)
   refine st_val hA rfl rfl (by decide) (rn_indexAddr tbOk hA k (o24 + (k * 5)) rfl rfl rfl rfl rfl rfl (by rfl) (by omega) (by first | rfl | simp [Nat.mul_one, Nat.zero_add] | omega)) fun a hA => zR 1 ((7, vP b23 (o24 + (k * 5))) :: _) hA rfl fun a hA => zn (zx (zs (zs ?_)))
   obtain ⟨b25, o26, rfl⟩ := hOhN.isSome (k := ix) (by omega)
   refine zD0 hS [] [(0, true), (1, true), (2, true), (3, true), (4, true), (5, true), (6, true), (7, true), (8, true), (9, true), (10, true), (11, true), (12, true), (13, true), (14, true), (15, true), (16, true), (17, true)] mixed (by kernel_rfl) (by rintro c a w ⟨_, _, h, _⟩; cases h) (by rfl) (by kernel_rfl) ?_
   replace hS := hS.drew
   refine zW 3 ((67, vP b23 (o24 + (k * 5) + 3)) :: (66, vP b23 (o24 + (k * 5))) :: (65, vP b23 (o24 + (k * 5))) :: _) hA hS rfl fun a hA => dr_y hA rfl rfl rfl (by decide) hS (fun w' hS' => rn_load tbOk hA rfl rfl rfl rfl ((hO19.rd (hS'.own_ 2 rfl)).elemf (k := k) encPart_ok hx (j := 3) rfl)) fun a hA => zW 2 ((70, vP b1 4) :: (69, vI ((List.replicate cn false).length)) :: _) hA hS rfl fun a hA => zY hA hS 6 rfl rfl rfl rfl rfl rfl rfl rfl rfl rfl fun a hA => zW 2 ((73, .bool ((((List.replicate cn false).length : Nat) : Int) != ((cn : Nat) : Int))) :: (72, .bool ((((List.replicate cn false).length : Nat) : Int) != ((cn : Nat) : Int))) :: _) hA hS rfl fun a hA => ?_
   have hc27 : (((List.replicate cn false).length : Nat) : Int) = ((cn : Nat) : Int) := by omega
   replace hA := hA.rw 72 (v' := yF) rfl (vb_ne_f hc27)
   replace hA := hA.rw 73 (v' := yF) rfl (vb_ne_f hc27)
   refine zW 3 ((76, vP b23 (o24 + (k * 5) + 3)) :: (75, vP b23 (o24 + (k * 5))) :: (74, vP b23 (o24 + (k * 5))) :: _) hA hS rfl fun a hA => dr_y hA rfl rfl rfl (by decide) hS (fun w' hS' => rn_load tbOk hA rfl rfl rfl rfl ((hO19.rd (hS'.own_ 2 rfl)).elemf (k := k) encPart_ok hx (j := 3) rfl)) fun a hA => zW 1 ((78, vP b1 3) :: _) hA hS rfl fun a hA => zY hA hS 6 rfl rfl rfl rfl rfl rfl rfl rfl rfl rfl fun a hA => ?_
   replace hA := hA.rw 77 (v' := .slice (some ⟨b25, o26, none⟩) ((List.replicate cn false).length) cn) rfl rfl
   refine dr_y hA rfl rfl rfl (by decide) hS (fun w' hS' => rn_indexAddr tbOk hA ix (o26 + ix) rfl rfl rfl rfl rfl rfl (by rfl) (by omega) (by first | rfl | simp [Nat.mul_one, Nat.zero_add] | omega)) fun a hA => dr_y hA rfl rfl rfl (by decide) hS (fun w' hS' => rn_load tbOk hA rfl rfl rfl rfl ((hOhN.rd (hS'.own_ 5 rfl)).elem0 (k := ix) encBo_ok hF rfl)) fun a hA => zW 1 ((82, yF) :: _) hA hS rfl fun a hA => ze (zx (cd_cond_f hA rfl (zk (zx (zs ?_)))))
   replace hS := hS.m5
   refine zD1 hS [7] [(0, true), (1, true), (2, true), (3, true), (4, true), (5, true), (6, true), (7, false)] mixed (by kernel_rfl) (by rintro c a w ⟨_, _, h, _⟩; cases h) (by rfl) (by kernel_rfl) ?_
   replace hS := hS.drew
   refine zW 3 ((85, vP b23 (o24 + (k * 5) + 3)) :: (84, vP b23 (o24 + (k * 5))) :: (83, vP b23 (o24 + (k * 5))) :: _) hA (hS.tail 1 rfl) rfl fun a hA => dr_y hA rfl rfl rfl (by decide) (hS.tail 1 rfl) (fun w' hS' => rn_load tbOk hA rfl rfl rfl rfl ((hO19.rd (hS'.own_ 2 rfl)).elemf (k := k) encPart_ok hx (j := 3) rfl)) fun a hA => zW 1 ((87, vP b1 3) :: _) hA (hS.tail 1 rfl) rfl fun a hA => zY hA (hS.tail 1 rfl) 5 rfl rfl rfl rfl rfl rfl rfl rfl rfl rfl fun a hA => ?_
   replace hA := hA.rw 86 (v' := .slice (some ⟨b25, o26, none⟩) ((List.replicate cn false).length) cn) rfl rfl
   refine dr_y hA rfl rfl rfl (by decide) (hS.tail 1 rfl) (fun w' hS' => rn_indexAddr tbOk hA ix (o26 + ix) rfl rfl rfl rfl rfl rfl (by rfl) (by omega) (by first | rfl | simp [Nat.mul_one, Nat.zero_add] | omega)) fun a hA => dr_b (o := _) rfl ?_
   refine st_store_own tbOk hA hOhN hS (ix) (o26 + ix) [yT] (rows encBo ((List.replicate cn false).set ix true)) rfl rfl rfl rfl (by rfl) rfl rfl (by intro u hu; rw [List.mem_singleton.1 hu]; rfl) (by simp only [rows_length encBo_ok, rows_length encPacket_ok, List.length_cons, List.length_nil]; omega) (by have := rows_set encBo_ok (x := true) (l := (List.replicate cn false)) (k := ix) (by omega); rw [Nat.mul_one] at this; exact this) rfl rfl ?_; clear hS; intro w28 C29 hO29 hS
   refine dr_nil (.inl (by decide)) (ze (zx (zs ?_)))
   obtain ⟨b30, o31, rfl⟩ := hOpN.isSome (k := ix) (by omega)
   replace hS := hS.m5
   refine zD1 hS [21] [(0, true), (1, true), (2, true), (3, true), (4, true), (5, true), (6, true), (7, true), (8, true), (9, true), (10, true), (11, true), (12, true), (13, true), (14, true), (15, true), (16, true), (17, true), (18, false), (19, true), (20, true), (21, false)] mixed (by kernel_rfl) (by rintro c a w ⟨_, _, h, _⟩; cases h) (by rfl) (by kernel_rfl) ?_
   replace hS := hS.drew
   refine zW 3 ((92, vP b23 (o24 + (k * 5) + 4)) :: (91, vP b23 (o24 + (k * 5))) :: (90, vP b23 (o24 + (k * 5))) :: _) hA (hS.tail 1 rfl) rfl fun a hA => dr_y hA rfl rfl rfl (by decide) (hS.tail 1 rfl) (fun w' hS' => rn_load tbOk hA rfl rfl rfl rfl ((hO19.rd (hS'.own_ 3 rfl)).elemf (k := k) encPart_ok hx (j := 4) rfl)) fun a hA => zW 1 ((94, vP b1 3) :: _) hA (hS.tail 1 rfl) rfl fun a hA => zY hA (hS.tail 1 rfl) 5 rfl rfl rfl rfl rfl rfl rfl rfl rfl rfl fun a hA => zW 1 ((96, vP b1 0) :: _) hA (hS.tail 1 rfl) rfl fun a hA => zY hA (hS.tail 1 rfl) 5 rfl rfl rfl rfl rfl rfl rfl rfl rfl rfl fun a hA => zW 1 ((98, vP b1 1) :: _) hA (hS.tail 1 rfl) rfl fun a hA => zY hA (hS.tail 1 rfl) 5 rfl rfl rfl rfl rfl rfl rfl rfl rfl rfl fun a hA => zW 1 ((100, vP b1 2) :: _) hA (hS.tail 1 rfl) rfl fun a hA => zY hA (hS.tail 1 rfl) 5 rfl rfl rfl rfl rfl rfl rfl rfl rfl rfl fun a hA => ?_
   refine zW 1 ((102, vP b1 3) :: _) hA (hS.tail 1 rfl) rfl fun a hA => zY hA (hS.tail 1 rfl) 5 rfl rfl rfl rfl rfl rfl rfl rfl rfl rfl fun a hA => zW 1 ((104, vP b1 4) :: _) hA (hS.tail 1 rfl) rfl fun a hA => zY hA (hS.tail 1 rfl) 5 rfl rfl rfl rfl rfl rfl rfl rfl rfl rfl fun a hA => zW 1 ((106, vP b1 5) :: _) hA (hS.tail 1 rfl) rfl fun a hA => zY hA (hS.tail 1 rfl) 5 rfl rfl rfl rfl rfl rfl rfl rfl rfl rfl fun a hA => dr_b (o := _) rfl ?_
   refine st_call0 hA rfl rfl rfl isfn83 rfl rfl (by decide) (clonex83 hS (l := bs) (fun w' h => (hd _ (h.tail 8 rfl))) (by first | omega | (simp; omega))) ?_
   clear hA hS; rintro _ w35 a ⟨A32, c33, C34, hOC34, rfl, hS⟩ hA
   refine zi (hS.tail 2 rfl) (dr_y hA rfl rfl rfl (by decide) (hS.tail 2 rfl) (fun w' hS' => rn_build tbOk hA rfl rfl rfl rfl rfl rfl rfl) fun a hA => ?_)
   replace hA := hA.rw 93 (v' := .slice (some ⟨b30, o31, none⟩) ((List.replicate cn ((0, 0, 0, 0, 0, none, 0, ([] : List UInt8)) : Pkt)).length) cn) rfl rfl
   refine dr_y hA rfl rfl rfl (by decide) (hS.tail 2 rfl) (fun w' hS' => rn_indexAddr tbOk hA ix (o31 + (ix * 6)) rfl rfl rfl rfl rfl rfl (by rfl) (by omega) (by first | rfl | simp [Nat.mul_one, Nat.zero_add] | omega)) fun a hA => dr_b (o := _) rfl ?_
   replace hS := hS.m1
   refine st_store_own tbOk hA hOpN hS ((ix * 6)) (o31 + (ix * 6)) [.int .i64 fr, .int .i64 to, .int .u64 id, vI ix, vI cn, .slice A32 bs.length c33] (rows encPacket ((List.replicate cn ((0, 0, 0, 0, 0, none, 0, ([] : List UInt8)) : Pkt)).set ix (fr, to, id, ((ix : Nat) : Int), ((cn : Nat) : Int), A32, c33, bs))) rfl rfl rfl rfl (by rfl) rfl rfl (by exact encPacket_ok.one (fr, to, id, ((ix : Nat) : Int), ((cn : Nat) : Int), A32, c33, bs)) (by simp only [rows_length encBo_ok, rows_length encPacket_ok, List.length_cons, List.length_nil]; omega) (rows_set encPacket_ok (x := (fr, to, id, ((ix : Nat) : Int), ((cn : Nat) : Int), A32, c33, bs)) (l := (List.replicate cn ((0, 0, 0, 0, 0, none, 0, ([] : List UInt8)) : Pkt))) (k := ix) (by omega)) rfl rfl ?_; clear hS; intro w36 C37 hO37 hS
   refine dr_nil (.inl (by decide)) (ze (zx (zs (zs (zr (zR 3 ((113, vP b23 (o24 + (k * 5) + 3)) :: (112, vP b23 (o24 + (k * 5))) :: (111, vP b23 (o24 + (k * 5))) :: _) hA rfl fun a hA => st_val hA rfl rfl (by decide) (rn_load tbOk hA rfl rfl rfl rfl ((hO19.rd (hS.own_ 5 rfl)).elemf (k := k) encPart_ok hx (j := 3) rfl)) fun a hA => ?_))))))
   have hOh2 : Own 4 1 (.slice (some ⟨b25, o26, none⟩) ((List.replicate cn false).set ix true).length cn) ((List.replicate cn false).set ix true).length (rows encBo ((List.replicate cn false).set ix true)) C29 := by rw [List.length_set]; exact hO29
   replace hA := hA.rw 114 (v' := .slice (some ⟨b25, o26, none⟩) (((List.replicate cn false).set ix true).length) cn) rfl (by rw [List.length_set])
   refine st_call0 hA rfl rfl rfl isfn90 rfl rfl (by decide) (containsb90 hS (l := (List.replicate cn false).set ix true) (RdS.own hOh2 2 rfl)) ?_
   clear hA hS; rintro v w38 a ⟨rfl, hS⟩ hA
   replace hA := hA.rw 115 (v' := yT) rfl (congrArg Value.bool hany)
   refine zn (zx (cd_cond_t hA rfl (zs (zr (zR 2 ((5, yF) :: (4, yS) :: _) hA rfl fun a hA => zn (zx ?_))))))
   refine wp_ret (xt_ret ?_)
   refine ret2 (fn := Tryz.f60) hA rfl rfl rfl ?_
   have hOp2 : Own 94 6 (.slice (some ⟨b30, o31, none⟩) ((List.replicate cn ((0, 0, 0, 0, 0, none, 0, ([] : List UInt8)) : Pkt)).set ix (fr, to, id, ((ix : Nat) : Int), ((cn : Nat) : Int), A32, c33, bs)).length cn) ((List.replicate cn ((0, 0, 0, 0, 0, none, 0, ([] : List UInt8)) : Pkt)).set ix (fr, to, id, ((ix : Nat) : Int), ((cn : Nat) : Int), A32, c33, bs)).length (rows encPacket ((List.replicate cn ((0, 0, 0, 0, 0, none, 0, ([] : List UInt8)) : Pkt)).set ix (fr, to, id, ((ix : Nat) : Int), ((cn : Nat) : Int), A32, c33, bs))) C37 := by rw [List.length_set]; exact hO37
   replace hS := hS.m9.m2
   replace hS := hS.join
   have hdE := (DD.new (w0 := w0) hOC34).right (E := D)
   have hPI2 : PI (fr, to, id, (some ⟨b25, o26, none⟩), cn, (List.replicate cn false).set ix true, (some ⟨b30, o31, none⟩), cn, (List.replicate cn ((0, 0, 0, 0, 0, none, 0, ([] : List UInt8)) : Pkt)).set ix (fr, to, id, ((ix : Nat) : Int), ((cn : Nat) : Int), A32, c33, bs)) := hPI.put (by omega) (by omega) (by omega) _ _
   have hpd : ∀ y ∈ (List.replicate cn ((0, 0, 0, 0, 0, none, 0, ([] : List UInt8)) : Pkt)).set ix (fr, to, id, ((ix : Nat) : Int), ((cn : Nat) : Int), A32, c33, bs), encPacket_dd w0 (C34 ++ D) y := fun y hy => (List.mem_or_eq_of_mem_set hy).elim (fun hy => encPacket_left (hpk2 y hy)) (fun e => by rw [e]; exact hdE)
   replace hS := hS.m6.d0.m6.d0.m3.m2.m3.m6.m6.m6.m5.m5
   replace hS := hS.join
   replace hS := hS.m4
   replace hS := hS.join
   replace hS := hS.m3
   replace hS := hS.join
   replace hS := hS.m2.m2
   replace hS := hS.join3
   have hOO : Own 195 5 (.slice (some ⟨b23, o24, none⟩) (qs).length c21) ((qs).set k (fr, to, id, (some ⟨b25, o26, none⟩), cn, (List.replicate cn false).set ix true, (some ⟨b30, o31, none⟩), cn, (List.replicate cn ((0, 0, 0, 0, 0, none, 0, ([] : List UInt8)) : Pkt)).set ix (fr, to, id, ((ix : Nat) : Int), ((cn : Nat) : Int), A32, c33, bs))).length (rows encPart ((qs).set k (fr, to, id, (some ⟨b25, o26, none⟩), cn, (List.replicate cn false).set ix true, (some ⟨b30, o31, none⟩), cn, (List.replicate cn ((0, 0, 0, 0, 0, none, 0, ([] : List UInt8)) : Pkt)).set ix (fr, to, id, ((ix : Nat) : Int), ((cn : Nat) : Int), A32, c33, bs)))) C19 := by rw [List.length_set, rows_same hx (by simp [encPart])]; exact hO19
   have hmp : ((qs).set k (fr, to, id, (some ⟨b25, o26, none⟩), cn, (List.replicate cn false).set ix true, (some ⟨b30, o31, none⟩), cn, (List.replicate cn ((0, 0, 0, 0, 0, none, 0, ([] : List UInt8)) : Pkt)).set ix (fr, to, id, ((ix : Nat) : Int), ((cn : Nat) : Int), A32, c33, bs))).map gv = ps.map gv ++ [(fr, to, id, (List.replicate cn false).set ix true, (List.replicate cn []).set ix bs)] := by rw [List.map_set]; rw [hqs, new_set hk, show gv (fr, to, id, (some ⟨b25, o26, none⟩), cn, (List.replicate cn false).set ix true, (some ⟨b30, o31, none⟩), cn, (List.replicate cn ((0, 0, 0, 0, 0, none, 0, ([] : List UInt8)) : Pkt)).set ix (fr, to, id, ((ix : Nat) : Int), ((cn : Nat) : Int), A32, c33, bs)) = (fr, to, id, (List.replicate cn false).set ix true, (List.replicate cn []).set ix bs) from by simp only [gv, phas, ppk, List.map_set, List.map_replicate]; rfl]
   exact ⟨_, C34, ⟨_, _, _, _, hOO, rfl, PO.put (y := (fr, to, id, (some ⟨b25, o26, none⟩), cn, (List.replicate cn false).set ix true, (some ⟨b30, o31, none⟩), cn, (List.replicate cn ((0, 0, 0, 0, 0, none, 0, ([] : List UInt8)) : Pkt)).set ix (fr, to, id, ((ix : Nat) : Int), ((cn : Nat) : Int), A32, c33, bs))) hR1 hOh2 hOp2 hR2 hkl, set_all hI2 hPI2, part_dd (k := k) (x := (fr, to, id, (some ⟨b25, o26, none⟩), cn, (List.replicate cn false).set ix true, (some ⟨b30, o31, none⟩), cn, (List.replicate cn ((0, 0, 0, 0, 0, none, 0, ([] : List UInt8)) : Pkt)).set ix (fr, to, id, ((ix : Nat) : Int), ((cn : Nat) : Int), A32, c33, bs))) hdd2 rfl hpk2 hdE, hmp⟩, rfl, hS⟩
 · refine dr_b (o := _) rfl ?_
   refine st_makeSlice tbOk hA hS cn encPacket_ok (by decide) (0, 0, 0, 0, 0, none, 0, ([] : List UInt8)) rfl rfl rfl rfl rfl rfl rfl rfl (by show 64 * cn ≤ 281474976710656; omega) (by omega) rfl rfl (by decide) fun b39 w40 a hS hA => ?_
   obtain ⟨C41, hO41, hS⟩ : ∃ Cq9, Own 94 6 (.slice (some ⟨b39, 0, none⟩) cn cn) cn (rows encPacket (List.replicate cn (0, 0, 0, 0, 0, none, 0, ([] : List UInt8)))) Cq9 ∧ St w0 w40 (Cq9 :: C :: [(b, rowO [.slice A ps.length c] 130)] :: [(b1, rowO [.int .i64 fr, .int .i64 to, .int .u64 id, vI ix, vI cn, .slice B bs.length d'] 94)] :: R :: D :: F) := ⟨_, Own.full (by rw [rows_length encPacket_ok, List.length_replicate]) (by show cn ≤ 9223372036854775807; omega), hS⟩
   generalize (some (⟨b39, 0, none⟩ : Addr)) = A42 at hO41 hA
   refine zi (hS.tail 2 rfl) ?_
   refine dr_subL ?_
   refine dr_b (o := _) rfl ?_
   refine st_makeSlice tbOk hA hS cn encBo_ok (by decide) false rfl rfl rfl rfl rfl rfl rfl rfl (by show 1 * cn ≤ 281474976710656; omega) (by omega) rfl rfl (by decide) fun b43 w44 a hS hA => ?_
   obtain ⟨C45, hO45, hS⟩ : ∃ Cq9, Own 4 1 (.slice (some ⟨b43, 0, none⟩) cn cn) cn (rows encBo (List.replicate cn false)) Cq9 ∧ St w0 w44 (Cq9 :: C41 :: C :: [(b, rowO [.slice A ps.length c] 130)] :: [(b1, rowO [.int .i64 fr, .int .i64 to, .int .u64 id, vI ix, vI cn, .slice B bs.length d'] 94)] :: R :: D :: F) := ⟨_, Own.full (by rw [rows_length encBo_ok, List.length_replicate]) (by show cn ≤ 9223372036854775807; omega), hS⟩
   generalize (some (⟨b43, 0, none⟩ : Addr)) = A46 at hO45 hA
   refine zi (hS.tail 3 rfl) ?_
   replace hA := hA.rw 50 (v' := .slice A46 ((List.replicate cn false).length) cn) rfl (by rw [List.length_replicate])
   replace hA := hA.rw 53 (v' := .slice A42 ((List.replicate cn ((0, 0, 0, 0, 0, none, 0, ([] : List UInt8)) : Pkt)).length) cn) rfl (by rw [List.length_replicate])
   refine dr_y hA rfl rfl rfl (by decide) (hS.tail 3 rfl) (fun w' hS' => rn_build tbOk hA rfl rfl rfl rfl rfl rfl rfl) fun a hA => dr_b (o := _) rfl ?_
   refine st_buildSlice tbOk hA hS [.int .i64 fr, .int .i64 to, .int .u64 id, .slice A46 ((List.replicate cn false).length) cn, .slice A42 ((List.replicate cn ((0, 0, 0, 0, 0, none, 0, ([] : List UInt8)) : Pkt)).length) cn] rfl rfl rfl rfl rfl (by decide) (by kernel_rfl) rfl rfl (by decide) fun b47 w48 a hS hA => ?_
   refine zi (hS.tail 4 rfl) (dr_b (o := _) rfl ?_)
   replace hS := hS.m3
   refine st_append tbOk hA (m := ps.length) (q := 1) (xs := rows encPart ps) (news := rows encPart ([(fr, to, id, A46, cn, (List.replicate cn false), A42, cn, (List.replicate cn ((0, 0, 0, 0, 0, none, 0, ([] : List UInt8)) : Pkt)))] : List (Int × Int × Int × Option Addr × Nat × List Bool × Option Addr × Nat × List Pkt))) rfl rfl rfl rfl rfl rfl rfl rfl (by decide) hO hS (((Own.full (T := 195) (size := 5) (g := b47) (m := 1) rfl (by decide)).rd (hS.own_ 1 rfl)).x) (rows_one encPart_ok _) (maxLen_le (by first | omega | (simp; omega))) (by show (ps.length + 1) * 72 ≤ 140737488355328; first | omega | (simp; omega)) rfl rfl (by decide) ?_
   clear hA hS; intro v49 w50 C51 a hO51 hS hA
   replace hO51 := Own.app (l := ps) (l2 := ([(fr, to, id, A46, cn, (List.replicate cn false), A42, cn, (List.replicate cn ((0, 0, 0, 0, 0, none, 0, ([] : List UInt8)) : Pkt)))] : List (Int × Int × Int × Option Addr × Nat × List Bool × Option Addr × Nat × List Pkt))) hO51
   obtain ⟨A52, c53, rfl, hmc53, hxc53⟩ := hO51.open'
   refine zi (hS.tail 4 rfl) (zW 2 ((58, vP b 0) :: (57, vP b 0) :: _) hA (hS.tail 4 rfl) rfl fun a hA => dr_b (o := _) rfl ?_)
   replace hS := hS.m4
   refine st_store tbOk hA hS [.slice A52 ((ps ++ ([(fr, to, id, A46, cn, (List.replicate cn false), A42, cn, (List.replicate cn ((0, 0, 0, 0, 0, none, 0, ([] : List UInt8)) : Pkt)))] : List (Int × Int × Int × Option Addr × Nat × List Bool × Option Addr × Nat × List Pkt))).length) c53] [.slice A52 ((ps ++ ([(fr, to, id, A46, cn, (List.replicate cn false), A42, cn, (List.replicate cn ((0, 0, 0, 0, 0, none, 0, ([] : List UInt8)) : Pkt)))] : List (Int × Int × Int × Option Addr × Nat × List Bool × Option Addr × Nat × List Pkt))).length) c53] rfl rfl rfl rfl rfl rfl (by intro u hu; rw [List.mem_singleton.1 hu]; rfl) (zle rfl) rfl rfl rfl fun w54 hS => ?_
   refine dr_nil (.inl (by decide)) (ze (zx (zs (zr ?_))))
   obtain ⟨k, hk⟩ : ∃ k, k = ps.length := ⟨_, rfl⟩
   replace hA := hA.rw 6 (v' := vI k) rfl (by rw [hk])
   obtain ⟨qs, hqs⟩ : ∃ qs, qs = ps ++ ([(fr, to, id, A46, cn, (List.replicate cn false), A42, cn, (List.replicate cn ((0, 0, 0, 0, 0, none, 0, ([] : List UInt8)) : Pkt)))] : List (Int × Int × Int × Option Addr × Nat × List Bool × Option Addr × Nat × List Pkt)) := ⟨_, rfl⟩
   rw [← hqs] at hO51 hS
   have hx : qs[k]? = some (fr, to, id, A46, cn, (List.replicate cn false), A42, cn, (List.replicate cn ((0, 0, 0, 0, 0, none, 0, ([] : List UInt8)) : Pkt))) := by rw [hqs, hk]; simp
   have hkl : k < qs.length := (List.getElem?_eq_some_iff.1 hx).1
   have hPI : PI (fr, to, id, A46, cn, (List.replicate cn false), A42, cn, (List.replicate cn ((0, 0, 0, 0, 0, none, 0, ([] : List UInt8)) : Pkt))) := PI.fresh (by omega) (by omega)
   have hR1 : PO (qs.take k) R := by rw [hqs, hk, List.take_left]; exact hR
   have hR2 : PO (qs.drop (k + 1)) [] := by rw [hqs, List.drop_eq_nil_of_le (by rw [hk, List.length_append]; exact Nat.le_refl _)]; exact rfl
   have hpk2 : ∀ y ∈ (List.replicate cn ((0, 0, 0, 0, 0, none, 0, ([] : List UInt8)) : Pkt)), encPacket_dd w0 D y := fun y hy => by rw [List.eq_of_mem_replicate hy]; exact DD.nil
   have hI2 : ∀ y ∈ qs, PI y := by rw [hqs]; exact snoc_all hI hPI
   have hdd2 : ∀ z ∈ qs, ∀ y ∈ ppk z, encPacket_dd w0 D y := by rw [hqs]; exact snoc_all (x := (fr, to, id, A46, cn, (List.replicate cn false), A42, cn, (List.replicate cn ((0, 0, 0, 0, 0, none, 0, ([] : List UInt8)) : Pkt)))) hdd hpk2
   have hhl9 : (List.replicate cn false).length = cn := List.length_replicate
   have hpl9 : (List.replicate cn ((0, 0, 0, 0, 0, none, 0, ([] : List UInt8)) : Pkt)).length = cn := List.length_replicate
   have hF : (List.replicate cn false)[ix]? = some false := by rw [List.getElem?_replicate, if_pos (by omega)]
   have hOhN : Own 4 1 (.slice A46 (List.replicate cn false).length cn) (List.replicate cn false).length (rows encBo (List.replicate cn false)) C45 := by rw [List.length_replicate]; exact hO45
   have hOpN : Own 94 6 (.slice A42 (List.replicate cn ((0, 0, 0, 0, 0, none, 0, ([] : List UInt8)) : Pkt)).length cn) (List.replicate cn ((0, 0, 0, 0, 0, none, 0, ([] : List UInt8)) : Pkt)).length (rows encPacket (List.replicate cn ((0, 0, 0, 0, 0, none, 0, ([] : List UInt8)) : Pkt))) C41 := by rw [List.length_replicate]; exact hO41
   replace hS := hS.nil
   replace hS := hS.m8.m8.m8.m8.m8.m8.m8.m8.m8
   refine zR 3 ((61, vP b 0) :: (60, vP b 0) :: (59, vP b 0) :: _) hA rfl fun a hA => zL hA hS 1 rfl rfl rfl rfl rfl rfl rfl rfl rfl fun a hA => zR 1 ((63, vI k) :: _) hA rfl fun a hA => ?_
   obtain ⟨b55, o56, rfl⟩ := hO51.isSome (k := k) (by omega)
   refine st_val hA rfl rfl (by decide) (rn_indexAddr tbOk hA k (o56 + (k * 5)) rfl rfl rfl rfl rfl rfl (by rfl) (by omega) (by first | rfl | simp [Nat.mul_one, Nat.zero_add] | omega)) fun a hA => zR 1 ((7, vP b55 (o56 + (k * 5))) :: _) hA rfl fun a hA => zn (zx (zs (zs ?_)))
   obtain ⟨b57, o58, rfl⟩ := hOhN.isSome (k := ix) (by omega)
   refine zD0 hS [] [(0, true), (1, true), (2, true), (3, true), (4, true), (5, true), (6, true), (7, true), (8, true), (9, true), (10, true), (11, true), (12, true), (13, true), (14, true), (15, true), (16, true), (17, true)] mixed (by kernel_rfl) (by rintro c a w ⟨_, _, h, _⟩; cases h) (by rfl) (by kernel_rfl) ?_
   replace hS := hS.drew
   refine zW 3 ((67, vP b55 (o56 + (k * 5) + 3)) :: (66, vP b55 (o56 + (k * 5))) :: (65, vP b55 (o56 + (k * 5))) :: _) hA hS rfl fun a hA => dr_y hA rfl rfl rfl (by decide) hS (fun w' hS' => rn_load tbOk hA rfl rfl rfl rfl ((hO51.rd (hS'.own_ 2 rfl)).elemf (k := k) encPart_ok hx (j := 3) rfl)) fun a hA => zW 2 ((70, vP b1 4) :: (69, vI ((List.replicate cn false).length)) :: _) hA hS rfl fun a hA => zY hA hS 6 rfl rfl rfl rfl rfl rfl rfl rfl rfl rfl fun a hA => zW 2 ((73, .bool ((((List.replicate cn false).length : Nat) : Int) != ((cn : Nat) : Int))) :: (72, .bool ((((List.replicate cn false).length : Nat) : Int) != ((cn : Nat) : Int))) :: _) hA hS rfl fun a hA => ?_
   have hc59 : (((List.replicate cn false).length : Nat) : Int) = ((cn : Nat) : Int) := by omega
   replace hA := hA.rw 72 (v' := yF) rfl (vb_ne_f hc59)
   replace hA := hA.rw 73 (v' := yF) rfl (vb_ne_f hc59)
   refine zW 3 ((76, vP b55 (o56 + (k * 5) + 3)) :: (75, vP b55 (o56 + (k * 5))) :: (74, vP b55 (o56 + (k * 5))) :: _) hA hS rfl fun a hA => dr_y hA rfl rfl rfl (by decide) hS (fun w' hS' => rn_load tbOk hA rfl rfl rfl rfl ((hO51.rd (hS'.own_ 2 rfl)).elemf (k := k) encPart_ok hx (j := 3) rfl)) fun a hA => zW 1 ((78, vP b1 3) :: _) hA hS rfl fun a hA => zY hA hS 6 rfl rfl rfl rfl rfl rfl rfl rfl rfl rfl fun a hA => ?_
   replace hA := hA.rw 77 (v' := .slice (some ⟨b57, o58, none⟩) ((List.replicate cn false).length) cn) rfl rfl
   refine dr_y hA rfl rfl rfl (by decide) hS (fun w' hS' => rn_indexAddr tbOk hA ix (o58 + ix) rfl rfl rfl rfl rfl rfl (by rfl) (by omega) (by first | rfl | simp [Nat.mul_one, Nat.zero_add] | omega)) fun a hA => dr_y hA rfl rfl rfl (by decide) hS (fun w' hS' => rn_load tbOk hA rfl rfl rfl rfl ((hOhN.rd (hS'.own_ 4 rfl)).elem0 (k := ix) encBo_ok hF rfl)) fun a hA => zW 1 ((82, yF) :: _) hA hS rfl fun a hA => ze (zx (cd_cond_f hA rfl (zk (zx (zs ?_)))))
   replace hS := hS.m4
   refine zD1 hS [7] [(0, true), (1, true), (2, true), (3, true), (4, true), (5, true), (6, true), (7, false)] mixed (by kernel_rfl) (by rintro c a w ⟨_, _, h, _⟩; cases h) (by rfl) (by kernel_rfl) ?_
   replace hS := hS.drew
   refine zW 3 ((85, vP b55 (o56 + (k * 5) + 3)) :: (84, vP b55 (o56 + (k * 5))) :: (83, vP b55 (o56 + (k * 5))) :: _) hA (hS.tail 1 rfl) rfl fun a hA => dr_y hA rfl rfl rfl (by decide) (hS.tail 1 rfl) (fun w' hS' => rn_load tbOk hA rfl rfl rfl rfl ((hO51.rd (hS'.own_ 2 rfl)).elemf (k := k) encPart_ok hx (j := 3) rfl)) fun a hA => zW 1 ((87, vP b1 3) :: _) hA (hS.tail 1 rfl) rfl fun a hA => zY hA (hS.tail 1 rfl) 5 rfl rfl rfl rfl rfl rfl rfl rfl rfl rfl fun a hA => ?_
   replace hA := hA.rw 86 (v' := .slice (some ⟨b57, o58, none⟩) ((List.replicate cn false).length) cn) rfl rfl
   refine dr_y hA rfl rfl rfl (by decide) (hS.tail 1 rfl) (fun w' hS' => rn_indexAddr tbOk hA ix (o58 + ix) rfl rfl rfl rfl rfl rfl (by rfl) (by omega) (by first | rfl | simp [Nat.mul_one, Nat.zero_add] | omega)) fun a hA => dr_b (o := _) rfl ?_
   refine st_store_own tbOk hA hOhN hS (ix) (o58 + ix) [yT] (rows encBo ((List.replicate cn false).set ix true)) rfl rfl rfl rfl (by rfl) rfl rfl (by intro u hu; rw [List.mem_singleton.1 hu]; rfl) (by simp only [rows_length encBo_ok, rows_length encPacket_ok, List.length_cons, List.length_nil]; omega) (by have := rows_set encBo_ok (x := true) (l := (List.replicate cn false)) (k := ix) (by omega); rw [Nat.mul_one] at this; exact this) rfl rfl ?_; clear hS; intro w60 C61 hO61 hS
   refine dr_nil (.inl (by decide)) (ze (zx (zs ?_)))
   obtain ⟨b62, o63, rfl⟩ := hOpN.isSome (k := ix) (by omega)
   replace hS := hS.m5
   refine zD1 hS [21] [(0, true), (1, true), (2, true), (3, true), (4, true), (5, true), (6, true), (7, true), (8, true), (9, true), (10, true), (11, true), (12, true), (13, true), (14, true), (15, true), (16, true), (17, true), (18, false), (19, true), (20, true), (21, false)] mixed (by kernel_rfl) (by rintro c a w ⟨_, _, h, _⟩; cases h) (by rfl) (by kernel_rfl) ?_
   replace hS := hS.drew
   refine zW 3 ((92, vP b55 (o56 + (k * 5) + 4)) :: (91, vP b55 (o56 + (k * 5))) :: (90, vP b55 (o56 + (k * 5))) :: _) hA (hS.tail 1 rfl) rfl fun a hA => dr_y hA rfl rfl rfl (by decide) (hS.tail 1 rfl) (fun w' hS' => rn_load tbOk hA rfl rfl rfl rfl ((hO51.rd (hS'.own_ 3 rfl)).elemf (k := k) encPart_ok hx (j := 4) rfl)) fun a hA => zW 1 ((94, vP b1 3) :: _) hA (hS.tail 1 rfl) rfl fun a hA => zY hA (hS.tail 1 rfl) 5 rfl rfl rfl rfl rfl rfl rfl rfl rfl rfl fun a hA => zW 1 ((96, vP b1 0) :: _) hA (hS.tail 1 rfl) rfl fun a hA => zY hA (hS.tail 1 rfl) 5 rfl rfl rfl rfl rfl rfl rfl rfl rfl rfl fun a hA => zW 1 ((98, vP b1 1) :: _) hA (hS.tail 1 rfl) rfl fun a hA => zY hA (hS.tail 1 rfl) 5 rfl rfl rfl rfl rfl rfl rfl rfl rfl rfl fun a hA => zW 1 ((100, vP b1 2) :: _) hA (hS.tail 1 rfl) rfl fun a hA => zY hA (hS.tail 1 rfl) 5 rfl rfl rfl rfl rfl rfl rfl rfl rfl rfl fun a hA => ?_
   refine zW 1 ((102, vP b1 3) :: _) hA (hS.tail 1 rfl) rfl fun a hA => zY hA (hS.tail 1 rfl) 5 rfl rfl rfl rfl rfl rfl rfl rfl rfl rfl fun a hA => zW 1 ((104, vP b1 4) :: _) hA (hS.tail 1 rfl) rfl fun a hA => zY hA (hS.tail 1 rfl) 5 rfl rfl rfl rfl rfl rfl rfl rfl rfl rfl fun a hA => zW 1 ((106, vP b1 5) :: _) hA (hS.tail 1 rfl) rfl fun a hA => zY hA (hS.tail 1 rfl) 5 rfl rfl rfl rfl rfl rfl rfl rfl rfl rfl fun a hA => dr_b (o := _) rfl ?_
   refine st_call0 hA rfl rfl rfl isfn83 rfl rfl (by decide) (clonex83 hS (l := bs) (fun w' h => (hd _ (h.tail 8 rfl))) (by first | omega | (simp; omega))) ?_
   clear hA hS; rintro _ w67 a ⟨A64, c65, C66, hOC66, rfl, hS⟩ hA
   refine zi (hS.tail 2 rfl) (dr_y hA rfl rfl rfl (by decide) (hS.tail 2 rfl) (fun w' hS' => rn_build tbOk hA rfl rfl rfl rfl rfl rfl rfl) fun a hA => ?_)
   replace hA := hA.rw 93 (v' := .slice (some ⟨b62, o63, none⟩) ((List.replicate cn ((0, 0, 0, 0, 0, none, 0, ([] : List UInt8)) : Pkt)).length) cn) rfl rfl
   refine dr_y hA rfl rfl rfl (by decide) (hS.tail 2 rfl) (fun w' hS' => rn_indexAddr tbOk hA ix (o63 + (ix * 6)) rfl rfl rfl rfl rfl rfl (by rfl) (by omega) (by first | rfl | simp [Nat.mul_one, Nat.zero_add] | omega)) fun a hA => dr_b (o := _) rfl ?_
   replace hS := hS.m1
   refine st_store_own tbOk hA hOpN hS ((ix * 6)) (o63 + (ix * 6)) [.int .i64 fr, .int .i64 to, .int .u64 id, vI ix, vI cn, .slice A64 bs.length c65] (rows encPacket ((List.replicate cn ((0, 0, 0, 0, 0, none, 0, ([] : List UInt8)) : Pkt)).set ix (fr, to, id, ((ix : Nat) : Int), ((cn : Nat) : Int), A64, c65, bs))) rfl rfl rfl rfl (by rfl) rfl rfl (by exact encPacket_ok.one (fr, to, id, ((ix : Nat) : Int), ((cn : Nat) : Int), A64, c65, bs)) (by simp only [rows_length encBo_ok, rows_length encPacket_ok, List.length_cons, List.length_nil]; omega) (rows_set encPacket_ok (x := (fr, to, id, ((ix : Nat) : Int), ((cn : Nat) : Int), A64, c65, bs)) (l := (List.replicate cn ((0, 0, 0, 0, 0, none, 0, ([] : List UInt8)) : Pkt))) (k := ix) (by omega)) rfl rfl ?_; clear hS; intro w68 C69 hO69 hS
   refine dr_nil (.inl (by decide)) (ze (zx (zs (zs (zr (zR 3 ((113, vP b55 (o56 + (k * 5) + 3)) :: (112, vP b55 (o56 + (k * 5))) :: (111, vP b55 (o56 + (k * 5))) :: _) hA rfl fun a hA => st_val hA rfl rfl (by decide) (rn_load tbOk hA rfl rfl rfl rfl ((hO51.rd (hS.own_ 5 rfl)).elemf (k := k) encPart_ok hx (j := 3) rfl)) fun a hA => ?_))))))
   have hOh2 : Own 4 1 (.slice (some ⟨b57, o58, none⟩) ((List.replicate cn false).set ix true).length cn) ((List.replicate cn false).set ix true).length (rows encBo ((List.replicate cn false).set ix true)) C61 := by rw [List.length_set]; exact hO61
   replace hA := hA.rw 114 (v' := .slice (some ⟨b57, o58, none⟩) (((List.replicate cn false).set ix true).length) cn) rfl (by rw [List.length_set])
   refine st_call0 hA rfl rfl rfl isfn90 rfl rfl (by decide) (containsb90 hS (l := (List.replicate cn false).set ix true) (RdS.own hOh2 2 rfl)) ?_
   clear hA hS; rintro v w70 a ⟨rfl, hS⟩ hA
   replace hA := hA.rw 115 (v' := yT) rfl (congrArg Value.bool hany)
   refine zn (zx (cd_cond_t hA rfl (zs (zr (zR 2 ((5, yF) :: (4, yS) :: _) hA rfl fun a hA => zn (zx ?_))))))
   refine wp_ret (xt_ret ?_)
   refine ret2 (fn := Tryz.f60) hA rfl rfl rfl ?_
   have hOp2 : Own 94 6 (.slice (some ⟨b62, o63, none⟩) ((List.replicate cn ((0, 0, 0, 0, 0, none, 0, ([] : List UInt8)) : Pkt)).set ix (fr, to, id, ((ix : Nat) : Int), ((cn : Nat) : Int), A64, c65, bs)).length cn) ((List.replicate cn ((0, 0, 0, 0, 0, none, 0, ([] : List UInt8)) : Pkt)).set ix (fr, to, id, ((ix : Nat) : Int), ((cn : Nat) : Int), A64, c65, bs)).length (rows encPacket ((List.replicate cn ((0, 0, 0, 0, 0, none, 0, ([] : List UInt8)) : Pkt)).set ix (fr, to, id, ((ix : Nat) : Int), ((cn : Nat) : Int), A64, c65, bs))) C69 := by rw [List.length_set]; exact hO69
   replace hS := hS.m9.m2
   replace hS := hS.join
   have hdE := (DD.new (w0 := w0) hOC66).right (E := D)
   have hPI2 : PI (fr, to, id, (some ⟨b57, o58, none⟩), cn, (List.replicate cn false).set ix true, (some ⟨b62, o63, none⟩), cn, (List.replicate cn ((0, 0, 0, 0, 0, none, 0, ([] : List UInt8)) : Pkt)).set ix (fr, to, id, ((ix : Nat) : Int), ((cn : Nat) : Int), A64, c65, bs)) := hPI.put (by omega) (by omega) (by omega) _ _
   have hpd : ∀ y ∈ (List.replicate cn ((0, 0, 0, 0, 0, none, 0, ([] : List UInt8)) : Pkt)).set ix (fr, to, id, ((ix : Nat) : Int), ((cn : Nat) : Int), A64, c65, bs), encPacket_dd w0 (C66 ++ D) y := fun y hy => (List.mem_or_eq_of_mem_set hy).elim (fun hy => encPacket_left (hpk2 y hy)) (fun e => by rw [e]; exact hdE)
   replace hS := hS.m6.d0.m6.d0.m3.m2.m3.m6.m6.m6.m5.m5
   replace hS := hS.join
   replace hS := hS.m4
   replace hS := hS.join
   replace hS := hS.m3
   replace hS := hS.join
   replace hS := hS.m2.m2
   replace hS := hS.join3
   have hOO : Own 195 5 (.slice (some ⟨b55, o56, none⟩) (qs).length c53) ((qs).set k (fr, to, id, (some ⟨b57, o58, none⟩), cn, (List.replicate cn false).set ix true, (some ⟨b62, o63, none⟩), cn, (List.replicate cn ((0, 0, 0, 0, 0, none, 0, ([] : List UInt8)) : Pkt)).set ix (fr, to, id, ((ix : Nat) : Int), ((cn : Nat) : Int), A64, c65, bs))).length (rows encPart ((qs).set k (fr, to, id, (some ⟨b57, o58, none⟩), cn, (List.replicate cn false).set ix true, (some ⟨b62, o63, none⟩), cn, (List.replicate cn ((0, 0, 0, 0, 0, none, 0, ([] : List UInt8)) : Pkt)).set ix (fr, to, id, ((ix : Nat) : Int), ((cn : Nat) : Int), A64, c65, bs)))) C51 := by rw [List.length_set, rows_same hx (by simp [encPart])]; exact hO51
   have hmp : ((qs).set k (fr, to, id, (some ⟨b57, o58, none⟩), cn, (List.replicate cn false).set ix true, (some ⟨b62, o63, none⟩), cn, (List.replicate cn ((0, 0, 0, 0, 0, none, 0, ([] : List UInt8)) : Pkt)).set ix (fr, to, id, ((ix : Nat) : Int), ((cn : Nat) : Int), A64, c65, bs))).map gv = ps.map gv ++ [(fr, to, id, (List.replicate cn false).set ix true, (List.replicate cn []).set ix bs)] := by rw [List.map_set]; rw [hqs, new_set hk, show gv (fr, to, id, (some ⟨b57, o58, none⟩), cn, (List.replicate cn false).set ix true, (some ⟨b62, o63, none⟩), cn, (List.replicate cn ((0, 0, 0, 0, 0, none, 0, ([] : List UInt8)) : Pkt)).set ix (fr, to, id, ((ix : Nat) : Int), ((cn : Nat) : Int), A64, c65, bs)) = (fr, to, id, (List.replicate cn false).set ix true, (List.replicate cn []).set ix bs) from by simp only [gv, phas, ppk, List.map_set, List.map_replicate]; rfl]
   exact ⟨_, C66, ⟨_, _, _, _, hOO, rfl, PO.put (y := (fr, to, id, (some ⟨b57, o58, none⟩), cn, (List.replicate cn false).set ix true, (some ⟨b62, o63, none⟩), cn, (List.replicate cn ((0, 0, 0, 0, 0, none, 0, ([] : List UInt8)) : Pkt)).set ix (fr, to, id, ((ix : Nat) : Int), ((cn : Nat) : Int), A64, c65, bs))) hR1 hOh2 hOp2 hR2 hkl, set_all hI2 hPI2, part_dd (k := k) (x := (fr, to, id, (some ⟨b57, o58, none⟩), cn, (List.replicate cn false).set ix true, (some ⟨b62, o63, none⟩), cn, (List.replicate cn ((0, 0, 0, 0, 0, none, 0, ([] : List UInt8)) : Pkt)).set ix (fr, to, id, ((ix : Nat) : Int), ((cn : Nat) : Int), A64, c65, bs))) hdd2 rfl hpk2 hdE, hmp⟩, rfl, hS⟩
end Go.Proofs.YthiakdmhpfkjbaaGreatDoor

set_option linter.unusedVariables false
set_option linter.unusedSimpArgs false
set_option maxRecDepth 4000
namespace Go.Proofs.YthiakdmhpfkjbaaGreatDoor
open Go Go.SK
def WR (b : Nat) (ps : List Pkt) (L : Chunk) : Prop := ∃ v C, Own 94 6 v ps.length (rows encPacket ps) C ∧ L = (b, rowO [v] 74) :: C
theorem WR.new (b : Nat) : WR b [] [(b, rowO [yS] 74)] := ⟨_, [], Own.nil _ _, rfl⟩
theorem delete59 {w0 w : World} {F : List Chunk} {C : Chunk} (hS : St w0 w (C :: F)) {v : Value} {l : List (Int × Int × Int × Int × Int × Option Addr × Nat × List UInt8)} (hO : Own 94 6 v l.length (rows encPacket l) C) (i j : Nat) (hij : i ≤ j) (hj : j ≤ l.length) :
 Ret Tryz.prog 59 #[v, vI i, vI j] w (fun v w' => ∃ C', Own 94 6 v (l.take i ++ l.drop j).length (rows encPacket (l.take i ++ l.drop j)) C' ∧ St w0 w' (C' :: F)) := by
 obtain ⟨A, c, rfl, hmc, hcx⟩ := hO.open'
 refine enter (vs := [.slice A l.length c, vI i, vI j]) 33 Tryz.func59 rfl rfl (by simp) ?_; intro a hA
 refine zs (zr (zR 1 ((6, yS) :: _) hA rfl fun a hA => zn (zx (zs (zr (zR 5 ((12, vI l.length) :: (11, .slice A l.length c) :: (10, vI j) :: (9, vI i) :: (8, .slice A l.length c) :: _) hA rfl fun a hA => st_val hA rfl rfl (by decide) (rn_slice_lhm tbOk hA i j l.length rfl rfl rfl rfl rfl rfl rfl rfl (by rfl) (by rfl) (by rfl) (by omega) (by omega) (by omega)) fun a hA => zn (zx (zs (zs (zr (zR 3 ((16, .bool (((i : Nat) : Int) == ((j : Nat) : Int))) :: (15, vI j) :: (14, vI i) :: _) hA rfl fun a hA => zn (zx ?_))))))))))))
 by_cases hc1 : ((i : Nat) : Int) = ((j : Nat) : Int)
 · first
   | (exfalso; omega)
   | (replace hA := hA.rw 16 (v' := yT) rfl (vb_eq_t hc1)
      refine cd_cond_t hA rfl (zs (zr (zR 2 ((6, .slice A l.length c) :: (17, .slice A l.length c) :: _) hA rfl fun a hA => zn (zx ?_))))
      refine wp_ret (xt_ret ?_)
      refine ret1 (fn := Tryz.f59) hA rfl rfl ?_
      have e0 : l.take i ++ l.drop j = l := by rw [show j = i by omega, List.take_append_drop]
      exact ⟨C, by rw [e0]; exact hO, hS⟩)
 · first
   | (exfalso; omega)
   | (replace hA := hA.rw 16 (v' := yF) rfl (vb_eq_f hc1)
      refine cd_cond_f hA rfl (zk (zx (zs (zr (zR 3 ((7, vI l.length) :: (19, vI l.length) :: (18, .slice A l.length c) :: _) hA rfl fun a hA => zn (zx (zs ?_)))))))
      refine zD1 hS [] [(0, true), (1, true), (2, true), (3, true), (4, true), (5, true), (6, false), (7, true)] mixed (by kernel_rfl) (by rintro c a w ⟨_, _, h, _⟩; cases h) (by rfl) (by kernel_rfl) ?_
      replace hS := hS.drew
      refine zW 2 ((21, vI i) :: (20, .slice A l.length c) :: _) hA (hS.tail 1 rfl) rfl fun a hA => dr_y hA rfl rfl rfl (by decide) (hS.tail 1 rfl) (fun w' hS' => rn_slice_h tbOk hA i rfl rfl rfl rfl rfl rfl (by rfl) (by omega)) fun a hA => zW 2 ((24, vI j) :: (23, .slice A l.length c) :: _) hA (hS.tail 1 rfl) rfl fun a hA => dr_y hA rfl rfl rfl (by decide) (hS.tail 1 rfl) (fun w' hS' => rn_slice_l tbOk hA j rfl rfl rfl rfl rfl rfl (by rfl) (by omega)) fun a hA => dr_b (o := _) rfl ?_
      refine st_append_rm tbOk hA (m := i) (q := ((l.take l.length).drop j).length) (c := c) (xs := (rows encPacket l).take (i * 6)) (news := rows encPacket ((l.take l.length).drop j)) rfl rfl rfl rfl rfl rfl rfl (hO.head i (by omega)) hS ((hO.rd (hS.own_ 0 rfl)).rslv encPacket_ok j l.length c (by omega) (by omega) (by omega) (by omega)) (rows_one encPacket_ok _) (by simp; omega) rfl rfl (by decide) ?_
      clear hA hS; intro w2 C3 a hO3 hS hA
      have e1 : i + ((l.take l.length).drop j).length = (l.take i ++ l.drop j).length := by simp; omega
      have e2 : (rows encPacket l).take (i * 6) ++ rows encPacket ((l.take l.length).drop j) = rows encPacket (l.take i ++ l.drop j) := by rw [rows_take encPacket_ok, rows_append, List.take_length]
      rw [e2, e1] at hO3
      rw [e1] at hA
      have e3 : (l.take i ++ l.drop j).length ≤ l.length := by simp; omega
      refine zi (hS.tail 1 rfl) (zW 1 ((0, .slice A ((l.take i ++ l.drop j).length) c) :: _) hA (hS.tail 1 rfl) rfl fun a hA => ze (zx (zs (zr (zR 4 ((30, vI l.length) :: (29, vI ((l.take i ++ l.drop j).length)) :: (28, .slice A ((l.take i ++ l.drop j).length) c) :: (27, .slice A ((l.take i ++ l.drop j).length) c) :: _) hA rfl fun a hA => st_val hA rfl rfl (by decide) (rn_slice_lh tbOk hA ((l.take i ++ l.drop j).length) l.length rfl rfl rfl rfl rfl rfl rfl (by rfl) (by rfl) (by omega) (by omega)) fun a hA => ?_)))))
      refine st_clear tbOk hA (h := (l.take i ++ l.drop j).length) (old := l.length) (c := c) rfl rfl rfl rfl rfl rfl (fun u hu => List.all_eq_true.1 (by rfl) u hu) hO3 hS (by omega) (by omega) rfl rfl ?_; clear hS; intro w4 C5 hO5 hS
      refine zn (zx (zs (zr (zR 2 ((6, .slice A ((l.take i ++ l.drop j).length) c) :: (32, .slice A ((l.take i ++ l.drop j).length) c) :: _) hA rfl fun a hA => zn (zx ?_)))))
      refine wp_ret ?_
      refine ret1 (fn := Tryz.f59) hA rfl rfl ?_
      exact ⟨_, hO5, hS⟩)
theorem copied86 {w0 w : World} {F : List Chunk} (hS : St w0 w F) (x0 x1 x2 x3 x4 : Int) {d : Value} {bs : List UInt8} (hd : RdSX w0 F 1 d bs.length (rows encB bs)) (hbl : bs.length ≤ 140737488351232) :
 Ret Tryz.prog 86 #[.agg #[.int .i64 x0, .int .i64 x1, .int .u64 x2, .int .i64 x3, .int .i64 x4, d]] w (fun v w' => ∃ A c C, Own 5 1 (.slice A bs.length c) bs.length (rows encB bs) C ∧ v = .agg #[.int .i64 x0, .int .i64 x1, .int .u64 x2, .int .i64 x3, .int .i64 x4, .slice A bs.length c] ∧ St w0 w' (C :: F)) := by
 obtain ⟨A, c, rfl, hmc, hcx⟩ := (hd w hS).open'
 refine enter (vs := [.agg #[.int .i64 x0, .int .i64 x1, .int .u64 x2, .int .i64 x3, .int .i64 x4, .slice A bs.length c]]) 8 Tryz.func86 rfl rfl (by simp) ?_; intro a hA
 refine zs (zr ?_)
 refine st_box hA hS [.int .i64 x0, .int .i64 x1, .int .u64 x2, .int .i64 x3, .int .i64 x4, .slice A bs.length c] rfl rfl rfl rfl rfl (by decide) fun b1 w2 a hS hA => ?_
 refine st_alloc tbOk hA hS [yI, yI, yU, yI, yI, yS] rfl rfl rfl rfl rfl (by decide) fun b3 w4 a hS hA => ?_
 refine zn (zx (zs (zr (zR 1 ((3, vP b1 5) :: _) hA rfl fun a hA => zL hA hS 1 rfl rfl rfl rfl rfl rfl rfl rfl rfl fun a hA => ?_))))
 replace hS := hS.nil
 refine st_append tbOk hA (m := 0) (q := bs.length) (xs := rows encB ([] : List UInt8)) (news := rows encB bs) rfl rfl rfl rfl rfl rfl rfl rfl (by decide) (Own.nil 5 1) hS ((hd _ (hS.tail 3 rfl))) (rows_one encB_ok _) (maxLen_le (by omega)) (by show (0 + bs.length) * 1 ≤ 140737488355328; omega) rfl rfl (by decide) ?_
 clear hA hS; intro v5 w6 C7 a hO7 hS hA
 replace hO7 := Own.app (l := ([] : List UInt8)) (l2 := bs) hO7
 replace hO7 : Own 5 1 v5 bs.length (rows encB bs) C7 := hO7
 obtain ⟨A8, c9, rfl, hmc9, hxc9⟩ := hO7.open'
 refine zR 1 ((6, vP b1 5) :: _) hA rfl fun a hA => ?_
 replace hS := hS.m2
 refine st_store tbOk hA hS [.slice A8 bs.length c9] [.int .i64 x0, .int .i64 x1, .int .u64 x2, .int .i64 x3, .int .i64 x4, .slice A8 bs.length c9] rfl rfl rfl rfl rfl rfl (by intro u hu; rw [List.mem_singleton.1 hu]; rfl) (zle rfl) rfl rfl rfl fun w10 hS => ?_
 refine zn (zx (zs (zr (zLA hA hS 0 [.int .i64 x0, .int .i64 x1, .int .u64 x2, .int .i64 x3, .int .i64 x4, .slice A8 bs.length c9] rfl rfl rfl rfl rfl rfl rfl rfl rfl rfl fun a hA => ?_))))
 replace hS := hS.m2
 refine st_store tbOk hA hS [.int .i64 x0, .int .i64 x1, .int .u64 x2, .int .i64 x3, .int .i64 x4, .slice A8 bs.length c9] [.int .i64 x0, .int .i64 x1, .int .u64 x2, .int .i64 x3, .int .i64 x4, .slice A8 bs.length c9] rfl rfl rfl rfl rfl rfl (zn1 rfl) (zle rfl) rfl rfl rfl fun w11 hS => ?_
 refine zn (zx ?_)
 refine wp_ret ?_
 refine retc1 tbOk (fn := Tryz.f86) (cs := [.int .i64 x0, .int .i64 x1, .int .u64 x2, .int .i64 x3, .int .i64 x4, .slice A8 bs.length c9]) hA rfl rfl rfl rfl rfl (cells_row (hS.heapAt 0 rfl) rfl) ?_
 replace hS := hS.d0.d0
 exact ⟨_, _, _, hO7, rfl, hS⟩
theorem send_ok57 {w0 w : World} {F : List Chunk} {L D : Chunk} {b : Nat} {ps : List Pkt} (hS : St w0 w (L :: D :: F)) (hM : WR b ps L) (x0 x1 x2 x3 x4 : Int) {d : Value} {bs : List UInt8} (hd : RdSX w0 (D :: F) 1 d bs.length (rows encB bs)) (hbl : bs.length ≤ 140737488351232) (hl : ps.length < 1024) :
 Ret Tryz.prog 57 #[vP b 0, .agg #[.int .i64 x0, .int .i64 x1, .int .u64 x2, .int .i64 x3, .int .i64 x4, d]] w (fun v w' => ∃ L' E A c, WR b (ps ++ [(x0, x1, x2, x3, x4, A, c, bs)]) L' ∧ DD w0 E A c bs ∧ v = yN ∧ St w0 w' (L' :: (E ++ D) :: F)) := by
 obtain ⟨v, C, hO, rfl⟩ := hM
 obtain ⟨A, c, rfl, hmc, hcx⟩ := hO.open'
 replace hS : St w0 w ([(b, rowO [.slice A ps.length c] 74)] :: C :: D :: F) := hS.split
 obtain ⟨B, d', rfl, hmd, hdx⟩ := (hd _ (hS.tail 2 rfl)).open'
 refine enter (vs := [vP b 0, .agg #[.int .i64 x0, .int .i64 x1, .int .u64 x2, .int .i64 x3, .int .i64 x4, .slice B bs.length d']]) 23 Tryz.func57 rfl rfl (by simp) ?_; intro a hA
 refine zs (zr ?_)
 refine st_box hA hS [.int .i64 x0, .int .i64 x1, .int .u64 x2, .int .i64 x3, .int .i64 x4, .slice B bs.length d'] rfl rfl rfl rfl rfl (by decide) fun b1 w2 a hS hA => ?_
 refine zR 1 ((4, yN) :: _) hA rfl fun a hA => zn (zx (zs (zs (zr (zR 3 ((7, vP b 0) :: (6, vP b 0) :: (5, vP b 0) :: _) hA rfl fun a hA => zL hA hS 1 rfl rfl rfl rfl rfl rfl rfl rfl rfl fun a hA => zR 2 ((10, .bool (decide (((ps.length : Nat) : Int) ≥ 1024))) :: (9, vI ps.length) :: _) hA rfl fun a hA => zn (zx ?_))))))
 have hc3 : ¬ (((ps.length : Nat) : Int) ≥ 1024) := by omega
 replace hA := hA.rw 10 (v' := yF) rfl (vb_false hc3)
 refine cd_cond_f hA rfl (zk (zx (zs ?_)))
 replace hS := hS.m2
 refine zD1 hS [11] [(0, true), (1, true), (2, true), (3, true), (4, true), (5, true), (6, false), (7, false), (8, false), (9, true), (10, true), (11, false)] mixed (by kernel_rfl) (by rintro c a w ⟨_, _, h, _⟩; cases h) (by rfl) (by kernel_rfl) ?_
 replace hS := hS.drew
 refine zW 4 ((15, vP b 0) :: (14, vP b 0) :: (13, vP b 0) :: (12, vP b 0) :: _) hA (hS.tail 1 rfl) rfl fun a hA => zY hA (hS.tail 1 rfl) 1 rfl rfl rfl rfl rfl rfl rfl rfl rfl rfl fun a hA => zYA hA (hS.tail 1 rfl) 0 [.int .i64 x0, .int .i64 x1, .int .u64 x2, .int .i64 x3, .int .i64 x4, .slice B bs.length d'] rfl rfl rfl rfl rfl rfl rfl rfl rfl rfl rfl fun a hA => dr_b (o := _) rfl ?_
 refine st_call0 hA rfl rfl rfl isfn86 rfl rfl (by decide) (copied86 hS x0 x1 x2 x3 x4 (bs := bs) (fun w' h => (hd _ (h.tail 3 rfl))) (by omega)) ?_
 clear hA hS; rintro _ w7 a ⟨A4, c5, C6, hOC6, rfl, hS⟩ hA
 refine zi (hS.tail 2 rfl) (dr_b (o := _) rfl ?_)
 refine st_buildSlice tbOk hA hS [.int .i64 x0, .int .i64 x1, .int .u64 x2, .int .i64 x3, .int .i64 x4, .slice A4 bs.length c5] rfl rfl rfl rfl rfl (by decide) (by kernel_rfl) rfl rfl (by decide) fun b8 w9 a hS hA => ?_
 refine zi (hS.tail 3 rfl) (dr_b (o := _) rfl ?_)
 replace hS := hS.m2
 refine st_append tbOk hA (m := ps.length) (q := 1) (xs := rows encPacket ps) (news := rows encPacket ([(x0, x1, x2, x3, x4, A4, c5, bs)] : List (Int × Int × Int × Int × Int × Option Addr × Nat × List UInt8))) rfl rfl rfl rfl rfl rfl rfl rfl (by decide) hO hS (((Own.full (T := 94) (size := 6) (g := b8) (m := 1) rfl (by decide)).rd (hS.own_ 1 rfl)).x) (rows_one encPacket_ok _) (maxLen_le (by first | omega | (simp; omega))) (by show (ps.length + 1) * 64 ≤ 140737488355328; first | omega | (simp; omega)) rfl rfl (by decide) ?_
 clear hA hS; intro v10 w11 C12 a hO12 hS hA
 replace hO12 := Own.app (l := ps) (l2 := ([(x0, x1, x2, x3, x4, A4, c5, bs)] : List (Int × Int × Int × Int × Int × Option Addr × Nat × List UInt8))) hO12
 obtain ⟨A13, c14, rfl, hmc14, hxc14⟩ := hO12.open'
 refine zi (hS.tail 3 rfl) (zW 2 ((22, vP b 0) :: (21, vP b 0) :: _) hA (hS.tail 3 rfl) rfl fun a hA => dr_b (o := _) rfl ?_)
 replace hS := hS.m4
 refine st_store tbOk hA hS [.slice A13 ((ps ++ ([(x0, x1, x2, x3, x4, A4, c5, bs)] : List (Int × Int × Int × Int × Int × Option Addr × Nat × List UInt8))).length) c14] [.slice A13 ((ps ++ ([(x0, x1, x2, x3, x4, A4, c5, bs)] : List (Int × Int × Int × Int × Int × Option Addr × Nat × List UInt8))).length) c14] rfl rfl rfl rfl rfl rfl (by intro u hu; rw [List.mem_singleton.1 hu]; rfl) (zle rfl) rfl rfl rfl fun w15 hS => ?_
 refine dr_nil (.inl (by decide)) (ze (zx (zs (zr (zR 1 ((4, yN) :: _) hA rfl fun a hA => zn (zx ?_))))))
 refine wp_ret ?_
 refine ret1 (fn := Tryz.f57) hA rfl rfl ?_
 replace hS := hS.m2.d0.m3.d0.m1.m1.m3.m3
 replace hS := hS.join
 replace hS := hS.m2.m2
 replace hS := hS.join
 exact ⟨_, _, _, _, ⟨_, _, hO12, rfl⟩, DD.new hOC6, rfl, hS⟩
theorem turn_round (p : Int) (n : Nat) (h : 0 < n) : ∃ k : Nat, k < n ∧ (k : Int) = p % (n : Int) ∧ (p.tmod n < 0 → p.tmod n + n = (k : Int)) ∧ (¬ p.tmod n < 0 → p.tmod n = (k : Int)) := by
  have h0 : (0 : Int) < n := by omega
  have h1 := Int.emod_nonneg p (b := (n : Int)) (by omega)
  have h2 := Int.emod_lt_of_pos p h0
  refine ⟨(p % (n : Int)).toNat, by omega, by omega, fun hn => ?_, fun hn => ?_⟩
  · have h3 := Int.tmod_lt_of_pos p h0
    have h4 := Int.tmod_add_mul_tdiv p n
    have h5 : (p.tmod n + n) % (n : Int) = p % n := by
      rw [Int.add_emod_right]
      conv => rhs; rw [← h4, Int.add_mul_emod_self_left]
    have h6 : -(n : Int) < p.tmod n := by
      have := Int.lt_tmod_of_pos p h0
      omega
    rw [Int.emod_eq_of_lt (by omega) (by omega)] at h5
    omega
  · have h3 := Int.tmod_lt_of_pos p h0
    have h4 := Int.tmod_add_mul_tdiv p n
    have h5 : (p.tmod n) % (n : Int) = p % n := by
      conv => rhs; rw [← h4, Int.add_mul_emod_self_left]
    rw [Int.emod_eq_of_lt (by omega) (by omega)] at h5
    omega
theorem place58 {w0 w : World} {F : List Chunk} {b n c : Nat} {A : Option Addr} (hS : St w0 w ([(b, rowO [.slice A n c] 74)] :: F)) (p : Int) (h0 : 0 < n) (hn : n ≤ 1048576) :
 Ret Tryz.prog 58 #[vP b 0, .int .i64 p] w (fun v w' => ∃ k : Nat, k < n ∧ (k : Int) = p % (n : Int) ∧ v = vI k ∧ St w0 w' ([(b, rowO [.slice A n c] 74)] :: F)) := by
 obtain ⟨k, hk, hkp, hk1, hk2⟩ := turn_round p n h0
 refine enter (vs := [vP b 0, .int .i64 p]) 23 Tryz.func58 rfl rfl (by simp) ?_; intro a hA
 refine zs (zr (zR 1 ((4, yI) :: _) hA rfl fun a hA => zn (zx (zs (zr (zR 4 ((9, vP b 0) :: (8, vP b 0) :: (7, vP b 0) :: (6, .int .i64 p) :: _) hA rfl fun a hA => zL hA hS 0 rfl rfl rfl rfl rfl rfl rfl rfl rfl fun a hA => zR 1 ((11, vI n) :: _) hA rfl fun a hA => st_val hA rfl rfl (by decide) (rn_rem hA rfl rfl rfl (by omega)) fun a hA => zR 1 ((5, .int .i64 (p.tmod ((n : Nat) : Int))) :: _) hA rfl fun a hA => zn (zx (zs (zs (zr (zR 2 ((14, .bool (decide (p.tmod ((n : Nat) : Int) < 0))) :: (13, .int .i64 (p.tmod ((n : Nat) : Int))) :: _) hA rfl fun a hA => zn (zx ?_))))))))))))
 by_cases hc1 : p.tmod ((n : Nat) : Int) < 0
 · first
   | (exfalso; omega)
   | (replace hA := hA.rw 14 (v' := yT) rfl (vb_true hc1)
      refine cd_cond_t hA rfl (zr (zR 4 ((18, vP b 0) :: (17, vP b 0) :: (16, vP b 0) :: (15, .int .i64 (p.tmod ((n : Nat) : Int))) :: _) hA rfl fun a hA => zL hA hS 0 rfl rfl rfl rfl rfl rfl rfl rfl rfl fun a hA => zR 2 ((21, .int .i64 (IntKind.i64.wrap ((p.tmod ((n : Nat) : Int)) + ((n : Nat) : Int)))) :: (20, vI n) :: _) hA rfl fun a hA => ?_))
      replace hA := hA.rw 21 (v' := .int .i64 ((p.tmod ((n : Nat) : Int)) + ((n : Nat) : Int))) rfl (wr64 (by omega) (by omega) (by omega))
      refine zR 1 ((5, .int .i64 ((p.tmod ((n : Nat) : Int)) + ((n : Nat) : Int))) :: _) hA rfl fun a hA => zn (zx (zs (zr (zR 1 ((22, .int .i64 ((p.tmod ((n : Nat) : Int)) + ((n : Nat) : Int))) :: _) hA rfl fun a hA => ?_))))
      replace hA := hA.rw 22 (v' := vI k) rfl (vint (by first | exact hk2 (by omega) | exact hk1 (by omega)))
      refine zR 1 ((4, vI k) :: _) hA rfl fun a hA => zn (zx ?_)
      refine wp_ret ?_
      refine ret1 (fn := Tryz.f58) hA rfl rfl ?_
      exact ⟨k, hk, hkp, rfl, hS⟩)
 · first
   | (exfalso; omega)
   | (replace hA := hA.rw 14 (v' := yF) rfl (vb_false hc1)
      refine cd_cond_f hA rfl (zk (zx (zs (zr (zR 1 ((22, .int .i64 (p.tmod ((n : Nat) : Int))) :: _) hA rfl fun a hA => ?_)))))
      replace hA := hA.rw 22 (v' := vI k) rfl (vint (by first | exact hk2 (by omega) | exact hk1 (by omega)))
      refine zR 1 ((4, vI k) :: _) hA rfl fun a hA => zn (zx ?_)
      refine wp_ret ?_
      refine ret1 (fn := Tryz.f58) hA rfl rfl ?_
      exact ⟨k, hk, hkp, rfl, hS⟩)
theorem arrive_ok37 {w0 w : World} {F : List Chunk} {L D : Chunk} {b : Nat} {ps : List Pkt} (hS : St w0 w (L :: D :: F)) (hM : WR b ps L) (p : Int) (h0 : 0 < ps.length) (hn : ps.length ≤ 1048576) :
 Ret Tryz.prog 37 #[vP b 0, .int .i64 p] w (fun v w' => ∃ (k : Nat) (x : Pkt), k < ps.length ∧ (k : Int) = p % (ps.length : Int) ∧ ps[k]? = some x ∧ ∃ L', WR b (ps.take k ++ ps.drop (k + 1)) L' ∧ v = .tuple #[.agg (encPacket x).toArray, yT] ∧ St w0 w' (L' :: D :: F)) := by
 obtain ⟨v, C, hO, rfl⟩ := hM
 obtain ⟨A, c, rfl, hmc, hcx⟩ := hO.open'
 replace hS : St w0 w ([(b, rowO [.slice A ps.length c] 74)] :: C :: D :: F) := hS.split
 refine enter (vs := [vP b 0, .int .i64 p]) 37 Tryz.func37 rfl rfl (by simp) ?_; intro a hA
 refine zs (zr ?_)
 refine st_alloc tbOk hA hS [yI, yI, yU, yI, yI, yS] rfl rfl rfl rfl rfl (by decide) fun b1 w2 a hS hA => ?_
 refine zR 1 ((5, yF) :: _) hA rfl fun a hA => zn (zx (zs (zs (zr (zR 3 ((10, vP b 0) :: (9, vP b 0) :: (8, vP b 0) :: _) hA rfl fun a hA => zL hA hS 1 rfl rfl rfl rfl rfl rfl rfl rfl rfl fun a hA => zR 2 ((13, .bool (((ps.length : Nat) : Int) == 0)) :: (12, vI ps.length) :: _) hA rfl fun a hA => zn (zx ?_))))))
 have hc3 : ¬ (((ps.length : Nat) : Int) = 0) := by omega
 replace hA := hA.rw 13 (v' := yF) rfl (vb_eq_f hc3)
 refine cd_cond_f hA rfl (zk (zx (zs (zr (zR 2 ((16, .int .i64 p) :: (15, vP b 0) :: _) hA rfl fun a hA => ?_)))))
 replace hS := hS.m1
 refine st_call0 hA rfl rfl rfl isfn58 rfl rfl (by decide) (place58 hS p h0 (by omega)) ?_
 clear hA hS; rintro _ w4 a ⟨k, hk, hkp, rfl, hS⟩ hA
 refine zR 1 ((6, vI k) :: _) hA rfl fun a hA => zn (zx (zs (zr (zR 3 ((20, vP b 0) :: (19, vP b 0) :: (18, vP b 0) :: _) hA rfl fun a hA => zL hA hS 0 rfl rfl rfl rfl rfl rfl rfl rfl rfl fun a hA => zR 1 ((22, vI k) :: _) hA rfl fun a hA => ?_))))
 obtain ⟨b5, o6, rfl⟩ := hO.isSome (k := k) (by omega)
 refine st_val hA rfl rfl (by decide) (rn_indexAddr tbOk hA k (o6 + (k * 6)) rfl rfl rfl rfl rfl rfl (by rfl) (by omega) (by first | rfl | simp [Nat.mul_one, Nat.zero_add] | omega)) fun a hA => ?_
 obtain ⟨x7, hx7⟩ := get_ex (l := ps) (k := k) (by omega)
 obtain ⟨x7f0, x7f1, x7f2, x7f3, x7f4, x7A5, x7c5, x7b5⟩ := x7
 refine st_val hA rfl rfl (by decide) (rn_loadA tbOk hA ([.int .i64 x7f0, .int .i64 x7f1, .int .u64 x7f2, .int .i64 x7f3, .int .i64 x7f4, .slice x7A5 x7b5.length x7c5]) rfl rfl rfl rfl (by rfl) ((hO.rd (hS.own_ 2 rfl)).elem (k := k) encPacket_ok hx7)) fun a hA => ?_
 refine st_alloc tbOk hA hS [yI, yI, yU, yI, yI, yS] rfl rfl rfl rfl rfl (by decide) fun b8 w9 a hS hA => ?_
 refine st_store tbOk hA hS [.int .i64 x7f0, .int .i64 x7f1, .int .u64 x7f2, .int .i64 x7f3, .int .i64 x7f4, .slice x7A5 x7b5.length x7c5] [.int .i64 x7f0, .int .i64 x7f1, .int .u64 x7f2, .int .i64 x7f3, .int .i64 x7f4, .slice x7A5 x7b5.length x7c5] rfl rfl rfl rfl rfl rfl (zn1 rfl) (zle rfl) rfl rfl rfl fun w10 hS => ?_
 refine zn (zx (zs (zr (zR 4 ((28, vP b 0) :: (27, vP b 0) :: (26, vP b 0) :: (25, vP b 0) :: _) hA rfl fun a hA => zL hA hS 1 rfl rfl rfl rfl rfl rfl rfl rfl rfl fun a hA => zR 3 ((32, .int .i64 (IntKind.i64.wrap (((k : Nat) : Int) + 1))) :: (31, vI k) :: (30, vI k) :: _) hA rfl fun a hA => ?_))))
 replace hA := hA.rw 32 (v' := vI (k + 1)) rfl (wr64 (by omega) (by omega) (by omega))
 replace hS := hS.m3
 refine st_call0 hA rfl rfl rfl isfn59 rfl rfl (by decide) (delete59 hS hO k (k + 1) (by omega) (by omega)) ?_
 clear hA hS; rintro v11 w12 a ⟨C13, hO13, hS⟩ hA
 obtain ⟨A14, c15, rfl, hmc15, hxc15⟩ := hO13.open'
 refine zR 2 ((35, vP b 0) :: (34, vP b 0) :: _) hA rfl fun a hA => ?_
 replace hS := hS.m2
 refine st_store tbOk hA hS [.slice A14 ((ps.take k ++ ps.drop (k + 1)).length) c15] [.slice A14 ((ps.take k ++ ps.drop (k + 1)).length) c15] rfl rfl rfl rfl rfl rfl (by intro u hu; rw [List.mem_singleton.1 hu]; rfl) (zle rfl) rfl rfl rfl fun w16 hS => ?_
 refine zn (zx (zs (zr (zLA hA hS 2 [.int .i64 x7f0, .int .i64 x7f1, .int .u64 x7f2, .int .i64 x7f3, .int .i64 x7f4, .slice x7A5 x7b5.length x7c5] rfl rfl rfl rfl rfl rfl rfl rfl rfl rfl fun a hA => ?_))))
 replace hS := hS.m3
 refine st_store tbOk hA hS [.int .i64 x7f0, .int .i64 x7f1, .int .u64 x7f2, .int .i64 x7f3, .int .i64 x7f4, .slice x7A5 x7b5.length x7c5] [.int .i64 x7f0, .int .i64 x7f1, .int .u64 x7f2, .int .i64 x7f3, .int .i64 x7f4, .slice x7A5 x7b5.length x7c5] rfl rfl rfl rfl rfl rfl (zn1 rfl) (zle rfl) rfl rfl rfl fun w17 hS => ?_
 refine zR 1 ((5, yT) :: _) hA rfl fun a hA => zn (zx ?_)
 refine wp_ret ?_
 refine retc2 tbOk (fn := Tryz.f37) (cs := [.int .i64 x7f0, .int .i64 x7f1, .int .u64 x7f2, .int .i64 x7f3, .int .i64 x7f4, .slice x7A5 x7b5.length x7c5]) hA rfl rfl rfl rfl rfl rfl (cells_row (hS.heapAt 0 rfl) rfl) ?_
 replace hS := hS.d0.m2.d0.m1.m1.m2.m2.m2
 replace hS := hS.join
 exact ⟨k, _, hk, hkp, hx7, _, ⟨_, _, hO13, rfl⟩, rfl, hS⟩
theorem arrive_none37 {w0 w : World} {F : List Chunk} {L D : Chunk} {b : Nat} {ps : List Pkt} (hS : St w0 w (L :: D :: F)) (hM : WR b ps L) (p : Int) (h0 : ps.length = 0) :
 Ret Tryz.prog 37 #[vP b 0, .int .i64 p] w (fun v w' => ∃ L', WR b ps L' ∧ v = .tuple #[.agg #[yI, yI, yU, yI, yI, yS], yF] ∧ St w0 w' (L' :: D :: F)) := by
 obtain ⟨v, C, hO, rfl⟩ := hM
 obtain ⟨A, c, rfl, hmc, hcx⟩ := hO.open'
 replace hS : St w0 w ([(b, rowO [.slice A ps.length c] 74)] :: C :: D :: F) := hS.split
 refine enter (vs := [vP b 0, .int .i64 p]) 37 Tryz.func37 rfl rfl (by simp) ?_; intro a hA
 refine zs (zr ?_)
 refine st_alloc tbOk hA hS [yI, yI, yU, yI, yI, yS] rfl rfl rfl rfl rfl (by decide) fun b1 w2 a hS hA => ?_
 refine zR 1 ((5, yF) :: _) hA rfl fun a hA => zn (zx (zs (zs (zr (zR 3 ((10, vP b 0) :: (9, vP b 0) :: (8, vP b 0) :: _) hA rfl fun a hA => zL hA hS 1 rfl rfl rfl rfl rfl rfl rfl rfl rfl fun a hA => zR 2 ((13, .bool (((ps.length : Nat) : Int) == 0)) :: (12, vI ps.length) :: _) hA rfl fun a hA => zn (zx ?_))))))
 have hc3 : ((ps.length : Nat) : Int) = 0 := by omega
 replace hA := hA.rw 13 (v' := yT) rfl (vb_eq_t hc3)
 refine cd_cond_t hA rfl (zs (zr (zR 1 ((14, .agg #[yI, yI, yU, yI, yI, yS]) :: _) hA rfl fun a hA => ?_)))
 refine st_store tbOk hA hS [yI, yI, yU, yI, yI, yS] [yI, yI, yU, yI, yI, yS] rfl rfl rfl rfl rfl rfl (zn1 rfl) (zle rfl) rfl rfl rfl fun w4 hS => ?_
 refine zR 1 ((5, yF) :: _) hA rfl fun a hA => zn (zx ?_)
 refine wp_ret (xt_ret ?_)
 refine retc2 tbOk (fn := Tryz.f37) (cs := [yI, yI, yU, yI, yI, yS]) hA rfl rfl rfl rfl rfl rfl (cells_row (hS.heapAt 0 rfl) rfl) ?_
 replace hS := hS.d0.m1.m1.m2.m2.m2
 replace hS := hS.join
 exact ⟨_, ⟨_, _, hO, rfl⟩, rfl, hS⟩
end Go.Proofs.YthiakdmhpfkjbaaGreatDoor

set_option linter.unusedVariables false
set_option linter.unusedSimpArgs false
set_option maxRecDepth 4000
namespace Go.Proofs.YthiakdmhpfkjbaaGreatDoor
open Go Go.SK
def encMessage (x : Int × Int × Int × Int × Int × Int × Int × Int × Int × Int × Option Addr × Nat × List UInt8) : List Value := [.int .u64 x.1, .int .u64 x.2.1, .int .u32 x.2.2.1, .int .u16 x.2.2.2.1, .int .u16 x.2.2.2.2.1, .int .u64 x.2.2.2.2.2.1, .int .u32 x.2.2.2.2.2.2.1, .int .u8 x.2.2.2.2.2.2.2.1, .int .u64 x.2.2.2.2.2.2.2.2.1, .int .u64 x.2.2.2.2.2.2.2.2.2.1, .slice x.2.2.2.2.2.2.2.2.2.2.1 x.2.2.2.2.2.2.2.2.2.2.2.2.length x.2.2.2.2.2.2.2.2.2.2.2.1]
theorem encMessage_ok : Enc encMessage 11 := ⟨fun _ => rfl, fun x u hu => by simp only [encMessage, List.mem_cons, List.not_mem_nil, or_false] at hu; rcases hu with rfl | rfl | rfl | rfl | rfl | rfl | rfl | rfl | rfl | rfl | rfl <;> rfl⟩
def encMessage_dd (w0 : World) (D : Chunk) (x : Int × Int × Int × Int × Int × Int × Int × Int × Int × Int × Option Addr × Nat × List UInt8) : Prop := DD w0 D x.2.2.2.2.2.2.2.2.2.2.1 x.2.2.2.2.2.2.2.2.2.2.2.1 x.2.2.2.2.2.2.2.2.2.2.2.2
theorem encMessage_left {w0 : World} {D E : Chunk} {x : Int × Int × Int × Int × Int × Int × Int × Int × Int × Int × Option Addr × Nat × List UInt8} (h : encMessage_dd w0 D x) : encMessage_dd w0 (E ++ D) x := DD.left h
def encCall (x : Int × Int × Int × Int × Int × Int × Int × Int × Int × Int × Option Addr × Nat × List UInt8 × Int × Int × Int × Int × Int × Int × Int × Int × Int × Int × Int × Int × Int × Option Addr × Nat × List UInt8) : List Value := [.int .u64 x.1, .int .u64 x.2.1, .int .u32 x.2.2.1, .int .u16 x.2.2.2.1, .int .u16 x.2.2.2.2.1, .int .u64 x.2.2.2.2.2.1, .int .u32 x.2.2.2.2.2.2.1, .int .u8 x.2.2.2.2.2.2.2.1, .int .u64 x.2.2.2.2.2.2.2.2.1, .int .u64 x.2.2.2.2.2.2.2.2.2.1, .slice x.2.2.2.2.2.2.2.2.2.2.1 x.2.2.2.2.2.2.2.2.2.2.2.2.1.length x.2.2.2.2.2.2.2.2.2.2.2.1, .int .i64 x.2.2.2.2.2.2.2.2.2.2.2.2.2.1, .int .i64 x.2.2.2.2.2.2.2.2.2.2.2.2.2.2.1, .int .i64 x.2.2.2.2.2.2.2.2.2.2.2.2.2.2.2.1, .int .u64 x.2.2.2.2.2.2.2.2.2.2.2.2.2.2.2.2.1, .int .u64 x.2.2.2.2.2.2.2.2.2.2.2.2.2.2.2.2.2.1, .int .u32 x.2.2.2.2.2.2.2.2.2.2.2.2.2.2.2.2.2.2.1, .int .u16 x.2.2.2.2.2.2.2.2.2.2.2.2.2.2.2.2.2.2.2.1, .int .u16 x.2.2.2.2.2.2.2.2.2.2.2.2.2.2.2.2.2.2.2.2.1, .int .u64 x.2.2.2.2.2.2.2.2.2.2.2.2.2.2.2.2.2.2.2.2.2.1, .int .u32 x.2.2.2.2.2.2.2.2.2.2.2.2.2.2.2.2.2.2.2.2.2.2.1, .int .u8 x.2.2.2.2.2.2.2.2.2.2.2.2.2.2.2.2.2.2.2.2.2.2.2.1, .int .u64 x.2.2.2.2.2.2.2.2.2.2.2.2.2.2.2.2.2.2.2.2.2.2.2.2.1, .int .u64 x.2.2.2.2.2.2.2.2.2.2.2.2.2.2.2.2.2.2.2.2.2.2.2.2.2.1, .slice x.2.2.2.2.2.2.2.2.2.2.2.2.2.2.2.2.2.2.2.2.2.2.2.2.2.2.1 x.2.2.2.2.2.2.2.2.2.2.2.2.2.2.2.2.2.2.2.2.2.2.2.2.2.2.2.2.length x.2.2.2.2.2.2.2.2.2.2.2.2.2.2.2.2.2.2.2.2.2.2.2.2.2.2.2.1]
theorem encCall_ok : Enc encCall 25 := ⟨fun _ => rfl, fun x u hu => by simp only [encCall, List.mem_cons, List.not_mem_nil, or_false] at hu; rcases hu with rfl | rfl | rfl | rfl | rfl | rfl | rfl | rfl | rfl | rfl | rfl | rfl | rfl | rfl | rfl | rfl | rfl | rfl | rfl | rfl | rfl | rfl | rfl | rfl | rfl <;> rfl⟩
def encCall_dd (w0 : World) (D : Chunk) (x : Int × Int × Int × Int × Int × Int × Int × Int × Int × Int × Option Addr × Nat × List UInt8 × Int × Int × Int × Int × Int × Int × Int × Int × Int × Int × Int × Int × Int × Option Addr × Nat × List UInt8) : Prop := DD w0 D x.2.2.2.2.2.2.2.2.2.2.1 x.2.2.2.2.2.2.2.2.2.2.2.1 x.2.2.2.2.2.2.2.2.2.2.2.2.1 ∧ DD w0 D x.2.2.2.2.2.2.2.2.2.2.2.2.2.2.2.2.2.2.2.2.2.2.2.2.2.2.1 x.2.2.2.2.2.2.2.2.2.2.2.2.2.2.2.2.2.2.2.2.2.2.2.2.2.2.2.1 x.2.2.2.2.2.2.2.2.2.2.2.2.2.2.2.2.2.2.2.2.2.2.2.2.2.2.2.2
theorem encCall_left {w0 : World} {D E : Chunk} {x : Int × Int × Int × Int × Int × Int × Int × Int × Int × Int × Option Addr × Nat × List UInt8 × Int × Int × Int × Int × Int × Int × Int × Int × Int × Int × Int × Int × Int × Option Addr × Nat × List UInt8} (h : encCall_dd w0 D x) : encCall_dd w0 (E ++ D) x := ⟨h.1.left, h.2.left⟩
theorem encCall_lefts {w0 : World} {D E : Chunk} {l : List (Int × Int × Int × Int × Int × Int × Int × Int × Int × Int × Option Addr × Nat × List UInt8 × Int × Int × Int × Int × Int × Int × Int × Int × Int × Int × Int × Int × Int × Option Addr × Nat × List UInt8)} (h : ∀ x ∈ l, encCall_dd w0 D x) : ∀ x ∈ l, encCall_dd w0 (E ++ D) x := fun x hx => encCall_left (h x hx)
abbrev Msg := Int × Int × Int × Int × Int × Int × Int × Int × Int × Int × Option Addr × Nat × List UInt8
def mdat (x : Msg) : List UInt8 := x.2.2.2.2.2.2.2.2.2.2.2.2
theorem elemp {α : Type} {enc : α → List Value} {size : Nat} {w : World} {m c : Nat} {l : List α} {b off : Nat} (he : Enc enc size) (h : Rd w size (.slice (some ⟨b, off, none⟩) m c) m (rows enc l)) {k : Nat} {x : α} (hx : l[k]? = some x) {j n : Nat} {sub : List Value} (hs : ((enc x).drop j).take n = sub) :
    ∀ i u, sub[i]? = some u → w.cell? ⟨b, off + k * size + j + i, none⟩ = some u := fun i u hu => by
  subst hs
  rw [List.getElem?_take] at hu
  split at hu
  · rw [List.getElem?_drop] at hu
    have := h.elem he hx (j + i) u hu
    rwa [show off + k * size + (j + i) = off + k * size + j + i by omega] at this
  · cases hu
abbrev Call := Int × Int × Int × Int × Int × Int × Int × Int × Int × Int × Option Addr × Nat × List UInt8 × Int × Int × Int × Int × Int × Int × Int × Int × Int × Int × Int × Int × Int × Option Addr × Nat × List UInt8
def mst (x : Msg) : Int × Int × Int × Int × Int × Int × Int × Int × Int × Int × List UInt8 := (x.1, x.2.1, x.2.2.1, x.2.2.2.1, x.2.2.2.2.1, x.2.2.2.2.2.1, x.2.2.2.2.2.2.1, x.2.2.2.2.2.2.2.1, x.2.2.2.2.2.2.2.2.1, x.2.2.2.2.2.2.2.2.2.1, mdat x)
def rq (x : Call) : Msg := (x.1, x.2.1, x.2.2.1, x.2.2.2.1, x.2.2.2.2.1, x.2.2.2.2.2.1, x.2.2.2.2.2.2.1, x.2.2.2.2.2.2.2.1, x.2.2.2.2.2.2.2.2.1, x.2.2.2.2.2.2.2.2.2.1, x.2.2.2.2.2.2.2.2.2.2.1, x.2.2.2.2.2.2.2.2.2.2.2.1, x.2.2.2.2.2.2.2.2.2.2.2.2.1)
def rp (x : Call) : Msg := (x.2.2.2.2.2.2.2.2.2.2.2.2.2.2.2.2.1, x.2.2.2.2.2.2.2.2.2.2.2.2.2.2.2.2.2.1, x.2.2.2.2.2.2.2.2.2.2.2.2.2.2.2.2.2.2.1, x.2.2.2.2.2.2.2.2.2.2.2.2.2.2.2.2.2.2.2.1, x.2.2.2.2.2.2.2.2.2.2.2.2.2.2.2.2.2.2.2.2.1, x.2.2.2.2.2.2.2.2.2.2.2.2.2.2.2.2.2.2.2.2.2.1, x.2.2.2.2.2.2.2.2.2.2.2.2.2.2.2.2.2.2.2.2.2.2.1, x.2.2.2.2.2.2.2.2.2.2.2.2.2.2.2.2.2.2.2.2.2.2.2.1, x.2.2.2.2.2.2.2.2.2.2.2.2.2.2.2.2.2.2.2.2.2.2.2.2.1, x.2.2.2.2.2.2.2.2.2.2.2.2.2.2.2.2.2.2.2.2.2.2.2.2.2.1, x.2.2.2.2.2.2.2.2.2.2.2.2.2.2.2.2.2.2.2.2.2.2.2.2.2.2.1, x.2.2.2.2.2.2.2.2.2.2.2.2.2.2.2.2.2.2.2.2.2.2.2.2.2.2.2.1, x.2.2.2.2.2.2.2.2.2.2.2.2.2.2.2.2.2.2.2.2.2.2.2.2.2.2.2.2)
def cst (x : Call) : Int := x.2.2.2.2.2.2.2.2.2.2.2.2.2.1
def ctr (x : Call) : Int := x.2.2.2.2.2.2.2.2.2.2.2.2.2.2.1
def clf (x : Call) : Int := x.2.2.2.2.2.2.2.2.2.2.2.2.2.2.2.1
def mkc (q : Msg) (s t l : Int) (r : Msg) : Call := (q.1, q.2.1, q.2.2.1, q.2.2.2.1, q.2.2.2.2.1, q.2.2.2.2.2.1, q.2.2.2.2.2.2.1, q.2.2.2.2.2.2.2.1, q.2.2.2.2.2.2.2.2.1, q.2.2.2.2.2.2.2.2.2.1, q.2.2.2.2.2.2.2.2.2.2.1, q.2.2.2.2.2.2.2.2.2.2.2.1, q.2.2.2.2.2.2.2.2.2.2.2.2, s, t, l, r.1, r.2.1, r.2.2.1, r.2.2.2.1, r.2.2.2.2.1, r.2.2.2.2.2.1, r.2.2.2.2.2.2.1, r.2.2.2.2.2.2.2.1, r.2.2.2.2.2.2.2.2.1, r.2.2.2.2.2.2.2.2.2.1, r.2.2.2.2.2.2.2.2.2.2.1, r.2.2.2.2.2.2.2.2.2.2.2.1, r.2.2.2.2.2.2.2.2.2.2.2.2)
def tick1 (wt tr : Int) (x : Call) : Call := if cst x = 1 then (if clf x - 1 > 0 then mkc (rq x) (cst x) (ctr x) (clf x - 1) (rp x) else if ctr x = tr then mkc (rq x) 3 (ctr x) (clf x - 1) (rp x) else mkc (rq x) (cst x) (ctr x + 1) wt (rp x)) else x
def again1 (tr : Int) (x : Call) : Bool := decide (cst x = 1 ∧ ¬ clf x - 1 > 0 ∧ ¬ ctr x = tr)
theorem tick_n {wt tr : Int} {x : Call} (h : ¬ cst x = 1) : tick1 wt tr x = x := by rw [tick1, if_neg h]
theorem tick_a {wt tr : Int} {x : Call} (h : cst x = 1) (h2 : clf x - 1 > 0) : tick1 wt tr x = mkc (rq x) (cst x) (ctr x) (clf x - 1) (rp x) := by rw [tick1, if_pos h, if_pos h2]
theorem tick_b {wt tr : Int} {x : Call} (h : cst x = 1) (h2 : ¬ clf x - 1 > 0) (h3 : ctr x = tr) : tick1 wt tr x = mkc (rq x) 3 (ctr x) (clf x - 1) (rp x) := by rw [tick1, if_pos h, if_neg h2, if_pos h3]
theorem tick_c {wt tr : Int} {x : Call} (h : cst x = 1) (h2 : ¬ clf x - 1 > 0) (h3 : ¬ ctr x = tr) : tick1 wt tr x = mkc (rq x) (cst x) (ctr x + 1) wt (rp x) := by rw [tick1, if_pos h, if_neg h2, if_neg h3]
theorem ag_n {tr : Int} {x : Call} (h : ¬ (cst x = 1 ∧ ¬ clf x - 1 > 0 ∧ ¬ ctr x = tr)) : again1 tr x = false := decide_eq_false h
theorem ag_y {tr : Int} {x : Call} (h : cst x = 1) (h2 : ¬ clf x - 1 > 0) (h3 : ¬ ctr x = tr) : again1 tr x = true := decide_eq_true ⟨h, h2, h3⟩
def tkl (wt tr : Int) (cs : List Call) (j : Nat) : List Call := (cs.take j).map (tick1 wt tr) ++ cs.drop j
theorem tkl_zero (wt tr : Int) (cs : List Call) : tkl wt tr cs 0 = cs := by simp [tkl]
theorem tkl_all (wt tr : Int) (cs : List Call) : tkl wt tr cs cs.length = cs.map (tick1 wt tr) := by simp [tkl]
theorem tkl_len (wt tr : Int) (cs : List Call) (j : Nat) : (tkl wt tr cs j).length = cs.length := by
  simp only [tkl, List.length_append, List.length_map, List.length_take, List.length_drop]; omega
theorem tkl_at {wt tr : Int} {cs : List Call} {j : Nat} {x : Call} (h : cs[j]? = some x) : (tkl wt tr cs j)[j]? = some x := by
  have hj := (List.getElem?_eq_some_iff.1 h).1
  rw [tkl, List.getElem?_append_right (by rw [List.length_map, List.length_take]; omega), List.length_map, List.length_take, List.getElem?_drop, show j + (j - min j cs.length) = j by omega]
  exact h
theorem tkl_step {wt tr : Int} {cs : List Call} {j : Nat} {x y : Call} (h : cs[j]? = some x) (hy : tick1 wt tr x = y) : (tkl wt tr cs j).set j y = tkl wt tr cs (j + 1) := by
  have hj := (List.getElem?_eq_some_iff.1 h).1
  subst hy
  apply List.ext_getElem?
  intro i
  rw [List.getElem?_set]
  split
  · rename_i e; subst e
    rw [if_pos (by rw [tkl_len]; omega), tkl, List.getElem?_append_left (by rw [List.length_map, List.length_take]; omega), List.getElem?_map, List.getElem?_take_of_lt (by omega), h]; rfl
  · rename_i e
    by_cases hi : i < j
    · rw [tkl, tkl, List.getElem?_append_left (by rw [List.length_map, List.length_take]; omega), List.getElem?_append_left (by rw [List.length_map, List.length_take]; omega), List.getElem?_map, List.getElem?_map, List.getElem?_take_of_lt (by omega), List.getElem?_take_of_lt (by omega)]
    · rw [tkl, tkl, List.getElem?_append_right (by rw [List.length_map, List.length_take]; omega), List.getElem?_append_right (by rw [List.length_map, List.length_take]; omega), List.length_map, List.length_map, List.length_take, List.length_take, List.getElem?_drop, List.getElem?_drop]
      congr 1; omega
theorem tkl_same {wt tr : Int} {cs : List Call} {j : Nat} {x : Call} (h : cs[j]? = some x) (hy : tick1 wt tr x = x) : tkl wt tr cs j = tkl wt tr cs (j + 1) := by
  rw [← tkl_step h hy]
  have hj := (List.getElem?_eq_some_iff.1 (tkl_at (wt := wt) (tr := tr) h)).1
  apply List.ext_getElem?
  intro i
  rw [List.getElem?_set]
  split
  · rename_i e; subst e; first | exact tkl_at h | (rw [if_pos hj]; exact tkl_at h)
  · rfl
def agl (tr : Int) (cs : List Call) (j : Nat) : List (Int × Int × Int × Int × Int × Int × Int × Int × Int × Int × List UInt8) := ((cs.take j).filter (again1 tr)).map (fun x => mst (rq x))
theorem agl_n {tr : Int} {cs : List Call} {j : Nat} {x : Call} (h : cs[j]? = some x) (hx : again1 tr x = false) : agl tr cs (j + 1) = agl tr cs j := by
  rw [agl, agl, List.take_add_one, h, List.filter_append]; simp [hx]
theorem agl_y {tr : Int} {cs : List Call} {j : Nat} {x : Call} (h : cs[j]? = some x) (hx : again1 tr x = true) : agl tr cs (j + 1) = agl tr cs j ++ [mst (rq x)] := by
  rw [agl, agl, List.take_add_one, h, List.filter_append]; simp [hx]
theorem agl_le (tr : Int) (cs : List Call) (j : Nat) : (agl tr cs j).length ≤ j := by
  rw [agl, List.length_map]; exact Nat.le_trans (List.length_filter_le _ _) (by rw [List.length_take]; omega)
theorem agl_all (tr : Int) (cs : List Call) : agl tr cs cs.length = (cs.filter (again1 tr)).map (fun x => mst (rq x)) := by rw [agl, List.take_length]
def csz (x : Call) : Prop := (mdat (rq x)).length ≤ 140737488351232 ∧ (mdat (rp x)).length ≤ 140737488351232
def cgd (x : Call) : Prop := cst x = 1 → (1 ≤ clf x ∧ clf x ≤ 1000) ∧ 1 ≤ ctr x ∧ ctr x ≤ 1000
def CR (b : Nat) (p wt tr : Int) (cs : List Call) (L : Chunk) : Prop := ∃ v C, Own 186 25 v cs.length (rows encCall cs) C ∧ L = (b, rowO [.int .u64 p, .int .i64 wt, .int .i64 tr, v] 176) :: C
def DX (w0 : World) (D D' : Chunk) : Prop := ∀ w', St w0 w' [D'] → St w0 w' [D]
theorem DX.refl {w0 : World} {D : Chunk} : DX w0 D D := fun _ h => h
theorem DX.step {w0 : World} {D D' E : Chunk} (h : DX w0 D D') : DX w0 D (E ++ D') := fun w' hS => h w' hS.split.drop1
theorem DX.trans {w0 : World} {D D' D2 : Chunk} (h : DX w0 D D') (k : DX w0 D' D2) : DX w0 D D2 := fun w' hS => h w' (k w' hS)
theorem DX.dd {w0 : World} {D D' : Chunk} (h : DX w0 D D') {A : Option Addr} {c : Nat} {bs : List UInt8} (hd : DD w0 D A c bs) : DD w0 D' A c bs := fun w' hS => hd w' (h w' hS)
theorem DX.calls {w0 : World} {D D' : Chunk} (h : DX w0 D D') {cs : List Call} (hc : ∀ x ∈ cs, encCall_dd w0 D x) : ∀ x ∈ cs, encCall_dd w0 D' x := fun x hx => ⟨h.dd (hc x hx).1, h.dd (hc x hx).2⟩
theorem msg_snoc {w0 : World} {D E : Chunk} {out : List Msg} {x : Msg} (h : ∀ y ∈ out, encMessage_dd w0 D y) (hx : encMessage_dd w0 (E ++ D) x) : ∀ y ∈ out ++ [x], encMessage_dd w0 (E ++ D) y := fun y hy => by
  rcases List.mem_append.1 hy with hy | hy
  · exact encMessage_left (h y hy)
  · rw [List.mem_singleton.1 hy]; exact hx
theorem cof51 {w0 w : World} {F : List Chunk} (hS : St w0 w F) (p wt tr : Int) :
 Ret Tryz.prog 51 #[.int .u64 p, .int .i64 wt, .int .i64 tr] w (fun v w' => ∃ b L, CR b p (if wt > 1 then wt else 1) (if tr > 1 then tr else 1) [] L ∧ v = vP b 0 ∧ St w0 w' (L :: F)) := by
 refine enter (vs := [.int .u64 p, .int .i64 wt, .int .i64 tr]) 14 Tryz.func51 rfl rfl (by simp) ?_; intro a hA
 refine zs (zr (zR 1 ((6, .pointer none) :: _) hA rfl fun a hA => zn (zx (zs (zr (zR 6 ((12, .agg #[.int .u64 p, .int .i64 (if wt > 1 then wt else 1), .int .i64 (if tr > 1 then tr else 1), yS]) :: (11, .int .i64 (if tr > 1 then tr else 1)) :: (10, .int .i64 tr) :: (9, .int .i64 (if wt > 1 then wt else 1)) :: (8, .int .i64 wt) :: (7, .int .u64 p) :: _) hA rfl fun a hA => ?_))))))
 refine st_box hA hS [.int .u64 p, .int .i64 (if wt > 1 then wt else 1), .int .i64 (if tr > 1 then tr else 1), yS] rfl rfl rfl rfl rfl (by decide) fun b1 w2 a hS hA => ?_
 refine zR 1 ((6, vP b1 0) :: _) hA rfl fun a hA => zn (zx ?_)
 refine wp_ret ?_
 refine ret1 (fn := Tryz.f51) hA rfl rfl ?_
 exact ⟨_, _, ⟨_, [], Own.nil 186 25, rfl⟩, rfl, hS⟩
theorem ccop84 {w0 w : World} {F : List Chunk} (hS : St w0 w F) (m0 m1 m2 m3 m4 m5 m6 m7 m8 m9 : Int) {d : Value} {bs : List UInt8} (hd : RdSX w0 F 1 d bs.length (rows encB bs)) (hbl : bs.length ≤ 140737488351232) :
 Ret Tryz.prog 84 #[.agg #[.int .u64 m0, .int .u64 m1, .int .u32 m2, .int .u16 m3, .int .u16 m4, .int .u64 m5, .int .u32 m6, .int .u8 m7, .int .u64 m8, .int .u64 m9, d]] w (fun v w' => ∃ A c C, Own 5 1 (.slice A bs.length c) bs.length (rows encB bs) C ∧ v = .agg #[.int .u64 m0, .int .u64 m1, .int .u32 m2, .int .u16 m3, .int .u16 m4, .int .u64 m5, .int .u32 m6, .int .u8 m7, .int .u64 m8, .int .u64 m9, .slice A bs.length c] ∧ St w0 w' (C :: F)) := by
 obtain ⟨A, c, rfl, hmc, hcx⟩ := (hd w hS).open'
 refine enter (vs := [.agg #[.int .u64 m0, .int .u64 m1, .int .u32 m2, .int .u16 m3, .int .u16 m4, .int .u64 m5, .int .u32 m6, .int .u8 m7, .int .u64 m8, .int .u64 m9, .slice A bs.length c]]) 8 Tryz.func84 rfl rfl (by simp) ?_; intro a hA
 refine zs (zr ?_)
 refine st_box hA hS [.int .u64 m0, .int .u64 m1, .int .u32 m2, .int .u16 m3, .int .u16 m4, .int .u64 m5, .int .u32 m6, .int .u8 m7, .int .u64 m8, .int .u64 m9, .slice A bs.length c] rfl rfl rfl rfl rfl (by decide) fun b1 w2 a hS hA => ?_
 refine st_alloc tbOk hA hS [yU, yU, yW, yH, yH, yU, yW, yB, yU, yU, yS] rfl rfl rfl rfl rfl (by decide) fun b3 w4 a hS hA => ?_
 refine zn (zx (zs (zr (zR 1 ((3, vP b1 10) :: _) hA rfl fun a hA => zL hA hS 1 rfl rfl rfl rfl rfl rfl rfl rfl rfl fun a hA => ?_))))
 refine st_call0 hA rfl rfl rfl isfn83 rfl rfl (by decide) (clonex83 hS (l := bs) (fun w' h => (hd _ (h.tail 2 rfl))) (by first | omega | (simp; omega))) ?_
 clear hA hS; rintro _ w8 a ⟨A5, c6, C7, hOC7, rfl, hS⟩ hA
 refine zR 1 ((6, vP b1 10) :: _) hA rfl fun a hA => ?_
 replace hS := hS.m2
 refine st_store tbOk hA hS [.slice A5 bs.length c6] [.int .u64 m0, .int .u64 m1, .int .u32 m2, .int .u16 m3, .int .u16 m4, .int .u64 m5, .int .u32 m6, .int .u8 m7, .int .u64 m8, .int .u64 m9, .slice A5 bs.length c6] rfl rfl rfl rfl rfl rfl (by intro u hu; rw [List.mem_singleton.1 hu]; rfl) (zle rfl) rfl rfl rfl fun w9 hS => ?_
 refine zn (zx (zs (zr (zLA hA hS 0 [.int .u64 m0, .int .u64 m1, .int .u32 m2, .int .u16 m3, .int .u16 m4, .int .u64 m5, .int .u32 m6, .int .u8 m7, .int .u64 m8, .int .u64 m9, .slice A5 bs.length c6] rfl rfl rfl rfl rfl rfl rfl rfl rfl rfl fun a hA => ?_))))
 replace hS := hS.m2
 refine st_store tbOk hA hS [.int .u64 m0, .int .u64 m1, .int .u32 m2, .int .u16 m3, .int .u16 m4, .int .u64 m5, .int .u32 m6, .int .u8 m7, .int .u64 m8, .int .u64 m9, .slice A5 bs.length c6] [.int .u64 m0, .int .u64 m1, .int .u32 m2, .int .u16 m3, .int .u16 m4, .int .u64 m5, .int .u32 m6, .int .u8 m7, .int .u64 m8, .int .u64 m9, .slice A5 bs.length c6] rfl rfl rfl rfl rfl rfl (zn1 rfl) (zle rfl) rfl rfl rfl fun w10 hS => ?_
 refine zn (zx ?_)
 refine wp_ret ?_
 refine retc1 tbOk (fn := Tryz.f84) (cs := [.int .u64 m0, .int .u64 m1, .int .u32 m2, .int .u16 m3, .int .u16 m4, .int .u64 m5, .int .u32 m6, .int .u8 m7, .int .u64 m8, .int .u64 m9, .slice A5 bs.length c6]) hA rfl rfl rfl rfl rfl (cells_row (hS.heapAt 0 rfl) rfl) ?_
 replace hS := hS.d0.d0
 exact ⟨_, _, _, hOC7, rfl, hS⟩
theorem getp_hit98 {w0 w : World} {F : List Chunk} {b bb o n c : Nat} {p wt tr : Int} (hS : St w0 w ([(b, rowO [.int .u64 p, .int .i64 wt, .int .i64 tr, .slice (some ⟨bb, o, none⟩) n c] 176)] :: F)) {id : Int} {k : Nat} (hid : id = (k : Int) + 1) (hk : k < n) (hn : n ≤ 1048576) :
 Ret Tryz.prog 98 #[vP b 0, .int .u32 id] w (fun v w' => v = vP bb (o + (k * 25)) ∧ St w0 w' ([(b, rowO [.int .u64 p, .int .i64 wt, .int .i64 tr, .slice (some ⟨bb, o, none⟩) n c] 176)] :: F)) := by
 refine enter (vs := [vP b 0, .int .u32 id]) 24 Tryz.func98 rfl rfl (by simp) ?_; intro a hA
 refine zs (zr (zR 1 ((4, .pointer none) :: _) hA rfl fun a hA => zn (zx (zs (zs (zr (zR 3 ((7, .bool (decide (id < 1))) :: (6, .bool (decide (id < 1))) :: (5, .int .u32 id) :: _) hA rfl fun a hA => ?_)))))))
 have hc1 : ¬ (id < 1) := by omega
 replace hA := hA.rw 6 (v' := yF) rfl (vb_false hc1)
 replace hA := hA.rw 7 (v' := yF) rfl (vb_false hc1)
 refine zR 2 ((9, .int .i64 (IntKind.i64.wrap id)) :: (8, .int .u32 id) :: _) hA rfl fun a hA => ?_
 replace hA := hA.rw 9 (v' := .int .i64 id) rfl (wr64 (by rfl) (by omega) (by omega))
 refine zR 3 ((12, vP b 3) :: (11, vP b 0) :: (10, vP b 0) :: _) hA rfl fun a hA => zL hA hS 0 rfl rfl rfl rfl rfl rfl rfl rfl rfl fun a hA => zR 3 ((16, .bool (decide (id > ((n : Nat) : Int)))) :: (15, .bool (decide (id > ((n : Nat) : Int)))) :: (14, vI n) :: _) hA rfl fun a hA => zn (zx ?_)
 have hc2 : ¬ (id > ((n : Nat) : Int)) := by omega
 replace hA := hA.rw 16 (v' := yF) rfl (vb_false hc2)
 refine cd_cond_f hA rfl (zk (zx (zs (zr (zR 3 ((19, vP b 3) :: (18, vP b 0) :: (17, vP b 0) :: _) hA rfl fun a hA => zL hA hS 0 rfl rfl rfl rfl rfl rfl rfl rfl rfl fun a hA => zR 2 ((22, .int .u32 (IntKind.u32.wrap (id - 1))) :: (21, .int .u32 id) :: _) hA rfl fun a hA => ?_)))))
 replace hA := hA.rw 22 (v' := vW k) rfl (vint (by rw [wrap_u32 (by omega) (by omega)]; omega))
 refine st_val hA rfl rfl (by decide) (rn_indexAddr tbOk hA k (o + (k * 25)) rfl rfl rfl rfl rfl rfl (by rfl) (by omega) (by first | rfl | simp [Nat.mul_one, Nat.zero_add] | omega)) fun a hA => zR 1 ((4, vP bb (o + (k * 25))) :: _) hA rfl fun a hA => zn (zx ?_)
 refine wp_ret ?_
 refine ret1 (fn := Tryz.f98) hA rfl rfl ?_
 exact ⟨rfl, hS⟩
theorem start_ok55 {w0 w : World} {F : List Chunk} {L D : Chunk} {b : Nat} {p wt tr : Int} {cs : List Call} (hS : St w0 w (L :: D :: F)) (hM : CR b p wt tr cs L) (m0 m1 m2 m3 m4 m5 m6 m7 m8 m9 : Int) {d : Value} {bs : List UInt8} (hd : RdSX w0 (D :: F) 1 d bs.length (rows encB bs)) (hbl : bs.length ≤ 140737488351232) (hl : cs.length < 64) :
 Ret Tryz.prog 55 #[vP b 0, .agg #[.int .u64 m0, .int .u64 m1, .int .u32 m2, .int .u16 m3, .int .u16 m4, .int .u64 m5, .int .u32 m6, .int .u8 m7, .int .u64 m8, .int .u64 m9, d]] w (fun v w' => ∃ L' E A c A2 c2, CR b p wt tr (cs ++ [(m0, p, ((cs.length + 1 : Nat) : Int), m3, 0, m5, m6, m7, m8, m9, A, c, bs, 1, 1, wt, 0, 0, 0, 0, 0, 0, 0, 0, 0, 0, none, 0, ([] : List UInt8))]) L' ∧ DD w0 E A c bs ∧ DD w0 E A2 c2 bs ∧ v = .tuple #[.agg #[.int .u64 m0, .int .u64 p, vW (cs.length + 1), .int .u16 m3, yH, .int .u64 m5, .int .u32 m6, .int .u8 m7, .int .u64 m8, .int .u64 m9, .slice A2 bs.length c2], yN] ∧ St w0 w' (L' :: (E ++ D) :: F)) := by
 obtain ⟨v, C, hO, rfl⟩ := hM
 obtain ⟨A, c, rfl, hmc, hcx⟩ := hO.open'
 replace hS : St w0 w ([(b, rowO [.int .u64 p, .int .i64 wt, .int .i64 tr, .slice A cs.length c] 176)] :: C :: D :: F) := hS.split
 obtain ⟨B, d', rfl, hmd, hdx⟩ := (hd _ (hS.tail 2 rfl)).open'
 refine enter (vs := [vP b 0, .agg #[.int .u64 m0, .int .u64 m1, .int .u32 m2, .int .u16 m3, .int .u16 m4, .int .u64 m5, .int .u32 m6, .int .u8 m7, .int .u64 m8, .int .u64 m9, .slice B bs.length d']]) 49 Tryz.func55 rfl rfl (by simp) ?_; intro a hA
 refine zs (zr ?_)
 refine st_box hA hS [.int .u64 m0, .int .u64 m1, .int .u32 m2, .int .u16 m3, .int .u16 m4, .int .u64 m5, .int .u32 m6, .int .u8 m7, .int .u64 m8, .int .u64 m9, .slice B bs.length d'] rfl rfl rfl rfl rfl (by decide) fun b1 w2 a hS hA => ?_
 refine st_alloc tbOk hA hS [yU, yU, yW, yH, yH, yU, yW, yB, yU, yU, yS] rfl rfl rfl rfl rfl (by decide) fun b3 w4 a hS hA => ?_
 refine zR 1 ((5, yN) :: _) hA rfl fun a hA => zn (zx (zs (zs (zr (zR 3 ((8, vP b 3) :: (7, vP b 0) :: (6, vP b 0) :: _) hA rfl fun a hA => zL hA hS 2 rfl rfl rfl rfl rfl rfl rfl rfl rfl fun a hA => zR 2 ((11, .bool (decide (((cs.length : Nat) : Int) ≥ 64))) :: (10, vI cs.length) :: _) hA rfl fun a hA => zn (zx ?_))))))
 have hc5 : ¬ (((cs.length : Nat) : Int) ≥ 64) := by omega
 replace hA := hA.rw 11 (v' := yF) rfl (vb_false hc5)
 refine cd_cond_f hA rfl (zk (zx (zs ?_)))
 replace hS := hS.m1
 refine zD1 hS [] [(0, true), (1, true), (2, true), (3, true), (4, true), (5, true), (6, true), (7, true), (8, true), (9, true), (10, true), (11, true), (12, false), (13, true), (14, false), (15, true), (16, false)] mixed (by kernel_rfl) (by rintro c a w ⟨_, _, h, _⟩; cases h) (by rfl) (by kernel_rfl) ?_
 replace hS := hS.drew
 refine zW 3 ((16, vP b 3) :: (15, vP b 0) :: (14, vP b 0) :: _) hA (hS.tail 1 rfl) rfl fun a hA => zY hA (hS.tail 1 rfl) 1 rfl rfl rfl rfl rfl rfl rfl rfl rfl rfl fun a hA => zW 2 ((19, .int .i64 (IntKind.i64.wrap (((cs.length : Nat) : Int) + 1))) :: (18, vI cs.length) :: _) hA (hS.tail 1 rfl) rfl fun a hA => ?_
 replace hA := hA.rw 19 (v' := vI (cs.length + 1)) rfl (wr64 (by omega) (by omega) (by omega))
 refine zW 1 ((20, .int .u32 (IntKind.u32.wrap ((cs.length + 1 : Nat) : Int))) :: _) hA (hS.tail 1 rfl) rfl fun a hA => ?_
 replace hA := hA.rw 20 (v' := vW (cs.length + 1)) rfl (vint (wrap_u32 (by omega) (by omega)))
 refine zW 3 ((23, vP b 0) :: (22, vP b 0) :: (21, vP b 0) :: _) hA (hS.tail 1 rfl) rfl fun a hA => zY hA (hS.tail 1 rfl) 1 rfl rfl rfl rfl rfl rfl rfl rfl rfl rfl fun a hA => zW 1 ((25, vP b1 2) :: _) hA (hS.tail 1 rfl) rfl fun a hA => dr_b (o := _) rfl ?_
 refine st_store tbOk hA hS [vW (cs.length + 1)] [.int .u64 m0, .int .u64 m1, vW (cs.length + 1), .int .u16 m3, .int .u16 m4, .int .u64 m5, .int .u32 m6, .int .u8 m7, .int .u64 m8, .int .u64 m9, .slice B bs.length d'] rfl rfl rfl rfl rfl rfl (by intro u hu; rw [List.mem_singleton.1 hu]; rfl) (zle rfl) rfl rfl rfl fun w6 hS => ?_
 refine zi (hS.tail 1 rfl) (zW 1 ((26, vP b1 1) :: _) hA (hS.tail 1 rfl) rfl fun a hA => dr_b (o := _) rfl ?_)
 refine st_store tbOk hA hS [.int .u64 p] [.int .u64 m0, .int .u64 p, vW (cs.length + 1), .int .u16 m3, .int .u16 m4, .int .u64 m5, .int .u32 m6, .int .u8 m7, .int .u64 m8, .int .u64 m9, .slice B bs.length d'] rfl rfl rfl rfl rfl rfl (by intro u hu; rw [List.mem_singleton.1 hu]; rfl) (zle rfl) rfl rfl rfl fun w7 hS => ?_
 refine zi (hS.tail 1 rfl) (zW 1 ((27, vP b1 4) :: _) hA (hS.tail 1 rfl) rfl fun a hA => dr_b (o := _) rfl ?_)
 refine st_store tbOk hA hS [yH] [.int .u64 m0, .int .u64 p, vW (cs.length + 1), .int .u16 m3, yH, .int .u64 m5, .int .u32 m6, .int .u8 m7, .int .u64 m8, .int .u64 m9, .slice B bs.length d'] rfl rfl rfl rfl rfl rfl (by intro u hu; rw [List.mem_singleton.1 hu]; rfl) (zle rfl) rfl rfl rfl fun w8 hS => ?_
 refine zi (hS.tail 1 rfl) (ze (zx (zs (zr (zR 1 ((28, vP b1 10) :: _) hA rfl fun a hA => zL hA hS 0 rfl rfl rfl rfl rfl rfl rfl rfl rfl fun a hA => ?_)))))
 refine st_call0 hA rfl rfl rfl isfn83 rfl rfl (by decide) (clonex83 hS (l := bs) (fun w' h => (hd _ (h.tail 4 rfl))) (by first | omega | (simp; omega))) ?_
 clear hA hS; rintro _ w12 a ⟨A9, c10, C11, hOC11, rfl, hS⟩ hA
 refine zR 1 ((31, vP b1 10) :: _) hA rfl fun a hA => ?_
 replace hS := hS.m1
 refine st_store tbOk hA hS [.slice A9 bs.length c10] [.int .u64 m0, .int .u64 p, vW (cs.length + 1), .int .u16 m3, yH, .int .u64 m5, .int .u32 m6, .int .u8 m7, .int .u64 m8, .int .u64 m9, .slice A9 bs.length c10] rfl rfl rfl rfl rfl rfl (by intro u hu; rw [List.mem_singleton.1 hu]; rfl) (zle rfl) rfl rfl rfl fun w13 hS => ?_
 refine zn (zx (zs ?_))
 replace hS := hS.m4
 refine zD1 hS [15] [(0, true), (1, true), (2, true), (3, true), (4, true), (5, true), (6, true), (7, true), (8, true), (9, true), (10, true), (11, false), (12, false), (13, true), (14, true), (15, false)] mixed (by kernel_rfl) (by rintro c a w ⟨_, _, h, _⟩; cases h) (by rfl) (by kernel_rfl) ?_
 replace hS := hS.drew
 refine zW 4 ((35, vP b 3) :: (34, vP b 0) :: (33, vP b 0) :: (32, vP b 0) :: _) hA (hS.tail 1 rfl) rfl fun a hA => zY hA (hS.tail 1 rfl) 3 rfl rfl rfl rfl rfl rfl rfl rfl rfl rfl fun a hA => zYA hA (hS.tail 1 rfl) 0 [.int .u64 m0, .int .u64 p, vW (cs.length + 1), .int .u16 m3, yH, .int .u64 m5, .int .u32 m6, .int .u8 m7, .int .u64 m8, .int .u64 m9, .slice A9 bs.length c10] rfl rfl rfl rfl rfl rfl rfl rfl rfl rfl rfl fun a hA => zW 3 ((40, vP b 1) :: (39, vP b 0) :: (38, vP b 0) :: _) hA (hS.tail 1 rfl) rfl fun a hA => zY hA (hS.tail 1 rfl) 3 rfl rfl rfl rfl rfl rfl rfl rfl rfl rfl fun a hA => dr_y hA rfl rfl rfl (by decide) (hS.tail 1 rfl) (fun w' hS' => rn_build tbOk hA rfl rfl rfl rfl rfl rfl rfl) fun a hA => dr_b (o := _) rfl ?_
 refine st_buildSlice tbOk hA hS [.int .u64 m0, .int .u64 p, vW (cs.length + 1), .int .u16 m3, yH, .int .u64 m5, .int .u32 m6, .int .u8 m7, .int .u64 m8, .int .u64 m9, .slice A9 bs.length c10, .int .i64 1, .int .i64 1, .int .i64 wt, yU, yU, yW, yH, yH, yU, yW, yB, yU, yU, yS] rfl rfl rfl rfl rfl (by decide) (by kernel_rfl) rfl rfl (by decide) fun b14 w15 a hS hA => ?_
 refine zi (hS.tail 2 rfl) (dr_b (o := _) rfl ?_)
 replace hS := hS.m1
 refine st_append tbOk hA (m := cs.length) (q := 1) (xs := rows encCall cs) (news := rows encCall ([(m0, p, ((cs.length + 1 : Nat) : Int), m3, 0, m5, m6, m7, m8, m9, A9, c10, bs, 1, 1, wt, 0, 0, 0, 0, 0, 0, 0, 0, 0, 0, none, 0, ([] : List UInt8))] : List (Int × Int × Int × Int × Int × Int × Int × Int × Int × Int × Option Addr × Nat × List UInt8 × Int × Int × Int × Int × Int × Int × Int × Int × Int × Int × Int × Int × Int × Option Addr × Nat × List UInt8))) rfl rfl rfl rfl rfl rfl rfl rfl (by decide) hO hS (((Own.full (T := 186) (size := 25) (g := b14) (m := 1) rfl (by decide)).rd (hS.own_ 1 rfl)).x) (rows_one encCall_ok _) (maxLen_le (by first | omega | (simp; omega))) (by show (cs.length + 1) * 184 ≤ 140737488355328; first | omega | (simp; omega)) rfl rfl (by decide) ?_
 clear hA hS; intro v16 w17 C18 a hO18 hS hA
 replace hO18 := Own.app (l := cs) (l2 := ([(m0, p, ((cs.length + 1 : Nat) : Int), m3, 0, m5, m6, m7, m8, m9, A9, c10, bs, 1, 1, wt, 0, 0, 0, 0, 0, 0, 0, 0, 0, 0, none, 0, ([] : List UInt8))] : List (Int × Int × Int × Int × Int × Int × Int × Int × Int × Int × Option Addr × Nat × List UInt8 × Int × Int × Int × Int × Int × Int × Int × Int × Int × Int × Int × Int × Int × Option Addr × Nat × List UInt8))) hO18
 obtain ⟨A19, c20, rfl, hmc20, hxc20⟩ := hO18.open'
 refine zi (hS.tail 2 rfl) (zW 2 ((46, vP b 3) :: (45, vP b 0) :: _) hA (hS.tail 2 rfl) rfl fun a hA => dr_b (o := _) rfl ?_)
 replace hS := hS.m5
 refine st_store tbOk hA hS [.slice A19 ((cs ++ ([(m0, p, ((cs.length + 1 : Nat) : Int), m3, 0, m5, m6, m7, m8, m9, A9, c10, bs, 1, 1, wt, 0, 0, 0, 0, 0, 0, 0, 0, 0, 0, none, 0, ([] : List UInt8))] : List (Int × Int × Int × Int × Int × Int × Int × Int × Int × Int × Option Addr × Nat × List UInt8 × Int × Int × Int × Int × Int × Int × Int × Int × Int × Int × Int × Int × Int × Option Addr × Nat × List UInt8))).length) c20] [.int .u64 p, .int .i64 wt, .int .i64 tr, .slice A19 ((cs ++ ([(m0, p, ((cs.length + 1 : Nat) : Int), m3, 0, m5, m6, m7, m8, m9, A9, c10, bs, 1, 1, wt, 0, 0, 0, 0, 0, 0, 0, 0, 0, 0, none, 0, ([] : List UInt8))] : List (Int × Int × Int × Int × Int × Int × Int × Int × Int × Int × Option Addr × Nat × List UInt8 × Int × Int × Int × Int × Int × Int × Int × Int × Int × Int × Int × Int × Int × Option Addr × Nat × List UInt8))).length) c20] rfl rfl rfl rfl rfl rfl (by intro u hu; rw [List.mem_singleton.1 hu]; rfl) (zle rfl) rfl rfl rfl fun w21 hS => ?_
 refine dr_nil (.inl (by decide)) (ze (zx (zs (zr (zLA hA hS 3 [.int .u64 m0, .int .u64 p, vW (cs.length + 1), .int .u16 m3, yH, .int .u64 m5, .int .u32 m6, .int .u8 m7, .int .u64 m8, .int .u64 m9, .slice A9 bs.length c10] rfl rfl rfl rfl rfl rfl rfl rfl rfl rfl fun a hA => ?_)))))
 refine st_call0 hA rfl rfl rfl isfn84 rfl rfl (by decide) (ccop84 hS m0 p ((cs.length + 1 : Nat) : Int) m3 0 m5 m6 m7 m8 m9 (bs := bs) (RdS.x (RdS.own hOC11 4 rfl)) (by omega)) ?_
 clear hA hS; rintro _ w25 a ⟨A22, c23, C24, hOC24, rfl, hS⟩ hA
 replace hS := hS.m6
 refine st_store tbOk hA hS [.int .u64 m0, .int .u64 p, vW (cs.length + 1), .int .u16 m3, yH, .int .u64 m5, .int .u32 m6, .int .u8 m7, .int .u64 m8, .int .u64 m9, .slice A22 bs.length c23] [.int .u64 m0, .int .u64 p, vW (cs.length + 1), .int .u16 m3, yH, .int .u64 m5, .int .u32 m6, .int .u8 m7, .int .u64 m8, .int .u64 m9, .slice A22 bs.length c23] rfl rfl rfl rfl rfl rfl (zn1 rfl) (zle rfl) rfl rfl rfl fun w26 hS => ?_
 refine zR 1 ((5, yN) :: _) hA rfl fun a hA => zn (zx ?_)
 refine wp_ret ?_
 refine retc2 tbOk (fn := Tryz.f55) (cs := [.int .u64 m0, .int .u64 p, vW (cs.length + 1), .int .u16 m3, yH, .int .u64 m5, .int .u32 m6, .int .u8 m7, .int .u64 m8, .int .u64 m9, .slice A22 bs.length c23]) hA rfl rfl rfl rfl rfl rfl (cells_row (hS.heapAt 0 rfl) rfl) ?_
 replace hS := hS.d0.m3.d0.m3.d0.m2.m2.m4.m4.m4
 replace hS := hS.join
 replace hS := hS.join
 replace hS := hS.m2.m2
 replace hS := hS.join
 exact ⟨_, _, _, _, _, _, ⟨_, _, hO18, rfl⟩, (DD.new hOC11).left, (DD.new hOC24).right, rfl, hS⟩
theorem cget_failed71 {w0 w : World} {F : List Chunk} {L D : Chunk} {b : Nat} {p wt tr : Int} {cs : List Call} (hS : St w0 w (L :: D :: F)) (hM : CR b p wt tr cs L) {k : Nat} {x : Call} (hx : cs[k]? = some x) (hl : cs.length ≤ 64) {id : Int} (hid : id = (k : Int) + 1) (hst : cst x = 3) :
 Ret Tryz.prog 71 #[vP b 0, .int .u32 id] w (fun v w' => ∃ L', CR b p wt tr cs L' ∧ v = .tuple #[.int .i64 3, .agg #[yU, yU, yW, yH, yH, yU, yW, yB, yU, yU, yS], .iface 55 (.int .i64 10)] ∧ St w0 w' (L' :: D :: F)) := by
 obtain ⟨v, C, hO, rfl⟩ := hM
 obtain ⟨A, c, rfl, hmc, hcx⟩ := hO.open'
 replace hS : St w0 w ([(b, rowO [.int .u64 p, .int .i64 wt, .int .i64 tr, .slice A cs.length c] 176)] :: C :: D :: F) := hS.split
 have hkl := (List.getElem?_eq_some_iff.1 hx).1
 obtain ⟨xf0, xf1, xf2, xf3, xf4, xf5, xf6, xf7, xf8, xf9, xA10, xc10, xb10, xf13, xf14, xf15, xf16, xf17, xf18, xf19, xf20, xf21, xf22, xf23, xf24, xf25, xA26, xc26, xb26⟩ := x
 dsimp only [cst] at hst
 refine enter (vs := [vP b 0, .int .u32 id]) 33 Tryz.func71 rfl rfl (by simp) ?_; intro a hA
 refine zs (zr (zR 1 ((4, yI) :: _) hA rfl fun a hA => ?_))
 refine st_alloc tbOk hA hS [yU, yU, yW, yH, yH, yU, yW, yB, yU, yU, yS] rfl rfl rfl rfl rfl (by decide) fun b1 w2 a hS hA => ?_
 refine zR 1 ((6, yN) :: _) hA rfl fun a hA => zn (zx (zs (zr (zR 2 ((9, .int .u32 id) :: (8, vP b 0) :: _) hA rfl fun a hA => ?_))))
 obtain ⟨b4, o5, rfl⟩ := hO.isSome (k := k) (by omega)
 replace hS := hS.m1
 refine st_call0 hA rfl rfl rfl isfn98 rfl rfl (by decide) (getp_hit98 hS (k := k) hid hkl (by omega)) ?_
 clear hA hS; rintro _ w3 a ⟨rfl, hS⟩ hA
 refine zR 1 ((7, vP b4 (o5 + (k * 25))) :: _) hA rfl fun a hA => zn (zx (zs (zb (zs (zr (zR 3 ((11, yF) :: (13, yF) :: (12, vP b4 (o5 + (k * 25))) :: _) hA rfl fun a hA => zn (zx (cd_cond_f hA rfl (zs (zr (zR 3 ((19, vP b4 (o5 + (k * 25) + 11)) :: (18, vP b4 (o5 + (k * 25))) :: (17, vP b4 (o5 + (k * 25))) :: _) hA rfl fun a hA => st_val hA rfl rfl (by decide) (rn_load tbOk hA rfl rfl rfl rfl ((hO.rd (hS.own_ 2 rfl)).elemf (k := k) encCall_ok hx (j := 11) rfl)) fun a hA => zR 2 ((16, .bool (xf13 == 3)) :: (21, .bool (xf13 == 3)) :: _) hA rfl fun a hA => zn (zx ?_))))))))))))
 have hc6 : xf13 = 3 := hst
 replace hA := hA.rw 16 (v' := yT) rfl (vb_eq_t hc6)
 refine cd_cond_t hA rfl (zs (zr (st_val hA rfl rfl (by decide) (rn_build tbOk hA rfl rfl rfl rfl rfl rfl rfl) fun a hA => zR 2 ((4, .int .i64 3) :: (23, .iface 55 (.int .i64 10)) :: _) hA rfl fun a hA => ?_)))
 replace hS := hS.m1
 refine st_store tbOk hA hS [yU, yU, yW, yH, yH, yU, yW, yB, yU, yU, yS] [yU, yU, yW, yH, yH, yU, yW, yB, yU, yU, yS] rfl rfl rfl rfl rfl rfl (zn1 rfl) (zle rfl) rfl rfl rfl fun w7 hS => ?_
 refine zR 1 ((6, .iface 55 (.int .i64 10)) :: _) hA rfl fun a hA => zn (zx ?_)
 refine wp_ret (xb_ret (xt_ret ?_))
 refine rettct tbOk (fn := Tryz.f71) (cs := [yU, yU, yW, yH, yH, yU, yW, yB, yU, yU, yS]) hA rfl rfl rfl rfl rfl rfl rfl (cells_row (hS.heapAt 0 rfl) rfl) ?_
 replace hS := hS.d0.m1.m1.m2.m2.m2
 replace hS := hS.join
 exact ⟨_, ⟨_, _, hO, rfl⟩, rfl, hS⟩
theorem cget_ok71 {w0 w : World} {F : List Chunk} {L D : Chunk} {b : Nat} {p wt tr : Int} {cs : List Call} (hS : St w0 w (L :: D :: F)) (hM : CR b p wt tr cs L) {k : Nat} {x : Call} (hx : cs[k]? = some x) (hl : cs.length ≤ 64) {id : Int} (hid : id = (k : Int) + 1) (hst : ¬ cst x = 3) (hcd : ∀ x ∈ cs, encCall_dd w0 D x) (hcs : ∀ x ∈ cs, csz x) :
 Ret Tryz.prog 71 #[vP b 0, .int .u32 id] w (fun v w' => ∃ L' E A c, CR b p wt tr cs L' ∧ DD w0 E A c x.2.2.2.2.2.2.2.2.2.2.2.2.2.2.2.2.2.2.2.2.2.2.2.2.2.2.2.2 ∧ v = .tuple #[.int .i64 x.2.2.2.2.2.2.2.2.2.2.2.2.2.1, .agg #[.int .u64 x.2.2.2.2.2.2.2.2.2.2.2.2.2.2.2.2.1, .int .u64 x.2.2.2.2.2.2.2.2.2.2.2.2.2.2.2.2.2.1, .int .u32 x.2.2.2.2.2.2.2.2.2.2.2.2.2.2.2.2.2.2.1, .int .u16 x.2.2.2.2.2.2.2.2.2.2.2.2.2.2.2.2.2.2.2.1, .int .u16 x.2.2.2.2.2.2.2.2.2.2.2.2.2.2.2.2.2.2.2.2.1, .int .u64 x.2.2.2.2.2.2.2.2.2.2.2.2.2.2.2.2.2.2.2.2.2.1, .int .u32 x.2.2.2.2.2.2.2.2.2.2.2.2.2.2.2.2.2.2.2.2.2.2.1, .int .u8 x.2.2.2.2.2.2.2.2.2.2.2.2.2.2.2.2.2.2.2.2.2.2.2.1, .int .u64 x.2.2.2.2.2.2.2.2.2.2.2.2.2.2.2.2.2.2.2.2.2.2.2.2.1, .int .u64 x.2.2.2.2.2.2.2.2.2.2.2.2.2.2.2.2.2.2.2.2.2.2.2.2.2.1, .slice A x.2.2.2.2.2.2.2.2.2.2.2.2.2.2.2.2.2.2.2.2.2.2.2.2.2.2.2.2.length c], yN] ∧ St w0 w' (L' :: (E ++ D) :: F)) := by
 obtain ⟨v, C, hO, rfl⟩ := hM
 obtain ⟨A, c, rfl, hmc, hcx⟩ := hO.open'
 replace hS : St w0 w ([(b, rowO [.int .u64 p, .int .i64 wt, .int .i64 tr, .slice A cs.length c] 176)] :: C :: D :: F) := hS.split
 have hkl := (List.getElem?_eq_some_iff.1 hx).1
 obtain ⟨xf0, xf1, xf2, xf3, xf4, xf5, xf6, xf7, xf8, xf9, xA10, xc10, xb10, xf13, xf14, xf15, xf16, xf17, xf18, xf19, xf20, xf21, xf22, xf23, xf24, xf25, xA26, xc26, xb26⟩ := x
 have hdx := hcd _ (List.mem_of_getElem? hx)
 have hsx := (hcs _ (List.mem_of_getElem? hx)).2; dsimp only [mdat, rp] at hsx
 dsimp only [cst] at hst
 refine enter (vs := [vP b 0, .int .u32 id]) 33 Tryz.func71 rfl rfl (by simp) ?_; intro a hA
 refine zs (zr (zR 1 ((4, yI) :: _) hA rfl fun a hA => ?_))
 refine st_alloc tbOk hA hS [yU, yU, yW, yH, yH, yU, yW, yB, yU, yU, yS] rfl rfl rfl rfl rfl (by decide) fun b1 w2 a hS hA => ?_
 refine zR 1 ((6, yN) :: _) hA rfl fun a hA => zn (zx (zs (zr (zR 2 ((9, .int .u32 id) :: (8, vP b 0) :: _) hA rfl fun a hA => ?_))))
 obtain ⟨b4, o5, rfl⟩ := hO.isSome (k := k) (by omega)
 replace hS := hS.m1
 refine st_call0 hA rfl rfl rfl isfn98 rfl rfl (by decide) (getp_hit98 hS (k := k) hid hkl (by omega)) ?_
 clear hA hS; rintro _ w3 a ⟨rfl, hS⟩ hA
 refine zR 1 ((7, vP b4 (o5 + (k * 25))) :: _) hA rfl fun a hA => zn (zx (zs (zb (zs (zr (zR 3 ((11, yF) :: (13, yF) :: (12, vP b4 (o5 + (k * 25))) :: _) hA rfl fun a hA => zn (zx (cd_cond_f hA rfl (zs (zr (zR 3 ((19, vP b4 (o5 + (k * 25) + 11)) :: (18, vP b4 (o5 + (k * 25))) :: (17, vP b4 (o5 + (k * 25))) :: _) hA rfl fun a hA => st_val hA rfl rfl (by decide) (rn_load tbOk hA rfl rfl rfl rfl ((hO.rd (hS.own_ 2 rfl)).elemf (k := k) encCall_ok hx (j := 11) rfl)) fun a hA => zR 2 ((16, .bool (xf13 == 3)) :: (21, .bool (xf13 == 3)) :: _) hA rfl fun a hA => zn (zx ?_))))))))))))
 have hc6 : ¬ (xf13 = 3) := hst
 replace hA := hA.rw 16 (v' := yF) rfl (vb_eq_f hc6)
 refine cd_cond_f hA rfl (zk (zm (zx (zs ?_))))
 replace hS := hS.m1
 refine zD1 hS [] [(0, true), (1, true), (2, true), (3, true), (4, true), (5, true), (6, true), (7, true), (8, false), (9, true), (10, false), (11, true)] mixed (by kernel_rfl) (by rintro c a w ⟨_, _, h, _⟩; cases h) (by rfl) (by kernel_rfl) ?_
 replace hS := hS.drew
 refine zW 3 ((26, vP b4 (o5 + (k * 25) + 11)) :: (25, vP b4 (o5 + (k * 25))) :: (24, vP b4 (o5 + (k * 25))) :: _) hA (hS.tail 1 rfl) rfl fun a hA => dr_y hA rfl rfl rfl (by decide) (hS.tail 1 rfl) (fun w' hS' => rn_load tbOk hA rfl rfl rfl rfl ((hO.rd (hS'.own_ 1 rfl)).elemf (k := k) encCall_ok hx (j := 11) rfl)) fun a hA => zW 3 ((30, vP b4 (o5 + (k * 25) + 14)) :: (29, vP b4 (o5 + (k * 25))) :: (28, vP b4 (o5 + (k * 25))) :: _) hA (hS.tail 1 rfl) rfl fun a hA => dr_y hA rfl rfl rfl (by decide) (hS.tail 1 rfl) (fun w' hS' => rn_loadA tbOk hA ([.int .u64 xf16, .int .u64 xf17, .int .u32 xf18, .int .u16 xf19, .int .u16 xf20, .int .u64 xf21, .int .u32 xf22, .int .u8 xf23, .int .u64 xf24, .int .u64 xf25, .slice xA26 xb26.length xc26]) rfl rfl rfl rfl (by rfl) (elemp encCall_ok (hO.rd (hS'.own_ 1 rfl)) (k := k) hx (j := 14) (n := 11) rfl)) fun a hA => dr_b (o := _) rfl ?_
 refine st_call0 hA rfl rfl rfl isfn84 rfl rfl (by decide) (ccop84 hS xf16 xf17 xf18 xf19 xf20 xf21 xf22 xf23 xf24 xf25 (bs := xb26) (fun w' h => (hdx.2 _ (h.only 3 rfl))) (by omega)) ?_
 clear hA hS; rintro _ w10 a ⟨A7, c8, C9, hOC9, rfl, hS⟩ hA
 replace hS := hS.m1
 refine dr_nilS (fun w' => St w0 w' (C9 :: [(b, rowO [.int .u64 p, .int .i64 wt, .int .i64 tr, .slice (some ⟨b4, o5, none⟩) cs.length c] 176)] :: C :: D :: F)) (fun x h => h.tail 1 rfl) (hS.tail 1 rfl) ?_
 refine zW 1 ((4, .int .i64 xf13) :: _) hA (hS.tail 1 rfl) rfl fun a hA => dr_b (o := _) rfl ?_
 refine st_store tbOk hA hS [.int .u64 xf16, .int .u64 xf17, .int .u32 xf18, .int .u16 xf19, .int .u16 xf20, .int .u64 xf21, .int .u32 xf22, .int .u8 xf23, .int .u64 xf24, .int .u64 xf25, .slice A7 xb26.length c8] [.int .u64 xf16, .int .u64 xf17, .int .u32 xf18, .int .u16 xf19, .int .u16 xf20, .int .u64 xf21, .int .u32 xf22, .int .u8 xf23, .int .u64 xf24, .int .u64 xf25, .slice A7 xb26.length c8] rfl rfl rfl rfl rfl rfl (zn1 rfl) (zle rfl) rfl rfl rfl fun w11 hS => ?_
 refine zi (hS.tail 1 rfl) (zW 1 ((6, yN) :: _) hA (hS.tail 1 rfl) rfl fun a hA => ze (zx ?_))
 refine wp_ret ?_
 refine rettct tbOk (fn := Tryz.f71) (cs := [.int .u64 xf16, .int .u64 xf17, .int .u32 xf18, .int .u16 xf19, .int .u16 xf20, .int .u64 xf21, .int .u32 xf22, .int .u8 xf23, .int .u64 xf24, .int .u64 xf25, .slice A7 xb26.length c8]) hA rfl rfl rfl rfl rfl rfl rfl (cells_row (hS.heapAt 0 rfl) rfl) ?_
 replace hS := hS.d0.m2.m2.m3.m3
 replace hS := hS.join
 replace hS := hS.m2.m2
 replace hS := hS.join
 exact ⟨_, _, _, _, ⟨_, _, hO, rfl⟩, DD.new hOC9, rfl, hS⟩
theorem answer_ok67 {w0 w : World} {F : List Chunk} {L D : Chunk} {b : Nat} {p wt tr : Int} {cs : List Call} (hS : St w0 w (L :: D :: F)) (hM : CR b p wt tr cs L) (m0 m1 m2 m3 m4 m5 m6 m7 m8 m9 : Int) {d : Value} {bs : List UInt8} (hd : RdSX w0 (D :: F) 1 d bs.length (rows encB bs)) (hbl : bs.length ≤ 140737488351232) {k : Nat} {x : Call} (hx : cs[k]? = some x) (hl : cs.length ≤ 64) (hid : m2 = (k : Int) + 1) (hst : cst x = 1) (hm0 : m0 = p) (hm1 : m1 = x.1) :
 Ret Tryz.prog 67 #[vP b 0, .agg #[.int .u64 m0, .int .u64 m1, .int .u32 m2, .int .u16 m3, .int .u16 m4, .int .u64 m5, .int .u32 m6, .int .u8 m7, .int .u64 m8, .int .u64 m9, d]] w (fun v w' => ∃ L' E A c, CR b p wt tr (cs.set k (mkc (rq x) 2 (ctr x) (clf x) (m0, m1, m2, m3, m4, m5, m6, m7, m8, m9, A, c, bs))) L' ∧ DD w0 E A c bs ∧ v = yT ∧ St w0 w' (L' :: (E ++ D) :: F)) := by
 obtain ⟨v, C, hO, rfl⟩ := hM
 obtain ⟨A, c, rfl, hmc, hcx⟩ := hO.open'
 replace hS : St w0 w ([(b, rowO [.int .u64 p, .int .i64 wt, .int .i64 tr, .slice A cs.length c] 176)] :: C :: D :: F) := hS.split
 obtain ⟨B, d', rfl, hmd, hdx⟩ := (hd _ (hS.tail 2 rfl)).open'
 have hkl := (List.getElem?_eq_some_iff.1 hx).1
 obtain ⟨xf0, xf1, xf2, xf3, xf4, xf5, xf6, xf7, xf8, xf9, xA10, xc10, xb10, xf13, xf14, xf15, xf16, xf17, xf18, xf19, xf20, xf21, xf22, xf23, xf24, xf25, xA26, xc26, xb26⟩ := x
 dsimp only [cst] at hst
 refine enter (vs := [vP b 0, .agg #[.int .u64 m0, .int .u64 m1, .int .u32 m2, .int .u16 m3, .int .u16 m4, .int .u64 m5, .int .u32 m6, .int .u8 m7, .int .u64 m8, .int .u64 m9, .slice B bs.length d']]) 46 Tryz.func67 rfl rfl (by simp) ?_; intro a hA
 refine zs (zr ?_)
 refine st_box hA hS [.int .u64 m0, .int .u64 m1, .int .u32 m2, .int .u16 m3, .int .u16 m4, .int .u64 m5, .int .u32 m6, .int .u8 m7, .int .u64 m8, .int .u64 m9, .slice B bs.length d'] rfl rfl rfl rfl rfl (by decide) fun b1 w2 a hS hA => ?_
 refine zR 1 ((4, yF) :: _) hA rfl fun a hA => zn (zx (zs (zr (zR 2 ((7, vP b1 2) :: (6, vP b 0) :: _) hA rfl fun a hA => zL hA hS 0 rfl rfl rfl rfl rfl rfl rfl rfl rfl fun a hA => ?_))))
 obtain ⟨b4, o5, rfl⟩ := hO.isSome (k := k) (by omega)
 replace hS := hS.m1
 refine st_call0 hA rfl rfl rfl isfn98 rfl rfl (by decide) (getp_hit98 hS (k := k) hid hkl (by omega)) ?_
 clear hA hS; rintro _ w3 a ⟨rfl, hS⟩ hA
 refine zR 1 ((5, vP b4 (o5 + (k * 25))) :: _) hA rfl fun a hA => zn (zx (zs (zs ?_)))
 refine zD0 hS [] [(0, true), (1, true), (2, true), (3, true), (4, true), (5, true), (6, true), (7, true), (8, true), (9, true), (10, true), (11, true), (12, true), (13, true), (14, true), (15, true), (16, true), (17, true), (18, true), (19, true), (20, true), (21, true), (22, true), (23, true), (24, true), (25, true), (26, true), (27, true)] mixed (by kernel_rfl) (by rintro c a w ⟨_, _, h, _⟩; cases h) (by rfl) (by kernel_rfl) ?_
 replace hS := hS.drew
 refine zW 6 ((15, vP b4 (o5 + (k * 25) + 11)) :: (14, vP b4 (o5 + (k * 25))) :: (13, vP b4 (o5 + (k * 25))) :: (12, yF) :: (11, yF) :: (10, vP b4 (o5 + (k * 25))) :: _) hA hS rfl fun a hA => dr_y hA rfl rfl rfl (by decide) hS (fun w' hS' => rn_load tbOk hA rfl rfl rfl rfl ((hO.rd (hS'.own_ 2 rfl)).elemf (k := k) encCall_ok hx (j := 11) rfl)) fun a hA => zW 3 ((19, .bool (xf13 != 1)) :: (18, .bool (xf13 != 1)) :: (17, .bool (xf13 != 1)) :: _) hA hS rfl fun a hA => ?_
 have hc6 : xf13 = 1 := by omega
 replace hA := hA.rw 17 (v' := yF) rfl (vb_ne_f hc6)
 replace hA := hA.rw 18 (v' := yF) rfl (vb_ne_f hc6)
 replace hA := hA.rw 19 (v' := yF) rfl (vb_ne_f hc6)
 refine zW 1 ((20, vP b1 0) :: _) hA hS rfl fun a hA => zY hA hS 1 rfl rfl rfl rfl rfl rfl rfl rfl rfl rfl fun a hA => zW 3 ((24, vP b 0) :: (23, vP b 0) :: (22, vP b 0) :: _) hA hS rfl fun a hA => zY hA hS 0 rfl rfl rfl rfl rfl rfl rfl rfl rfl rfl fun a hA => zW 3 ((28, .bool (m0 != p)) :: (27, .bool (m0 != p)) :: (26, .bool (m0 != p)) :: _) hA hS rfl fun a hA => ?_
 have hc7 : m0 = p := by omega
 replace hA := hA.rw 26 (v' := yF) rfl (vb_ne_f hc7)
 replace hA := hA.rw 27 (v' := yF) rfl (vb_ne_f hc7)
 replace hA := hA.rw 28 (v' := yF) rfl (vb_ne_f hc7)
 refine zW 1 ((29, vP b1 1) :: _) hA hS rfl fun a hA => zY hA hS 1 rfl rfl rfl rfl rfl rfl rfl rfl rfl rfl fun a hA => zW 4 ((34, vP b4 (o5 + (k * 25))) :: (33, vP b4 (o5 + (k * 25))) :: (32, vP b4 (o5 + (k * 25))) :: (31, vP b4 (o5 + (k * 25))) :: _) hA hS rfl fun a hA => dr_y hA rfl rfl rfl (by decide) hS (fun w' hS' => rn_load tbOk hA rfl rfl rfl rfl ((hO.rd (hS'.own_ 2 rfl)).elemf (k := k) encCall_ok hx (j := 0) rfl)) fun a hA => zW 2 ((37, .bool (m1 != xf0)) :: (36, .bool (m1 != xf0)) :: _) hA hS rfl fun a hA => ze (zx ?_)
 have hc8 : m1 = xf0 := by omega
 replace hA := hA.rw 37 (v' := yF) rfl (vb_ne_f hc8)
 refine cd_cond_f hA rfl (zk (zx (zs (zr (zR 2 ((39, vP b4 (o5 + (k * 25))) :: (38, vP b4 (o5 + (k * 25))) :: _) hA rfl fun a hA => zLA hA hS 1 [.int .u64 m0, .int .u64 m1, .int .u32 m2, .int .u16 m3, .int .u16 m4, .int .u64 m5, .int .u32 m6, .int .u8 m7, .int .u64 m8, .int .u64 m9, .slice B bs.length d'] rfl rfl rfl rfl rfl rfl rfl rfl rfl rfl fun a hA => ?_)))))
 refine st_call0 hA rfl rfl rfl isfn84 rfl rfl (by decide) (ccop84 hS m0 m1 m2 m3 m4 m5 m6 m7 m8 m9 (bs := bs) (fun w' h => (hd _ (h.tail 3 rfl))) (by omega)) ?_
 clear hA hS; rintro _ w12 a ⟨A9, c10, C11, hOC11, rfl, hS⟩ hA
 refine zR 2 ((43, vP b4 (o5 + (k * 25) + 11)) :: (42, vP b4 (o5 + (k * 25))) :: _) hA rfl fun a hA => ?_
 replace hS := hS.m3
 refine st_store_own tbOk hA hO hS ((k * 25) + 11) (o5 + (k * 25) + 11) [.int .i64 2] (rows encCall (cs.set k (xf0, xf1, xf2, xf3, xf4, xf5, xf6, xf7, xf8, xf9, xA10, xc10, xb10, 2, xf14, xf15, xf16, xf17, xf18, xf19, xf20, xf21, xf22, xf23, xf24, xf25, xA26, xc26, xb26))) rfl rfl rfl rfl (by rfl) rfl rfl (by intro u hu; first | (rw [List.mem_singleton.1 hu]; rfl) | (simp only [List.mem_cons, List.not_mem_nil, or_false] at hu; rcases hu with rfl <;> rfl)) (by simp only [rows_length encCall_ok]; simp; omega) (rows_setf encCall_ok (xf0, xf1, xf2, xf3, xf4, xf5, xf6, xf7, xf8, xf9, xA10, xc10, xb10, 2, xf14, xf15, xf16, xf17, xf18, xf19, xf20, xf21, xf22, xf23, xf24, xf25, xA26, xc26, xb26) (hx) 11 [.int .i64 2] (zle rfl) rfl) rfl rfl ?_; clear hS; intro w13 C14 hO14 hS
 refine zR 2 ((45, vP b4 (o5 + (k * 25) + 14)) :: (44, vP b4 (o5 + (k * 25))) :: _) hA rfl fun a hA => ?_
 refine st_store_own tbOk hA hO14 hS ((k * 25) + 14) (o5 + (k * 25) + 14) [.int .u64 m0, .int .u64 m1, .int .u32 m2, .int .u16 m3, .int .u16 m4, .int .u64 m5, .int .u32 m6, .int .u8 m7, .int .u64 m8, .int .u64 m9, .slice A9 bs.length c10] (rows encCall ((cs.set k (xf0, xf1, xf2, xf3, xf4, xf5, xf6, xf7, xf8, xf9, xA10, xc10, xb10, 2, xf14, xf15, xf16, xf17, xf18, xf19, xf20, xf21, xf22, xf23, xf24, xf25, xA26, xc26, xb26)).set k (xf0, xf1, xf2, xf3, xf4, xf5, xf6, xf7, xf8, xf9, xA10, xc10, xb10, 2, xf14, xf15, m0, m1, m2, m3, m4, m5, m6, m7, m8, m9, A9, c10, bs))) rfl rfl rfl rfl (by rfl) rfl rfl (by intro u hu; first | (rw [List.mem_singleton.1 hu]; rfl) | (simp only [List.mem_cons, List.not_mem_nil, or_false] at hu; rcases hu with rfl | rfl | rfl | rfl | rfl | rfl | rfl | rfl | rfl | rfl | rfl <;> rfl)) (by simp only [rows_length encCall_ok]; simp; omega) (rows_setf encCall_ok (xf0, xf1, xf2, xf3, xf4, xf5, xf6, xf7, xf8, xf9, xA10, xc10, xb10, 2, xf14, xf15, m0, m1, m2, m3, m4, m5, m6, m7, m8, m9, A9, c10, bs) ((List.getElem?_set_self (by first | exact hkl | (simp only [List.length_set]; exact hkl)))) 14 [.int .u64 m0, .int .u64 m1, .int .u32 m2, .int .u16 m3, .int .u16 m4, .int .u64 m5, .int .u32 m6, .int .u8 m7, .int .u64 m8, .int .u64 m9, .slice A9 bs.length c10] (zle rfl) rfl) rfl rfl ?_; clear hS; intro w15 C16 hO16 hS
 refine zn (zx (zs (zr (zR 1 ((4, yT) :: _) hA rfl fun a hA => zn (zx ?_)))))
 refine wp_ret ?_
 refine ret1 (fn := Tryz.f67) hA rfl rfl ?_
 have hss : (cs.set k (xf0, xf1, xf2, xf3, xf4, xf5, xf6, xf7, xf8, xf9, xA10, xc10, xb10, 2, xf14, xf15, xf16, xf17, xf18, xf19, xf20, xf21, xf22, xf23, xf24, xf25, xA26, xc26, xb26)).set k (xf0, xf1, xf2, xf3, xf4, xf5, xf6, xf7, xf8, xf9, xA10, xc10, xb10, 2, xf14, xf15, m0, m1, m2, m3, m4, m5, m6, m7, m8, m9, A9, c10, bs) = cs.set k (xf0, xf1, xf2, xf3, xf4, xf5, xf6, xf7, xf8, xf9, xA10, xc10, xb10, 2, xf14, xf15, m0, m1, m2, m3, m4, m5, m6, m7, m8, m9, A9, c10, bs) := by rw [List.set_set]
 rw [hss] at hO16
 replace hS := hS.m3.d0.m2.m3.m3
 replace hS := hS.join
 replace hS := hS.m2.m2
 replace hS := hS.join
 exact ⟨_, _, _, _, ⟨_, _, (by rw [List.length_set]; exact hO16), rfl⟩, DD.new hOC11, rfl, hS⟩
set_option maxHeartbeats 4000000 in
theorem ctick65 {w0 w : World} {F : List Chunk} {L D : Chunk} {b : Nat} {p wt tr : Int} {cs : List Call} (hS : St w0 w (L :: D :: F)) (hM : CR b p wt tr cs L) (hcd : ∀ x ∈ cs, encCall_dd w0 D x) (hcs : ∀ x ∈ cs, csz x) (hcg : ∀ x ∈ cs, cgd x) (hl : cs.length ≤ 64) (hw0 : 0 ≤ wt) (hw1 : wt ≤ 1000) :
 Ret Tryz.prog 65 #[vP b 0] w (fun v w' => ∃ L' D' out Ao co Co, CR b p wt tr (cs.map (tick1 wt tr)) L' ∧ Own 46 11 (.slice Ao out.length co) out.length (rows encMessage out) Co ∧ out.map mst = (cs.filter (again1 tr)).map (fun x => mst (rq x)) ∧ (∀ y ∈ out, encMessage_dd w0 D' y) ∧ DX w0 D D' ∧ v = .slice Ao out.length co ∧ St w0 w' (Co :: L' :: D' :: F)) := by
 obtain ⟨v, C, hO, rfl⟩ := hM
 obtain ⟨A, c, rfl, hmc, hcx⟩ := hO.open'
 replace hS : St w0 w ([(b, rowO [.int .u64 p, .int .i64 wt, .int .i64 tr, .slice A cs.length c] 176)] :: C :: D :: F) := hS.split
 have hcap := hO.rcap
 refine enter (vs := [vP b 0]) 76 Tryz.func65 rfl rfl (by simp) ?_; intro a hA
 refine zs (zr (zR 1 ((2, yS) :: _) hA rfl fun a hA => zn (zx (zs (zr (zR 1 ((3, yS) :: _) hA rfl fun a hA => zn (zx (zs (zs (zr (zR 3 ((8, vP b 3) :: (7, vP b 0) :: (6, vP b 0) :: _) hA rfl fun a hA => zL hA hS 0 rfl rfl rfl rfl rfl rfl rfl rfl rfl fun a hA => zR 2 ((11, yI) :: (10, vI cs.length) :: _) hA rfl fun a hA => zn (zx (zb ?_)))))))))))))
 replace hS := hS.nil
 replace hS := hS.m3.m3.m3
 refine wp_loop_ghost (fun m a w => ∃ (j : Nat) (out : List Msg) (C : Chunk) (D' : Chunk) (Au : Option Addr) (cu : Nat) (U : Chunk), m = cs.length - j ∧ Has a 76 [(0, vP b 0), (3, .slice Au out.length cu), (10, vI cs.length), (11, vI j)] ∧ St w0 w ([(b, rowO [.int .u64 p, .int .i64 wt, .int .i64 tr, .slice A cs.length c] 176)] :: C :: D' :: U :: F) ∧ (j ≤ cs.length) ∧ (Own 186 25 (.slice A cs.length c) cs.length (rows encCall (tkl wt tr cs j)) C) ∧ (Own 46 11 (.slice Au out.length cu) out.length (rows encMessage out) U) ∧ (out.map mst = agl tr cs j) ∧ (∀ y ∈ out, encMessage_dd w0 D' y) ∧ (DX w0 D D') ∧ (∀ x ∈ cs, encCall_dd w0 D' x)) (cs.length - 0)
  ⟨0, ([]), C, D, none, 0, ([]), rfl, (hA.sel [0, 3, 10, 11] rfl), hS, Nat.zero_le _, (by rw [tkl_zero]; exact hO), (Own.nil 46 11), rfl, fun y hy => by simp at hy, DX.refl, hcd⟩ ?_
 clear hA hS; rintro m0 a w1 ⟨j, out, C, D', Au, cu, U, rfl, hA, hS, hj, hO, hU, hum, hud, hdx, hcd2⟩
 have hol : out.length ≤ j := by
  have h := congrArg List.length hum
  rw [List.length_map] at h
  rw [h]; exact agl_le tr cs j
 refine zs (zr (zR 1 ((12, .bool (decide (((j : Nat) : Int) < ((cs.length : Nat) : Int)))) :: _) hA rfl fun a hA => zn (zx (zs ?_))))
 by_cases hc2 : ((j : Nat) : Int) < ((cs.length : Nat) : Int)
 · first
   | (exfalso; omega)
   | (replace hA := hA.rw 12 (v' := yT) rfl (vb_true hc2)
      refine cd_cond_t hA rfl (zk (zx (zs (zb (zs (zr (zR 2 ((4, vI j) :: (13, vI j) :: _) hA rfl fun a hA => zn (zx (zs (zr ?_))))))))))
      obtain ⟨x, hxj⟩ := get_ex (l := cs) (k := j) (by omega)
      have gx : (tkl wt tr cs j)[j]? = some x := tkl_at hxj
      have hkl : j < (tkl wt tr cs j).length := by rw [tkl_len]; omega
      have hdxj := hcd2 _ (List.mem_of_getElem? hxj); have hsxj := hcs _ (List.mem_of_getElem? hxj); have hgxj := hcg _ (List.mem_of_getElem? hxj)
      obtain ⟨xf0, xf1, xf2, xf3, xf4, xf5, xf6, xf7, xf8, xf9, xA10, xc10, xb10, xf13, xf14, xf15, xf16, xf17, xf18, xf19, xf20, xf21, xf22, xf23, xf24, xf25, xA26, xc26, xb26⟩ := x
      dsimp only [csz, mdat, rq, rp] at hsxj; dsimp only [cgd, cst, clf, ctr] at hgxj
      refine zR 3 ((16, vP b 3) :: (15, vP b 0) :: (14, vP b 0) :: _) hA rfl fun a hA => zL hA hS 0 rfl rfl rfl rfl rfl rfl rfl rfl rfl fun a hA => zR 1 ((18, vI j) :: _) hA rfl fun a hA => ?_
      obtain ⟨b3, o4, rfl⟩ := hO.isSome (k := j) (by omega)
      refine st_val hA rfl rfl (by decide) (rn_indexAddr tbOk hA j (o4 + (j * 25)) rfl rfl rfl rfl rfl rfl (by rfl) (by omega) (by first | rfl | simp [Nat.mul_one, Nat.zero_add] | omega)) fun a hA => zR 1 ((5, vP b3 (o4 + (j * 25))) :: _) hA rfl fun a hA => zn (zx (zs (zs (zr (zR 3 ((22, vP b3 (o4 + (j * 25) + 11)) :: (21, vP b3 (o4 + (j * 25))) :: (20, vP b3 (o4 + (j * 25))) :: _) hA rfl fun a hA => st_val hA rfl rfl (by decide) (rn_load tbOk hA rfl rfl rfl rfl ((hO.rd (hS.own_ 1 rfl)).elemf (k := j) encCall_ok gx (j := 11) rfl)) fun a hA => zR 1 ((24, .bool (xf13 != 1)) :: _) hA rfl fun a hA => zn (zx ?_))))))
      by_cases hc5 : xf13 = 1
      · first
        | (exfalso; omega)
        | (replace hA := hA.rw 24 (v' := yF) rfl (vb_ne_f hc5)
           refine cd_cond_f hA rfl (zk (zx (zs (zr ?_))))
           have hst8 : xf13 = 1 := by omega
           have hgx2 := hgxj hst8
           refine zR 3 ((27, vP b3 (o4 + (j * 25) + 13)) :: (26, vP b3 (o4 + (j * 25))) :: (25, vP b3 (o4 + (j * 25))) :: _) hA rfl fun a hA => st_val hA rfl rfl (by decide) (rn_load tbOk hA rfl rfl rfl rfl ((hO.rd (hS.own_ 1 rfl)).elemf (k := j) encCall_ok gx (j := 13) rfl)) fun a hA => zR 1 ((29, .int .i64 (IntKind.i64.wrap (xf15 - 1))) :: _) hA rfl fun a hA => ?_
           replace hA := hA.rw 29 (v' := .int .i64 (xf15 - 1)) rfl (wr64 (by omega) (by omega) (by omega))
           refine zR 2 ((31, vP b3 (o4 + (j * 25) + 13)) :: (30, vP b3 (o4 + (j * 25))) :: _) hA rfl fun a hA => ?_
           replace hS := hS.m1
           refine st_store_own tbOk hA hO hS ((j * 25) + 13) (o4 + (j * 25) + 13) [.int .i64 (xf15 - 1)] (rows encCall ((tkl wt tr cs j).set j (xf0, xf1, xf2, xf3, xf4, xf5, xf6, xf7, xf8, xf9, xA10, xc10, xb10, xf13, xf14, xf15 - 1, xf16, xf17, xf18, xf19, xf20, xf21, xf22, xf23, xf24, xf25, xA26, xc26, xb26))) rfl rfl rfl rfl (by rfl) rfl rfl (by intro u hu; first | (rw [List.mem_singleton.1 hu]; rfl) | (simp only [List.mem_cons, List.not_mem_nil, or_false] at hu; rcases hu with rfl <;> rfl)) (by simp only [rows_length encCall_ok, List.length_set, tkl_len]; simp; omega) (rows_setf encCall_ok (xf0, xf1, xf2, xf3, xf4, xf5, xf6, xf7, xf8, xf9, xA10, xc10, xb10, xf13, xf14, xf15 - 1, xf16, xf17, xf18, xf19, xf20, xf21, xf22, xf23, xf24, xf25, xA26, xc26, xb26) (gx) 13 [.int .i64 (xf15 - 1)] (zle rfl) rfl) rfl rfl ?_; clear hS; intro w6 C7 hO7 hS
           refine zn (zx (zb (zs (zr (zR 3 ((58, vP b3 (o4 + (j * 25) + 13)) :: (57, vP b3 (o4 + (j * 25))) :: (56, vP b3 (o4 + (j * 25))) :: _) hA rfl fun a hA => ?_)))))
           refine st_val hA rfl rfl (by decide) (rn_load tbOk hA rfl rfl rfl rfl ((hO7.rd (hS.own_ 0 rfl)).elemf (k := j) encCall_ok (List.getElem?_set_self (by simp only [List.length_set, tkl_len]; omega)) (j := 13) rfl)) fun a hA => ?_
           refine zR 2 ((55, .bool (decide (xf15 - 1 > 0))) :: (60, .bool (decide (xf15 - 1 > 0))) :: _) hA rfl fun a hA => zn (zx ?_)
           by_cases hc8 : xf15 - 1 > 0
           · first
             | (exfalso; omega)
             | (replace hA := hA.rw 55 (v' := yT) rfl (vb_true hc8)
                refine cd_cond_t hA rfl (zk (zm (zm (zx (zr (zR 1 ((74, .int .i64 (IntKind.i64.wrap (((j : Nat) : Int) + 1))) :: _) hA rfl fun a hA => ?_))))))
                replace hA := hA.rw 74 (v' := vI (j + 1)) rfl (wr64 (by omega) (by omega) (by omega))
                refine zR 1 ((11, vI (j + 1)) :: _) hA rfl fun a hA => zn ?_
                have hss : (tkl wt tr cs j).set j (xf0, xf1, xf2, xf3, xf4, xf5, xf6, xf7, xf8, xf9, xA10, xc10, xb10, xf13, xf14, xf15 - 1, xf16, xf17, xf18, xf19, xf20, xf21, xf22, xf23, xf24, xf25, xA26, xc26, xb26) = tkl wt tr cs (j + 1) := by (try simp only [List.set_set]); exact tkl_step hxj (y := (xf0, xf1, xf2, xf3, xf4, xf5, xf6, xf7, xf8, xf9, xA10, xc10, xb10, xf13, xf14, xf15 - 1, xf16, xf17, xf18, xf19, xf20, xf21, xf22, xf23, xf24, xf25, xA26, xc26, xb26)) (tick_a (by dsimp only [cst]; omega) (by dsimp only [clf]; omega))
                have hU1 : out.map mst = agl tr cs (j + 1) := by rw [agl_n hxj (ag_n (by dsimp only [cst, clf, ctr]; omega))]; exact hum
                rw [hss] at hO7
                replace hS := hS.m3.m3.m2.m3
                exact lp_next _ (by omega) ⟨(j + 1), (out), C7, D', Au, cu, U, rfl, (hA.sel [0, 3, 10, 11] rfl), hS, by omega, hO7, hU, hU1, hud, hdx, hcd2⟩)
           · first
             | (exfalso; omega)
             | (replace hA := hA.rw 55 (v' := yF) rfl (vb_false hc8)
                refine cd_cond_f hA rfl (zs ?_)
                refine zD0 hS [] [(0, true), (1, true), (2, true), (3, true), (4, true), (5, true), (6, true), (7, true), (8, true), (9, true)] mixed (by kernel_rfl) (by rintro c a w ⟨_, _, h, _⟩; cases h) (by rfl) (by kernel_rfl) ?_
                replace hS := hS.drew
                refine zW 3 ((64, vP b3 (o4 + (j * 25) + 12)) :: (63, vP b3 (o4 + (j * 25))) :: (62, vP b3 (o4 + (j * 25))) :: _) hA hS rfl fun a hA => ?_
                refine dr_y hA rfl rfl rfl (by decide) hS (fun w' hS' => rn_load tbOk hA rfl rfl rfl rfl ((hO7.rd (hS'.own_ 0 rfl)).elemf (k := j) encCall_ok (List.getElem?_set_self (by simp only [List.length_set, tkl_len]; omega)) (j := 12) rfl)) fun a hA => ?_
                refine zW 3 ((68, vP b 2) :: (67, vP b 0) :: (66, vP b 0) :: _) hA hS rfl fun a hA => zY hA hS 1 rfl rfl rfl rfl rfl rfl rfl rfl rfl rfl fun a hA => zW 2 ((61, .bool (xf14 == tr)) :: (70, .bool (xf14 == tr)) :: _) hA hS rfl fun a hA => ze (zx ?_)
                by_cases hc9 : xf14 = tr
                · first
                  | (exfalso; omega)
                  | (replace hA := hA.rw 61 (v' := yT) rfl (vb_eq_t hc9)
                     refine cd_cond_t hA rfl (zr (zR 3 ((73, vP b3 (o4 + (j * 25) + 11)) :: (72, vP b3 (o4 + (j * 25))) :: (71, vP b3 (o4 + (j * 25))) :: _) hA rfl fun a hA => ?_))
                     refine st_store_own tbOk hA hO7 hS ((j * 25) + 11) (o4 + (j * 25) + 11) [.int .i64 3] (rows encCall (((tkl wt tr cs j).set j (xf0, xf1, xf2, xf3, xf4, xf5, xf6, xf7, xf8, xf9, xA10, xc10, xb10, xf13, xf14, xf15 - 1, xf16, xf17, xf18, xf19, xf20, xf21, xf22, xf23, xf24, xf25, xA26, xc26, xb26)).set j (xf0, xf1, xf2, xf3, xf4, xf5, xf6, xf7, xf8, xf9, xA10, xc10, xb10, 3, xf14, xf15 - 1, xf16, xf17, xf18, xf19, xf20, xf21, xf22, xf23, xf24, xf25, xA26, xc26, xb26))) rfl rfl rfl rfl (by rfl) rfl rfl (by intro u hu; first | (rw [List.mem_singleton.1 hu]; rfl) | (simp only [List.mem_cons, List.not_mem_nil, or_false] at hu; rcases hu with rfl <;> rfl)) (by simp only [rows_length encCall_ok, List.length_set, tkl_len]; simp; omega) (rows_setf encCall_ok (xf0, xf1, xf2, xf3, xf4, xf5, xf6, xf7, xf8, xf9, xA10, xc10, xb10, 3, xf14, xf15 - 1, xf16, xf17, xf18, xf19, xf20, xf21, xf22, xf23, xf24, xf25, xA26, xc26, xb26) ((List.getElem?_set_self (by first | exact hkl | (simp only [List.length_set]; exact hkl)))) 11 [.int .i64 3] (zle rfl) rfl) rfl rfl ?_; clear hS; intro w10 C11 hO11 hS
                     refine zn (zm (zm (zx (zr (zR 1 ((74, .int .i64 (IntKind.i64.wrap (((j : Nat) : Int) + 1))) :: _) hA rfl fun a hA => ?_)))))
                     replace hA := hA.rw 74 (v' := vI (j + 1)) rfl (wr64 (by omega) (by omega) (by omega))
                     refine zR 1 ((11, vI (j + 1)) :: _) hA rfl fun a hA => zn ?_
                     have hss : ((tkl wt tr cs j).set j (xf0, xf1, xf2, xf3, xf4, xf5, xf6, xf7, xf8, xf9, xA10, xc10, xb10, xf13, xf14, xf15 - 1, xf16, xf17, xf18, xf19, xf20, xf21, xf22, xf23, xf24, xf25, xA26, xc26, xb26)).set j (xf0, xf1, xf2, xf3, xf4, xf5, xf6, xf7, xf8, xf9, xA10, xc10, xb10, 3, xf14, xf15 - 1, xf16, xf17, xf18, xf19, xf20, xf21, xf22, xf23, xf24, xf25, xA26, xc26, xb26) = tkl wt tr cs (j + 1) := by (try simp only [List.set_set]); exact tkl_step hxj (y := (xf0, xf1, xf2, xf3, xf4, xf5, xf6, xf7, xf8, xf9, xA10, xc10, xb10, 3, xf14, xf15 - 1, xf16, xf17, xf18, xf19, xf20, xf21, xf22, xf23, xf24, xf25, xA26, xc26, xb26)) (tick_b (by dsimp only [cst]; omega) (by dsimp only [clf]; omega) (by dsimp only [ctr]; omega))
                     have hU1 : out.map mst = agl tr cs (j + 1) := by rw [agl_n hxj (ag_n (by dsimp only [cst, clf, ctr]; omega))]; exact hum
                     rw [hss] at hO11
                     replace hS := hS.m3.m3.m2.m3
                     exact lp_next _ (by omega) ⟨(j + 1), (out), C11, D', Au, cu, U, rfl, (hA.sel [0, 3, 10, 11] rfl), hS, by omega, hO11, hU, hU1, hud, hdx, hcd2⟩)
                · first
                  | (exfalso; omega)
                  | (replace hA := hA.rw 61 (v' := yF) rfl (vb_eq_f hc9)
                     refine cd_cond_f hA rfl (zs ?_)
                     refine zD1 hS [] [(0, true), (1, true), (2, true), (3, true), (4, true), (7, true), (8, true), (9, true), (10, true), (5, false), (6, true), (11, true), (12, true), (13, false), (14, true), (15, true), (16, false)] mixed (by kernel_rfl) (by rintro c a w ⟨_, _, h, _⟩; cases h) (by rfl) (by kernel_rfl) ?_
                     replace hS := hS.drew
                     refine zW 8 ((41, vP b 1) :: (40, vP b 0) :: (39, vP b 0) :: (36, vP b3 (o4 + (j * 25) + 12)) :: (35, vP b3 (o4 + (j * 25))) :: (34, vP b3 (o4 + (j * 25))) :: (33, vP b3 (o4 + (j * 25))) :: (32, vP b3 (o4 + (j * 25))) :: _) hA (hS.tail 1 rfl) rfl fun a hA => zY hA (hS.tail 1 rfl) 0 rfl rfl rfl rfl rfl rfl rfl rfl rfl rfl fun a hA => dr_b (o := _) rfl ?_
                     refine st_val hA rfl rfl (by decide) (rn_load tbOk hA rfl rfl rfl rfl ((hO7.rd (hS.own_ 0 rfl)).elemf (k := j) encCall_ok (List.getElem?_set_self (by simp only [List.length_set, tkl_len]; omega)) (j := 12) rfl)) fun a hA => ?_
                     refine zi (hS.tail 1 rfl) (zW 1 ((38, .int .i64 (IntKind.i64.wrap (xf14 + 1))) :: _) hA (hS.tail 1 rfl) rfl fun a hA => ?_)
                     replace hA := hA.rw 38 (v' := .int .i64 (xf14 + 1)) rfl (wr64 (by omega) (by omega) (by omega))
                     refine zW 2 ((44, vP b3 (o4 + (j * 25) + 12)) :: (43, vP b3 (o4 + (j * 25))) :: _) hA (hS.tail 1 rfl) rfl fun a hA => dr_b (o := _) rfl ?_
                     refine st_store_own tbOk hA hO7 hS ((j * 25) + 12) (o4 + (j * 25) + 12) [.int .i64 (xf14 + 1)] (rows encCall (((tkl wt tr cs j).set j (xf0, xf1, xf2, xf3, xf4, xf5, xf6, xf7, xf8, xf9, xA10, xc10, xb10, xf13, xf14, xf15 - 1, xf16, xf17, xf18, xf19, xf20, xf21, xf22, xf23, xf24, xf25, xA26, xc26, xb26)).set j (xf0, xf1, xf2, xf3, xf4, xf5, xf6, xf7, xf8, xf9, xA10, xc10, xb10, xf13, xf14 + 1, xf15 - 1, xf16, xf17, xf18, xf19, xf20, xf21, xf22, xf23, xf24, xf25, xA26, xc26, xb26))) rfl rfl rfl rfl (by rfl) rfl rfl (by intro u hu; first | (rw [List.mem_singleton.1 hu]; rfl) | (simp only [List.mem_cons, List.not_mem_nil, or_false] at hu; rcases hu with rfl <;> rfl)) (by simp only [rows_length encCall_ok, List.length_set, tkl_len]; simp; omega) (rows_setf encCall_ok (xf0, xf1, xf2, xf3, xf4, xf5, xf6, xf7, xf8, xf9, xA10, xc10, xb10, xf13, xf14 + 1, xf15 - 1, xf16, xf17, xf18, xf19, xf20, xf21, xf22, xf23, xf24, xf25, xA26, xc26, xb26) ((List.getElem?_set_self (by first | exact hkl | (simp only [List.length_set]; exact hkl)))) 12 [.int .i64 (xf14 + 1)] (zle rfl) rfl) rfl rfl ?_; clear hS; intro w12 C13 hO13 hS
                     refine zi (hS.tail 1 rfl) (zW 2 ((46, vP b3 (o4 + (j * 25) + 13)) :: (45, vP b3 (o4 + (j * 25))) :: _) hA (hS.tail 1 rfl) rfl fun a hA => dr_b (o := _) rfl ?_)
                     refine st_store_own tbOk hA hO13 hS ((j * 25) + 13) (o4 + (j * 25) + 13) [.int .i64 wt] (rows encCall ((((tkl wt tr cs j).set j (xf0, xf1, xf2, xf3, xf4, xf5, xf6, xf7, xf8, xf9, xA10, xc10, xb10, xf13, xf14, xf15 - 1, xf16, xf17, xf18, xf19, xf20, xf21, xf22, xf23, xf24, xf25, xA26, xc26, xb26)).set j (xf0, xf1, xf2, xf3, xf4, xf5, xf6, xf7, xf8, xf9, xA10, xc10, xb10, xf13, xf14 + 1, xf15 - 1, xf16, xf17, xf18, xf19, xf20, xf21, xf22, xf23, xf24, xf25, xA26, xc26, xb26)).set j (xf0, xf1, xf2, xf3, xf4, xf5, xf6, xf7, xf8, xf9, xA10, xc10, xb10, xf13, xf14 + 1, wt, xf16, xf17, xf18, xf19, xf20, xf21, xf22, xf23, xf24, xf25, xA26, xc26, xb26))) rfl rfl rfl rfl (by rfl) rfl rfl (by intro u hu; first | (rw [List.mem_singleton.1 hu]; rfl) | (simp only [List.mem_cons, List.not_mem_nil, or_false] at hu; rcases hu with rfl <;> rfl)) (by simp only [rows_length encCall_ok, List.length_set, tkl_len]; simp; omega) (rows_setf encCall_ok (xf0, xf1, xf2, xf3, xf4, xf5, xf6, xf7, xf8, xf9, xA10, xc10, xb10, xf13, xf14 + 1, wt, xf16, xf17, xf18, xf19, xf20, xf21, xf22, xf23, xf24, xf25, xA26, xc26, xb26) ((List.getElem?_set_self (by first | exact hkl | (simp only [List.length_set]; exact hkl)))) 13 [.int .i64 wt] (zle rfl) rfl) rfl rfl ?_; clear hS; intro w14 C15 hO15 hS
                     refine zi (hS.tail 1 rfl) (ze (zx (zr (zR 4 ((50, vP b3 (o4 + (j * 25))) :: (49, vP b3 (o4 + (j * 25))) :: (48, vP b3 (o4 + (j * 25))) :: (47, .slice Au out.length cu) :: _) hA rfl fun a hA => ?_))))
                     refine st_val hA rfl rfl (by decide) (rn_loadA tbOk hA ([.int .u64 xf0, .int .u64 xf1, .int .u32 xf2, .int .u16 xf3, .int .u16 xf4, .int .u64 xf5, .int .u32 xf6, .int .u8 xf7, .int .u64 xf8, .int .u64 xf9, .slice xA10 xb10.length xc10]) rfl rfl rfl rfl (by rfl) (elemp encCall_ok (hO15.rd (hS.own_ 0 rfl)) (k := j) (List.getElem?_set_self (by simp only [List.length_set, tkl_len]; omega)) (j := 0) (n := 11) rfl)) fun a hA => ?_
                     refine st_call0 hA rfl rfl rfl isfn84 rfl rfl (by decide) (ccop84 hS xf0 xf1 xf2 xf3 xf4 xf5 xf6 xf7 xf8 xf9 (bs := xb10) (fun w' h => (hdxj.1 _ (h.only 2 rfl))) (by omega)) ?_
                     clear hA hS; rintro _ w19 a ⟨A16, c17, C18, hOC18, rfl, hS⟩ hA
                     refine st_buildSlice tbOk hA hS [.int .u64 xf0, .int .u64 xf1, .int .u32 xf2, .int .u16 xf3, .int .u16 xf4, .int .u64 xf5, .int .u32 xf6, .int .u8 xf7, .int .u64 xf8, .int .u64 xf9, .slice A16 xb10.length c17] rfl rfl rfl rfl rfl (by decide) (by kernel_rfl) rfl rfl (by decide) fun b20 w21 a hS hA => ?_
                     replace hS := hS.m5
                     refine st_append tbOk hA (m := out.length) (q := 1) (xs := rows encMessage out) (news := rows encMessage ([(xf0, xf1, xf2, xf3, xf4, xf5, xf6, xf7, xf8, xf9, A16, c17, xb10)] : List (Int × Int × Int × Int × Int × Int × Int × Int × Int × Int × Option Addr × Nat × List UInt8))) rfl rfl rfl rfl rfl rfl rfl rfl (by decide) hU hS (((Own.full (T := 46) (size := 11) (g := b20) (m := 1) rfl (by decide)).rd (hS.own_ 1 rfl)).x) (rows_one encMessage_ok _) (maxLen_le (by first | omega | (simp; omega))) (by show (out.length + 1) * 80 ≤ 140737488355328; first | omega | (simp; omega)) rfl rfl (by decide) ?_
                     clear hA hS; intro v22 w23 C24 a hO24 hS hA
                     replace hO24 := Own.app (l := out) (l2 := ([(xf0, xf1, xf2, xf3, xf4, xf5, xf6, xf7, xf8, xf9, A16, c17, xb10)] : List (Int × Int × Int × Int × Int × Int × Int × Int × Int × Int × Option Addr × Nat × List UInt8))) hO24
                     obtain ⟨A25, c26, rfl, hmc26, hxc26⟩ := hO24.open'
                     refine zR 1 ((3, .slice A25 ((out ++ ([(xf0, xf1, xf2, xf3, xf4, xf5, xf6, xf7, xf8, xf9, A16, c17, xb10)] : List (Int × Int × Int × Int × Int × Int × Int × Int × Int × Int × Option Addr × Nat × List UInt8))).length) c26) :: _) hA rfl fun a hA => zn (zm (zm (zx (zr (zR 1 ((74, .int .i64 (IntKind.i64.wrap (((j : Nat) : Int) + 1))) :: _) hA rfl fun a hA => ?_)))))
                     replace hA := hA.rw 74 (v' := vI (j + 1)) rfl (wr64 (by omega) (by omega) (by omega))
                     refine zR 1 ((11, vI (j + 1)) :: _) hA rfl fun a hA => zn ?_
                     have hss : (((tkl wt tr cs j).set j (xf0, xf1, xf2, xf3, xf4, xf5, xf6, xf7, xf8, xf9, xA10, xc10, xb10, xf13, xf14, xf15 - 1, xf16, xf17, xf18, xf19, xf20, xf21, xf22, xf23, xf24, xf25, xA26, xc26, xb26)).set j (xf0, xf1, xf2, xf3, xf4, xf5, xf6, xf7, xf8, xf9, xA10, xc10, xb10, xf13, xf14 + 1, xf15 - 1, xf16, xf17, xf18, xf19, xf20, xf21, xf22, xf23, xf24, xf25, xA26, xc26, xb26)).set j (xf0, xf1, xf2, xf3, xf4, xf5, xf6, xf7, xf8, xf9, xA10, xc10, xb10, xf13, xf14 + 1, wt, xf16, xf17, xf18, xf19, xf20, xf21, xf22, xf23, xf24, xf25, xA26, xc26, xb26) = tkl wt tr cs (j + 1) := by (try simp only [List.set_set]); exact tkl_step hxj (y := (xf0, xf1, xf2, xf3, xf4, xf5, xf6, xf7, xf8, xf9, xA10, xc10, xb10, xf13, xf14 + 1, wt, xf16, xf17, xf18, xf19, xf20, xf21, xf22, xf23, xf24, xf25, xA26, xc26, xb26)) (tick_c (by dsimp only [cst]; omega) (by dsimp only [clf]; omega) (by dsimp only [ctr]; omega))
                     have hU1 : (out ++ ([(xf0, xf1, xf2, xf3, xf4, xf5, xf6, xf7, xf8, xf9, A16, c17, xb10)] : List (Int × Int × Int × Int × Int × Int × Int × Int × Int × Int × Option Addr × Nat × List UInt8))).map mst = agl tr cs (j + 1) := by rw [List.map_append, hum, agl_y hxj (ag_y (by dsimp only [cst]; omega) (by dsimp only [clf]; omega) (by dsimp only [ctr]; omega))]; rfl
                     rw [hss] at hO15
                     replace hS := hS.m1.d0.m2.m3.m4.m4
                     replace hS := hS.join
                     have hud2 : ∀ y ∈ (out ++ ([(xf0, xf1, xf2, xf3, xf4, xf5, xf6, xf7, xf8, xf9, A16, c17, xb10)] : List (Int × Int × Int × Int × Int × Int × Int × Int × Int × Int × Option Addr × Nat × List UInt8))), encMessage_dd w0 (C18 ++ D') y := msg_snoc hud (DD.new hOC18).right
                     replace hS := hS.m3.m1.m3.m3
                     exact lp_next _ (by omega) ⟨(j + 1), (out ++ ([(xf0, xf1, xf2, xf3, xf4, xf5, xf6, xf7, xf8, xf9, A16, c17, xb10)] : List (Int × Int × Int × Int × Int × Int × Int × Int × Int × Int × Option Addr × Nat × List UInt8))), C15, (C18 ++ D'), A25, c26, C24, rfl, (hA.sel [0, 3, 10, 11] rfl), hS, by omega, hO15, hO24, hU1, hud2, hdx.step, (encCall_lefts hcd2)⟩)))
      · first
        | (exfalso; omega)
        | (replace hA := hA.rw 24 (v' := yT) rfl (vb_ne_t hc5)
           refine cd_cond_t hA rfl ?_
           refine wp_exit ?_
           refine xt_exit (cd_exit_eq (zx (zr (zR 1 ((74, .int .i64 (IntKind.i64.wrap (((j : Nat) : Int) + 1))) :: _) hA rfl fun a hA => ?_))))
           replace hA := hA.rw 74 (v' := vI (j + 1)) rfl (wr64 (by omega) (by omega) (by omega))
           refine zR 1 ((11, vI (j + 1)) :: _) hA rfl fun a hA => zn ?_
           have hst9 : ¬ cst (xf0, xf1, xf2, xf3, xf4, xf5, xf6, xf7, xf8, xf9, xA10, xc10, xb10, xf13, xf14, xf15, xf16, xf17, xf18, xf19, xf20, xf21, xf22, xf23, xf24, xf25, xA26, xc26, xb26) = 1 := by dsimp only [cst]; omega
           have hss : tkl wt tr cs j = tkl wt tr cs (j + 1) := tkl_same hxj (tick_n hst9)
           have hU1 : out.map mst = agl tr cs (j + 1) := by rw [agl_n hxj (ag_n (fun h => hst9 h.1))]; exact hum
           rw [hss] at hO
           replace hS := hS.m3.m3.m3.m3
           exact lp_next _ (by omega) ⟨(j + 1), (out), C, D', Au, cu, U, rfl, (hA.sel [0, 3, 10, 11] rfl), hS, by omega, hO, hU, hU1, hud, hdx, hcd2⟩))
 · first
   | (exfalso; omega)
   | (replace hA := hA.rw 12 (v' := yF) rfl (vb_false hc2)
      refine cd_cond_f hA rfl ?_
      refine wp_exit ?_
      refine xt_exit (xt_exit (cd_exit_eq (zx (zs (zr (zR 2 ((2, .slice Au out.length cu) :: (75, .slice Au out.length cu) :: _) hA rfl fun a hA => zn (zx ?_)))))))
      refine wp_ret ?_
      refine ret1 (fn := Tryz.f65) hA rfl rfl ?_
      have hjl : j = cs.length := by omega
      subst hjl
      rw [tkl_all] at hO; rw [agl_all] at hum
      replace hS := hS.m3.m3.m3.m3
      replace hS := hS.join
      replace hS := hS.m2
      exact ⟨_, _, out, _, _, _, ⟨_, _, (by rw [List.length_map]; exact hO), rfl⟩, hU, hum, hud, hdx, rfl, hS⟩)
end Go.Proofs.YthiakdmhpfkjbaaGreatDoor
