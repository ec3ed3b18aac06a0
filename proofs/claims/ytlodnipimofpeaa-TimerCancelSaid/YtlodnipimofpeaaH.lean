import Derived.Test.YtlodnipimofpeaaG
set_option linter.unusedVariables false
set_option linter.unusedSimpArgs false
set_option maxRecDepth 4000
namespace Go.Proofs.Ytlodnipimofpeaa
open Go Go.SK
def at_ (l : List UInt8) (i : Nat) : Int := ((1 + ((l[i]?).elim 0 UInt8.toNat) % 30 : Nat) : Int)
theorem at_get {l : List UInt8} {i : Nat} {x : UInt8} (h : l[i]? = some x) : at_ l i = ((1 + x.toNat % 30 : Nat) : Int) := by rw [at_, h]; rfl
theorem at_b (l : List UInt8) (i : Nat) : 1 ≤ at_ l i ∧ at_ l i ≤ 30 := by
  rw [at_]; have := Nat.mod_lt ((l[i]?).elim 0 UInt8.toNat) (show 0 < 30 by decide); omega
def tks (l : List UInt8) (k : Nat) : List (Int × Int) := (List.range k).map (fun i => (((i : Nat) : Int), at_ l i))
theorem tks_len (l : List UInt8) (k : Nat) : (tks l k).length = k := by simp [tks]
theorem tks_mem {l : List UInt8} {k : Nat} {x : Int × Int} (h : x ∈ tks l k) : ∃ i : Nat, i < k ∧ x = (((i : Nat) : Int), at_ l i) := by
  obtain ⟨i, hi, rfl⟩ := List.mem_map.1 h
  exact ⟨i, List.mem_range.1 hi, rfl⟩
theorem tks_out {l : List UInt8} {k : Nat} {g : Int} (h : g < 0 ∨ ((k : Nat) : Int) ≤ g) : (tks l k).filter (fun x => !(wid g x)) = tks l k := by
  rw [List.filter_eq_self]; intro x hx
  obtain ⟨i, hi, rfl⟩ := tks_mem hx
  simp [wid]; omega
theorem tks_succ (l : List UInt8) (k : Nat) : tks l (k + 1) = tks l k ++ [(((k : Nat) : Int), at_ l k)] := by
  rw [tks, List.range_succ, List.map_append]; rfl
theorem tks_cut (l : List UInt8) (g : Nat) : ∀ k : Nat, ((tks l k).filter (fun x => !(wid ((g : Nat) : Int) x))).length = if g < k then k - 1 else k
  | 0 => by simp [tks]
  | k + 1 => by
    rw [tks_succ, List.filter_append, List.length_append, tks_cut l g k]
    by_cases h : k = g
    · subst h; simp [wid]
    · have : ¬ ((k : Nat) : Int) = ((g : Nat) : Int) := by omega
      simp only [List.filter_cons, wid, beq_iff_eq, this, Bool.not_eq_true', beq_eq_false_iff_ne, ne_eq, not_false_eq_true, if_true, List.filter_nil, List.length_cons, List.length_nil]
      split <;> split <;> omega
def QA (l : List UInt8) (n : Nat) (gone : Int) (now : Int) (x : Int × Int) : Prop := ∃ i : Nat, i < n ∧ x = (((i : Nat) : Int), at_ l i) ∧ ¬ ((i : Nat) : Int) = gone ∧ now < at_ l i
theorem qa_start (l : List UInt8) (n : Nat) (gone : Int) : ∀ x ∈ (tks l n).filter (fun x => !(wid gone x)), QA l n gone 0 x := fun x hx => by
  obtain ⟨h1, h2⟩ := List.mem_filter.1 hx
  obtain ⟨i, hi, rfl⟩ := tks_mem h1
  exact ⟨i, hi, rfl, by simpa [wid] using h2, by have := at_b l i; omega⟩
theorem qa_step {l : List UInt8} {n : Nat} {gone now : Int} {al : List (Int × Int)} (h : ∀ x ∈ al, QA l n gone now x) : ∀ x ∈ al.filter (fun x => !(wat (now + 1) x)), QA l n gone (now + 1) x := fun x hx => by
  obtain ⟨h1, h2⟩ := List.mem_filter.1 hx
  obtain ⟨i, hi, rfl, hg, hn⟩ := h x h1
  have h3 : ¬ at_ l i = now + 1 := by simpa [wat] using h2
  exact ⟨i, hi, rfl, hg, by omega⟩
theorem qa_end {l : List UInt8} {n : Nat} {gone now : Int} {al : List (Int × Int)} (h : ∀ x ∈ al, QA l n gone now x) (hn : 30 ≤ now) : al = [] := by
  cases al with
  | nil => rfl
  | cons x xs =>
    obtain ⟨i, hi, e, hg, hl⟩ := h x (by simp)
    have := at_b l i; omega
theorem ring_cnt (now : Int) : ∀ al : List (Int × Int), (ring al now al.length).length + (al.filter (fun x => !(wat now x))).length = al.length := fun al => by
  rw [ring, List.take_length, List.length_map]
  induction al with
  | nil => rfl
  | cons x xs ih =>
    cases h : wat now x <;> simp only [List.filter_cons, h, Bool.not_false, Bool.not_true, if_true, List.length_cons, Bool.false_eq_true, if_false] <;> omega
theorem ring_get {al : List (Int × Int)} {now y : Int} {k : Nat} (h : (ring al now al.length)[k]? = some y) : ∃ x ∈ al, x.2 = now ∧ x.1 = y := by
  have h1 := List.mem_of_getElem? h
  rw [ring, List.take_length] at h1
  obtain ⟨x, hx, rfl⟩ := List.mem_map.1 h1
  obtain ⟨h2, h3⟩ := List.mem_filter.1 hx
  exact ⟨x, h2, by simpa [wat] using h3, rfl⟩
theorem qa_ring {l : List UInt8} {n : Nat} {gone now : Int} {al : List (Int × Int)} {y : Int} {k : Nat} (h : ∀ x ∈ al, QA l n gone now x) (hy : (ring al (now + 1) al.length)[k]? = some y) : ∃ i : Nat, i < n ∧ y = ((i : Nat) : Int) ∧ ¬ ((i : Nat) : Int) = gone ∧ at_ l i = now + 1 := by
  obtain ⟨x, hx, h1, h2⟩ := ring_get hy
  obtain ⟨i, hi, rfl, hg, hn⟩ := h x hx
  exact ⟨i, hi, h2.symm, hg, h1⟩
theorem cancels4 {w0 w : World} {F : List Chunk} (hS : St w0 w F) {v : Value} {l : List UInt8} (hr : RdS w0 F 1 v l.length (rows encB l)) (a1 : Int) (h1 : 0 ≤ a1) (hb1 : a1 < 256) :
    Ret Try.prog 4 #[v, .int .u8 a1] w (fun v w' => v = .bool true ∧ St w0 w' F) := by
  obtain ⟨g, rfl⟩ := Int.eq_ofNat_of_zero_le h1
  obtain ⟨A, c, rfl, hmc, hcx⟩ := (hr w hS).open'
  refine enter (vs := [.slice A l.length c, .int .u8 ((g : Nat) : Int)]) 81 Try.func4 rfl rfl (by simp) ?_; intro a hA
  obtain ⟨n, hn, hn4⟩ : ∃ n : Nat, ((n : Nat) : Int) = (if 40 < ((l.length : Nat) : Int) then 40 else ((l.length : Nat) : Int)) ∧ n ≤ 40 ∧ n ≤ l.length := by
      split
      · exact ⟨40, by omega, by omega, by omega⟩
      · exact ⟨l.length, by omega, by omega, by omega⟩
  refine wp_seq ?_
  refine wp_region_lit ?_
  refine st_run tbOk 1 hA (e' := (4, .bool false) :: _) rfl ?_; clear hA; intro a hA
  refine wpList_nil ?_
  replace hA := hA.sel [0, 1] (e' := [(0, .slice A l.length c), (1, .int .u8 ((g : Nat) : Int))]) rfl
  refine xt_norm ?_
  refine wp_seq ?_
  refine wp_seq ?_
  refine wp_region_lit ?_
  refine st_call0 hA rfl rfl rfl isfn6 rfl rfl (by decide) (awake6 hS) ?_
  clear hA hS; rintro v w1 a ⟨rfl, hS⟩ hA
  refine st_run tbOk 1 hA (e' := (14, .bool false) :: _) rfl ?_; clear hA; intro a hA
  refine wpList_nil ?_
  replace hA := hA.sel [0, 1, 14] (e' := [(0, .slice A l.length c), (1, .int .u8 ((g : Nat) : Int)), (14, .bool false)]) rfl
  refine xt_norm ?_
  refine cd_cond_f hA rfl ?_
  refine wp_skip ?_
  refine xt_norm ?_
  refine wp_seq ?_
  refine wp_region_lit ?_
  refine st_run tbOk 1 hA (e' := (15, .agg #[.int .i64 0, .slice none 0 0]) :: _) rfl ?_; clear hA; intro a hA
  refine st_box hA hS [.int .i64 0, .slice none 0 0] rfl rfl rfl rfl rfl (by decide) ?_; clear hA hS; intro b2 w3 a hS hA
  obtain ⟨L4, hM5, hS⟩ : ∃ Z, XR b2 0 [] Z ∧ St w0 w3 (Z :: F) := ⟨_, XR.new _, hS⟩
  refine st_run tbOk 1 hA (e' := (5, .pointer (some ⟨b2, 0, none⟩)) :: _) rfl ?_; clear hA; intro a hA
  refine wpList_nil ?_
  replace hA := hA.sel [0, 1, 5] (e' := [(0, .slice A l.length c), (1, .int .u8 ((g : Nat) : Int)), (5, .pointer (some ⟨b2, 0, none⟩))]) rfl
  refine xt_norm ?_
  refine wp_seq ?_
  refine wp_region_lit ?_
  refine st_run tbOk 3 hA (e' := (19, .int .i64 (if 40 < ((l.length : Nat) : Int) then 40 else ((l.length : Nat) : Int))) :: (18, .int .i64 ((l.length : Nat) : Int)) :: (17, .slice A l.length c) :: _) rfl ?_; clear hA; intro a hA
  replace hA := hA.rw 19 (v' := .int .i64 ((n : Nat) : Int)) rfl (vint (by first | exact hn.symm | (split <;> omega)))
  refine st_run tbOk 1 hA (e' := (6, .int .i64 ((n : Nat) : Int)) :: _) rfl ?_; clear hA; intro a hA
  refine wpList_nil ?_
  replace hA := hA.sel [0, 1, 5, 6] (e' := [(0, .slice A l.length c), (1, .int .u8 ((g : Nat) : Int)), (5, .pointer (some ⟨b2, 0, none⟩)), (6, .int .i64 ((n : Nat) : Int))]) rfl
  refine xt_norm ?_
  refine wp_seq ?_
  refine wp_seq ?_
  refine wp_region_lit ?_
  refine st_run tbOk 1 hA (e' := (7, .int .i64 0) :: _) rfl ?_; clear hA; intro a hA
  refine wpList_nil ?_
  refine xt_norm ?_
  refine wp_block ?_
  have hM6 : XR b2 (0) (tks l 0) L4 := hM5
  refine wp_loop_ghost (fun m a w => ∃ (k : Nat) (L : Chunk), m = n - k ∧ Has a 81 [(0, .slice A l.length c), (1, .int .u8 ((g : Nat) : Int)), (5, .pointer (some ⟨b2, 0, none⟩)), (6, .int .i64 ((n : Nat) : Int)), (7, .int .i64 ((k : Nat) : Int))] ∧ St w0 w (L :: F) ∧ (k ≤ n) ∧ (XR b2 0 (tks l k) L)) (n - 0)
    ⟨0, L4, rfl, (hA.sel [0, 1, 5, 6, 7] rfl), hS, Nat.zero_le _, hM6⟩ ?_
  clear hA hS; rintro m0 a w7 ⟨k, L, rfl, hA, hS, hk, hM⟩
  refine wp_seq ?_
  refine wp_seq ?_
  refine wp_region_lit ?_
  refine st_run tbOk 3 hA (e' := (22, .bool (decide (((k : Nat) : Int) < ((n : Nat) : Int)))) :: (21, .int .i64 ((n : Nat) : Int)) :: (20, .int .i64 ((k : Nat) : Int)) :: _) rfl ?_; clear hA; intro a hA
  refine wpList_nil ?_
  replace hA := hA.sel [0, 1, 5, 6, 7, 22] (e' := [(0, .slice A l.length c), (1, .int .u8 ((g : Nat) : Int)), (5, .pointer (some ⟨b2, 0, none⟩)), (6, .int .i64 ((n : Nat) : Int)), (7, .int .i64 ((k : Nat) : Int)), (22, .bool (decide (((k : Nat) : Int) < ((n : Nat) : Int))))]) rfl
  refine xt_norm ?_
  by_cases hc8 : ((k : Nat) : Int) < ((n : Nat) : Int)
  · first
    | (exfalso; omega)
    | (replace hA := hA.rw 22 (v' := .bool true) rfl (vb_true hc8)
       refine cd_cond_t hA rfl ?_
       refine wp_skip ?_
       refine xt_norm ?_
       refine wp_seq ?_
       refine wp_block ?_
       refine wp_seq ?_
       refine wp_region_lit ?_
       refine st_run tbOk 4 hA (e' := (28, .int .i64 ((k : Nat) : Int)) :: (27, .slice A l.length c) :: (26, .int .i64 ((k : Nat) : Int)) :: (25, .pointer (some ⟨b2, 0, none⟩)) :: _) rfl ?_; clear hA; intro a hA
       obtain ⟨b9, o10, rfl⟩ := (hr _ (hS.tail 1 rfl)).isSome (k := k) (by omega)
       refine st_val hA rfl rfl (by decide) (rn_indexAddr tbOk hA k (o10 + k) rfl rfl rfl rfl rfl rfl (by rfl) (by omega) (by first | rfl | simp [Nat.mul_one, Nat.zero_add] | omega)) ?_; clear hA; intro a hA
       obtain ⟨x11, hx11⟩ := get_ex (l := l) (k := k) (by omega)
       have hbx11 : x11.toNat < 256 := UInt8.toNat_lt x11
       refine st_val hA rfl rfl (by decide) (rn_load tbOk hA rfl rfl rfl rfl ((hr _ (hS.tail 1 rfl)).elem0 (k := k) encB_ok hx11 rfl)) ?_; clear hA; intro a hA
       refine st_run tbOk 1 hA (e' := (31, .int .u8 (((x11.toNat : Nat) : Int).tmod 30)) :: _) rfl ?_; clear hA; intro a hA
       replace hA := hA.rw 31 (v' := .int .u8 ((x11.toNat % 30 : Nat) : Int)) rfl (vint (Int.ofNat_tmod _ _).symm)
       refine st_run tbOk 1 hA (e' := (32, .int .i64 (IntKind.i64.wrap ((x11.toNat % 30 : Nat) : Int))) :: _) rfl ?_; clear hA; intro a hA
       replace hA := hA.rw 32 (v' := .int .i64 ((x11.toNat % 30 : Nat) : Int)) rfl (wr64 (by rfl) (by omega) (by omega))
       refine st_run tbOk 1 hA (e' := (33, .int .i64 (IntKind.i64.wrap (1 + ((x11.toNat % 30 : Nat) : Int)))) :: _) rfl ?_; clear hA; intro a hA
       replace hA := hA.rw 33 (v' := .int .i64 ((1 + (x11.toNat % 30) : Nat) : Int)) rfl (wr64 (by omega) (by omega) (by omega))
       refine st_call0 hA rfl rfl rfl isfn7 rfl rfl (by decide) (set_ok7 hS hM ((k : Nat) : Int) ((1 + (x11.toNat % 30) : Nat) : Int) (by omega) (by omega) (by rw [tks_out (.inr (Int.le_refl _)), tks_len]; omega) (by rw [tks_len]; omega) (by decide) (by decide)) ?_
       clear hA hS; rintro v w13 a ⟨L12, hM14, rfl, hS⟩ hA
       refine st_run tbOk 1 hA (e' := (35, .bool false) :: _) rfl ?_; clear hA; intro a hA
       refine wpList_nil ?_
       replace hA := hA.sel [0, 1, 5, 6, 7, 35] (e' := [(0, .slice (some ⟨b9, o10, none⟩) l.length c), (1, .int .u8 ((g : Nat) : Int)), (5, .pointer (some ⟨b2, 0, none⟩)), (6, .int .i64 ((n : Nat) : Int)), (7, .int .i64 ((k : Nat) : Int)), (35, .bool false)]) rfl
       refine xt_norm ?_
       refine cd_cond_f hA rfl ?_
       refine wp_skip ?_
       refine xb_norm ?_
       refine xt_norm ?_
       refine wp_region_lit ?_
       refine st_run tbOk 2 hA (e' := (24, .int .i64 (IntKind.i64.wrap (((k : Nat) : Int) + 1))) :: (23, .int .i64 ((k : Nat) : Int)) :: _) rfl ?_; clear hA; intro a hA
       replace hA := hA.rw 24 (v' := .int .i64 ((k + 1 : Nat) : Int)) rfl (wr64 (by omega) (by omega) (by omega))
       refine st_run tbOk 1 hA (e' := (7, .int .i64 ((k + 1 : Nat) : Int)) :: _) rfl ?_; clear hA; intro a hA
       refine wpList_nil ?_
       replace hA := hA.sel [0, 1, 5, 6, 7] (e' := [(0, .slice (some ⟨b9, o10, none⟩) l.length c), (1, .int .u8 ((g : Nat) : Int)), (5, .pointer (some ⟨b2, 0, none⟩)), (6, .int .i64 ((n : Nat) : Int)), (7, .int .i64 ((k + 1 : Nat) : Int))]) rfl
       have hM15 : XR b2 (0) (tks l (k + 1)) L12 := (by have h := hM14; rw [tks_out (.inr (Int.le_refl _)), Int.zero_add, ← at_get hx11, ← tks_succ] at h; exact h)
       exact lp_next _ (by omega) ⟨(k + 1), L12, rfl, (hA.sel [0, 1, 5, 6, 7] rfl), hS, by omega, hM15⟩)
  · first
    | (exfalso; omega)
    | (replace hA := hA.rw 22 (v' := .bool false) rfl (vb_false hc8)
       refine cd_cond_f hA rfl ?_
       refine wp_exit ?_
       refine xt_exit ?_
       refine xt_exit ?_
       refine cd_exit_eq ?_
       refine xt_norm ?_
       refine wp_seq ?_
       refine wp_region_lit ?_
       have hkn : k = n := by omega
       subst hkn
       refine st_run tbOk 1 hA (e' := (8, .int .i64 (-1)) :: _) rfl ?_; clear hA; intro a hA
       refine wpList_nil ?_
       replace hA := hA.sel [0, 1, 5, 6, 8] (e' := [(0, .slice A l.length c), (1, .int .u8 ((g : Nat) : Int)), (5, .pointer (some ⟨b2, 0, none⟩)), (6, .int .i64 ((k : Nat) : Int)), (8, .int .i64 (-1))]) rfl
       refine xt_norm ?_
       refine wp_seq ?_
       refine wp_seq ?_
       refine wp_region_lit ?_
       refine st_run tbOk 2 hA (e' := (37, .bool (decide (((k : Nat) : Int) > 0))) :: (36, .int .i64 ((k : Nat) : Int)) :: _) rfl ?_; clear hA; intro a hA
       refine wpList_nil ?_
       replace hA := hA.sel [0, 1, 5, 6, 8, 37] (e' := [(0, .slice A l.length c), (1, .int .u8 ((g : Nat) : Int)), (5, .pointer (some ⟨b2, 0, none⟩)), (6, .int .i64 ((k : Nat) : Int)), (8, .int .i64 (-1)), (37, .bool (decide (((k : Nat) : Int) > 0)))]) rfl
       refine xt_norm ?_
       by_cases hc16 : ((k : Nat) : Int) > 0
       · first
         | (exfalso; omega)
         | (replace hA := hA.rw 37 (v' := .bool true) rfl (vb_true hc16)
            refine cd_cond_t hA rfl ?_
            refine wp_region_lit ?_
            refine st_run tbOk 2 hA (e' := (39, .int .i64 (IntKind.i64.wrap ((g : Nat) : Int))) :: (38, .int .u8 ((g : Nat) : Int)) :: _) rfl ?_; clear hA; intro a hA
            replace hA := hA.rw 39 (v' := .int .i64 ((g : Nat) : Int)) rfl (wr64 (by rfl) (by omega) (by omega))
            refine st_run tbOk 1 hA (e' := (40, .int .i64 ((k : Nat) : Int)) :: _) rfl ?_; clear hA; intro a hA
            refine st_val hA rfl rfl (by decide) (rn_rem hA rfl rfl rfl (by omega)) ?_; clear hA; intro a hA
            have hmd17 := Nat.mod_lt g (show 0 < k by omega)
            replace hA := hA.rw 41 (v' := .int .i64 ((g % k : Nat) : Int)) rfl (vint (Int.ofNat_tmod _ _).symm)
            obtain ⟨q, hq⟩ : ∃ q, q = g % k := ⟨_, rfl⟩
            have hql : q < k := by rw [hq]; exact Nat.mod_lt _ (by omega)
            replace hA := hA.rw 41 (v' := .int .i64 ((q : Nat) : Int)) rfl (by rw [hq])
            refine st_run tbOk 1 hA (e' := (8, .int .i64 ((q : Nat) : Int)) :: _) rfl ?_; clear hA; intro a hA
            refine wpList_nil ?_
            replace hA := hA.sel [0, 5, 6, 8] (e' := [(0, .slice A l.length c), (5, .pointer (some ⟨b2, 0, none⟩)), (6, .int .i64 ((k : Nat) : Int)), (8, .int .i64 ((q : Nat) : Int))]) rfl
            refine xt_norm ?_
            refine wp_seq ?_
            refine wp_seq ?_
            refine wp_region_lit ?_
            refine st_run tbOk 2 hA (e' := (43, .int .i64 ((q : Nat) : Int)) :: (42, .pointer (some ⟨b2, 0, none⟩)) :: _) rfl ?_; clear hA; intro a hA
            have hcn := tks_cut l q k
            rw [if_pos hql] at hcn
            refine st_call0 hA rfl rfl rfl isfn9 rfl rfl (by decide) (cancel9 hS hM ((q : Nat) : Int)) ?_
            clear hA hS; rintro v w19 a ⟨L18, hM20, rfl, hS⟩ hA
            replace hA := hA.rw 44 (v' := .bool true) rfl (congrArg Value.bool (by rw [hcn, tks_len, decide_eq_true]; omega))
            refine st_run tbOk 2 hA (e' := (46, .bool (decide (((k : Nat) : Int) > 0))) :: (45, .int .i64 ((k : Nat) : Int)) :: _) rfl ?_; clear hA; intro a hA
            by_cases hc21 : ((k : Nat) : Int) > 0
            · first
              | (exfalso; omega)
              | (replace hA := hA.rw 46 (v' := .bool true) rfl (vb_true hc21)
                 refine st_run tbOk 1 hA (e' := (47, .bool false) :: _) rfl ?_; clear hA; intro a hA
                 refine wpList_nil ?_
                 replace hA := hA.sel [0, 5, 6, 8, 47] (e' := [(0, .slice A l.length c), (5, .pointer (some ⟨b2, 0, none⟩)), (6, .int .i64 ((k : Nat) : Int)), (8, .int .i64 ((q : Nat) : Int)), (47, .bool false)]) rfl
                 refine xt_norm ?_
                 refine cd_cond_f hA rfl ?_
                 refine wp_skip ?_
                 refine xt_norm ?_
                 refine wp_seq ?_
                 refine wp_region_lit ?_
                 refine st_run tbOk 1 hA (e' := (9, .int .i64 0) :: _) rfl ?_; clear hA; intro a hA
                 refine wpList_nil ?_
                 replace hA := hA.sel [0, 5, 6, 8, 9] (e' := [(0, .slice A l.length c), (5, .pointer (some ⟨b2, 0, none⟩)), (6, .int .i64 ((k : Nat) : Int)), (8, .int .i64 ((q : Nat) : Int)), (9, .int .i64 0)]) rfl
                 refine xt_norm ?_
                 refine wp_seq ?_
                 refine wp_seq ?_
                 refine wp_region_lit ?_
                 refine st_run tbOk 1 hA (e' := (10, .int .i64 1) :: _) rfl ?_; clear hA; intro a hA
                 refine wpList_nil ?_
                 refine xt_norm ?_
                 refine wp_block ?_
                 obtain ⟨cn, hcnt⟩ : ∃ cn : Nat, ((tks l k).filter (fun x => !(wid ((q : Nat) : Int) x))).length = cn := ⟨_, rfl⟩
                 have hqa := qa_start l k ((q : Nat) : Int)
                 have hcn2 : (0 < k → cn + 1 = k) ∧ (k = 0 → cn = 0) := by omega
                 refine wp_loop_ghost (fun m a w => ∃ (p : Nat) (al : List (Int × Int)) (rg : Nat) (L : Chunk), m = 31 - p ∧ Has a 81 [(0, .slice A l.length c), (5, .pointer (some ⟨b2, 0, none⟩)), (6, .int .i64 ((k : Nat) : Int)), (8, .int .i64 ((q : Nat) : Int)), (9, .int .i64 ((rg : Nat) : Int)), (10, .int .i64 ((p + 1 : Nat) : Int))] ∧ St w0 w (L :: F) ∧ (p ≤ 31) ∧ (XR b2 ((p : Nat) : Int) al L) ∧ (∀ x ∈ al, QA l k ((q : Nat) : Int) ((p : Nat) : Int) x) ∧ (rg + al.length = cn) ∧ (al.length ≤ 40)) (31 - 0)
                   ⟨0, ((tks l k).filter (fun x => !(wid ((q : Nat) : Int) x))), 0, L18, rfl, (hA.sel [0, 5, 6, 8, 9, 10] rfl), hS, Nat.zero_le _, hM20, hqa, by omega, by omega⟩ ?_
                 clear hA hS; rintro m0 a w22 ⟨p, al, rg, L, rfl, hA, hS, hm, hM, hqa, hcn3, hal⟩
                 refine wp_seq ?_
                 refine wp_seq ?_
                 refine wp_region_lit ?_
                 refine st_run tbOk 2 hA (e' := (49, .bool (decide (((p + 1 : Nat) : Int) ≤ 31))) :: (48, .int .i64 ((p + 1 : Nat) : Int)) :: _) rfl ?_; clear hA; intro a hA
                 refine wpList_nil ?_
                 replace hA := hA.sel [0, 5, 6, 8, 9, 10, 49] (e' := [(0, .slice A l.length c), (5, .pointer (some ⟨b2, 0, none⟩)), (6, .int .i64 ((k : Nat) : Int)), (8, .int .i64 ((q : Nat) : Int)), (9, .int .i64 ((rg : Nat) : Int)), (10, .int .i64 ((p + 1 : Nat) : Int)), (49, .bool (decide (((p + 1 : Nat) : Int) ≤ 31)))]) rfl
                 refine xt_norm ?_
                 by_cases hc23 : ((p + 1 : Nat) : Int) ≤ 31
                 · first
                   | (exfalso; omega)
                   | (replace hA := hA.rw 49 (v' := .bool true) rfl (vb_true hc23)
                      refine cd_cond_t hA rfl ?_
                      refine wp_skip ?_
                      refine xt_norm ?_
                      refine wp_seq ?_
                      refine wp_block ?_
                      refine wp_seq ?_
                      refine wp_region_lit ?_
                      refine st_run tbOk 1 hA (e' := (52, .pointer (some ⟨b2, 0, none⟩)) :: _) rfl ?_; clear hA; intro a hA
                      refine st_call0 hA rfl rfl rfl isfn8 rfl rfl (by decide) (tick8 hS hM (by omega) (by omega) (by omega)) ?_
                      clear hA hS; rintro v27 w25 a ⟨L24, C28, hO28, hM26, hS⟩ hA
                      obtain ⟨A29, c30, rfl, hmc30, hxc30⟩ := hO28.open'
                      have hrc := ring_cnt (((p : Nat) : Int) + 1) al
                      refine st_run tbOk 2 hA (e' := (55, .int .i64 0) :: (54, .int .i64 (((ring al (((p : Nat) : Int) + 1) al.length).length : Nat) : Int)) :: _) rfl ?_; clear hA; intro a hA
                      refine wpList_nil ?_
                      replace hA := hA.sel [0, 5, 6, 8, 9, 10, 53, 54, 55] (e' := [(0, .slice A l.length c), (5, .pointer (some ⟨b2, 0, none⟩)), (6, .int .i64 ((k : Nat) : Int)), (8, .int .i64 ((q : Nat) : Int)), (9, .int .i64 ((rg : Nat) : Int)), (10, .int .i64 ((p + 1 : Nat) : Int)), (53, .slice A29 ((ring al (((p : Nat) : Int) + 1) al.length).length) c30), (54, .int .i64 (((ring al (((p : Nat) : Int) + 1) al.length).length : Nat) : Int)), (55, .int .i64 0)]) rfl
                      refine xt_norm ?_
                      refine wp_block ?_
                      refine wp_loop_ghost (fun m a w => ∃ (j : Nat), m = (ring al (((p : Nat) : Int) + 1) al.length).length - j ∧ Has a 81 [(0, .slice A l.length c), (5, .pointer (some ⟨b2, 0, none⟩)), (6, .int .i64 ((k : Nat) : Int)), (8, .int .i64 ((q : Nat) : Int)), (9, .int .i64 ((rg + j : Nat) : Int)), (10, .int .i64 ((p + 1 : Nat) : Int)), (53, .slice A29 ((ring al (((p : Nat) : Int) + 1) al.length).length) c30), (54, .int .i64 (((ring al (((p : Nat) : Int) + 1) al.length).length : Nat) : Int)), (55, .int .i64 ((j : Nat) : Int))] ∧ St w0 w (C28 :: L24 :: F) ∧ (j ≤ (ring al (((p : Nat) : Int) + 1) al.length).length)) ((ring al (((p : Nat) : Int) + 1) al.length).length - 0)
                        ⟨0, rfl, (hA.sel [0, 5, 6, 8, 9, 10, 53, 54, 55] rfl), hS, Nat.zero_le _⟩ ?_
                      clear hA hS; rintro m0 a w31 ⟨j, rfl, hA, hS, hj⟩
                      refine wp_seq ?_
                      refine wp_region_lit ?_
                      refine st_run tbOk 1 hA (e' := (56, .bool (decide (((j : Nat) : Int) < (((ring al (((p : Nat) : Int) + 1) al.length).length : Nat) : Int)))) :: _) rfl ?_; clear hA; intro a hA
                      refine wpList_nil ?_
                      refine xt_norm ?_
                      refine wp_seq ?_
                      by_cases hc32 : ((j : Nat) : Int) < (((ring al (((p : Nat) : Int) + 1) al.length).length : Nat) : Int)
                      · first
                        | (exfalso; omega)
                        | (replace hA := hA.rw 56 (v' := .bool true) rfl (vb_true hc32)
                           refine cd_cond_t hA rfl ?_
                           refine wp_skip ?_
                           refine xt_norm ?_
                           refine wp_seq ?_
                           refine wp_block ?_
                           refine wp_seq ?_
                           refine wp_region_lit ?_
                           obtain ⟨b33, o34, rfl⟩ := hO28.isSome (k := j) (by omega)
                           refine st_val hA rfl rfl (by decide) (rn_indexAddr tbOk hA j (o34 + j) rfl rfl rfl rfl rfl rfl (by rfl) (by omega) (by first | rfl | simp [Nat.mul_one, Nat.zero_add] | omega)) ?_; clear hA; intro a hA
                           obtain ⟨x35, hx35⟩ := get_ex (l := ring al (((p : Nat) : Int) + 1) al.length) (k := j) (by omega)
                           refine st_val hA rfl rfl (by decide) (rn_load tbOk hA rfl rfl rfl rfl ((hO28.rd (hS.own_ 0 rfl)).elem0 (k := j) encI_ok hx35 rfl)) ?_; clear hA; intro a hA
                           refine st_run tbOk 1 hA (e' := (12, .int .i64 x35) :: _) rfl ?_; clear hA; intro a hA
                           refine wpList_nil ?_
                           replace hA := hA.sel [0, 5, 6, 8, 9, 10, 12, 53, 54, 55] (e' := [(0, .slice A l.length c), (5, .pointer (some ⟨b2, 0, none⟩)), (6, .int .i64 ((k : Nat) : Int)), (8, .int .i64 ((q : Nat) : Int)), (9, .int .i64 ((rg + j : Nat) : Int)), (10, .int .i64 ((p + 1 : Nat) : Int)), (12, .int .i64 x35), (53, .slice (some ⟨b33, o34, none⟩) ((ring al (((p : Nat) : Int) + 1) al.length).length) c30), (54, .int .i64 (((ring al (((p : Nat) : Int) + 1) al.length).length : Nat) : Int)), (55, .int .i64 ((j : Nat) : Int))]) rfl
                           refine xt_norm ?_
                           refine wp_seq ?_
                           refine wp_seq ?_
                           refine wp_region_lit ?_
                           obtain ⟨i, hik, rfl, hig, hia⟩ := qa_ring hqa hx35
                           obtain ⟨x36, hx36⟩ := get_ex (l := l) (k := i) (by omega)
                           have hbx36 : x36.toNat < 256 := UInt8.toNat_lt x36
                           rw [at_get hx36] at hia
                           refine st_run tbOk 4 hA (e' := (62, .bool (((i : Nat) : Int) == ((q : Nat) : Int))) :: (61, .bool (((i : Nat) : Int) == ((q : Nat) : Int))) :: (60, .int .i64 ((q : Nat) : Int)) :: (59, .int .i64 ((i : Nat) : Int)) :: _) rfl ?_; clear hA; intro a hA
                           by_cases hc37 : ((i : Nat) : Int) = ((q : Nat) : Int)
                           · first
                             | (exfalso; omega)
                             | (replace hA := hA.rw 61 (v' := .bool true) rfl (vb_eq_t hc37)
                                replace hA := hA.rw 62 (v' := .bool true) rfl (vb_eq_t hc37)
                                refine st_run tbOk 10 hA (e' := (72, .bool true) :: (71, undef) :: (70, undef) :: (69, undef) :: (68, undef) :: (67, undef) :: (66, undef) :: (65, undef) :: (64, undef) :: (63, undef) :: _) rfl ?_; clear hA; intro a hA
                                refine wpList_nil ?_
                                replace hA := hA.sel [0, 5, 6, 8, 9, 10, 53, 54, 55, 72] (e' := [(0, .slice A l.length c), (5, .pointer (some ⟨b2, 0, none⟩)), (6, .int .i64 ((k : Nat) : Int)), (8, .int .i64 ((q : Nat) : Int)), (9, .int .i64 ((rg + j : Nat) : Int)), (10, .int .i64 ((p + 1 : Nat) : Int)), (53, .slice (some ⟨b33, o34, none⟩) ((ring al (((p : Nat) : Int) + 1) al.length).length) c30), (54, .int .i64 (((ring al (((p : Nat) : Int) + 1) al.length).length : Nat) : Int)), (55, .int .i64 ((j : Nat) : Int)), (72, .bool true)]) rfl
                                refine xt_norm ?_
                                refine cd_cond_t hA rfl ?_
                                refine wp_seq ?_
                                refine wp_region_lit ?_
                                refine st_run tbOk 1 hA (e' := (4, .bool false) :: _) rfl ?_; clear hA; intro a hA
                                refine wpList_nil ?_
                                replace hA := hA.sel [4] (e' := [(4, .bool false)]) rfl
                                refine xt_norm ?_
                                refine wp_ret (xt_ret (xb_ret (xt_ret (xt_ret (xb_ret (xb_ret (xt_ret (xt_ret (xb_ret (xt_ret ?_))))))))))
                                refine ret1 (fn := Try.f4) hA rfl rfl ?_
                                exfalso; omega)
                           · first
                             | (exfalso; omega)
                             | (replace hA := hA.rw 61 (v' := .bool false) rfl (vb_eq_f hc37)
                                replace hA := hA.rw 62 (v' := .bool false) rfl (vb_eq_f hc37)
                                refine st_run tbOk 2 hA (e' := (64, .int .i64 ((i : Nat) : Int)) :: (63, .slice A l.length c) :: _) rfl ?_; clear hA; intro a hA
                                obtain ⟨b38, o39, rfl⟩ := (hr _ (hS.tail 2 rfl)).isSome (k := i) (by omega)
                                refine st_val hA rfl rfl (by decide) (rn_indexAddr tbOk hA i (o39 + i) rfl rfl rfl rfl rfl rfl (by rfl) (by omega) (by first | rfl | simp [Nat.mul_one, Nat.zero_add] | omega)) ?_; clear hA; intro a hA
                                refine st_val hA rfl rfl (by decide) (rn_load tbOk hA rfl rfl rfl rfl ((hr _ (hS.tail 2 rfl)).elem0 (k := i) encB_ok hx36 rfl)) ?_; clear hA; intro a hA
                                refine st_run tbOk 1 hA (e' := (67, .int .u8 (((x36.toNat : Nat) : Int).tmod 30)) :: _) rfl ?_; clear hA; intro a hA
                                replace hA := hA.rw 67 (v' := .int .u8 ((x36.toNat % 30 : Nat) : Int)) rfl (vint (Int.ofNat_tmod _ _).symm)
                                refine st_run tbOk 1 hA (e' := (68, .int .i64 (IntKind.i64.wrap ((x36.toNat % 30 : Nat) : Int))) :: _) rfl ?_; clear hA; intro a hA
                                replace hA := hA.rw 68 (v' := .int .i64 ((x36.toNat % 30 : Nat) : Int)) rfl (wr64 (by rfl) (by omega) (by omega))
                                refine st_run tbOk 1 hA (e' := (69, .int .i64 (IntKind.i64.wrap (1 + ((x36.toNat % 30 : Nat) : Int)))) :: _) rfl ?_; clear hA; intro a hA
                                replace hA := hA.rw 69 (v' := .int .i64 ((1 + (x36.toNat % 30) : Nat) : Int)) rfl (wr64 (by omega) (by omega) (by omega))
                                refine st_run tbOk 3 hA (e' := (72, .bool (((1 + (x36.toNat % 30) : Nat) : Int) != ((p + 1 : Nat) : Int))) :: (71, .bool (((1 + (x36.toNat % 30) : Nat) : Int) != ((p + 1 : Nat) : Int))) :: (70, .int .i64 ((p + 1 : Nat) : Int)) :: _) rfl ?_; clear hA; intro a hA
                                refine wpList_nil ?_
                                replace hA := hA.sel [0, 5, 6, 8, 9, 10, 53, 54, 55, 72] (e' := [(0, .slice (some ⟨b38, o39, none⟩) l.length c), (5, .pointer (some ⟨b2, 0, none⟩)), (6, .int .i64 ((k : Nat) : Int)), (8, .int .i64 ((q : Nat) : Int)), (9, .int .i64 ((rg + j : Nat) : Int)), (10, .int .i64 ((p + 1 : Nat) : Int)), (53, .slice (some ⟨b33, o34, none⟩) ((ring al (((p : Nat) : Int) + 1) al.length).length) c30), (54, .int .i64 (((ring al (((p : Nat) : Int) + 1) al.length).length : Nat) : Int)), (55, .int .i64 ((j : Nat) : Int)), (72, .bool (((1 + (x36.toNat % 30) : Nat) : Int) != ((p + 1 : Nat) : Int)))]) rfl
                                refine xt_norm ?_
                                by_cases hc40 : ((1 + (x36.toNat % 30) : Nat) : Int) = ((p + 1 : Nat) : Int)
                                · first
                                  | (exfalso; omega)
                                  | (replace hA := hA.rw 72 (v' := .bool false) rfl (vb_ne_f hc40)
                                     refine cd_cond_f hA rfl ?_
                                     refine wp_skip ?_
                                     refine xt_norm ?_
                                     refine wp_region_lit ?_
                                     refine st_run tbOk 2 hA (e' := (74, .int .i64 (IntKind.i64.wrap (((rg + j : Nat) : Int) + 1))) :: (73, .int .i64 ((rg + j : Nat) : Int)) :: _) rfl ?_; clear hA; intro a hA
                                     replace hA := hA.rw 74 (v' := .int .i64 (((rg + j) + 1 : Nat) : Int)) rfl (wr64 (by omega) (by omega) (by omega))
                                     refine st_run tbOk 1 hA (e' := (9, .int .i64 (((rg + j) + 1 : Nat) : Int)) :: _) rfl ?_; clear hA; intro a hA
                                     refine wpList_nil ?_
                                     replace hA := hA.sel [0, 5, 6, 8, 9, 10, 53, 54, 55] (e' := [(0, .slice (some ⟨b38, o39, none⟩) l.length c), (5, .pointer (some ⟨b2, 0, none⟩)), (6, .int .i64 ((k : Nat) : Int)), (8, .int .i64 ((q : Nat) : Int)), (9, .int .i64 (((rg + j) + 1 : Nat) : Int)), (10, .int .i64 ((p + 1 : Nat) : Int)), (53, .slice (some ⟨b33, o34, none⟩) ((ring al (((p : Nat) : Int) + 1) al.length).length) c30), (54, .int .i64 (((ring al (((p : Nat) : Int) + 1) al.length).length : Nat) : Int)), (55, .int .i64 ((j : Nat) : Int))]) rfl
                                     refine xb_norm ?_
                                     refine xt_norm ?_
                                     refine wp_region_lit ?_
                                     refine st_run tbOk 1 hA (e' := (75, .int .i64 (IntKind.i64.wrap (((j : Nat) : Int) + 1))) :: _) rfl ?_; clear hA; intro a hA
                                     replace hA := hA.rw 75 (v' := .int .i64 ((j + 1 : Nat) : Int)) rfl (wr64 (by omega) (by omega) (by omega))
                                     refine st_run tbOk 1 hA (e' := (55, .int .i64 ((j + 1 : Nat) : Int)) :: _) rfl ?_; clear hA; intro a hA
                                     refine wpList_nil ?_
                                     replace hA := hA.sel [0, 5, 6, 8, 9, 10, 53, 54, 55] (e' := [(0, .slice (some ⟨b38, o39, none⟩) l.length c), (5, .pointer (some ⟨b2, 0, none⟩)), (6, .int .i64 ((k : Nat) : Int)), (8, .int .i64 ((q : Nat) : Int)), (9, .int .i64 (((rg + j) + 1 : Nat) : Int)), (10, .int .i64 ((p + 1 : Nat) : Int)), (53, .slice (some ⟨b33, o34, none⟩) ((ring al (((p : Nat) : Int) + 1) al.length).length) c30), (54, .int .i64 (((ring al (((p : Nat) : Int) + 1) al.length).length : Nat) : Int)), (55, .int .i64 ((j + 1 : Nat) : Int))]) rfl
                                     exact lp_next _ (by omega) ⟨(j + 1), rfl, (hA.sel [0, 5, 6, 8, 9, 10, 53, 54, 55] rfl), hS, by omega⟩)
                                · first
                                  | (exfalso; omega)
                                  | (replace hA := hA.rw 72 (v' := .bool true) rfl (vb_ne_t hc40)
                                     refine cd_cond_t hA rfl ?_
                                     refine wp_seq ?_
                                     refine wp_region_lit ?_
                                     refine st_run tbOk 1 hA (e' := (4, .bool false) :: _) rfl ?_; clear hA; intro a hA
                                     refine wpList_nil ?_
                                     replace hA := hA.sel [4] (e' := [(4, .bool false)]) rfl
                                     refine xt_norm ?_
                                     refine wp_ret (xt_ret (xb_ret (xt_ret (xt_ret (xb_ret (xb_ret (xt_ret (xt_ret (xb_ret (xt_ret ?_))))))))))
                                     refine ret1 (fn := Try.f4) hA rfl rfl ?_
                                     exfalso; omega)))
                      · first
                        | (exfalso; omega)
                        | (replace hA := hA.rw 56 (v' := .bool false) rfl (vb_false hc32)
                           refine cd_cond_f hA rfl ?_
                           refine wp_exit ?_
                           refine xt_exit ?_
                           refine xt_exit ?_
                           refine cd_exit_eq ?_
                           refine xb_norm ?_
                           refine xt_norm ?_
                           refine wp_region_lit ?_
                           refine st_run tbOk 2 hA (e' := (51, .int .i64 (IntKind.i64.wrap (((p + 1 : Nat) : Int) + 1))) :: (50, .int .i64 ((p + 1 : Nat) : Int)) :: _) rfl ?_; clear hA; intro a hA
                           replace hA := hA.rw 51 (v' := .int .i64 (((p + 1) + 1 : Nat) : Int)) rfl (wr64 (by omega) (by omega) (by omega))
                           refine st_run tbOk 1 hA (e' := (10, .int .i64 (((p + 1) + 1 : Nat) : Int)) :: _) rfl ?_; clear hA; intro a hA
                           refine wpList_nil ?_
                           replace hA := hA.sel [0, 5, 6, 8, 9, 10] (e' := [(0, .slice A l.length c), (5, .pointer (some ⟨b2, 0, none⟩)), (6, .int .i64 ((k : Nat) : Int)), (8, .int .i64 ((q : Nat) : Int)), (9, .int .i64 ((rg + j : Nat) : Int)), (10, .int .i64 (((p + 1) + 1 : Nat) : Int))]) rfl
                           have hM41 : XR b2 (((p + 1 : Nat) : Int)) (al.filter (fun x => !(wat (((p : Nat) : Int) + 1) x))) L24 := (by rw [show ((p + 1 : Nat) : Int) = ((p : Nat) : Int) + 1 by omega]; exact hM26)
                           replace hS := hS.drop1
                           have hjl : j = (ring al (((p : Nat) : Int) + 1) al.length).length := by omega
                           have hrc := ring_cnt (((p : Nat) : Int) + 1) al
                           exact lp_next _ (by omega) ⟨(p + 1), (al.filter (fun x => !(wat (((p : Nat) : Int) + 1) x))), (rg + j), L24, rfl, (hA.sel [0, 5, 6, 8, 9, 10] rfl), hS, by omega, hM41, (by have h := qa_step hqa; rw [show ((p + 1 : Nat) : Int) = ((p : Nat) : Int) + 1 by omega]; exact h), by omega, by omega⟩))
                 · first
                   | (exfalso; omega)
                   | (replace hA := hA.rw 49 (v' := .bool false) rfl (vb_false hc23)
                      refine cd_cond_f hA rfl ?_
                      refine wp_exit ?_
                      refine xt_exit ?_
                      refine xt_exit ?_
                      refine cd_exit_eq ?_
                      refine xt_norm ?_
                      refine wp_seq ?_
                      refine wp_region_lit ?_
                      refine st_run tbOk 3 hA (e' := (78, .int .i64 (IntKind.i64.wrap (((k : Nat) : Int) - 1))) :: (77, .int .i64 ((k : Nat) : Int)) :: (76, .int .i64 ((rg : Nat) : Int)) :: _) rfl ?_; clear hA; intro a hA
                      replace hA := hA.rw 78 (v' := .int .i64 (((k : Nat) : Int) - 1)) rfl (wr64 (by omega) (by omega) (by omega))
                      refine st_run tbOk 1 hA (e' := (79, .int .i64 (if ((k : Nat) : Int) - 1 > 0 then ((k : Nat) : Int) - 1 else 0)) :: _) rfl ?_; clear hA; intro a hA
                      have hm31 : p = 31 := by omega
                      have hal0 := qa_end hqa (by omega)
                      subst hal0
                      have hrg : rg = cn := by simpa using hcn3
                      replace hA := hA.rw 79 (v' := .int .i64 ((cn : Nat) : Int)) rfl (vint (by split <;> omega))
                      refine st_run tbOk 2 hA (e' := (4, .bool (((rg : Nat) : Int) == ((cn : Nat) : Int))) :: (80, .bool (((rg : Nat) : Int) == ((cn : Nat) : Int))) :: _) rfl ?_; clear hA; intro a hA
                      refine wpList_nil ?_
                      replace hA := hA.sel [4] (e' := [(4, .bool (((rg : Nat) : Int) == ((cn : Nat) : Int)))]) rfl
                      refine xt_norm ?_
                      refine wp_ret ?_
                      refine ret1 (fn := Try.f4) hA rfl rfl ?_
                      replace hS := hS.drop1
                      exact ⟨congrArg Value.bool (beq_iff_eq.2 (by omega)), hS⟩))
            · first
              | (exfalso; omega)
              | (replace hA := hA.rw 46 (v' := .bool false) rfl (vb_false hc21)
                 refine st_run tbOk 1 hA (e' := (47, .bool true) :: _) rfl ?_; clear hA; intro a hA
                 refine wpList_nil ?_
                 replace hA := hA.sel [0, 5, 6, 8, 47] (e' := [(0, .slice A l.length c), (5, .pointer (some ⟨b2, 0, none⟩)), (6, .int .i64 ((k : Nat) : Int)), (8, .int .i64 ((q : Nat) : Int)), (47, .bool true)]) rfl
                 refine xt_norm ?_
                 refine cd_cond_t hA rfl ?_
                 refine wp_seq ?_
                 refine wp_region_lit ?_
                 refine st_run tbOk 1 hA (e' := (4, .bool false) :: _) rfl ?_; clear hA; intro a hA
                 refine wpList_nil ?_
                 replace hA := hA.sel [4] (e' := [(4, .bool false)]) rfl
                 refine xt_norm ?_
                 refine wp_ret (xt_ret ?_)
                 refine ret1 (fn := Try.f4) hA rfl rfl ?_
                 exfalso; omega))
       · first
         | (exfalso; omega)
         | (replace hA := hA.rw 37 (v' := .bool false) rfl (vb_false hc16)
            refine cd_cond_f hA rfl ?_
            refine wp_skip ?_
            refine xt_norm ?_
            refine wp_seq ?_
            refine wp_seq ?_
            refine wp_region_lit ?_
            refine st_run tbOk 2 hA (e' := (43, .int .i64 (-1)) :: (42, .pointer (some ⟨b2, 0, none⟩)) :: _) rfl ?_; clear hA; intro a hA
            have hcn : ((tks l k).filter (fun x => !(wid (-1) x))).length = k := by rw [tks_out (.inl (by decide)), tks_len]
            refine st_call0 hA rfl rfl rfl isfn9 rfl rfl (by decide) (cancel9 hS hM (-1)) ?_
            clear hA hS; rintro v w43 a ⟨L42, hM44, rfl, hS⟩ hA
            replace hA := hA.rw 44 (v' := .bool false) rfl (congrArg Value.bool (by rw [hcn, tks_len, decide_eq_false]; omega))
            refine st_run tbOk 2 hA (e' := (46, .bool (decide (((k : Nat) : Int) > 0))) :: (45, .int .i64 ((k : Nat) : Int)) :: _) rfl ?_; clear hA; intro a hA
            by_cases hc45 : ((k : Nat) : Int) > 0
            · first
              | (exfalso; omega)
              | (replace hA := hA.rw 46 (v' := .bool true) rfl (vb_true hc45)
                 refine st_run tbOk 1 hA (e' := (47, .bool true) :: _) rfl ?_; clear hA; intro a hA
                 refine wpList_nil ?_
                 replace hA := hA.sel [0, 5, 6, 8, 47] (e' := [(0, .slice A l.length c), (5, .pointer (some ⟨b2, 0, none⟩)), (6, .int .i64 ((k : Nat) : Int)), (8, .int .i64 (-1)), (47, .bool true)]) rfl
                 refine xt_norm ?_
                 refine cd_cond_t hA rfl ?_
                 refine wp_seq ?_
                 refine wp_region_lit ?_
                 refine st_run tbOk 1 hA (e' := (4, .bool false) :: _) rfl ?_; clear hA; intro a hA
                 refine wpList_nil ?_
                 replace hA := hA.sel [4] (e' := [(4, .bool false)]) rfl
                 refine xt_norm ?_
                 refine wp_ret (xt_ret ?_)
                 refine ret1 (fn := Try.f4) hA rfl rfl ?_
                 exfalso; omega)
            · first
              | (exfalso; omega)
              | (replace hA := hA.rw 46 (v' := .bool false) rfl (vb_false hc45)
                 refine st_run tbOk 1 hA (e' := (47, .bool false) :: _) rfl ?_; clear hA; intro a hA
                 refine wpList_nil ?_
                 replace hA := hA.sel [0, 5, 6, 8, 47] (e' := [(0, .slice A l.length c), (5, .pointer (some ⟨b2, 0, none⟩)), (6, .int .i64 ((k : Nat) : Int)), (8, .int .i64 (-1)), (47, .bool false)]) rfl
                 refine xt_norm ?_
                 refine cd_cond_f hA rfl ?_
                 refine wp_skip ?_
                 refine xt_norm ?_
                 refine wp_seq ?_
                 refine wp_region_lit ?_
                 refine st_run tbOk 1 hA (e' := (9, .int .i64 0) :: _) rfl ?_; clear hA; intro a hA
                 refine wpList_nil ?_
                 replace hA := hA.sel [0, 5, 6, 8, 9] (e' := [(0, .slice A l.length c), (5, .pointer (some ⟨b2, 0, none⟩)), (6, .int .i64 ((k : Nat) : Int)), (8, .int .i64 (-1)), (9, .int .i64 0)]) rfl
                 refine xt_norm ?_
                 refine wp_seq ?_
                 refine wp_seq ?_
                 refine wp_region_lit ?_
                 refine st_run tbOk 1 hA (e' := (10, .int .i64 1) :: _) rfl ?_; clear hA; intro a hA
                 refine wpList_nil ?_
                 refine xt_norm ?_
                 refine wp_block ?_
                 obtain ⟨cn, hcnt⟩ : ∃ cn : Nat, ((tks l k).filter (fun x => !(wid (-1) x))).length = cn := ⟨_, rfl⟩
                 have hqa := qa_start l k (-1)
                 have hcn2 : (0 < k → cn + 1 = k) ∧ (k = 0 → cn = 0) := by omega
                 refine wp_loop_ghost (fun m a w => ∃ (p : Nat) (al : List (Int × Int)) (rg : Nat) (L : Chunk), m = 31 - p ∧ Has a 81 [(0, .slice A l.length c), (5, .pointer (some ⟨b2, 0, none⟩)), (6, .int .i64 ((k : Nat) : Int)), (8, .int .i64 (-1)), (9, .int .i64 ((rg : Nat) : Int)), (10, .int .i64 ((p + 1 : Nat) : Int))] ∧ St w0 w (L :: F) ∧ (p ≤ 31) ∧ (XR b2 ((p : Nat) : Int) al L) ∧ (∀ x ∈ al, QA l k (-1) ((p : Nat) : Int) x) ∧ (rg + al.length = cn) ∧ (al.length ≤ 40)) (31 - 0)
                   ⟨0, ((tks l k).filter (fun x => !(wid (-1) x))), 0, L42, rfl, (hA.sel [0, 5, 6, 8, 9, 10] rfl), hS, Nat.zero_le _, hM44, hqa, by omega, by omega⟩ ?_
                 clear hA hS; rintro m0 a w46 ⟨p, al, rg, L, rfl, hA, hS, hm, hM, hqa, hcn3, hal⟩
                 refine wp_seq ?_
                 refine wp_seq ?_
                 refine wp_region_lit ?_
                 refine st_run tbOk 2 hA (e' := (49, .bool (decide (((p + 1 : Nat) : Int) ≤ 31))) :: (48, .int .i64 ((p + 1 : Nat) : Int)) :: _) rfl ?_; clear hA; intro a hA
                 refine wpList_nil ?_
                 replace hA := hA.sel [0, 5, 6, 8, 9, 10, 49] (e' := [(0, .slice A l.length c), (5, .pointer (some ⟨b2, 0, none⟩)), (6, .int .i64 ((k : Nat) : Int)), (8, .int .i64 (-1)), (9, .int .i64 ((rg : Nat) : Int)), (10, .int .i64 ((p + 1 : Nat) : Int)), (49, .bool (decide (((p + 1 : Nat) : Int) ≤ 31)))]) rfl
                 refine xt_norm ?_
                 by_cases hc47 : ((p + 1 : Nat) : Int) ≤ 31
                 · first
                   | (exfalso; omega)
                   | (replace hA := hA.rw 49 (v' := .bool true) rfl (vb_true hc47)
                      refine cd_cond_t hA rfl ?_
                      refine wp_skip ?_
                      refine xt_norm ?_
                      refine wp_seq ?_
                      refine wp_block ?_
                      refine wp_seq ?_
                      refine wp_region_lit ?_
                      refine st_run tbOk 1 hA (e' := (52, .pointer (some ⟨b2, 0, none⟩)) :: _) rfl ?_; clear hA; intro a hA
                      refine st_call0 hA rfl rfl rfl isfn8 rfl rfl (by decide) (tick8 hS hM (by omega) (by omega) (by omega)) ?_
                      clear hA hS; rintro v51 w49 a ⟨L48, C52, hO52, hM50, hS⟩ hA
                      obtain ⟨A53, c54, rfl, hmc54, hxc54⟩ := hO52.open'
                      have hrc := ring_cnt (((p : Nat) : Int) + 1) al
                      refine st_run tbOk 2 hA (e' := (55, .int .i64 0) :: (54, .int .i64 (((ring al (((p : Nat) : Int) + 1) al.length).length : Nat) : Int)) :: _) rfl ?_; clear hA; intro a hA
                      refine wpList_nil ?_
                      replace hA := hA.sel [0, 5, 6, 8, 9, 10, 53, 54, 55] (e' := [(0, .slice A l.length c), (5, .pointer (some ⟨b2, 0, none⟩)), (6, .int .i64 ((k : Nat) : Int)), (8, .int .i64 (-1)), (9, .int .i64 ((rg : Nat) : Int)), (10, .int .i64 ((p + 1 : Nat) : Int)), (53, .slice A53 ((ring al (((p : Nat) : Int) + 1) al.length).length) c54), (54, .int .i64 (((ring al (((p : Nat) : Int) + 1) al.length).length : Nat) : Int)), (55, .int .i64 0)]) rfl
                      refine xt_norm ?_
                      refine wp_block ?_
                      refine wp_loop_ghost (fun m a w => ∃ (j : Nat), m = (ring al (((p : Nat) : Int) + 1) al.length).length - j ∧ Has a 81 [(0, .slice A l.length c), (5, .pointer (some ⟨b2, 0, none⟩)), (6, .int .i64 ((k : Nat) : Int)), (8, .int .i64 (-1)), (9, .int .i64 ((rg + j : Nat) : Int)), (10, .int .i64 ((p + 1 : Nat) : Int)), (53, .slice A53 ((ring al (((p : Nat) : Int) + 1) al.length).length) c54), (54, .int .i64 (((ring al (((p : Nat) : Int) + 1) al.length).length : Nat) : Int)), (55, .int .i64 ((j : Nat) : Int))] ∧ St w0 w (C52 :: L48 :: F) ∧ (j ≤ (ring al (((p : Nat) : Int) + 1) al.length).length)) ((ring al (((p : Nat) : Int) + 1) al.length).length - 0)
                        ⟨0, rfl, (hA.sel [0, 5, 6, 8, 9, 10, 53, 54, 55] rfl), hS, Nat.zero_le _⟩ ?_
                      clear hA hS; rintro m0 a w55 ⟨j, rfl, hA, hS, hj⟩
                      refine wp_seq ?_
                      refine wp_region_lit ?_
                      refine st_run tbOk 1 hA (e' := (56, .bool (decide (((j : Nat) : Int) < (((ring al (((p : Nat) : Int) + 1) al.length).length : Nat) : Int)))) :: _) rfl ?_; clear hA; intro a hA
                      refine wpList_nil ?_
                      refine xt_norm ?_
                      refine wp_seq ?_
                      by_cases hc56 : ((j : Nat) : Int) < (((ring al (((p : Nat) : Int) + 1) al.length).length : Nat) : Int)
                      · first
                        | (exfalso; omega)
                        | (replace hA := hA.rw 56 (v' := .bool true) rfl (vb_true hc56)
                           refine cd_cond_t hA rfl ?_
                           refine wp_skip ?_
                           refine xt_norm ?_
                           refine wp_seq ?_
                           refine wp_block ?_
                           refine wp_seq ?_
                           refine wp_region_lit ?_
                           obtain ⟨b57, o58, rfl⟩ := hO52.isSome (k := j) (by omega)
                           refine st_val hA rfl rfl (by decide) (rn_indexAddr tbOk hA j (o58 + j) rfl rfl rfl rfl rfl rfl (by rfl) (by omega) (by first | rfl | simp [Nat.mul_one, Nat.zero_add] | omega)) ?_; clear hA; intro a hA
                           obtain ⟨x59, hx59⟩ := get_ex (l := ring al (((p : Nat) : Int) + 1) al.length) (k := j) (by omega)
                           refine st_val hA rfl rfl (by decide) (rn_load tbOk hA rfl rfl rfl rfl ((hO52.rd (hS.own_ 0 rfl)).elem0 (k := j) encI_ok hx59 rfl)) ?_; clear hA; intro a hA
                           refine st_run tbOk 1 hA (e' := (12, .int .i64 x59) :: _) rfl ?_; clear hA; intro a hA
                           refine wpList_nil ?_
                           replace hA := hA.sel [0, 5, 6, 8, 9, 10, 12, 53, 54, 55] (e' := [(0, .slice A l.length c), (5, .pointer (some ⟨b2, 0, none⟩)), (6, .int .i64 ((k : Nat) : Int)), (8, .int .i64 (-1)), (9, .int .i64 ((rg + j : Nat) : Int)), (10, .int .i64 ((p + 1 : Nat) : Int)), (12, .int .i64 x59), (53, .slice (some ⟨b57, o58, none⟩) ((ring al (((p : Nat) : Int) + 1) al.length).length) c54), (54, .int .i64 (((ring al (((p : Nat) : Int) + 1) al.length).length : Nat) : Int)), (55, .int .i64 ((j : Nat) : Int))]) rfl
                           refine xt_norm ?_
                           refine wp_seq ?_
                           refine wp_seq ?_
                           refine wp_region_lit ?_
                           obtain ⟨i, hik, rfl, hig, hia⟩ := qa_ring hqa hx59
                           obtain ⟨x60, hx60⟩ := get_ex (l := l) (k := i) (by omega)
                           have hbx60 : x60.toNat < 256 := UInt8.toNat_lt x60
                           rw [at_get hx60] at hia
                           refine st_run tbOk 4 hA (e' := (62, .bool (((i : Nat) : Int) == (-1))) :: (61, .bool (((i : Nat) : Int) == (-1))) :: (60, .int .i64 (-1)) :: (59, .int .i64 ((i : Nat) : Int)) :: _) rfl ?_; clear hA; intro a hA
                           by_cases hc61 : ((i : Nat) : Int) = (-1)
                           · first
                             | (exfalso; omega)
                             | (replace hA := hA.rw 61 (v' := .bool true) rfl (vb_eq_t hc61)
                                replace hA := hA.rw 62 (v' := .bool true) rfl (vb_eq_t hc61)
                                refine st_run tbOk 10 hA (e' := (72, .bool true) :: (71, undef) :: (70, undef) :: (69, undef) :: (68, undef) :: (67, undef) :: (66, undef) :: (65, undef) :: (64, undef) :: (63, undef) :: _) rfl ?_; clear hA; intro a hA
                                refine wpList_nil ?_
                                replace hA := hA.sel [0, 5, 6, 8, 9, 10, 53, 54, 55, 72] (e' := [(0, .slice A l.length c), (5, .pointer (some ⟨b2, 0, none⟩)), (6, .int .i64 ((k : Nat) : Int)), (8, .int .i64 (-1)), (9, .int .i64 ((rg + j : Nat) : Int)), (10, .int .i64 ((p + 1 : Nat) : Int)), (53, .slice (some ⟨b57, o58, none⟩) ((ring al (((p : Nat) : Int) + 1) al.length).length) c54), (54, .int .i64 (((ring al (((p : Nat) : Int) + 1) al.length).length : Nat) : Int)), (55, .int .i64 ((j : Nat) : Int)), (72, .bool true)]) rfl
                                refine xt_norm ?_
                                refine cd_cond_t hA rfl ?_
                                refine wp_seq ?_
                                refine wp_region_lit ?_
                                refine st_run tbOk 1 hA (e' := (4, .bool false) :: _) rfl ?_; clear hA; intro a hA
                                refine wpList_nil ?_
                                replace hA := hA.sel [4] (e' := [(4, .bool false)]) rfl
                                refine xt_norm ?_
                                refine wp_ret (xt_ret (xb_ret (xt_ret (xt_ret (xb_ret (xb_ret (xt_ret (xt_ret (xb_ret (xt_ret ?_))))))))))
                                refine ret1 (fn := Try.f4) hA rfl rfl ?_
                                exfalso; omega)
                           · first
                             | (exfalso; omega)
                             | (replace hA := hA.rw 61 (v' := .bool false) rfl (vb_eq_f hc61)
                                replace hA := hA.rw 62 (v' := .bool false) rfl (vb_eq_f hc61)
                                refine st_run tbOk 2 hA (e' := (64, .int .i64 ((i : Nat) : Int)) :: (63, .slice A l.length c) :: _) rfl ?_; clear hA; intro a hA
                                obtain ⟨b62, o63, rfl⟩ := (hr _ (hS.tail 2 rfl)).isSome (k := i) (by omega)
                                refine st_val hA rfl rfl (by decide) (rn_indexAddr tbOk hA i (o63 + i) rfl rfl rfl rfl rfl rfl (by rfl) (by omega) (by first | rfl | simp [Nat.mul_one, Nat.zero_add] | omega)) ?_; clear hA; intro a hA
                                refine st_val hA rfl rfl (by decide) (rn_load tbOk hA rfl rfl rfl rfl ((hr _ (hS.tail 2 rfl)).elem0 (k := i) encB_ok hx60 rfl)) ?_; clear hA; intro a hA
                                refine st_run tbOk 1 hA (e' := (67, .int .u8 (((x60.toNat : Nat) : Int).tmod 30)) :: _) rfl ?_; clear hA; intro a hA
                                replace hA := hA.rw 67 (v' := .int .u8 ((x60.toNat % 30 : Nat) : Int)) rfl (vint (Int.ofNat_tmod _ _).symm)
                                refine st_run tbOk 1 hA (e' := (68, .int .i64 (IntKind.i64.wrap ((x60.toNat % 30 : Nat) : Int))) :: _) rfl ?_; clear hA; intro a hA
                                replace hA := hA.rw 68 (v' := .int .i64 ((x60.toNat % 30 : Nat) : Int)) rfl (wr64 (by rfl) (by omega) (by omega))
                                refine st_run tbOk 1 hA (e' := (69, .int .i64 (IntKind.i64.wrap (1 + ((x60.toNat % 30 : Nat) : Int)))) :: _) rfl ?_; clear hA; intro a hA
                                replace hA := hA.rw 69 (v' := .int .i64 ((1 + (x60.toNat % 30) : Nat) : Int)) rfl (wr64 (by omega) (by omega) (by omega))
                                refine st_run tbOk 3 hA (e' := (72, .bool (((1 + (x60.toNat % 30) : Nat) : Int) != ((p + 1 : Nat) : Int))) :: (71, .bool (((1 + (x60.toNat % 30) : Nat) : Int) != ((p + 1 : Nat) : Int))) :: (70, .int .i64 ((p + 1 : Nat) : Int)) :: _) rfl ?_; clear hA; intro a hA
                                refine wpList_nil ?_
                                replace hA := hA.sel [0, 5, 6, 8, 9, 10, 53, 54, 55, 72] (e' := [(0, .slice (some ⟨b62, o63, none⟩) l.length c), (5, .pointer (some ⟨b2, 0, none⟩)), (6, .int .i64 ((k : Nat) : Int)), (8, .int .i64 (-1)), (9, .int .i64 ((rg + j : Nat) : Int)), (10, .int .i64 ((p + 1 : Nat) : Int)), (53, .slice (some ⟨b57, o58, none⟩) ((ring al (((p : Nat) : Int) + 1) al.length).length) c54), (54, .int .i64 (((ring al (((p : Nat) : Int) + 1) al.length).length : Nat) : Int)), (55, .int .i64 ((j : Nat) : Int)), (72, .bool (((1 + (x60.toNat % 30) : Nat) : Int) != ((p + 1 : Nat) : Int)))]) rfl
                                refine xt_norm ?_
                                by_cases hc64 : ((1 + (x60.toNat % 30) : Nat) : Int) = ((p + 1 : Nat) : Int)
                                · first
                                  | (exfalso; omega)
                                  | (replace hA := hA.rw 72 (v' := .bool false) rfl (vb_ne_f hc64)
                                     refine cd_cond_f hA rfl ?_
                                     refine wp_skip ?_
                                     refine xt_norm ?_
                                     refine wp_region_lit ?_
                                     refine st_run tbOk 2 hA (e' := (74, .int .i64 (IntKind.i64.wrap (((rg + j : Nat) : Int) + 1))) :: (73, .int .i64 ((rg + j : Nat) : Int)) :: _) rfl ?_; clear hA; intro a hA
                                     replace hA := hA.rw 74 (v' := .int .i64 (((rg + j) + 1 : Nat) : Int)) rfl (wr64 (by omega) (by omega) (by omega))
                                     refine st_run tbOk 1 hA (e' := (9, .int .i64 (((rg + j) + 1 : Nat) : Int)) :: _) rfl ?_; clear hA; intro a hA
                                     refine wpList_nil ?_
                                     replace hA := hA.sel [0, 5, 6, 8, 9, 10, 53, 54, 55] (e' := [(0, .slice (some ⟨b62, o63, none⟩) l.length c), (5, .pointer (some ⟨b2, 0, none⟩)), (6, .int .i64 ((k : Nat) : Int)), (8, .int .i64 (-1)), (9, .int .i64 (((rg + j) + 1 : Nat) : Int)), (10, .int .i64 ((p + 1 : Nat) : Int)), (53, .slice (some ⟨b57, o58, none⟩) ((ring al (((p : Nat) : Int) + 1) al.length).length) c54), (54, .int .i64 (((ring al (((p : Nat) : Int) + 1) al.length).length : Nat) : Int)), (55, .int .i64 ((j : Nat) : Int))]) rfl
                                     refine xb_norm ?_
                                     refine xt_norm ?_
                                     refine wp_region_lit ?_
                                     refine st_run tbOk 1 hA (e' := (75, .int .i64 (IntKind.i64.wrap (((j : Nat) : Int) + 1))) :: _) rfl ?_; clear hA; intro a hA
                                     replace hA := hA.rw 75 (v' := .int .i64 ((j + 1 : Nat) : Int)) rfl (wr64 (by omega) (by omega) (by omega))
                                     refine st_run tbOk 1 hA (e' := (55, .int .i64 ((j + 1 : Nat) : Int)) :: _) rfl ?_; clear hA; intro a hA
                                     refine wpList_nil ?_
                                     replace hA := hA.sel [0, 5, 6, 8, 9, 10, 53, 54, 55] (e' := [(0, .slice (some ⟨b62, o63, none⟩) l.length c), (5, .pointer (some ⟨b2, 0, none⟩)), (6, .int .i64 ((k : Nat) : Int)), (8, .int .i64 (-1)), (9, .int .i64 (((rg + j) + 1 : Nat) : Int)), (10, .int .i64 ((p + 1 : Nat) : Int)), (53, .slice (some ⟨b57, o58, none⟩) ((ring al (((p : Nat) : Int) + 1) al.length).length) c54), (54, .int .i64 (((ring al (((p : Nat) : Int) + 1) al.length).length : Nat) : Int)), (55, .int .i64 ((j + 1 : Nat) : Int))]) rfl
                                     exact lp_next _ (by omega) ⟨(j + 1), rfl, (hA.sel [0, 5, 6, 8, 9, 10, 53, 54, 55] rfl), hS, by omega⟩)
                                · first
                                  | (exfalso; omega)
                                  | (replace hA := hA.rw 72 (v' := .bool true) rfl (vb_ne_t hc64)
                                     refine cd_cond_t hA rfl ?_
                                     refine wp_seq ?_
                                     refine wp_region_lit ?_
                                     refine st_run tbOk 1 hA (e' := (4, .bool false) :: _) rfl ?_; clear hA; intro a hA
                                     refine wpList_nil ?_
                                     replace hA := hA.sel [4] (e' := [(4, .bool false)]) rfl
                                     refine xt_norm ?_
                                     refine wp_ret (xt_ret (xb_ret (xt_ret (xt_ret (xb_ret (xb_ret (xt_ret (xt_ret (xb_ret (xt_ret ?_))))))))))
                                     refine ret1 (fn := Try.f4) hA rfl rfl ?_
                                     exfalso; omega)))
                      · first
                        | (exfalso; omega)
                        | (replace hA := hA.rw 56 (v' := .bool false) rfl (vb_false hc56)
                           refine cd_cond_f hA rfl ?_
                           refine wp_exit ?_
                           refine xt_exit ?_
                           refine xt_exit ?_
                           refine cd_exit_eq ?_
                           refine xb_norm ?_
                           refine xt_norm ?_
                           refine wp_region_lit ?_
                           refine st_run tbOk 2 hA (e' := (51, .int .i64 (IntKind.i64.wrap (((p + 1 : Nat) : Int) + 1))) :: (50, .int .i64 ((p + 1 : Nat) : Int)) :: _) rfl ?_; clear hA; intro a hA
                           replace hA := hA.rw 51 (v' := .int .i64 (((p + 1) + 1 : Nat) : Int)) rfl (wr64 (by omega) (by omega) (by omega))
                           refine st_run tbOk 1 hA (e' := (10, .int .i64 (((p + 1) + 1 : Nat) : Int)) :: _) rfl ?_; clear hA; intro a hA
                           refine wpList_nil ?_
                           replace hA := hA.sel [0, 5, 6, 8, 9, 10] (e' := [(0, .slice A l.length c), (5, .pointer (some ⟨b2, 0, none⟩)), (6, .int .i64 ((k : Nat) : Int)), (8, .int .i64 (-1)), (9, .int .i64 ((rg + j : Nat) : Int)), (10, .int .i64 (((p + 1) + 1 : Nat) : Int))]) rfl
                           have hM65 : XR b2 (((p + 1 : Nat) : Int)) (al.filter (fun x => !(wat (((p : Nat) : Int) + 1) x))) L48 := (by rw [show ((p + 1 : Nat) : Int) = ((p : Nat) : Int) + 1 by omega]; exact hM50)
                           replace hS := hS.drop1
                           have hjl : j = (ring al (((p : Nat) : Int) + 1) al.length).length := by omega
                           have hrc := ring_cnt (((p : Nat) : Int) + 1) al
                           exact lp_next _ (by omega) ⟨(p + 1), (al.filter (fun x => !(wat (((p : Nat) : Int) + 1) x))), (rg + j), L48, rfl, (hA.sel [0, 5, 6, 8, 9, 10] rfl), hS, by omega, hM65, (by have h := qa_step hqa; rw [show ((p + 1 : Nat) : Int) = ((p : Nat) : Int) + 1 by omega]; exact h), by omega, by omega⟩))
                 · first
                   | (exfalso; omega)
                   | (replace hA := hA.rw 49 (v' := .bool false) rfl (vb_false hc47)
                      refine cd_cond_f hA rfl ?_
                      refine wp_exit ?_
                      refine xt_exit ?_
                      refine xt_exit ?_
                      refine cd_exit_eq ?_
                      refine xt_norm ?_
                      refine wp_seq ?_
                      refine wp_region_lit ?_
                      refine st_run tbOk 3 hA (e' := (78, .int .i64 (IntKind.i64.wrap (((k : Nat) : Int) - 1))) :: (77, .int .i64 ((k : Nat) : Int)) :: (76, .int .i64 ((rg : Nat) : Int)) :: _) rfl ?_; clear hA; intro a hA
                      replace hA := hA.rw 78 (v' := .int .i64 (((k : Nat) : Int) - 1)) rfl (wr64 (by omega) (by omega) (by omega))
                      refine st_run tbOk 1 hA (e' := (79, .int .i64 (if ((k : Nat) : Int) - 1 > 0 then ((k : Nat) : Int) - 1 else 0)) :: _) rfl ?_; clear hA; intro a hA
                      have hm31 : p = 31 := by omega
                      have hal0 := qa_end hqa (by omega)
                      subst hal0
                      have hrg : rg = cn := by simpa using hcn3
                      replace hA := hA.rw 79 (v' := .int .i64 ((cn : Nat) : Int)) rfl (vint (by split <;> omega))
                      refine st_run tbOk 2 hA (e' := (4, .bool (((rg : Nat) : Int) == ((cn : Nat) : Int))) :: (80, .bool (((rg : Nat) : Int) == ((cn : Nat) : Int))) :: _) rfl ?_; clear hA; intro a hA
                      refine wpList_nil ?_
                      replace hA := hA.sel [4] (e' := [(4, .bool (((rg : Nat) : Int) == ((cn : Nat) : Int)))]) rfl
                      refine xt_norm ?_
                      refine wp_ret ?_
                      refine ret1 (fn := Try.f4) hA rfl rfl ?_
                      replace hS := hS.drop1
                      exact ⟨congrArg Value.bool (beq_iff_eq.2 (by omega)), hS⟩))))

end Go.Proofs.Ytlodnipimofpeaa
