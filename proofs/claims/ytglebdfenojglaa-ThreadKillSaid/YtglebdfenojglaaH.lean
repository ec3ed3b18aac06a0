import Derived.Test.YtglebdfenojglaaG
set_option linter.unusedVariables false
set_option linter.unusedSimpArgs false
set_option maxRecDepth 4000
namespace Go.Proofs.Ytglebdfenojglaa
open Go Go.SK
def idx' (p : Int × Int × Int → Bool) : List (Int × Int × Int) → Nat → List Int
  | [], _ => []
  | x :: r, i => if p x then ((i : Nat) : Int) :: idx' p r (i + 1) else idx' p r (i + 1)
theorem idx_app (p : Int × Int × Int → Bool) (x : Int × Int × Int) : ∀ (l : List (Int × Int × Int)) (i : Nat), idx' p (l ++ [x]) i = idx' p l i ++ (if p x then [((i + l.length : Nat) : Int)] else [])
  | [], i => by simp [idx']
  | y :: l, i => by
    simp only [List.cons_append, idx', idx_app p x l (i + 1), List.length_cons, show i + 1 + l.length = i + (l.length + 1) by omega]
    split <;> simp
theorem idx_yes {p : Int × Int × Int → Bool} {x : Int × Int × Int} (h : p x = true) (l : List (Int × Int × Int)) : idx' p l 0 ++ [((l.length : Nat) : Int)] = idx' p (l ++ [x]) 0 := by rw [idx_app, if_pos h, Nat.zero_add]
theorem idx_no {p : Int × Int × Int → Bool} {x : Int × Int × Int} (h : p x = false) (l : List (Int × Int × Int)) : idx' p l 0 = idx' p (l ++ [x]) 0 := by rw [idx_app, h]; simp
theorem idx_ge (p : Int × Int × Int → Bool) : ∀ (l : List (Int × Int × Int)) (i : Nat), ∀ y ∈ idx' p l i, ((i : Nat) : Int) ≤ y ∧ y < ((i + l.length : Nat) : Int)
  | [], i, y, h => by simp [idx'] at h
  | x :: l, i, y, h => by
    have ih := idx_ge p l (i + 1)
    simp only [idx'] at h
    simp only [List.length_cons]
    split at h
    · rcases List.mem_cons.1 h with rfl | h
      · omega
      · have := ih y h; omega
    · have := ih y h; omega
theorem idx_len (p : Int × Int × Int → Bool) : ∀ (l : List (Int × Int × Int)) (i : Nat), (idx' p l i).length ≤ l.length
  | [], i => Nat.le_refl _
  | x :: l, i => by
    have := idx_len p l (i + 1)
    simp only [idx', List.length_cons]
    split
    · simp only [List.length_cons]; omega
    · omega
theorem idx_filt (a b : Int × Int × Int → Bool) : ∀ (l : List (Int × Int × Int)) (i : Nat), (idx' a l i).filter (fun y => !((idx' b l i).any (fun z => z == y))) = idx' (fun x => a x && !b x) l i
  | [], i => by simp [idx']
  | x :: l, i => by
    have ih := idx_filt a b l (i + 1)
    have hb : (idx' b l (i + 1)).any (fun z => z == ((i : Nat) : Int)) = false := by
      rw [List.any_eq_false]; intro z hz; have := (idx_ge b l (i + 1) z hz).1; simp only [beq_iff_eq]; omega
    have hc : (idx' a l (i + 1)).filter (fun y => !((idx' b (x :: l) i).any (fun z => z == y))) = (idx' a l (i + 1)).filter (fun y => !((idx' b l (i + 1)).any (fun z => z == y))) := by
      refine List.filter_congr fun y hy => ?_
      have := (idx_ge a l (i + 1) y hy).1
      simp only [idx']
      split
      · have h2 : (((i : Nat) : Int) == y) = false := by rw [beq_eq_false_iff_ne]; omega
        rw [List.any_cons, h2, Bool.false_or]
      · rfl
    have he : idx' a (x :: l) i = if a x then ((i : Nat) : Int) :: idx' a l (i + 1) else idx' a l (i + 1) := rfl
    have hf : idx' (fun x => a x && !b x) (x :: l) i = if (a x && !b x) then ((i : Nat) : Int) :: idx' (fun x => a x && !b x) l (i + 1) else idx' (fun x => a x && !b x) l (i + 1) := rfl
    rw [he, hf]
    cases ha : a x with
    | false => simp only [Bool.false_and, if_false, Bool.false_eq_true]; rw [hc, ih]
    | true =>
      simp only [if_true, Bool.true_and]
      rw [List.filter_cons, hc, ih]
      have hi : (idx' b (x :: l) i).any (fun z => z == ((i : Nat) : Int)) = b x := by
        simp only [idx']
        cases hbx : b x with
        | true => simp
        | false => simp only [if_false, Bool.false_eq_true]; exact hb
      rw [hi]
def dead (pr : Int) (x : Int × Int × Int) : Int × Int × Int := if x.1 == pr then (x.1, 3, 0) else x
def ofp (pr : Int) (x : Int × Int × Int) : Bool := x.1 == pr
def rdy (x : Int × Int × Int) : Bool := x.2.1 == 1
def rdyo (pr : Int) (x : Int × Int × Int) : Bool := rdy x && !ofp pr x
theorem hit_alive {pr : Int} {x : Int × Int × Int} (h : x.2.1 = 1 ∨ x.2.1 = 2) : hit pr x = ofp pr x := by
  rcases h with h | h <;> simp [hit, ofp, h]
theorem take_succ' {ts : List (Int × Int × Int)} {k : Nat} {x : Int × Int × Int} (hx : ts[k]? = some x) : ts.take (k + 1) = ts.take k ++ [x] := by rw [List.take_add_one, hx]; rfl
theorem kst_char {ts : List (Int × Int × Int)} (q : List Int) (pr : Int) (hal : ∀ x ∈ ts, x.2.1 = 1 ∨ x.2.1 = 2) : ∀ k, k ≤ ts.length → kst ts q pr k = ((ts.take k).map (dead pr) ++ ts.drop k, q.filter (fun y => !((idx' (ofp pr) (ts.take k) 0).any (fun z => z == y))), idx' (ofp pr) (ts.take k) 0)
  | 0, _ => by simp [kst, idx']; exact (List.filter_eq_self.2 (fun _ _ => rfl)).symm
  | k + 1, hk => by
    have ih := kst_char q pr hal k (by omega)
    have hx : ts[k]? = some ts[k] := List.getElem?_eq_getElem (by omega)
    have hl : ((ts.take k).map (dead pr)).length = k := by simp; omega
    have hlt : (ts.take k).length = k := by simp; omega
    have hx2 : (kst ts q pr k).1[k]? = some ts[k] := by
      rw [ih]; simp only []
      rw [List.getElem?_append_right (by omega), hl, Nat.sub_self, List.getElem?_drop]; simp
    have hh := hit_alive (pr := pr) (hal ts[k] (List.getElem_mem (by omega)))
    have hd : ts.drop k = ts[k] :: ts.drop (k + 1) := List.drop_eq_getElem_cons (by omega)
    cases ho : ofp pr ts[k] with
    | true =>
      rw [kst_yes hx2 (by rw [hh, ho]), ih, take_succ' hx]
      simp only [Prod.mk.injEq]
      refine ⟨?_, ?_, ?_⟩
      · rw [List.set_append_right _ _ (by omega), hl, Nat.sub_self, hd, List.set_cons_zero, List.map_append, List.append_assoc]
        simp only [List.map_cons, List.map_nil, List.singleton_append]
        have : dead pr ts[k] = (ts[k].1, 3, 0) := by simp only [dead]; rw [show (ts[k].1 == pr) = true from ho]; rfl
        rw [this]
      · rw [List.filter_filter]
        refine List.filter_congr fun y _ => ?_
        rw [idx_app, if_pos ho, hlt, Nat.zero_add, List.any_append, List.any_cons, List.any_nil, Bool.or_false, Bool.not_or, Bool.and_comm]
        congr 2
        exact Bool.eq_iff_iff.2 (by simp only [beq_iff_eq]; exact eq_comm)
      · rw [idx_app, if_pos ho, hlt, Nat.zero_add]
    | false =>
      rw [kst_no hx2 (by rw [hh, ho]), ih, take_succ' hx]
      simp only [Prod.mk.injEq]
      have hn : idx' (ofp pr) (ts.take k ++ [ts[k]]) 0 = idx' (ofp pr) (ts.take k) 0 := by rw [idx_app, ho]; simp
      refine ⟨?_, by rw [hn], by rw [hn]⟩
      rw [hd, List.map_append, List.append_assoc]
      simp only [List.map_cons, List.map_nil, List.singleton_append]
      have : dead pr ts[k] = ts[k] := by simp only [dead]; rw [show (ts[k].1 == pr) = false from ho]; rfl
      rw [this]
theorem kst_none {ts : List (Int × Int × Int)} (q : List Int) (pr : Int) (h : ∀ x ∈ ts, hit pr x = false) : ∀ k, kst ts q pr k = (ts, q, [])
  | 0 => rfl
  | k + 1 => by
    have ih := kst_none q pr h k
    cases hx : ts[k]? with
    | none => rw [kst, ih]; simp only []; rw [hx]
    | some x => rw [kst_no (x := x) (by rw [ih]; exact hx) (h x (List.mem_of_getElem? hx)), ih]
theorem kst_all {ts : List (Int × Int × Int)} (q : List Int) (pr : Int) (hal : ∀ x ∈ ts, x.2.1 = 1 ∨ x.2.1 = 2) : kst ts q pr ts.length = (ts.map (dead pr), q.filter (fun y => !((idx' (ofp pr) ts 0).any (fun z => z == y))), idx' (ofp pr) ts 0) := by
  rw [kst_char q pr hal _ (Nat.le_refl _), List.take_length, List.drop_length, List.append_nil]
theorem kst_again {ts : List (Int × Int × Int)} (q q2 : List Int) (pr : Int) (hal : ∀ x ∈ ts, x.2.1 = 1 ∨ x.2.1 = 2) (k : Nat) : (kst (kst ts q pr ts.length).1 q2 pr k).2.2 = [] := by
  rw [kst_all q pr hal, kst_none]
  intro x hx
  obtain ⟨y, _, rfl⟩ := List.mem_map.1 hx
  unfold dead
  split
  · exact hit_3 rfl
  · rename_i h; exact hit_p (by simpa using h)
theorem last_get {ts : List (Int × Int × Int)} (x : Int × Int × Int) : (ts ++ [x])[ts.length]? = some x := by simp
theorem last_set {ts : List (Int × Int × Int)} (x y : Int × Int × Int) : (ts ++ [x]).set ts.length y = ts ++ [y] := by rw [List.set_append_right _ _ (Nat.le_refl _), Nat.sub_self]; rfl
theorem last_filt {ts : List (Int × Int × Int)} {q : List Int} (h : TI ts q) : (q ++ [((ts.length : Nat) : Int)]).filter (fun x => !(x == ((ts.length : Nat) : Int))) = q := by
  rw [List.filter_append, List.filter_eq_self.2]
  · simp
  · intro y hy; have := h.1 y hy; simp; omega
theorem TI.same {ts : List (Int × Int × Int)} {q : List Int} (h : TI ts q) (x : Int × Int × Int) (hl : ts.length < 64) : TI (ts ++ [x]) q :=
  ⟨fun y hy => by have := h.1 y hy; simp only [List.length_append, List.length_cons, List.length_nil]; omega, h.2.1, by simp; omega⟩
theorem alive_app {ts : List (Int × Int × Int)} {x : Int × Int × Int} (h : ∀ x ∈ ts, x.2.1 = 1 ∨ x.2.1 = 2) (hx : x.2.1 = 1 ∨ x.2.1 = 2) : ∀ y ∈ ts ++ [x], y.2.1 = 1 ∨ y.2.1 = 2 := fun y hy => by
  rcases List.mem_append.1 hy with hy | hy
  · exact h y hy
  · rw [List.mem_singleton.1 hy]; exact hx
theorem killLaw3 {w0 w : World} {F : List Chunk} (hS : St w0 w F) {v v2 : Value} {l : List UInt8} {bl : List Bool} (hr : RdS w0 F 1 v l.length (rows encB l)) (hr' : RdS w0 F 1 v2 bl.length (rows encBo bl)) (u : Int) (hu : 0 ≤ u) (hu2 : u < 256) :
    Ret Try.prog 3 #[v, v2, .int .u8 u] w (fun v w' => v = .bool true ∧ St w0 w' F) := by
  obtain ⟨A, c, rfl, hmc, hcx⟩ := (hr w hS).open'
  obtain ⟨A', c', rfl, hmc', hcx'⟩ := (hr' w hS).open'
  obtain ⟨u, rfl⟩ := Int.eq_ofNat_of_zero_le hu
  refine enter (vs := [.slice A l.length c, .slice A' bl.length c', .int .u8 ((u : Nat) : Int)]) 98 Try.func3 rfl rfl (by simp) ?_; intro a hA
  refine wp_seq ?_
  refine wp_region_lit ?_
  refine st_run tbOk 1 hA (e' := (6, .bool false) :: _) rfl ?_; clear hA; intro a hA
  refine wpList_nil ?_
  replace hA := hA.sel [0, 1, 2] (e' := [(0, .slice A l.length c), (1, .slice A' bl.length c'), (2, .int .u8 ((u : Nat) : Int))]) rfl
  refine xt_norm ?_
  refine wp_seq ?_
  refine wp_seq ?_
  refine wp_region_lit ?_
  refine st_call0 hA rfl rfl rfl isfn5 rfl rfl (by decide) (awake5 hS) ?_
  clear hA hS; rintro v w1 a ⟨rfl, hS⟩ hA
  refine st_run tbOk 1 hA (e' := (16, .bool false) :: _) rfl ?_; clear hA; intro a hA
  refine wpList_nil ?_
  replace hA := hA.sel [0, 1, 2, 16] (e' := [(0, .slice A l.length c), (1, .slice A' bl.length c'), (2, .int .u8 ((u : Nat) : Int)), (16, .bool false)]) rfl
  refine xt_norm ?_
  refine cd_cond_f hA rfl ?_
  refine wp_skip ?_
  refine xt_norm ?_
  refine wp_seq ?_
  refine wp_region_lit ?_
  refine st_run tbOk 1 hA (e' := (17, .agg #[.slice none 0 0, .slice none 0 0]) :: _) rfl ?_; clear hA; intro a hA
  refine st_box hA hS [.slice none 0 0, .slice none 0 0] rfl rfl rfl rfl rfl (by decide) ?_; clear hA hS; intro b2 w3 a hS hA
  obtain ⟨L4, hM5, hS⟩ : ∃ L, TR 30 b2 [] [] L ∧ St w0 w3 (L :: F) := ⟨_, TR.new _ _, hS⟩
  refine st_run tbOk 1 hA (e' := (7, .pointer (some ⟨b2, 0, none⟩)) :: _) rfl ?_; clear hA; intro a hA
  refine wpList_nil ?_
  replace hA := hA.sel [0, 1, 2, 7] (e' := [(0, .slice A l.length c), (1, .slice A' bl.length c'), (2, .int .u8 ((u : Nat) : Int)), (7, .pointer (some ⟨b2, 0, none⟩))]) rfl
  refine xt_norm ?_
  refine wp_seq ?_
  refine wp_region_lit ?_
  refine st_run tbOk 2 hA (e' := (9, .slice none 0 0) :: (8, .slice none 0 0) :: _) rfl ?_; clear hA; intro a hA
  refine wpList_nil ?_
  refine xt_norm ?_
  refine wp_seq ?_
  refine wp_seq ?_
  refine wp_region_lit ?_
  refine st_run tbOk 3 hA (e' := (21, .int .i64 0) :: (20, .int .i64 ((l.length : Nat) : Int)) :: (19, .slice A l.length c) :: _) rfl ?_; clear hA; intro a hA
  refine wpList_nil ?_
  replace hA := hA.sel [1, 2, 7, 8, 9, 19, 20, 21] (e' := [(1, .slice A' bl.length c'), (2, .int .u8 ((u : Nat) : Int)), (7, .pointer (some ⟨b2, 0, none⟩)), (8, .slice none 0 0), (9, .slice none 0 0), (19, .slice A l.length c), (20, .int .i64 ((l.length : Nat) : Int)), (21, .int .i64 0)]) rfl
  refine xt_norm ?_
  refine wp_block ?_
  replace hS := hS.nil
  replace hS := hS.nil
  replace hS := hS.front 2 (C := L4) (L' := [] :: [] :: F) rfl rfl
  refine wp_loop_ghost (fun m a w => ∃ (k : Nat) (ts : List (Int × Int × Int)) (L : Chunk) (Aw : Option Addr) (cw : Nat) (Wc : Chunk) (Ar : Option Addr) (cr : Nat) (Rc : Chunk), m = l.length - k ∧ Has a 98 [(1, .slice A' bl.length c'), (2, .int .u8 ((u : Nat) : Int)), (7, .pointer (some ⟨b2, 0, none⟩)), (8, .slice Aw ((idx' (ofp ((u % 3 : Nat) : Int)) ts 0).length) cw), (9, .slice Ar ((idx' (rdyo ((u % 3 : Nat) : Int)) ts 0).length) cr), (19, .slice A l.length c), (20, .int .i64 ((l.length : Nat) : Int)), (21, .int .i64 ((k : Nat) : Int))] ∧ St w0 w (L :: Wc :: Rc :: F) ∧ (k ≤ l.length) ∧ (k ≤ 60) ∧ (ts.length = k) ∧ (TR 30 b2 ts (idx' rdy ts 0) L) ∧ (TI ts (idx' rdy ts 0)) ∧ (∀ x ∈ ts, x.2.1 = 1 ∨ x.2.1 = 2) ∧ (Own 3 1 (.slice Aw (idx' (ofp ((u % 3 : Nat) : Int)) ts 0).length cw) (idx' (ofp ((u % 3 : Nat) : Int)) ts 0).length (rows encI (idx' (ofp ((u % 3 : Nat) : Int)) ts 0)) Wc) ∧ (Own 3 1 (.slice Ar (idx' (rdyo ((u % 3 : Nat) : Int)) ts 0).length cr) (idx' (rdyo ((u % 3 : Nat) : Int)) ts 0).length (rows encI (idx' (rdyo ((u % 3 : Nat) : Int)) ts 0)) Rc)) (l.length - 0)
    ⟨0, ([]), L4, none, 0, ([]), none, 0, ([]), rfl, (hA.sel [1, 2, 7, 8, 9, 19, 20, 21] rfl), hS, Nat.zero_le _, by omega, rfl, hM5, TI.nil, by simp, (Own.nil 3 1), (Own.nil 3 1)⟩ ?_
  clear hA hS; rintro m0 a w6 ⟨k, ts, L, Aw, cw, Wc, Ar, cr, Rc, rfl, hA, hS, hk, hk60, htl, hM, hT, hal, hW, hR⟩
  have hTl := hT.len
  have hWl := idx_len (ofp ((u % 3 : Nat) : Int)) ts 0
  have hRl := idx_len (rdyo ((u % 3 : Nat) : Int)) ts 0
  refine wp_seq ?_
  refine wp_region_lit ?_
  refine st_run tbOk 1 hA (e' := (22, .bool (decide (((k : Nat) : Int) < ((l.length : Nat) : Int)))) :: _) rfl ?_; clear hA; intro a hA
  refine wpList_nil ?_
  refine xt_norm ?_
  refine wp_seq ?_
  by_cases hc7 : ((k : Nat) : Int) < ((l.length : Nat) : Int)
  · first
    | (exfalso; omega)
    | (replace hA := hA.rw 22 (v' := .bool true) rfl (vb_true hc7)
       refine cd_cond_t hA rfl ?_
       refine wp_skip ?_
       refine xt_norm ?_
       refine wp_seq ?_
       refine wp_block ?_
       refine wp_seq ?_
       refine wp_region_lit ?_
       refine st_run tbOk 1 hA (e' := (23, .int .i64 ((k : Nat) : Int)) :: _) rfl ?_; clear hA; intro a hA
       obtain ⟨b8, o9, rfl⟩ := (hr _ (hS.tail 3 rfl)).isSome (k := k) (by omega)
       refine st_val hA rfl rfl (by decide) (rn_indexAddr tbOk hA k (o9 + k) rfl rfl rfl rfl rfl rfl (by rfl) (by omega) (by first | rfl | simp [Nat.mul_one, Nat.zero_add] | omega)) ?_; clear hA; intro a hA
       obtain ⟨x10, hx10⟩ := get_ex (l := l) (k := k) (by omega)
       have hbx10 : x10.toNat < 256 := UInt8.toNat_lt x10
       refine st_val hA rfl rfl (by decide) (rn_load tbOk hA rfl rfl rfl rfl ((hr _ (hS.tail 3 rfl)).elem0 (k := k) encB_ok hx10 rfl)) ?_; clear hA; intro a hA
       refine st_run tbOk 2 hA (e' := (11, .int .u8 ((x10.toNat : Nat) : Int)) :: (10, .int .i64 ((k : Nat) : Int)) :: _) rfl ?_; clear hA; intro a hA
       refine wpList_nil ?_
       replace hA := hA.sel [1, 2, 7, 8, 9, 10, 11, 19, 20, 21] (e' := [(1, .slice A' bl.length c'), (2, .int .u8 ((u : Nat) : Int)), (7, .pointer (some ⟨b2, 0, none⟩)), (8, .slice Aw ((idx' (ofp ((u % 3 : Nat) : Int)) ts 0).length) cw), (9, .slice Ar ((idx' (rdyo ((u % 3 : Nat) : Int)) ts 0).length) cr), (10, .int .i64 ((k : Nat) : Int)), (11, .int .u8 ((x10.toNat : Nat) : Int)), (19, .slice (some ⟨b8, o9, none⟩) l.length c), (20, .int .i64 ((l.length : Nat) : Int)), (21, .int .i64 ((k : Nat) : Int))]) rfl
       refine xt_norm ?_
       refine wp_seq ?_
       refine wp_seq ?_
       refine wp_region_lit ?_
       refine st_run tbOk 2 hA (e' := (27, .bool (((k : Nat) : Int) == 60)) :: (26, .int .i64 ((k : Nat) : Int)) :: _) rfl ?_; clear hA; intro a hA
       refine wpList_nil ?_
       replace hA := hA.sel [1, 2, 7, 8, 9, 10, 11, 19, 20, 21, 27] (e' := [(1, .slice A' bl.length c'), (2, .int .u8 ((u : Nat) : Int)), (7, .pointer (some ⟨b2, 0, none⟩)), (8, .slice Aw ((idx' (ofp ((u % 3 : Nat) : Int)) ts 0).length) cw), (9, .slice Ar ((idx' (rdyo ((u % 3 : Nat) : Int)) ts 0).length) cr), (10, .int .i64 ((k : Nat) : Int)), (11, .int .u8 ((x10.toNat : Nat) : Int)), (19, .slice (some ⟨b8, o9, none⟩) l.length c), (20, .int .i64 ((l.length : Nat) : Int)), (21, .int .i64 ((k : Nat) : Int)), (27, .bool (((k : Nat) : Int) == 60))]) rfl
       refine xt_norm ?_
       by_cases hc11 : ((k : Nat) : Int) = 60
       · first
         | (exfalso; omega)
         | (replace hA := hA.rw 27 (v' := .bool true) rfl (vb_eq_t hc11)
            refine cd_cond_t hA rfl ?_
            refine wp_exit ?_
            refine xt_exit ?_
            refine cd_exit_ne (by decide) ?_
            refine xt_exit ?_
            refine xt_exit ?_
            refine cd_exit_eq ?_
            refine xt_norm ?_
            refine wp_seq ?_
            refine wp_region_lit ?_
            have hkq := kst_qlen ts (idx' rdy ts 0) ((u % 3 : Nat) : Int) ts.length
            have hkl := kst_len ts (idx' rdy ts 0) ((u % 3 : Nat) : Int) ts.length
            have hts := hT.2.2
            refine st_run tbOk 3 hA (e' := (78, .int .u8 (((u : Nat) : Int).tmod 3)) :: (77, .int .u8 ((u : Nat) : Int)) :: (76, .pointer (some ⟨b2, 0, none⟩)) :: _) rfl ?_; clear hA; intro a hA
            replace hA := hA.rw 78 (v' := .int .u8 ((u % 3 : Nat) : Int)) rfl (vint (Int.ofNat_tmod _ _).symm)
            refine st_run tbOk 1 hA (e' := (79, .int .i64 (IntKind.i64.wrap ((u % 3 : Nat) : Int))) :: _) rfl ?_; clear hA; intro a hA
            replace hA := hA.rw 79 (v' := .int .i64 ((u % 3 : Nat) : Int)) rfl (wr64 (by rfl) (by omega) (by omega))
            refine st_call0 hA rfl rfl rfl isfn9 rfl rfl (by decide) (kill9 hS hM ((u % 3 : Nat) : Int) (by omega) (by omega)) ?_
            clear hA hS; rintro v15 w13 a ⟨L12, C16, hO16, hM14, hS⟩ hA
            obtain ⟨A17, c18, rfl, hmc18, hxc18⟩ := hO16.open'
            refine st_run tbOk 1 hA (e' := (81, .slice Aw ((idx' (ofp ((u % 3 : Nat) : Int)) ts 0).length) cw) :: _) rfl ?_; clear hA; intro a hA
            refine st_call0 hA rfl rfl rfl isfn8 rfl rfl (by decide) (same8 hS (xs := (kst ts (idx' rdy ts 0) ((u % 3 : Nat) : Int) ts.length).2.2) (ys := idx' (ofp ((u % 3 : Nat) : Int)) ts 0) (RdS.own hO16 0 rfl) (RdS.own hW 2 rfl)) ?_
            clear hA hS; rintro v w19 a ⟨rfl, hS⟩ hA
            replace hA := hA.rw 82 (v' := .bool true) rfl (by rw [kst_all _ _ hal]; exact congrArg Value.bool (decide_eq_true rfl))
            refine st_run tbOk 2 hA (e' := (84, .pointer (some ⟨b2, 0, none⟩)) :: (83, .bool true) :: _) rfl ?_; clear hA; intro a hA
            replace hS := hS.front 1 (C := L12) (L' := C16 :: Wc :: Rc :: F) rfl rfl
            refine st_call0 hA rfl rfl rfl isfn10 rfl rfl (by decide) (ready10 hS hM14 (by omega)) ?_
            clear hA hS; rintro v23 w21 a ⟨L20, C24, hO24, hM22, hS⟩ hA
            obtain ⟨A25, c26, rfl, hmc26, hxc26⟩ := hO24.open'
            refine st_run tbOk 1 hA (e' := (86, .slice Ar ((idx' (rdyo ((u % 3 : Nat) : Int)) ts 0).length) cr) :: _) rfl ?_; clear hA; intro a hA
            refine st_call0 hA rfl rfl rfl isfn8 rfl rfl (by decide) (same8 hS (xs := (kst ts (idx' rdy ts 0) ((u % 3 : Nat) : Int) ts.length).2.1) (ys := idx' (rdyo ((u % 3 : Nat) : Int)) ts 0) (RdS.own hO24 0 rfl) (RdS.own hR 4 rfl)) ?_
            clear hA hS; rintro v w27 a ⟨rfl, hS⟩ hA
            replace hA := hA.rw 87 (v' := .bool true) rfl (by rw [kst_all _ _ hal]; exact congrArg Value.bool (decide_eq_true (idx_filt _ _ ts 0)))
            refine st_run tbOk 5 hA (e' := (92, .int .u8 (((u : Nat) : Int).tmod 3)) :: (91, .int .u8 ((u : Nat) : Int)) :: (90, .pointer (some ⟨b2, 0, none⟩)) :: (89, .bool true) :: (88, .bool true) :: _) rfl ?_; clear hA; intro a hA
            replace hA := hA.rw 92 (v' := .int .u8 ((u % 3 : Nat) : Int)) rfl (vint (Int.ofNat_tmod _ _).symm)
            refine st_run tbOk 1 hA (e' := (93, .int .i64 (IntKind.i64.wrap ((u % 3 : Nat) : Int))) :: _) rfl ?_; clear hA; intro a hA
            replace hA := hA.rw 93 (v' := .int .i64 ((u % 3 : Nat) : Int)) rfl (wr64 (by rfl) (by omega) (by omega))
            replace hS := hS.front 1 (C := L20) (L' := C24 :: C16 :: Wc :: Rc :: F) rfl rfl
            refine st_call0 hA rfl rfl rfl isfn9 rfl rfl (by decide) (kill9 hS hM22 ((u % 3 : Nat) : Int) (by omega) (by omega)) ?_
            clear hA hS; rintro v31 w29 a ⟨L28, C32, hO32, hM30, hS⟩ hA
            obtain ⟨A33, c34, rfl, hmc34, hxc34⟩ := hO32.open'
            refine st_run tbOk 1 hA (e' := (95, .int .i64 ((((kst ((kst ts (idx' rdy ts 0) ((u % 3 : Nat) : Int) ts.length).1) ((kst ts (idx' rdy ts 0) ((u % 3 : Nat) : Int) ts.length).2.1) ((u % 3 : Nat) : Int) ((kst ts (idx' rdy ts 0) ((u % 3 : Nat) : Int) ts.length).1).length).2.2).length : Nat) : Int)) :: _) rfl ?_; clear hA; intro a hA
            replace hA := hA.rw 95 (v' := .int .i64 0) rfl (by rw [kst_again _ _ _ hal]; rfl)
            refine st_run tbOk 3 hA (e' := (6, .bool true) :: (97, .bool true) :: (96, .bool true) :: _) rfl ?_; clear hA; intro a hA
            refine wpList_nil ?_
            replace hA := hA.sel [6] (e' := [(6, .bool true)]) rfl
            refine xt_norm ?_
            refine wp_ret ?_
            refine ret1 (fn := Try.f3) hA rfl rfl ?_
            replace hS := hS.drop1
            replace hS := hS.drop1
            replace hS := hS.drop1
            replace hS := hS.drop1
            replace hS := hS.drop1
            replace hS := hS.drop1
            exact ⟨rfl, hS⟩)
       · first
         | (exfalso; omega)
         | (replace hA := hA.rw 27 (v' := .bool false) rfl (vb_eq_f hc11)
            refine cd_cond_f hA rfl ?_
            refine wp_skip ?_
            refine xt_norm ?_
            refine wp_seq ?_
            refine wp_region_lit ?_
            refine st_run tbOk 3 hA (e' := (31, .int .u8 (((x10.toNat : Nat) : Int).tmod 3)) :: (30, .int .u8 ((x10.toNat : Nat) : Int)) :: (29, .pointer (some ⟨b2, 0, none⟩)) :: _) rfl ?_; clear hA; intro a hA
            replace hA := hA.rw 31 (v' := .int .u8 ((x10.toNat % 3 : Nat) : Int)) rfl (vint (Int.ofNat_tmod _ _).symm)
            refine st_run tbOk 1 hA (e' := (32, .int .i64 (IntKind.i64.wrap ((x10.toNat % 3 : Nat) : Int))) :: _) rfl ?_; clear hA; intro a hA
            replace hA := hA.rw 32 (v' := .int .i64 ((x10.toNat % 3 : Nat) : Int)) rfl (wr64 (by rfl) (by omega) (by omega))
            refine st_call0 hA rfl rfl rfl isfn6 rfl rfl (by decide) (start_ok6 hS hM ((x10.toNat % 3 : Nat) : Int) (by omega) (by omega) hT.fresh (by have := hT.len; omega)) ?_
            clear hA hS; rintro v w36 a ⟨L35, hM37, rfl, hS⟩ hA
            refine st_run tbOk 5 hA (e' := (13, .nilIface) :: (12, .int .i64 ((ts.length : Nat) : Int)) :: (35, .nilIface) :: (34, .int .i64 ((ts.length : Nat) : Int)) :: (28, .tuple #[.int .i64 ((ts.length : Nat) : Int), .nilIface]) :: _) rfl ?_; clear hA; intro a hA
            refine wpList_nil ?_
            replace hA := hA.sel [1, 2, 7, 8, 9, 10, 11, 12, 13, 19, 20, 21] (e' := [(1, .slice A' bl.length c'), (2, .int .u8 ((u : Nat) : Int)), (7, .pointer (some ⟨b2, 0, none⟩)), (8, .slice Aw ((idx' (ofp ((u % 3 : Nat) : Int)) ts 0).length) cw), (9, .slice Ar ((idx' (rdyo ((u % 3 : Nat) : Int)) ts 0).length) cr), (10, .int .i64 ((k : Nat) : Int)), (11, .int .u8 ((x10.toNat : Nat) : Int)), (12, .int .i64 ((ts.length : Nat) : Int)), (13, .nilIface), (19, .slice (some ⟨b8, o9, none⟩) l.length c), (20, .int .i64 ((l.length : Nat) : Int)), (21, .int .i64 ((k : Nat) : Int))]) rfl
            refine xt_norm ?_
            refine wp_seq ?_
            refine wp_seq ?_
            refine wp_region_lit ?_
            refine st_run tbOk 7 hA (e' := (42, .bool (((ts.length : Nat) : Int) != ((k : Nat) : Int))) :: (41, .bool (((ts.length : Nat) : Int) != ((k : Nat) : Int))) :: (40, .int .i64 ((k : Nat) : Int)) :: (39, .int .i64 ((ts.length : Nat) : Int)) :: (38, .bool false) :: (37, .bool false) :: (36, .nilIface) :: _) rfl ?_; clear hA; intro a hA
            refine wpList_nil ?_
            replace hA := hA.sel [1, 2, 7, 8, 9, 10, 11, 12, 19, 20, 21, 42] (e' := [(1, .slice A' bl.length c'), (2, .int .u8 ((u : Nat) : Int)), (7, .pointer (some ⟨b2, 0, none⟩)), (8, .slice Aw ((idx' (ofp ((u % 3 : Nat) : Int)) ts 0).length) cw), (9, .slice Ar ((idx' (rdyo ((u % 3 : Nat) : Int)) ts 0).length) cr), (10, .int .i64 ((k : Nat) : Int)), (11, .int .u8 ((x10.toNat : Nat) : Int)), (12, .int .i64 ((ts.length : Nat) : Int)), (19, .slice (some ⟨b8, o9, none⟩) l.length c), (20, .int .i64 ((l.length : Nat) : Int)), (21, .int .i64 ((k : Nat) : Int)), (42, .bool (((ts.length : Nat) : Int) != ((k : Nat) : Int)))]) rfl
            refine xt_norm ?_
            by_cases hc38 : ((ts.length : Nat) : Int) = ((k : Nat) : Int)
            · first
              | (exfalso; omega)
              | (replace hA := hA.rw 42 (v' := .bool false) rfl (vb_ne_f hc38)
                 refine cd_cond_f hA rfl ?_
                 refine wp_skip ?_
                 refine xt_norm ?_
                 refine wp_seq ?_
                 refine wp_region_lit ?_
                 refine st_run tbOk 5 hA (e' := (47, .bool (decide (((k : Nat) : Int) < ((bl.length : Nat) : Int)))) :: (46, .bool (decide (((k : Nat) : Int) < ((bl.length : Nat) : Int)))) :: (45, .int .i64 ((bl.length : Nat) : Int)) :: (44, .slice A' bl.length c') :: (43, .int .i64 ((k : Nat) : Int)) :: _) rfl ?_; clear hA; intro a hA
                 by_cases hc39 : ((k : Nat) : Int) < ((bl.length : Nat) : Int)
                 · first
                   | (exfalso; omega)
                   | (replace hA := hA.rw 46 (v' := .bool true) rfl (vb_true hc39)
                      replace hA := hA.rw 47 (v' := .bool true) rfl (vb_true hc39)
                      refine st_run tbOk 2 hA (e' := (49, .int .i64 ((k : Nat) : Int)) :: (48, .slice A' bl.length c') :: _) rfl ?_; clear hA; intro a hA
                      obtain ⟨b40, o41, rfl⟩ := (hr' _ (hS.tail 3 rfl)).isSome (k := k) (by omega)
                      refine st_val hA rfl rfl (by decide) (rn_indexAddr tbOk hA k (o41 + k) rfl rfl rfl rfl rfl rfl (by rfl) (by omega) (by first | rfl | simp [Nat.mul_one, Nat.zero_add] | omega)) ?_; clear hA; intro a hA
                      obtain ⟨x42, hx42⟩ := get_ex (l := bl) (k := k) (by omega)
                      refine st_val hA rfl rfl (by decide) (rn_load tbOk hA rfl rfl rfl rfl ((hr' _ (hS.tail 3 rfl)).elem0 (k := k) encBo_ok hx42 rfl)) ?_; clear hA; intro a hA
                      refine st_run tbOk 2 hA (e' := (14, .bool x42) :: (52, .bool x42) :: _) rfl ?_; clear hA; intro a hA
                      refine wpList_nil ?_
                      replace hA := hA.sel [1, 2, 7, 8, 9, 11, 12, 14, 19, 20, 21] (e' := [(1, .slice (some ⟨b40, o41, none⟩) bl.length c'), (2, .int .u8 ((u : Nat) : Int)), (7, .pointer (some ⟨b2, 0, none⟩)), (8, .slice Aw ((idx' (ofp ((u % 3 : Nat) : Int)) ts 0).length) cw), (9, .slice Ar ((idx' (rdyo ((u % 3 : Nat) : Int)) ts 0).length) cr), (11, .int .u8 ((x10.toNat : Nat) : Int)), (12, .int .i64 ((ts.length : Nat) : Int)), (14, .bool x42), (19, .slice (some ⟨b8, o9, none⟩) l.length c), (20, .int .i64 ((l.length : Nat) : Int)), (21, .int .i64 ((k : Nat) : Int))]) rfl
                      refine xt_norm ?_
                      refine wp_seq ?_
                      refine wp_seq ?_
                      refine wp_region_lit ?_
                      refine st_run tbOk 2 hA (e' := (54, .bool x42) :: (53, .bool x42) :: _) rfl ?_; clear hA; intro a hA
                      by_cases hc43 : x42 = true
                      · first
                        | (exfalso; omega)
                        | (replace hA := hA.rw 14 (v' := .bool true) rfl (vb_t hc43)
                           replace hA := hA.rw 53 (v' := .bool true) rfl (vb_t hc43)
                           replace hA := hA.rw 54 (v' := .bool true) rfl (vb_t hc43)
                           refine st_run tbOk 2 hA (e' := (56, .int .i64 ((ts.length : Nat) : Int)) :: (55, .pointer (some ⟨b2, 0, none⟩)) :: _) rfl ?_; clear hA; intro a hA
                           refine st_call0 hA rfl rfl rfl isfn7 rfl rfl (by decide) (block_ok7 hS hM37 ts.length 7 (last_get _) rfl (by simp; omega)) ?_
                           clear hA hS; rintro v w45 a ⟨L44, hM46, rfl, hS⟩ hA
                           refine st_run tbOk 2 hA (e' := (59, .bool false) :: (58, .bool false) :: _) rfl ?_; clear hA; intro a hA
                           refine wpList_nil ?_
                           replace hA := hA.sel [1, 2, 7, 8, 9, 11, 12, 14, 19, 20, 21, 59] (e' := [(1, .slice (some ⟨b40, o41, none⟩) bl.length c'), (2, .int .u8 ((u : Nat) : Int)), (7, .pointer (some ⟨b2, 0, none⟩)), (8, .slice Aw ((idx' (ofp ((u % 3 : Nat) : Int)) ts 0).length) cw), (9, .slice Ar ((idx' (rdyo ((u % 3 : Nat) : Int)) ts 0).length) cr), (11, .int .u8 ((x10.toNat : Nat) : Int)), (12, .int .i64 ((ts.length : Nat) : Int)), (14, .bool true), (19, .slice (some ⟨b8, o9, none⟩) l.length c), (20, .int .i64 ((l.length : Nat) : Int)), (21, .int .i64 ((k : Nat) : Int)), (59, .bool false)]) rfl
                           refine xt_norm ?_
                           refine cd_cond_f hA rfl ?_
                           refine wp_skip ?_
                           refine xt_norm ?_
                           refine wp_seq ?_
                           refine wp_region_lit ?_
                           refine st_run tbOk 2 hA (e' := (61, .int .u8 (((x10.toNat : Nat) : Int).tmod 3)) :: (60, .int .u8 ((x10.toNat : Nat) : Int)) :: _) rfl ?_; clear hA; intro a hA
                           replace hA := hA.rw 61 (v' := .int .u8 ((x10.toNat % 3 : Nat) : Int)) rfl (vint (Int.ofNat_tmod _ _).symm)
                           refine st_run tbOk 2 hA (e' := (63, .int .u8 (((u : Nat) : Int).tmod 3)) :: (62, .int .u8 ((u : Nat) : Int)) :: _) rfl ?_; clear hA; intro a hA
                           replace hA := hA.rw 63 (v' := .int .u8 ((u % 3 : Nat) : Int)) rfl (vint (Int.ofNat_tmod _ _).symm)
                           refine st_run tbOk 1 hA (e' := (64, .bool (((x10.toNat % 3 : Nat) : Int) == ((u % 3 : Nat) : Int))) :: _) rfl ?_; clear hA; intro a hA
                           refine wpList_nil ?_
                           replace hA := hA.sel [1, 2, 7, 8, 9, 12, 14, 19, 20, 21, 64] (e' := [(1, .slice (some ⟨b40, o41, none⟩) bl.length c'), (2, .int .u8 ((u : Nat) : Int)), (7, .pointer (some ⟨b2, 0, none⟩)), (8, .slice Aw ((idx' (ofp ((u % 3 : Nat) : Int)) ts 0).length) cw), (9, .slice Ar ((idx' (rdyo ((u % 3 : Nat) : Int)) ts 0).length) cr), (12, .int .i64 ((ts.length : Nat) : Int)), (14, .bool true), (19, .slice (some ⟨b8, o9, none⟩) l.length c), (20, .int .i64 ((l.length : Nat) : Int)), (21, .int .i64 ((k : Nat) : Int)), (64, .bool (((x10.toNat % 3 : Nat) : Int) == ((u % 3 : Nat) : Int)))]) rfl
                           refine xt_norm ?_
                           by_cases hc47 : ((x10.toNat % 3 : Nat) : Int) = ((u % 3 : Nat) : Int)
                           · first
                             | (exfalso; omega)
                             | (replace hA := hA.rw 64 (v' := .bool true) rfl (vb_eq_t hc47)
                                refine cd_cond_t hA rfl ?_
                                refine wp_region_lit ?_
                                refine st_run tbOk 2 hA (e' := (66, .int .i64 ((ts.length : Nat) : Int)) :: (65, .slice Aw ((idx' (ofp ((u % 3 : Nat) : Int)) ts 0).length) cw) :: _) rfl ?_; clear hA; intro a hA
                                refine st_buildSlice tbOk hA hS [.int .i64 ((ts.length : Nat) : Int)] rfl rfl rfl rfl rfl (by decide) (by kernel_rfl) rfl rfl (by decide) ?_; clear hA hS; intro b48 w49 a hS hA
                                replace hS := hS.front 2 (C := Wc) (L' := [(b48, rowO [.int .i64 ((ts.length : Nat) : Int)] 3)] :: L44 :: Rc :: F) rfl rfl
                                refine st_append tbOk hA (m := (idx' (ofp ((u % 3 : Nat) : Int)) ts 0).length) (q := 1) (xs := rows encI (idx' (ofp ((u % 3 : Nat) : Int)) ts 0)) (news := rows encI ([((ts.length : Nat) : Int)] : List Int)) rfl rfl rfl rfl rfl rfl rfl rfl (by decide) hW hS ((Own.full (T := 3) (size := 1) (g := b48) (m := 1) rfl (by decide)).rd (hS.own_ 1 rfl)) (rows_one encI_ok _) (maxLen_le (by omega)) (by show ((idx' (ofp ((u % 3 : Nat) : Int)) ts 0).length + 1) * 8 ≤ 140737488355328; omega) rfl rfl (by decide) ?_
                                clear hA hS; intro v50 w51 C52 a hO52 hS hA
                                replace hO52 := Own.app (l := idx' (ofp ((u % 3 : Nat) : Int)) ts 0) (l2 := ([((ts.length : Nat) : Int)] : List Int)) hO52
                                obtain ⟨A53, c54, rfl, hmc54, hxc54⟩ := hO52.open'
                                refine st_run tbOk 1 hA (e' := (8, .slice A53 (((idx' (ofp ((u % 3 : Nat) : Int)) ts 0) ++ ([((ts.length : Nat) : Int)] : List Int)).length) c54) :: _) rfl ?_; clear hA; intro a hA
                                refine wpList_nil ?_
                                replace hA := hA.sel [1, 2, 7, 8, 9, 19, 20, 21] (e' := [(1, .slice (some ⟨b40, o41, none⟩) bl.length c'), (2, .int .u8 ((u : Nat) : Int)), (7, .pointer (some ⟨b2, 0, none⟩)), (8, .slice A53 (((idx' (ofp ((u % 3 : Nat) : Int)) ts 0) ++ ([((ts.length : Nat) : Int)] : List Int)).length) c54), (9, .slice Ar ((idx' (rdyo ((u % 3 : Nat) : Int)) ts 0).length) cr), (19, .slice (some ⟨b8, o9, none⟩) l.length c), (20, .int .i64 ((l.length : Nat) : Int)), (21, .int .i64 ((k : Nat) : Int))]) rfl
                                refine xb_norm ?_
                                refine xt_norm ?_
                                refine wp_region_lit ?_
                                refine st_run tbOk 1 hA (e' := (75, .int .i64 (IntKind.i64.wrap (((k : Nat) : Int) + 1))) :: _) rfl ?_; clear hA; intro a hA
                                replace hA := hA.rw 75 (v' := .int .i64 ((k + 1 : Nat) : Int)) rfl (wr64 (by omega) (by omega) (by omega))
                                refine st_run tbOk 1 hA (e' := (21, .int .i64 ((k + 1 : Nat) : Int)) :: _) rfl ?_; clear hA; intro a hA
                                refine wpList_nil ?_
                                replace hA := hA.sel [1, 2, 7, 8, 9, 19, 20, 21] (e' := [(1, .slice (some ⟨b40, o41, none⟩) bl.length c'), (2, .int .u8 ((u : Nat) : Int)), (7, .pointer (some ⟨b2, 0, none⟩)), (8, .slice A53 (((idx' (ofp ((u % 3 : Nat) : Int)) ts 0) ++ ([((ts.length : Nat) : Int)] : List Int)).length) c54), (9, .slice Ar ((idx' (rdyo ((u % 3 : Nat) : Int)) ts 0).length) cr), (19, .slice (some ⟨b8, o9, none⟩) l.length c), (20, .int .i64 ((l.length : Nat) : Int)), (21, .int .i64 ((k + 1 : Nat) : Int))]) rfl
                                have hof : ofp ((u % 3 : Nat) : Int) (((x10.toNat % 3 : Nat) : Int), 2, 7) = true := by simp only [ofp, beq_iff_eq]; omega
                                have hrd : rdy (((x10.toNat % 3 : Nat) : Int), 2, 7) = false := by rfl
                                have hro : rdyo ((u % 3 : Nat) : Int) (((x10.toNat % 3 : Nat) : Int), 2, 7) = false := by simp only [rdyo, hof, hrd]; rfl
                                have hl : (idx' (ofp ((u % 3 : Nat) : Int)) ts 0) ++ ([((ts.length : Nat) : Int)] : List Int) = idx' (ofp ((u % 3 : Nat) : Int)) (ts ++ [(((x10.toNat % 3 : Nat) : Int), 2, 7)]) 0 := by first | exact idx_yes hof ts | (rw [← htl]; exact idx_yes hof ts)
                                rw [hl] at hO52; rw [hl] at hA
                                have hr1 : idx' (rdyo ((u % 3 : Nat) : Int)) ts 0 = idx' (rdyo ((u % 3 : Nat) : Int)) (ts ++ [(((x10.toNat % 3 : Nat) : Int), 2, 7)]) 0 := idx_no hro ts
                                rw [hr1] at hR hA
                                have hMn := hM46
                                rw [last_set, last_filt hT] at hMn
                                have hq1 : idx' rdy ts 0 = idx' rdy (ts ++ [(((x10.toNat % 3 : Nat) : Int), 2, 7)]) 0 := idx_no hrd ts
                                rw [hq1] at hMn
                                have hTn : TI (ts ++ [(((x10.toNat % 3 : Nat) : Int), 2, 7)]) (idx' rdy (ts ++ [(((x10.toNat % 3 : Nat) : Int), 2, 7)]) 0) := by rw [← hq1]; exact hT.same _ (by omega)
                                replace hS := hS.front 1 (C := [(b48, rowO [.int .i64 ((ts.length : Nat) : Int)] 3)]) (L' := C52 :: L44 :: Rc :: F) rfl rfl
                                replace hS := hS.drop1
                                replace hS := hS.front 2 (C := Rc) (L' := C52 :: L44 :: F) rfl rfl
                                replace hS := hS.front 1 (C := C52) (L' := Rc :: L44 :: F) rfl rfl
                                replace hS := hS.front 2 (C := L44) (L' := C52 :: Rc :: F) rfl rfl
                                exact lp_next _ (by omega) ⟨(k + 1), (ts ++ [(((x10.toNat % 3 : Nat) : Int), 2, 7)]), L44, A53, c54, C52, Ar, cr, Rc, rfl, (hA.sel [1, 2, 7, 8, 9, 19, 20, 21] rfl), hS, by omega, by omega, by simp [htl], hMn, hTn, (alive_app hal (by simp)), hO52, hR⟩)
                           · first
                             | (exfalso; omega)
                             | (replace hA := hA.rw 64 (v' := .bool false) rfl (vb_eq_f hc47)
                                refine cd_cond_f hA rfl ?_
                                refine wp_seq ?_
                                refine wp_region_lit ?_
                                refine st_run tbOk 2 hA (e' := (70, .bool false) :: (69, .bool true) :: _) rfl ?_; clear hA; intro a hA
                                refine wpList_nil ?_
                                replace hA := hA.sel [1, 2, 7, 8, 9, 12, 19, 20, 21, 70] (e' := [(1, .slice (some ⟨b40, o41, none⟩) bl.length c'), (2, .int .u8 ((u : Nat) : Int)), (7, .pointer (some ⟨b2, 0, none⟩)), (8, .slice Aw ((idx' (ofp ((u % 3 : Nat) : Int)) ts 0).length) cw), (9, .slice Ar ((idx' (rdyo ((u % 3 : Nat) : Int)) ts 0).length) cr), (12, .int .i64 ((ts.length : Nat) : Int)), (19, .slice (some ⟨b8, o9, none⟩) l.length c), (20, .int .i64 ((l.length : Nat) : Int)), (21, .int .i64 ((k : Nat) : Int)), (70, .bool false)]) rfl
                                refine xt_norm ?_
                                refine cd_cond_f hA rfl ?_
                                refine wp_skip ?_
                                refine xb_norm ?_
                                refine xt_norm ?_
                                refine wp_region_lit ?_
                                refine st_run tbOk 1 hA (e' := (75, .int .i64 (IntKind.i64.wrap (((k : Nat) : Int) + 1))) :: _) rfl ?_; clear hA; intro a hA
                                replace hA := hA.rw 75 (v' := .int .i64 ((k + 1 : Nat) : Int)) rfl (wr64 (by omega) (by omega) (by omega))
                                refine st_run tbOk 1 hA (e' := (21, .int .i64 ((k + 1 : Nat) : Int)) :: _) rfl ?_; clear hA; intro a hA
                                refine wpList_nil ?_
                                replace hA := hA.sel [1, 2, 7, 8, 9, 19, 20, 21] (e' := [(1, .slice (some ⟨b40, o41, none⟩) bl.length c'), (2, .int .u8 ((u : Nat) : Int)), (7, .pointer (some ⟨b2, 0, none⟩)), (8, .slice Aw ((idx' (ofp ((u % 3 : Nat) : Int)) ts 0).length) cw), (9, .slice Ar ((idx' (rdyo ((u % 3 : Nat) : Int)) ts 0).length) cr), (19, .slice (some ⟨b8, o9, none⟩) l.length c), (20, .int .i64 ((l.length : Nat) : Int)), (21, .int .i64 ((k + 1 : Nat) : Int))]) rfl
                                have hof : ofp ((u % 3 : Nat) : Int) (((x10.toNat % 3 : Nat) : Int), 2, 7) = false := by simp only [ofp, beq_eq_false_iff_ne]; omega
                                have hrd : rdy (((x10.toNat % 3 : Nat) : Int), 2, 7) = false := by rfl
                                have hro : rdyo ((u % 3 : Nat) : Int) (((x10.toNat % 3 : Nat) : Int), 2, 7) = false := by simp only [rdyo, hof, hrd]; rfl
                                have hw1 : idx' (ofp ((u % 3 : Nat) : Int)) ts 0 = idx' (ofp ((u % 3 : Nat) : Int)) (ts ++ [(((x10.toNat % 3 : Nat) : Int), 2, 7)]) 0 := idx_no hof ts
                                rw [hw1] at hW hA
                                have hr1 : idx' (rdyo ((u % 3 : Nat) : Int)) ts 0 = idx' (rdyo ((u % 3 : Nat) : Int)) (ts ++ [(((x10.toNat % 3 : Nat) : Int), 2, 7)]) 0 := idx_no hro ts
                                rw [hr1] at hR hA
                                have hMn := hM46
                                rw [last_set, last_filt hT] at hMn
                                have hq1 : idx' rdy ts 0 = idx' rdy (ts ++ [(((x10.toNat % 3 : Nat) : Int), 2, 7)]) 0 := idx_no hrd ts
                                rw [hq1] at hMn
                                have hTn : TI (ts ++ [(((x10.toNat % 3 : Nat) : Int), 2, 7)]) (idx' rdy (ts ++ [(((x10.toNat % 3 : Nat) : Int), 2, 7)]) 0) := by rw [← hq1]; exact hT.same _ (by omega)
                                replace hS := hS.front 2 (C := Rc) (L' := L44 :: Wc :: F) rfl rfl
                                replace hS := hS.front 2 (C := Wc) (L' := Rc :: L44 :: F) rfl rfl
                                replace hS := hS.front 2 (C := L44) (L' := Wc :: Rc :: F) rfl rfl
                                exact lp_next _ (by omega) ⟨(k + 1), (ts ++ [(((x10.toNat % 3 : Nat) : Int), 2, 7)]), L44, Aw, cw, Wc, Ar, cr, Rc, rfl, (hA.sel [1, 2, 7, 8, 9, 19, 20, 21] rfl), hS, by omega, by omega, by simp [htl], hMn, hTn, (alive_app hal (by simp)), hW, hR⟩))
                      · first
                        | (exfalso; omega)
                        | (replace hA := hA.rw 14 (v' := .bool false) rfl (vb_f hc43)
                           replace hA := hA.rw 53 (v' := .bool false) rfl (vb_f hc43)
                           replace hA := hA.rw 54 (v' := .bool false) rfl (vb_f hc43)
                           refine st_run tbOk 2 hA (e' := (56, undef) :: (55, undef) :: _) rfl ?_; clear hA; intro a hA
                           refine st_run tbOk 3 hA (e' := (59, .bool false) :: (58, undef) :: (57, undef) :: _) rfl ?_; clear hA; intro a hA
                           refine wpList_nil ?_
                           replace hA := hA.sel [1, 2, 7, 8, 9, 11, 12, 14, 19, 20, 21, 59] (e' := [(1, .slice (some ⟨b40, o41, none⟩) bl.length c'), (2, .int .u8 ((u : Nat) : Int)), (7, .pointer (some ⟨b2, 0, none⟩)), (8, .slice Aw ((idx' (ofp ((u % 3 : Nat) : Int)) ts 0).length) cw), (9, .slice Ar ((idx' (rdyo ((u % 3 : Nat) : Int)) ts 0).length) cr), (11, .int .u8 ((x10.toNat : Nat) : Int)), (12, .int .i64 ((ts.length : Nat) : Int)), (14, .bool false), (19, .slice (some ⟨b8, o9, none⟩) l.length c), (20, .int .i64 ((l.length : Nat) : Int)), (21, .int .i64 ((k : Nat) : Int)), (59, .bool false)]) rfl
                           refine xt_norm ?_
                           refine cd_cond_f hA rfl ?_
                           refine wp_skip ?_
                           refine xt_norm ?_
                           refine wp_seq ?_
                           refine wp_region_lit ?_
                           refine st_run tbOk 2 hA (e' := (61, .int .u8 (((x10.toNat : Nat) : Int).tmod 3)) :: (60, .int .u8 ((x10.toNat : Nat) : Int)) :: _) rfl ?_; clear hA; intro a hA
                           replace hA := hA.rw 61 (v' := .int .u8 ((x10.toNat % 3 : Nat) : Int)) rfl (vint (Int.ofNat_tmod _ _).symm)
                           refine st_run tbOk 2 hA (e' := (63, .int .u8 (((u : Nat) : Int).tmod 3)) :: (62, .int .u8 ((u : Nat) : Int)) :: _) rfl ?_; clear hA; intro a hA
                           replace hA := hA.rw 63 (v' := .int .u8 ((u % 3 : Nat) : Int)) rfl (vint (Int.ofNat_tmod _ _).symm)
                           refine st_run tbOk 1 hA (e' := (64, .bool (((x10.toNat % 3 : Nat) : Int) == ((u % 3 : Nat) : Int))) :: _) rfl ?_; clear hA; intro a hA
                           refine wpList_nil ?_
                           replace hA := hA.sel [1, 2, 7, 8, 9, 12, 14, 19, 20, 21, 64] (e' := [(1, .slice (some ⟨b40, o41, none⟩) bl.length c'), (2, .int .u8 ((u : Nat) : Int)), (7, .pointer (some ⟨b2, 0, none⟩)), (8, .slice Aw ((idx' (ofp ((u % 3 : Nat) : Int)) ts 0).length) cw), (9, .slice Ar ((idx' (rdyo ((u % 3 : Nat) : Int)) ts 0).length) cr), (12, .int .i64 ((ts.length : Nat) : Int)), (14, .bool false), (19, .slice (some ⟨b8, o9, none⟩) l.length c), (20, .int .i64 ((l.length : Nat) : Int)), (21, .int .i64 ((k : Nat) : Int)), (64, .bool (((x10.toNat % 3 : Nat) : Int) == ((u % 3 : Nat) : Int)))]) rfl
                           refine xt_norm ?_
                           by_cases hc55 : ((x10.toNat % 3 : Nat) : Int) = ((u % 3 : Nat) : Int)
                           · first
                             | (exfalso; omega)
                             | (replace hA := hA.rw 64 (v' := .bool true) rfl (vb_eq_t hc55)
                                refine cd_cond_t hA rfl ?_
                                refine wp_region_lit ?_
                                refine st_run tbOk 2 hA (e' := (66, .int .i64 ((ts.length : Nat) : Int)) :: (65, .slice Aw ((idx' (ofp ((u % 3 : Nat) : Int)) ts 0).length) cw) :: _) rfl ?_; clear hA; intro a hA
                                refine st_buildSlice tbOk hA hS [.int .i64 ((ts.length : Nat) : Int)] rfl rfl rfl rfl rfl (by decide) (by kernel_rfl) rfl rfl (by decide) ?_; clear hA hS; intro b56 w57 a hS hA
                                replace hS := hS.front 2 (C := Wc) (L' := [(b56, rowO [.int .i64 ((ts.length : Nat) : Int)] 3)] :: L35 :: Rc :: F) rfl rfl
                                refine st_append tbOk hA (m := (idx' (ofp ((u % 3 : Nat) : Int)) ts 0).length) (q := 1) (xs := rows encI (idx' (ofp ((u % 3 : Nat) : Int)) ts 0)) (news := rows encI ([((ts.length : Nat) : Int)] : List Int)) rfl rfl rfl rfl rfl rfl rfl rfl (by decide) hW hS ((Own.full (T := 3) (size := 1) (g := b56) (m := 1) rfl (by decide)).rd (hS.own_ 1 rfl)) (rows_one encI_ok _) (maxLen_le (by omega)) (by show ((idx' (ofp ((u % 3 : Nat) : Int)) ts 0).length + 1) * 8 ≤ 140737488355328; omega) rfl rfl (by decide) ?_
                                clear hA hS; intro v58 w59 C60 a hO60 hS hA
                                replace hO60 := Own.app (l := idx' (ofp ((u % 3 : Nat) : Int)) ts 0) (l2 := ([((ts.length : Nat) : Int)] : List Int)) hO60
                                obtain ⟨A61, c62, rfl, hmc62, hxc62⟩ := hO60.open'
                                refine st_run tbOk 1 hA (e' := (8, .slice A61 (((idx' (ofp ((u % 3 : Nat) : Int)) ts 0) ++ ([((ts.length : Nat) : Int)] : List Int)).length) c62) :: _) rfl ?_; clear hA; intro a hA
                                refine wpList_nil ?_
                                replace hA := hA.sel [1, 2, 7, 8, 9, 19, 20, 21] (e' := [(1, .slice (some ⟨b40, o41, none⟩) bl.length c'), (2, .int .u8 ((u : Nat) : Int)), (7, .pointer (some ⟨b2, 0, none⟩)), (8, .slice A61 (((idx' (ofp ((u % 3 : Nat) : Int)) ts 0) ++ ([((ts.length : Nat) : Int)] : List Int)).length) c62), (9, .slice Ar ((idx' (rdyo ((u % 3 : Nat) : Int)) ts 0).length) cr), (19, .slice (some ⟨b8, o9, none⟩) l.length c), (20, .int .i64 ((l.length : Nat) : Int)), (21, .int .i64 ((k : Nat) : Int))]) rfl
                                refine xb_norm ?_
                                refine xt_norm ?_
                                refine wp_region_lit ?_
                                refine st_run tbOk 1 hA (e' := (75, .int .i64 (IntKind.i64.wrap (((k : Nat) : Int) + 1))) :: _) rfl ?_; clear hA; intro a hA
                                replace hA := hA.rw 75 (v' := .int .i64 ((k + 1 : Nat) : Int)) rfl (wr64 (by omega) (by omega) (by omega))
                                refine st_run tbOk 1 hA (e' := (21, .int .i64 ((k + 1 : Nat) : Int)) :: _) rfl ?_; clear hA; intro a hA
                                refine wpList_nil ?_
                                replace hA := hA.sel [1, 2, 7, 8, 9, 19, 20, 21] (e' := [(1, .slice (some ⟨b40, o41, none⟩) bl.length c'), (2, .int .u8 ((u : Nat) : Int)), (7, .pointer (some ⟨b2, 0, none⟩)), (8, .slice A61 (((idx' (ofp ((u % 3 : Nat) : Int)) ts 0) ++ ([((ts.length : Nat) : Int)] : List Int)).length) c62), (9, .slice Ar ((idx' (rdyo ((u % 3 : Nat) : Int)) ts 0).length) cr), (19, .slice (some ⟨b8, o9, none⟩) l.length c), (20, .int .i64 ((l.length : Nat) : Int)), (21, .int .i64 ((k + 1 : Nat) : Int))]) rfl
                                have hof : ofp ((u % 3 : Nat) : Int) (((x10.toNat % 3 : Nat) : Int), 1, 0) = true := by simp only [ofp, beq_iff_eq]; omega
                                have hrd : rdy (((x10.toNat % 3 : Nat) : Int), 1, 0) = true := by rfl
                                have hro : rdyo ((u % 3 : Nat) : Int) (((x10.toNat % 3 : Nat) : Int), 1, 0) = false := by simp only [rdyo, hof, hrd]; rfl
                                have hl : (idx' (ofp ((u % 3 : Nat) : Int)) ts 0) ++ ([((ts.length : Nat) : Int)] : List Int) = idx' (ofp ((u % 3 : Nat) : Int)) (ts ++ [(((x10.toNat % 3 : Nat) : Int), 1, 0)]) 0 := by first | exact idx_yes hof ts | (rw [← htl]; exact idx_yes hof ts)
                                rw [hl] at hO60; rw [hl] at hA
                                have hr1 : idx' (rdyo ((u % 3 : Nat) : Int)) ts 0 = idx' (rdyo ((u % 3 : Nat) : Int)) (ts ++ [(((x10.toNat % 3 : Nat) : Int), 1, 0)]) 0 := idx_no hro ts
                                rw [hr1] at hR hA
                                have hMn := hM37
                                have hq1 : idx' rdy ts 0 ++ [((ts.length : Nat) : Int)] = idx' rdy (ts ++ [(((x10.toNat % 3 : Nat) : Int), 1, 0)]) 0 := idx_yes hrd ts
                                rw [hq1] at hMn
                                have hTn : TI (ts ++ [(((x10.toNat % 3 : Nat) : Int), 1, 0)]) (idx' rdy (ts ++ [(((x10.toNat % 3 : Nat) : Int), 1, 0)]) 0) := by rw [← hq1]; exact hT.start _ (by omega)
                                replace hS := hS.front 1 (C := [(b56, rowO [.int .i64 ((ts.length : Nat) : Int)] 3)]) (L' := C60 :: L35 :: Rc :: F) rfl rfl
                                replace hS := hS.drop1
                                replace hS := hS.front 2 (C := Rc) (L' := C60 :: L35 :: F) rfl rfl
                                replace hS := hS.front 1 (C := C60) (L' := Rc :: L35 :: F) rfl rfl
                                replace hS := hS.front 2 (C := L35) (L' := C60 :: Rc :: F) rfl rfl
                                exact lp_next _ (by omega) ⟨(k + 1), (ts ++ [(((x10.toNat % 3 : Nat) : Int), 1, 0)]), L35, A61, c62, C60, Ar, cr, Rc, rfl, (hA.sel [1, 2, 7, 8, 9, 19, 20, 21] rfl), hS, by omega, by omega, by simp [htl], hMn, hTn, (alive_app hal (by simp)), hO60, hR⟩)
                           · first
                             | (exfalso; omega)
                             | (replace hA := hA.rw 64 (v' := .bool false) rfl (vb_eq_f hc55)
                                refine cd_cond_f hA rfl ?_
                                refine wp_seq ?_
                                refine wp_region_lit ?_
                                refine st_run tbOk 2 hA (e' := (70, .bool true) :: (69, .bool false) :: _) rfl ?_; clear hA; intro a hA
                                refine wpList_nil ?_
                                replace hA := hA.sel [1, 2, 7, 8, 9, 12, 19, 20, 21, 70] (e' := [(1, .slice (some ⟨b40, o41, none⟩) bl.length c'), (2, .int .u8 ((u : Nat) : Int)), (7, .pointer (some ⟨b2, 0, none⟩)), (8, .slice Aw ((idx' (ofp ((u % 3 : Nat) : Int)) ts 0).length) cw), (9, .slice Ar ((idx' (rdyo ((u % 3 : Nat) : Int)) ts 0).length) cr), (12, .int .i64 ((ts.length : Nat) : Int)), (19, .slice (some ⟨b8, o9, none⟩) l.length c), (20, .int .i64 ((l.length : Nat) : Int)), (21, .int .i64 ((k : Nat) : Int)), (70, .bool true)]) rfl
                                refine xt_norm ?_
                                refine cd_cond_t hA rfl ?_
                                refine wp_region_lit ?_
                                refine st_run tbOk 2 hA (e' := (72, .int .i64 ((ts.length : Nat) : Int)) :: (71, .slice Ar ((idx' (rdyo ((u % 3 : Nat) : Int)) ts 0).length) cr) :: _) rfl ?_; clear hA; intro a hA
                                refine st_buildSlice tbOk hA hS [.int .i64 ((ts.length : Nat) : Int)] rfl rfl rfl rfl rfl (by decide) (by kernel_rfl) rfl rfl (by decide) ?_; clear hA hS; intro b63 w64 a hS hA
                                replace hS := hS.front 3 (C := Rc) (L' := [(b63, rowO [.int .i64 ((ts.length : Nat) : Int)] 3)] :: L35 :: Wc :: F) rfl rfl
                                refine st_append tbOk hA (m := (idx' (rdyo ((u % 3 : Nat) : Int)) ts 0).length) (q := 1) (xs := rows encI (idx' (rdyo ((u % 3 : Nat) : Int)) ts 0)) (news := rows encI ([((ts.length : Nat) : Int)] : List Int)) rfl rfl rfl rfl rfl rfl rfl rfl (by decide) hR hS ((Own.full (T := 3) (size := 1) (g := b63) (m := 1) rfl (by decide)).rd (hS.own_ 1 rfl)) (rows_one encI_ok _) (maxLen_le (by omega)) (by show ((idx' (rdyo ((u % 3 : Nat) : Int)) ts 0).length + 1) * 8 ≤ 140737488355328; omega) rfl rfl (by decide) ?_
                                clear hA hS; intro v65 w66 C67 a hO67 hS hA
                                replace hO67 := Own.app (l := idx' (rdyo ((u % 3 : Nat) : Int)) ts 0) (l2 := ([((ts.length : Nat) : Int)] : List Int)) hO67
                                obtain ⟨A68, c69, rfl, hmc69, hxc69⟩ := hO67.open'
                                refine st_run tbOk 1 hA (e' := (9, .slice A68 (((idx' (rdyo ((u % 3 : Nat) : Int)) ts 0) ++ ([((ts.length : Nat) : Int)] : List Int)).length) c69) :: _) rfl ?_; clear hA; intro a hA
                                refine wpList_nil ?_
                                replace hA := hA.sel [1, 2, 7, 8, 9, 19, 20, 21] (e' := [(1, .slice (some ⟨b40, o41, none⟩) bl.length c'), (2, .int .u8 ((u : Nat) : Int)), (7, .pointer (some ⟨b2, 0, none⟩)), (8, .slice Aw ((idx' (ofp ((u % 3 : Nat) : Int)) ts 0).length) cw), (9, .slice A68 (((idx' (rdyo ((u % 3 : Nat) : Int)) ts 0) ++ ([((ts.length : Nat) : Int)] : List Int)).length) c69), (19, .slice (some ⟨b8, o9, none⟩) l.length c), (20, .int .i64 ((l.length : Nat) : Int)), (21, .int .i64 ((k : Nat) : Int))]) rfl
                                refine xb_norm ?_
                                refine xt_norm ?_
                                refine wp_region_lit ?_
                                refine st_run tbOk 1 hA (e' := (75, .int .i64 (IntKind.i64.wrap (((k : Nat) : Int) + 1))) :: _) rfl ?_; clear hA; intro a hA
                                replace hA := hA.rw 75 (v' := .int .i64 ((k + 1 : Nat) : Int)) rfl (wr64 (by omega) (by omega) (by omega))
                                refine st_run tbOk 1 hA (e' := (21, .int .i64 ((k + 1 : Nat) : Int)) :: _) rfl ?_; clear hA; intro a hA
                                refine wpList_nil ?_
                                replace hA := hA.sel [1, 2, 7, 8, 9, 19, 20, 21] (e' := [(1, .slice (some ⟨b40, o41, none⟩) bl.length c'), (2, .int .u8 ((u : Nat) : Int)), (7, .pointer (some ⟨b2, 0, none⟩)), (8, .slice Aw ((idx' (ofp ((u % 3 : Nat) : Int)) ts 0).length) cw), (9, .slice A68 (((idx' (rdyo ((u % 3 : Nat) : Int)) ts 0) ++ ([((ts.length : Nat) : Int)] : List Int)).length) c69), (19, .slice (some ⟨b8, o9, none⟩) l.length c), (20, .int .i64 ((l.length : Nat) : Int)), (21, .int .i64 ((k + 1 : Nat) : Int))]) rfl
                                have hof : ofp ((u % 3 : Nat) : Int) (((x10.toNat % 3 : Nat) : Int), 1, 0) = false := by simp only [ofp, beq_eq_false_iff_ne]; omega
                                have hrd : rdy (((x10.toNat % 3 : Nat) : Int), 1, 0) = true := by rfl
                                have hro : rdyo ((u % 3 : Nat) : Int) (((x10.toNat % 3 : Nat) : Int), 1, 0) = true := by simp only [rdyo, hof, hrd]; rfl
                                have hw1 : idx' (ofp ((u % 3 : Nat) : Int)) ts 0 = idx' (ofp ((u % 3 : Nat) : Int)) (ts ++ [(((x10.toNat % 3 : Nat) : Int), 1, 0)]) 0 := idx_no hof ts
                                rw [hw1] at hW hA
                                have hl : (idx' (rdyo ((u % 3 : Nat) : Int)) ts 0) ++ ([((ts.length : Nat) : Int)] : List Int) = idx' (rdyo ((u % 3 : Nat) : Int)) (ts ++ [(((x10.toNat % 3 : Nat) : Int), 1, 0)]) 0 := by first | exact idx_yes hro ts | (rw [← htl]; exact idx_yes hro ts)
                                rw [hl] at hO67; rw [hl] at hA
                                have hMn := hM37
                                have hq1 : idx' rdy ts 0 ++ [((ts.length : Nat) : Int)] = idx' rdy (ts ++ [(((x10.toNat % 3 : Nat) : Int), 1, 0)]) 0 := idx_yes hrd ts
                                rw [hq1] at hMn
                                have hTn : TI (ts ++ [(((x10.toNat % 3 : Nat) : Int), 1, 0)]) (idx' rdy (ts ++ [(((x10.toNat % 3 : Nat) : Int), 1, 0)]) 0) := by rw [← hq1]; exact hT.start _ (by omega)
                                replace hS := hS.front 1 (C := [(b63, rowO [.int .i64 ((ts.length : Nat) : Int)] 3)]) (L' := C67 :: L35 :: Wc :: F) rfl rfl
                                replace hS := hS.drop1
                                replace hS := hS.front 2 (C := Wc) (L' := C67 :: L35 :: F) rfl rfl
                                replace hS := hS.front 2 (C := L35) (L' := Wc :: C67 :: F) rfl rfl
                                exact lp_next _ (by omega) ⟨(k + 1), (ts ++ [(((x10.toNat % 3 : Nat) : Int), 1, 0)]), L35, Aw, cw, Wc, A68, c69, C67, rfl, (hA.sel [1, 2, 7, 8, 9, 19, 20, 21] rfl), hS, by omega, by omega, by simp [htl], hMn, hTn, (alive_app hal (by simp)), hW, hO67⟩)))
                 · first
                   | (exfalso; omega)
                   | (replace hA := hA.rw 46 (v' := .bool false) rfl (vb_false hc39)
                      replace hA := hA.rw 47 (v' := .bool false) rfl (vb_false hc39)
                      refine st_run tbOk 6 hA (e' := (14, .bool false) :: (52, .bool false) :: (51, undef) :: (50, undef) :: (49, undef) :: (48, undef) :: _) rfl ?_; clear hA; intro a hA
                      refine wpList_nil ?_
                      replace hA := hA.sel [1, 2, 7, 8, 9, 11, 12, 14, 19, 20, 21] (e' := [(1, .slice A' bl.length c'), (2, .int .u8 ((u : Nat) : Int)), (7, .pointer (some ⟨b2, 0, none⟩)), (8, .slice Aw ((idx' (ofp ((u % 3 : Nat) : Int)) ts 0).length) cw), (9, .slice Ar ((idx' (rdyo ((u % 3 : Nat) : Int)) ts 0).length) cr), (11, .int .u8 ((x10.toNat : Nat) : Int)), (12, .int .i64 ((ts.length : Nat) : Int)), (14, .bool false), (19, .slice (some ⟨b8, o9, none⟩) l.length c), (20, .int .i64 ((l.length : Nat) : Int)), (21, .int .i64 ((k : Nat) : Int))]) rfl
                      refine xt_norm ?_
                      refine wp_seq ?_
                      refine wp_seq ?_
                      refine wp_region_lit ?_
                      refine st_run tbOk 4 hA (e' := (56, undef) :: (55, undef) :: (54, .bool false) :: (53, .bool false) :: _) rfl ?_; clear hA; intro a hA
                      refine st_run tbOk 3 hA (e' := (59, .bool false) :: (58, undef) :: (57, undef) :: _) rfl ?_; clear hA; intro a hA
                      refine wpList_nil ?_
                      replace hA := hA.sel [1, 2, 7, 8, 9, 11, 12, 14, 19, 20, 21, 59] (e' := [(1, .slice A' bl.length c'), (2, .int .u8 ((u : Nat) : Int)), (7, .pointer (some ⟨b2, 0, none⟩)), (8, .slice Aw ((idx' (ofp ((u % 3 : Nat) : Int)) ts 0).length) cw), (9, .slice Ar ((idx' (rdyo ((u % 3 : Nat) : Int)) ts 0).length) cr), (11, .int .u8 ((x10.toNat : Nat) : Int)), (12, .int .i64 ((ts.length : Nat) : Int)), (14, .bool false), (19, .slice (some ⟨b8, o9, none⟩) l.length c), (20, .int .i64 ((l.length : Nat) : Int)), (21, .int .i64 ((k : Nat) : Int)), (59, .bool false)]) rfl
                      refine xt_norm ?_
                      refine cd_cond_f hA rfl ?_
                      refine wp_skip ?_
                      refine xt_norm ?_
                      refine wp_seq ?_
                      refine wp_region_lit ?_
                      refine st_run tbOk 2 hA (e' := (61, .int .u8 (((x10.toNat : Nat) : Int).tmod 3)) :: (60, .int .u8 ((x10.toNat : Nat) : Int)) :: _) rfl ?_; clear hA; intro a hA
                      replace hA := hA.rw 61 (v' := .int .u8 ((x10.toNat % 3 : Nat) : Int)) rfl (vint (Int.ofNat_tmod _ _).symm)
                      refine st_run tbOk 2 hA (e' := (63, .int .u8 (((u : Nat) : Int).tmod 3)) :: (62, .int .u8 ((u : Nat) : Int)) :: _) rfl ?_; clear hA; intro a hA
                      replace hA := hA.rw 63 (v' := .int .u8 ((u % 3 : Nat) : Int)) rfl (vint (Int.ofNat_tmod _ _).symm)
                      refine st_run tbOk 1 hA (e' := (64, .bool (((x10.toNat % 3 : Nat) : Int) == ((u % 3 : Nat) : Int))) :: _) rfl ?_; clear hA; intro a hA
                      refine wpList_nil ?_
                      replace hA := hA.sel [1, 2, 7, 8, 9, 12, 14, 19, 20, 21, 64] (e' := [(1, .slice A' bl.length c'), (2, .int .u8 ((u : Nat) : Int)), (7, .pointer (some ⟨b2, 0, none⟩)), (8, .slice Aw ((idx' (ofp ((u % 3 : Nat) : Int)) ts 0).length) cw), (9, .slice Ar ((idx' (rdyo ((u % 3 : Nat) : Int)) ts 0).length) cr), (12, .int .i64 ((ts.length : Nat) : Int)), (14, .bool false), (19, .slice (some ⟨b8, o9, none⟩) l.length c), (20, .int .i64 ((l.length : Nat) : Int)), (21, .int .i64 ((k : Nat) : Int)), (64, .bool (((x10.toNat % 3 : Nat) : Int) == ((u % 3 : Nat) : Int)))]) rfl
                      refine xt_norm ?_
                      by_cases hc70 : ((x10.toNat % 3 : Nat) : Int) = ((u % 3 : Nat) : Int)
                      · first
                        | (exfalso; omega)
                        | (replace hA := hA.rw 64 (v' := .bool true) rfl (vb_eq_t hc70)
                           refine cd_cond_t hA rfl ?_
                           refine wp_region_lit ?_
                           refine st_run tbOk 2 hA (e' := (66, .int .i64 ((ts.length : Nat) : Int)) :: (65, .slice Aw ((idx' (ofp ((u % 3 : Nat) : Int)) ts 0).length) cw) :: _) rfl ?_; clear hA; intro a hA
                           refine st_buildSlice tbOk hA hS [.int .i64 ((ts.length : Nat) : Int)] rfl rfl rfl rfl rfl (by decide) (by kernel_rfl) rfl rfl (by decide) ?_; clear hA hS; intro b71 w72 a hS hA
                           replace hS := hS.front 2 (C := Wc) (L' := [(b71, rowO [.int .i64 ((ts.length : Nat) : Int)] 3)] :: L35 :: Rc :: F) rfl rfl
                           refine st_append tbOk hA (m := (idx' (ofp ((u % 3 : Nat) : Int)) ts 0).length) (q := 1) (xs := rows encI (idx' (ofp ((u % 3 : Nat) : Int)) ts 0)) (news := rows encI ([((ts.length : Nat) : Int)] : List Int)) rfl rfl rfl rfl rfl rfl rfl rfl (by decide) hW hS ((Own.full (T := 3) (size := 1) (g := b71) (m := 1) rfl (by decide)).rd (hS.own_ 1 rfl)) (rows_one encI_ok _) (maxLen_le (by omega)) (by show ((idx' (ofp ((u % 3 : Nat) : Int)) ts 0).length + 1) * 8 ≤ 140737488355328; omega) rfl rfl (by decide) ?_
                           clear hA hS; intro v73 w74 C75 a hO75 hS hA
                           replace hO75 := Own.app (l := idx' (ofp ((u % 3 : Nat) : Int)) ts 0) (l2 := ([((ts.length : Nat) : Int)] : List Int)) hO75
                           obtain ⟨A76, c77, rfl, hmc77, hxc77⟩ := hO75.open'
                           refine st_run tbOk 1 hA (e' := (8, .slice A76 (((idx' (ofp ((u % 3 : Nat) : Int)) ts 0) ++ ([((ts.length : Nat) : Int)] : List Int)).length) c77) :: _) rfl ?_; clear hA; intro a hA
                           refine wpList_nil ?_
                           replace hA := hA.sel [1, 2, 7, 8, 9, 19, 20, 21] (e' := [(1, .slice A' bl.length c'), (2, .int .u8 ((u : Nat) : Int)), (7, .pointer (some ⟨b2, 0, none⟩)), (8, .slice A76 (((idx' (ofp ((u % 3 : Nat) : Int)) ts 0) ++ ([((ts.length : Nat) : Int)] : List Int)).length) c77), (9, .slice Ar ((idx' (rdyo ((u % 3 : Nat) : Int)) ts 0).length) cr), (19, .slice (some ⟨b8, o9, none⟩) l.length c), (20, .int .i64 ((l.length : Nat) : Int)), (21, .int .i64 ((k : Nat) : Int))]) rfl
                           refine xb_norm ?_
                           refine xt_norm ?_
                           refine wp_region_lit ?_
                           refine st_run tbOk 1 hA (e' := (75, .int .i64 (IntKind.i64.wrap (((k : Nat) : Int) + 1))) :: _) rfl ?_; clear hA; intro a hA
                           replace hA := hA.rw 75 (v' := .int .i64 ((k + 1 : Nat) : Int)) rfl (wr64 (by omega) (by omega) (by omega))
                           refine st_run tbOk 1 hA (e' := (21, .int .i64 ((k + 1 : Nat) : Int)) :: _) rfl ?_; clear hA; intro a hA
                           refine wpList_nil ?_
                           replace hA := hA.sel [1, 2, 7, 8, 9, 19, 20, 21] (e' := [(1, .slice A' bl.length c'), (2, .int .u8 ((u : Nat) : Int)), (7, .pointer (some ⟨b2, 0, none⟩)), (8, .slice A76 (((idx' (ofp ((u % 3 : Nat) : Int)) ts 0) ++ ([((ts.length : Nat) : Int)] : List Int)).length) c77), (9, .slice Ar ((idx' (rdyo ((u % 3 : Nat) : Int)) ts 0).length) cr), (19, .slice (some ⟨b8, o9, none⟩) l.length c), (20, .int .i64 ((l.length : Nat) : Int)), (21, .int .i64 ((k + 1 : Nat) : Int))]) rfl
                           have hof : ofp ((u % 3 : Nat) : Int) (((x10.toNat % 3 : Nat) : Int), 1, 0) = true := by simp only [ofp, beq_iff_eq]; omega
                           have hrd : rdy (((x10.toNat % 3 : Nat) : Int), 1, 0) = true := by rfl
                           have hro : rdyo ((u % 3 : Nat) : Int) (((x10.toNat % 3 : Nat) : Int), 1, 0) = false := by simp only [rdyo, hof, hrd]; rfl
                           have hl : (idx' (ofp ((u % 3 : Nat) : Int)) ts 0) ++ ([((ts.length : Nat) : Int)] : List Int) = idx' (ofp ((u % 3 : Nat) : Int)) (ts ++ [(((x10.toNat % 3 : Nat) : Int), 1, 0)]) 0 := by first | exact idx_yes hof ts | (rw [← htl]; exact idx_yes hof ts)
                           rw [hl] at hO75; rw [hl] at hA
                           have hr1 : idx' (rdyo ((u % 3 : Nat) : Int)) ts 0 = idx' (rdyo ((u % 3 : Nat) : Int)) (ts ++ [(((x10.toNat % 3 : Nat) : Int), 1, 0)]) 0 := idx_no hro ts
                           rw [hr1] at hR hA
                           have hMn := hM37
                           have hq1 : idx' rdy ts 0 ++ [((ts.length : Nat) : Int)] = idx' rdy (ts ++ [(((x10.toNat % 3 : Nat) : Int), 1, 0)]) 0 := idx_yes hrd ts
                           rw [hq1] at hMn
                           have hTn : TI (ts ++ [(((x10.toNat % 3 : Nat) : Int), 1, 0)]) (idx' rdy (ts ++ [(((x10.toNat % 3 : Nat) : Int), 1, 0)]) 0) := by rw [← hq1]; exact hT.start _ (by omega)
                           replace hS := hS.front 1 (C := [(b71, rowO [.int .i64 ((ts.length : Nat) : Int)] 3)]) (L' := C75 :: L35 :: Rc :: F) rfl rfl
                           replace hS := hS.drop1
                           replace hS := hS.front 2 (C := Rc) (L' := C75 :: L35 :: F) rfl rfl
                           replace hS := hS.front 1 (C := C75) (L' := Rc :: L35 :: F) rfl rfl
                           replace hS := hS.front 2 (C := L35) (L' := C75 :: Rc :: F) rfl rfl
                           exact lp_next _ (by omega) ⟨(k + 1), (ts ++ [(((x10.toNat % 3 : Nat) : Int), 1, 0)]), L35, A76, c77, C75, Ar, cr, Rc, rfl, (hA.sel [1, 2, 7, 8, 9, 19, 20, 21] rfl), hS, by omega, by omega, by simp [htl], hMn, hTn, (alive_app hal (by simp)), hO75, hR⟩)
                      · first
                        | (exfalso; omega)
                        | (replace hA := hA.rw 64 (v' := .bool false) rfl (vb_eq_f hc70)
                           refine cd_cond_f hA rfl ?_
                           refine wp_seq ?_
                           refine wp_region_lit ?_
                           refine st_run tbOk 2 hA (e' := (70, .bool true) :: (69, .bool false) :: _) rfl ?_; clear hA; intro a hA
                           refine wpList_nil ?_
                           replace hA := hA.sel [1, 2, 7, 8, 9, 12, 19, 20, 21, 70] (e' := [(1, .slice A' bl.length c'), (2, .int .u8 ((u : Nat) : Int)), (7, .pointer (some ⟨b2, 0, none⟩)), (8, .slice Aw ((idx' (ofp ((u % 3 : Nat) : Int)) ts 0).length) cw), (9, .slice Ar ((idx' (rdyo ((u % 3 : Nat) : Int)) ts 0).length) cr), (12, .int .i64 ((ts.length : Nat) : Int)), (19, .slice (some ⟨b8, o9, none⟩) l.length c), (20, .int .i64 ((l.length : Nat) : Int)), (21, .int .i64 ((k : Nat) : Int)), (70, .bool true)]) rfl
                           refine xt_norm ?_
                           refine cd_cond_t hA rfl ?_
                           refine wp_region_lit ?_
                           refine st_run tbOk 2 hA (e' := (72, .int .i64 ((ts.length : Nat) : Int)) :: (71, .slice Ar ((idx' (rdyo ((u % 3 : Nat) : Int)) ts 0).length) cr) :: _) rfl ?_; clear hA; intro a hA
                           refine st_buildSlice tbOk hA hS [.int .i64 ((ts.length : Nat) : Int)] rfl rfl rfl rfl rfl (by decide) (by kernel_rfl) rfl rfl (by decide) ?_; clear hA hS; intro b78 w79 a hS hA
                           replace hS := hS.front 3 (C := Rc) (L' := [(b78, rowO [.int .i64 ((ts.length : Nat) : Int)] 3)] :: L35 :: Wc :: F) rfl rfl
                           refine st_append tbOk hA (m := (idx' (rdyo ((u % 3 : Nat) : Int)) ts 0).length) (q := 1) (xs := rows encI (idx' (rdyo ((u % 3 : Nat) : Int)) ts 0)) (news := rows encI ([((ts.length : Nat) : Int)] : List Int)) rfl rfl rfl rfl rfl rfl rfl rfl (by decide) hR hS ((Own.full (T := 3) (size := 1) (g := b78) (m := 1) rfl (by decide)).rd (hS.own_ 1 rfl)) (rows_one encI_ok _) (maxLen_le (by omega)) (by show ((idx' (rdyo ((u % 3 : Nat) : Int)) ts 0).length + 1) * 8 ≤ 140737488355328; omega) rfl rfl (by decide) ?_
                           clear hA hS; intro v80 w81 C82 a hO82 hS hA
                           replace hO82 := Own.app (l := idx' (rdyo ((u % 3 : Nat) : Int)) ts 0) (l2 := ([((ts.length : Nat) : Int)] : List Int)) hO82
                           obtain ⟨A83, c84, rfl, hmc84, hxc84⟩ := hO82.open'
                           refine st_run tbOk 1 hA (e' := (9, .slice A83 (((idx' (rdyo ((u % 3 : Nat) : Int)) ts 0) ++ ([((ts.length : Nat) : Int)] : List Int)).length) c84) :: _) rfl ?_; clear hA; intro a hA
                           refine wpList_nil ?_
                           replace hA := hA.sel [1, 2, 7, 8, 9, 19, 20, 21] (e' := [(1, .slice A' bl.length c'), (2, .int .u8 ((u : Nat) : Int)), (7, .pointer (some ⟨b2, 0, none⟩)), (8, .slice Aw ((idx' (ofp ((u % 3 : Nat) : Int)) ts 0).length) cw), (9, .slice A83 (((idx' (rdyo ((u % 3 : Nat) : Int)) ts 0) ++ ([((ts.length : Nat) : Int)] : List Int)).length) c84), (19, .slice (some ⟨b8, o9, none⟩) l.length c), (20, .int .i64 ((l.length : Nat) : Int)), (21, .int .i64 ((k : Nat) : Int))]) rfl
                           refine xb_norm ?_
                           refine xt_norm ?_
                           refine wp_region_lit ?_
                           refine st_run tbOk 1 hA (e' := (75, .int .i64 (IntKind.i64.wrap (((k : Nat) : Int) + 1))) :: _) rfl ?_; clear hA; intro a hA
                           replace hA := hA.rw 75 (v' := .int .i64 ((k + 1 : Nat) : Int)) rfl (wr64 (by omega) (by omega) (by omega))
                           refine st_run tbOk 1 hA (e' := (21, .int .i64 ((k + 1 : Nat) : Int)) :: _) rfl ?_; clear hA; intro a hA
                           refine wpList_nil ?_
                           replace hA := hA.sel [1, 2, 7, 8, 9, 19, 20, 21] (e' := [(1, .slice A' bl.length c'), (2, .int .u8 ((u : Nat) : Int)), (7, .pointer (some ⟨b2, 0, none⟩)), (8, .slice Aw ((idx' (ofp ((u % 3 : Nat) : Int)) ts 0).length) cw), (9, .slice A83 (((idx' (rdyo ((u % 3 : Nat) : Int)) ts 0) ++ ([((ts.length : Nat) : Int)] : List Int)).length) c84), (19, .slice (some ⟨b8, o9, none⟩) l.length c), (20, .int .i64 ((l.length : Nat) : Int)), (21, .int .i64 ((k + 1 : Nat) : Int))]) rfl
                           have hof : ofp ((u % 3 : Nat) : Int) (((x10.toNat % 3 : Nat) : Int), 1, 0) = false := by simp only [ofp, beq_eq_false_iff_ne]; omega
                           have hrd : rdy (((x10.toNat % 3 : Nat) : Int), 1, 0) = true := by rfl
                           have hro : rdyo ((u % 3 : Nat) : Int) (((x10.toNat % 3 : Nat) : Int), 1, 0) = true := by simp only [rdyo, hof, hrd]; rfl
                           have hw1 : idx' (ofp ((u % 3 : Nat) : Int)) ts 0 = idx' (ofp ((u % 3 : Nat) : Int)) (ts ++ [(((x10.toNat % 3 : Nat) : Int), 1, 0)]) 0 := idx_no hof ts
                           rw [hw1] at hW hA
                           have hl : (idx' (rdyo ((u % 3 : Nat) : Int)) ts 0) ++ ([((ts.length : Nat) : Int)] : List Int) = idx' (rdyo ((u % 3 : Nat) : Int)) (ts ++ [(((x10.toNat % 3 : Nat) : Int), 1, 0)]) 0 := by first | exact idx_yes hro ts | (rw [← htl]; exact idx_yes hro ts)
                           rw [hl] at hO82; rw [hl] at hA
                           have hMn := hM37
                           have hq1 : idx' rdy ts 0 ++ [((ts.length : Nat) : Int)] = idx' rdy (ts ++ [(((x10.toNat % 3 : Nat) : Int), 1, 0)]) 0 := idx_yes hrd ts
                           rw [hq1] at hMn
                           have hTn : TI (ts ++ [(((x10.toNat % 3 : Nat) : Int), 1, 0)]) (idx' rdy (ts ++ [(((x10.toNat % 3 : Nat) : Int), 1, 0)]) 0) := by rw [← hq1]; exact hT.start _ (by omega)
                           replace hS := hS.front 1 (C := [(b78, rowO [.int .i64 ((ts.length : Nat) : Int)] 3)]) (L' := C82 :: L35 :: Wc :: F) rfl rfl
                           replace hS := hS.drop1
                           replace hS := hS.front 2 (C := Wc) (L' := C82 :: L35 :: F) rfl rfl
                           replace hS := hS.front 2 (C := L35) (L' := Wc :: C82 :: F) rfl rfl
                           exact lp_next _ (by omega) ⟨(k + 1), (ts ++ [(((x10.toNat % 3 : Nat) : Int), 1, 0)]), L35, Aw, cw, Wc, A83, c84, C82, rfl, (hA.sel [1, 2, 7, 8, 9, 19, 20, 21] rfl), hS, by omega, by omega, by simp [htl], hMn, hTn, (alive_app hal (by simp)), hW, hO82⟩)))
            · first
              | (exfalso; omega)
              | (replace hA := hA.rw 42 (v' := .bool true) rfl (vb_ne_t hc38)
                 refine cd_cond_t hA rfl ?_
                 refine wp_seq ?_
                 refine wp_region_lit ?_
                 refine st_run tbOk 1 hA (e' := (6, .bool false) :: _) rfl ?_; clear hA; intro a hA
                 refine wpList_nil ?_
                 replace hA := hA.sel [6] (e' := [(6, .bool false)]) rfl
                 refine xt_norm ?_
                 refine wp_ret (xt_ret (xb_ret (xt_ret (xt_ret (xb_ret (xt_ret ?_))))))
                 refine ret1 (fn := Try.f3) hA rfl rfl ?_
                 exfalso; omega)))
  · first
    | (exfalso; omega)
    | (replace hA := hA.rw 22 (v' := .bool false) rfl (vb_false hc7)
       refine cd_cond_f hA rfl ?_
       refine wp_exit ?_
       refine xt_exit ?_
       refine xt_exit ?_
       refine cd_exit_eq ?_
       refine xt_norm ?_
       refine wp_seq ?_
       refine wp_region_lit ?_
       have hkq := kst_qlen ts (idx' rdy ts 0) ((u % 3 : Nat) : Int) ts.length
       have hkl := kst_len ts (idx' rdy ts 0) ((u % 3 : Nat) : Int) ts.length
       have hts := hT.2.2
       refine st_run tbOk 3 hA (e' := (78, .int .u8 (((u : Nat) : Int).tmod 3)) :: (77, .int .u8 ((u : Nat) : Int)) :: (76, .pointer (some ⟨b2, 0, none⟩)) :: _) rfl ?_; clear hA; intro a hA
       replace hA := hA.rw 78 (v' := .int .u8 ((u % 3 : Nat) : Int)) rfl (vint (Int.ofNat_tmod _ _).symm)
       refine st_run tbOk 1 hA (e' := (79, .int .i64 (IntKind.i64.wrap ((u % 3 : Nat) : Int))) :: _) rfl ?_; clear hA; intro a hA
       replace hA := hA.rw 79 (v' := .int .i64 ((u % 3 : Nat) : Int)) rfl (wr64 (by rfl) (by omega) (by omega))
       refine st_call0 hA rfl rfl rfl isfn9 rfl rfl (by decide) (kill9 hS hM ((u % 3 : Nat) : Int) (by omega) (by omega)) ?_
       clear hA hS; rintro v88 w86 a ⟨L85, C89, hO89, hM87, hS⟩ hA
       obtain ⟨A90, c91, rfl, hmc91, hxc91⟩ := hO89.open'
       refine st_run tbOk 1 hA (e' := (81, .slice Aw ((idx' (ofp ((u % 3 : Nat) : Int)) ts 0).length) cw) :: _) rfl ?_; clear hA; intro a hA
       refine st_call0 hA rfl rfl rfl isfn8 rfl rfl (by decide) (same8 hS (xs := (kst ts (idx' rdy ts 0) ((u % 3 : Nat) : Int) ts.length).2.2) (ys := idx' (ofp ((u % 3 : Nat) : Int)) ts 0) (RdS.own hO89 0 rfl) (RdS.own hW 2 rfl)) ?_
       clear hA hS; rintro v w92 a ⟨rfl, hS⟩ hA
       replace hA := hA.rw 82 (v' := .bool true) rfl (by rw [kst_all _ _ hal]; exact congrArg Value.bool (decide_eq_true rfl))
       refine st_run tbOk 2 hA (e' := (84, .pointer (some ⟨b2, 0, none⟩)) :: (83, .bool true) :: _) rfl ?_; clear hA; intro a hA
       replace hS := hS.front 1 (C := L85) (L' := C89 :: Wc :: Rc :: F) rfl rfl
       refine st_call0 hA rfl rfl rfl isfn10 rfl rfl (by decide) (ready10 hS hM87 (by omega)) ?_
       clear hA hS; rintro v96 w94 a ⟨L93, C97, hO97, hM95, hS⟩ hA
       obtain ⟨A98, c99, rfl, hmc99, hxc99⟩ := hO97.open'
       refine st_run tbOk 1 hA (e' := (86, .slice Ar ((idx' (rdyo ((u % 3 : Nat) : Int)) ts 0).length) cr) :: _) rfl ?_; clear hA; intro a hA
       refine st_call0 hA rfl rfl rfl isfn8 rfl rfl (by decide) (same8 hS (xs := (kst ts (idx' rdy ts 0) ((u % 3 : Nat) : Int) ts.length).2.1) (ys := idx' (rdyo ((u % 3 : Nat) : Int)) ts 0) (RdS.own hO97 0 rfl) (RdS.own hR 4 rfl)) ?_
       clear hA hS; rintro v w100 a ⟨rfl, hS⟩ hA
       replace hA := hA.rw 87 (v' := .bool true) rfl (by rw [kst_all _ _ hal]; exact congrArg Value.bool (decide_eq_true (idx_filt _ _ ts 0)))
       refine st_run tbOk 5 hA (e' := (92, .int .u8 (((u : Nat) : Int).tmod 3)) :: (91, .int .u8 ((u : Nat) : Int)) :: (90, .pointer (some ⟨b2, 0, none⟩)) :: (89, .bool true) :: (88, .bool true) :: _) rfl ?_; clear hA; intro a hA
       replace hA := hA.rw 92 (v' := .int .u8 ((u % 3 : Nat) : Int)) rfl (vint (Int.ofNat_tmod _ _).symm)
       refine st_run tbOk 1 hA (e' := (93, .int .i64 (IntKind.i64.wrap ((u % 3 : Nat) : Int))) :: _) rfl ?_; clear hA; intro a hA
       replace hA := hA.rw 93 (v' := .int .i64 ((u % 3 : Nat) : Int)) rfl (wr64 (by rfl) (by omega) (by omega))
       replace hS := hS.front 1 (C := L93) (L' := C97 :: C89 :: Wc :: Rc :: F) rfl rfl
       refine st_call0 hA rfl rfl rfl isfn9 rfl rfl (by decide) (kill9 hS hM95 ((u % 3 : Nat) : Int) (by omega) (by omega)) ?_
       clear hA hS; rintro v104 w102 a ⟨L101, C105, hO105, hM103, hS⟩ hA
       obtain ⟨A106, c107, rfl, hmc107, hxc107⟩ := hO105.open'
       refine st_run tbOk 1 hA (e' := (95, .int .i64 ((((kst ((kst ts (idx' rdy ts 0) ((u % 3 : Nat) : Int) ts.length).1) ((kst ts (idx' rdy ts 0) ((u % 3 : Nat) : Int) ts.length).2.1) ((u % 3 : Nat) : Int) ((kst ts (idx' rdy ts 0) ((u % 3 : Nat) : Int) ts.length).1).length).2.2).length : Nat) : Int)) :: _) rfl ?_; clear hA; intro a hA
       replace hA := hA.rw 95 (v' := .int .i64 0) rfl (by rw [kst_again _ _ _ hal]; rfl)
       refine st_run tbOk 3 hA (e' := (6, .bool true) :: (97, .bool true) :: (96, .bool true) :: _) rfl ?_; clear hA; intro a hA
       refine wpList_nil ?_
       replace hA := hA.sel [6] (e' := [(6, .bool true)]) rfl
       refine xt_norm ?_
       refine wp_ret ?_
       refine ret1 (fn := Try.f3) hA rfl rfl ?_
       replace hS := hS.drop1
       replace hS := hS.drop1
       replace hS := hS.drop1
       replace hS := hS.drop1
       replace hS := hS.drop1
       replace hS := hS.drop1
       exact ⟨rfl, hS⟩)

end Go.Proofs.Ytglebdfenojglaa
