import Derived.Test.YtjmnajcjbimbiaaDoorH
set_option linter.unusedVariables false
set_option linter.unusedSimpArgs false
set_option maxRecDepth 4000
namespace Go.Proofs.YtjmnajcjbimbiaaDoor
open Go Go.SK
def NG (Q : Exit → Act → World → Prop) : Exit → Act → World → Prop
  | .goto _, _, _ => False
  | e, a, w => Q e a w
theorem xs_norm {Q : Exit → Act → World → Prop} {a : Act} {w : World} (h : Q .normal a w) : NG Q .normal a w := h
theorem xs_exit {Q : Exit → Act → World → Prop} {a : Act} {w : World} {i : Nat} (h : Q (.exit i) a w) : NG Q (.exit i) a w := h
theorem xs_ret {Q : Exit → Act → World → Prop} {a : Act} {w : World} (h : Q .ret a w) : NG Q .ret a w := h
theorem stp_scope {P : Program} {b : Frame} {a : Act} {k : List Item} {cs : List Frame} {w : World} {c : Code} : step P (lone (b.at a (.code (.scope c) :: k)) cs w) = .next (lone (b.at a (.code c :: .inScope c :: k)) cs w) :=
  step_lone_go (by simp [stepG, stepG.exec, Frame.at])
theorem stp_inScope {P : Program} {b : Frame} {a : Act} {k : List Item} {cs : List Frame} {w : World} {c : Code} : step P (lone (b.at a (.inScope c :: k)) cs w) = .next (lone (b.at a k) cs w) :=
  step_lone_go (by simp [stepG, stepG.exec, Frame.at])
theorem wpN_scope {P : Program} {Q : Exit → Act → World → Prop} {a : Act} {w : World} {c : Code} (h : wpN P c (NG Q) a w) : wpN P (Code.scope c) Q a w := by
  intro b k cs hb
  obtain ⟨e, a₁, w₁, hq, harr⟩ := h b (.inScope c :: k) cs hb
  cases e with
  | normal => exact ⟨.normal, a₁, w₁, hq, .head stp_scope (Steps.trans harr (.one stp_inScope))⟩
  | exit id => exact ⟨.exit id, a₁, w₁, hq, fun k' hk => .head stp_scope (harr k' (by simp [exitTo, hk]))⟩
  | goto l => exact hq.elim
  | ret => exact ⟨_, a₁, w₁, hq, .of_steps (.one stp_scope) harr⟩
  | panic ch => exact ⟨_, a₁, w₁, hq, .of_steps (.one stp_scope) harr⟩
  | outgrown => exact ⟨_, a₁, w₁, hq, .of_steps (b := b) (k := k) (cs := cs) (e := .outgrown) (.one stp_scope) harr⟩
/-- A row of the box after k of its messages were asked. -/
def qk (p : Msg → Bool) (us : List Msg) (k : Nat) : List Msg := us.drop k ++ (us.take k).filter (fun x => !p x)
def tk (p : Msg → Bool) (us : List Msg) (k : Nat) : List Msg := us.drop (k + 1) ++ (us.take k).filter (fun x => !p x)
def ok (p : Msg → Bool) (us : List Msg) (k : Nat) : List Msg := (us.take k).filter p
theorem qk_zero (p : Msg → Bool) (us : List Msg) : qk p us 0 = us := by simp [qk]
theorem ok_zero (p : Msg → Bool) (us : List Msg) : ok p us 0 = [] := by simp [ok]
theorem qk_cons {p : Msg → Bool} {us : List Msg} {k : Nat} {x : Msg} (h : us[k]? = some x) : qk p us k = x :: tk p us k := by
  have hk := (List.getElem?_eq_some_iff.1 h).1
  have he := (List.getElem?_eq_some_iff.1 h).2
  rw [qk, tk, List.drop_eq_getElem_cons hk, he]; rfl
theorem tk_len {p : Msg → Bool} {us : List Msg} {k : Nat} (hk : k < us.length) : (tk p us k).length < us.length := by
  have := List.length_filter_le (fun x => !p x) (us.take k)
  rw [tk, List.length_append, List.length_drop]; rw [List.length_take] at this; omega
theorem qk_yes {p : Msg → Bool} {us : List Msg} {k : Nat} {x : Msg} (h : us[k]? = some x) (hx : p x = true) : tk p us k = qk p us (k + 1) := by
  rw [tk, qk, List.take_add_one, h, List.filter_append]; simp [hx]
theorem qk_no {p : Msg → Bool} {us : List Msg} {k : Nat} {x : Msg} (h : us[k]? = some x) (hx : p x = false) : tk p us k ++ [x] = qk p us (k + 1) := by
  rw [tk, qk, List.take_add_one, h, List.filter_append]; simp [hx]
theorem ok_yes {p : Msg → Bool} {us : List Msg} {k : Nat} {x : Msg} (h : us[k]? = some x) (hx : p x = true) : ok p us k ++ [x] = ok p us (k + 1) := by
  rw [ok, ok, List.take_add_one, h, List.filter_append]; simp [hx]
theorem ok_no {p : Msg → Bool} {us : List Msg} {k : Nat} {x : Msg} (h : us[k]? = some x) (hx : p x = false) : ok p us k = ok p us (k + 1) := by
  rw [ok, ok, List.take_add_one, h, List.filter_append]; simp [hx]
theorem ok_le (p : Msg → Bool) (us : List Msg) (k : Nat) : (ok p us k).length ≤ us.length := by
  rw [ok]; exact Nat.le_trans (List.length_filter_le _ _) (by rw [List.length_take]; omega)
theorem qk_all (p : Msg → Bool) (us : List Msg) : qk p us us.length = us.filter (fun x => !p x) := by simp [qk]
theorem ok_all (p : Msg → Bool) (us : List Msg) : ok p us us.length = us.filter p := by simp [ok]
set_option maxHeartbeats 4000000 in
theorem all12 {w0 w : World} {F : List Chunk} {L : Chunk} {b n : Nat} {us ps : List Msg} (hS : St w0 w (L :: F)) (hM : BX b n us ps L) (hul : us.length ≤ n) (hpl : ps.length ≤ n) (hn : n ≤ 64) {g : Nat} {first cap : Array Value} {p : Msg → Bool} (hg : IsFn Tryd.prog g) (hp : Pred Tryd.prog w0 F g first cap (fun x => .agg (encMessage x).toArray) p) :
    Ret Tryd.prog 12 #[.pointer (some ⟨b, 0, none⟩), .func (.func g) first cap] w (fun v w' => ∃ v1 C L', Own 37 11 v1 (us.filter p ++ ps.filter p).length (rows encMessage (us.filter p ++ ps.filter p)) C ∧ BX b n (us.filter (fun x => !p x)) (ps.filter (fun x => !p x)) L' ∧ v = v1 ∧ St w0 w' (L' :: C :: F)) := by
  obtain ⟨c1, c2, s1, r1, s2, r2, rfl⟩ := hM
  replace hS : St w0 w ([(b, rowO [.chan (some c1), .chan (some c2)] 59)] :: [(c1, .chan n (us.map msgV).toArray false s1 r1 false)] :: [(c2, .chan n (ps.map msgV).toArray false s2 r2 false)] :: F) := hS.split3
  refine enterN (vs := [.pointer (some ⟨b, 0, none⟩), .func (.func g) first cap]) 44 Tryd.func12 rfl rfl (by simp) ?_; intro a hA
  refine wpN_seq ?_
  refine wpN_of (wp_region_lit ?_)
  refine st_run tbOk 1 hA (e' := (4, .slice none 0 0) :: _) rfl ?_; clear hA; intro a hA
  refine wpList_nil ?_
  replace hA := hA.sel [0, 1] (e' := [(0, .pointer (some ⟨b, 0, none⟩)), (1, .func (.func g) first cap)]) rfl
  refine xt_norm ?_
  refine wpN_seq ?_
  refine wpN_of (wp_region_lit ?_)
  refine st_run tbOk 1 hA (e' := (5, .slice none 0 0) :: _) rfl ?_; clear hA; intro a hA
  refine wpList_nil ?_
  refine xt_norm ?_
  refine wpN_seq ?_
  refine wpN_seq ?_
  refine wpN_of (wp_draw (fun w' => St w0 w' ([(b, rowO [.chan (some c1), .chan (some c2)] 59)] :: [(c1, .chan n (us.map msgV).toArray false s1 r1 false)] :: [(c2, .chan n (ps.map msgV).toArray false s2 r2 false)] :: F)) [] [(0, true), (1, true), (2, true), (3, true), (4, true), (5, true), (6, true), (7, true), (10, true), (8, false), (9, true)] mixed (by kernel_rfl) (by rintro c a w ⟨_, _, h, _⟩; cases h) (by rfl) (by kernel_rfl) ?_)
  replace hS := hS.drew
  refine dr_run tbOk 3 hA hS (e' := (11, .pointer (some ⟨b, 0, none⟩)) :: (10, .pointer (some ⟨b, 0, none⟩)) :: (9, .pointer (some ⟨b, 0, none⟩)) :: _) rfl ?_; clear hA; intro a hA
  refine dr_y hA rfl rfl rfl (by decide) hS (fun w' hS' => rn_load tbOk hA rfl rfl rfl rfl (cell_row (hS'.heapAt 0 rfl) rfl)) ?_; clear hA; intro a hA
  refine dr_run tbOk 3 hA hS (e' := (15, .pointer (some ⟨b, 1, none⟩)) :: (14, .pointer (some ⟨b, 0, none⟩)) :: (13, .pointer (some ⟨b, 0, none⟩)) :: _) rfl ?_; clear hA; intro a hA
  refine dr_y hA rfl rfl rfl (by decide) hS (fun w' hS' => rn_load tbOk hA rfl rfl rfl rfl (cell_row (hS'.heapAt 0 rfl) rfl)) ?_; clear hA; intro a hA
  refine dr_run tbOk 1 hA hS (e' := (19, .int .i64 0) :: _) rfl ?_; clear hA; intro a hA
  refine dr_b (o := _) rfl ?_
  refine st_buildSlice tbOk hA hS [.chan (some c1), .chan (some c2)] rfl rfl rfl rfl rfl (by decide) (by kernel_rfl) rfl rfl (by decide) ?_; clear hA hS; intro b1 w2 a hS hA
  refine dr_nil (.inr (hS.tail 1 rfl)) ?_
  refine dr_run tbOk 1 hA (hS.tail 1 rfl) (e' := (18, .int .i64 2) :: _) rfl ?_; clear hA; intro a hA
  refine dr_end ?_
  replace hA := hA.sel [1, 5, 17, 18, 19] (e' := [(1, .func (.func g) first cap), (5, .slice none 0 0), (17, .slice (some ⟨b1, 0, none⟩) 2 2), (18, .int .i64 2), (19, .int .i64 0)]) rfl
  refine xt_norm ?_
  refine wpN_block ?_
  replace hS := hS.nil
  replace hS := hS.front 2 (C := [(b, rowO [.chan (some c1), .chan (some c2)] 59)]) (L' := [] :: [(b1, rowO [.chan (some c1), .chan (some c2)] 57)] :: [(c1, .chan n (us.map msgV).toArray false s1 r1 false)] :: [(c2, .chan n (ps.map msgV).toArray false s2 r2 false)] :: F) rfl rfl
  replace hS := hS.front 2 (C := [(b1, rowO [.chan (some c1), .chan (some c2)] 57)]) (L' := [(b, rowO [.chan (some c1), .chan (some c2)] 59)] :: [] :: [(c1, .chan n (us.map msgV).toArray false s1 r1 false)] :: [(c2, .chan n (ps.map msgV).toArray false s2 r2 false)] :: F) rfl rfl
  replace hS := hS.front 4 (C := [(c2, .chan n (ps.map msgV).toArray false s2 r2 false)]) (L' := [(b1, rowO [.chan (some c1), .chan (some c2)] 57)] :: [(b, rowO [.chan (some c1), .chan (some c2)] 59)] :: [] :: [(c1, .chan n (us.map msgV).toArray false s1 r1 false)] :: F) rfl rfl
  replace hS := hS.front 4 (C := [(c1, .chan n (us.map msgV).toArray false s1 r1 false)]) (L' := [(c2, .chan n (ps.map msgV).toArray false s2 r2 false)] :: [(b1, rowO [.chan (some c1), .chan (some c2)] 57)] :: [(b, rowO [.chan (some c1), .chan (some c2)] 59)] :: [] :: F) rfl rfl
  replace hS := hS.front 4 (C := []) (L' := [(c1, .chan n (us.map msgV).toArray false s1 r1 false)] :: [(c2, .chan n (ps.map msgV).toArray false s2 r2 false)] :: [(b1, rowO [.chan (some c1), .chan (some c2)] 57)] :: [(b, rowO [.chan (some c1), .chan (some c2)] 59)] :: F) rfl rfl
  refine wpN_loop_ghost (fun m a w => ∃ (j : Nat) (u2 : List Msg) (p2 : List Msg) (oo : List Msg) (t1 : Nat) (q1 : Nat) (t2 : Nat) (q2 : Nat) (Aw : Option Addr) (cw : Nat) (Cw : Chunk), m = 2 - j ∧ Has a 44 [(1, .func (.func g) first cap), (5, .slice Aw oo.length cw), (17, .slice (some ⟨b1, 0, none⟩) 2 2), (18, .int .i64 2), (19, .int .i64 ((j : Nat) : Int))] ∧ St w0 w (Cw :: [(c1, .chan n (u2.map msgV).toArray false t1 q1 false)] :: [(c2, .chan n (p2.map msgV).toArray false t2 q2 false)] :: [(b1, rowO [.chan (some c1), .chan (some c2)] 57)] :: [(b, rowO [.chan (some c1), .chan (some c2)] 59)] :: F) ∧ (j ≤ 2) ∧ ((j = 0 ∧ us = u2 ∧ ps = p2 ∧ oo = []) ∨ (j = 1 ∧ u2 = us.filter (fun x => !p x) ∧ ps = p2 ∧ oo = us.filter p) ∨ (j = 2 ∧ u2 = us.filter (fun x => !p x) ∧ p2 = ps.filter (fun x => !p x) ∧ oo = us.filter p ++ ps.filter p)) ∧ (Own 37 11 (.slice Aw oo.length cw) oo.length (rows encMessage oo) Cw)) (2 - 0)
    ⟨0, us, ps, ([]), s1, r1, s2, r2, none, 0, ([]), rfl, (hA.sel [1, 5, 17, 18, 19] rfl), hS, Nat.zero_le _, .inl ⟨rfl, rfl, rfl, rfl⟩, (Own.nil 37 11)⟩ ?_
  clear hA hS; rintro m0 a w3 ⟨j, u2, p2, oo, t1, q1, t2, q2, Aw, cw, Cw, rfl, hA, hS, hj, hst, hW⟩
  refine wpN_seq ?_
  refine wpN_of (wp_region_lit ?_)
  refine st_run tbOk 1 hA (e' := (20, .bool (decide (((j : Nat) : Int) < 2))) :: _) rfl ?_; clear hA; intro a hA
  refine wpList_nil ?_
  refine xt_norm ?_
  refine wpN_seq ?_
  by_cases hc4 : ((j : Nat) : Int) < 2
  · first
    | (exfalso; omega)
    | (replace hA := hA.rw 20 (v' := .bool true) rfl (vb_true hc4)
       refine cdN_cond_t hA rfl ?_
       refine wpN_skip ?_
       refine xt_norm ?_
       refine wpN_seq ?_
       refine wpN_block ?_
       refine wpN_seq ?_
       refine wpN_of (wp_region_lit ?_)
       rcases hst with ⟨rfl, rfl, rfl, rfl⟩ | ⟨rfl, rfl, rfl, rfl⟩ | ⟨h9, _⟩
       · refine st_val hA rfl rfl (by decide) (rn_indexAddr tbOk hA 0 0 rfl rfl rfl rfl rfl rfl (by rfl) (by omega) (by first | rfl | simp [Nat.mul_one, Nat.zero_add] | omega)) ?_; clear hA; intro a hA
         refine st_val hA rfl rfl (by decide) (rn_load tbOk hA rfl rfl rfl rfl (cell_row (hS.heapAt 3 rfl) rfl)) ?_; clear hA; intro a hA
         refine st_run tbOk 1 hA (e' := (7, .chan (some c1)) :: _) rfl ?_; clear hA; intro a hA
         refine wpList_nil ?_
         replace hA := hA.sel [1, 5, 7, 17, 18, 19] (e' := [(1, .func (.func g) first cap), (5, .slice Aw (([] : List Msg).length) cw), (7, .chan (some c1)), (17, .slice (some ⟨b1, 0, none⟩) 2 2), (18, .int .i64 2), (19, .int .i64 ((0 : Nat) : Int))]) rfl
         refine xt_norm ?_
         refine wpN_scope ?_
         refine wpN_seq ?_
         refine wpN_of (wp_label ?_)
         refine xt_norm ?_
         refine wpN_seq ?_
         refine wpN_of (wp_region_lit ?_)
         refine st_run tbOk 1 hA (e' := (23, .chan (some c1)) :: _) rfl ?_; clear hA; intro a hA
         refine st_val hA rfl rfl (by decide) (rn_lenchan tbOk hA rfl rfl rfl rfl (hS.heapAt 1 rfl)) ?_; clear hA; intro a hA
         replace hA := hA.rw 24 (v' := .int .i64 ((us.length : Nat) : Int)) rfl (vint (by rw [size_msg]))
         refine st_run tbOk 1 hA (e' := (25, .int .i64 0) :: _) rfl ?_; clear hA; intro a hA
         refine wpList_nil ?_
         replace hA := hA.sel [1, 5, 7, 17, 18, 19, 24, 25] (e' := [(1, .func (.func g) first cap), (5, .slice Aw (([] : List Msg).length) cw), (7, .chan (some c1)), (17, .slice (some ⟨b1, 0, none⟩) 2 2), (18, .int .i64 2), (19, .int .i64 ((0 : Nat) : Int)), (24, .int .i64 ((us.length : Nat) : Int)), (25, .int .i64 0)]) rfl
         refine xt_norm ?_
         refine wpN_block ?_
         have hbx : us = (qk p us 0) := (qk_zero p us).symm
         rw [hbx] at hS
         have hx0 : ([] : List Msg) ++ ok p us 0 = ([] : List Msg) := by rw [ok_zero, List.append_nil]
         replace hA := hA.rw 5 (v' := .slice Aw ((([] : List Msg) ++ ok p us 0).length) cw) rfl (by rw [hx0])
         replace hS := hS.front 4 (C := [(b, rowO [.chan (some c1), .chan (some c2)] 59)]) (L' := Cw :: [(c1, .chan n ((qk p us 0).map msgV).toArray false t1 q1 false)] :: [(c2, .chan n (ps.map msgV).toArray false t2 q2 false)] :: [(b1, rowO [.chan (some c1), .chan (some c2)] 57)] :: F) rfl rfl
         replace hS := hS.front 4 (C := [(b1, rowO [.chan (some c1), .chan (some c2)] 57)]) (L' := [(b, rowO [.chan (some c1), .chan (some c2)] 59)] :: Cw :: [(c1, .chan n ((qk p us 0).map msgV).toArray false t1 q1 false)] :: [(c2, .chan n (ps.map msgV).toArray false t2 q2 false)] :: F) rfl rfl
         replace hS := hS.front 4 (C := [(c2, .chan n (ps.map msgV).toArray false t2 q2 false)]) (L' := [(b1, rowO [.chan (some c1), .chan (some c2)] 57)] :: [(b, rowO [.chan (some c1), .chan (some c2)] 59)] :: Cw :: [(c1, .chan n ((qk p us 0).map msgV).toArray false t1 q1 false)] :: F) rfl rfl
         replace hS := hS.front 4 (C := [(c1, .chan n ((qk p us 0).map msgV).toArray false t1 q1 false)]) (L' := [(c2, .chan n (ps.map msgV).toArray false t2 q2 false)] :: [(b1, rowO [.chan (some c1), .chan (some c2)] 57)] :: [(b, rowO [.chan (some c1), .chan (some c2)] 59)] :: Cw :: F) rfl rfl
         replace hS := hS.front 4 (C := Cw) (L' := [(c1, .chan n ((qk p us 0).map msgV).toArray false t1 q1 false)] :: [(c2, .chan n (ps.map msgV).toArray false t2 q2 false)] :: [(b1, rowO [.chan (some c1), .chan (some c2)] 57)] :: [(b, rowO [.chan (some c1), .chan (some c2)] 59)] :: F) rfl rfl
         refine wpN_loop_ghost (fun m a w => ∃ (k : Nat) (sk : Nat) (rk : Nat) (Ax : Option Addr) (cx : Nat) (Cx : Chunk), m = us.length - k ∧ Has a 44 [(1, .func (.func g) first cap), (5, .slice Ax (((([] : List Msg)) ++ ok p us k).length) cx), (7, .chan (some c1)), (17, .slice (some ⟨b1, 0, none⟩) 2 2), (18, .int .i64 2), (19, .int .i64 ((0 : Nat) : Int)), (24, .int .i64 ((us.length : Nat) : Int)), (25, .int .i64 ((k : Nat) : Int))] ∧ St w0 w (Cx :: [(c1, .chan n ((qk p us k).map msgV).toArray false sk rk false)] :: [(c2, .chan n (ps.map msgV).toArray false t2 q2 false)] :: [(b1, rowO [.chan (some c1), .chan (some c2)] 57)] :: [(b, rowO [.chan (some c1), .chan (some c2)] 59)] :: F) ∧ (k ≤ us.length) ∧ (Own 37 11 (.slice Ax ((([] : List Msg)) ++ ok p us k).length cx) ((([] : List Msg)) ++ ok p us k).length (rows encMessage ((([] : List Msg)) ++ ok p us k)) Cx)) (us.length - 0)
           ⟨0, t1, q1, Aw, cw, Cw, rfl, (hA.sel [1, 5, 7, 17, 18, 19, 24, 25] rfl), hS, Nat.zero_le _, (by rw [hx0]; exact hW)⟩ ?_
         clear hA hS; rintro m0 a w5 ⟨k, sk, rk, Ax, cx, Cx, rfl, hA, hS, hk, hX⟩
         refine wpN_seq ?_
         refine wpN_of (wp_region_lit ?_)
         refine st_run tbOk 1 hA (e' := (26, .bool (decide (((k : Nat) : Int) < ((us.length : Nat) : Int)))) :: _) rfl ?_; clear hA; intro a hA
         refine wpList_nil ?_
         refine xt_norm ?_
         refine wpN_seq ?_
         by_cases hc6 : ((k : Nat) : Int) < ((us.length : Nat) : Int)
         · first
           | (exfalso; omega)
           | (replace hA := hA.rw 26 (v' := .bool true) rfl (vb_true hc6)
              refine cdN_cond_t hA rfl ?_
              refine wpN_skip ?_
              refine xt_norm ?_
              refine wpN_seq ?_
              refine wpN_block ?_
              refine wpN_seq ?_
              refine wpN_of (wp_region_lit ?_)
              refine st_run tbOk 1 hA (e' := (27, .chan (some c1)) :: _) rfl ?_; clear hA; intro a hA
              refine wpList_nil ?_
              replace hA := hA.sel [1, 5, 7, 17, 18, 19, 24, 25, 27] (e' := [(1, .func (.func g) first cap), (5, .slice Ax (((([] : List Msg)) ++ ok p us k).length) cx), (7, .chan (some c1)), (17, .slice (some ⟨b1, 0, none⟩) 2 2), (18, .int .i64 2), (19, .int .i64 ((0 : Nat) : Int)), (24, .int .i64 ((us.length : Nat) : Int)), (25, .int .i64 ((k : Nat) : Int)), (27, .chan (some c1))]) rfl
              refine xt_norm ?_
              refine wpN_seq ?_
              refine cm_region (is := [0, 1, 2]) rfl ?_
              obtain ⟨⟨y0, y1, y2, y3, y4, y5, y6, y7, y8, y9, yA, yc, yb⟩, hy⟩ := get_ex (l := us) (k := k) (by omega)
              have hbx : (qk p us k) = ((y0, y1, y2, y3, y4, y5, y6, y7, y8, y9, yA, yc, yb) :: tk p us k) := qk_cons hy
              rw [hbx] at hS
              have htl := tk_len (p := p) (us := us) (k := k) (by omega)
              replace hS := hS.front 1 (C := [(c1, .chan n (((y0, y1, y2, y3, y4, y5, y6, y7, y8, y9, yA, yc, yb) :: tk p us k).map msgV).toArray false sk rk false)]) (L' := Cx :: [(c2, .chan n (ps.map msgV).toArray false t2 q2 false)] :: [(b1, rowO [.chan (some c1), .chan (some c2)] 57)] :: [(b, rowO [.chan (some c1), .chan (some c2)] 59)] :: F) rfl rfl
              refine cm_sel_recv (v := msgV (y0, y1, y2, y3, y4, y5, y6, y7, y8, y9, yA, yc, yb)) (vs := (tk p us k).map msgV) tbOk hA hS rfl rfl rfl rfl rfl rfl (by decide) ?_; clear hA hS; intro w7 a hS hA
              replace hA := hA.rw 28 (v' := .tuple #[.int .i64 0, .bool true, .agg #[.int .u64 y0, .int .u64 y1, .int .u32 y2, .int .u16 y3, .int .u16 y4, .int .u64 y5, .int .u32 y6, .int .u8 y7, .int .u64 y8, .int .u64 y9, .slice yA yb.length yc]]) rfl rfl
              refine cm_pure tbOk hA (v := .int .i64 0) rfl rfl rfl (by decide) rfl ?_; clear hA; intro a hA
              refine cm_pure tbOk hA (v := .bool true) rfl rfl rfl (by decide) rfl ?_; clear hA; intro a hA
              refine cm_end ?_
              replace hA := hA.sel [1, 5, 7, 17, 18, 19, 24, 25, 28, 30] (e' := [(1, .func (.func g) first cap), (5, .slice Ax (((([] : List Msg)) ++ ok p us k).length) cx), (7, .chan (some c1)), (17, .slice (some ⟨b1, 0, none⟩) 2 2), (18, .int .i64 2), (19, .int .i64 ((0 : Nat) : Int)), (24, .int .i64 ((us.length : Nat) : Int)), (25, .int .i64 ((k : Nat) : Int)), (28, .tuple #[.int .i64 0, .bool true, .agg #[.int .u64 y0, .int .u64 y1, .int .u32 y2, .int .u16 y3, .int .u16 y4, .int .u64 y5, .int .u32 y6, .int .u8 y7, .int .u64 y8, .int .u64 y9, .slice yA yb.length yc]]), (30, .bool true)]) rfl
              refine xt_norm ?_
              refine wpN_block ?_
              refine cdN_cond_t hA rfl ?_
              refine wpN_seq ?_
              refine wpN_of (wp_region_lit ?_)
              refine st_run tbOk 1 hA (e' := (31, .agg #[.int .u64 y0, .int .u64 y1, .int .u32 y2, .int .u16 y3, .int .u16 y4, .int .u64 y5, .int .u32 y6, .int .u8 y7, .int .u64 y8, .int .u64 y9, .slice yA yb.length yc]) :: _) rfl ?_; clear hA; intro a hA
              refine st_alloc tbOk hA hS [.int .u64 0, .int .u64 0, .int .u32 0, .int .u16 0, .int .u16 0, .int .u64 0, .int .u32 0, .int .u8 0, .int .u64 0, .int .u64 0, .slice none 0 0] rfl rfl rfl rfl rfl (by decide) ?_; clear hA hS; intro b8 w9 a hS hA
              refine st_store tbOk hA hS [.int .u64 y0, .int .u64 y1, .int .u32 y2, .int .u16 y3, .int .u16 y4, .int .u64 y5, .int .u32 y6, .int .u8 y7, .int .u64 y8, .int .u64 y9, .slice yA yb.length yc] [.int .u64 y0, .int .u64 y1, .int .u32 y2, .int .u16 y3, .int .u16 y4, .int .u64 y5, .int .u32 y6, .int .u8 y7, .int .u64 y8, .int .u64 y9, .slice yA yb.length yc] rfl rfl rfl rfl rfl rfl (by simp [Value.oneCell']) (Nat.le_of_ble_eq_true rfl) rfl rfl rfl ?_; clear hS; intro w10 hS
              refine wpList_nil ?_
              replace hA := hA.sel [1, 5, 7, 8, 17, 18, 19, 24, 25] (e' := [(1, .func (.func g) first cap), (5, .slice Ax (((([] : List Msg)) ++ ok p us k).length) cx), (7, .chan (some c1)), (8, .pointer (some ⟨b8, 0, none⟩)), (17, .slice (some ⟨b1, 0, none⟩) 2 2), (18, .int .i64 2), (19, .int .i64 ((0 : Nat) : Int)), (24, .int .i64 ((us.length : Nat) : Int)), (25, .int .i64 ((k : Nat) : Int))]) rfl
              refine xt_norm ?_
              refine wpN_seq ?_
              refine wpN_seq ?_
              refine wpN_of (wp_region_lit ?_)
              refine st_run tbOk 1 hA (e' := (32, .func (.func g) first cap) :: _) rfl ?_; clear hA; intro a hA
              refine st_val hA rfl rfl (by decide) (rn_loadA tbOk hA [.int .u64 y0, .int .u64 y1, .int .u32 y2, .int .u16 y3, .int .u16 y4, .int .u64 y5, .int .u32 y6, .int .u8 y7, .int .u64 y8, .int .u64 y9, .slice yA yb.length yc] rfl rfl rfl rfl rfl (cells_row (hS.heapAt 0 rfl) rfl)) ?_; clear hA; intro a hA
              refine st_call hA rfl rfl rfl rfl hg rfl rfl (by decide) (hp _ (y0, y1, y2, y3, y4, y5, y6, y7, y8, y9, yA, yc, yb) (hS.tail 6 rfl)) ?_
              clear hA; rintro v w11 a ⟨rfl, hS'⟩ hA; replace hS : St w0 w11 ([(b8, rowO [.int .u64 y0, .int .u64 y1, .int .u32 y2, .int .u16 y3, .int .u16 y4, .int .u64 y5, .int .u32 y6, .int .u8 y7, .int .u64 y8, .int .u64 y9, .slice yA yb.length yc] 37)] :: [(c1, .chan n ((tk p us k).map msgV).toArray false sk (rk + 1) false)] :: Cx :: [(c2, .chan n (ps.map msgV).toArray false t2 q2 false)] :: [(b1, rowO [.chan (some c1), .chan (some c2)] 57)] :: [(b, rowO [.chan (some c1), .chan (some c2)] 59)] :: F) := hS.trans hS'
              refine wpList_nil ?_
              replace hA := hA.sel [1, 5, 7, 8, 17, 18, 19, 24, 25, 34] (e' := [(1, .func (.func g) first cap), (5, .slice Ax (((([] : List Msg)) ++ ok p us k).length) cx), (7, .chan (some c1)), (8, .pointer (some ⟨b8, 0, none⟩)), (17, .slice (some ⟨b1, 0, none⟩) 2 2), (18, .int .i64 2), (19, .int .i64 ((0 : Nat) : Int)), (24, .int .i64 ((us.length : Nat) : Int)), (25, .int .i64 ((k : Nat) : Int)), (34, .bool (p (y0, y1, y2, y3, y4, y5, y6, y7, y8, y9, yA, yc, yb)))]) rfl
              refine xt_norm ?_
              by_cases hc12 : (p (y0, y1, y2, y3, y4, y5, y6, y7, y8, y9, yA, yc, yb)) = true
              · first
                | (exfalso; omega)
                | (replace hA := hA.rw 34 (v' := .bool true) rfl (vb_t hc12)
                   refine cdN_cond_t hA rfl ?_
                   refine wpN_seq ?_
                   refine wpN_of (wp_region_lit ?_)
                   have hpx : p (y0, y1, y2, y3, y4, y5, y6, y7, y8, y9, yA, yc, yb) = true := by assumption
                   refine st_run tbOk 1 hA (e' := (35, .slice Ax (((([] : List Msg)) ++ ok p us k).length) cx) :: _) rfl ?_; clear hA; intro a hA
                   refine st_val hA rfl rfl (by decide) (rn_loadA tbOk hA [.int .u64 y0, .int .u64 y1, .int .u32 y2, .int .u16 y3, .int .u16 y4, .int .u64 y5, .int .u32 y6, .int .u8 y7, .int .u64 y8, .int .u64 y9, .slice yA yb.length yc] rfl rfl rfl rfl rfl (cells_row (hS.heapAt 0 rfl) rfl)) ?_; clear hA; intro a hA
                   refine st_buildSlice tbOk hA hS [.int .u64 y0, .int .u64 y1, .int .u32 y2, .int .u16 y3, .int .u16 y4, .int .u64 y5, .int .u32 y6, .int .u8 y7, .int .u64 y8, .int .u64 y9, .slice yA yb.length yc] rfl rfl rfl rfl rfl (by decide) (by kernel_rfl) rfl rfl (by decide) ?_; clear hA hS; intro b13 w14 a hS hA
                   replace hS := hS.front 3 (C := Cx) (L' := [(b13, rowO [.int .u64 y0, .int .u64 y1, .int .u32 y2, .int .u16 y3, .int .u16 y4, .int .u64 y5, .int .u32 y6, .int .u8 y7, .int .u64 y8, .int .u64 y9, .slice yA yb.length yc] 37)] :: [(b8, rowO [.int .u64 y0, .int .u64 y1, .int .u32 y2, .int .u16 y3, .int .u16 y4, .int .u64 y5, .int .u32 y6, .int .u8 y7, .int .u64 y8, .int .u64 y9, .slice yA yb.length yc] 37)] :: [(c1, .chan n ((tk p us k).map msgV).toArray false sk (rk + 1) false)] :: [(c2, .chan n (ps.map msgV).toArray false t2 q2 false)] :: [(b1, rowO [.chan (some c1), .chan (some c2)] 57)] :: [(b, rowO [.chan (some c1), .chan (some c2)] 59)] :: F) rfl rfl
                   refine st_append tbOk hA (m := ((([] : List Msg)) ++ ok p us k).length) (q := 1) (xs := rows encMessage ((([] : List Msg)) ++ ok p us k)) (news := rows encMessage ([(y0, y1, y2, y3, y4, y5, y6, y7, y8, y9, yA, yc, yb)] : List (Int × Int × Int × Int × Int × Int × Int × Int × Int × Int × Option Addr × Nat × List UInt8))) rfl rfl rfl rfl rfl rfl rfl rfl (by decide) hX hS (((Own.full (T := 37) (size := 11) (g := b13) (m := 1) rfl (by decide)).rd (hS.own_ 1 rfl)).x) (rows_one encMessage_ok _) (maxLen_le (by first | omega | (have h9 := ok_le p us k; have h8 := ok_le p ps k; have h7 := List.length_filter_le p us; simp only [List.length_append, List.length_nil]; omega))) (by show (((([] : List Msg)) ++ ok p us k).length + 1) * 80 ≤ 140737488355328; first | omega | (have h9 := ok_le p us k; have h8 := ok_le p ps k; have h7 := List.length_filter_le p us; simp only [List.length_append, List.length_nil]; omega)) rfl rfl (by decide) ?_
                   clear hA hS; intro v15 w16 C17 a hO17 hS hA
                   replace hO17 := Own.app (l := (([] : List Msg)) ++ ok p us k) (l2 := ([(y0, y1, y2, y3, y4, y5, y6, y7, y8, y9, yA, yc, yb)] : List (Int × Int × Int × Int × Int × Int × Int × Int × Int × Int × Option Addr × Nat × List UInt8))) hO17
                   obtain ⟨A18, c19, rfl, hmc19, hxc19⟩ := hO17.open'
                   refine st_run tbOk 1 hA (e' := (5, .slice A18 ((((([] : List Msg)) ++ ok p us k) ++ ([(y0, y1, y2, y3, y4, y5, y6, y7, y8, y9, yA, yc, yb)] : List (Int × Int × Int × Int × Int × Int × Int × Int × Int × Int × Option Addr × Nat × List UInt8))).length) c19) :: _) rfl ?_; clear hA; intro a hA
                   refine wpList_nil ?_
                   replace hA := hA.sel [1, 5, 7, 17, 18, 19, 24, 25] (e' := [(1, .func (.func g) first cap), (5, .slice A18 ((((([] : List Msg)) ++ ok p us k) ++ ([(y0, y1, y2, y3, y4, y5, y6, y7, y8, y9, yA, yc, yb)] : List (Int × Int × Int × Int × Int × Int × Int × Int × Int × Int × Option Addr × Nat × List UInt8))).length) c19), (7, .chan (some c1)), (17, .slice (some ⟨b1, 0, none⟩) 2 2), (18, .int .i64 2), (19, .int .i64 ((0 : Nat) : Int)), (24, .int .i64 ((us.length : Nat) : Int)), (25, .int .i64 ((k : Nat) : Int))]) rfl
                   refine xt_norm ?_
                   refine wpN_exit ?_
                   refine xt_exit ?_
                   refine cd_exit_ne (by decide) ?_
                   refine cd_exit_eq ?_
                   refine xt_norm ?_
                   refine wpN_of (wp_region_lit ?_)
                   refine st_run tbOk 1 hA (e' := (41, .int .i64 (IntKind.i64.wrap (((k : Nat) : Int) + 1))) :: _) rfl ?_; clear hA; intro a hA
                   replace hA := hA.rw 41 (v' := .int .i64 ((k + 1 : Nat) : Int)) rfl (wr64 (by omega) (by omega) (by omega))
                   refine st_run tbOk 1 hA (e' := (25, .int .i64 ((k + 1 : Nat) : Int)) :: _) rfl ?_; clear hA; intro a hA
                   refine wpList_nil ?_
                   replace hA := hA.sel [1, 5, 7, 17, 18, 19, 24, 25] (e' := [(1, .func (.func g) first cap), (5, .slice A18 ((((([] : List Msg)) ++ ok p us k) ++ ([(y0, y1, y2, y3, y4, y5, y6, y7, y8, y9, yA, yc, yb)] : List (Int × Int × Int × Int × Int × Int × Int × Int × Int × Int × Option Addr × Nat × List UInt8))).length) c19), (7, .chan (some c1)), (17, .slice (some ⟨b1, 0, none⟩) 2 2), (18, .int .i64 2), (19, .int .i64 ((0 : Nat) : Int)), (24, .int .i64 ((us.length : Nat) : Int)), (25, .int .i64 ((k + 1 : Nat) : Int))]) rfl
                   have hbx : (tk p us k) = (qk p us (k + 1)) := (qk_yes hy hpx)
                   rw [hbx] at hS
                   have hxs : ([] : List Msg) ++ ok p us (k + 1) = ((([] : List Msg)) ++ ok p us k) ++ ([(y0, y1, y2, y3, y4, y5, y6, y7, y8, y9, yA, yc, yb)] : List (Int × Int × Int × Int × Int × Int × Int × Int × Int × Int × Option Addr × Nat × List UInt8)) := by rw [← ok_yes hy hpx, List.append_assoc]
                   replace hA := hA.rw 5 (v' := .slice A18 ((([] : List Msg) ++ ok p us (k + 1)).length) c19) rfl (by rw [hxs])
                   replace hS := hS.front 2 (C := [(b8, rowO [.int .u64 y0, .int .u64 y1, .int .u32 y2, .int .u16 y3, .int .u16 y4, .int .u64 y5, .int .u32 y6, .int .u8 y7, .int .u64 y8, .int .u64 y9, .slice yA yb.length yc] 37)]) (L' := C17 :: [(b13, rowO [.int .u64 y0, .int .u64 y1, .int .u32 y2, .int .u16 y3, .int .u16 y4, .int .u64 y5, .int .u32 y6, .int .u8 y7, .int .u64 y8, .int .u64 y9, .slice yA yb.length yc] 37)] :: [(c1, .chan n ((qk p us (k + 1)).map msgV).toArray false sk (rk + 1) false)] :: [(c2, .chan n (ps.map msgV).toArray false t2 q2 false)] :: [(b1, rowO [.chan (some c1), .chan (some c2)] 57)] :: [(b, rowO [.chan (some c1), .chan (some c2)] 59)] :: F) rfl rfl
                   replace hS := hS.drop1
                   replace hS := hS.front 1 (C := [(b13, rowO [.int .u64 y0, .int .u64 y1, .int .u32 y2, .int .u16 y3, .int .u16 y4, .int .u64 y5, .int .u32 y6, .int .u8 y7, .int .u64 y8, .int .u64 y9, .slice yA yb.length yc] 37)]) (L' := C17 :: [(c1, .chan n ((qk p us (k + 1)).map msgV).toArray false sk (rk + 1) false)] :: [(c2, .chan n (ps.map msgV).toArray false t2 q2 false)] :: [(b1, rowO [.chan (some c1), .chan (some c2)] 57)] :: [(b, rowO [.chan (some c1), .chan (some c2)] 59)] :: F) rfl rfl
                   replace hS := hS.drop1
                   replace hS := hS.front 4 (C := [(b, rowO [.chan (some c1), .chan (some c2)] 59)]) (L' := C17 :: [(c1, .chan n ((qk p us (k + 1)).map msgV).toArray false sk (rk + 1) false)] :: [(c2, .chan n (ps.map msgV).toArray false t2 q2 false)] :: [(b1, rowO [.chan (some c1), .chan (some c2)] 57)] :: F) rfl rfl
                   replace hS := hS.front 4 (C := [(b1, rowO [.chan (some c1), .chan (some c2)] 57)]) (L' := [(b, rowO [.chan (some c1), .chan (some c2)] 59)] :: C17 :: [(c1, .chan n ((qk p us (k + 1)).map msgV).toArray false sk (rk + 1) false)] :: [(c2, .chan n (ps.map msgV).toArray false t2 q2 false)] :: F) rfl rfl
                   replace hS := hS.front 4 (C := [(c2, .chan n (ps.map msgV).toArray false t2 q2 false)]) (L' := [(b1, rowO [.chan (some c1), .chan (some c2)] 57)] :: [(b, rowO [.chan (some c1), .chan (some c2)] 59)] :: C17 :: [(c1, .chan n ((qk p us (k + 1)).map msgV).toArray false sk (rk + 1) false)] :: F) rfl rfl
                   replace hS := hS.front 4 (C := [(c1, .chan n ((qk p us (k + 1)).map msgV).toArray false sk (rk + 1) false)]) (L' := [(c2, .chan n (ps.map msgV).toArray false t2 q2 false)] :: [(b1, rowO [.chan (some c1), .chan (some c2)] 57)] :: [(b, rowO [.chan (some c1), .chan (some c2)] 59)] :: C17 :: F) rfl rfl
                   replace hS := hS.front 4 (C := C17) (L' := [(c1, .chan n ((qk p us (k + 1)).map msgV).toArray false sk (rk + 1) false)] :: [(c2, .chan n (ps.map msgV).toArray false t2 q2 false)] :: [(b1, rowO [.chan (some c1), .chan (some c2)] 57)] :: [(b, rowO [.chan (some c1), .chan (some c2)] 59)] :: F) rfl rfl
                   exact lp_next _ (by omega) ⟨(k + 1), sk, (rk + 1), A18, c19, C17, rfl, (hA.sel [1, 5, 7, 17, 18, 19, 24, 25] rfl), hS, by omega, (by rw [hxs]; exact hO17)⟩)
              · first
                | (exfalso; omega)
                | (replace hA := hA.rw 34 (v' := .bool false) rfl (vb_f hc12)
                   refine cdN_cond_f hA rfl ?_
                   refine wpN_skip ?_
                   refine xt_norm ?_
                   refine cm_region (is := [0, 1, 2]) rfl ?_
                   have hpn : p (y0, y1, y2, y3, y4, y5, y6, y7, y8, y9, yA, yc, yb) = false := Bool.eq_false_iff.2 (by assumption)
                   refine cm_pure tbOk hA (v := .chan (some c1)) rfl rfl rfl (by decide) rfl ?_; clear hA; intro a hA
                   refine cm_val hA rfl rfl rfl (by decide) (rn_loadA tbOk hA [.int .u64 y0, .int .u64 y1, .int .u32 y2, .int .u16 y3, .int .u16 y4, .int .u64 y5, .int .u32 y6, .int .u8 y7, .int .u64 y8, .int .u64 y9, .slice yA yb.length yc] rfl rfl rfl rfl rfl (cells_row (hS.heapAt 0 rfl) rfl)) ?_; clear hA; intro a hA
                   replace hS := hS.front 1 (C := [(c1, .chan n ((tk p us k).map msgV).toArray false sk (rk + 1) false)]) (L' := [(b8, rowO [.int .u64 y0, .int .u64 y1, .int .u32 y2, .int .u16 y3, .int .u16 y4, .int .u64 y5, .int .u32 y6, .int .u8 y7, .int .u64 y8, .int .u64 y9, .slice yA yb.length yc] 37)] :: Cx :: [(c2, .chan n (ps.map msgV).toArray false t2 q2 false)] :: [(b1, rowO [.chan (some c1), .chan (some c2)] 57)] :: [(b, rowO [.chan (some c1), .chan (some c2)] 59)] :: F) rfl rfl
                   refine cm_send (v := msgV (y0, y1, y2, y3, y4, y5, y6, y7, y8, y9, yA, yc, yb)) hA hS rfl rfl rfl rfl (by rw [size_msg]; omega) rfl rfl ?_; clear hS; intro w20 hS
                   rw [push_msg] at hS
                   refine cm_end ?_
                   replace hA := hA.sel [1, 5, 7, 17, 18, 19, 24, 25] (e' := [(1, .func (.func g) first cap), (5, .slice Ax (((([] : List Msg)) ++ ok p us k).length) cx), (7, .chan (some c1)), (17, .slice (some ⟨b1, 0, none⟩) 2 2), (18, .int .i64 2), (19, .int .i64 ((0 : Nat) : Int)), (24, .int .i64 ((us.length : Nat) : Int)), (25, .int .i64 ((k : Nat) : Int))]) rfl
                   refine xb_norm ?_
                   refine xb_norm ?_
                   refine xt_norm ?_
                   refine wpN_of (wp_region_lit ?_)
                   refine st_run tbOk 1 hA (e' := (41, .int .i64 (IntKind.i64.wrap (((k : Nat) : Int) + 1))) :: _) rfl ?_; clear hA; intro a hA
                   replace hA := hA.rw 41 (v' := .int .i64 ((k + 1 : Nat) : Int)) rfl (wr64 (by omega) (by omega) (by omega))
                   refine st_run tbOk 1 hA (e' := (25, .int .i64 ((k + 1 : Nat) : Int)) :: _) rfl ?_; clear hA; intro a hA
                   refine wpList_nil ?_
                   replace hA := hA.sel [1, 5, 7, 17, 18, 19, 24, 25] (e' := [(1, .func (.func g) first cap), (5, .slice Ax (((([] : List Msg)) ++ ok p us k).length) cx), (7, .chan (some c1)), (17, .slice (some ⟨b1, 0, none⟩) 2 2), (18, .int .i64 2), (19, .int .i64 ((0 : Nat) : Int)), (24, .int .i64 ((us.length : Nat) : Int)), (25, .int .i64 ((k + 1 : Nat) : Int))]) rfl
                   have hbx : ((tk p us k) ++ [(y0, y1, y2, y3, y4, y5, y6, y7, y8, y9, yA, yc, yb)]) = (qk p us (k + 1)) := (qk_no hy hpn)
                   rw [hbx] at hS
                   have hxs : ([] : List Msg) ++ ok p us (k + 1) = (([] : List Msg)) ++ ok p us k := by rw [← ok_no hy hpn]
                   replace hA := hA.rw 5 (v' := .slice Ax ((([] : List Msg) ++ ok p us (k + 1)).length) cx) rfl (by rw [hxs])
                   replace hS := hS.front 1 (C := [(b8, rowO [.int .u64 y0, .int .u64 y1, .int .u32 y2, .int .u16 y3, .int .u16 y4, .int .u64 y5, .int .u32 y6, .int .u8 y7, .int .u64 y8, .int .u64 y9, .slice yA yb.length yc] 37)]) (L' := [(c1, .chan n ((qk p us (k + 1)).map msgV).toArray false (sk + 1) (rk + 1) false)] :: Cx :: [(c2, .chan n (ps.map msgV).toArray false t2 q2 false)] :: [(b1, rowO [.chan (some c1), .chan (some c2)] 57)] :: [(b, rowO [.chan (some c1), .chan (some c2)] 59)] :: F) rfl rfl
                   replace hS := hS.drop1
                   replace hS := hS.front 4 (C := [(b, rowO [.chan (some c1), .chan (some c2)] 59)]) (L' := [(c1, .chan n ((qk p us (k + 1)).map msgV).toArray false (sk + 1) (rk + 1) false)] :: Cx :: [(c2, .chan n (ps.map msgV).toArray false t2 q2 false)] :: [(b1, rowO [.chan (some c1), .chan (some c2)] 57)] :: F) rfl rfl
                   replace hS := hS.front 4 (C := [(b1, rowO [.chan (some c1), .chan (some c2)] 57)]) (L' := [(b, rowO [.chan (some c1), .chan (some c2)] 59)] :: [(c1, .chan n ((qk p us (k + 1)).map msgV).toArray false (sk + 1) (rk + 1) false)] :: Cx :: [(c2, .chan n (ps.map msgV).toArray false t2 q2 false)] :: F) rfl rfl
                   replace hS := hS.front 4 (C := [(c2, .chan n (ps.map msgV).toArray false t2 q2 false)]) (L' := [(b1, rowO [.chan (some c1), .chan (some c2)] 57)] :: [(b, rowO [.chan (some c1), .chan (some c2)] 59)] :: [(c1, .chan n ((qk p us (k + 1)).map msgV).toArray false (sk + 1) (rk + 1) false)] :: Cx :: F) rfl rfl
                   replace hS := hS.front 3 (C := [(c1, .chan n ((qk p us (k + 1)).map msgV).toArray false (sk + 1) (rk + 1) false)]) (L' := [(c2, .chan n (ps.map msgV).toArray false t2 q2 false)] :: [(b1, rowO [.chan (some c1), .chan (some c2)] 57)] :: [(b, rowO [.chan (some c1), .chan (some c2)] 59)] :: Cx :: F) rfl rfl
                   replace hS := hS.front 4 (C := Cx) (L' := [(c1, .chan n ((qk p us (k + 1)).map msgV).toArray false (sk + 1) (rk + 1) false)] :: [(c2, .chan n (ps.map msgV).toArray false t2 q2 false)] :: [(b1, rowO [.chan (some c1), .chan (some c2)] 57)] :: [(b, rowO [.chan (some c1), .chan (some c2)] 59)] :: F) rfl rfl
                   exact lp_next _ (by omega) ⟨(k + 1), (sk + 1), (rk + 1), Ax, cx, Cx, rfl, (hA.sel [1, 5, 7, 17, 18, 19, 24, 25] rfl), hS, by omega, (by rw [hxs]; exact hX)⟩))
         · first
           | (exfalso; omega)
           | (replace hA := hA.rw 26 (v' := .bool false) rfl (vb_false hc6)
              refine cdN_cond_f hA rfl ?_
              refine wpN_exit ?_
              refine xt_exit ?_
              refine xt_exit ?_
              refine cd_exit_eq ?_
              refine xs_norm ?_
              refine xb_norm ?_
              refine xt_norm ?_
              refine wpN_of (wp_region_lit ?_)
              have hkl : k = us.length := by omega
              have hbx : (qk p us k) = (us.filter (fun x => !p x)) := by rw [hkl, qk_all]
              rw [hbx] at hS
              have hxo : (([] : List Msg)) ++ ok p us k = us.filter p := by rw [hkl, ok_all]; rfl
              rw [hxo] at hX
              replace hA := hA.rw 5 (v' := .slice Ax ((us.filter p).length) cx) rfl (by rw [hxo])
              refine st_run tbOk 1 hA (e' := (42, .int .i64 (IntKind.i64.wrap (((0 : Nat) : Int) + 1))) :: _) rfl ?_; clear hA; intro a hA
              replace hA := hA.rw 42 (v' := .int .i64 1) rfl (wr64 (by omega) (by omega) (by omega))
              refine st_run tbOk 1 hA (e' := (19, .int .i64 1) :: _) rfl ?_; clear hA; intro a hA
              refine wpList_nil ?_
              replace hA := hA.sel [1, 5, 17, 18, 19] (e' := [(1, .func (.func g) first cap), (5, .slice Ax ((us.filter p).length) cx), (17, .slice (some ⟨b1, 0, none⟩) 2 2), (18, .int .i64 2), (19, .int .i64 1)]) rfl
              replace hS := hS.front 4 (C := [(b, rowO [.chan (some c1), .chan (some c2)] 59)]) (L' := Cx :: [(c1, .chan n ((us.filter (fun x => !p x)).map msgV).toArray false sk rk false)] :: [(c2, .chan n (ps.map msgV).toArray false t2 q2 false)] :: [(b1, rowO [.chan (some c1), .chan (some c2)] 57)] :: F) rfl rfl
              replace hS := hS.front 4 (C := [(b1, rowO [.chan (some c1), .chan (some c2)] 57)]) (L' := [(b, rowO [.chan (some c1), .chan (some c2)] 59)] :: Cx :: [(c1, .chan n ((us.filter (fun x => !p x)).map msgV).toArray false sk rk false)] :: [(c2, .chan n (ps.map msgV).toArray false t2 q2 false)] :: F) rfl rfl
              replace hS := hS.front 4 (C := [(c2, .chan n (ps.map msgV).toArray false t2 q2 false)]) (L' := [(b1, rowO [.chan (some c1), .chan (some c2)] 57)] :: [(b, rowO [.chan (some c1), .chan (some c2)] 59)] :: Cx :: [(c1, .chan n ((us.filter (fun x => !p x)).map msgV).toArray false sk rk false)] :: F) rfl rfl
              replace hS := hS.front 4 (C := [(c1, .chan n ((us.filter (fun x => !p x)).map msgV).toArray false sk rk false)]) (L' := [(c2, .chan n (ps.map msgV).toArray false t2 q2 false)] :: [(b1, rowO [.chan (some c1), .chan (some c2)] 57)] :: [(b, rowO [.chan (some c1), .chan (some c2)] 59)] :: Cx :: F) rfl rfl
              replace hS := hS.front 4 (C := Cx) (L' := [(c1, .chan n ((us.filter (fun x => !p x)).map msgV).toArray false sk rk false)] :: [(c2, .chan n (ps.map msgV).toArray false t2 q2 false)] :: [(b1, rowO [.chan (some c1), .chan (some c2)] 57)] :: [(b, rowO [.chan (some c1), .chan (some c2)] 59)] :: F) rfl rfl
              exact lp_next _ (by decide) ⟨1, (us.filter (fun x => !p x)), ps, (us.filter p), sk, rk, t2, q2, Ax, cx, Cx, rfl, (hA.sel [1, 5, 17, 18, 19] rfl), hS, (by decide), .inr (.inl ⟨rfl, rfl, rfl, rfl⟩), hX⟩)
       · refine st_val hA rfl rfl (by decide) (rn_indexAddr tbOk hA 1 1 rfl rfl rfl rfl rfl rfl (by rfl) (by omega) (by first | rfl | simp [Nat.mul_one, Nat.zero_add] | omega)) ?_; clear hA; intro a hA
         refine st_val hA rfl rfl (by decide) (rn_load tbOk hA rfl rfl rfl rfl (cell_row (hS.heapAt 3 rfl) rfl)) ?_; clear hA; intro a hA
         refine st_run tbOk 1 hA (e' := (7, .chan (some c2)) :: _) rfl ?_; clear hA; intro a hA
         refine wpList_nil ?_
         replace hA := hA.sel [1, 5, 7, 17, 18, 19] (e' := [(1, .func (.func g) first cap), (5, .slice Aw ((us.filter p).length) cw), (7, .chan (some c2)), (17, .slice (some ⟨b1, 0, none⟩) 2 2), (18, .int .i64 2), (19, .int .i64 ((1 : Nat) : Int))]) rfl
         refine xt_norm ?_
         refine wpN_scope ?_
         refine wpN_seq ?_
         refine wpN_of (wp_label ?_)
         refine xt_norm ?_
         refine wpN_seq ?_
         refine wpN_of (wp_region_lit ?_)
         refine st_run tbOk 1 hA (e' := (23, .chan (some c2)) :: _) rfl ?_; clear hA; intro a hA
         refine st_val hA rfl rfl (by decide) (rn_lenchan tbOk hA rfl rfl rfl rfl (hS.heapAt 2 rfl)) ?_; clear hA; intro a hA
         replace hA := hA.rw 24 (v' := .int .i64 ((ps.length : Nat) : Int)) rfl (vint (by rw [size_msg]))
         refine st_run tbOk 1 hA (e' := (25, .int .i64 0) :: _) rfl ?_; clear hA; intro a hA
         refine wpList_nil ?_
         replace hA := hA.sel [1, 5, 7, 17, 18, 19, 24, 25] (e' := [(1, .func (.func g) first cap), (5, .slice Aw ((us.filter p).length) cw), (7, .chan (some c2)), (17, .slice (some ⟨b1, 0, none⟩) 2 2), (18, .int .i64 2), (19, .int .i64 ((1 : Nat) : Int)), (24, .int .i64 ((ps.length : Nat) : Int)), (25, .int .i64 0)]) rfl
         refine xt_norm ?_
         refine wpN_block ?_
         have hbx : ps = (qk p ps 0) := (qk_zero p ps).symm
         rw [hbx] at hS
         have hx0 : (us.filter p) ++ ok p ps 0 = (us.filter p) := by rw [ok_zero, List.append_nil]
         replace hA := hA.rw 5 (v' := .slice Aw (((us.filter p) ++ ok p ps 0).length) cw) rfl (by rw [hx0])
         replace hS := hS.front 4 (C := [(b, rowO [.chan (some c1), .chan (some c2)] 59)]) (L' := Cw :: [(c1, .chan n ((us.filter (fun x => !p x)).map msgV).toArray false t1 q1 false)] :: [(c2, .chan n ((qk p ps 0).map msgV).toArray false t2 q2 false)] :: [(b1, rowO [.chan (some c1), .chan (some c2)] 57)] :: F) rfl rfl
         replace hS := hS.front 4 (C := [(b1, rowO [.chan (some c1), .chan (some c2)] 57)]) (L' := [(b, rowO [.chan (some c1), .chan (some c2)] 59)] :: Cw :: [(c1, .chan n ((us.filter (fun x => !p x)).map msgV).toArray false t1 q1 false)] :: [(c2, .chan n ((qk p ps 0).map msgV).toArray false t2 q2 false)] :: F) rfl rfl
         replace hS := hS.front 3 (C := [(c1, .chan n ((us.filter (fun x => !p x)).map msgV).toArray false t1 q1 false)]) (L' := [(b1, rowO [.chan (some c1), .chan (some c2)] 57)] :: [(b, rowO [.chan (some c1), .chan (some c2)] 59)] :: Cw :: [(c2, .chan n ((qk p ps 0).map msgV).toArray false t2 q2 false)] :: F) rfl rfl
         replace hS := hS.front 4 (C := [(c2, .chan n ((qk p ps 0).map msgV).toArray false t2 q2 false)]) (L' := [(c1, .chan n ((us.filter (fun x => !p x)).map msgV).toArray false t1 q1 false)] :: [(b1, rowO [.chan (some c1), .chan (some c2)] 57)] :: [(b, rowO [.chan (some c1), .chan (some c2)] 59)] :: Cw :: F) rfl rfl
         replace hS := hS.front 4 (C := Cw) (L' := [(c2, .chan n ((qk p ps 0).map msgV).toArray false t2 q2 false)] :: [(c1, .chan n ((us.filter (fun x => !p x)).map msgV).toArray false t1 q1 false)] :: [(b1, rowO [.chan (some c1), .chan (some c2)] 57)] :: [(b, rowO [.chan (some c1), .chan (some c2)] 59)] :: F) rfl rfl
         refine wpN_loop_ghost (fun m a w => ∃ (k : Nat) (sk : Nat) (rk : Nat) (Ax : Option Addr) (cx : Nat) (Cx : Chunk), m = ps.length - k ∧ Has a 44 [(1, .func (.func g) first cap), (5, .slice Ax ((((us.filter p)) ++ ok p ps k).length) cx), (7, .chan (some c2)), (17, .slice (some ⟨b1, 0, none⟩) 2 2), (18, .int .i64 2), (19, .int .i64 ((1 : Nat) : Int)), (24, .int .i64 ((ps.length : Nat) : Int)), (25, .int .i64 ((k : Nat) : Int))] ∧ St w0 w (Cx :: [(c2, .chan n ((qk p ps k).map msgV).toArray false sk rk false)] :: [(c1, .chan n ((us.filter (fun x => !p x)).map msgV).toArray false t1 q1 false)] :: [(b1, rowO [.chan (some c1), .chan (some c2)] 57)] :: [(b, rowO [.chan (some c1), .chan (some c2)] 59)] :: F) ∧ (k ≤ ps.length) ∧ (Own 37 11 (.slice Ax (((us.filter p)) ++ ok p ps k).length cx) (((us.filter p)) ++ ok p ps k).length (rows encMessage (((us.filter p)) ++ ok p ps k)) Cx)) (ps.length - 0)
           ⟨0, t2, q2, Aw, cw, Cw, rfl, (hA.sel [1, 5, 7, 17, 18, 19, 24, 25] rfl), hS, Nat.zero_le _, (by rw [hx0]; exact hW)⟩ ?_
         clear hA hS; rintro m0 a w21 ⟨k, sk, rk, Ax, cx, Cx, rfl, hA, hS, hk, hX⟩
         refine wpN_seq ?_
         refine wpN_of (wp_region_lit ?_)
         refine st_run tbOk 1 hA (e' := (26, .bool (decide (((k : Nat) : Int) < ((ps.length : Nat) : Int)))) :: _) rfl ?_; clear hA; intro a hA
         refine wpList_nil ?_
         refine xt_norm ?_
         refine wpN_seq ?_
         by_cases hc22 : ((k : Nat) : Int) < ((ps.length : Nat) : Int)
         · first
           | (exfalso; omega)
           | (replace hA := hA.rw 26 (v' := .bool true) rfl (vb_true hc22)
              refine cdN_cond_t hA rfl ?_
              refine wpN_skip ?_
              refine xt_norm ?_
              refine wpN_seq ?_
              refine wpN_block ?_
              refine wpN_seq ?_
              refine wpN_of (wp_region_lit ?_)
              refine st_run tbOk 1 hA (e' := (27, .chan (some c2)) :: _) rfl ?_; clear hA; intro a hA
              refine wpList_nil ?_
              replace hA := hA.sel [1, 5, 7, 17, 18, 19, 24, 25, 27] (e' := [(1, .func (.func g) first cap), (5, .slice Ax ((((us.filter p)) ++ ok p ps k).length) cx), (7, .chan (some c2)), (17, .slice (some ⟨b1, 0, none⟩) 2 2), (18, .int .i64 2), (19, .int .i64 ((1 : Nat) : Int)), (24, .int .i64 ((ps.length : Nat) : Int)), (25, .int .i64 ((k : Nat) : Int)), (27, .chan (some c2))]) rfl
              refine xt_norm ?_
              refine wpN_seq ?_
              refine cm_region (is := [0, 1, 2]) rfl ?_
              obtain ⟨⟨y0, y1, y2, y3, y4, y5, y6, y7, y8, y9, yA, yc, yb⟩, hy⟩ := get_ex (l := ps) (k := k) (by omega)
              have hbx : (qk p ps k) = ((y0, y1, y2, y3, y4, y5, y6, y7, y8, y9, yA, yc, yb) :: tk p ps k) := qk_cons hy
              rw [hbx] at hS
              have htl := tk_len (p := p) (us := ps) (k := k) (by omega)
              replace hS := hS.front 1 (C := [(c2, .chan n (((y0, y1, y2, y3, y4, y5, y6, y7, y8, y9, yA, yc, yb) :: tk p ps k).map msgV).toArray false sk rk false)]) (L' := Cx :: [(c1, .chan n ((us.filter (fun x => !p x)).map msgV).toArray false t1 q1 false)] :: [(b1, rowO [.chan (some c1), .chan (some c2)] 57)] :: [(b, rowO [.chan (some c1), .chan (some c2)] 59)] :: F) rfl rfl
              refine cm_sel_recv (v := msgV (y0, y1, y2, y3, y4, y5, y6, y7, y8, y9, yA, yc, yb)) (vs := (tk p ps k).map msgV) tbOk hA hS rfl rfl rfl rfl rfl rfl (by decide) ?_; clear hA hS; intro w23 a hS hA
              replace hA := hA.rw 28 (v' := .tuple #[.int .i64 0, .bool true, .agg #[.int .u64 y0, .int .u64 y1, .int .u32 y2, .int .u16 y3, .int .u16 y4, .int .u64 y5, .int .u32 y6, .int .u8 y7, .int .u64 y8, .int .u64 y9, .slice yA yb.length yc]]) rfl rfl
              refine cm_pure tbOk hA (v := .int .i64 0) rfl rfl rfl (by decide) rfl ?_; clear hA; intro a hA
              refine cm_pure tbOk hA (v := .bool true) rfl rfl rfl (by decide) rfl ?_; clear hA; intro a hA
              refine cm_end ?_
              replace hA := hA.sel [1, 5, 7, 17, 18, 19, 24, 25, 28, 30] (e' := [(1, .func (.func g) first cap), (5, .slice Ax ((((us.filter p)) ++ ok p ps k).length) cx), (7, .chan (some c2)), (17, .slice (some ⟨b1, 0, none⟩) 2 2), (18, .int .i64 2), (19, .int .i64 ((1 : Nat) : Int)), (24, .int .i64 ((ps.length : Nat) : Int)), (25, .int .i64 ((k : Nat) : Int)), (28, .tuple #[.int .i64 0, .bool true, .agg #[.int .u64 y0, .int .u64 y1, .int .u32 y2, .int .u16 y3, .int .u16 y4, .int .u64 y5, .int .u32 y6, .int .u8 y7, .int .u64 y8, .int .u64 y9, .slice yA yb.length yc]]), (30, .bool true)]) rfl
              refine xt_norm ?_
              refine wpN_block ?_
              refine cdN_cond_t hA rfl ?_
              refine wpN_seq ?_
              refine wpN_of (wp_region_lit ?_)
              refine st_run tbOk 1 hA (e' := (31, .agg #[.int .u64 y0, .int .u64 y1, .int .u32 y2, .int .u16 y3, .int .u16 y4, .int .u64 y5, .int .u32 y6, .int .u8 y7, .int .u64 y8, .int .u64 y9, .slice yA yb.length yc]) :: _) rfl ?_; clear hA; intro a hA
              refine st_alloc tbOk hA hS [.int .u64 0, .int .u64 0, .int .u32 0, .int .u16 0, .int .u16 0, .int .u64 0, .int .u32 0, .int .u8 0, .int .u64 0, .int .u64 0, .slice none 0 0] rfl rfl rfl rfl rfl (by decide) ?_; clear hA hS; intro b24 w25 a hS hA
              refine st_store tbOk hA hS [.int .u64 y0, .int .u64 y1, .int .u32 y2, .int .u16 y3, .int .u16 y4, .int .u64 y5, .int .u32 y6, .int .u8 y7, .int .u64 y8, .int .u64 y9, .slice yA yb.length yc] [.int .u64 y0, .int .u64 y1, .int .u32 y2, .int .u16 y3, .int .u16 y4, .int .u64 y5, .int .u32 y6, .int .u8 y7, .int .u64 y8, .int .u64 y9, .slice yA yb.length yc] rfl rfl rfl rfl rfl rfl (by simp [Value.oneCell']) (Nat.le_of_ble_eq_true rfl) rfl rfl rfl ?_; clear hS; intro w26 hS
              refine wpList_nil ?_
              replace hA := hA.sel [1, 5, 7, 8, 17, 18, 19, 24, 25] (e' := [(1, .func (.func g) first cap), (5, .slice Ax ((((us.filter p)) ++ ok p ps k).length) cx), (7, .chan (some c2)), (8, .pointer (some ⟨b24, 0, none⟩)), (17, .slice (some ⟨b1, 0, none⟩) 2 2), (18, .int .i64 2), (19, .int .i64 ((1 : Nat) : Int)), (24, .int .i64 ((ps.length : Nat) : Int)), (25, .int .i64 ((k : Nat) : Int))]) rfl
              refine xt_norm ?_
              refine wpN_seq ?_
              refine wpN_seq ?_
              refine wpN_of (wp_region_lit ?_)
              refine st_run tbOk 1 hA (e' := (32, .func (.func g) first cap) :: _) rfl ?_; clear hA; intro a hA
              refine st_val hA rfl rfl (by decide) (rn_loadA tbOk hA [.int .u64 y0, .int .u64 y1, .int .u32 y2, .int .u16 y3, .int .u16 y4, .int .u64 y5, .int .u32 y6, .int .u8 y7, .int .u64 y8, .int .u64 y9, .slice yA yb.length yc] rfl rfl rfl rfl rfl (cells_row (hS.heapAt 0 rfl) rfl)) ?_; clear hA; intro a hA
              refine st_call hA rfl rfl rfl rfl hg rfl rfl (by decide) (hp _ (y0, y1, y2, y3, y4, y5, y6, y7, y8, y9, yA, yc, yb) (hS.tail 6 rfl)) ?_
              clear hA; rintro v w27 a ⟨rfl, hS'⟩ hA; replace hS : St w0 w27 ([(b24, rowO [.int .u64 y0, .int .u64 y1, .int .u32 y2, .int .u16 y3, .int .u16 y4, .int .u64 y5, .int .u32 y6, .int .u8 y7, .int .u64 y8, .int .u64 y9, .slice yA yb.length yc] 37)] :: [(c2, .chan n ((tk p ps k).map msgV).toArray false sk (rk + 1) false)] :: Cx :: [(c1, .chan n ((us.filter (fun x => !p x)).map msgV).toArray false t1 q1 false)] :: [(b1, rowO [.chan (some c1), .chan (some c2)] 57)] :: [(b, rowO [.chan (some c1), .chan (some c2)] 59)] :: F) := hS.trans hS'
              refine wpList_nil ?_
              replace hA := hA.sel [1, 5, 7, 8, 17, 18, 19, 24, 25, 34] (e' := [(1, .func (.func g) first cap), (5, .slice Ax ((((us.filter p)) ++ ok p ps k).length) cx), (7, .chan (some c2)), (8, .pointer (some ⟨b24, 0, none⟩)), (17, .slice (some ⟨b1, 0, none⟩) 2 2), (18, .int .i64 2), (19, .int .i64 ((1 : Nat) : Int)), (24, .int .i64 ((ps.length : Nat) : Int)), (25, .int .i64 ((k : Nat) : Int)), (34, .bool (p (y0, y1, y2, y3, y4, y5, y6, y7, y8, y9, yA, yc, yb)))]) rfl
              refine xt_norm ?_
              by_cases hc28 : (p (y0, y1, y2, y3, y4, y5, y6, y7, y8, y9, yA, yc, yb)) = true
              · first
                | (exfalso; omega)
                | (replace hA := hA.rw 34 (v' := .bool true) rfl (vb_t hc28)
                   refine cdN_cond_t hA rfl ?_
                   refine wpN_seq ?_
                   refine wpN_of (wp_region_lit ?_)
                   have hpx : p (y0, y1, y2, y3, y4, y5, y6, y7, y8, y9, yA, yc, yb) = true := by assumption
                   refine st_run tbOk 1 hA (e' := (35, .slice Ax ((((us.filter p)) ++ ok p ps k).length) cx) :: _) rfl ?_; clear hA; intro a hA
                   refine st_val hA rfl rfl (by decide) (rn_loadA tbOk hA [.int .u64 y0, .int .u64 y1, .int .u32 y2, .int .u16 y3, .int .u16 y4, .int .u64 y5, .int .u32 y6, .int .u8 y7, .int .u64 y8, .int .u64 y9, .slice yA yb.length yc] rfl rfl rfl rfl rfl (cells_row (hS.heapAt 0 rfl) rfl)) ?_; clear hA; intro a hA
                   refine st_buildSlice tbOk hA hS [.int .u64 y0, .int .u64 y1, .int .u32 y2, .int .u16 y3, .int .u16 y4, .int .u64 y5, .int .u32 y6, .int .u8 y7, .int .u64 y8, .int .u64 y9, .slice yA yb.length yc] rfl rfl rfl rfl rfl (by decide) (by kernel_rfl) rfl rfl (by decide) ?_; clear hA hS; intro b29 w30 a hS hA
                   replace hS := hS.front 3 (C := Cx) (L' := [(b29, rowO [.int .u64 y0, .int .u64 y1, .int .u32 y2, .int .u16 y3, .int .u16 y4, .int .u64 y5, .int .u32 y6, .int .u8 y7, .int .u64 y8, .int .u64 y9, .slice yA yb.length yc] 37)] :: [(b24, rowO [.int .u64 y0, .int .u64 y1, .int .u32 y2, .int .u16 y3, .int .u16 y4, .int .u64 y5, .int .u32 y6, .int .u8 y7, .int .u64 y8, .int .u64 y9, .slice yA yb.length yc] 37)] :: [(c2, .chan n ((tk p ps k).map msgV).toArray false sk (rk + 1) false)] :: [(c1, .chan n ((us.filter (fun x => !p x)).map msgV).toArray false t1 q1 false)] :: [(b1, rowO [.chan (some c1), .chan (some c2)] 57)] :: [(b, rowO [.chan (some c1), .chan (some c2)] 59)] :: F) rfl rfl
                   refine st_append tbOk hA (m := (((us.filter p)) ++ ok p ps k).length) (q := 1) (xs := rows encMessage (((us.filter p)) ++ ok p ps k)) (news := rows encMessage ([(y0, y1, y2, y3, y4, y5, y6, y7, y8, y9, yA, yc, yb)] : List (Int × Int × Int × Int × Int × Int × Int × Int × Int × Int × Option Addr × Nat × List UInt8))) rfl rfl rfl rfl rfl rfl rfl rfl (by decide) hX hS (((Own.full (T := 37) (size := 11) (g := b29) (m := 1) rfl (by decide)).rd (hS.own_ 1 rfl)).x) (rows_one encMessage_ok _) (maxLen_le (by first | omega | (have h9 := ok_le p us k; have h8 := ok_le p ps k; have h7 := List.length_filter_le p us; simp only [List.length_append, List.length_nil]; omega))) (by show ((((us.filter p)) ++ ok p ps k).length + 1) * 80 ≤ 140737488355328; first | omega | (have h9 := ok_le p us k; have h8 := ok_le p ps k; have h7 := List.length_filter_le p us; simp only [List.length_append, List.length_nil]; omega)) rfl rfl (by decide) ?_
                   clear hA hS; intro v31 w32 C33 a hO33 hS hA
                   replace hO33 := Own.app (l := ((us.filter p)) ++ ok p ps k) (l2 := ([(y0, y1, y2, y3, y4, y5, y6, y7, y8, y9, yA, yc, yb)] : List (Int × Int × Int × Int × Int × Int × Int × Int × Int × Int × Option Addr × Nat × List UInt8))) hO33
                   obtain ⟨A34, c35, rfl, hmc35, hxc35⟩ := hO33.open'
                   refine st_run tbOk 1 hA (e' := (5, .slice A34 (((((us.filter p)) ++ ok p ps k) ++ ([(y0, y1, y2, y3, y4, y5, y6, y7, y8, y9, yA, yc, yb)] : List (Int × Int × Int × Int × Int × Int × Int × Int × Int × Int × Option Addr × Nat × List UInt8))).length) c35) :: _) rfl ?_; clear hA; intro a hA
                   refine wpList_nil ?_
                   replace hA := hA.sel [1, 5, 7, 17, 18, 19, 24, 25] (e' := [(1, .func (.func g) first cap), (5, .slice A34 (((((us.filter p)) ++ ok p ps k) ++ ([(y0, y1, y2, y3, y4, y5, y6, y7, y8, y9, yA, yc, yb)] : List (Int × Int × Int × Int × Int × Int × Int × Int × Int × Int × Option Addr × Nat × List UInt8))).length) c35), (7, .chan (some c2)), (17, .slice (some ⟨b1, 0, none⟩) 2 2), (18, .int .i64 2), (19, .int .i64 ((1 : Nat) : Int)), (24, .int .i64 ((ps.length : Nat) : Int)), (25, .int .i64 ((k : Nat) : Int))]) rfl
                   refine xt_norm ?_
                   refine wpN_exit ?_
                   refine xt_exit ?_
                   refine cd_exit_ne (by decide) ?_
                   refine cd_exit_eq ?_
                   refine xt_norm ?_
                   refine wpN_of (wp_region_lit ?_)
                   refine st_run tbOk 1 hA (e' := (41, .int .i64 (IntKind.i64.wrap (((k : Nat) : Int) + 1))) :: _) rfl ?_; clear hA; intro a hA
                   replace hA := hA.rw 41 (v' := .int .i64 ((k + 1 : Nat) : Int)) rfl (wr64 (by omega) (by omega) (by omega))
                   refine st_run tbOk 1 hA (e' := (25, .int .i64 ((k + 1 : Nat) : Int)) :: _) rfl ?_; clear hA; intro a hA
                   refine wpList_nil ?_
                   replace hA := hA.sel [1, 5, 7, 17, 18, 19, 24, 25] (e' := [(1, .func (.func g) first cap), (5, .slice A34 (((((us.filter p)) ++ ok p ps k) ++ ([(y0, y1, y2, y3, y4, y5, y6, y7, y8, y9, yA, yc, yb)] : List (Int × Int × Int × Int × Int × Int × Int × Int × Int × Int × Option Addr × Nat × List UInt8))).length) c35), (7, .chan (some c2)), (17, .slice (some ⟨b1, 0, none⟩) 2 2), (18, .int .i64 2), (19, .int .i64 ((1 : Nat) : Int)), (24, .int .i64 ((ps.length : Nat) : Int)), (25, .int .i64 ((k + 1 : Nat) : Int))]) rfl
                   have hbx : (tk p ps k) = (qk p ps (k + 1)) := (qk_yes hy hpx)
                   rw [hbx] at hS
                   have hxs : (us.filter p) ++ ok p ps (k + 1) = (((us.filter p)) ++ ok p ps k) ++ ([(y0, y1, y2, y3, y4, y5, y6, y7, y8, y9, yA, yc, yb)] : List (Int × Int × Int × Int × Int × Int × Int × Int × Int × Int × Option Addr × Nat × List UInt8)) := by rw [← ok_yes hy hpx, List.append_assoc]
                   replace hA := hA.rw 5 (v' := .slice A34 (((us.filter p) ++ ok p ps (k + 1)).length) c35) rfl (by rw [hxs])
                   replace hS := hS.front 2 (C := [(b24, rowO [.int .u64 y0, .int .u64 y1, .int .u32 y2, .int .u16 y3, .int .u16 y4, .int .u64 y5, .int .u32 y6, .int .u8 y7, .int .u64 y8, .int .u64 y9, .slice yA yb.length yc] 37)]) (L' := C33 :: [(b29, rowO [.int .u64 y0, .int .u64 y1, .int .u32 y2, .int .u16 y3, .int .u16 y4, .int .u64 y5, .int .u32 y6, .int .u8 y7, .int .u64 y8, .int .u64 y9, .slice yA yb.length yc] 37)] :: [(c2, .chan n ((qk p ps (k + 1)).map msgV).toArray false sk (rk + 1) false)] :: [(c1, .chan n ((us.filter (fun x => !p x)).map msgV).toArray false t1 q1 false)] :: [(b1, rowO [.chan (some c1), .chan (some c2)] 57)] :: [(b, rowO [.chan (some c1), .chan (some c2)] 59)] :: F) rfl rfl
                   replace hS := hS.drop1
                   replace hS := hS.front 1 (C := [(b29, rowO [.int .u64 y0, .int .u64 y1, .int .u32 y2, .int .u16 y3, .int .u16 y4, .int .u64 y5, .int .u32 y6, .int .u8 y7, .int .u64 y8, .int .u64 y9, .slice yA yb.length yc] 37)]) (L' := C33 :: [(c2, .chan n ((qk p ps (k + 1)).map msgV).toArray false sk (rk + 1) false)] :: [(c1, .chan n ((us.filter (fun x => !p x)).map msgV).toArray false t1 q1 false)] :: [(b1, rowO [.chan (some c1), .chan (some c2)] 57)] :: [(b, rowO [.chan (some c1), .chan (some c2)] 59)] :: F) rfl rfl
                   replace hS := hS.drop1
                   replace hS := hS.front 4 (C := [(b, rowO [.chan (some c1), .chan (some c2)] 59)]) (L' := C33 :: [(c2, .chan n ((qk p ps (k + 1)).map msgV).toArray false sk (rk + 1) false)] :: [(c1, .chan n ((us.filter (fun x => !p x)).map msgV).toArray false t1 q1 false)] :: [(b1, rowO [.chan (some c1), .chan (some c2)] 57)] :: F) rfl rfl
                   replace hS := hS.front 4 (C := [(b1, rowO [.chan (some c1), .chan (some c2)] 57)]) (L' := [(b, rowO [.chan (some c1), .chan (some c2)] 59)] :: C33 :: [(c2, .chan n ((qk p ps (k + 1)).map msgV).toArray false sk (rk + 1) false)] :: [(c1, .chan n ((us.filter (fun x => !p x)).map msgV).toArray false t1 q1 false)] :: F) rfl rfl
                   replace hS := hS.front 4 (C := [(c1, .chan n ((us.filter (fun x => !p x)).map msgV).toArray false t1 q1 false)]) (L' := [(b1, rowO [.chan (some c1), .chan (some c2)] 57)] :: [(b, rowO [.chan (some c1), .chan (some c2)] 59)] :: C33 :: [(c2, .chan n ((qk p ps (k + 1)).map msgV).toArray false sk (rk + 1) false)] :: F) rfl rfl
                   replace hS := hS.front 4 (C := [(c2, .chan n ((qk p ps (k + 1)).map msgV).toArray false sk (rk + 1) false)]) (L' := [(c1, .chan n ((us.filter (fun x => !p x)).map msgV).toArray false t1 q1 false)] :: [(b1, rowO [.chan (some c1), .chan (some c2)] 57)] :: [(b, rowO [.chan (some c1), .chan (some c2)] 59)] :: C33 :: F) rfl rfl
                   replace hS := hS.front 4 (C := C33) (L' := [(c2, .chan n ((qk p ps (k + 1)).map msgV).toArray false sk (rk + 1) false)] :: [(c1, .chan n ((us.filter (fun x => !p x)).map msgV).toArray false t1 q1 false)] :: [(b1, rowO [.chan (some c1), .chan (some c2)] 57)] :: [(b, rowO [.chan (some c1), .chan (some c2)] 59)] :: F) rfl rfl
                   exact lp_next _ (by omega) ⟨(k + 1), sk, (rk + 1), A34, c35, C33, rfl, (hA.sel [1, 5, 7, 17, 18, 19, 24, 25] rfl), hS, by omega, (by rw [hxs]; exact hO33)⟩)
              · first
                | (exfalso; omega)
                | (replace hA := hA.rw 34 (v' := .bool false) rfl (vb_f hc28)
                   refine cdN_cond_f hA rfl ?_
                   refine wpN_skip ?_
                   refine xt_norm ?_
                   refine cm_region (is := [0, 1, 2]) rfl ?_
                   have hpn : p (y0, y1, y2, y3, y4, y5, y6, y7, y8, y9, yA, yc, yb) = false := Bool.eq_false_iff.2 (by assumption)
                   refine cm_pure tbOk hA (v := .chan (some c2)) rfl rfl rfl (by decide) rfl ?_; clear hA; intro a hA
                   refine cm_val hA rfl rfl rfl (by decide) (rn_loadA tbOk hA [.int .u64 y0, .int .u64 y1, .int .u32 y2, .int .u16 y3, .int .u16 y4, .int .u64 y5, .int .u32 y6, .int .u8 y7, .int .u64 y8, .int .u64 y9, .slice yA yb.length yc] rfl rfl rfl rfl rfl (cells_row (hS.heapAt 0 rfl) rfl)) ?_; clear hA; intro a hA
                   replace hS := hS.front 1 (C := [(c2, .chan n ((tk p ps k).map msgV).toArray false sk (rk + 1) false)]) (L' := [(b24, rowO [.int .u64 y0, .int .u64 y1, .int .u32 y2, .int .u16 y3, .int .u16 y4, .int .u64 y5, .int .u32 y6, .int .u8 y7, .int .u64 y8, .int .u64 y9, .slice yA yb.length yc] 37)] :: Cx :: [(c1, .chan n ((us.filter (fun x => !p x)).map msgV).toArray false t1 q1 false)] :: [(b1, rowO [.chan (some c1), .chan (some c2)] 57)] :: [(b, rowO [.chan (some c1), .chan (some c2)] 59)] :: F) rfl rfl
                   refine cm_send (v := msgV (y0, y1, y2, y3, y4, y5, y6, y7, y8, y9, yA, yc, yb)) hA hS rfl rfl rfl rfl (by rw [size_msg]; omega) rfl rfl ?_; clear hS; intro w36 hS
                   rw [push_msg] at hS
                   refine cm_end ?_
                   replace hA := hA.sel [1, 5, 7, 17, 18, 19, 24, 25] (e' := [(1, .func (.func g) first cap), (5, .slice Ax ((((us.filter p)) ++ ok p ps k).length) cx), (7, .chan (some c2)), (17, .slice (some ⟨b1, 0, none⟩) 2 2), (18, .int .i64 2), (19, .int .i64 ((1 : Nat) : Int)), (24, .int .i64 ((ps.length : Nat) : Int)), (25, .int .i64 ((k : Nat) : Int))]) rfl
                   refine xb_norm ?_
                   refine xb_norm ?_
                   refine xt_norm ?_
                   refine wpN_of (wp_region_lit ?_)
                   refine st_run tbOk 1 hA (e' := (41, .int .i64 (IntKind.i64.wrap (((k : Nat) : Int) + 1))) :: _) rfl ?_; clear hA; intro a hA
                   replace hA := hA.rw 41 (v' := .int .i64 ((k + 1 : Nat) : Int)) rfl (wr64 (by omega) (by omega) (by omega))
                   refine st_run tbOk 1 hA (e' := (25, .int .i64 ((k + 1 : Nat) : Int)) :: _) rfl ?_; clear hA; intro a hA
                   refine wpList_nil ?_
                   replace hA := hA.sel [1, 5, 7, 17, 18, 19, 24, 25] (e' := [(1, .func (.func g) first cap), (5, .slice Ax ((((us.filter p)) ++ ok p ps k).length) cx), (7, .chan (some c2)), (17, .slice (some ⟨b1, 0, none⟩) 2 2), (18, .int .i64 2), (19, .int .i64 ((1 : Nat) : Int)), (24, .int .i64 ((ps.length : Nat) : Int)), (25, .int .i64 ((k + 1 : Nat) : Int))]) rfl
                   have hbx : ((tk p ps k) ++ [(y0, y1, y2, y3, y4, y5, y6, y7, y8, y9, yA, yc, yb)]) = (qk p ps (k + 1)) := (qk_no hy hpn)
                   rw [hbx] at hS
                   have hxs : (us.filter p) ++ ok p ps (k + 1) = ((us.filter p)) ++ ok p ps k := by rw [← ok_no hy hpn]
                   replace hA := hA.rw 5 (v' := .slice Ax (((us.filter p) ++ ok p ps (k + 1)).length) cx) rfl (by rw [hxs])
                   replace hS := hS.front 1 (C := [(b24, rowO [.int .u64 y0, .int .u64 y1, .int .u32 y2, .int .u16 y3, .int .u16 y4, .int .u64 y5, .int .u32 y6, .int .u8 y7, .int .u64 y8, .int .u64 y9, .slice yA yb.length yc] 37)]) (L' := [(c2, .chan n ((qk p ps (k + 1)).map msgV).toArray false (sk + 1) (rk + 1) false)] :: Cx :: [(c1, .chan n ((us.filter (fun x => !p x)).map msgV).toArray false t1 q1 false)] :: [(b1, rowO [.chan (some c1), .chan (some c2)] 57)] :: [(b, rowO [.chan (some c1), .chan (some c2)] 59)] :: F) rfl rfl
                   replace hS := hS.drop1
                   replace hS := hS.front 4 (C := [(b, rowO [.chan (some c1), .chan (some c2)] 59)]) (L' := [(c2, .chan n ((qk p ps (k + 1)).map msgV).toArray false (sk + 1) (rk + 1) false)] :: Cx :: [(c1, .chan n ((us.filter (fun x => !p x)).map msgV).toArray false t1 q1 false)] :: [(b1, rowO [.chan (some c1), .chan (some c2)] 57)] :: F) rfl rfl
                   replace hS := hS.front 4 (C := [(b1, rowO [.chan (some c1), .chan (some c2)] 57)]) (L' := [(b, rowO [.chan (some c1), .chan (some c2)] 59)] :: [(c2, .chan n ((qk p ps (k + 1)).map msgV).toArray false (sk + 1) (rk + 1) false)] :: Cx :: [(c1, .chan n ((us.filter (fun x => !p x)).map msgV).toArray false t1 q1 false)] :: F) rfl rfl
                   replace hS := hS.front 4 (C := [(c1, .chan n ((us.filter (fun x => !p x)).map msgV).toArray false t1 q1 false)]) (L' := [(b1, rowO [.chan (some c1), .chan (some c2)] 57)] :: [(b, rowO [.chan (some c1), .chan (some c2)] 59)] :: [(c2, .chan n ((qk p ps (k + 1)).map msgV).toArray false (sk + 1) (rk + 1) false)] :: Cx :: F) rfl rfl
                   replace hS := hS.front 3 (C := [(c2, .chan n ((qk p ps (k + 1)).map msgV).toArray false (sk + 1) (rk + 1) false)]) (L' := [(c1, .chan n ((us.filter (fun x => !p x)).map msgV).toArray false t1 q1 false)] :: [(b1, rowO [.chan (some c1), .chan (some c2)] 57)] :: [(b, rowO [.chan (some c1), .chan (some c2)] 59)] :: Cx :: F) rfl rfl
                   replace hS := hS.front 4 (C := Cx) (L' := [(c2, .chan n ((qk p ps (k + 1)).map msgV).toArray false (sk + 1) (rk + 1) false)] :: [(c1, .chan n ((us.filter (fun x => !p x)).map msgV).toArray false t1 q1 false)] :: [(b1, rowO [.chan (some c1), .chan (some c2)] 57)] :: [(b, rowO [.chan (some c1), .chan (some c2)] 59)] :: F) rfl rfl
                   exact lp_next _ (by omega) ⟨(k + 1), (sk + 1), (rk + 1), Ax, cx, Cx, rfl, (hA.sel [1, 5, 7, 17, 18, 19, 24, 25] rfl), hS, by omega, (by rw [hxs]; exact hX)⟩))
         · first
           | (exfalso; omega)
           | (replace hA := hA.rw 26 (v' := .bool false) rfl (vb_false hc22)
              refine cdN_cond_f hA rfl ?_
              refine wpN_exit ?_
              refine xt_exit ?_
              refine xt_exit ?_
              refine cd_exit_eq ?_
              refine xs_norm ?_
              refine xb_norm ?_
              refine xt_norm ?_
              refine wpN_of (wp_region_lit ?_)
              have hkl : k = ps.length := by omega
              have hbx : (qk p ps k) = (ps.filter (fun x => !p x)) := by rw [hkl, qk_all]
              rw [hbx] at hS
              have hxo : ((us.filter p)) ++ ok p ps k = us.filter p ++ ps.filter p := by rw [hkl, ok_all]
              rw [hxo] at hX
              replace hA := hA.rw 5 (v' := .slice Ax ((us.filter p ++ ps.filter p).length) cx) rfl (by rw [hxo])
              refine st_run tbOk 1 hA (e' := (42, .int .i64 (IntKind.i64.wrap (((1 : Nat) : Int) + 1))) :: _) rfl ?_; clear hA; intro a hA
              replace hA := hA.rw 42 (v' := .int .i64 2) rfl (wr64 (by omega) (by omega) (by omega))
              refine st_run tbOk 1 hA (e' := (19, .int .i64 2) :: _) rfl ?_; clear hA; intro a hA
              refine wpList_nil ?_
              replace hA := hA.sel [1, 5, 17, 18, 19] (e' := [(1, .func (.func g) first cap), (5, .slice Ax ((us.filter p ++ ps.filter p).length) cx), (17, .slice (some ⟨b1, 0, none⟩) 2 2), (18, .int .i64 2), (19, .int .i64 2)]) rfl
              replace hS := hS.front 4 (C := [(b, rowO [.chan (some c1), .chan (some c2)] 59)]) (L' := Cx :: [(c2, .chan n ((ps.filter (fun x => !p x)).map msgV).toArray false sk rk false)] :: [(c1, .chan n ((us.filter (fun x => !p x)).map msgV).toArray false t1 q1 false)] :: [(b1, rowO [.chan (some c1), .chan (some c2)] 57)] :: F) rfl rfl
              replace hS := hS.front 4 (C := [(b1, rowO [.chan (some c1), .chan (some c2)] 57)]) (L' := [(b, rowO [.chan (some c1), .chan (some c2)] 59)] :: Cx :: [(c2, .chan n ((ps.filter (fun x => !p x)).map msgV).toArray false sk rk false)] :: [(c1, .chan n ((us.filter (fun x => !p x)).map msgV).toArray false t1 q1 false)] :: F) rfl rfl
              replace hS := hS.front 3 (C := [(c2, .chan n ((ps.filter (fun x => !p x)).map msgV).toArray false sk rk false)]) (L' := [(b1, rowO [.chan (some c1), .chan (some c2)] 57)] :: [(b, rowO [.chan (some c1), .chan (some c2)] 59)] :: Cx :: [(c1, .chan n ((us.filter (fun x => !p x)).map msgV).toArray false t1 q1 false)] :: F) rfl rfl
              replace hS := hS.front 4 (C := [(c1, .chan n ((us.filter (fun x => !p x)).map msgV).toArray false t1 q1 false)]) (L' := [(c2, .chan n ((ps.filter (fun x => !p x)).map msgV).toArray false sk rk false)] :: [(b1, rowO [.chan (some c1), .chan (some c2)] 57)] :: [(b, rowO [.chan (some c1), .chan (some c2)] 59)] :: Cx :: F) rfl rfl
              replace hS := hS.front 4 (C := Cx) (L' := [(c1, .chan n ((us.filter (fun x => !p x)).map msgV).toArray false t1 q1 false)] :: [(c2, .chan n ((ps.filter (fun x => !p x)).map msgV).toArray false sk rk false)] :: [(b1, rowO [.chan (some c1), .chan (some c2)] 57)] :: [(b, rowO [.chan (some c1), .chan (some c2)] 59)] :: F) rfl rfl
              exact lp_next _ (by decide) ⟨2, (us.filter (fun x => !p x)), (ps.filter (fun x => !p x)), (us.filter p ++ ps.filter p), t1, q1, sk, rk, Ax, cx, Cx, rfl, (hA.sel [1, 5, 17, 18, 19] rfl), hS, (by decide), .inr (.inr ⟨rfl, rfl, rfl, rfl⟩), hX⟩)
       · exfalso; omega)
  · first
    | (exfalso; omega)
    | (replace hA := hA.rw 20 (v' := .bool false) rfl (vb_false hc4)
       refine cdN_cond_f hA rfl ?_
       refine wpN_exit ?_
       refine xt_exit ?_
       refine xt_exit ?_
       refine cd_exit_eq ?_
       refine xt_norm ?_
       refine wpN_seq ?_
       refine wpN_of (wp_region_lit ?_)
       have hj2 : j = 2 := by omega
       rcases hst with ⟨h9, _⟩ | ⟨h9, _⟩ | ⟨_, rfl, rfl, rfl⟩
       · exfalso; omega
       · exfalso; omega
       · refine st_run tbOk 2 hA (e' := (4, .slice Aw ((us.filter p ++ ps.filter p).length) cw) :: (43, .slice Aw ((us.filter p ++ ps.filter p).length) cw) :: _) rfl ?_; clear hA; intro a hA
         refine wpList_nil ?_
         replace hA := hA.sel [4] (e' := [(4, .slice Aw ((us.filter p ++ ps.filter p).length) cw)]) rfl
         refine xt_norm ?_
         refine wpN_ret ?_
         refine ret1 (fn := Tryd.f12) hA rfl rfl ?_
         replace hS := hS.front 3 (C := [(b1, rowO [.chan (some c1), .chan (some c2)] 57)]) (L' := Cw :: [(c1, .chan n ((us.filter (fun x => !p x)).map msgV).toArray false t1 q1 false)] :: [(c2, .chan n ((ps.filter (fun x => !p x)).map msgV).toArray false t2 q2 false)] :: [(b, rowO [.chan (some c1), .chan (some c2)] 59)] :: F) rfl rfl
         replace hS := hS.drop1
         replace hS := hS.front 2 (C := [(c2, .chan n ((ps.filter (fun x => !p x)).map msgV).toArray false t2 q2 false)]) (L' := Cw :: [(c1, .chan n ((us.filter (fun x => !p x)).map msgV).toArray false t1 q1 false)] :: [(b, rowO [.chan (some c1), .chan (some c2)] 59)] :: F) rfl rfl
         replace hS := hS.front 2 (C := [(c1, .chan n ((us.filter (fun x => !p x)).map msgV).toArray false t1 q1 false)]) (L' := [(c2, .chan n ((ps.filter (fun x => !p x)).map msgV).toArray false t2 q2 false)] :: Cw :: [(b, rowO [.chan (some c1), .chan (some c2)] 59)] :: F) rfl rfl
         replace hS := hS.front 3 (C := [(b, rowO [.chan (some c1), .chan (some c2)] 59)]) (L' := [(c1, .chan n ((us.filter (fun x => !p x)).map msgV).toArray false t1 q1 false)] :: [(c2, .chan n ((ps.filter (fun x => !p x)).map msgV).toArray false t2 q2 false)] :: Cw :: F) rfl rfl
         replace hS := hS.join3
         exact ⟨_, _, _, hW, ⟨_, _, _, _, _, _, rfl⟩, rfl, hS⟩)
end Go.Proofs.YtjmnajcjbimbiaaDoor
