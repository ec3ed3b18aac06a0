import Derived.Test.YtjmnajcjbimbiaaDoorSK14
import Derived.Conc.LoneSelectN
import Derived.Conc.LoneSelect
import Derived.Conc.LoneCalls
import Derived.Conc.SmallLaws
import Derived.Deep.LoopGhost
set_option linter.unusedVariables false
set_option linter.unusedSimpArgs false
/-! ### 16. Channels in one goroutine: a walk whose frame is a plain one; select with a default; send with room. Own work. -/
namespace Go.SK
open Go Go.Conc
/-- The walk of code in a frame of the plain kind. -/
def wpN (P : Program) (c : Code) (Q : Exit → Act → World → Prop) (a : Act) (w : World) : Prop :=
  ∀ (b : Frame) (k : List Item) (cs : List Frame), b.kind = .normal →
    ∃ e a' w', Q e a' w' ∧ Arrives P (lone (b.at a (.code c :: k)) cs w) b k cs e a' w'
section
variable {P : Program} {Q : Exit → Act → World → Prop} {a : Act} {w : World} {n : Nat} {e : Env}
theorem wpN_of {c : Code} (h : c.wp P Q a w) : wpN P c Q a w := fun b k cs _ => h b k cs
theorem wpN_mono {c : Code} {Q' : Exit → Act → World → Prop} (h : wpN P c Q a w) (hq : ∀ e a w, Q e a w → Q' e a w) : wpN P c Q' a w :=
  fun b k cs hb => let ⟨e, a', w', q, r⟩ := h b k cs hb; ⟨e, a', w', hq _ _ _ q, r⟩
theorem wpN_skip (h : Q .normal a w) : wpN P .skip Q a w := wpN_of (wp_skip h)
theorem wpN_exit {id : Nat} (h : Q (.exit id) a w) : wpN P (.exit id) Q a w := wpN_of (wp_exit h)
theorem wpN_ret (h : Q .ret a w) : wpN P .ret Q a w := wpN_of (wp_ret h)
theorem wpN_seq {x y : Code} (h : wpN P x (Exit.then (wpN P y Q) Q) a w) : wpN P (Code.seq x y) Q a w := by
  intro b k cs hb
  obtain ⟨e, a₁, w₁, hq, harr⟩ := h b (.code y :: k) cs hb
  cases e with
  | normal =>
    obtain ⟨e₂, a₂, w₂, hq₂, harr₂⟩ := hq b k cs hb
    exact ⟨e₂, a₂, w₂, hq₂, .of_steps (.head step_seq harr) harr₂⟩
  | exit id => exact ⟨_, a₁, w₁, hq, .of_steps (.one step_seq) (.pass (x := .code y) rfl (fun _ _ => .inl (by simp)) harr)⟩
  | goto l => exact ⟨_, a₁, w₁, hq, .of_steps (.one step_seq) (.pass (x := .code y) rfl (fun _ _ => .inl (by simp)) harr)⟩
  | ret => exact ⟨_, a₁, w₁, hq, .of_steps (.one step_seq) (.pass (x := .code y) rfl (fun _ _ => .inl (by simp)) harr)⟩
  | panic ch => exact ⟨_, a₁, w₁, hq, .of_steps (.one step_seq) (.pass (x := .code y) rfl (fun _ _ => .inl (by simp)) harr)⟩
  | outgrown => exact ⟨_, a₁, w₁, hq, .of_steps (.one step_seq) (.pass (x := .code y) rfl (fun _ _ => .inl (by simp)) harr)⟩
theorem wpN_seq_join {x y : Code} (J : Act → World → Prop) (h1 : wpN P x (Exit.then J Q) a w) (h2 : ∀ a w, J a w → wpN P y Q a w) : wpN P (Code.seq x y) Q a w :=
  wpN_seq (wpN_mono h1 (fun e a w q => by cases e <;> first | exact h2 a w q | exact q))
theorem cdN_cond_t {c : Operand} {x y : Code} (hA : Has a n e) (hc : ev e c = some (.bool true)) (h : wpN P x Q a w) : wpN P (Code.cond c x y) Q a w :=
  fun b k cs hb => let ⟨e, a', w', q, r⟩ := h b k cs hb; ⟨e, a', w', q, .of_steps (.one (step_cond (t := true) (hA.ev hc))) r⟩
theorem cdN_cond_f {c : Operand} {x y : Code} (hA : Has a n e) (hc : ev e c = some (.bool false)) (h : wpN P y Q a w) : wpN P (Code.cond c x y) Q a w :=
  fun b k cs hb => let ⟨e, a', w', q, r⟩ := h b k cs hb; ⟨e, a', w', q, .of_steps (.one (step_cond (t := false) (hA.ev hc))) r⟩
theorem wpN_block {id : Nat} {c : Code} (h : wpN P c (Exit.inBlock id Q) a w) : wpN P (Code.block id c) Q a w := by
  intro b k cs hb
  obtain ⟨e, a₁, w₁, hq, harr⟩ := h b (.inBlock id :: k) cs hb
  cases e with
  | normal => exact ⟨.normal, a₁, w₁, hq, .head step_block (Steps.trans harr (.one step_inBlock))⟩
  | exit id' =>
    by_cases hid : id' = id
    · simp only [Exit.inBlock, hid, if_true] at hq
      exact ⟨.normal, a₁, w₁, hq, .head step_block (harr k (by simp [exitTo, hid]))⟩
    · simp only [Exit.inBlock, hid, if_false] at hq
      refine ⟨.exit id', a₁, w₁, hq, fun k' hk => .head step_block (harr k' ?_)⟩
      have : (id == id') = false := by simp; exact fun h => hid h.symm
      simp [exitTo, this, hk]
  | goto l => exact ⟨_, a₁, w₁, hq, fun k' hk => .head step_block (harr k' (by simp [gotoIn, hk]))⟩
  | ret => exact ⟨_, a₁, w₁, hq, .of_steps (.one step_block) harr⟩
  | panic ch => exact ⟨_, a₁, w₁, hq, .of_steps (.one step_block) harr⟩
  | outgrown => exact ⟨_, a₁, w₁, hq, .of_steps (b := b) (k := k) (cs := cs) (e := .outgrown) (.one step_block) harr⟩
theorem wpN_loop {c : Code} (I : Act → World → Prop) (μ : Act → World → Nat) (h₀ : I a w)
    (round : ∀ a w, I a w → wpN P c (Exit.then (fun a' w' => I a' w' ∧ μ a' w' < μ a w) Q) a w) : wpN P (Code.loop c) Q a w := by
  intro b k cs hb
  have key : ∀ n a w, μ a w = n → I a w →
      ∃ e a' w', Q e a' w' ∧ Arrives P (lone (b.at a (.code c :: .inLoop c :: k)) cs w) b k cs e a' w' := by
    intro n
    induction n using Nat.strongRecOn with
    | _ n ih =>
      intro a w hn hI
      obtain ⟨e, a₁, w₁, hq, harr⟩ := round a w hI b (.inLoop c :: k) cs hb
      cases e with
      | normal =>
        obtain ⟨hI₁, hlt⟩ := hq
        obtain ⟨e₂, a₂, w₂, hq₂, harr₂⟩ := ih (μ a₁ w₁) (hn ▸ hlt) a₁ w₁ rfl hI₁
        exact ⟨e₂, a₂, w₂, hq₂, .of_steps (Steps.trans harr (.one step_inLoop)) harr₂⟩
      | exit id => exact ⟨_, a₁, w₁, hq, .pass (x := .inLoop c) rfl (fun _ _ => .inl (by simp)) harr⟩
      | goto l => exact ⟨_, a₁, w₁, hq, .pass (x := .inLoop c) rfl (fun _ _ => .inl (by simp)) harr⟩
      | ret => exact ⟨_, a₁, w₁, hq, .pass (x := .inLoop c) rfl (fun _ _ => .inl (by simp)) harr⟩
      | panic ch => exact ⟨_, a₁, w₁, hq, .pass (x := .inLoop c) rfl (fun _ _ => .inl (by simp)) harr⟩
      | outgrown => exact ⟨_, a₁, w₁, hq, .pass (x := .inLoop c) rfl (fun _ _ => .inl (by simp)) harr⟩
  obtain ⟨e, a', w', hq, harr⟩ := key _ a w rfl h₀
  exact ⟨e, a', w', hq, .of_steps (.one step_loop) harr⟩
theorem wpN_loop_ghost {c : Code} (I : Nat → Act → World → Prop) (n₀ : Nat) (h₀ : I n₀ a w)
    (round : ∀ n a w, I n a w → wpN P c (Exit.then (fun a' w' => ∃ n', n' < n ∧ I n' a' w') Q) a w) : wpN P (Code.loop c) Q a w := by
  refine wpN_loop (fun a w => ∃ n, I n a w) (fun a w => leastOf (fun n => I n a w)) ⟨n₀, h₀⟩ ?_
  intro a w hI
  refine wpN_mono (round _ a w (leastOf_spec hI).1) ?_
  intro e a' w' hq
  cases e with
  | normal =>
    obtain ⟨n', hlt, hI'⟩ := hq
    exact show (∃ n, I n a' w') ∧ leastOf (fun n => I n a' w') < leastOf (fun n => I n a w) from ⟨⟨n', hI'⟩, Nat.lt_of_le_of_lt ((leastOf_spec ⟨n', hI'⟩).2 n' hI') hlt⟩
  | exit id => exact hq
  | goto l => exact hq
  | ret => exact hq
  | panic ch => exact hq
  | outgrown => exact hq
theorem calls_of_wpN {f : FuncId} {fn : Func} {c : Code} {args : Array Value} {R : Ending → World → Prop}
    (hf : P.funcs[f]? = some fn) (hb : fn.body = some c)
    (h : wpN P c (bodyPost P fn R) { tmps := args ++ Array.replicate (fn.ntmps - args.size) undef, defers := [] } w) :
    Calls P f args w R := by
  intro cs
  let b : Frame := { (default : Frame) with fn := f, kind := .normal }
  have henter : Frame.enter P f args .normal =
      b.at { tmps := args ++ Array.replicate (fn.ntmps - args.size) undef, defers := [] } [.code c] := by
    simp [Frame.enter, Frame.at, hf, hb, b]
  obtain ⟨e, a', w', hq, harr⟩ := h b [] cs rfl
  rw [← henter] at harr
  cases e with
  | normal =>
    obtain ⟨hd, v, hr, hR⟩ := hq
    exact ⟨.returned v, w', _, hR, Steps.trans harr (.one step_end), rfl, rfl, hd, rfl, fn, hf, hr⟩
  | ret =>
    obtain ⟨hd, v, hr, hR⟩ := hq
    obtain ⟨todo, hs⟩ := harr
    exact ⟨.returned v, w', _, hR, hs, rfl, rfl, hd, rfl, fn, hf, hr⟩
  | panic chain =>
    obtain ⟨hd, hR⟩ := hq
    obtain ⟨todo, hs⟩ := harr
    exact ⟨.panicked chain, w', _, hR, hs, rfl, rfl, hd, fn, hf⟩
  | exit id => exact hq.elim
  | goto l => exact hq.elim
  | outgrown => exact ⟨.outgrown, w', b, hq, harr.resolve_left (by simp [b]), rfl, trivial⟩
theorem enterN {f : FuncId} {fn : Func} {c : Code} {vs : List Value} {R : Value → World → Prop} (m : Nat)
    (hf : P.funcs[f]? = some fn) (hb : fn.body = some c) (hn : fn.ntmps = m) (hm : vs.length ≤ m)
    (h : ∀ a, Has a m (mkE 0 vs) → wpN P c (bodyPost P fn fun en w' => ∃ v, en = .returned v ∧ R v w') a w) : Ret P f vs.toArray w R := by
  refine calls_of_wpN hf hb (h _ ⟨?_, rfl, ?_⟩)
  · simp; omega
  · intro t v hl
    obtain ⟨_, h2⟩ := lk_mkE vs 0 t v hl
    simp only [Nat.sub_zero] at h2
    have hlt : t < vs.length := (List.getElem?_eq_some_iff.1 h2).1
    simp only [List.size_toArray]
    rw [Array.getElem?_append_left (by simpa using hlt)]
    simpa using h2

/-! Regions with a communication: operation by operation. -/
def CW (P : Program) (ops : Array Oper) (Q : Exit → Act → World → Prop) (l : List Nat) (a : Act) (w : World) : Prop :=
  ∀ (b : Frame) (k : List Item) (cs : List Frame), b.kind = .normal →
    ∃ e a' w', Q e a' w' ∧ Arrives P (lone (b.at a (.inRegion ops l :: k)) cs w) b k cs e a' w'
variable {ops : Array Oper} {i d : Nat} {rest : List Nat} {o : Oper} {v : Value} {w' : World}
theorem cm_region {id : Nat} {l : List Oper} {is : List Nat} (hl : List.range l.toArray.size = is) (h : CW P l.toArray Q is a w) : wpN P (Code.region id l.toArray false) Q a w := by
  subst hl
  exact fun b k cs hb => let ⟨e, a', w', q, r⟩ := h b k cs hb; ⟨e, a', w', q, .of_steps (.one step_region) r⟩
theorem cm_end (h : Q .normal a w) : CW P ops Q [] a w := fun b k cs _ => ⟨.normal, a, w, h, .one step_region_end⟩
theorem cm_val (hA : Has a n e) (ho : ops[i]? = some o) (hw : wantE ops e o.guard = some true) (hd : o.dst = some d) (hdn : d < n)
    (hr : (execOp a.eval o).run P w = .ok (.value v) w') (c : ∀ a', Has a' n ((d, v) :: e) → CW P ops Q rest a' w') : CW P ops Q (i :: rest) a w := by
  intro b k cs hb
  obtain ⟨e', a', w'', hq, harr⟩ := c _ (hA.put hdn v) b k cs hb
  refine ⟨e', a', w'', hq, .of_steps (.one (step_lone_go ?_)) harr⟩
  have hfin : (b.at a (.inRegion ops (i :: rest) :: k)).finish v = b.at (a.put o.dst v) (.inRegion ops rest :: k) := by rw [Frame.finish_at, ho]; rfl
  rw [hd] at hfin
  rw [stepG_op ho (hA.want hw), ← hfin]; simp [stepG.apply, hr]
theorem cm_pure {tb : List TI} (hT : TabOk P tb) (hA : Has a n e) (ho : ops[i]? = some o) (hw : wantE ops e o.guard = some true) (hd : o.dst = some d) (hdn : d < n)
    (hv : pureOp tb e o.op = some v) (c : ∀ a', Has a' n ((d, v) :: e) → CW P ops Q rest a' w) : CW P ops Q (i :: rest) a w :=
  cm_val hA ho hw hd hdn (pureOp_run hT hA hv w) c
theorem upd_chan {c cap cap' s s' r r' : Nat} {buf buf' : Array Value} {cl cl' tm tm' : Bool} (hb : w.heap[c]? = some (.chan cap buf cl s r tm)) : Upd w (w.setChan c cap' buf' cl' s' r' tm') c (.chan cap' buf' cl' s' r' tm') := by
  have hc : c < w.heap.size := by
    rcases Nat.lt_or_ge c w.heap.size with h | h
    · exact h
    · rw [Array.getElem?_eq_none h] at hb; cases hb
  refine ⟨rfl, rfl, rfl, by simp [World.setChan], heap_setChan _ _ _ _ _ _ _ _ hc, fun k _ hk => ?_⟩
  simp only [World.setChan]; rw [Array.getElem?_setIfInBounds_ne (by omega)]
variable {tb : List TI} {w0 : World} {L : List Chunk} {c cap s r : Nat} {buf : Array Value} {T : Nat} {ti : TI} {x y : Operand}
theorem run_sel_send (hT : TabOk P tb) (hA : Has a n e) (ho : o.op = .select #[⟨x, some y, T⟩] false) (hx : ev e x = some (.chan (some c))) (hy : ev e y = some v) (hi : lkT tb T = some ti) :
    (execOp a.eval o).run P w = .ok (.comm #[scase c v ti.zero] false .select) w := by
  obtain ⟨ht, hok⟩ := hT.at_ hi
  have hz := hok.zeroValue w
  rw [ht] at hz
  unfold execOp
  rw [ho]
  simp [hA.ev hx, hA.ev hy, hz, scase]
theorem run_sel_recv (hT : TabOk P tb) (hA : Has a n e) (ho : o.op = .select #[⟨x, none, T⟩] false) (hx : ev e x = some (.chan (some c))) (hi : lkT tb T = some ti) :
    (execOp a.eval o).run P w = .ok (.comm #[rcase c ti.zero] false .select) w := by
  obtain ⟨ht, hok⟩ := hT.at_ hi
  have hz := hok.zeroValue w
  rw [ht] at hz
  unfold execOp
  rw [ho]
  simp [hA.ev hx, hz, rcase]
theorem run_send (hA : Has a n e) (ho : o.op = .send x y) (hx : ev e x = some (.chan (some c))) (hy : ev e y = some v) :
    (execOp a.eval o).run P w = .ok (.comm #[scase c v (.tuple #[])] true .send) w := by
  unfold execOp
  rw [ho]
  simp [hA.ev hx, hA.ev hy, scase]
theorem cm_sel_send (hT : TabOk P tb) (hA : Has a n e) (hS : St w0 w ([(c, .chan cap buf false s r false)] :: L)) (ho : ops[i]? = some o) (hop : o.op = .select #[⟨x, some y, T⟩] false) (hx : ev e x = some (.chan (some c))) (hy : ev e y = some v) (hi : lkT tb T = some ti)
    (hroom : buf.size < cap) (hw : wantE ops e o.guard = some true) (hd : o.dst = some d) (hdn : d < n)
    (k : ∀ w' a', St w0 w' ([(c, .chan cap (buf.push v) false (s + 1) r false)] :: L) → Has a' n ((d, .tuple #[.int .i64 0, .bool false]) :: e) → CW P ops Q rest a' w') : CW P ops Q (i :: rest) a w := by
  intro b kk cs hb
  have hc := hS.heapAt 0 rfl
  obtain ⟨e', a', w'', hq, harr⟩ := k _ _ (hS.upd (upd_chan hc)) (hA.put hdn _) b kk cs hb
  refine ⟨e', a', w'', hq, .of_steps (.one ?_) harr⟩
  have hfin : (b.at a (.inRegion ops (i :: rest) :: kk)).finish (.tuple #[goInt 0, .bool false]) = b.at (a.put (some d) (.tuple #[.int .i64 0, .bool false])) (.inRegion ops rest :: kk) := by rw [Frame.finish_at, ho, ← hd]; rfl
  rw [← hfin]
  exact step_lone_select_send_room (stepG_comm ho (hA.want hw) (by rw [hb]; decide) (run_sel_send hT hA hop hx hy hi)) hc hroom
theorem cm_sel_full (hT : TabOk P tb) (hA : Has a n e) (hS : St w0 w ([(c, .chan cap buf false s r false)] :: L)) (ho : ops[i]? = some o) (hop : o.op = .select #[⟨x, some y, T⟩] false) (hx : ev e x = some (.chan (some c))) (hy : ev e y = some v) (hi : lkT tb T = some ti)
    (hfull : cap ≤ buf.size) (hw : wantE ops e o.guard = some true) (hd : o.dst = some d) (hdn : d < n)
    (k : ∀ a', Has a' n ((d, .tuple #[.int .i64 (-1), .bool false]) :: e) → CW P ops Q rest a' w) : CW P ops Q (i :: rest) a w := by
  intro b kk cs hb
  have hc := hS.heapAt 0 rfl
  obtain ⟨e', a', w'', hq, harr⟩ := k _ (hA.put hdn _) b kk cs hb
  refine ⟨e', a', w'', hq, .of_steps (.one ?_) harr⟩
  have hfin : (b.at a (.inRegion ops (i :: rest) :: kk)).finish (.tuple #[goInt (-1), .bool false]) = b.at (a.put (some d) (.tuple #[.int .i64 (-1), .bool false])) (.inRegion ops rest :: kk) := by rw [Frame.finish_at, ho, ← hd]; rfl
  rw [← hfin]
  exact step_lone_select_send_full (stepG_comm ho (hA.want hw) (by rw [hb]; decide) (run_sel_send hT hA hop hx hy hi)) hc hfull
theorem cm_sel_recv {vs : List Value} (hT : TabOk P tb) (hA : Has a n e) (hS : St w0 w ([(c, .chan cap (v :: vs).toArray false s r false)] :: L)) (ho : ops[i]? = some o) (hop : o.op = .select #[⟨x, none, T⟩] false) (hx : ev e x = some (.chan (some c))) (hi : lkT tb T = some ti)
    (hw : wantE ops e o.guard = some true) (hd : o.dst = some d) (hdn : d < n)
    (k : ∀ w' a', St w0 w' ([(c, .chan cap vs.toArray false s (r + 1) false)] :: L) → Has a' n ((d, .tuple #[.int .i64 0, .bool true, v]) :: e) → CW P ops Q rest a' w') : CW P ops Q (i :: rest) a w := by
  intro b kk cs hb
  have hc := hS.heapAt 0 rfl
  have ev1 : (v :: vs).toArray.extract 1 (v :: vs).toArray.size = vs.toArray := by simp
  have ev2 : (v :: vs).toArray.getD 0 undef = v := by simp
  have hS2 := hS.upd (upd_chan (cap' := cap) (buf' := (v :: vs).toArray.extract 1 (v :: vs).toArray.size) (cl' := false) (s' := s) (r' := r + 1) (tm' := false) hc)
  rw [ev1] at hS2
  obtain ⟨e', a', w'', hq, harr⟩ := k _ _ hS2 (hA.put hdn _) b kk cs hb
  refine ⟨e', a', w'', hq, .of_steps (.one ?_) harr⟩
  have hfin : (b.at a (.inRegion ops (i :: rest) :: kk)).finish (.tuple #[goInt 0, .bool true, (v :: vs).toArray.getD 0 undef]) = b.at (a.put (some d) (.tuple #[.int .i64 0, .bool true, v])) (.inRegion ops rest :: kk) := by rw [Frame.finish_at, ho, ← hd, ev2]; rfl
  rw [← hfin]
  have := step_lone_select_recv_buf (fr := b.at a (.inRegion ops (i :: rest) :: kk)) (cs := cs) (stepG_comm ho (hA.want hw) (by rw [hb]; decide) (run_sel_recv hT hA hop hx hi)) hc (by simp)
  rw [ev1] at this
  exact this
theorem cm_sel_none (hT : TabOk P tb) (hA : Has a n e) (hS : St w0 w ([(c, .chan cap #[] false s r false)] :: L)) (ho : ops[i]? = some o) (hop : o.op = .select #[⟨x, none, T⟩] false) (hx : ev e x = some (.chan (some c))) (hi : lkT tb T = some ti)
    (hw : wantE ops e o.guard = some true) (hd : o.dst = some d) (hdn : d < n)
    (k : ∀ a', Has a' n ((d, .tuple #[.int .i64 (-1), .bool false, ti.zero]) :: e) → CW P ops Q rest a' w) : CW P ops Q (i :: rest) a w := by
  intro b kk cs hb
  have hc := hS.heapAt 0 rfl
  obtain ⟨e', a', w'', hq, harr⟩ := k _ (hA.put hdn _) b kk cs hb
  refine ⟨e', a', w'', hq, .of_steps (.one ?_) harr⟩
  have hfin : (b.at a (.inRegion ops (i :: rest) :: kk)).finish (.tuple #[goInt (-1), .bool false, ti.zero]) = b.at (a.put (some d) (.tuple #[.int .i64 (-1), .bool false, ti.zero])) (.inRegion ops rest :: kk) := by rw [Frame.finish_at, ho, ← hd]; rfl
  rw [← hfin]
  exact step_lone_select_default (stepG_comm ho (hA.want hw) (by rw [hb]; decide) (run_sel_recv hT hA hop hx hi)) hc
theorem cm_send (hA : Has a n e) (hS : St w0 w ([(c, .chan cap buf false s r false)] :: L)) (ho : ops[i]? = some o) (hop : o.op = .send x y) (hx : ev e x = some (.chan (some c))) (hy : ev e y = some v)
    (hroom : buf.size < cap) (hw : wantE ops e o.guard = some true) (hd : o.dst = none)
    (k : ∀ w', St w0 w' ([(c, .chan cap (buf.push v) false (s + 1) r false)] :: L) → CW P ops Q rest a w') : CW P ops Q (i :: rest) a w := by
  intro b kk cs hb
  have hc := hS.heapAt 0 rfl
  obtain ⟨e', a', w'', hq, harr⟩ := k _ (hS.upd (upd_chan hc)) b kk cs hb
  refine ⟨e', a', w'', hq, .of_steps (.one ?_) harr⟩
  have hfin : (b.at a (.inRegion ops (i :: rest) :: kk)).finish undef = b.at a (.inRegion ops rest :: kk) := by rw [Frame.finish_at, ho]; show b.at (a.put o.dst undef) _ = _; rw [hd]; rfl
  rw [← hfin]
  exact step_lone_send_room (stepG_comm ho (hA.want hw) (by rw [hb]; decide) (run_send hA hop hx hy)) hc hroom
/-- make(chan E, m) -/
theorem st_makeChan {l : List Oper} {E : Nat} {dir : ChanDir} {ti tj : TI} {k0 : IntKind} (hT : TabOk P tb) (hA : Has a n e) (hS : St w0 w L) (m : Nat) (ho : o.op = .makeChan T x) (hi : lkT tb T = some ti) (hE : ti.desc = .chan dir E) (hj : lkT tb E = some tj) (hx : ev e x = some (.int k0 ((m : Nat) : Int)))
    (hb : (tj.bytes : Int) * m ≤ 281474976710544) (hm : (m : Int) ≤ 9223372036854775807) (hw : wantE ops e o.guard = some true) (hd : o.dst = some d) (hdn : d < n)
    (k : ∀ b w' a', St w0 w' ([(b, .chan m #[] false 0 0 false)] :: L) → Has a' n ((d, .chan (some b)) :: e) → wpList P ops Q l a' w') : wpList P ops Q (o :: l) a w := by
  obtain ⟨ht, hok⟩ := hT.at_ hi
  obtain ⟨htj, hokj⟩ := hT.at_ hj
  have h1 := hok.1
  rw [ht, hE] at h1
  obtain ⟨_, xj, hxj, g1, g2, g3⟩ := hokj
  rw [htj] at hxj
  refine st_val hA hw hd hdn (v := .chan (some w.heap.size)) (w' := w.alloc (.chan m #[] false 0 0 false)) ?_ (fun a' h => k _ _ a' (hS.alloc _) h)
  unfold execOp
  rw [ho]
  have h9 := run_makeChan (P := P) (w := w) h1 hxj k0 m hm (by rw [g2]; exact hb)
  simp only [hA.ev hx]
  simp [h9]
/-- len(ch) -/
theorem rn_lenchan {E : Nat} {dir : ChanDir} {ti : TI} (hT : TabOk P tb) (hA : Has a n e) (ho : o.op = .call ⟨.builtin .len, #[x], #[T]⟩) (hi : lkT tb T = some ti) (hE : ti.desc = .chan dir E) (hx : ev e x = some (.chan (some c))) (hc : w.heap[c]? = some (.chan cap buf false s r false)) :
    (execOp a.eval o).run P w = .ok (.value (.int .i64 ((buf.size : Nat) : Int))) w := by
  obtain ⟨ht, hok⟩ := hT.at_ hi
  have h1 := hok.1
  rw [ht, hE] at h1
  have h9 := run_len_chan (P := P) (w := w) T o.type h1 hc
  unfold execOp
  rw [ho]
  simp [resolve, invoke, builtin, hA.ev hx, h9]; rfl
end
end Go.SK
