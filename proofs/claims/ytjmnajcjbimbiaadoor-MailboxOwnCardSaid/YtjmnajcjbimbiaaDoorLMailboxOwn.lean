/- MailboxOwn: the tied card: for every input the law answers true, and each argument reads as before. -/
import Derived.Test.YtjmnajcjbimbiaaDoorCards
import Derived.Test.YtjmnajcjbimbiaaDoorTie
import Derived.Test.YtjmnajcjbimbiaaDoorSK15
import Derived.Test.YtjmnajcjbimbiaaDoorK
import Derived.Deep.DeepHandedRow
import Derived.ChangeSame
import Derived.ChangeVars
import Derived.LaidLaws
import Derived.LaidHandle
import Derived.Stop.Joined
import Derived.SevenTiedAt
import Derived.RowKitTokens
namespace Go.Proofs.YtjmnajcjbimbiaaDoor.mailboxOwn
open Go Go.SK Go.ChangeShapes Go.WideShapes Go.ChangeAt Go.RowKit
set_option linter.unusedVariables false
theorem own : ownKnob Tryd.prog.godebug = none := by kernel_rfl
theorem laidOut : laidOutB Tryd.prog = true := by kernel_rfl
theorem et : Tryd.prog.globalNamed "errors.errorType" = some 0 := by kernel_rfl
theorem rt : (Tryd.prog.cutTypes.find? (·.1 == "internal/reflectlite.rtype")).map (·.2) = some 76 := by kernel_rfl
theorem oneRow : ((List.range 117).filter fun t => Tryd.prog.rowNamed t [101, 114, 114, 111, 114]) = [29] := by kernel_rfl
theorem size : Tryd.prog.types.size = 117 := by kernel_rfl
theorem handle_of_laid (W : World) (h : laidMetH Tryd.prog Rows.mailboxOwnRow.laid W) : HG W := by
  have h' : laidMet Tryd.prog [] W ∧ handlesMet Tryd.prog Rows.mailboxOwnRow.laid W := h
  obtain ⟨name, u, ty, e1, e2, e3, e4, e5⟩ := h'.2 _ (List.mem_singleton.2 rfl)
  have en : name = [101, 114, 114, 111, 114] := (Option.some.inj e1).symm
  subst en
  obtain rfl := Option.some.inj (rt.symm.trans e2)
  have hm : ty ∈ (List.range 117).filter fun t => Tryd.prog.rowNamed t [101, 114, 114, 111, 114] := List.mem_filter.2 ⟨List.mem_range.2 (by rw [← size]; exact e3), e4⟩
  rw [oneRow] at hm
  obtain rfl := List.mem_singleton.1 hm
  have hh : typeHandle Tryd.prog 29 = .pointer (some ⟨1, 29, none⟩) := by kernel_rfl
  rw [hh] at e5
  simpa [HG] using World.var?_cell et e5 0
noncomputable def laidWorld (os : Os) : World :=
  { World.holding Tryd.prog os ⟨#[], #[], []⟩ with heap := (World.holding Tryd.prog os ⟨#[], #[], []⟩).heap.modify 0 fun
      | .cells _ t frozen => .cells #[.iface 76 (.agg #[.pointer (some ⟨1, 29, none⟩)])] t frozen
      | o => o }
theorem laid_met (os : Os) (args : Array Value) : laidMetH Tryd.prog Rows.mailboxOwnRow.laid ((laidWorld os).forCall (fun _ _ => 0) ⟨#[], args, []⟩).memory :=
  laidMetH_of_parts (laidMet_nil _ _) (by kernel_rfl)
set_option maxRecDepth 100000 in
theorem contract (H : Type) (enc : TypeId × Value → H) (W : World) (base : Nat) (args : Array Value) (ds gs : List (DataW H)) (before : List MemPlace)
    (hval : ∀ (j : Nat) t v, Tryd.f5.params[j]? = some t → args[j]? = some v → Value.okWide Tryd.prog W .any base t v)
    (hW : DataW.Whole enc Tryd.prog Tryd.f5.params.toList Rows.mailboxOwnSpec.vars false W args.toList ds gs before)
    (hsz : (DataW.weightsEach Tryd.prog (Tryd.f5.params.toList ++ Rows.mailboxOwnSpec.plain.varTypes Tryd.prog) (ds ++ gs)).all (· ≤ reachBytes) = true) (hg : HG W) :
    Calls Tryd.prog 5 args W fun e W' => ∃ v, e = .returned v ∧ Rows.mailboxOwnSpec.post enc Tryd.prog Tryd.f5 false true false false W args v W' := by
  have hW' := hW
  obtain ⟨p, q, hA0, hV, rfl, hfz, hnd⟩ := hW
  have hA : DataW.TrodAll enc Tryd.prog W 0 (fun _ => true) true Tryd.f5.params.toList args.toList ds p := hA0
  rw [Tryd.params5] at hA hval hsz
  obtain ⟨v0, vs0, d0, ds0, p0, q0, hargs, rfl, rfl, h0, r0⟩ := trodAll_cons hA
  obtain ⟨v1, vs1, d1, ds1, p1, q1, rfl, rfl, rfl, h1, r1⟩ := trodAll_cons r0
  obtain ⟨v2, vs2, d2, ds2, p2, q2, rfl, rfl, rfl, h2, r2⟩ := trodAll_cons r1
  obtain ⟨rfl, rfl, rfl⟩ := trodAll_nil r2
  obtain rfl : args = #[v0, v1, v2] := by cases args; simp_all
  obtain ⟨rfl, rfl⟩ := trodVars_none hV
  have k0 := h0
  obtain ⟨l0, hr0, hw0, hn0⟩ := open_rows encB_ok (by decide) Tryd.underlying35 (by kernel_rfl) (hval 0 35 v0 rfl rfl) (dec_u8 Tryd.underlying5) h0
  have hb0 : l0.length * 1 ≤ 140737488351232 := sized_rows hsz (j := 0) rfl rfl Tryd.underlying35 (by kernel_rfl) hn0
  have k1 := h1
  obtain ⟨a1, rfl, rfl, rfl, hw1⟩ := open_int Tryd.underlying5 (hval 1 5 v1 rfl rfl) h1
  have k2 := h2
  obtain ⟨a2, rfl, rfl, rfl⟩ := open_bool Tryd.underlying4 (hval 2 4 v2 rfl rfl) h2
  clear hA0 hsz
  refine Calls.mono (own5 (St.refl W) hg (RdS.of hr0) hb0 a1 a2) fun e W' ⟨v, hev, hvt, hS⟩ => ?_
  subst hev; subst hvt
  have bel := hS.below_
  exact ⟨_, rfl, _, _, _, [], _, [], hW', trodAll_mk1 (shut_bool Tryd.underlying4 _), (trodAll_cons_mk (trod_back laidOut (by kernel_rfl) (of_decide_eq_true (by kernel_rfl)) k0 bel) (trodAll_cons_mk (trod_back laidOut (by kernel_rfl) (of_decide_eq_true (by kernel_rfl)) k1 bel) (trodAll_cons_mk (trod_back laidOut (by kernel_rfl) (of_decide_eq_true (by kernel_rfl)) k2 bel) trodAll_mk0))), rfl, bel.frame _, fun h => by cases h⟩
theorem reads (os : Os) {H : Type} (enc : TypeId × Value → H) : ∃ ds places, DataW.whole enc Tryd.prog ((laidWorld os).forCall (fun _ _ => 0) ⟨#[], #[.slice none 0 0, .int .u8 0, .bool false], []⟩).memory Tryd.f5.params.toList Rows.mailboxOwnSpec.vars false (#[.slice none 0 0, .int .u8 0, .bool false] : Array Value).toList 8 = some (ds, [], places) ∧ ds = [.nil, .lit (.int .u8 0), .lit (.bool false)] :=
  ⟨_, [], by kernel_rfl, rfl⟩
set_option maxRecDepth 100000 in
theorem lifted (os : Os) (started : os.Started) (H : Type) (enc : TypeId × Value → H) (F : Stop.Interp) :
    ReturnsInHanded {} Tryd.checked os 5 .any ((OpenSpec.ofChange Rows.mailboxOwnSpec).preRow enc Tryd.prog Tryd.f5 Rows.mailboxOwnRow.domain false Rows.mailboxOwnRow.laid) (((OpenSpec.ofChange Rows.mailboxOwnSpec).at F).post enc Tryd.prog Tryd.f5 false true false false) := by
  obtain ⟨ds0, places, hx, hds⟩ := reads os enc
  subst hds
  refine returnsInHanded_of_row (C := Tryd.checked) (s := (OpenSpec.ofChange Rows.mailboxOwnSpec)) own started (by kernel_rfl) Tryd.func5
    (witness_row_at (enc := enc) (C := Tryd.checked) false (laidWorld os) #[.slice none 0 0, .int .u8 0, .bool false] rfl (by kernel_rfl) (by kernel_rfl) (by kernel_rfl)
      (OpenSpec.preRow_of_cond 8 hx (by kernel_rfl) (fun k hk => by cases hk) (by kernel_rfl) (laid_met os _))) ?_
  intro W base args ds gs before hval hW _ hcond hsz hL _ _
  exact contract H enc W base args ds gs before hval hW hsz (handle_of_laid W hL)
theorem said : Rows.MailboxOwnSaid :=
  OpenClaim.holds_of_cond 5 Tryd.f5 rfl rfl rfl rfl rfl rfl rfl ⟨rfl, rfl, rfl, rfl, rfl⟩ rfl rfl rfl rfl rfl (by kernel_rfl) Tryd.func5 (by kernel_rfl)
    (of_decide_eq_true (by kernel_rfl)) (by unfold Func.isWrapper; first | (rw [if_pos (by decide +kernel)]; kernel_rfl) | (rw [if_neg (by decide +kernel)]; exact ⟨rfl, rfl⟩))
    (fun os started H enc _ F => by rw [OpenClaim.pre_eq_preRow]; exact lifted os started H enc F)
theorem noStand (f : FuncId) (fn : Func) (hf : Tryd.pinned.checked.prog.funcNamed "sigillum/sigillumlaw19.MailboxOwn" = some f) (hfn : Tryd.pinned.checked.prog.funcs[f]? = some fn) :
    true = Tryd.pinned.checked.prog.looks [] ∧ ∀ (j : Nat) t, fn.params[j]? = some t → Tryd.pinned.checked.prog.wantsStandIn t = false := by
  obtain rfl : f = 5 := Option.some.inj ((show Tryd.prog.funcNamed "sigillum/sigillumlaw19.MailboxOwn" = some 5 by kernel_rfl).symm.trans hf) |>.symm
  obtain rfl : fn = Tryd.f5 := (Option.some.inj (Tryd.func5.symm.trans hfn)).symm
  refine ⟨by kernel_rfl, fun j t ht => ?_⟩
  rw [Tryd.params5] at ht
  have hm := Array.mem_of_getElem? ht
  have ht2 : t = 35 ∨ t = 5 ∨ t = 4 := by simpa using hm
  rcases ht2 with rfl | rfl | rfl
  · exact (show Tryd.prog.wantsStandIn 35 = false by kernel_rfl)
  · exact (show Tryd.prog.wantsStandIn 5 = false by kernel_rfl)
  · exact (show Tryd.prog.wantsStandIn 4 = false by kernel_rfl)
theorem card : Rows.MailboxOwnCardSaid :=
  Claim7.holds_tied_plain_at .later [] _ _ _ _ said (fun _ h => by cases h) (by kernel_rfl) (fun _ h => by cases h) mailboxOwn_row_tie rfl ⟨rfl, rfl⟩ (by kernel_rfl) rfl noStand (by kernel_rfl)
end Go.Proofs.YtjmnajcjbimbiaaDoor.mailboxOwn
namespace Go.Proofs.YtjmnajcjbimbiaaDoor
theorem mailboxOwn_card : Rows.MailboxOwnCardSaid := mailboxOwn.card
#print axioms mailboxOwn_card
end Go.Proofs.YtjmnajcjbimbiaaDoor
