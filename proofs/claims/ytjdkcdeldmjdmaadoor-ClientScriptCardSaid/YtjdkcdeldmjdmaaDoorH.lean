import Derived.Test.YtjdkcdeldmjdmaaDoorG
set_option linter.unusedVariables false
set_option linter.unusedSimpArgs false
set_option maxRecDepth 4000
namespace Go.Proofs.YtjdkcdeldmjdmaaDoor
open Go Go.SK
theorem awake7 {w0 w : World} {F : List Chunk} (hS : St w0 w F) (hg : HG w0) :
    Ret Tryd.prog 7 #[] w (fun v w' => v = .bool true ∧ St w0 w' F) := by
  refine enter (vs := []) 75 Tryd.func7 rfl rfl (by simp) ?_; intro a hA
  refine wp_seq ?_
  refine wp_region_lit ?_
  refine st_run tbOk 1 hA (e' := (0, .bool false) :: _) rfl ?_; clear hA; intro a hA
  refine wpList_nil ?_
  replace hA := hA.sel [] (e' := []) rfl
  refine xt_norm ?_
  refine wp_seq ?_
  refine wp_region_lit ?_
  refine st_call0 hA rfl rfl rfl isfn8 rfl rfl (by decide) (cof8 hS 7 2 2) ?_
  clear hA hS; rintro _ w4 a ⟨b1, L2, hM3, rfl, hS⟩ hA
  have hM5 : CR b1 7 2 2 [] L2 := by first | exact hM3 | simpa using hM3
  replace hS := hS.nil
  refine st_run tbOk 1 hA (e' := (1, .pointer (some ⟨b1, 0, none⟩)) :: _) rfl ?_; clear hA; intro a hA
  refine wpList_nil ?_
  replace hA := hA.sel [1] (e' := [(1, .pointer (some ⟨b1, 0, none⟩))]) rfl
  refine xt_norm ?_
  refine wp_seq ?_
  refine wp_seq ?_
  refine wp_region_lit ?_
  refine st_run tbOk 2 hA (e' := (13, .bool false) :: (12, .pointer (some ⟨b1, 0, none⟩)) :: _) rfl ?_; clear hA; intro a hA
  refine wpList_nil ?_
  replace hA := hA.sel [1, 13] (e' := [(1, .pointer (some ⟨b1, 0, none⟩)), (13, .bool false)]) rfl
  refine xt_norm ?_
  refine cd_cond_f hA rfl ?_
  refine wp_skip ?_
  refine xt_norm ?_
  refine wp_seq ?_
  refine wp_region_lit ?_
  refine st_run tbOk 1 hA (e' := (15, .pointer (some ⟨b1, 0, none⟩)) :: _) rfl ?_; clear hA; intro a hA
  refine st_val hA rfl rfl (by decide) (rn_build tbOk hA rfl rfl rfl rfl rfl rfl rfl) ?_; clear hA; intro a hA
  replace hS := hS.front 1 (C := L2) (L' := [] :: F) rfl rfl
  refine st_call0 hA rfl rfl rfl isfn9 rfl rfl (by decide) (start_ok9 hS hM5 3 0 0 0 0 0 0 0 0 0 (bs := ([] : List UInt8)) RdSX.nil (by first | omega | exact Nat.zero_le _) (Nat.le_of_ble_eq_true rfl)) ?_
  clear hA hS; rintro _ w6 a ⟨L7, E9, A10, c11, A12, c13, hM8, hE14, hE15, rfl, hS⟩ hA
  replace hM8 : CR b1 7 2 2 [(3, 7, 1, 0, 0, 0, 0, 0, 0, 0, A10, c11, ([] : List UInt8), 1, 1, 2, 0, 0, 0, 0, 0, 0, 0, 0, 0, 0, none, 0, ([] : List UInt8))] L7 := hM8
  have dd16 : ∀ x ∈ ([(3, 7, 1, 0, 0, 0, 0, 0, 0, 0, A10, c11, ([] : List UInt8), 1, 1, 2, 0, 0, 0, 0, 0, 0, 0, 0, 0, 0, none, 0, ([] : List UInt8))]), encCall_dd w0 (E9 ++ []) x := one_of ⟨hE14.right, DD.nil⟩
  have sz17 : ∀ x ∈ ([(3, 7, 1, 0, 0, 0, 0, 0, 0, 0, A10, c11, ([] : List UInt8), 1, 1, 2, 0, 0, 0, 0, 0, 0, 0, 0, 0, 0, none, 0, ([] : List UInt8))]), csz x := one_of ⟨(by show (([] : List UInt8)).length ≤ 140737488351232; first | omega | exact Nat.zero_le _), (Nat.zero_le _)⟩
  replace hA := hA.rw 17 (v' := .tuple #[.agg #[.int .u64 3, .int .u64 7, .int .u32 1, .int .u16 0, .int .u16 0, .int .u64 0, .int .u32 0, .int .u8 0, .int .u64 0, .int .u64 0, .slice A12 (([] : List UInt8).length) c13], .nilIface]) rfl (by rfl)
  refine st_run tbOk 3 hA (e' := (19, .nilIface) :: (18, .agg #[.int .u64 3, .int .u64 7, .int .u32 1, .int .u16 0, .int .u16 0, .int .u64 0, .int .u32 0, .int .u8 0, .int .u64 0, .int .u64 0, .slice A12 (([] : List UInt8).length) c13]) :: (14, .tuple #[.agg #[.int .u64 3, .int .u64 7, .int .u32 1, .int .u16 0, .int .u16 0, .int .u64 0, .int .u32 0, .int .u8 0, .int .u64 0, .int .u64 0, .slice A12 (([] : List UInt8).length) c13], .nilIface]) :: _) rfl ?_; clear hA; intro a hA
  refine st_alloc tbOk hA hS [.int .u64 0, .int .u64 0, .int .u32 0, .int .u16 0, .int .u16 0, .int .u64 0, .int .u32 0, .int .u8 0, .int .u64 0, .int .u64 0, .slice none 0 0] rfl rfl rfl rfl rfl (by decide) ?_; clear hA hS; intro b18 w19 a hS hA
  refine st_store tbOk hA hS [.int .u64 3, .int .u64 7, .int .u32 1, .int .u16 0, .int .u16 0, .int .u64 0, .int .u32 0, .int .u8 0, .int .u64 0, .int .u64 0, .slice A12 (([] : List UInt8).length) c13] [.int .u64 3, .int .u64 7, .int .u32 1, .int .u16 0, .int .u16 0, .int .u64 0, .int .u32 0, .int .u8 0, .int .u64 0, .int .u64 0, .slice A12 (([] : List UInt8).length) c13] rfl rfl rfl rfl rfl rfl (by simp [Value.oneCell']) (Nat.le_of_ble_eq_true rfl) rfl rfl rfl ?_; clear hS; intro w20 hS
  refine st_run tbOk 1 hA (e' := (3, .nilIface) :: _) rfl ?_; clear hA; intro a hA
  refine wpList_nil ?_
  replace hA := hA.sel [1, 2, 3] (e' := [(1, .pointer (some ⟨b1, 0, none⟩)), (2, .pointer (some ⟨b18, 0, none⟩)), (3, .nilIface)]) rfl
  refine xt_norm ?_
  refine wp_seq ?_
  refine wp_region_lit ?_
  refine st_run tbOk 1 hA (e' := (20, .pointer (some ⟨b1, 0, none⟩)) :: _) rfl ?_; clear hA; intro a hA
  replace hS := hS.front 2 (C := (E9 ++ [])) (L' := [(b18, rowO [.int .u64 3, .int .u64 7, .int .u32 1, .int .u16 0, .int .u16 0, .int .u64 0, .int .u32 0, .int .u8 0, .int .u64 0, .int .u64 0, .slice A12 (([] : List UInt8).length) c13] 32)] :: L7 :: F) rfl rfl
  replace hS := hS.front 2 (C := L7) (L' := (E9 ++ []) :: [(b18, rowO [.int .u64 3, .int .u64 7, .int .u32 1, .int .u16 0, .int .u16 0, .int .u64 0, .int .u32 0, .int .u8 0, .int .u64 0, .int .u64 0, .slice A12 (([] : List UInt8).length) c13] 32)] :: F) rfl rfl
  refine st_call0 hA rfl rfl rfl isfn10 rfl rfl (by decide) (ctick10 hS hM8 dd16 sz17 (one_of (fun _ => ⟨⟨(show (1 : Int) ≤ 2 by decide), (show (2 : Int) ≤ 1000 by decide)⟩, (show (1 : Int) ≤ 1 by decide), (show (1 : Int) ≤ 1000 by decide)⟩)) (by first | omega | exact Nat.le_of_ble_eq_true rfl) (by first | decide | omega) (by first | decide | omega)) ?_
  clear hA hS; rintro _ w21 a ⟨L22, D23, out24, A25, c26, C27, hM28, hU29, hum30, hud31, hdx32, rfl, hS⟩ hA
  have dd33 : ∀ x ∈ (([(3, 7, 1, 0, 0, 0, 0, 0, 0, 0, A10, c11, ([] : List UInt8), 1, 1, 2, 0, 0, 0, 0, 0, 0, 0, 0, 0, 0, none, 0, ([] : List UInt8))]).map (tick1 2 2)), encCall_dd w0 D23 x := tick_dd (hdx32.calls dd16)
  have sz34 : ∀ x ∈ (([(3, 7, 1, 0, 0, 0, 0, 0, 0, 0, A10, c11, ([] : List UInt8), 1, 1, 2, 0, 0, 0, 0, 0, 0, 0, 0, 0, 0, none, 0, ([] : List UInt8))]).map (tick1 2 2)), csz x := tick_sz sz17
  have et35 : tick1 2 2 (3, 7, 1, 0, 0, 0, 0, 0, 0, 0, A10, c11, ([] : List UInt8), 1, 1, 2, 0, 0, 0, 0, 0, 0, 0, 0, 0, 0, none, 0, ([] : List UInt8)) = (3, 7, 1, 0, 0, 0, 0, 0, 0, 0, A10, c11, ([] : List UInt8), 1, 1, 1, 0, 0, 0, 0, 0, 0, 0, 0, 0, 0, none, 0, ([] : List UInt8)) := tick_a (x := (3, 7, 1, 0, 0, 0, 0, 0, 0, 0, A10, c11, ([] : List UInt8), 1, 1, 2, 0, 0, 0, 0, 0, 0, 0, 0, 0, 0, none, 0, ([] : List UInt8))) rfl (show (2 : Int) - 1 > 0 by decide)
  have ea36 : again1 2 (3, 7, 1, 0, 0, 0, 0, 0, 0, 0, A10, c11, ([] : List UInt8), 1, 1, 2, 0, 0, 0, 0, 0, 0, 0, 0, 0, 0, none, 0, ([] : List UInt8)) = false := ag_n (fun h => h.2.1 (show (2 : Int) - 1 > 0 by decide))
  have hol40 : out24.length = 0 := by
      have h := congrArg List.length hum30
      simp only [List.length_map, List.filter, ea36, List.length_cons, List.length_nil] at h
      exact h
  have hM37 : CR b1 7 2 2 [(3, 7, 1, 0, 0, 0, 0, 0, 0, 0, A10, c11, ([] : List UInt8), 1, 1, 1, 0, 0, 0, 0, 0, 0, 0, 0, 0, 0, none, 0, ([] : List UInt8))] L22 := by
      have h := hM28
      rw [List.map_cons, List.map_nil, et35] at h
      exact h
  have dd38 : ∀ x ∈ [(3, 7, 1, 0, 0, 0, 0, 0, 0, 0, A10, c11, ([] : List UInt8), 1, 1, 1, 0, 0, 0, 0, 0, 0, 0, 0, 0, 0, none, 0, ([] : List UInt8))], encCall_dd w0 D23 x := by
      have h := dd33
      rw [List.map_cons, List.map_nil, et35] at h
      exact h
  have sz39 : ∀ x ∈ [(3, 7, 1, 0, 0, 0, 0, 0, 0, 0, A10, c11, ([] : List UInt8), 1, 1, 1, 0, 0, 0, 0, 0, 0, 0, 0, 0, 0, none, 0, ([] : List UInt8))], csz x := by
      have h := sz34
      rw [List.map_cons, List.map_nil, et35] at h
      exact h
  refine st_run tbOk 1 hA (e' := (22, .int .i64 ((out24.length : Nat) : Int)) :: _) rfl ?_; clear hA; intro a hA
  replace hA := hA.rw 22 (v' := .int .i64 0) rfl (by rw [hol40]; rfl)
  refine st_run tbOk 1 hA (e' := (23, .pointer (some ⟨b1, 0, none⟩)) :: _) rfl ?_; clear hA; intro a hA
  replace hS := hS.front 2 (C := D23) (L' := C27 :: L22 :: [(b18, rowO [.int .u64 3, .int .u64 7, .int .u32 1, .int .u16 0, .int .u16 0, .int .u64 0, .int .u32 0, .int .u8 0, .int .u64 0, .int .u64 0, .slice A12 (([] : List UInt8).length) c13] 32)] :: F) rfl rfl
  replace hS := hS.front 2 (C := L22) (L' := D23 :: C27 :: [(b18, rowO [.int .u64 3, .int .u64 7, .int .u32 1, .int .u16 0, .int .u16 0, .int .u64 0, .int .u32 0, .int .u8 0, .int .u64 0, .int .u64 0, .slice A12 (([] : List UInt8).length) c13] 32)] :: F) rfl rfl
  refine st_call0 hA rfl rfl rfl isfn10 rfl rfl (by decide) (ctick10 hS hM37 dd38 sz39 (one_of (fun _ => ⟨⟨(show (1 : Int) ≤ 1 by decide), (show (1 : Int) ≤ 1000 by decide)⟩, (show (1 : Int) ≤ 1 by decide), (show (1 : Int) ≤ 1000 by decide)⟩)) (by first | omega | exact Nat.le_of_ble_eq_true rfl) (by first | decide | omega) (by first | decide | omega)) ?_
  clear hA hS; rintro _ w41 a ⟨L42, D43, out44, A45, c46, C47, hM48, hU49, hum50, hud51, hdx52, rfl, hS⟩ hA
  have dd53 : ∀ x ∈ (([(3, 7, 1, 0, 0, 0, 0, 0, 0, 0, A10, c11, ([] : List UInt8), 1, 1, 1, 0, 0, 0, 0, 0, 0, 0, 0, 0, 0, none, 0, ([] : List UInt8))]).map (tick1 2 2)), encCall_dd w0 D43 x := tick_dd (hdx52.calls dd38)
  have sz54 : ∀ x ∈ (([(3, 7, 1, 0, 0, 0, 0, 0, 0, 0, A10, c11, ([] : List UInt8), 1, 1, 1, 0, 0, 0, 0, 0, 0, 0, 0, 0, 0, none, 0, ([] : List UInt8))]).map (tick1 2 2)), csz x := tick_sz sz39
  have et55 : tick1 2 2 (3, 7, 1, 0, 0, 0, 0, 0, 0, 0, A10, c11, ([] : List UInt8), 1, 1, 1, 0, 0, 0, 0, 0, 0, 0, 0, 0, 0, none, 0, ([] : List UInt8)) = (3, 7, 1, 0, 0, 0, 0, 0, 0, 0, A10, c11, ([] : List UInt8), 1, 2, 2, 0, 0, 0, 0, 0, 0, 0, 0, 0, 0, none, 0, ([] : List UInt8)) := tick_c (x := (3, 7, 1, 0, 0, 0, 0, 0, 0, 0, A10, c11, ([] : List UInt8), 1, 1, 1, 0, 0, 0, 0, 0, 0, 0, 0, 0, 0, none, 0, ([] : List UInt8))) rfl (show ¬ (1 : Int) - 1 > 0 by decide) (show ¬ (1 : Int) = 2 by decide)
  have ea56 : again1 2 (3, 7, 1, 0, 0, 0, 0, 0, 0, 0, A10, c11, ([] : List UInt8), 1, 1, 1, 0, 0, 0, 0, 0, 0, 0, 0, 0, 0, none, 0, ([] : List UInt8)) = true := ag_y rfl (show ¬ (1 : Int) - 1 > 0 by decide) (show ¬ (1 : Int) = 2 by decide)
  have hol60 : out44.length = 1 := by
      have h := congrArg List.length hum50
      simp only [List.length_map, List.filter, ea56, List.length_cons, List.length_nil] at h
      exact h
  have hM57 : CR b1 7 2 2 [(3, 7, 1, 0, 0, 0, 0, 0, 0, 0, A10, c11, ([] : List UInt8), 1, 2, 2, 0, 0, 0, 0, 0, 0, 0, 0, 0, 0, none, 0, ([] : List UInt8))] L42 := by
      have h := hM48
      rw [List.map_cons, List.map_nil, et55] at h
      exact h
  have dd58 : ∀ x ∈ [(3, 7, 1, 0, 0, 0, 0, 0, 0, 0, A10, c11, ([] : List UInt8), 1, 2, 2, 0, 0, 0, 0, 0, 0, 0, 0, 0, 0, none, 0, ([] : List UInt8))], encCall_dd w0 D43 x := by
      have h := dd53
      rw [List.map_cons, List.map_nil, et55] at h
      exact h
  have sz59 : ∀ x ∈ [(3, 7, 1, 0, 0, 0, 0, 0, 0, 0, A10, c11, ([] : List UInt8), 1, 2, 2, 0, 0, 0, 0, 0, 0, 0, 0, 0, 0, none, 0, ([] : List UInt8))], csz x := by
      have h := sz54
      rw [List.map_cons, List.map_nil, et55] at h
      exact h
  refine st_run tbOk 1 hA (e' := (25, .int .i64 ((out44.length : Nat) : Int)) :: _) rfl ?_; clear hA; intro a hA
  replace hA := hA.rw 25 (v' := .int .i64 1) rfl (by rw [hol60]; rfl)
  refine st_run tbOk 1 hA (e' := (26, .pointer (some ⟨b1, 0, none⟩)) :: _) rfl ?_; clear hA; intro a hA
  replace hS := hS.front 2 (C := D43) (L' := C47 :: L42 :: C27 :: [(b18, rowO [.int .u64 3, .int .u64 7, .int .u32 1, .int .u16 0, .int .u16 0, .int .u64 0, .int .u32 0, .int .u8 0, .int .u64 0, .int .u64 0, .slice A12 (([] : List UInt8).length) c13] 32)] :: F) rfl rfl
  replace hS := hS.front 2 (C := L42) (L' := D43 :: C47 :: C27 :: [(b18, rowO [.int .u64 3, .int .u64 7, .int .u32 1, .int .u16 0, .int .u16 0, .int .u64 0, .int .u32 0, .int .u8 0, .int .u64 0, .int .u64 0, .slice A12 (([] : List UInt8).length) c13] 32)] :: F) rfl rfl
  refine st_call0 hA rfl rfl rfl isfn10 rfl rfl (by decide) (ctick10 hS hM57 dd58 sz59 (one_of (fun _ => ⟨⟨(show (1 : Int) ≤ 2 by decide), (show (2 : Int) ≤ 1000 by decide)⟩, (show (1 : Int) ≤ 2 by decide), (show (2 : Int) ≤ 1000 by decide)⟩)) (by first | omega | exact Nat.le_of_ble_eq_true rfl) (by first | decide | omega) (by first | decide | omega)) ?_
  clear hA hS; rintro _ w61 a ⟨L62, D63, out64, A65, c66, C67, hM68, hU69, hum70, hud71, hdx72, rfl, hS⟩ hA
  have dd73 : ∀ x ∈ (([(3, 7, 1, 0, 0, 0, 0, 0, 0, 0, A10, c11, ([] : List UInt8), 1, 2, 2, 0, 0, 0, 0, 0, 0, 0, 0, 0, 0, none, 0, ([] : List UInt8))]).map (tick1 2 2)), encCall_dd w0 D63 x := tick_dd (hdx72.calls dd58)
  have sz74 : ∀ x ∈ (([(3, 7, 1, 0, 0, 0, 0, 0, 0, 0, A10, c11, ([] : List UInt8), 1, 2, 2, 0, 0, 0, 0, 0, 0, 0, 0, 0, 0, none, 0, ([] : List UInt8))]).map (tick1 2 2)), csz x := tick_sz sz59
  have et75 : tick1 2 2 (3, 7, 1, 0, 0, 0, 0, 0, 0, 0, A10, c11, ([] : List UInt8), 1, 2, 2, 0, 0, 0, 0, 0, 0, 0, 0, 0, 0, none, 0, ([] : List UInt8)) = (3, 7, 1, 0, 0, 0, 0, 0, 0, 0, A10, c11, ([] : List UInt8), 1, 2, 1, 0, 0, 0, 0, 0, 0, 0, 0, 0, 0, none, 0, ([] : List UInt8)) := tick_a (x := (3, 7, 1, 0, 0, 0, 0, 0, 0, 0, A10, c11, ([] : List UInt8), 1, 2, 2, 0, 0, 0, 0, 0, 0, 0, 0, 0, 0, none, 0, ([] : List UInt8))) rfl (show (2 : Int) - 1 > 0 by decide)
  have ea76 : again1 2 (3, 7, 1, 0, 0, 0, 0, 0, 0, 0, A10, c11, ([] : List UInt8), 1, 2, 2, 0, 0, 0, 0, 0, 0, 0, 0, 0, 0, none, 0, ([] : List UInt8)) = false := ag_n (fun h => h.2.1 (show (2 : Int) - 1 > 0 by decide))
  have hol80 : out64.length = 0 := by
      have h := congrArg List.length hum70
      simp only [List.length_map, List.filter, ea76, List.length_cons, List.length_nil] at h
      exact h
  have hM77 : CR b1 7 2 2 [(3, 7, 1, 0, 0, 0, 0, 0, 0, 0, A10, c11, ([] : List UInt8), 1, 2, 1, 0, 0, 0, 0, 0, 0, 0, 0, 0, 0, none, 0, ([] : List UInt8))] L62 := by
      have h := hM68
      rw [List.map_cons, List.map_nil, et75] at h
      exact h
  have dd78 : ∀ x ∈ [(3, 7, 1, 0, 0, 0, 0, 0, 0, 0, A10, c11, ([] : List UInt8), 1, 2, 1, 0, 0, 0, 0, 0, 0, 0, 0, 0, 0, none, 0, ([] : List UInt8))], encCall_dd w0 D63 x := by
      have h := dd73
      rw [List.map_cons, List.map_nil, et75] at h
      exact h
  have sz79 : ∀ x ∈ [(3, 7, 1, 0, 0, 0, 0, 0, 0, 0, A10, c11, ([] : List UInt8), 1, 2, 1, 0, 0, 0, 0, 0, 0, 0, 0, 0, 0, none, 0, ([] : List UInt8))], csz x := by
      have h := sz74
      rw [List.map_cons, List.map_nil, et75] at h
      exact h
  refine st_run tbOk 1 hA (e' := (28, .int .i64 ((out64.length : Nat) : Int)) :: _) rfl ?_; clear hA; intro a hA
  replace hA := hA.rw 28 (v' := .int .i64 0) rfl (by rw [hol80]; rfl)
  refine st_run tbOk 1 hA (e' := (29, .pointer (some ⟨b1, 0, none⟩)) :: _) rfl ?_; clear hA; intro a hA
  replace hS := hS.front 2 (C := D63) (L' := C67 :: L62 :: C47 :: C27 :: [(b18, rowO [.int .u64 3, .int .u64 7, .int .u32 1, .int .u16 0, .int .u16 0, .int .u64 0, .int .u32 0, .int .u8 0, .int .u64 0, .int .u64 0, .slice A12 (([] : List UInt8).length) c13] 32)] :: F) rfl rfl
  replace hS := hS.front 2 (C := L62) (L' := D63 :: C67 :: C47 :: C27 :: [(b18, rowO [.int .u64 3, .int .u64 7, .int .u32 1, .int .u16 0, .int .u16 0, .int .u64 0, .int .u32 0, .int .u8 0, .int .u64 0, .int .u64 0, .slice A12 (([] : List UInt8).length) c13] 32)] :: F) rfl rfl
  refine st_call0 hA rfl rfl rfl isfn10 rfl rfl (by decide) (ctick10 hS hM77 dd78 sz79 (one_of (fun _ => ⟨⟨(show (1 : Int) ≤ 1 by decide), (show (1 : Int) ≤ 1000 by decide)⟩, (show (1 : Int) ≤ 2 by decide), (show (2 : Int) ≤ 1000 by decide)⟩)) (by first | omega | exact Nat.le_of_ble_eq_true rfl) (by first | decide | omega) (by first | decide | omega)) ?_
  clear hA hS; rintro _ w81 a ⟨L82, D83, out84, A85, c86, C87, hM88, hU89, hum90, hud91, hdx92, rfl, hS⟩ hA
  have dd93 : ∀ x ∈ (([(3, 7, 1, 0, 0, 0, 0, 0, 0, 0, A10, c11, ([] : List UInt8), 1, 2, 1, 0, 0, 0, 0, 0, 0, 0, 0, 0, 0, none, 0, ([] : List UInt8))]).map (tick1 2 2)), encCall_dd w0 D83 x := tick_dd (hdx92.calls dd78)
  have sz94 : ∀ x ∈ (([(3, 7, 1, 0, 0, 0, 0, 0, 0, 0, A10, c11, ([] : List UInt8), 1, 2, 1, 0, 0, 0, 0, 0, 0, 0, 0, 0, 0, none, 0, ([] : List UInt8))]).map (tick1 2 2)), csz x := tick_sz sz79
  have et95 : tick1 2 2 (3, 7, 1, 0, 0, 0, 0, 0, 0, 0, A10, c11, ([] : List UInt8), 1, 2, 1, 0, 0, 0, 0, 0, 0, 0, 0, 0, 0, none, 0, ([] : List UInt8)) = (3, 7, 1, 0, 0, 0, 0, 0, 0, 0, A10, c11, ([] : List UInt8), 3, 2, 0, 0, 0, 0, 0, 0, 0, 0, 0, 0, 0, none, 0, ([] : List UInt8)) := tick_b (x := (3, 7, 1, 0, 0, 0, 0, 0, 0, 0, A10, c11, ([] : List UInt8), 1, 2, 1, 0, 0, 0, 0, 0, 0, 0, 0, 0, 0, none, 0, ([] : List UInt8))) rfl (show ¬ (1 : Int) - 1 > 0 by decide) rfl
  have ea96 : again1 2 (3, 7, 1, 0, 0, 0, 0, 0, 0, 0, A10, c11, ([] : List UInt8), 1, 2, 1, 0, 0, 0, 0, 0, 0, 0, 0, 0, 0, none, 0, ([] : List UInt8)) = false := ag_n (fun h => h.2.2 rfl)
  have hol100 : out84.length = 0 := by
      have h := congrArg List.length hum90
      simp only [List.length_map, List.filter, ea96, List.length_cons, List.length_nil] at h
      exact h
  have hM97 : CR b1 7 2 2 [(3, 7, 1, 0, 0, 0, 0, 0, 0, 0, A10, c11, ([] : List UInt8), 3, 2, 0, 0, 0, 0, 0, 0, 0, 0, 0, 0, 0, none, 0, ([] : List UInt8))] L82 := by
      have h := hM88
      rw [List.map_cons, List.map_nil, et95] at h
      exact h
  have dd98 : ∀ x ∈ [(3, 7, 1, 0, 0, 0, 0, 0, 0, 0, A10, c11, ([] : List UInt8), 3, 2, 0, 0, 0, 0, 0, 0, 0, 0, 0, 0, 0, none, 0, ([] : List UInt8))], encCall_dd w0 D83 x := by
      have h := dd93
      rw [List.map_cons, List.map_nil, et95] at h
      exact h
  have sz99 : ∀ x ∈ [(3, 7, 1, 0, 0, 0, 0, 0, 0, 0, A10, c11, ([] : List UInt8), 3, 2, 0, 0, 0, 0, 0, 0, 0, 0, 0, 0, 0, none, 0, ([] : List UInt8))], csz x := by
      have h := sz94
      rw [List.map_cons, List.map_nil, et95] at h
      exact h
  refine st_run tbOk 1 hA (e' := (31, .int .i64 ((out84.length : Nat) : Int)) :: _) rfl ?_; clear hA; intro a hA
  replace hA := hA.rw 31 (v' := .int .i64 0) rfl (by rw [hol100]; rfl)
  refine st_run tbOk 4 hA (e' := (7, .int .i64 0) :: (6, .int .i64 0) :: (5, .int .i64 1) :: (4, .int .i64 0) :: _) rfl ?_; clear hA; intro a hA
  refine wpList_nil ?_
  replace hA := hA.sel [1, 2, 3, 4, 5, 6, 7] (e' := [(1, .pointer (some ⟨b1, 0, none⟩)), (2, .pointer (some ⟨b18, 0, none⟩)), (3, .nilIface), (4, .int .i64 0), (5, .int .i64 1), (6, .int .i64 0), (7, .int .i64 0)]) rfl
  refine xt_norm ?_
  refine wp_seq ?_
  refine wp_region_lit ?_
  refine st_run tbOk 1 hA (e' := (33, .pointer (some ⟨b1, 0, none⟩)) :: _) rfl ?_; clear hA; intro a hA
  replace hS := hS.front 2 (C := D83) (L' := C87 :: L82 :: C67 :: C47 :: C27 :: [(b18, rowO [.int .u64 3, .int .u64 7, .int .u32 1, .int .u16 0, .int .u16 0, .int .u64 0, .int .u32 0, .int .u8 0, .int .u64 0, .int .u64 0, .slice A12 (([] : List UInt8).length) c13] 32)] :: F) rfl rfl
  replace hS := hS.front 2 (C := L82) (L' := D83 :: C87 :: C67 :: C47 :: C27 :: [(b18, rowO [.int .u64 3, .int .u64 7, .int .u32 1, .int .u16 0, .int .u16 0, .int .u64 0, .int .u32 0, .int .u8 0, .int .u64 0, .int .u64 0, .slice A12 (([] : List UInt8).length) c13] 32)] :: F) rfl rfl
  refine st_call0 hA rfl rfl rfl isfn11 rfl rfl (by decide) (cget_failed11 hS hM97 (k := 0) (x := (3, 7, 1, 0, 0, 0, 0, 0, 0, 0, A10, c11, ([] : List UInt8), 3, 2, 0, 0, 0, 0, 0, 0, 0, 0, 0, 0, 0, none, 0, ([] : List UInt8))) rfl (Nat.le_of_ble_eq_true rfl) rfl rfl) ?_
  clear hA hS; rintro _ w101 a ⟨L102, hM103, rfl, hS⟩ hA
  refine st_run tbOk 4 hA (e' := (37, .iface 52 (.int .i64 10)) :: (36, .agg #[.int .u64 0, .int .u64 0, .int .u32 0, .int .u16 0, .int .u16 0, .int .u64 0, .int .u32 0, .int .u8 0, .int .u64 0, .int .u64 0, .slice none 0 0]) :: (35, .int .i64 3) :: (32, .tuple #[.int .i64 3, .agg #[.int .u64 0, .int .u64 0, .int .u32 0, .int .u16 0, .int .u16 0, .int .u64 0, .int .u32 0, .int .u8 0, .int .u64 0, .int .u64 0, .slice none 0 0], .iface 52 (.int .i64 10)]) :: _) rfl ?_; clear hA; intro a hA
  refine st_alloc tbOk hA hS [.int .u64 0, .int .u64 0, .int .u32 0, .int .u16 0, .int .u16 0, .int .u64 0, .int .u32 0, .int .u8 0, .int .u64 0, .int .u64 0, .slice none 0 0] rfl rfl rfl rfl rfl (by decide) ?_; clear hA hS; intro b104 w105 a hS hA
  refine st_run tbOk 1 hA (e' := (8, .int .i64 3) :: _) rfl ?_; clear hA; intro a hA
  refine st_store tbOk hA hS [.int .u64 0, .int .u64 0, .int .u32 0, .int .u16 0, .int .u16 0, .int .u64 0, .int .u32 0, .int .u8 0, .int .u64 0, .int .u64 0, .slice none 0 0] [.int .u64 0, .int .u64 0, .int .u32 0, .int .u16 0, .int .u16 0, .int .u64 0, .int .u32 0, .int .u8 0, .int .u64 0, .int .u64 0, .slice none 0 0] rfl rfl rfl rfl rfl rfl (by simp [Value.oneCell']) (Nat.le_of_ble_eq_true rfl) rfl rfl rfl ?_; clear hS; intro w106 hS
  refine st_run tbOk 1 hA (e' := (10, .iface 52 (.int .i64 10)) :: _) rfl ?_; clear hA; intro a hA
  refine wpList_nil ?_
  replace hA := hA.sel [2, 3, 4, 5, 6, 7, 8, 10] (e' := [(2, .pointer (some ⟨b18, 0, none⟩)), (3, .nilIface), (4, .int .i64 0), (5, .int .i64 1), (6, .int .i64 0), (7, .int .i64 0), (8, .int .i64 3), (10, .iface 52 (.int .i64 10))]) rfl
  refine xt_norm ?_
  refine wp_seq ?_
  refine wp_region_lit ?_
  refine st_run tbOk 1 hA (e' := (38, .pointer (some ⟨b18, 2, none⟩)) :: _) rfl ?_; clear hA; intro a hA
  refine st_val hA rfl rfl (by decide) (rn_load tbOk hA rfl rfl rfl rfl (cell_row (hS.heapAt 7 rfl) rfl)) ?_; clear hA; intro a hA
  refine st_run tbOk 3 hA (e' := (42, .pointer (some ⟨b18, 1, none⟩)) :: (41, .bool true) :: (40, .bool true) :: _) rfl ?_; clear hA; intro a hA
  refine st_val hA rfl rfl (by decide) (rn_load tbOk hA rfl rfl rfl rfl (cell_row (hS.heapAt 7 rfl) rfl)) ?_; clear hA; intro a hA
  refine st_run tbOk 28 hA (e' := (71, .iface 52 (.int .i64 10)) :: (70, .bool true) :: (69, .bool true) :: (68, .bool true) :: (67, .int .i64 3) :: (66, .bool true) :: (65, .bool true) :: (64, .bool true) :: (63, .int .i64 0) :: (62, .bool true) :: (61, .bool true) :: (60, .bool true) :: (59, .int .i64 0) :: (58, .bool true) :: (57, .bool true) :: (56, .bool true) :: (55, .int .i64 1) :: (54, .bool true) :: (53, .bool true) :: (52, .bool true) :: (51, .int .i64 0) :: (50, .bool true) :: (49, .bool true) :: (48, .bool true) :: (47, .nilIface) :: (46, .bool true) :: (45, .bool true) :: (44, .bool true) :: _) rfl ?_; clear hA; intro a hA
  refine st_call0 hA rfl rfl rfl isfn14 rfl rfl (by decide) (number_hit14 hS hg 10) ?_
  clear hA hS; rintro v w107 a ⟨rfl, hS⟩ hA
  refine st_run tbOk 3 hA (e' := (0, .bool true) :: (74, .bool true) :: (73, .bool true) :: _) rfl ?_; clear hA; intro a hA
  refine wpList_nil ?_
  replace hA := hA.sel [0] (e' := [(0, .bool true)]) rfl
  refine xt_norm ?_
  refine wp_ret ?_
  refine ret1 (fn := Tryd.f7) hA rfl rfl ?_
  replace hS := hS.drop1
  replace hS := hS.drop1
  replace hS := hS.drop1
  replace hS := hS.drop1
  replace hS := hS.drop1
  replace hS := hS.drop1
  replace hS := hS.drop1
  replace hS := hS.drop1
  exact ⟨rfl, hS⟩

/-- One call behind e ticks. -/
def TI (W M e : Nat) (s t l : Int) (sent : Nat) : Prop := (s = 1 ∧ ∃ q u : Nat, t = (q : Int) + 1 ∧ l = (W : Int) - (u : Int) ∧ q < M ∧ u < W ∧ e = q * W + u ∧ sent = q + 1) ∨ (W * M ≤ e ∧ s = 3 ∧ sent = M)
theorem TI.init {W M : Nat} (hW : 0 < W) (hM : 0 < M) : TI W M 0 1 1 (W : Int) 1 := .inl ⟨rfl, 0, 0, by simp, by simp, hM, hW, by simp, rfl⟩
theorem TI.cases {W M e : Nat} {s t l : Int} {sent : Nat} (h : TI W M e s t l sent) :
    (s = 1 ∧ 1 ≤ l ∧ l ≤ W ∧ 1 ≤ t ∧ t ≤ M ∧ l - 1 > 0 ∧ e + 1 < W * M ∧ TI W M (e + 1) s t (l - 1) sent) ∨
    (s = 1 ∧ 1 ≤ l ∧ l ≤ W ∧ 1 ≤ t ∧ t ≤ M ∧ ¬ l - 1 > 0 ∧ t = M ∧ e + 1 = W * M ∧ TI W M (e + 1) 3 t (l - 1) sent) ∨
    (s = 1 ∧ 1 ≤ l ∧ l ≤ W ∧ 1 ≤ t ∧ t ≤ M ∧ ¬ l - 1 > 0 ∧ ¬ t = M ∧ e + 1 < W * M ∧ sent ≤ M ∧ TI W M (e + 1) s (t + 1) W (sent + 1)) ∨
    (s = 3 ∧ W * M ≤ e ∧ TI W M (e + 1) s t l sent) := by
  rcases h with ⟨h1, q, u, h2, h3, h4, h5, h6, h7⟩ | ⟨h1, h2, h3⟩
  · have hq : (q + 1) * W ≤ M * W := Nat.mul_le_mul_right W (by omega)
    have hq2 : (q + 1) * W = q * W + W := Nat.succ_mul q W
    have hc : W * M = M * W := Nat.mul_comm W M
    by_cases hu : u + 1 < W
    · exact .inl ⟨h1, by omega, by omega, by omega, by omega, by omega, by omega, .inl ⟨h1, q, u + 1, h2, by omega, h4, hu, by omega, h7⟩⟩
    · by_cases hm : q + 1 = M
      · subst hm
        exact .inr (.inl ⟨h1, by omega, by omega, by omega, by omega, by omega, by omega, by omega, .inr ⟨by omega, rfl, by omega⟩⟩)
      · have hr : (q + 1 + 1) * W ≤ M * W := Nat.mul_le_mul_right W (by omega)
        have hr2 : (q + 1 + 1) * W = (q + 1) * W + W := Nat.succ_mul (q + 1) W
        exact .inr (.inr (.inl ⟨h1, by omega, by omega, by omega, by omega, by omega, by omega, by omega, by omega, .inl ⟨h1, q + 1, 0, by omega, by omega, by omega, by omega, by omega, by omega⟩⟩))
  · exact .inr (.inr (.inr ⟨h2, h1, .inr ⟨by omega, h2, h3⟩⟩))
theorem TI.done {W M e : Nat} {s t l : Int} {sent : Nat} (h : TI W M e s t l sent) (he : W * M ≤ e) : sent = M := by
  rcases h with ⟨h1, q, u, h2, h3, h4, h5, h6, h7⟩ | ⟨h1, h2, h3⟩
  · have hq : (q + 1) * W ≤ M * W := Nat.mul_le_mul_right W (by omega)
    have hq2 : (q + 1) * W = q * W + W := Nat.succ_mul q W
    have hc : W * M = M * W := Nat.mul_comm W M
    omega
  · exact h3
theorem TI.le {W M e : Nat} {s t l : Int} {sent : Nat} (h : TI W M e s t l sent) : sent ≤ M := by
  rcases h with ⟨h1, q, u, h2, h3, h4, h5, h6, h7⟩ | ⟨h1, h2, h3⟩ <;> omega
theorem times3 {w0 w : World} {F : List Chunk} (hS : St w0 w F) (hg : HG w0) (a0 a1 : Int) (h0 : 0 ≤ a0) (hb0 : a0 < 256) (h1 : 0 ≤ a1) (hb1 : a1 < 256) :
    Ret Tryd.prog 3 #[.int .u8 a0, .int .u8 a1] w (fun v w' => v = .bool true ∧ St w0 w' F) := by
  obtain ⟨g, rfl⟩ := Int.eq_ofNat_of_zero_le h0
  obtain ⟨h, rfl⟩ := Int.eq_ofNat_of_zero_le h1
  refine enter (vs := [.int .u8 ((g : Nat) : Int), .int .u8 ((h : Nat) : Int)]) 72 Tryd.func3 rfl rfl (by simp) ?_; intro a hA
  refine wp_seq ?_
  refine wp_region_lit ?_
  refine st_run tbOk 1 hA (e' := (4, .bool false) :: _) rfl ?_; clear hA; intro a hA
  refine wpList_nil ?_
  replace hA := hA.sel [0, 1] (e' := [(0, .int .u8 ((g : Nat) : Int)), (1, .int .u8 ((h : Nat) : Int))]) rfl
  refine xt_norm ?_
  refine wp_seq ?_
  refine wp_seq ?_
  refine wp_region_lit ?_
  refine st_call0 hA rfl rfl rfl isfn7 rfl rfl (by decide) (awake7 hS hg) ?_
  clear hA hS; rintro _ w1 a ⟨rfl, hS⟩ hA
  refine st_run tbOk 1 hA (e' := (14, .bool false) :: _) rfl ?_; clear hA; intro a hA
  refine wpList_nil ?_
  replace hA := hA.sel [0, 1, 14] (e' := [(0, .int .u8 ((g : Nat) : Int)), (1, .int .u8 ((h : Nat) : Int)), (14, .bool false)]) rfl
  refine xt_norm ?_
  refine cd_cond_f hA rfl ?_
  refine wp_skip ?_
  refine xt_norm ?_
  refine wp_seq ?_
  refine wp_region_lit ?_
  refine st_run tbOk 2 hA (e' := (16, .int .u8 (((g : Nat) : Int).tmod 10)) :: (15, .int .u8 ((g : Nat) : Int)) :: _) rfl ?_; clear hA; intro a hA
  replace hA := hA.rw 16 (v' := .int .u8 ((g % 10 : Nat) : Int)) rfl (vint (Int.ofNat_tmod _ _).symm)
  refine st_run tbOk 1 hA (e' := (17, .int .i64 (IntKind.i64.wrap ((g % 10 : Nat) : Int))) :: _) rfl ?_; clear hA; intro a hA
  replace hA := hA.rw 17 (v' := .int .i64 ((g % 10 : Nat) : Int)) rfl (wr64 (by rfl) (by omega) (by omega))
  refine st_run tbOk 1 hA (e' := (18, .int .i64 (IntKind.i64.wrap (1 + ((g % 10 : Nat) : Int)))) :: _) rfl ?_; clear hA; intro a hA
  replace hA := hA.rw 18 (v' := .int .i64 ((1 + (g % 10) : Nat) : Int)) rfl (wr64 (by omega) (by omega) (by omega))
  refine st_run tbOk 2 hA (e' := (20, .int .u8 (((h : Nat) : Int).tmod 10)) :: (19, .int .u8 ((h : Nat) : Int)) :: _) rfl ?_; clear hA; intro a hA
  replace hA := hA.rw 20 (v' := .int .u8 ((h % 10 : Nat) : Int)) rfl (vint (Int.ofNat_tmod _ _).symm)
  refine st_run tbOk 1 hA (e' := (21, .int .i64 (IntKind.i64.wrap ((h % 10 : Nat) : Int))) :: _) rfl ?_; clear hA; intro a hA
  replace hA := hA.rw 21 (v' := .int .i64 ((h % 10 : Nat) : Int)) rfl (wr64 (by rfl) (by omega) (by omega))
  refine st_run tbOk 1 hA (e' := (22, .int .i64 (IntKind.i64.wrap (1 + ((h % 10 : Nat) : Int)))) :: _) rfl ?_; clear hA; intro a hA
  replace hA := hA.rw 22 (v' := .int .i64 ((1 + (h % 10) : Nat) : Int)) rfl (wr64 (by omega) (by omega) (by omega))
  obtain ⟨W, hW⟩ : ∃ W, W = 1 + g % 10 := ⟨_, rfl⟩
  obtain ⟨M, hM_⟩ : ∃ M, M = 1 + h % 10 := ⟨_, rfl⟩
  replace hA := hA.rw 18 (v' := .int .i64 ((W : Nat) : Int)) rfl (by rw [hW])
  replace hA := hA.rw 22 (v' := .int .i64 ((M : Nat) : Int)) rfl (by rw [hM_])
  have hWM : W * M ≤ 10 * 10 := Nat.mul_le_mul (by omega) (by omega)
  have hWM1 : 1 * 1 ≤ W * M := Nat.mul_le_mul (by omega) (by omega)
  refine st_run tbOk 2 hA (e' := (6, .int .i64 ((M : Nat) : Int)) :: (5, .int .i64 ((W : Nat) : Int)) :: _) rfl ?_; clear hA; intro a hA
  refine wpList_nil ?_
  replace hA := hA.sel [5, 6] (e' := [(5, .int .i64 ((W : Nat) : Int)), (6, .int .i64 ((M : Nat) : Int))]) rfl
  refine xt_norm ?_
  refine wp_seq ?_
  refine wp_region_lit ?_
  refine st_run tbOk 2 hA (e' := (24, .int .i64 ((M : Nat) : Int)) :: (23, .int .i64 ((W : Nat) : Int)) :: _) rfl ?_; clear hA; intro a hA
  refine st_call0 hA rfl rfl rfl isfn8 rfl rfl (by decide) (cof8 hS 1 ((W : Nat) : Int) ((M : Nat) : Int)) ?_
  clear hA hS; rintro _ w5 a ⟨b2, L3, hM4, rfl, hS⟩ hA
  have hM6 : CR b2 1 ((W : Nat) : Int) ((M : Nat) : Int) [] L3 := by
      have h := hM4
      rw [show (if ((W : Nat) : Int) > 1 then ((W : Nat) : Int) else 1) = ((W : Nat) : Int) by split <;> omega, show (if ((M : Nat) : Int) > 1 then ((M : Nat) : Int) else 1) = ((M : Nat) : Int) by split <;> omega] at h
      exact h
  replace hS := hS.nil
  refine st_run tbOk 1 hA (e' := (7, .pointer (some ⟨b2, 0, none⟩)) :: _) rfl ?_; clear hA; intro a hA
  refine wpList_nil ?_
  replace hA := hA.sel [5, 6, 7] (e' := [(5, .int .i64 ((W : Nat) : Int)), (6, .int .i64 ((M : Nat) : Int)), (7, .pointer (some ⟨b2, 0, none⟩))]) rfl
  refine xt_norm ?_
  refine wp_seq ?_
  refine wp_region_lit ?_
  refine st_run tbOk 1 hA (e' := (27, .pointer (some ⟨b2, 0, none⟩)) :: _) rfl ?_; clear hA; intro a hA
  refine st_val hA rfl rfl (by decide) (rn_build tbOk hA rfl rfl rfl rfl rfl rfl rfl) ?_; clear hA; intro a hA
  replace hS := hS.front 1 (C := L3) (L' := [] :: F) rfl rfl
  refine st_call0 hA rfl rfl rfl isfn9 rfl rfl (by decide) (start_ok9 hS hM6 2 0 0 0 0 0 0 0 0 0 (bs := ([] : List UInt8)) RdSX.nil (by first | omega | exact Nat.zero_le _) (Nat.le_of_ble_eq_true rfl)) ?_
  clear hA hS; rintro _ w7 a ⟨L8, E10, A11, c12, A13, c14, hM9, hE15, hE16, rfl, hS⟩ hA
  replace hM9 : CR b2 1 ((W : Nat) : Int) ((M : Nat) : Int) [(2, 1, 1, 0, 0, 0, 0, 0, 0, 0, A11, c12, ([] : List UInt8), 1, 1, ((W : Nat) : Int), 0, 0, 0, 0, 0, 0, 0, 0, 0, 0, none, 0, ([] : List UInt8))] L8 := hM9
  have dd17 : ∀ x ∈ ([(2, 1, 1, 0, 0, 0, 0, 0, 0, 0, A11, c12, ([] : List UInt8), 1, 1, ((W : Nat) : Int), 0, 0, 0, 0, 0, 0, 0, 0, 0, 0, none, 0, ([] : List UInt8))]), encCall_dd w0 (E10 ++ []) x := one_of ⟨hE15.right, DD.nil⟩
  have sz18 : ∀ x ∈ ([(2, 1, 1, 0, 0, 0, 0, 0, 0, 0, A11, c12, ([] : List UInt8), 1, 1, ((W : Nat) : Int), 0, 0, 0, 0, 0, 0, 0, 0, 0, 0, none, 0, ([] : List UInt8))]), csz x := one_of ⟨(by show (([] : List UInt8)).length ≤ 140737488351232; first | omega | exact Nat.zero_le _), (Nat.zero_le _)⟩
  replace hA := hA.rw 29 (v' := .tuple #[.agg #[.int .u64 2, .int .u64 1, .int .u32 1, .int .u16 0, .int .u16 0, .int .u64 0, .int .u32 0, .int .u8 0, .int .u64 0, .int .u64 0, .slice A13 (([] : List UInt8).length) c14], .nilIface]) rfl (by rfl)
  refine st_run tbOk 3 hA (e' := (31, .nilIface) :: (30, .agg #[.int .u64 2, .int .u64 1, .int .u32 1, .int .u16 0, .int .u16 0, .int .u64 0, .int .u32 0, .int .u8 0, .int .u64 0, .int .u64 0, .slice A13 (([] : List UInt8).length) c14]) :: (26, .tuple #[.agg #[.int .u64 2, .int .u64 1, .int .u32 1, .int .u16 0, .int .u16 0, .int .u64 0, .int .u32 0, .int .u8 0, .int .u64 0, .int .u64 0, .slice A13 (([] : List UInt8).length) c14], .nilIface]) :: _) rfl ?_; clear hA; intro a hA
  refine wpList_nil ?_
  replace hA := hA.sel [5, 6, 7] (e' := [(5, .int .i64 ((W : Nat) : Int)), (6, .int .i64 ((M : Nat) : Int)), (7, .pointer (some ⟨b2, 0, none⟩))]) rfl
  refine xt_norm ?_
  refine wp_seq ?_
  refine wp_region_lit ?_
  refine st_run tbOk 1 hA (e' := (8, .int .i64 1) :: _) rfl ?_; clear hA; intro a hA
  refine wpList_nil ?_
  refine xt_norm ?_
  refine wp_seq ?_
  refine wp_seq ?_
  refine wp_region_lit ?_
  refine st_run tbOk 1 hA (e' := (9, .int .i64 1) :: _) rfl ?_; clear hA; intro a hA
  refine wpList_nil ?_
  refine xt_norm ?_
  refine wp_block ?_
  replace hS := hS.front 1 (C := (E10 ++ [])) (L' := L8 :: F) rfl rfl
  replace hS := hS.front 1 (C := L8) (L' := (E10 ++ []) :: F) rfl rfl
  refine wp_loop_ghost (fun m a w => ∃ (k : Nat) (s : Int) (t : Int) (l : Int) (se : Nat) (L4 : Chunk) (D4 : Chunk), m = W * M + 6 - k ∧ Has a 72 [(5, .int .i64 ((W : Nat) : Int)), (6, .int .i64 ((M : Nat) : Int)), (7, .pointer (some ⟨b2, 0, none⟩)), (8, .int .i64 ((se : Nat) : Int)), (9, .int .i64 ((k : Nat) : Int))] ∧ St w0 w (L4 :: D4 :: F) ∧ (1 ≤ k) ∧ (k ≤ W * M + 6) ∧ (TI W M (k - 1) s t l se) ∧ (CR b2 1 ((W : Nat) : Int) ((M : Nat) : Int) [(2, 1, 1, 0, 0, 0, 0, 0, 0, 0, A11, c12, ([] : List UInt8), s, t, l, 0, 0, 0, 0, 0, 0, 0, 0, 0, 0, none, 0, ([] : List UInt8))] L4) ∧ (∀ x ∈ [(2, 1, 1, 0, 0, 0, 0, 0, 0, 0, A11, c12, ([] : List UInt8), s, t, l, 0, 0, 0, 0, 0, 0, 0, 0, 0, 0, none, 0, ([] : List UInt8))], encCall_dd w0 D4 x) ∧ (∀ x ∈ [(2, 1, 1, 0, 0, 0, 0, 0, 0, 0, A11, c12, ([] : List UInt8), s, t, l, 0, 0, 0, 0, 0, 0, 0, 0, 0, 0, none, 0, ([] : List UInt8))], csz x)) (W * M + 6 - 1)
    ⟨1, 1, 1, ((W : Nat) : Int), 1, L8, (E10 ++ []), rfl, (hA.sel [5, 6, 7, 8, 9] rfl), hS, Nat.le_refl _, by omega, TI.init (by omega) (by omega), hM9, dd17, sz18⟩ ?_
  clear hA hS; rintro m0 a w19 ⟨k, s, t, l, se, L4, D4, rfl, hA, hS, hk1, hk, hti, hM4, hdd4, hsz4⟩
  have htl := hti.le
  refine wp_seq ?_
  refine wp_seq ?_
  refine wp_region_lit ?_
  refine st_run tbOk 4 hA (e' := (35, .int .i64 (IntKind.i64.wrap (((W : Nat) : Int) * ((M : Nat) : Int)))) :: (34, .int .i64 ((M : Nat) : Int)) :: (33, .int .i64 ((W : Nat) : Int)) :: (32, .int .i64 ((k : Nat) : Int)) :: _) rfl ?_; clear hA; intro a hA
  replace hA := hA.rw 35 (v' := .int .i64 ((W * M : Nat) : Int)) rfl (wr64 (by omega) (by omega) (by omega))
  refine st_run tbOk 1 hA (e' := (36, .int .i64 (IntKind.i64.wrap (((W * M : Nat) : Int) + 5))) :: _) rfl ?_; clear hA; intro a hA
  replace hA := hA.rw 36 (v' := .int .i64 (((W * M) + 5 : Nat) : Int)) rfl (wr64 (by omega) (by omega) (by omega))
  refine st_run tbOk 1 hA (e' := (37, .bool (decide (((k : Nat) : Int) ≤ (((W * M) + 5 : Nat) : Int)))) :: _) rfl ?_; clear hA; intro a hA
  refine wpList_nil ?_
  replace hA := hA.sel [5, 6, 7, 8, 9, 37] (e' := [(5, .int .i64 ((W : Nat) : Int)), (6, .int .i64 ((M : Nat) : Int)), (7, .pointer (some ⟨b2, 0, none⟩)), (8, .int .i64 ((se : Nat) : Int)), (9, .int .i64 ((k : Nat) : Int)), (37, .bool (decide (((k : Nat) : Int) ≤ (((W * M) + 5 : Nat) : Int))))]) rfl
  refine xt_norm ?_
  by_cases hc20 : ((k : Nat) : Int) ≤ (((W * M) + 5 : Nat) : Int)
  · first
    | (exfalso; omega)
    | (replace hA := hA.rw 37 (v' := .bool true) rfl (vb_true hc20)
       refine cd_cond_t hA rfl ?_
       refine wp_skip ?_
       refine xt_norm ?_
       refine wp_seq ?_
       refine wp_block ?_
       refine wp_seq ?_
       refine wp_region_lit ?_
       rcases hti.cases with ⟨hs, hl1, hl2, ht1, ht2, hc1, hc2, hn⟩ | ⟨hs, hl1, hl2, ht1, ht2, hc1, hc2, hc3, hn⟩ | ⟨hs, hl1, hl2, ht1, ht2, hc1, hc2, hc3, hc4, hn⟩ | ⟨hs, hc1, hn⟩
       · refine st_run tbOk 2 hA (e' := (41, .pointer (some ⟨b2, 0, none⟩)) :: (40, .int .i64 ((se : Nat) : Int)) :: _) rfl ?_; clear hA; intro a hA
         replace hS := hS.front 1 (C := D4) (L' := L4 :: F) rfl rfl
         replace hS := hS.front 1 (C := L4) (L' := D4 :: F) rfl rfl
         refine st_call0 hA rfl rfl rfl isfn10 rfl rfl (by decide) (ctick10 hS hM4 hdd4 hsz4 (one_of (fun _ => ⟨⟨hl1, (show l ≤ 1000 by omega)⟩, ht1, (show t ≤ 1000 by omega)⟩)) (by exact Nat.le_of_ble_eq_true rfl) (by first | decide | omega) (by first | decide | omega)) ?_
         clear hA hS; rintro _ w21 a ⟨L22, D23, out24, A25, c26, C27, hM28, hU29, hum30, hud31, hdx32, rfl, hS⟩ hA
         have dd33 : ∀ x ∈ (([(2, 1, 1, 0, 0, 0, 0, 0, 0, 0, A11, c12, ([] : List UInt8), s, t, l, 0, 0, 0, 0, 0, 0, 0, 0, 0, 0, none, 0, ([] : List UInt8))]).map (tick1 ((W : Nat) : Int) ((M : Nat) : Int))), encCall_dd w0 D23 x := tick_dd (hdx32.calls hdd4)
         have sz34 : ∀ x ∈ (([(2, 1, 1, 0, 0, 0, 0, 0, 0, 0, A11, c12, ([] : List UInt8), s, t, l, 0, 0, 0, 0, 0, 0, 0, 0, 0, 0, none, 0, ([] : List UInt8))]).map (tick1 ((W : Nat) : Int) ((M : Nat) : Int))), csz x := tick_sz hsz4
         have et35 : tick1 ((W : Nat) : Int) ((M : Nat) : Int) (2, 1, 1, 0, 0, 0, 0, 0, 0, 0, A11, c12, ([] : List UInt8), s, t, l, 0, 0, 0, 0, 0, 0, 0, 0, 0, 0, none, 0, ([] : List UInt8)) = (2, 1, 1, 0, 0, 0, 0, 0, 0, 0, A11, c12, ([] : List UInt8), s, t, (l - 1), 0, 0, 0, 0, 0, 0, 0, 0, 0, 0, none, 0, ([] : List UInt8)) := tick_a (x := (2, 1, 1, 0, 0, 0, 0, 0, 0, 0, A11, c12, ([] : List UInt8), s, t, l, 0, 0, 0, 0, 0, 0, 0, 0, 0, 0, none, 0, ([] : List UInt8))) hs hc1
         have ea36 : again1 ((M : Nat) : Int) (2, 1, 1, 0, 0, 0, 0, 0, 0, 0, A11, c12, ([] : List UInt8), s, t, l, 0, 0, 0, 0, 0, 0, 0, 0, 0, 0, none, 0, ([] : List UInt8)) = false := ag_n (fun h => h.2.1 hc1)
         have hol40 : out24.length = 0 := by
             have h := congrArg List.length hum30
             simp only [List.length_map, List.filter, ea36, List.length_cons, List.length_nil] at h
             exact h
         have hM37 : CR b2 1 ((W : Nat) : Int) ((M : Nat) : Int) [(2, 1, 1, 0, 0, 0, 0, 0, 0, 0, A11, c12, ([] : List UInt8), s, t, (l - 1), 0, 0, 0, 0, 0, 0, 0, 0, 0, 0, none, 0, ([] : List UInt8))] L22 := by
             have h := hM28
             rw [List.map_cons, List.map_nil, et35] at h
             exact h
         have dd38 : ∀ x ∈ [(2, 1, 1, 0, 0, 0, 0, 0, 0, 0, A11, c12, ([] : List UInt8), s, t, (l - 1), 0, 0, 0, 0, 0, 0, 0, 0, 0, 0, none, 0, ([] : List UInt8))], encCall_dd w0 D23 x := by
             have h := dd33
             rw [List.map_cons, List.map_nil, et35] at h
             exact h
         have sz39 : ∀ x ∈ [(2, 1, 1, 0, 0, 0, 0, 0, 0, 0, A11, c12, ([] : List UInt8), s, t, (l - 1), 0, 0, 0, 0, 0, 0, 0, 0, 0, 0, none, 0, ([] : List UInt8))], csz x := by
             have h := sz34
             rw [List.map_cons, List.map_nil, et35] at h
             exact h
         refine st_run tbOk 1 hA (e' := (43, .int .i64 ((out24.length : Nat) : Int)) :: _) rfl ?_; clear hA; intro a hA
         replace hA := hA.rw 43 (v' := .int .i64 0) rfl (by rw [hol40]; rfl)
         refine st_run tbOk 1 hA (e' := (44, .int .i64 (IntKind.i64.wrap (((se : Nat) : Int) + 0))) :: _) rfl ?_; clear hA; intro a hA
         replace hA := hA.rw 44 (v' := .int .i64 ((se + 0 : Nat) : Int)) rfl (wr64 (by omega) (by omega) (by omega))
         replace hA := hA.rw 44 (v' := .int .i64 ((se : Nat) : Int)) rfl (vint (by omega))
         refine st_run tbOk 1 hA (e' := (8, .int .i64 ((se : Nat) : Int)) :: _) rfl ?_; clear hA; intro a hA
         refine wpList_nil ?_
         replace hA := hA.sel [5, 6, 7, 8, 9] (e' := [(5, .int .i64 ((W : Nat) : Int)), (6, .int .i64 ((M : Nat) : Int)), (7, .pointer (some ⟨b2, 0, none⟩)), (8, .int .i64 ((se : Nat) : Int)), (9, .int .i64 ((k : Nat) : Int))]) rfl
         refine xt_norm ?_
         refine wp_seq ?_
         refine wp_region_lit ?_
         refine st_run tbOk 1 hA (e' := (46, .pointer (some ⟨b2, 0, none⟩)) :: _) rfl ?_; clear hA; intro a hA
         replace hS := hS.front 2 (C := D23) (L' := C27 :: L22 :: F) rfl rfl
         replace hS := hS.front 2 (C := L22) (L' := D23 :: C27 :: F) rfl rfl
         refine st_call0 hA rfl rfl rfl isfn11 rfl rfl (by decide) (cget_ok11 hS hM37 (k := 0) (x := (2, 1, 1, 0, 0, 0, 0, 0, 0, 0, A11, c12, ([] : List UInt8), s, t, (l - 1), 0, 0, 0, 0, 0, 0, 0, 0, 0, 0, none, 0, ([] : List UInt8))) rfl (Nat.le_of_ble_eq_true rfl) rfl (show ¬ s = 3 by omega) dd38 sz39) ?_
         clear hA hS; rintro _ w41 a ⟨L42, E44, A45, c46, hM43, hE47, rfl, hS⟩ hA
         have dd48 := encCall_lefts (E := E44) dd38
         refine st_run tbOk 4 hA (e' := (50, .nilIface) :: (49, .agg #[.int .u64 0, .int .u64 0, .int .u32 0, .int .u16 0, .int .u16 0, .int .u64 0, .int .u32 0, .int .u8 0, .int .u64 0, .int .u64 0, .slice A45 0 c46]) :: (48, .int .i64 s) :: (45, .tuple #[.int .i64 s, .agg #[.int .u64 0, .int .u64 0, .int .u32 0, .int .u16 0, .int .u16 0, .int .u64 0, .int .u32 0, .int .u8 0, .int .u64 0, .int .u64 0, .slice A45 0 c46], .nilIface]) :: _) rfl ?_; clear hA; intro a hA
         refine st_alloc tbOk hA hS [.int .u64 0, .int .u64 0, .int .u32 0, .int .u16 0, .int .u16 0, .int .u64 0, .int .u32 0, .int .u8 0, .int .u64 0, .int .u64 0, .slice none 0 0] rfl rfl rfl rfl rfl (by decide) ?_; clear hA hS; intro b49 w50 a hS hA
         refine st_run tbOk 1 hA (e' := (10, .int .i64 s) :: _) rfl ?_; clear hA; intro a hA
         refine st_store tbOk hA hS [.int .u64 0, .int .u64 0, .int .u32 0, .int .u16 0, .int .u16 0, .int .u64 0, .int .u32 0, .int .u8 0, .int .u64 0, .int .u64 0, .slice A45 0 c46] [.int .u64 0, .int .u64 0, .int .u32 0, .int .u16 0, .int .u16 0, .int .u64 0, .int .u32 0, .int .u8 0, .int .u64 0, .int .u64 0, .slice A45 0 c46] rfl rfl rfl rfl rfl rfl (by simp [Value.oneCell']) (Nat.le_of_ble_eq_true rfl) rfl rfl rfl ?_; clear hS; intro w51 hS
         refine st_run tbOk 1 hA (e' := (12, .nilIface) :: _) rfl ?_; clear hA; intro a hA
         refine wpList_nil ?_
         replace hA := hA.sel [5, 6, 7, 8, 9, 10, 12] (e' := [(5, .int .i64 ((W : Nat) : Int)), (6, .int .i64 ((M : Nat) : Int)), (7, .pointer (some ⟨b2, 0, none⟩)), (8, .int .i64 ((se : Nat) : Int)), (9, .int .i64 ((k : Nat) : Int)), (10, .int .i64 s), (12, .nilIface)]) rfl
         refine xt_norm ?_
         refine wp_seq ?_
         refine wp_region_lit ?_
         refine st_run tbOk 6 hA (e' := (56, .int .i64 (IntKind.i64.wrap (((W : Nat) : Int) * ((M : Nat) : Int)))) :: (55, .int .i64 ((M : Nat) : Int)) :: (54, .int .i64 ((W : Nat) : Int)) :: (53, .int .i64 ((k : Nat) : Int)) :: (52, .bool (s == 3)) :: (51, .int .i64 s) :: _) rfl ?_; clear hA; intro a hA
         replace hA := hA.rw 56 (v' := .int .i64 ((W * M : Nat) : Int)) rfl (wr64 (by omega) (by omega) (by omega))
         refine st_run tbOk 1 hA (e' := (57, .bool (decide (((k : Nat) : Int) ≥ ((W * M : Nat) : Int)))) :: _) rfl ?_; clear hA; intro a hA
         by_cases hc52 : s = 3
         · first
           | (exfalso; omega)
           | (replace hA := hA.rw 52 (v' := .bool true) rfl (vb_eq_t hc52)
              by_cases hc53 : ((k : Nat) : Int) ≥ ((W * M : Nat) : Int)
              · first
                | (exfalso; omega)
                | (replace hA := hA.rw 57 (v' := .bool true) rfl (vb_true hc53)
                   refine st_run tbOk 8 hA (e' := (65, .int .i64 (IntKind.i64.wrap (((W : Nat) : Int) * ((M : Nat) : Int)))) :: (64, .int .i64 ((M : Nat) : Int)) :: (63, .int .i64 ((W : Nat) : Int)) :: (62, .int .i64 ((k : Nat) : Int)) :: (61, .bool false) :: (60, .nilIface) :: (59, .bool false) :: (58, .bool false) :: _) rfl ?_; clear hA; intro a hA
                   replace hA := hA.rw 65 (v' := .int .i64 ((W * M : Nat) : Int)) rfl (wr64 (by omega) (by omega) (by omega))
                   refine st_run tbOk 1 hA (e' := (66, .bool (decide (((k : Nat) : Int) ≥ ((W * M : Nat) : Int)))) :: _) rfl ?_; clear hA; intro a hA
                   by_cases hc54 : ((k : Nat) : Int) ≥ ((W * M : Nat) : Int)
                   · first
                     | (exfalso; omega)
                     | (replace hA := hA.rw 66 (v' := .bool true) rfl (vb_true hc54)
                        refine st_run tbOk 2 hA (e' := (68, .bool true) :: (67, .bool true) :: _) rfl ?_; clear hA; intro a hA
                        refine wpList_nil ?_
                        replace hA := hA.sel [5, 6, 7, 8, 9, 68] (e' := [(5, .int .i64 ((W : Nat) : Int)), (6, .int .i64 ((M : Nat) : Int)), (7, .pointer (some ⟨b2, 0, none⟩)), (8, .int .i64 ((se : Nat) : Int)), (9, .int .i64 ((k : Nat) : Int)), (68, .bool true)]) rfl
                        refine xt_norm ?_
                        refine cd_cond_t hA rfl ?_
                        refine wp_seq ?_
                        refine wp_region_lit ?_
                        refine st_run tbOk 1 hA (e' := (4, .bool false) :: _) rfl ?_; clear hA; intro a hA
                        refine wpList_nil ?_
                        replace hA := hA.sel [4] (e' := [(4, .bool false)]) rfl
                        refine xt_norm ?_
                        refine wp_ret (xb_ret (xt_ret (xt_ret (xb_ret (xt_ret ?_)))))
                        refine ret1 (fn := Tryd.f3) hA rfl rfl ?_
                        exfalso; omega)
                   · first
                     | (exfalso; omega)
                     | (replace hA := hA.rw 66 (v' := .bool false) rfl (vb_false hc54)
                        refine st_run tbOk 2 hA (e' := (68, .bool false) :: (67, .bool false) :: _) rfl ?_; clear hA; intro a hA
                        refine wpList_nil ?_
                        replace hA := hA.sel [5, 6, 7, 8, 9, 68] (e' := [(5, .int .i64 ((W : Nat) : Int)), (6, .int .i64 ((M : Nat) : Int)), (7, .pointer (some ⟨b2, 0, none⟩)), (8, .int .i64 ((se : Nat) : Int)), (9, .int .i64 ((k : Nat) : Int)), (68, .bool false)]) rfl
                        refine xt_norm ?_
                        refine cd_cond_f hA rfl ?_
                        refine wp_skip ?_
                        refine xb_norm ?_
                        refine xt_norm ?_
                        refine wp_region_lit ?_
                        refine st_run tbOk 2 hA (e' := (39, .int .i64 (IntKind.i64.wrap (((k : Nat) : Int) + 1))) :: (38, .int .i64 ((k : Nat) : Int)) :: _) rfl ?_; clear hA; intro a hA
                        replace hA := hA.rw 39 (v' := .int .i64 ((k + 1 : Nat) : Int)) rfl (wr64 (by omega) (by omega) (by omega))
                        refine st_run tbOk 1 hA (e' := (9, .int .i64 ((k + 1 : Nat) : Int)) :: _) rfl ?_; clear hA; intro a hA
                        refine wpList_nil ?_
                        replace hA := hA.sel [5, 6, 7, 8, 9] (e' := [(5, .int .i64 ((W : Nat) : Int)), (6, .int .i64 ((M : Nat) : Int)), (7, .pointer (some ⟨b2, 0, none⟩)), (8, .int .i64 ((se : Nat) : Int)), (9, .int .i64 ((k + 1 : Nat) : Int))]) rfl
                        replace hS := hS.drop1
                        replace hS := hS.front 2 (C := C27) (L' := L42 :: (E44 ++ D23) :: F) rfl rfl
                        replace hS := hS.drop1
                        replace hS := hS.front 1 (C := (E44 ++ D23)) (L' := L42 :: F) rfl rfl
                        replace hS := hS.front 1 (C := L42) (L' := (E44 ++ D23) :: F) rfl rfl
                        exact lp_next _ (by omega) ⟨(k + 1), s, t, (l - 1), se, L42, (E44 ++ D23), rfl, (hA.sel [5, 6, 7, 8, 9] rfl), hS, by omega, by omega, (show TI W M (k + 1 - 1) _ _ _ _ by rw [show k + 1 - 1 = k - 1 + 1 by omega]; exact hn), hM43, dd48, sz39⟩))
              · first
                | (exfalso; omega)
                | (replace hA := hA.rw 57 (v' := .bool false) rfl (vb_false hc53)
                   refine st_run tbOk 11 hA (e' := (68, .bool true) :: (67, undef) :: (66, undef) :: (65, undef) :: (64, undef) :: (63, undef) :: (62, undef) :: (61, undef) :: (60, undef) :: (59, .bool true) :: (58, .bool true) :: _) rfl ?_; clear hA; intro a hA
                   refine wpList_nil ?_
                   replace hA := hA.sel [5, 6, 7, 8, 9, 68] (e' := [(5, .int .i64 ((W : Nat) : Int)), (6, .int .i64 ((M : Nat) : Int)), (7, .pointer (some ⟨b2, 0, none⟩)), (8, .int .i64 ((se : Nat) : Int)), (9, .int .i64 ((k : Nat) : Int)), (68, .bool true)]) rfl
                   refine xt_norm ?_
                   refine cd_cond_t hA rfl ?_
                   refine wp_seq ?_
                   refine wp_region_lit ?_
                   refine st_run tbOk 1 hA (e' := (4, .bool false) :: _) rfl ?_; clear hA; intro a hA
                   refine wpList_nil ?_
                   replace hA := hA.sel [4] (e' := [(4, .bool false)]) rfl
                   refine xt_norm ?_
                   refine wp_ret (xb_ret (xt_ret (xt_ret (xb_ret (xt_ret ?_)))))
                   refine ret1 (fn := Tryd.f3) hA rfl rfl ?_
                   exfalso; omega))
         · first
           | (exfalso; omega)
           | (replace hA := hA.rw 52 (v' := .bool false) rfl (vb_eq_f hc52)
              by_cases hc55 : ((k : Nat) : Int) ≥ ((W * M : Nat) : Int)
              · first
                | (exfalso; omega)
                | (replace hA := hA.rw 57 (v' := .bool true) rfl (vb_true hc55)
                   refine st_run tbOk 11 hA (e' := (68, .bool true) :: (67, undef) :: (66, undef) :: (65, undef) :: (64, undef) :: (63, undef) :: (62, undef) :: (61, undef) :: (60, undef) :: (59, .bool true) :: (58, .bool true) :: _) rfl ?_; clear hA; intro a hA
                   refine wpList_nil ?_
                   replace hA := hA.sel [5, 6, 7, 8, 9, 68] (e' := [(5, .int .i64 ((W : Nat) : Int)), (6, .int .i64 ((M : Nat) : Int)), (7, .pointer (some ⟨b2, 0, none⟩)), (8, .int .i64 ((se : Nat) : Int)), (9, .int .i64 ((k : Nat) : Int)), (68, .bool true)]) rfl
                   refine xt_norm ?_
                   refine cd_cond_t hA rfl ?_
                   refine wp_seq ?_
                   refine wp_region_lit ?_
                   refine st_run tbOk 1 hA (e' := (4, .bool false) :: _) rfl ?_; clear hA; intro a hA
                   refine wpList_nil ?_
                   replace hA := hA.sel [4] (e' := [(4, .bool false)]) rfl
                   refine xt_norm ?_
                   refine wp_ret (xb_ret (xt_ret (xt_ret (xb_ret (xt_ret ?_)))))
                   refine ret1 (fn := Tryd.f3) hA rfl rfl ?_
                   exfalso; omega)
              · first
                | (exfalso; omega)
                | (replace hA := hA.rw 57 (v' := .bool false) rfl (vb_false hc55)
                   refine st_run tbOk 8 hA (e' := (65, .int .i64 (IntKind.i64.wrap (((W : Nat) : Int) * ((M : Nat) : Int)))) :: (64, .int .i64 ((M : Nat) : Int)) :: (63, .int .i64 ((W : Nat) : Int)) :: (62, .int .i64 ((k : Nat) : Int)) :: (61, .bool false) :: (60, .nilIface) :: (59, .bool false) :: (58, .bool false) :: _) rfl ?_; clear hA; intro a hA
                   replace hA := hA.rw 65 (v' := .int .i64 ((W * M : Nat) : Int)) rfl (wr64 (by omega) (by omega) (by omega))
                   refine st_run tbOk 1 hA (e' := (66, .bool (decide (((k : Nat) : Int) ≥ ((W * M : Nat) : Int)))) :: _) rfl ?_; clear hA; intro a hA
                   by_cases hc56 : ((k : Nat) : Int) ≥ ((W * M : Nat) : Int)
                   · first
                     | (exfalso; omega)
                     | (replace hA := hA.rw 66 (v' := .bool true) rfl (vb_true hc56)
                        refine st_run tbOk 2 hA (e' := (68, .bool true) :: (67, .bool true) :: _) rfl ?_; clear hA; intro a hA
                        refine wpList_nil ?_
                        replace hA := hA.sel [5, 6, 7, 8, 9, 68] (e' := [(5, .int .i64 ((W : Nat) : Int)), (6, .int .i64 ((M : Nat) : Int)), (7, .pointer (some ⟨b2, 0, none⟩)), (8, .int .i64 ((se : Nat) : Int)), (9, .int .i64 ((k : Nat) : Int)), (68, .bool true)]) rfl
                        refine xt_norm ?_
                        refine cd_cond_t hA rfl ?_
                        refine wp_seq ?_
                        refine wp_region_lit ?_
                        refine st_run tbOk 1 hA (e' := (4, .bool false) :: _) rfl ?_; clear hA; intro a hA
                        refine wpList_nil ?_
                        replace hA := hA.sel [4] (e' := [(4, .bool false)]) rfl
                        refine xt_norm ?_
                        refine wp_ret (xb_ret (xt_ret (xt_ret (xb_ret (xt_ret ?_)))))
                        refine ret1 (fn := Tryd.f3) hA rfl rfl ?_
                        exfalso; omega)
                   · first
                     | (exfalso; omega)
                     | (replace hA := hA.rw 66 (v' := .bool false) rfl (vb_false hc56)
                        refine st_run tbOk 2 hA (e' := (68, .bool false) :: (67, .bool false) :: _) rfl ?_; clear hA; intro a hA
                        refine wpList_nil ?_
                        replace hA := hA.sel [5, 6, 7, 8, 9, 68] (e' := [(5, .int .i64 ((W : Nat) : Int)), (6, .int .i64 ((M : Nat) : Int)), (7, .pointer (some ⟨b2, 0, none⟩)), (8, .int .i64 ((se : Nat) : Int)), (9, .int .i64 ((k : Nat) : Int)), (68, .bool false)]) rfl
                        refine xt_norm ?_
                        refine cd_cond_f hA rfl ?_
                        refine wp_skip ?_
                        refine xb_norm ?_
                        refine xt_norm ?_
                        refine wp_region_lit ?_
                        refine st_run tbOk 2 hA (e' := (39, .int .i64 (IntKind.i64.wrap (((k : Nat) : Int) + 1))) :: (38, .int .i64 ((k : Nat) : Int)) :: _) rfl ?_; clear hA; intro a hA
                        replace hA := hA.rw 39 (v' := .int .i64 ((k + 1 : Nat) : Int)) rfl (wr64 (by omega) (by omega) (by omega))
                        refine st_run tbOk 1 hA (e' := (9, .int .i64 ((k + 1 : Nat) : Int)) :: _) rfl ?_; clear hA; intro a hA
                        refine wpList_nil ?_
                        replace hA := hA.sel [5, 6, 7, 8, 9] (e' := [(5, .int .i64 ((W : Nat) : Int)), (6, .int .i64 ((M : Nat) : Int)), (7, .pointer (some ⟨b2, 0, none⟩)), (8, .int .i64 ((se : Nat) : Int)), (9, .int .i64 ((k + 1 : Nat) : Int))]) rfl
                        replace hS := hS.drop1
                        replace hS := hS.front 2 (C := C27) (L' := L42 :: (E44 ++ D23) :: F) rfl rfl
                        replace hS := hS.drop1
                        replace hS := hS.front 1 (C := (E44 ++ D23)) (L' := L42 :: F) rfl rfl
                        replace hS := hS.front 1 (C := L42) (L' := (E44 ++ D23) :: F) rfl rfl
                        exact lp_next _ (by omega) ⟨(k + 1), s, t, (l - 1), se, L42, (E44 ++ D23), rfl, (hA.sel [5, 6, 7, 8, 9] rfl), hS, by omega, by omega, (show TI W M (k + 1 - 1) _ _ _ _ by rw [show k + 1 - 1 = k - 1 + 1 by omega]; exact hn), hM43, dd48, sz39⟩)))
       · refine st_run tbOk 2 hA (e' := (41, .pointer (some ⟨b2, 0, none⟩)) :: (40, .int .i64 ((se : Nat) : Int)) :: _) rfl ?_; clear hA; intro a hA
         replace hS := hS.front 1 (C := D4) (L' := L4 :: F) rfl rfl
         replace hS := hS.front 1 (C := L4) (L' := D4 :: F) rfl rfl
         refine st_call0 hA rfl rfl rfl isfn10 rfl rfl (by decide) (ctick10 hS hM4 hdd4 hsz4 (one_of (fun _ => ⟨⟨hl1, (show l ≤ 1000 by omega)⟩, ht1, (show t ≤ 1000 by omega)⟩)) (by exact Nat.le_of_ble_eq_true rfl) (by first | decide | omega) (by first | decide | omega)) ?_
         clear hA hS; rintro _ w57 a ⟨L58, D59, out60, A61, c62, C63, hM64, hU65, hum66, hud67, hdx68, rfl, hS⟩ hA
         have dd69 : ∀ x ∈ (([(2, 1, 1, 0, 0, 0, 0, 0, 0, 0, A11, c12, ([] : List UInt8), s, t, l, 0, 0, 0, 0, 0, 0, 0, 0, 0, 0, none, 0, ([] : List UInt8))]).map (tick1 ((W : Nat) : Int) ((M : Nat) : Int))), encCall_dd w0 D59 x := tick_dd (hdx68.calls hdd4)
         have sz70 : ∀ x ∈ (([(2, 1, 1, 0, 0, 0, 0, 0, 0, 0, A11, c12, ([] : List UInt8), s, t, l, 0, 0, 0, 0, 0, 0, 0, 0, 0, 0, none, 0, ([] : List UInt8))]).map (tick1 ((W : Nat) : Int) ((M : Nat) : Int))), csz x := tick_sz hsz4
         have et71 : tick1 ((W : Nat) : Int) ((M : Nat) : Int) (2, 1, 1, 0, 0, 0, 0, 0, 0, 0, A11, c12, ([] : List UInt8), s, t, l, 0, 0, 0, 0, 0, 0, 0, 0, 0, 0, none, 0, ([] : List UInt8)) = (2, 1, 1, 0, 0, 0, 0, 0, 0, 0, A11, c12, ([] : List UInt8), 3, t, (l - 1), 0, 0, 0, 0, 0, 0, 0, 0, 0, 0, none, 0, ([] : List UInt8)) := tick_b (x := (2, 1, 1, 0, 0, 0, 0, 0, 0, 0, A11, c12, ([] : List UInt8), s, t, l, 0, 0, 0, 0, 0, 0, 0, 0, 0, 0, none, 0, ([] : List UInt8))) hs hc1 hc2
         have ea72 : again1 ((M : Nat) : Int) (2, 1, 1, 0, 0, 0, 0, 0, 0, 0, A11, c12, ([] : List UInt8), s, t, l, 0, 0, 0, 0, 0, 0, 0, 0, 0, 0, none, 0, ([] : List UInt8)) = false := ag_n (fun h => h.2.2 hc2)
         have hol76 : out60.length = 0 := by
             have h := congrArg List.length hum66
             simp only [List.length_map, List.filter, ea72, List.length_cons, List.length_nil] at h
             exact h
         have hM73 : CR b2 1 ((W : Nat) : Int) ((M : Nat) : Int) [(2, 1, 1, 0, 0, 0, 0, 0, 0, 0, A11, c12, ([] : List UInt8), 3, t, (l - 1), 0, 0, 0, 0, 0, 0, 0, 0, 0, 0, none, 0, ([] : List UInt8))] L58 := by
             have h := hM64
             rw [List.map_cons, List.map_nil, et71] at h
             exact h
         have dd74 : ∀ x ∈ [(2, 1, 1, 0, 0, 0, 0, 0, 0, 0, A11, c12, ([] : List UInt8), 3, t, (l - 1), 0, 0, 0, 0, 0, 0, 0, 0, 0, 0, none, 0, ([] : List UInt8))], encCall_dd w0 D59 x := by
             have h := dd69
             rw [List.map_cons, List.map_nil, et71] at h
             exact h
         have sz75 : ∀ x ∈ [(2, 1, 1, 0, 0, 0, 0, 0, 0, 0, A11, c12, ([] : List UInt8), 3, t, (l - 1), 0, 0, 0, 0, 0, 0, 0, 0, 0, 0, none, 0, ([] : List UInt8))], csz x := by
             have h := sz70
             rw [List.map_cons, List.map_nil, et71] at h
             exact h
         refine st_run tbOk 1 hA (e' := (43, .int .i64 ((out60.length : Nat) : Int)) :: _) rfl ?_; clear hA; intro a hA
         replace hA := hA.rw 43 (v' := .int .i64 0) rfl (by rw [hol76]; rfl)
         refine st_run tbOk 1 hA (e' := (44, .int .i64 (IntKind.i64.wrap (((se : Nat) : Int) + 0))) :: _) rfl ?_; clear hA; intro a hA
         replace hA := hA.rw 44 (v' := .int .i64 ((se + 0 : Nat) : Int)) rfl (wr64 (by omega) (by omega) (by omega))
         replace hA := hA.rw 44 (v' := .int .i64 ((se : Nat) : Int)) rfl (vint (by omega))
         refine st_run tbOk 1 hA (e' := (8, .int .i64 ((se : Nat) : Int)) :: _) rfl ?_; clear hA; intro a hA
         refine wpList_nil ?_
         replace hA := hA.sel [5, 6, 7, 8, 9] (e' := [(5, .int .i64 ((W : Nat) : Int)), (6, .int .i64 ((M : Nat) : Int)), (7, .pointer (some ⟨b2, 0, none⟩)), (8, .int .i64 ((se : Nat) : Int)), (9, .int .i64 ((k : Nat) : Int))]) rfl
         refine xt_norm ?_
         refine wp_seq ?_
         refine wp_region_lit ?_
         refine st_run tbOk 1 hA (e' := (46, .pointer (some ⟨b2, 0, none⟩)) :: _) rfl ?_; clear hA; intro a hA
         replace hS := hS.front 2 (C := D59) (L' := C63 :: L58 :: F) rfl rfl
         replace hS := hS.front 2 (C := L58) (L' := D59 :: C63 :: F) rfl rfl
         refine st_call0 hA rfl rfl rfl isfn11 rfl rfl (by decide) (cget_failed11 hS hM73 (k := 0) (x := (2, 1, 1, 0, 0, 0, 0, 0, 0, 0, A11, c12, ([] : List UInt8), 3, t, (l - 1), 0, 0, 0, 0, 0, 0, 0, 0, 0, 0, none, 0, ([] : List UInt8))) rfl (Nat.le_of_ble_eq_true rfl) rfl rfl) ?_
         clear hA hS; rintro _ w77 a ⟨L78, hM79, rfl, hS⟩ hA
         refine st_run tbOk 4 hA (e' := (50, .iface 52 (.int .i64 10)) :: (49, .agg #[.int .u64 0, .int .u64 0, .int .u32 0, .int .u16 0, .int .u16 0, .int .u64 0, .int .u32 0, .int .u8 0, .int .u64 0, .int .u64 0, .slice none 0 0]) :: (48, .int .i64 3) :: (45, .tuple #[.int .i64 3, .agg #[.int .u64 0, .int .u64 0, .int .u32 0, .int .u16 0, .int .u16 0, .int .u64 0, .int .u32 0, .int .u8 0, .int .u64 0, .int .u64 0, .slice none 0 0], .iface 52 (.int .i64 10)]) :: _) rfl ?_; clear hA; intro a hA
         refine st_alloc tbOk hA hS [.int .u64 0, .int .u64 0, .int .u32 0, .int .u16 0, .int .u16 0, .int .u64 0, .int .u32 0, .int .u8 0, .int .u64 0, .int .u64 0, .slice none 0 0] rfl rfl rfl rfl rfl (by decide) ?_; clear hA hS; intro b80 w81 a hS hA
         refine st_run tbOk 1 hA (e' := (10, .int .i64 3) :: _) rfl ?_; clear hA; intro a hA
         refine st_store tbOk hA hS [.int .u64 0, .int .u64 0, .int .u32 0, .int .u16 0, .int .u16 0, .int .u64 0, .int .u32 0, .int .u8 0, .int .u64 0, .int .u64 0, .slice none 0 0] [.int .u64 0, .int .u64 0, .int .u32 0, .int .u16 0, .int .u16 0, .int .u64 0, .int .u32 0, .int .u8 0, .int .u64 0, .int .u64 0, .slice none 0 0] rfl rfl rfl rfl rfl rfl (by simp [Value.oneCell']) (Nat.le_of_ble_eq_true rfl) rfl rfl rfl ?_; clear hS; intro w82 hS
         refine st_run tbOk 1 hA (e' := (12, .iface 52 (.int .i64 10)) :: _) rfl ?_; clear hA; intro a hA
         refine wpList_nil ?_
         replace hA := hA.sel [5, 6, 7, 8, 9, 10, 12] (e' := [(5, .int .i64 ((W : Nat) : Int)), (6, .int .i64 ((M : Nat) : Int)), (7, .pointer (some ⟨b2, 0, none⟩)), (8, .int .i64 ((se : Nat) : Int)), (9, .int .i64 ((k : Nat) : Int)), (10, .int .i64 3), (12, .iface 52 (.int .i64 10))]) rfl
         refine xt_norm ?_
         refine wp_seq ?_
         refine wp_region_lit ?_
         refine st_run tbOk 6 hA (e' := (56, .int .i64 (IntKind.i64.wrap (((W : Nat) : Int) * ((M : Nat) : Int)))) :: (55, .int .i64 ((M : Nat) : Int)) :: (54, .int .i64 ((W : Nat) : Int)) :: (53, .int .i64 ((k : Nat) : Int)) :: (52, .bool true) :: (51, .int .i64 3) :: _) rfl ?_; clear hA; intro a hA
         replace hA := hA.rw 56 (v' := .int .i64 ((W * M : Nat) : Int)) rfl (wr64 (by omega) (by omega) (by omega))
         refine st_run tbOk 1 hA (e' := (57, .bool (decide (((k : Nat) : Int) ≥ ((W * M : Nat) : Int)))) :: _) rfl ?_; clear hA; intro a hA
         by_cases hc83 : ((k : Nat) : Int) ≥ ((W * M : Nat) : Int)
         · first
           | (exfalso; omega)
           | (replace hA := hA.rw 57 (v' := .bool true) rfl (vb_true hc83)
              refine st_run tbOk 8 hA (e' := (65, .int .i64 (IntKind.i64.wrap (((W : Nat) : Int) * ((M : Nat) : Int)))) :: (64, .int .i64 ((M : Nat) : Int)) :: (63, .int .i64 ((W : Nat) : Int)) :: (62, .int .i64 ((k : Nat) : Int)) :: (61, .bool true) :: (60, .iface 52 (.int .i64 10)) :: (59, .bool false) :: (58, .bool false) :: _) rfl ?_; clear hA; intro a hA
              replace hA := hA.rw 65 (v' := .int .i64 ((W * M : Nat) : Int)) rfl (wr64 (by omega) (by omega) (by omega))
              refine st_run tbOk 1 hA (e' := (66, .bool (decide (((k : Nat) : Int) ≥ ((W * M : Nat) : Int)))) :: _) rfl ?_; clear hA; intro a hA
              by_cases hc84 : ((k : Nat) : Int) ≥ ((W * M : Nat) : Int)
              · first
                | (exfalso; omega)
                | (replace hA := hA.rw 66 (v' := .bool true) rfl (vb_true hc84)
                   refine st_run tbOk 2 hA (e' := (68, .bool false) :: (67, .bool false) :: _) rfl ?_; clear hA; intro a hA
                   refine wpList_nil ?_
                   replace hA := hA.sel [5, 6, 7, 8, 9, 68] (e' := [(5, .int .i64 ((W : Nat) : Int)), (6, .int .i64 ((M : Nat) : Int)), (7, .pointer (some ⟨b2, 0, none⟩)), (8, .int .i64 ((se : Nat) : Int)), (9, .int .i64 ((k : Nat) : Int)), (68, .bool false)]) rfl
                   refine xt_norm ?_
                   refine cd_cond_f hA rfl ?_
                   refine wp_skip ?_
                   refine xb_norm ?_
                   refine xt_norm ?_
                   refine wp_region_lit ?_
                   refine st_run tbOk 2 hA (e' := (39, .int .i64 (IntKind.i64.wrap (((k : Nat) : Int) + 1))) :: (38, .int .i64 ((k : Nat) : Int)) :: _) rfl ?_; clear hA; intro a hA
                   replace hA := hA.rw 39 (v' := .int .i64 ((k + 1 : Nat) : Int)) rfl (wr64 (by omega) (by omega) (by omega))
                   refine st_run tbOk 1 hA (e' := (9, .int .i64 ((k + 1 : Nat) : Int)) :: _) rfl ?_; clear hA; intro a hA
                   refine wpList_nil ?_
                   replace hA := hA.sel [5, 6, 7, 8, 9] (e' := [(5, .int .i64 ((W : Nat) : Int)), (6, .int .i64 ((M : Nat) : Int)), (7, .pointer (some ⟨b2, 0, none⟩)), (8, .int .i64 ((se : Nat) : Int)), (9, .int .i64 ((k + 1 : Nat) : Int))]) rfl
                   replace hS := hS.drop1
                   replace hS := hS.front 2 (C := C63) (L' := L78 :: D59 :: F) rfl rfl
                   replace hS := hS.drop1
                   replace hS := hS.front 1 (C := D59) (L' := L78 :: F) rfl rfl
                   replace hS := hS.front 1 (C := L78) (L' := D59 :: F) rfl rfl
                   exact lp_next _ (by omega) ⟨(k + 1), 3, t, (l - 1), se, L78, D59, rfl, (hA.sel [5, 6, 7, 8, 9] rfl), hS, by omega, by omega, (show TI W M (k + 1 - 1) _ _ _ _ by rw [show k + 1 - 1 = k - 1 + 1 by omega]; exact hn), hM79, dd74, sz75⟩)
              · first
                | (exfalso; omega)
                | (replace hA := hA.rw 66 (v' := .bool false) rfl (vb_false hc84)
                   refine st_run tbOk 2 hA (e' := (68, .bool true) :: (67, .bool true) :: _) rfl ?_; clear hA; intro a hA
                   refine wpList_nil ?_
                   replace hA := hA.sel [5, 6, 7, 8, 9, 68] (e' := [(5, .int .i64 ((W : Nat) : Int)), (6, .int .i64 ((M : Nat) : Int)), (7, .pointer (some ⟨b2, 0, none⟩)), (8, .int .i64 ((se : Nat) : Int)), (9, .int .i64 ((k : Nat) : Int)), (68, .bool true)]) rfl
                   refine xt_norm ?_
                   refine cd_cond_t hA rfl ?_
                   refine wp_seq ?_
                   refine wp_region_lit ?_
                   refine st_run tbOk 1 hA (e' := (4, .bool false) :: _) rfl ?_; clear hA; intro a hA
                   refine wpList_nil ?_
                   replace hA := hA.sel [4] (e' := [(4, .bool false)]) rfl
                   refine xt_norm ?_
                   refine wp_ret (xb_ret (xt_ret (xt_ret (xb_ret (xt_ret ?_)))))
                   refine ret1 (fn := Tryd.f3) hA rfl rfl ?_
                   exfalso; omega))
         · first
           | (exfalso; omega)
           | (replace hA := hA.rw 57 (v' := .bool false) rfl (vb_false hc83)
              refine st_run tbOk 11 hA (e' := (68, .bool true) :: (67, undef) :: (66, undef) :: (65, undef) :: (64, undef) :: (63, undef) :: (62, undef) :: (61, undef) :: (60, undef) :: (59, .bool true) :: (58, .bool true) :: _) rfl ?_; clear hA; intro a hA
              refine wpList_nil ?_
              replace hA := hA.sel [5, 6, 7, 8, 9, 68] (e' := [(5, .int .i64 ((W : Nat) : Int)), (6, .int .i64 ((M : Nat) : Int)), (7, .pointer (some ⟨b2, 0, none⟩)), (8, .int .i64 ((se : Nat) : Int)), (9, .int .i64 ((k : Nat) : Int)), (68, .bool true)]) rfl
              refine xt_norm ?_
              refine cd_cond_t hA rfl ?_
              refine wp_seq ?_
              refine wp_region_lit ?_
              refine st_run tbOk 1 hA (e' := (4, .bool false) :: _) rfl ?_; clear hA; intro a hA
              refine wpList_nil ?_
              replace hA := hA.sel [4] (e' := [(4, .bool false)]) rfl
              refine xt_norm ?_
              refine wp_ret (xb_ret (xt_ret (xt_ret (xb_ret (xt_ret ?_)))))
              refine ret1 (fn := Tryd.f3) hA rfl rfl ?_
              exfalso; omega)
       · refine st_run tbOk 2 hA (e' := (41, .pointer (some ⟨b2, 0, none⟩)) :: (40, .int .i64 ((se : Nat) : Int)) :: _) rfl ?_; clear hA; intro a hA
         replace hS := hS.front 1 (C := D4) (L' := L4 :: F) rfl rfl
         replace hS := hS.front 1 (C := L4) (L' := D4 :: F) rfl rfl
         refine st_call0 hA rfl rfl rfl isfn10 rfl rfl (by decide) (ctick10 hS hM4 hdd4 hsz4 (one_of (fun _ => ⟨⟨hl1, (show l ≤ 1000 by omega)⟩, ht1, (show t ≤ 1000 by omega)⟩)) (by exact Nat.le_of_ble_eq_true rfl) (by first | decide | omega) (by first | decide | omega)) ?_
         clear hA hS; rintro _ w85 a ⟨L86, D87, out88, A89, c90, C91, hM92, hU93, hum94, hud95, hdx96, rfl, hS⟩ hA
         have dd97 : ∀ x ∈ (([(2, 1, 1, 0, 0, 0, 0, 0, 0, 0, A11, c12, ([] : List UInt8), s, t, l, 0, 0, 0, 0, 0, 0, 0, 0, 0, 0, none, 0, ([] : List UInt8))]).map (tick1 ((W : Nat) : Int) ((M : Nat) : Int))), encCall_dd w0 D87 x := tick_dd (hdx96.calls hdd4)
         have sz98 : ∀ x ∈ (([(2, 1, 1, 0, 0, 0, 0, 0, 0, 0, A11, c12, ([] : List UInt8), s, t, l, 0, 0, 0, 0, 0, 0, 0, 0, 0, 0, none, 0, ([] : List UInt8))]).map (tick1 ((W : Nat) : Int) ((M : Nat) : Int))), csz x := tick_sz hsz4
         have et99 : tick1 ((W : Nat) : Int) ((M : Nat) : Int) (2, 1, 1, 0, 0, 0, 0, 0, 0, 0, A11, c12, ([] : List UInt8), s, t, l, 0, 0, 0, 0, 0, 0, 0, 0, 0, 0, none, 0, ([] : List UInt8)) = (2, 1, 1, 0, 0, 0, 0, 0, 0, 0, A11, c12, ([] : List UInt8), s, (t + 1), ((W : Nat) : Int), 0, 0, 0, 0, 0, 0, 0, 0, 0, 0, none, 0, ([] : List UInt8)) := tick_c (x := (2, 1, 1, 0, 0, 0, 0, 0, 0, 0, A11, c12, ([] : List UInt8), s, t, l, 0, 0, 0, 0, 0, 0, 0, 0, 0, 0, none, 0, ([] : List UInt8))) hs hc1 hc2
         have ea100 : again1 ((M : Nat) : Int) (2, 1, 1, 0, 0, 0, 0, 0, 0, 0, A11, c12, ([] : List UInt8), s, t, l, 0, 0, 0, 0, 0, 0, 0, 0, 0, 0, none, 0, ([] : List UInt8)) = true := ag_y hs hc1 hc2
         have hol104 : out88.length = 1 := by
             have h := congrArg List.length hum94
             simp only [List.length_map, List.filter, ea100, List.length_cons, List.length_nil] at h
             exact h
         have hM101 : CR b2 1 ((W : Nat) : Int) ((M : Nat) : Int) [(2, 1, 1, 0, 0, 0, 0, 0, 0, 0, A11, c12, ([] : List UInt8), s, (t + 1), ((W : Nat) : Int), 0, 0, 0, 0, 0, 0, 0, 0, 0, 0, none, 0, ([] : List UInt8))] L86 := by
             have h := hM92
             rw [List.map_cons, List.map_nil, et99] at h
             exact h
         have dd102 : ∀ x ∈ [(2, 1, 1, 0, 0, 0, 0, 0, 0, 0, A11, c12, ([] : List UInt8), s, (t + 1), ((W : Nat) : Int), 0, 0, 0, 0, 0, 0, 0, 0, 0, 0, none, 0, ([] : List UInt8))], encCall_dd w0 D87 x := by
             have h := dd97
             rw [List.map_cons, List.map_nil, et99] at h
             exact h
         have sz103 : ∀ x ∈ [(2, 1, 1, 0, 0, 0, 0, 0, 0, 0, A11, c12, ([] : List UInt8), s, (t + 1), ((W : Nat) : Int), 0, 0, 0, 0, 0, 0, 0, 0, 0, 0, none, 0, ([] : List UInt8))], csz x := by
             have h := sz98
             rw [List.map_cons, List.map_nil, et99] at h
             exact h
         refine st_run tbOk 1 hA (e' := (43, .int .i64 ((out88.length : Nat) : Int)) :: _) rfl ?_; clear hA; intro a hA
         replace hA := hA.rw 43 (v' := .int .i64 1) rfl (by rw [hol104]; rfl)
         refine st_run tbOk 1 hA (e' := (44, .int .i64 (IntKind.i64.wrap (((se : Nat) : Int) + 1))) :: _) rfl ?_; clear hA; intro a hA
         replace hA := hA.rw 44 (v' := .int .i64 ((se + 1 : Nat) : Int)) rfl (wr64 (by omega) (by omega) (by omega))
         replace hA := hA.rw 44 (v' := .int .i64 ((se + 1 : Nat) : Int)) rfl (vint (by omega))
         refine st_run tbOk 1 hA (e' := (8, .int .i64 ((se + 1 : Nat) : Int)) :: _) rfl ?_; clear hA; intro a hA
         refine wpList_nil ?_
         replace hA := hA.sel [5, 6, 7, 8, 9] (e' := [(5, .int .i64 ((W : Nat) : Int)), (6, .int .i64 ((M : Nat) : Int)), (7, .pointer (some ⟨b2, 0, none⟩)), (8, .int .i64 ((se + 1 : Nat) : Int)), (9, .int .i64 ((k : Nat) : Int))]) rfl
         refine xt_norm ?_
         refine wp_seq ?_
         refine wp_region_lit ?_
         refine st_run tbOk 1 hA (e' := (46, .pointer (some ⟨b2, 0, none⟩)) :: _) rfl ?_; clear hA; intro a hA
         replace hS := hS.front 2 (C := D87) (L' := C91 :: L86 :: F) rfl rfl
         replace hS := hS.front 2 (C := L86) (L' := D87 :: C91 :: F) rfl rfl
         refine st_call0 hA rfl rfl rfl isfn11 rfl rfl (by decide) (cget_ok11 hS hM101 (k := 0) (x := (2, 1, 1, 0, 0, 0, 0, 0, 0, 0, A11, c12, ([] : List UInt8), s, (t + 1), ((W : Nat) : Int), 0, 0, 0, 0, 0, 0, 0, 0, 0, 0, none, 0, ([] : List UInt8))) rfl (Nat.le_of_ble_eq_true rfl) rfl (show ¬ s = 3 by omega) dd102 sz103) ?_
         clear hA hS; rintro _ w105 a ⟨L106, E108, A109, c110, hM107, hE111, rfl, hS⟩ hA
         have dd112 := encCall_lefts (E := E108) dd102
         refine st_run tbOk 4 hA (e' := (50, .nilIface) :: (49, .agg #[.int .u64 0, .int .u64 0, .int .u32 0, .int .u16 0, .int .u16 0, .int .u64 0, .int .u32 0, .int .u8 0, .int .u64 0, .int .u64 0, .slice A109 0 c110]) :: (48, .int .i64 s) :: (45, .tuple #[.int .i64 s, .agg #[.int .u64 0, .int .u64 0, .int .u32 0, .int .u16 0, .int .u16 0, .int .u64 0, .int .u32 0, .int .u8 0, .int .u64 0, .int .u64 0, .slice A109 0 c110], .nilIface]) :: _) rfl ?_; clear hA; intro a hA
         refine st_alloc tbOk hA hS [.int .u64 0, .int .u64 0, .int .u32 0, .int .u16 0, .int .u16 0, .int .u64 0, .int .u32 0, .int .u8 0, .int .u64 0, .int .u64 0, .slice none 0 0] rfl rfl rfl rfl rfl (by decide) ?_; clear hA hS; intro b113 w114 a hS hA
         refine st_run tbOk 1 hA (e' := (10, .int .i64 s) :: _) rfl ?_; clear hA; intro a hA
         refine st_store tbOk hA hS [.int .u64 0, .int .u64 0, .int .u32 0, .int .u16 0, .int .u16 0, .int .u64 0, .int .u32 0, .int .u8 0, .int .u64 0, .int .u64 0, .slice A109 0 c110] [.int .u64 0, .int .u64 0, .int .u32 0, .int .u16 0, .int .u16 0, .int .u64 0, .int .u32 0, .int .u8 0, .int .u64 0, .int .u64 0, .slice A109 0 c110] rfl rfl rfl rfl rfl rfl (by simp [Value.oneCell']) (Nat.le_of_ble_eq_true rfl) rfl rfl rfl ?_; clear hS; intro w115 hS
         refine st_run tbOk 1 hA (e' := (12, .nilIface) :: _) rfl ?_; clear hA; intro a hA
         refine wpList_nil ?_
         replace hA := hA.sel [5, 6, 7, 8, 9, 10, 12] (e' := [(5, .int .i64 ((W : Nat) : Int)), (6, .int .i64 ((M : Nat) : Int)), (7, .pointer (some ⟨b2, 0, none⟩)), (8, .int .i64 ((se + 1 : Nat) : Int)), (9, .int .i64 ((k : Nat) : Int)), (10, .int .i64 s), (12, .nilIface)]) rfl
         refine xt_norm ?_
         refine wp_seq ?_
         refine wp_region_lit ?_
         refine st_run tbOk 6 hA (e' := (56, .int .i64 (IntKind.i64.wrap (((W : Nat) : Int) * ((M : Nat) : Int)))) :: (55, .int .i64 ((M : Nat) : Int)) :: (54, .int .i64 ((W : Nat) : Int)) :: (53, .int .i64 ((k : Nat) : Int)) :: (52, .bool (s == 3)) :: (51, .int .i64 s) :: _) rfl ?_; clear hA; intro a hA
         replace hA := hA.rw 56 (v' := .int .i64 ((W * M : Nat) : Int)) rfl (wr64 (by omega) (by omega) (by omega))
         refine st_run tbOk 1 hA (e' := (57, .bool (decide (((k : Nat) : Int) ≥ ((W * M : Nat) : Int)))) :: _) rfl ?_; clear hA; intro a hA
         by_cases hc116 : s = 3
         · first
           | (exfalso; omega)
           | (replace hA := hA.rw 52 (v' := .bool true) rfl (vb_eq_t hc116)
              by_cases hc117 : ((k : Nat) : Int) ≥ ((W * M : Nat) : Int)
              · first
                | (exfalso; omega)
                | (replace hA := hA.rw 57 (v' := .bool true) rfl (vb_true hc117)
                   refine st_run tbOk 8 hA (e' := (65, .int .i64 (IntKind.i64.wrap (((W : Nat) : Int) * ((M : Nat) : Int)))) :: (64, .int .i64 ((M : Nat) : Int)) :: (63, .int .i64 ((W : Nat) : Int)) :: (62, .int .i64 ((k : Nat) : Int)) :: (61, .bool false) :: (60, .nilIface) :: (59, .bool false) :: (58, .bool false) :: _) rfl ?_; clear hA; intro a hA
                   replace hA := hA.rw 65 (v' := .int .i64 ((W * M : Nat) : Int)) rfl (wr64 (by omega) (by omega) (by omega))
                   refine st_run tbOk 1 hA (e' := (66, .bool (decide (((k : Nat) : Int) ≥ ((W * M : Nat) : Int)))) :: _) rfl ?_; clear hA; intro a hA
                   by_cases hc118 : ((k : Nat) : Int) ≥ ((W * M : Nat) : Int)
                   · first
                     | (exfalso; omega)
                     | (replace hA := hA.rw 66 (v' := .bool true) rfl (vb_true hc118)
                        refine st_run tbOk 2 hA (e' := (68, .bool true) :: (67, .bool true) :: _) rfl ?_; clear hA; intro a hA
                        refine wpList_nil ?_
                        replace hA := hA.sel [5, 6, 7, 8, 9, 68] (e' := [(5, .int .i64 ((W : Nat) : Int)), (6, .int .i64 ((M : Nat) : Int)), (7, .pointer (some ⟨b2, 0, none⟩)), (8, .int .i64 ((se + 1 : Nat) : Int)), (9, .int .i64 ((k : Nat) : Int)), (68, .bool true)]) rfl
                        refine xt_norm ?_
                        refine cd_cond_t hA rfl ?_
                        refine wp_seq ?_
                        refine wp_region_lit ?_
                        refine st_run tbOk 1 hA (e' := (4, .bool false) :: _) rfl ?_; clear hA; intro a hA
                        refine wpList_nil ?_
                        replace hA := hA.sel [4] (e' := [(4, .bool false)]) rfl
                        refine xt_norm ?_
                        refine wp_ret (xb_ret (xt_ret (xt_ret (xb_ret (xt_ret ?_)))))
                        refine ret1 (fn := Tryd.f3) hA rfl rfl ?_
                        exfalso; omega)
                   · first
                     | (exfalso; omega)
                     | (replace hA := hA.rw 66 (v' := .bool false) rfl (vb_false hc118)
                        refine st_run tbOk 2 hA (e' := (68, .bool false) :: (67, .bool false) :: _) rfl ?_; clear hA; intro a hA
                        refine wpList_nil ?_
                        replace hA := hA.sel [5, 6, 7, 8, 9, 68] (e' := [(5, .int .i64 ((W : Nat) : Int)), (6, .int .i64 ((M : Nat) : Int)), (7, .pointer (some ⟨b2, 0, none⟩)), (8, .int .i64 ((se + 1 : Nat) : Int)), (9, .int .i64 ((k : Nat) : Int)), (68, .bool false)]) rfl
                        refine xt_norm ?_
                        refine cd_cond_f hA rfl ?_
                        refine wp_skip ?_
                        refine xb_norm ?_
                        refine xt_norm ?_
                        refine wp_region_lit ?_
                        refine st_run tbOk 2 hA (e' := (39, .int .i64 (IntKind.i64.wrap (((k : Nat) : Int) + 1))) :: (38, .int .i64 ((k : Nat) : Int)) :: _) rfl ?_; clear hA; intro a hA
                        replace hA := hA.rw 39 (v' := .int .i64 ((k + 1 : Nat) : Int)) rfl (wr64 (by omega) (by omega) (by omega))
                        refine st_run tbOk 1 hA (e' := (9, .int .i64 ((k + 1 : Nat) : Int)) :: _) rfl ?_; clear hA; intro a hA
                        refine wpList_nil ?_
                        replace hA := hA.sel [5, 6, 7, 8, 9] (e' := [(5, .int .i64 ((W : Nat) : Int)), (6, .int .i64 ((M : Nat) : Int)), (7, .pointer (some ⟨b2, 0, none⟩)), (8, .int .i64 ((se + 1 : Nat) : Int)), (9, .int .i64 ((k + 1 : Nat) : Int))]) rfl
                        replace hS := hS.drop1
                        replace hS := hS.front 2 (C := C91) (L' := L106 :: (E108 ++ D87) :: F) rfl rfl
                        replace hS := hS.drop1
                        replace hS := hS.front 1 (C := (E108 ++ D87)) (L' := L106 :: F) rfl rfl
                        replace hS := hS.front 1 (C := L106) (L' := (E108 ++ D87) :: F) rfl rfl
                        exact lp_next _ (by omega) ⟨(k + 1), s, (t + 1), ((W : Nat) : Int), (se + 1), L106, (E108 ++ D87), rfl, (hA.sel [5, 6, 7, 8, 9] rfl), hS, by omega, by omega, (show TI W M (k + 1 - 1) _ _ _ _ by rw [show k + 1 - 1 = k - 1 + 1 by omega]; exact hn), hM107, dd112, sz103⟩))
              · first
                | (exfalso; omega)
                | (replace hA := hA.rw 57 (v' := .bool false) rfl (vb_false hc117)
                   refine st_run tbOk 11 hA (e' := (68, .bool true) :: (67, undef) :: (66, undef) :: (65, undef) :: (64, undef) :: (63, undef) :: (62, undef) :: (61, undef) :: (60, undef) :: (59, .bool true) :: (58, .bool true) :: _) rfl ?_; clear hA; intro a hA
                   refine wpList_nil ?_
                   replace hA := hA.sel [5, 6, 7, 8, 9, 68] (e' := [(5, .int .i64 ((W : Nat) : Int)), (6, .int .i64 ((M : Nat) : Int)), (7, .pointer (some ⟨b2, 0, none⟩)), (8, .int .i64 ((se + 1 : Nat) : Int)), (9, .int .i64 ((k : Nat) : Int)), (68, .bool true)]) rfl
                   refine xt_norm ?_
                   refine cd_cond_t hA rfl ?_
                   refine wp_seq ?_
                   refine wp_region_lit ?_
                   refine st_run tbOk 1 hA (e' := (4, .bool false) :: _) rfl ?_; clear hA; intro a hA
                   refine wpList_nil ?_
                   replace hA := hA.sel [4] (e' := [(4, .bool false)]) rfl
                   refine xt_norm ?_
                   refine wp_ret (xb_ret (xt_ret (xt_ret (xb_ret (xt_ret ?_)))))
                   refine ret1 (fn := Tryd.f3) hA rfl rfl ?_
                   exfalso; omega))
         · first
           | (exfalso; omega)
           | (replace hA := hA.rw 52 (v' := .bool false) rfl (vb_eq_f hc116)
              by_cases hc119 : ((k : Nat) : Int) ≥ ((W * M : Nat) : Int)
              · first
                | (exfalso; omega)
                | (replace hA := hA.rw 57 (v' := .bool true) rfl (vb_true hc119)
                   refine st_run tbOk 11 hA (e' := (68, .bool true) :: (67, undef) :: (66, undef) :: (65, undef) :: (64, undef) :: (63, undef) :: (62, undef) :: (61, undef) :: (60, undef) :: (59, .bool true) :: (58, .bool true) :: _) rfl ?_; clear hA; intro a hA
                   refine wpList_nil ?_
                   replace hA := hA.sel [5, 6, 7, 8, 9, 68] (e' := [(5, .int .i64 ((W : Nat) : Int)), (6, .int .i64 ((M : Nat) : Int)), (7, .pointer (some ⟨b2, 0, none⟩)), (8, .int .i64 ((se + 1 : Nat) : Int)), (9, .int .i64 ((k : Nat) : Int)), (68, .bool true)]) rfl
                   refine xt_norm ?_
                   refine cd_cond_t hA rfl ?_
                   refine wp_seq ?_
                   refine wp_region_lit ?_
                   refine st_run tbOk 1 hA (e' := (4, .bool false) :: _) rfl ?_; clear hA; intro a hA
                   refine wpList_nil ?_
                   replace hA := hA.sel [4] (e' := [(4, .bool false)]) rfl
                   refine xt_norm ?_
                   refine wp_ret (xb_ret (xt_ret (xt_ret (xb_ret (xt_ret ?_)))))
                   refine ret1 (fn := Tryd.f3) hA rfl rfl ?_
                   exfalso; omega)
              · first
                | (exfalso; omega)
                | (replace hA := hA.rw 57 (v' := .bool false) rfl (vb_false hc119)
                   refine st_run tbOk 8 hA (e' := (65, .int .i64 (IntKind.i64.wrap (((W : Nat) : Int) * ((M : Nat) : Int)))) :: (64, .int .i64 ((M : Nat) : Int)) :: (63, .int .i64 ((W : Nat) : Int)) :: (62, .int .i64 ((k : Nat) : Int)) :: (61, .bool false) :: (60, .nilIface) :: (59, .bool false) :: (58, .bool false) :: _) rfl ?_; clear hA; intro a hA
                   replace hA := hA.rw 65 (v' := .int .i64 ((W * M : Nat) : Int)) rfl (wr64 (by omega) (by omega) (by omega))
                   refine st_run tbOk 1 hA (e' := (66, .bool (decide (((k : Nat) : Int) ≥ ((W * M : Nat) : Int)))) :: _) rfl ?_; clear hA; intro a hA
                   by_cases hc120 : ((k : Nat) : Int) ≥ ((W * M : Nat) : Int)
                   · first
                     | (exfalso; omega)
                     | (replace hA := hA.rw 66 (v' := .bool true) rfl (vb_true hc120)
                        refine st_run tbOk 2 hA (e' := (68, .bool true) :: (67, .bool true) :: _) rfl ?_; clear hA; intro a hA
                        refine wpList_nil ?_
                        replace hA := hA.sel [5, 6, 7, 8, 9, 68] (e' := [(5, .int .i64 ((W : Nat) : Int)), (6, .int .i64 ((M : Nat) : Int)), (7, .pointer (some ⟨b2, 0, none⟩)), (8, .int .i64 ((se + 1 : Nat) : Int)), (9, .int .i64 ((k : Nat) : Int)), (68, .bool true)]) rfl
                        refine xt_norm ?_
                        refine cd_cond_t hA rfl ?_
                        refine wp_seq ?_
                        refine wp_region_lit ?_
                        refine st_run tbOk 1 hA (e' := (4, .bool false) :: _) rfl ?_; clear hA; intro a hA
                        refine wpList_nil ?_
                        replace hA := hA.sel [4] (e' := [(4, .bool false)]) rfl
                        refine xt_norm ?_
                        refine wp_ret (xb_ret (xt_ret (xt_ret (xb_ret (xt_ret ?_)))))
                        refine ret1 (fn := Tryd.f3) hA rfl rfl ?_
                        exfalso; omega)
                   · first
                     | (exfalso; omega)
                     | (replace hA := hA.rw 66 (v' := .bool false) rfl (vb_false hc120)
                        refine st_run tbOk 2 hA (e' := (68, .bool false) :: (67, .bool false) :: _) rfl ?_; clear hA; intro a hA
                        refine wpList_nil ?_
                        replace hA := hA.sel [5, 6, 7, 8, 9, 68] (e' := [(5, .int .i64 ((W : Nat) : Int)), (6, .int .i64 ((M : Nat) : Int)), (7, .pointer (some ⟨b2, 0, none⟩)), (8, .int .i64 ((se + 1 : Nat) : Int)), (9, .int .i64 ((k : Nat) : Int)), (68, .bool false)]) rfl
                        refine xt_norm ?_
                        refine cd_cond_f hA rfl ?_
                        refine wp_skip ?_
                        refine xb_norm ?_
                        refine xt_norm ?_
                        refine wp_region_lit ?_
                        refine st_run tbOk 2 hA (e' := (39, .int .i64 (IntKind.i64.wrap (((k : Nat) : Int) + 1))) :: (38, .int .i64 ((k : Nat) : Int)) :: _) rfl ?_; clear hA; intro a hA
                        replace hA := hA.rw 39 (v' := .int .i64 ((k + 1 : Nat) : Int)) rfl (wr64 (by omega) (by omega) (by omega))
                        refine st_run tbOk 1 hA (e' := (9, .int .i64 ((k + 1 : Nat) : Int)) :: _) rfl ?_; clear hA; intro a hA
                        refine wpList_nil ?_
                        replace hA := hA.sel [5, 6, 7, 8, 9] (e' := [(5, .int .i64 ((W : Nat) : Int)), (6, .int .i64 ((M : Nat) : Int)), (7, .pointer (some ⟨b2, 0, none⟩)), (8, .int .i64 ((se + 1 : Nat) : Int)), (9, .int .i64 ((k + 1 : Nat) : Int))]) rfl
                        replace hS := hS.drop1
                        replace hS := hS.front 2 (C := C91) (L' := L106 :: (E108 ++ D87) :: F) rfl rfl
                        replace hS := hS.drop1
                        replace hS := hS.front 1 (C := (E108 ++ D87)) (L' := L106 :: F) rfl rfl
                        replace hS := hS.front 1 (C := L106) (L' := (E108 ++ D87) :: F) rfl rfl
                        exact lp_next _ (by omega) ⟨(k + 1), s, (t + 1), ((W : Nat) : Int), (se + 1), L106, (E108 ++ D87), rfl, (hA.sel [5, 6, 7, 8, 9] rfl), hS, by omega, by omega, (show TI W M (k + 1 - 1) _ _ _ _ by rw [show k + 1 - 1 = k - 1 + 1 by omega]; exact hn), hM107, dd112, sz103⟩)))
       · refine st_run tbOk 2 hA (e' := (41, .pointer (some ⟨b2, 0, none⟩)) :: (40, .int .i64 ((se : Nat) : Int)) :: _) rfl ?_; clear hA; intro a hA
         replace hS := hS.front 1 (C := D4) (L' := L4 :: F) rfl rfl
         replace hS := hS.front 1 (C := L4) (L' := D4 :: F) rfl rfl
         refine st_call0 hA rfl rfl rfl isfn10 rfl rfl (by decide) (ctick10 hS hM4 hdd4 hsz4 (one_of (fun h => absurd (show s = 1 from h) (by omega))) (by exact Nat.le_of_ble_eq_true rfl) (by first | decide | omega) (by first | decide | omega)) ?_
         clear hA hS; rintro _ w121 a ⟨L122, D123, out124, A125, c126, C127, hM128, hU129, hum130, hud131, hdx132, rfl, hS⟩ hA
         have dd133 : ∀ x ∈ (([(2, 1, 1, 0, 0, 0, 0, 0, 0, 0, A11, c12, ([] : List UInt8), s, t, l, 0, 0, 0, 0, 0, 0, 0, 0, 0, 0, none, 0, ([] : List UInt8))]).map (tick1 ((W : Nat) : Int) ((M : Nat) : Int))), encCall_dd w0 D123 x := tick_dd (hdx132.calls hdd4)
         have sz134 : ∀ x ∈ (([(2, 1, 1, 0, 0, 0, 0, 0, 0, 0, A11, c12, ([] : List UInt8), s, t, l, 0, 0, 0, 0, 0, 0, 0, 0, 0, 0, none, 0, ([] : List UInt8))]).map (tick1 ((W : Nat) : Int) ((M : Nat) : Int))), csz x := tick_sz hsz4
         have et135 : tick1 ((W : Nat) : Int) ((M : Nat) : Int) (2, 1, 1, 0, 0, 0, 0, 0, 0, 0, A11, c12, ([] : List UInt8), s, t, l, 0, 0, 0, 0, 0, 0, 0, 0, 0, 0, none, 0, ([] : List UInt8)) = (2, 1, 1, 0, 0, 0, 0, 0, 0, 0, A11, c12, ([] : List UInt8), s, t, l, 0, 0, 0, 0, 0, 0, 0, 0, 0, 0, none, 0, ([] : List UInt8)) := tick_n (x := (2, 1, 1, 0, 0, 0, 0, 0, 0, 0, A11, c12, ([] : List UInt8), s, t, l, 0, 0, 0, 0, 0, 0, 0, 0, 0, 0, none, 0, ([] : List UInt8))) (show ¬ s = 1 by omega)
         have ea136 : again1 ((M : Nat) : Int) (2, 1, 1, 0, 0, 0, 0, 0, 0, 0, A11, c12, ([] : List UInt8), s, t, l, 0, 0, 0, 0, 0, 0, 0, 0, 0, 0, none, 0, ([] : List UInt8)) = false := ag_n (fun h => absurd (show s = 1 from h.1) (by omega))
         have hol140 : out124.length = 0 := by
             have h := congrArg List.length hum130
             simp only [List.length_map, List.filter, ea136, List.length_cons, List.length_nil] at h
             exact h
         have hM137 : CR b2 1 ((W : Nat) : Int) ((M : Nat) : Int) [(2, 1, 1, 0, 0, 0, 0, 0, 0, 0, A11, c12, ([] : List UInt8), s, t, l, 0, 0, 0, 0, 0, 0, 0, 0, 0, 0, none, 0, ([] : List UInt8))] L122 := by
             have h := hM128
             rw [List.map_cons, List.map_nil, et135] at h
             exact h
         have dd138 : ∀ x ∈ [(2, 1, 1, 0, 0, 0, 0, 0, 0, 0, A11, c12, ([] : List UInt8), s, t, l, 0, 0, 0, 0, 0, 0, 0, 0, 0, 0, none, 0, ([] : List UInt8))], encCall_dd w0 D123 x := by
             have h := dd133
             rw [List.map_cons, List.map_nil, et135] at h
             exact h
         have sz139 : ∀ x ∈ [(2, 1, 1, 0, 0, 0, 0, 0, 0, 0, A11, c12, ([] : List UInt8), s, t, l, 0, 0, 0, 0, 0, 0, 0, 0, 0, 0, none, 0, ([] : List UInt8))], csz x := by
             have h := sz134
             rw [List.map_cons, List.map_nil, et135] at h
             exact h
         refine st_run tbOk 1 hA (e' := (43, .int .i64 ((out124.length : Nat) : Int)) :: _) rfl ?_; clear hA; intro a hA
         replace hA := hA.rw 43 (v' := .int .i64 0) rfl (by rw [hol140]; rfl)
         refine st_run tbOk 1 hA (e' := (44, .int .i64 (IntKind.i64.wrap (((se : Nat) : Int) + 0))) :: _) rfl ?_; clear hA; intro a hA
         replace hA := hA.rw 44 (v' := .int .i64 ((se + 0 : Nat) : Int)) rfl (wr64 (by omega) (by omega) (by omega))
         replace hA := hA.rw 44 (v' := .int .i64 ((se : Nat) : Int)) rfl (vint (by omega))
         refine st_run tbOk 1 hA (e' := (8, .int .i64 ((se : Nat) : Int)) :: _) rfl ?_; clear hA; intro a hA
         refine wpList_nil ?_
         replace hA := hA.sel [5, 6, 7, 8, 9] (e' := [(5, .int .i64 ((W : Nat) : Int)), (6, .int .i64 ((M : Nat) : Int)), (7, .pointer (some ⟨b2, 0, none⟩)), (8, .int .i64 ((se : Nat) : Int)), (9, .int .i64 ((k : Nat) : Int))]) rfl
         refine xt_norm ?_
         refine wp_seq ?_
         refine wp_region_lit ?_
         refine st_run tbOk 1 hA (e' := (46, .pointer (some ⟨b2, 0, none⟩)) :: _) rfl ?_; clear hA; intro a hA
         replace hS := hS.front 2 (C := D123) (L' := C127 :: L122 :: F) rfl rfl
         replace hS := hS.front 2 (C := L122) (L' := D123 :: C127 :: F) rfl rfl
         refine st_call0 hA rfl rfl rfl isfn11 rfl rfl (by decide) (cget_failed11 hS hM137 (k := 0) (x := (2, 1, 1, 0, 0, 0, 0, 0, 0, 0, A11, c12, ([] : List UInt8), s, t, l, 0, 0, 0, 0, 0, 0, 0, 0, 0, 0, none, 0, ([] : List UInt8))) rfl (Nat.le_of_ble_eq_true rfl) rfl hs) ?_
         clear hA hS; rintro _ w141 a ⟨L142, hM143, rfl, hS⟩ hA
         refine st_run tbOk 4 hA (e' := (50, .iface 52 (.int .i64 10)) :: (49, .agg #[.int .u64 0, .int .u64 0, .int .u32 0, .int .u16 0, .int .u16 0, .int .u64 0, .int .u32 0, .int .u8 0, .int .u64 0, .int .u64 0, .slice none 0 0]) :: (48, .int .i64 3) :: (45, .tuple #[.int .i64 3, .agg #[.int .u64 0, .int .u64 0, .int .u32 0, .int .u16 0, .int .u16 0, .int .u64 0, .int .u32 0, .int .u8 0, .int .u64 0, .int .u64 0, .slice none 0 0], .iface 52 (.int .i64 10)]) :: _) rfl ?_; clear hA; intro a hA
         refine st_alloc tbOk hA hS [.int .u64 0, .int .u64 0, .int .u32 0, .int .u16 0, .int .u16 0, .int .u64 0, .int .u32 0, .int .u8 0, .int .u64 0, .int .u64 0, .slice none 0 0] rfl rfl rfl rfl rfl (by decide) ?_; clear hA hS; intro b144 w145 a hS hA
         refine st_run tbOk 1 hA (e' := (10, .int .i64 3) :: _) rfl ?_; clear hA; intro a hA
         refine st_store tbOk hA hS [.int .u64 0, .int .u64 0, .int .u32 0, .int .u16 0, .int .u16 0, .int .u64 0, .int .u32 0, .int .u8 0, .int .u64 0, .int .u64 0, .slice none 0 0] [.int .u64 0, .int .u64 0, .int .u32 0, .int .u16 0, .int .u16 0, .int .u64 0, .int .u32 0, .int .u8 0, .int .u64 0, .int .u64 0, .slice none 0 0] rfl rfl rfl rfl rfl rfl (by simp [Value.oneCell']) (Nat.le_of_ble_eq_true rfl) rfl rfl rfl ?_; clear hS; intro w146 hS
         refine st_run tbOk 1 hA (e' := (12, .iface 52 (.int .i64 10)) :: _) rfl ?_; clear hA; intro a hA
         refine wpList_nil ?_
         replace hA := hA.sel [5, 6, 7, 8, 9, 10, 12] (e' := [(5, .int .i64 ((W : Nat) : Int)), (6, .int .i64 ((M : Nat) : Int)), (7, .pointer (some ⟨b2, 0, none⟩)), (8, .int .i64 ((se : Nat) : Int)), (9, .int .i64 ((k : Nat) : Int)), (10, .int .i64 3), (12, .iface 52 (.int .i64 10))]) rfl
         refine xt_norm ?_
         refine wp_seq ?_
         refine wp_region_lit ?_
         refine st_run tbOk 6 hA (e' := (56, .int .i64 (IntKind.i64.wrap (((W : Nat) : Int) * ((M : Nat) : Int)))) :: (55, .int .i64 ((M : Nat) : Int)) :: (54, .int .i64 ((W : Nat) : Int)) :: (53, .int .i64 ((k : Nat) : Int)) :: (52, .bool true) :: (51, .int .i64 3) :: _) rfl ?_; clear hA; intro a hA
         replace hA := hA.rw 56 (v' := .int .i64 ((W * M : Nat) : Int)) rfl (wr64 (by omega) (by omega) (by omega))
         refine st_run tbOk 1 hA (e' := (57, .bool (decide (((k : Nat) : Int) ≥ ((W * M : Nat) : Int)))) :: _) rfl ?_; clear hA; intro a hA
         by_cases hc147 : ((k : Nat) : Int) ≥ ((W * M : Nat) : Int)
         · first
           | (exfalso; omega)
           | (replace hA := hA.rw 57 (v' := .bool true) rfl (vb_true hc147)
              refine st_run tbOk 8 hA (e' := (65, .int .i64 (IntKind.i64.wrap (((W : Nat) : Int) * ((M : Nat) : Int)))) :: (64, .int .i64 ((M : Nat) : Int)) :: (63, .int .i64 ((W : Nat) : Int)) :: (62, .int .i64 ((k : Nat) : Int)) :: (61, .bool true) :: (60, .iface 52 (.int .i64 10)) :: (59, .bool false) :: (58, .bool false) :: _) rfl ?_; clear hA; intro a hA
              replace hA := hA.rw 65 (v' := .int .i64 ((W * M : Nat) : Int)) rfl (wr64 (by omega) (by omega) (by omega))
              refine st_run tbOk 1 hA (e' := (66, .bool (decide (((k : Nat) : Int) ≥ ((W * M : Nat) : Int)))) :: _) rfl ?_; clear hA; intro a hA
              by_cases hc148 : ((k : Nat) : Int) ≥ ((W * M : Nat) : Int)
              · first
                | (exfalso; omega)
                | (replace hA := hA.rw 66 (v' := .bool true) rfl (vb_true hc148)
                   refine st_run tbOk 2 hA (e' := (68, .bool false) :: (67, .bool false) :: _) rfl ?_; clear hA; intro a hA
                   refine wpList_nil ?_
                   replace hA := hA.sel [5, 6, 7, 8, 9, 68] (e' := [(5, .int .i64 ((W : Nat) : Int)), (6, .int .i64 ((M : Nat) : Int)), (7, .pointer (some ⟨b2, 0, none⟩)), (8, .int .i64 ((se : Nat) : Int)), (9, .int .i64 ((k : Nat) : Int)), (68, .bool false)]) rfl
                   refine xt_norm ?_
                   refine cd_cond_f hA rfl ?_
                   refine wp_skip ?_
                   refine xb_norm ?_
                   refine xt_norm ?_
                   refine wp_region_lit ?_
                   refine st_run tbOk 2 hA (e' := (39, .int .i64 (IntKind.i64.wrap (((k : Nat) : Int) + 1))) :: (38, .int .i64 ((k : Nat) : Int)) :: _) rfl ?_; clear hA; intro a hA
                   replace hA := hA.rw 39 (v' := .int .i64 ((k + 1 : Nat) : Int)) rfl (wr64 (by omega) (by omega) (by omega))
                   refine st_run tbOk 1 hA (e' := (9, .int .i64 ((k + 1 : Nat) : Int)) :: _) rfl ?_; clear hA; intro a hA
                   refine wpList_nil ?_
                   replace hA := hA.sel [5, 6, 7, 8, 9] (e' := [(5, .int .i64 ((W : Nat) : Int)), (6, .int .i64 ((M : Nat) : Int)), (7, .pointer (some ⟨b2, 0, none⟩)), (8, .int .i64 ((se : Nat) : Int)), (9, .int .i64 ((k + 1 : Nat) : Int))]) rfl
                   replace hS := hS.drop1
                   replace hS := hS.front 2 (C := C127) (L' := L142 :: D123 :: F) rfl rfl
                   replace hS := hS.drop1
                   replace hS := hS.front 1 (C := D123) (L' := L142 :: F) rfl rfl
                   replace hS := hS.front 1 (C := L142) (L' := D123 :: F) rfl rfl
                   exact lp_next _ (by omega) ⟨(k + 1), s, t, l, se, L142, D123, rfl, (hA.sel [5, 6, 7, 8, 9] rfl), hS, by omega, by omega, (show TI W M (k + 1 - 1) _ _ _ _ by rw [show k + 1 - 1 = k - 1 + 1 by omega]; exact hn), hM143, dd138, sz139⟩)
              · first
                | (exfalso; omega)
                | (replace hA := hA.rw 66 (v' := .bool false) rfl (vb_false hc148)
                   refine st_run tbOk 2 hA (e' := (68, .bool true) :: (67, .bool true) :: _) rfl ?_; clear hA; intro a hA
                   refine wpList_nil ?_
                   replace hA := hA.sel [5, 6, 7, 8, 9, 68] (e' := [(5, .int .i64 ((W : Nat) : Int)), (6, .int .i64 ((M : Nat) : Int)), (7, .pointer (some ⟨b2, 0, none⟩)), (8, .int .i64 ((se : Nat) : Int)), (9, .int .i64 ((k : Nat) : Int)), (68, .bool true)]) rfl
                   refine xt_norm ?_
                   refine cd_cond_t hA rfl ?_
                   refine wp_seq ?_
                   refine wp_region_lit ?_
                   refine st_run tbOk 1 hA (e' := (4, .bool false) :: _) rfl ?_; clear hA; intro a hA
                   refine wpList_nil ?_
                   replace hA := hA.sel [4] (e' := [(4, .bool false)]) rfl
                   refine xt_norm ?_
                   refine wp_ret (xb_ret (xt_ret (xt_ret (xb_ret (xt_ret ?_)))))
                   refine ret1 (fn := Tryd.f3) hA rfl rfl ?_
                   exfalso; omega))
         · first
           | (exfalso; omega)
           | (replace hA := hA.rw 57 (v' := .bool false) rfl (vb_false hc147)
              refine st_run tbOk 11 hA (e' := (68, .bool true) :: (67, undef) :: (66, undef) :: (65, undef) :: (64, undef) :: (63, undef) :: (62, undef) :: (61, undef) :: (60, undef) :: (59, .bool true) :: (58, .bool true) :: _) rfl ?_; clear hA; intro a hA
              refine wpList_nil ?_
              replace hA := hA.sel [5, 6, 7, 8, 9, 68] (e' := [(5, .int .i64 ((W : Nat) : Int)), (6, .int .i64 ((M : Nat) : Int)), (7, .pointer (some ⟨b2, 0, none⟩)), (8, .int .i64 ((se : Nat) : Int)), (9, .int .i64 ((k : Nat) : Int)), (68, .bool true)]) rfl
              refine xt_norm ?_
              refine cd_cond_t hA rfl ?_
              refine wp_seq ?_
              refine wp_region_lit ?_
              refine st_run tbOk 1 hA (e' := (4, .bool false) :: _) rfl ?_; clear hA; intro a hA
              refine wpList_nil ?_
              replace hA := hA.sel [4] (e' := [(4, .bool false)]) rfl
              refine xt_norm ?_
              refine wp_ret (xb_ret (xt_ret (xt_ret (xb_ret (xt_ret ?_)))))
              refine ret1 (fn := Tryd.f3) hA rfl rfl ?_
              exfalso; omega))
  · first
    | (exfalso; omega)
    | (replace hA := hA.rw 37 (v' := .bool false) rfl (vb_false hc20)
       refine cd_cond_f hA rfl ?_
       refine wp_exit ?_
       refine xt_exit ?_
       refine xt_exit ?_
       refine cd_exit_eq ?_
       refine xt_norm ?_
       refine wp_seq ?_
       refine wp_region_lit ?_
       have hfin := hti.done (by omega)
       replace hA := hA.rw 8 (v' := .int .i64 ((M : Nat) : Int)) rfl (by rw [hfin])
       refine st_run tbOk 4 hA (e' := (4, .bool (((M : Nat) : Int) == ((M : Nat) : Int))) :: (71, .bool (((M : Nat) : Int) == ((M : Nat) : Int))) :: (70, .int .i64 ((M : Nat) : Int)) :: (69, .int .i64 ((M : Nat) : Int)) :: _) rfl ?_; clear hA; intro a hA
       refine wpList_nil ?_
       replace hA := hA.sel [4] (e' := [(4, .bool (((M : Nat) : Int) == ((M : Nat) : Int)))]) rfl
       refine xt_norm ?_
       refine wp_ret ?_
       refine ret1 (fn := Tryd.f3) hA rfl rfl ?_
       replace hS := hS.drop1
       replace hS := hS.drop1
       exact ⟨congrArg Value.bool (beq_iff_eq.2 (by omega)), hS⟩)

theorem once4 {w0 w : World} {F : List Chunk} (hS : St w0 w F) (hg : HG w0) (ma0 ma1 ma2 ma3 ma4 ma5 ma6 ma7 ma8 ma9 : Int) {dvma : Value} {bsma : List UInt8} (hdma : RdSX w0 F 1 dvma bsma.length (rows encB bsma)) (hblma : bsma.length ≤ 140737488351232) (mb0 mb1 mb2 mb3 mb4 mb5 mb6 mb7 mb8 mb9 : Int) {dvmb : Value} {bsmb : List UInt8} (hdmb : RdSX w0 F 1 dvmb bsmb.length (rows encB bsmb)) (hblmb : bsmb.length ≤ 140737488351232) (mc0 mc1 mc2 mc3 mc4 mc5 mc6 mc7 mc8 mc9 : Int) {dvmc : Value} {bsmc : List UInt8} (hdmc : RdSX w0 F 1 dvmc bsmc.length (rows encB bsmc)) (hblmc : bsmc.length ≤ 140737488351232) (a3 : Int) (h0 : 0 ≤ a3) (hb0 : a3 < 256) :
    Ret Tryd.prog 4 #[.agg #[.int .u64 ma0, .int .u64 ma1, .int .u32 ma2, .int .u16 ma3, .int .u16 ma4, .int .u64 ma5, .int .u32 ma6, .int .u8 ma7, .int .u64 ma8, .int .u64 ma9, dvma], .agg #[.int .u64 mb0, .int .u64 mb1, .int .u32 mb2, .int .u16 mb3, .int .u16 mb4, .int .u64 mb5, .int .u32 mb6, .int .u8 mb7, .int .u64 mb8, .int .u64 mb9, dvmb], .agg #[.int .u64 mc0, .int .u64 mc1, .int .u32 mc2, .int .u16 mc3, .int .u16 mc4, .int .u64 mc5, .int .u32 mc6, .int .u8 mc7, .int .u64 mc8, .int .u64 mc9, dvmc], .int .u8 a3] w (fun v w' => v = .bool true ∧ St w0 w' F) := by
  obtain ⟨maB, mad, rfl, mah1, mah2⟩ := (hdma _ hS).open'
  obtain ⟨mbB, mbd, rfl, mbh1, mbh2⟩ := (hdmb _ hS).open'
  obtain ⟨mcB, mcd, rfl, mch1, mch2⟩ := (hdmc _ hS).open'
  obtain ⟨g, rfl⟩ := Int.eq_ofNat_of_zero_le h0
  refine enter (vs := [.agg #[.int .u64 ma0, .int .u64 ma1, .int .u32 ma2, .int .u16 ma3, .int .u16 ma4, .int .u64 ma5, .int .u32 ma6, .int .u8 ma7, .int .u64 ma8, .int .u64 ma9, .slice maB bsma.length mad], .agg #[.int .u64 mb0, .int .u64 mb1, .int .u32 mb2, .int .u16 mb3, .int .u16 mb4, .int .u64 mb5, .int .u32 mb6, .int .u8 mb7, .int .u64 mb8, .int .u64 mb9, .slice mbB bsmb.length mbd], .agg #[.int .u64 mc0, .int .u64 mc1, .int .u32 mc2, .int .u16 mc3, .int .u16 mc4, .int .u64 mc5, .int .u32 mc6, .int .u8 mc7, .int .u64 mc8, .int .u64 mc9, .slice mcB bsmc.length mcd], .int .u8 ((g : Nat) : Int)]) 88 Tryd.func4 rfl rfl (by simp) ?_; intro a hA
  refine wp_seq ?_
  refine wp_region_lit ?_
  refine st_box hA hS [.int .u64 ma0, .int .u64 ma1, .int .u32 ma2, .int .u16 ma3, .int .u16 ma4, .int .u64 ma5, .int .u32 ma6, .int .u8 ma7, .int .u64 ma8, .int .u64 ma9, .slice maB bsma.length mad] rfl rfl rfl rfl rfl (by decide) ?_; clear hA hS; intro b1 w2 a hS hA
  refine st_box hA hS [.int .u64 mb0, .int .u64 mb1, .int .u32 mb2, .int .u16 mb3, .int .u16 mb4, .int .u64 mb5, .int .u32 mb6, .int .u8 mb7, .int .u64 mb8, .int .u64 mb9, .slice mbB bsmb.length mbd] rfl rfl rfl rfl rfl (by decide) ?_; clear hA hS; intro b3 w4 a hS hA
  refine st_box hA hS [.int .u64 mc0, .int .u64 mc1, .int .u32 mc2, .int .u16 mc3, .int .u16 mc4, .int .u64 mc5, .int .u32 mc6, .int .u8 mc7, .int .u64 mc8, .int .u64 mc9, .slice mcB bsmc.length mcd] rfl rfl rfl rfl rfl (by decide) ?_; clear hA hS; intro b5 w6 a hS hA
  refine st_run tbOk 1 hA (e' := (8, .bool false) :: _) rfl ?_; clear hA; intro a hA
  refine wpList_nil ?_
  replace hA := hA.sel [3, 4, 5, 6] (e' := [(3, .int .u8 ((g : Nat) : Int)), (4, .pointer (some ⟨b1, 0, none⟩)), (5, .pointer (some ⟨b3, 0, none⟩)), (6, .pointer (some ⟨b5, 0, none⟩))]) rfl
  refine xt_norm ?_
  refine wp_seq ?_
  refine wp_seq ?_
  refine wp_region_lit ?_
  refine st_call0 hA rfl rfl rfl isfn7 rfl rfl (by decide) (awake7 hS hg) ?_
  clear hA hS; rintro _ w7 a ⟨rfl, hS⟩ hA
  refine st_run tbOk 1 hA (e' := (19, .bool false) :: _) rfl ?_; clear hA; intro a hA
  refine wpList_nil ?_
  replace hA := hA.sel [3, 4, 5, 6, 19] (e' := [(3, .int .u8 ((g : Nat) : Int)), (4, .pointer (some ⟨b1, 0, none⟩)), (5, .pointer (some ⟨b3, 0, none⟩)), (6, .pointer (some ⟨b5, 0, none⟩)), (19, .bool false)]) rfl
  refine xt_norm ?_
  refine cd_cond_f hA rfl ?_
  refine wp_skip ?_
  refine xt_norm ?_
  refine wp_seq ?_
  refine wp_region_lit ?_
  refine st_call0 hA rfl rfl rfl isfn8 rfl rfl (by decide) (cof8 hS 9 3 4) ?_
  clear hA hS; rintro _ w11 a ⟨b8, L9, hM10, rfl, hS⟩ hA
  have hM12 : CR b8 9 3 4 [] L9 := by first | exact hM10 | simpa using hM10
  replace hS := hS.nil
  refine st_run tbOk 1 hA (e' := (9, .pointer (some ⟨b8, 0, none⟩)) :: _) rfl ?_; clear hA; intro a hA
  refine wpList_nil ?_
  replace hA := hA.sel [3, 4, 5, 6, 9] (e' := [(3, .int .u8 ((g : Nat) : Int)), (4, .pointer (some ⟨b1, 0, none⟩)), (5, .pointer (some ⟨b3, 0, none⟩)), (6, .pointer (some ⟨b5, 0, none⟩)), (9, .pointer (some ⟨b8, 0, none⟩))]) rfl
  refine xt_norm ?_
  refine wp_seq ?_
  refine wp_region_lit ?_
  refine st_run tbOk 1 hA (e' := (22, .pointer (some ⟨b8, 0, none⟩)) :: _) rfl ?_; clear hA; intro a hA
  refine st_val hA rfl rfl (by decide) (rn_loadA tbOk hA [.int .u64 ma0, .int .u64 ma1, .int .u32 ma2, .int .u16 ma3, .int .u16 ma4, .int .u64 ma5, .int .u32 ma6, .int .u8 ma7, .int .u64 ma8, .int .u64 ma9, .slice maB bsma.length mad] rfl rfl rfl rfl rfl (cells_row (hS.heapAt 4 rfl) rfl)) ?_; clear hA; intro a hA
  replace hS := hS.front 1 (C := L9) (L' := [] :: [(b5, rowO [.int .u64 mc0, .int .u64 mc1, .int .u32 mc2, .int .u16 mc3, .int .u16 mc4, .int .u64 mc5, .int .u32 mc6, .int .u8 mc7, .int .u64 mc8, .int .u64 mc9, .slice mcB bsmc.length mcd] 32)] :: [(b3, rowO [.int .u64 mb0, .int .u64 mb1, .int .u32 mb2, .int .u16 mb3, .int .u16 mb4, .int .u64 mb5, .int .u32 mb6, .int .u8 mb7, .int .u64 mb8, .int .u64 mb9, .slice mbB bsmb.length mbd] 32)] :: [(b1, rowO [.int .u64 ma0, .int .u64 ma1, .int .u32 ma2, .int .u16 ma3, .int .u16 ma4, .int .u64 ma5, .int .u32 ma6, .int .u8 ma7, .int .u64 ma8, .int .u64 ma9, .slice maB bsma.length mad] 32)] :: F) rfl rfl
  refine st_call0 hA rfl rfl rfl isfn9 rfl rfl (by decide) (start_ok9 hS hM12 ma0 ma1 ma2 ma3 ma4 ma5 ma6 ma7 ma8 ma9 (bs := bsma) (fun w' h => (hdma _ (h.tail 4 rfl))) (by first | omega | exact Nat.zero_le _) (Nat.le_of_ble_eq_true rfl)) ?_
  clear hA hS; rintro _ w13 a ⟨L14, E16, A17, c18, A19, c20, hM15, hE21, hE22, rfl, hS⟩ hA
  replace hM15 : CR b8 9 3 4 [(ma0, 9, 1, ma3, 0, ma5, ma6, ma7, ma8, ma9, A17, c18, bsma, 1, 1, 3, 0, 0, 0, 0, 0, 0, 0, 0, 0, 0, none, 0, ([] : List UInt8))] L14 := hM15
  have dd23 : ∀ x ∈ ([(ma0, 9, 1, ma3, 0, ma5, ma6, ma7, ma8, ma9, A17, c18, bsma, 1, 1, 3, 0, 0, 0, 0, 0, 0, 0, 0, 0, 0, none, 0, ([] : List UInt8))]), encCall_dd w0 (E16 ++ []) x := one_of ⟨hE21.right, DD.nil⟩
  have sz24 : ∀ x ∈ ([(ma0, 9, 1, ma3, 0, ma5, ma6, ma7, ma8, ma9, A17, c18, bsma, 1, 1, 3, 0, 0, 0, 0, 0, 0, 0, 0, 0, 0, none, 0, ([] : List UInt8))]), csz x := one_of ⟨(by show (bsma).length ≤ 140737488351232; first | omega | exact Nat.zero_le _), (Nat.zero_le _)⟩
  replace hA := hA.rw 24 (v' := .tuple #[.agg #[.int .u64 ma0, .int .u64 9, .int .u32 1, .int .u16 ma3, .int .u16 0, .int .u64 ma5, .int .u32 ma6, .int .u8 ma7, .int .u64 ma8, .int .u64 ma9, .slice A19 bsma.length c20], .nilIface]) rfl (by rfl)
  refine st_run tbOk 3 hA (e' := (26, .nilIface) :: (25, .agg #[.int .u64 ma0, .int .u64 9, .int .u32 1, .int .u16 ma3, .int .u16 0, .int .u64 ma5, .int .u32 ma6, .int .u8 ma7, .int .u64 ma8, .int .u64 ma9, .slice A19 bsma.length c20]) :: (21, .tuple #[.agg #[.int .u64 ma0, .int .u64 9, .int .u32 1, .int .u16 ma3, .int .u16 0, .int .u64 ma5, .int .u32 ma6, .int .u8 ma7, .int .u64 ma8, .int .u64 ma9, .slice A19 bsma.length c20], .nilIface]) :: _) rfl ?_; clear hA; intro a hA
  refine st_alloc tbOk hA hS [.int .u64 0, .int .u64 0, .int .u32 0, .int .u16 0, .int .u16 0, .int .u64 0, .int .u32 0, .int .u8 0, .int .u64 0, .int .u64 0, .slice none 0 0] rfl rfl rfl rfl rfl (by decide) ?_; clear hA hS; intro b25 w26 a hS hA
  refine st_store tbOk hA hS [.int .u64 ma0, .int .u64 9, .int .u32 1, .int .u16 ma3, .int .u16 0, .int .u64 ma5, .int .u32 ma6, .int .u8 ma7, .int .u64 ma8, .int .u64 ma9, .slice A19 bsma.length c20] [.int .u64 ma0, .int .u64 9, .int .u32 1, .int .u16 ma3, .int .u16 0, .int .u64 ma5, .int .u32 ma6, .int .u8 ma7, .int .u64 ma8, .int .u64 ma9, .slice A19 bsma.length c20] rfl rfl rfl rfl rfl rfl (by simp [Value.oneCell']) (Nat.le_of_ble_eq_true rfl) rfl rfl rfl ?_; clear hS; intro w27 hS
  refine st_run tbOk 1 hA (e' := (11, .nilIface) :: _) rfl ?_; clear hA; intro a hA
  refine wpList_nil ?_
  replace hA := hA.sel [3, 5, 6, 9, 10, 11] (e' := [(3, .int .u8 ((g : Nat) : Int)), (5, .pointer (some ⟨b3, 0, none⟩)), (6, .pointer (some ⟨b5, 0, none⟩)), (9, .pointer (some ⟨b8, 0, none⟩)), (10, .pointer (some ⟨b25, 0, none⟩)), (11, .nilIface)]) rfl
  refine xt_norm ?_
  refine wp_seq ?_
  replace hS := hS.front 4 (C := [(b3, rowO [.int .u64 mb0, .int .u64 mb1, .int .u32 mb2, .int .u16 mb3, .int .u16 mb4, .int .u64 mb5, .int .u32 mb6, .int .u8 mb7, .int .u64 mb8, .int .u64 mb9, .slice mbB bsmb.length mbd] 32)]) (L' := [(b25, rowO [.int .u64 ma0, .int .u64 9, .int .u32 1, .int .u16 ma3, .int .u16 0, .int .u64 ma5, .int .u32 ma6, .int .u8 ma7, .int .u64 ma8, .int .u64 ma9, .slice A19 bsma.length c20] 32)] :: L14 :: (E16 ++ []) :: [(b5, rowO [.int .u64 mc0, .int .u64 mc1, .int .u32 mc2, .int .u16 mc3, .int .u16 mc4, .int .u64 mc5, .int .u32 mc6, .int .u8 mc7, .int .u64 mc8, .int .u64 mc9, .slice mcB bsmc.length mcd] 32)] :: [(b1, rowO [.int .u64 ma0, .int .u64 ma1, .int .u32 ma2, .int .u16 ma3, .int .u16 ma4, .int .u64 ma5, .int .u32 ma6, .int .u8 ma7, .int .u64 ma8, .int .u64 ma9, .slice maB bsma.length mad] 32)] :: F) rfl rfl
  refine wp_draw (fun w' => St w0 w' ([(b25, rowO [.int .u64 ma0, .int .u64 9, .int .u32 1, .int .u16 ma3, .int .u16 0, .int .u64 ma5, .int .u32 ma6, .int .u8 ma7, .int .u64 ma8, .int .u64 ma9, .slice A19 bsma.length c20] 32)] :: L14 :: (E16 ++ []) :: [(b5, rowO [.int .u64 mc0, .int .u64 mc1, .int .u32 mc2, .int .u16 mc3, .int .u16 mc4, .int .u64 mc5, .int .u32 mc6, .int .u8 mc7, .int .u64 mc8, .int .u64 mc9, .slice mcB bsmc.length mcd] 32)] :: [(b1, rowO [.int .u64 ma0, .int .u64 ma1, .int .u32 ma2, .int .u16 ma3, .int .u16 ma4, .int .u64 ma5, .int .u32 ma6, .int .u8 ma7, .int .u64 ma8, .int .u64 ma9, .slice maB bsma.length mad] 32)] :: F)) [] [(0, true), (1, true), (2, true), (3, true), (4, true), (5, false), (6, true), (7, false), (8, true), (9, false)] mixed (by kernel_rfl) (by rintro c a w ⟨_, _, h, _⟩; cases h) (by rfl) (by kernel_rfl) ?_
  replace hS := hS.drew
  refine dr_run tbOk 1 hA (hS.tail 1 rfl) (e' := (27, .pointer (some ⟨b25, 2, none⟩)) :: _) rfl ?_; clear hA; intro a hA
  refine dr_y hA rfl rfl rfl (by decide) (hS.tail 1 rfl) (fun w' hS' => rn_load tbOk hA rfl rfl rfl rfl (cell_row (hS'.heapAt 0 rfl) rfl)) ?_; clear hA; intro a hA
  refine dr_run tbOk 1 hA (hS.tail 1 rfl) (e' := (29, .pointer (some ⟨b25, 0, none⟩)) :: _) rfl ?_; clear hA; intro a hA
  refine dr_y hA rfl rfl rfl (by decide) (hS.tail 1 rfl) (fun w' hS' => rn_load tbOk hA rfl rfl rfl rfl (cell_row (hS'.heapAt 0 rfl) rfl)) ?_; clear hA; intro a hA
  refine dr_run tbOk 1 hA (hS.tail 1 rfl) (e' := (31, .pointer (some ⟨b3, 2, none⟩)) :: _) rfl ?_; clear hA; intro a hA
  refine dr_b (o := _) rfl ?_
  refine st_store tbOk hA hS [.int .u32 1] [.int .u64 mb0, .int .u64 mb1, .int .u32 1, .int .u16 mb3, .int .u16 mb4, .int .u64 mb5, .int .u32 mb6, .int .u8 mb7, .int .u64 mb8, .int .u64 mb9, .slice mbB bsmb.length mbd] rfl rfl rfl rfl rfl rfl (by intro u hu; rw [List.mem_singleton.1 hu]; rfl) (Nat.le_of_ble_eq_true rfl) rfl rfl rfl ?_; clear hS; intro w28 hS
  refine dr_nil (.inr (hS.tail 1 rfl)) ?_
  refine dr_run tbOk 1 hA (hS.tail 1 rfl) (e' := (32, .pointer (some ⟨b3, 0, none⟩)) :: _) rfl ?_; clear hA; intro a hA
  refine dr_b (o := _) rfl ?_
  refine st_store tbOk hA hS [.int .u64 9] [.int .u64 9, .int .u64 mb1, .int .u32 1, .int .u16 mb3, .int .u16 mb4, .int .u64 mb5, .int .u32 mb6, .int .u8 mb7, .int .u64 mb8, .int .u64 mb9, .slice mbB bsmb.length mbd] rfl rfl rfl rfl rfl rfl (by intro u hu; rw [List.mem_singleton.1 hu]; rfl) (Nat.le_of_ble_eq_true rfl) rfl rfl rfl ?_; clear hS; intro w29 hS
  refine dr_nil (.inr (hS.tail 1 rfl)) ?_
  refine dr_run tbOk 1 hA (hS.tail 1 rfl) (e' := (33, .pointer (some ⟨b3, 1, none⟩)) :: _) rfl ?_; clear hA; intro a hA
  refine dr_b (o := _) rfl ?_
  refine st_store tbOk hA hS [.int .u64 ma0] [.int .u64 9, .int .u64 ma0, .int .u32 1, .int .u16 mb3, .int .u16 mb4, .int .u64 mb5, .int .u32 mb6, .int .u8 mb7, .int .u64 mb8, .int .u64 mb9, .slice mbB bsmb.length mbd] rfl rfl rfl rfl rfl rfl (by intro u hu; rw [List.mem_singleton.1 hu]; rfl) (Nat.le_of_ble_eq_true rfl) rfl rfl rfl ?_; clear hS; intro w30 hS
  refine dr_nil (.inr (hS.tail 1 rfl)) ?_
  refine dr_end ?_
  replace hA := hA.sel [3, 5, 6, 9, 10, 11] (e' := [(3, .int .u8 ((g : Nat) : Int)), (5, .pointer (some ⟨b3, 0, none⟩)), (6, .pointer (some ⟨b5, 0, none⟩)), (9, .pointer (some ⟨b8, 0, none⟩)), (10, .pointer (some ⟨b25, 0, none⟩)), (11, .nilIface)]) rfl
  refine xt_norm ?_
  refine wp_seq ?_
  replace hS := hS.front 4 (C := [(b5, rowO [.int .u64 mc0, .int .u64 mc1, .int .u32 mc2, .int .u16 mc3, .int .u16 mc4, .int .u64 mc5, .int .u32 mc6, .int .u8 mc7, .int .u64 mc8, .int .u64 mc9, .slice mcB bsmc.length mcd] 32)]) (L' := [(b3, rowO [.int .u64 9, .int .u64 ma0, .int .u32 1, .int .u16 mb3, .int .u16 mb4, .int .u64 mb5, .int .u32 mb6, .int .u8 mb7, .int .u64 mb8, .int .u64 mb9, .slice mbB bsmb.length mbd] 32)] :: [(b25, rowO [.int .u64 ma0, .int .u64 9, .int .u32 1, .int .u16 ma3, .int .u16 0, .int .u64 ma5, .int .u32 ma6, .int .u8 ma7, .int .u64 ma8, .int .u64 ma9, .slice A19 bsma.length c20] 32)] :: L14 :: (E16 ++ []) :: [(b1, rowO [.int .u64 ma0, .int .u64 ma1, .int .u32 ma2, .int .u16 ma3, .int .u16 ma4, .int .u64 ma5, .int .u32 ma6, .int .u8 ma7, .int .u64 ma8, .int .u64 ma9, .slice maB bsma.length mad] 32)] :: F) rfl rfl
  refine wp_draw (fun w' => St w0 w' ([(b3, rowO [.int .u64 9, .int .u64 ma0, .int .u32 1, .int .u16 mb3, .int .u16 mb4, .int .u64 mb5, .int .u32 mb6, .int .u8 mb7, .int .u64 mb8, .int .u64 mb9, .slice mbB bsmb.length mbd] 32)] :: [(b25, rowO [.int .u64 ma0, .int .u64 9, .int .u32 1, .int .u16 ma3, .int .u16 0, .int .u64 ma5, .int .u32 ma6, .int .u8 ma7, .int .u64 ma8, .int .u64 ma9, .slice A19 bsma.length c20] 32)] :: L14 :: (E16 ++ []) :: [(b1, rowO [.int .u64 ma0, .int .u64 ma1, .int .u32 ma2, .int .u16 ma3, .int .u16 ma4, .int .u64 ma5, .int .u32 ma6, .int .u8 ma7, .int .u64 ma8, .int .u64 ma9, .slice maB bsma.length mad] 32)] :: F)) [] [(0, true), (1, true), (2, true), (3, true), (4, true), (5, false), (6, true), (7, false), (8, true), (9, false)] mixed (by kernel_rfl) (by rintro c a w ⟨_, _, h, _⟩; cases h) (by rfl) (by kernel_rfl) ?_
  replace hS := hS.drew
  refine dr_run tbOk 1 hA (hS.tail 1 rfl) (e' := (34, .pointer (some ⟨b25, 2, none⟩)) :: _) rfl ?_; clear hA; intro a hA
  refine dr_y hA rfl rfl rfl (by decide) (hS.tail 1 rfl) (fun w' hS' => rn_load tbOk hA rfl rfl rfl rfl (cell_row (hS'.heapAt 1 rfl) rfl)) ?_; clear hA; intro a hA
  refine dr_run tbOk 1 hA (hS.tail 1 rfl) (e' := (36, .pointer (some ⟨b25, 0, none⟩)) :: _) rfl ?_; clear hA; intro a hA
  refine dr_y hA rfl rfl rfl (by decide) (hS.tail 1 rfl) (fun w' hS' => rn_load tbOk hA rfl rfl rfl rfl (cell_row (hS'.heapAt 1 rfl) rfl)) ?_; clear hA; intro a hA
  refine dr_run tbOk 1 hA (hS.tail 1 rfl) (e' := (38, .pointer (some ⟨b5, 2, none⟩)) :: _) rfl ?_; clear hA; intro a hA
  refine dr_b (o := _) rfl ?_
  refine st_store tbOk hA hS [.int .u32 1] [.int .u64 mc0, .int .u64 mc1, .int .u32 1, .int .u16 mc3, .int .u16 mc4, .int .u64 mc5, .int .u32 mc6, .int .u8 mc7, .int .u64 mc8, .int .u64 mc9, .slice mcB bsmc.length mcd] rfl rfl rfl rfl rfl rfl (by intro u hu; rw [List.mem_singleton.1 hu]; rfl) (Nat.le_of_ble_eq_true rfl) rfl rfl rfl ?_; clear hS; intro w31 hS
  refine dr_nil (.inr (hS.tail 1 rfl)) ?_
  refine dr_run tbOk 1 hA (hS.tail 1 rfl) (e' := (39, .pointer (some ⟨b5, 0, none⟩)) :: _) rfl ?_; clear hA; intro a hA
  refine dr_b (o := _) rfl ?_
  refine st_store tbOk hA hS [.int .u64 9] [.int .u64 9, .int .u64 mc1, .int .u32 1, .int .u16 mc3, .int .u16 mc4, .int .u64 mc5, .int .u32 mc6, .int .u8 mc7, .int .u64 mc8, .int .u64 mc9, .slice mcB bsmc.length mcd] rfl rfl rfl rfl rfl rfl (by intro u hu; rw [List.mem_singleton.1 hu]; rfl) (Nat.le_of_ble_eq_true rfl) rfl rfl rfl ?_; clear hS; intro w32 hS
  refine dr_nil (.inr (hS.tail 1 rfl)) ?_
  refine dr_run tbOk 1 hA (hS.tail 1 rfl) (e' := (40, .pointer (some ⟨b5, 1, none⟩)) :: _) rfl ?_; clear hA; intro a hA
  refine dr_b (o := _) rfl ?_
  refine st_store tbOk hA hS [.int .u64 ma0] [.int .u64 9, .int .u64 ma0, .int .u32 1, .int .u16 mc3, .int .u16 mc4, .int .u64 mc5, .int .u32 mc6, .int .u8 mc7, .int .u64 mc8, .int .u64 mc9, .slice mcB bsmc.length mcd] rfl rfl rfl rfl rfl rfl (by intro u hu; rw [List.mem_singleton.1 hu]; rfl) (Nat.le_of_ble_eq_true rfl) rfl rfl rfl ?_; clear hS; intro w33 hS
  refine dr_nil (.inr (hS.tail 1 rfl)) ?_
  refine dr_end ?_
  replace hA := hA.sel [3, 5, 6, 9, 10, 11] (e' := [(3, .int .u8 ((g : Nat) : Int)), (5, .pointer (some ⟨b3, 0, none⟩)), (6, .pointer (some ⟨b5, 0, none⟩)), (9, .pointer (some ⟨b8, 0, none⟩)), (10, .pointer (some ⟨b25, 0, none⟩)), (11, .nilIface)]) rfl
  refine xt_norm ?_
  refine wp_seq ?_
  replace hS := hS.front 4 (C := (E16 ++ [])) (L' := [(b5, rowO [.int .u64 9, .int .u64 ma0, .int .u32 1, .int .u16 mc3, .int .u16 mc4, .int .u64 mc5, .int .u32 mc6, .int .u8 mc7, .int .u64 mc8, .int .u64 mc9, .slice mcB bsmc.length mcd] 32)] :: [(b3, rowO [.int .u64 9, .int .u64 ma0, .int .u32 1, .int .u16 mb3, .int .u16 mb4, .int .u64 mb5, .int .u32 mb6, .int .u8 mb7, .int .u64 mb8, .int .u64 mb9, .slice mbB bsmb.length mbd] 32)] :: [(b25, rowO [.int .u64 ma0, .int .u64 9, .int .u32 1, .int .u16 ma3, .int .u16 0, .int .u64 ma5, .int .u32 ma6, .int .u8 ma7, .int .u64 ma8, .int .u64 ma9, .slice A19 bsma.length c20] 32)] :: L14 :: [(b1, rowO [.int .u64 ma0, .int .u64 ma1, .int .u32 ma2, .int .u16 ma3, .int .u16 ma4, .int .u64 ma5, .int .u32 ma6, .int .u8 ma7, .int .u64 ma8, .int .u64 ma9, .slice maB bsma.length mad] 32)] :: F) rfl rfl
  replace hS := hS.front 4 (C := L14) (L' := (E16 ++ []) :: [(b5, rowO [.int .u64 9, .int .u64 ma0, .int .u32 1, .int .u16 mc3, .int .u16 mc4, .int .u64 mc5, .int .u32 mc6, .int .u8 mc7, .int .u64 mc8, .int .u64 mc9, .slice mcB bsmc.length mcd] 32)] :: [(b3, rowO [.int .u64 9, .int .u64 ma0, .int .u32 1, .int .u16 mb3, .int .u16 mb4, .int .u64 mb5, .int .u32 mb6, .int .u8 mb7, .int .u64 mb8, .int .u64 mb9, .slice mbB bsmb.length mbd] 32)] :: [(b25, rowO [.int .u64 ma0, .int .u64 9, .int .u32 1, .int .u16 ma3, .int .u16 0, .int .u64 ma5, .int .u32 ma6, .int .u8 ma7, .int .u64 ma8, .int .u64 ma9, .slice A19 bsma.length c20] 32)] :: [(b1, rowO [.int .u64 ma0, .int .u64 ma1, .int .u32 ma2, .int .u16 ma3, .int .u16 ma4, .int .u64 ma5, .int .u32 ma6, .int .u8 ma7, .int .u64 ma8, .int .u64 ma9, .slice maB bsma.length mad] 32)] :: F) rfl rfl
  refine wp_draw (fun w' => St w0 w' ([(b5, rowO [.int .u64 9, .int .u64 ma0, .int .u32 1, .int .u16 mc3, .int .u16 mc4, .int .u64 mc5, .int .u32 mc6, .int .u8 mc7, .int .u64 mc8, .int .u64 mc9, .slice mcB bsmc.length mcd] 32)] :: [(b3, rowO [.int .u64 9, .int .u64 ma0, .int .u32 1, .int .u16 mb3, .int .u16 mb4, .int .u64 mb5, .int .u32 mb6, .int .u8 mb7, .int .u64 mb8, .int .u64 mb9, .slice mbB bsmb.length mbd] 32)] :: [(b25, rowO [.int .u64 ma0, .int .u64 9, .int .u32 1, .int .u16 ma3, .int .u16 0, .int .u64 ma5, .int .u32 ma6, .int .u8 ma7, .int .u64 ma8, .int .u64 ma9, .slice A19 bsma.length c20] 32)] :: [(b1, rowO [.int .u64 ma0, .int .u64 ma1, .int .u32 ma2, .int .u16 ma3, .int .u16 ma4, .int .u64 ma5, .int .u32 ma6, .int .u8 ma7, .int .u64 ma8, .int .u64 ma9, .slice maB bsma.length mad] 32)] :: F)) [] [(0, true), (1, true), (3, true), (4, true), (2, false), (5, false), (6, true), (7, true)] mixed (by kernel_rfl) (by rintro c a w ⟨_, _, h, _⟩; cases h) (by rfl) (by kernel_rfl) ?_
  replace hS := hS.drew
  refine dr_run tbOk 1 hA (hS.tail 2 rfl) (e' := (41, .pointer (some ⟨b8, 0, none⟩)) :: _) rfl ?_; clear hA; intro a hA
  refine dr_y hA rfl rfl rfl (by decide) (hS.tail 2 rfl) (fun w' hS' => rn_loadA tbOk hA [.int .u64 9, .int .u64 ma0, .int .u32 1, .int .u16 mb3, .int .u16 mb4, .int .u64 mb5, .int .u32 mb6, .int .u8 mb7, .int .u64 mb8, .int .u64 mb9, .slice mbB bsmb.length mbd] rfl rfl rfl rfl rfl (cells_row (hS'.heapAt 1 rfl) rfl)) ?_; clear hA; intro a hA
  refine dr_run tbOk 1 hA (hS.tail 2 rfl) (e' := (44, .pointer (some ⟨b8, 0, none⟩)) :: _) rfl ?_; clear hA; intro a hA
  refine dr_y hA rfl rfl rfl (by decide) (hS.tail 2 rfl) (fun w' hS' => rn_loadA tbOk hA [.int .u64 9, .int .u64 ma0, .int .u32 1, .int .u16 mc3, .int .u16 mc4, .int .u64 mc5, .int .u32 mc6, .int .u8 mc7, .int .u64 mc8, .int .u64 mc9, .slice mcB bsmc.length mcd] rfl rfl rfl rfl rfl (cells_row (hS'.heapAt 0 rfl) rfl)) ?_; clear hA; intro a hA
  refine dr_b (o := _) rfl ?_
  replace hS := hS.front 1 (C := (E16 ++ [])) (L' := L14 :: [(b5, rowO [.int .u64 9, .int .u64 ma0, .int .u32 1, .int .u16 mc3, .int .u16 mc4, .int .u64 mc5, .int .u32 mc6, .int .u8 mc7, .int .u64 mc8, .int .u64 mc9, .slice mcB bsmc.length mcd] 32)] :: [(b3, rowO [.int .u64 9, .int .u64 ma0, .int .u32 1, .int .u16 mb3, .int .u16 mb4, .int .u64 mb5, .int .u32 mb6, .int .u8 mb7, .int .u64 mb8, .int .u64 mb9, .slice mbB bsmb.length mbd] 32)] :: [(b25, rowO [.int .u64 ma0, .int .u64 9, .int .u32 1, .int .u16 ma3, .int .u16 0, .int .u64 ma5, .int .u32 ma6, .int .u8 ma7, .int .u64 ma8, .int .u64 ma9, .slice A19 bsma.length c20] 32)] :: [(b1, rowO [.int .u64 ma0, .int .u64 ma1, .int .u32 ma2, .int .u16 ma3, .int .u16 ma4, .int .u64 ma5, .int .u32 ma6, .int .u8 ma7, .int .u64 ma8, .int .u64 ma9, .slice maB bsma.length mad] 32)] :: F) rfl rfl
  replace hS := hS.front 1 (C := L14) (L' := (E16 ++ []) :: [(b5, rowO [.int .u64 9, .int .u64 ma0, .int .u32 1, .int .u16 mc3, .int .u16 mc4, .int .u64 mc5, .int .u32 mc6, .int .u8 mc7, .int .u64 mc8, .int .u64 mc9, .slice mcB bsmc.length mcd] 32)] :: [(b3, rowO [.int .u64 9, .int .u64 ma0, .int .u32 1, .int .u16 mb3, .int .u16 mb4, .int .u64 mb5, .int .u32 mb6, .int .u8 mb7, .int .u64 mb8, .int .u64 mb9, .slice mbB bsmb.length mbd] 32)] :: [(b25, rowO [.int .u64 ma0, .int .u64 9, .int .u32 1, .int .u16 ma3, .int .u16 0, .int .u64 ma5, .int .u32 ma6, .int .u8 ma7, .int .u64 ma8, .int .u64 ma9, .slice A19 bsma.length c20] 32)] :: [(b1, rowO [.int .u64 ma0, .int .u64 ma1, .int .u32 ma2, .int .u16 ma3, .int .u16 ma4, .int .u64 ma5, .int .u32 ma6, .int .u8 ma7, .int .u64 ma8, .int .u64 ma9, .slice maB bsma.length mad] 32)] :: F) rfl rfl
  refine st_call0 hA rfl rfl rfl isfn12 rfl rfl (by decide) (answer_ok12 hS hM15 9 ma0 1 mb3 mb4 mb5 mb6 mb7 mb8 mb9 (bs := bsmb) (fun w' h => (hdmb _ (h.tail 5 rfl))) (by first | omega | exact Nat.zero_le _) (k := 0) (x := (ma0, 9, 1, ma3, 0, ma5, ma6, ma7, ma8, ma9, A17, c18, bsma, 1, 1, 3, 0, 0, 0, 0, 0, 0, 0, 0, 0, 0, none, 0, ([] : List UInt8))) rfl (Nat.le_of_ble_eq_true rfl) rfl rfl rfl rfl) ?_
  clear hA hS; rintro _ w34 a ⟨L35, E37, A38, c39, hM36, hE40, rfl, hS⟩ hA
  have dd41 : ∀ x ∈ (([(ma0, 9, 1, ma3, 0, ma5, ma6, ma7, ma8, ma9, A17, c18, bsma, 1, 1, 3, 0, 0, 0, 0, 0, 0, 0, 0, 0, 0, none, 0, ([] : List UInt8))]).set 0 (ma0, 9, 1, ma3, 0, ma5, ma6, ma7, ma8, ma9, A17, c18, bsma, 2, 1, 3, 9, ma0, 1, mb3, mb4, mb5, mb6, mb7, mb8, mb9, A38, c39, bsmb)), encCall_dd w0 (E37 ++ (E16 ++ [])) x := call_set dd23 ⟨(dd23 _ (List.mem_of_getElem? (show [(ma0, 9, 1, ma3, 0, ma5, ma6, ma7, ma8, ma9, A17, c18, bsma, 1, 1, 3, 0, 0, 0, 0, 0, 0, 0, 0, 0, 0, none, 0, ([] : List UInt8))][0]? = some (ma0, 9, 1, ma3, 0, ma5, ma6, ma7, ma8, ma9, A17, c18, bsma, 1, 1, 3, 0, 0, 0, 0, 0, 0, 0, 0, 0, 0, none, 0, ([] : List UInt8)) from rfl))).1.left, hE40.right⟩
  have sz42 : ∀ x ∈ (([(ma0, 9, 1, ma3, 0, ma5, ma6, ma7, ma8, ma9, A17, c18, bsma, 1, 1, 3, 0, 0, 0, 0, 0, 0, 0, 0, 0, 0, none, 0, ([] : List UInt8))]).set 0 (ma0, 9, 1, ma3, 0, ma5, ma6, ma7, ma8, ma9, A17, c18, bsma, 2, 1, 3, 9, ma0, 1, mb3, mb4, mb5, mb6, mb7, mb8, mb9, A38, c39, bsmb)), csz x := csz_set sz24 ⟨(sz24 _ (List.mem_of_getElem? (show [(ma0, 9, 1, ma3, 0, ma5, ma6, ma7, ma8, ma9, A17, c18, bsma, 1, 1, 3, 0, 0, 0, 0, 0, 0, 0, 0, 0, 0, none, 0, ([] : List UInt8))][0]? = some (ma0, 9, 1, ma3, 0, ma5, ma6, ma7, ma8, ma9, A17, c18, bsma, 1, 1, 3, 0, 0, 0, 0, 0, 0, 0, 0, 0, 0, none, 0, ([] : List UInt8)) from rfl))).1, (show (bsmb).length ≤ 140737488351232 from (by first | omega | exact Nat.zero_le _))⟩
  have hM43 : CR b8 9 3 4 ([(ma0, 9, 1, ma3, 0, ma5, ma6, ma7, ma8, ma9, A17, c18, bsma, 2, 1, 3, 9, ma0, 1, mb3, mb4, mb5, mb6, mb7, mb8, mb9, A38, c39, bsmb)]) L35 := hM36
  have dd44 : ∀ x ∈ ([(ma0, 9, 1, ma3, 0, ma5, ma6, ma7, ma8, ma9, A17, c18, bsma, 2, 1, 3, 9, ma0, 1, mb3, mb4, mb5, mb6, mb7, mb8, mb9, A38, c39, bsmb)] : List Call), encCall_dd w0 (E37 ++ (E16 ++ [])) x := dd41
  have sz45 : ∀ x ∈ ([(ma0, 9, 1, ma3, 0, ma5, ma6, ma7, ma8, ma9, A17, c18, bsma, 2, 1, 3, 9, ma0, 1, mb3, mb4, mb5, mb6, mb7, mb8, mb9, A38, c39, bsmb)] : List Call), csz x := sz42
  refine dr_nil (.inr (hS.tail 2 rfl)) ?_
  refine dr_b (o := _) rfl ?_
  replace hS := hS.front 1 (C := (E37 ++ (E16 ++ []))) (L' := L35 :: [(b5, rowO [.int .u64 9, .int .u64 ma0, .int .u32 1, .int .u16 mc3, .int .u16 mc4, .int .u64 mc5, .int .u32 mc6, .int .u8 mc7, .int .u64 mc8, .int .u64 mc9, .slice mcB bsmc.length mcd] 32)] :: [(b3, rowO [.int .u64 9, .int .u64 ma0, .int .u32 1, .int .u16 mb3, .int .u16 mb4, .int .u64 mb5, .int .u32 mb6, .int .u8 mb7, .int .u64 mb8, .int .u64 mb9, .slice mbB bsmb.length mbd] 32)] :: [(b25, rowO [.int .u64 ma0, .int .u64 9, .int .u32 1, .int .u16 ma3, .int .u16 0, .int .u64 ma5, .int .u32 ma6, .int .u8 ma7, .int .u64 ma8, .int .u64 ma9, .slice A19 bsma.length c20] 32)] :: [(b1, rowO [.int .u64 ma0, .int .u64 ma1, .int .u32 ma2, .int .u16 ma3, .int .u16 ma4, .int .u64 ma5, .int .u32 ma6, .int .u8 ma7, .int .u64 ma8, .int .u64 ma9, .slice maB bsma.length mad] 32)] :: F) rfl rfl
  replace hS := hS.front 1 (C := L35) (L' := (E37 ++ (E16 ++ [])) :: [(b5, rowO [.int .u64 9, .int .u64 ma0, .int .u32 1, .int .u16 mc3, .int .u16 mc4, .int .u64 mc5, .int .u32 mc6, .int .u8 mc7, .int .u64 mc8, .int .u64 mc9, .slice mcB bsmc.length mcd] 32)] :: [(b3, rowO [.int .u64 9, .int .u64 ma0, .int .u32 1, .int .u16 mb3, .int .u16 mb4, .int .u64 mb5, .int .u32 mb6, .int .u8 mb7, .int .u64 mb8, .int .u64 mb9, .slice mbB bsmb.length mbd] 32)] :: [(b25, rowO [.int .u64 ma0, .int .u64 9, .int .u32 1, .int .u16 ma3, .int .u16 0, .int .u64 ma5, .int .u32 ma6, .int .u8 ma7, .int .u64 ma8, .int .u64 ma9, .slice A19 bsma.length c20] 32)] :: [(b1, rowO [.int .u64 ma0, .int .u64 ma1, .int .u32 ma2, .int .u16 ma3, .int .u16 ma4, .int .u64 ma5, .int .u32 ma6, .int .u8 ma7, .int .u64 ma8, .int .u64 ma9, .slice maB bsma.length mad] 32)] :: F) rfl rfl
  refine st_call0 hA rfl rfl rfl isfn12 rfl rfl (by decide) (answer_no12 hS hM43 9 ma0 1 mc3 mc4 mc5 mc6 mc7 mc8 mc9 _ (k := 0) (x := (ma0, 9, 1, ma3, 0, ma5, ma6, ma7, ma8, ma9, A17, c18, bsma, 2, 1, 3, 9, ma0, 1, mb3, mb4, mb5, mb6, mb7, mb8, mb9, A38, c39, bsmb)) rfl (Nat.le_of_ble_eq_true rfl) rfl (fun h => absurd (show (2 : Int) = 1 from h.1) (by decide))) ?_
  clear hA hS; rintro _ w46 a ⟨L47, hM48, rfl, hS⟩ hA
  refine dr_nil (.inr (hS.tail 2 rfl)) ?_
  refine dr_run tbOk 2 hA (hS.tail 2 rfl) (e' := (13, .bool false) :: (12, .bool true) :: _) rfl ?_; clear hA; intro a hA
  refine dr_end ?_
  replace hA := hA.sel [3, 5, 9, 10, 11, 12, 13] (e' := [(3, .int .u8 ((g : Nat) : Int)), (5, .pointer (some ⟨b3, 0, none⟩)), (9, .pointer (some ⟨b8, 0, none⟩)), (10, .pointer (some ⟨b25, 0, none⟩)), (11, .nilIface), (12, .bool true), (13, .bool false)]) rfl
  refine xt_norm ?_
  refine wp_seq ?_
  refine wp_seq ?_
  refine wp_region_lit ?_
  refine st_run tbOk 1 hA (e' := (14, .int .i64 0) :: _) rfl ?_; clear hA; intro a hA
  refine wpList_nil ?_
  refine xt_norm ?_
  refine wp_block ?_
  replace hS := hS.front 2 (C := [(b5, rowO [.int .u64 9, .int .u64 ma0, .int .u32 1, .int .u16 mc3, .int .u16 mc4, .int .u64 mc5, .int .u32 mc6, .int .u8 mc7, .int .u64 mc8, .int .u64 mc9, .slice mcB bsmc.length mcd] 32)]) (L' := L47 :: (E37 ++ (E16 ++ [])) :: [(b3, rowO [.int .u64 9, .int .u64 ma0, .int .u32 1, .int .u16 mb3, .int .u16 mb4, .int .u64 mb5, .int .u32 mb6, .int .u8 mb7, .int .u64 mb8, .int .u64 mb9, .slice mbB bsmb.length mbd] 32)] :: [(b25, rowO [.int .u64 ma0, .int .u64 9, .int .u32 1, .int .u16 ma3, .int .u16 0, .int .u64 ma5, .int .u32 ma6, .int .u8 ma7, .int .u64 ma8, .int .u64 ma9, .slice A19 bsma.length c20] 32)] :: [(b1, rowO [.int .u64 ma0, .int .u64 ma1, .int .u32 ma2, .int .u16 ma3, .int .u16 ma4, .int .u64 ma5, .int .u32 ma6, .int .u8 ma7, .int .u64 ma8, .int .u64 ma9, .slice maB bsma.length mad] 32)] :: F) rfl rfl
  replace hS := hS.drop1
  replace hS := hS.front 4 (C := [(b1, rowO [.int .u64 ma0, .int .u64 ma1, .int .u32 ma2, .int .u16 ma3, .int .u16 ma4, .int .u64 ma5, .int .u32 ma6, .int .u8 ma7, .int .u64 ma8, .int .u64 ma9, .slice maB bsma.length mad] 32)]) (L' := L47 :: (E37 ++ (E16 ++ [])) :: [(b3, rowO [.int .u64 9, .int .u64 ma0, .int .u32 1, .int .u16 mb3, .int .u16 mb4, .int .u64 mb5, .int .u32 mb6, .int .u8 mb7, .int .u64 mb8, .int .u64 mb9, .slice mbB bsmb.length mbd] 32)] :: [(b25, rowO [.int .u64 ma0, .int .u64 9, .int .u32 1, .int .u16 ma3, .int .u16 0, .int .u64 ma5, .int .u32 ma6, .int .u8 ma7, .int .u64 ma8, .int .u64 ma9, .slice A19 bsma.length c20] 32)] :: F) rfl rfl
  replace hS := hS.drop1
  replace hS := hS.front 3 (C := [(b25, rowO [.int .u64 ma0, .int .u64 9, .int .u32 1, .int .u16 ma3, .int .u16 0, .int .u64 ma5, .int .u32 ma6, .int .u8 ma7, .int .u64 ma8, .int .u64 ma9, .slice A19 bsma.length c20] 32)]) (L' := L47 :: (E37 ++ (E16 ++ [])) :: [(b3, rowO [.int .u64 9, .int .u64 ma0, .int .u32 1, .int .u16 mb3, .int .u16 mb4, .int .u64 mb5, .int .u32 mb6, .int .u8 mb7, .int .u64 mb8, .int .u64 mb9, .slice mbB bsmb.length mbd] 32)] :: F) rfl rfl
  replace hS := hS.front 3 (C := [(b3, rowO [.int .u64 9, .int .u64 ma0, .int .u32 1, .int .u16 mb3, .int .u16 mb4, .int .u64 mb5, .int .u32 mb6, .int .u8 mb7, .int .u64 mb8, .int .u64 mb9, .slice mbB bsmb.length mbd] 32)]) (L' := [(b25, rowO [.int .u64 ma0, .int .u64 9, .int .u32 1, .int .u16 ma3, .int .u16 0, .int .u64 ma5, .int .u32 ma6, .int .u8 ma7, .int .u64 ma8, .int .u64 ma9, .slice A19 bsma.length c20] 32)] :: L47 :: (E37 ++ (E16 ++ [])) :: F) rfl rfl
  replace hS := hS.front 3 (C := (E37 ++ (E16 ++ []))) (L' := [(b3, rowO [.int .u64 9, .int .u64 ma0, .int .u32 1, .int .u16 mb3, .int .u16 mb4, .int .u64 mb5, .int .u32 mb6, .int .u8 mb7, .int .u64 mb8, .int .u64 mb9, .slice mbB bsmb.length mbd] 32)] :: [(b25, rowO [.int .u64 ma0, .int .u64 9, .int .u32 1, .int .u16 ma3, .int .u16 0, .int .u64 ma5, .int .u32 ma6, .int .u8 ma7, .int .u64 ma8, .int .u64 ma9, .slice A19 bsma.length c20] 32)] :: L47 :: F) rfl rfl
  replace hS := hS.front 3 (C := L47) (L' := (E37 ++ (E16 ++ [])) :: [(b3, rowO [.int .u64 9, .int .u64 ma0, .int .u32 1, .int .u16 mb3, .int .u16 mb4, .int .u64 mb5, .int .u32 mb6, .int .u8 mb7, .int .u64 mb8, .int .u64 mb9, .slice mbB bsmb.length mbd] 32)] :: [(b25, rowO [.int .u64 ma0, .int .u64 9, .int .u32 1, .int .u16 ma3, .int .u16 0, .int .u64 ma5, .int .u32 ma6, .int .u8 ma7, .int .u64 ma8, .int .u64 ma9, .slice A19 bsma.length c20] 32)] :: F) rfl rfl
  refine wp_loop_ghost (fun m a w => ∃ (k : Nat) (L4 : Chunk) (D4 : Chunk), m = g % 30 - k ∧ Has a 88 [(3, .int .u8 ((g : Nat) : Int)), (5, .pointer (some ⟨b3, 0, none⟩)), (9, .pointer (some ⟨b8, 0, none⟩)), (10, .pointer (some ⟨b25, 0, none⟩)), (11, .nilIface), (12, .bool true), (13, .bool false), (14, .int .i64 ((k : Nat) : Int))] ∧ St w0 w (L4 :: D4 :: [(b3, rowO [.int .u64 9, .int .u64 ma0, .int .u32 1, .int .u16 mb3, .int .u16 mb4, .int .u64 mb5, .int .u32 mb6, .int .u8 mb7, .int .u64 mb8, .int .u64 mb9, .slice mbB bsmb.length mbd] 32)] :: [(b25, rowO [.int .u64 ma0, .int .u64 9, .int .u32 1, .int .u16 ma3, .int .u16 0, .int .u64 ma5, .int .u32 ma6, .int .u8 ma7, .int .u64 ma8, .int .u64 ma9, .slice A19 bsma.length c20] 32)] :: F) ∧ (k ≤ g % 30) ∧ (CR b8 9 3 4 [(ma0, 9, 1, ma3, 0, ma5, ma6, ma7, ma8, ma9, A17, c18, bsma, 2, 1, 3, 9, ma0, 1, mb3, mb4, mb5, mb6, mb7, mb8, mb9, A38, c39, bsmb)] L4) ∧ (∀ x ∈ [(ma0, 9, 1, ma3, 0, ma5, ma6, ma7, ma8, ma9, A17, c18, bsma, 2, 1, 3, 9, ma0, 1, mb3, mb4, mb5, mb6, mb7, mb8, mb9, A38, c39, bsmb)], encCall_dd w0 D4 x)) (g % 30 - 0)
    ⟨0, L47, (E37 ++ (E16 ++ [])), rfl, (hA.sel [3, 5, 9, 10, 11, 12, 13, 14] rfl), hS, Nat.zero_le _, hM48, dd44⟩ ?_
  clear hA hS; rintro m0 a w49 ⟨k, L4, D4, rfl, hA, hS, hk, hM4, hdd4⟩
  refine wp_seq ?_
  refine wp_seq ?_
  refine wp_region_lit ?_
  refine st_run tbOk 3 hA (e' := (49, .int .u8 (((g : Nat) : Int).tmod 30)) :: (48, .int .u8 ((g : Nat) : Int)) :: (47, .int .i64 ((k : Nat) : Int)) :: _) rfl ?_; clear hA; intro a hA
  replace hA := hA.rw 49 (v' := .int .u8 ((g % 30 : Nat) : Int)) rfl (vint (Int.ofNat_tmod _ _).symm)
  refine st_run tbOk 1 hA (e' := (50, .int .i64 (IntKind.i64.wrap ((g % 30 : Nat) : Int))) :: _) rfl ?_; clear hA; intro a hA
  replace hA := hA.rw 50 (v' := .int .i64 ((g % 30 : Nat) : Int)) rfl (wr64 (by rfl) (by omega) (by omega))
  refine st_run tbOk 1 hA (e' := (51, .bool (decide (((k : Nat) : Int) < ((g % 30 : Nat) : Int)))) :: _) rfl ?_; clear hA; intro a hA
  refine wpList_nil ?_
  replace hA := hA.sel [3, 5, 9, 10, 11, 12, 13, 14, 51] (e' := [(3, .int .u8 ((g : Nat) : Int)), (5, .pointer (some ⟨b3, 0, none⟩)), (9, .pointer (some ⟨b8, 0, none⟩)), (10, .pointer (some ⟨b25, 0, none⟩)), (11, .nilIface), (12, .bool true), (13, .bool false), (14, .int .i64 ((k : Nat) : Int)), (51, .bool (decide (((k : Nat) : Int) < ((g % 30 : Nat) : Int))))]) rfl
  refine xt_norm ?_
  by_cases hc50 : ((k : Nat) : Int) < ((g % 30 : Nat) : Int)
  · first
    | (exfalso; omega)
    | (replace hA := hA.rw 51 (v' := .bool true) rfl (vb_true hc50)
       refine cd_cond_t hA rfl ?_
       refine wp_skip ?_
       refine xt_norm ?_
       refine wp_seq ?_
       refine wp_block ?_
       refine wp_seq ?_
       refine wp_region_lit ?_
       refine st_run tbOk 1 hA (e' := (54, .pointer (some ⟨b8, 0, none⟩)) :: _) rfl ?_; clear hA; intro a hA
       replace hS := hS.front 1 (C := D4) (L' := L4 :: [(b3, rowO [.int .u64 9, .int .u64 ma0, .int .u32 1, .int .u16 mb3, .int .u16 mb4, .int .u64 mb5, .int .u32 mb6, .int .u8 mb7, .int .u64 mb8, .int .u64 mb9, .slice mbB bsmb.length mbd] 32)] :: [(b25, rowO [.int .u64 ma0, .int .u64 9, .int .u32 1, .int .u16 ma3, .int .u16 0, .int .u64 ma5, .int .u32 ma6, .int .u8 ma7, .int .u64 ma8, .int .u64 ma9, .slice A19 bsma.length c20] 32)] :: F) rfl rfl
       replace hS := hS.front 1 (C := L4) (L' := D4 :: [(b3, rowO [.int .u64 9, .int .u64 ma0, .int .u32 1, .int .u16 mb3, .int .u16 mb4, .int .u64 mb5, .int .u32 mb6, .int .u8 mb7, .int .u64 mb8, .int .u64 mb9, .slice mbB bsmb.length mbd] 32)] :: [(b25, rowO [.int .u64 ma0, .int .u64 9, .int .u32 1, .int .u16 ma3, .int .u16 0, .int .u64 ma5, .int .u32 ma6, .int .u8 ma7, .int .u64 ma8, .int .u64 ma9, .slice A19 bsma.length c20] 32)] :: F) rfl rfl
       refine st_call0 hA rfl rfl rfl isfn10 rfl rfl (by decide) (ctick10 hS hM4 hdd4 sz45 (one_of (fun h => absurd (show (2 : Int) = 1 from h) (by decide))) (by first | omega | exact Nat.le_of_ble_eq_true rfl) (by first | decide | omega) (by first | decide | omega)) ?_
       clear hA hS; rintro _ w51 a ⟨L52, D53, out54, A55, c56, C57, hM58, hU59, hum60, hud61, hdx62, rfl, hS⟩ hA
       have dd63 : ∀ x ∈ (([(ma0, 9, 1, ma3, 0, ma5, ma6, ma7, ma8, ma9, A17, c18, bsma, 2, 1, 3, 9, ma0, 1, mb3, mb4, mb5, mb6, mb7, mb8, mb9, A38, c39, bsmb)]).map (tick1 3 4)), encCall_dd w0 D53 x := tick_dd (hdx62.calls hdd4)
       have sz64 : ∀ x ∈ (([(ma0, 9, 1, ma3, 0, ma5, ma6, ma7, ma8, ma9, A17, c18, bsma, 2, 1, 3, 9, ma0, 1, mb3, mb4, mb5, mb6, mb7, mb8, mb9, A38, c39, bsmb)]).map (tick1 3 4)), csz x := tick_sz sz45
       have et65 : tick1 3 4 (ma0, 9, 1, ma3, 0, ma5, ma6, ma7, ma8, ma9, A17, c18, bsma, 2, 1, 3, 9, ma0, 1, mb3, mb4, mb5, mb6, mb7, mb8, mb9, A38, c39, bsmb) = (ma0, 9, 1, ma3, 0, ma5, ma6, ma7, ma8, ma9, A17, c18, bsma, 2, 1, 3, 9, ma0, 1, mb3, mb4, mb5, mb6, mb7, mb8, mb9, A38, c39, bsmb) := tick_n (x := (ma0, 9, 1, ma3, 0, ma5, ma6, ma7, ma8, ma9, A17, c18, bsma, 2, 1, 3, 9, ma0, 1, mb3, mb4, mb5, mb6, mb7, mb8, mb9, A38, c39, bsmb)) (show ¬ (2 : Int) = 1 by decide)
       have ea66 : again1 4 (ma0, 9, 1, ma3, 0, ma5, ma6, ma7, ma8, ma9, A17, c18, bsma, 2, 1, 3, 9, ma0, 1, mb3, mb4, mb5, mb6, mb7, mb8, mb9, A38, c39, bsmb) = false := ag_n (fun h => absurd (show (2 : Int) = 1 from h.1) (by decide))
       have hol70 : out54.length = 0 := by
           have h := congrArg List.length hum60
           simp only [List.length_map, List.filter, ea66, List.length_cons, List.length_nil] at h
           exact h
       have hM67 : CR b8 9 3 4 [(ma0, 9, 1, ma3, 0, ma5, ma6, ma7, ma8, ma9, A17, c18, bsma, 2, 1, 3, 9, ma0, 1, mb3, mb4, mb5, mb6, mb7, mb8, mb9, A38, c39, bsmb)] L52 := by
           have h := hM58
           rw [List.map_cons, List.map_nil, et65] at h
           exact h
       have dd68 : ∀ x ∈ [(ma0, 9, 1, ma3, 0, ma5, ma6, ma7, ma8, ma9, A17, c18, bsma, 2, 1, 3, 9, ma0, 1, mb3, mb4, mb5, mb6, mb7, mb8, mb9, A38, c39, bsmb)], encCall_dd w0 D53 x := by
           have h := dd63
           rw [List.map_cons, List.map_nil, et65] at h
           exact h
       have sz69 : ∀ x ∈ [(ma0, 9, 1, ma3, 0, ma5, ma6, ma7, ma8, ma9, A17, c18, bsma, 2, 1, 3, 9, ma0, 1, mb3, mb4, mb5, mb6, mb7, mb8, mb9, A38, c39, bsmb)], csz x := by
           have h := sz64
           rw [List.map_cons, List.map_nil, et65] at h
           exact h
       refine st_run tbOk 1 hA (e' := (56, .int .i64 ((out54.length : Nat) : Int)) :: _) rfl ?_; clear hA; intro a hA
       replace hA := hA.rw 56 (v' := .int .i64 0) rfl (by rw [hol70]; rfl)
       refine st_run tbOk 1 hA (e' := (57, .bool false) :: _) rfl ?_; clear hA; intro a hA
       refine wpList_nil ?_
       replace hA := hA.sel [3, 5, 9, 10, 11, 12, 13, 14, 57] (e' := [(3, .int .u8 ((g : Nat) : Int)), (5, .pointer (some ⟨b3, 0, none⟩)), (9, .pointer (some ⟨b8, 0, none⟩)), (10, .pointer (some ⟨b25, 0, none⟩)), (11, .nilIface), (12, .bool true), (13, .bool false), (14, .int .i64 ((k : Nat) : Int)), (57, .bool false)]) rfl
       refine xt_norm ?_
       refine cd_cond_f hA rfl ?_
       refine wp_skip ?_
       refine xb_norm ?_
       refine xt_norm ?_
       refine wp_region_lit ?_
       refine st_run tbOk 2 hA (e' := (53, .int .i64 (IntKind.i64.wrap (((k : Nat) : Int) + 1))) :: (52, .int .i64 ((k : Nat) : Int)) :: _) rfl ?_; clear hA; intro a hA
       replace hA := hA.rw 53 (v' := .int .i64 ((k + 1 : Nat) : Int)) rfl (wr64 (by omega) (by omega) (by omega))
       refine st_run tbOk 1 hA (e' := (14, .int .i64 ((k + 1 : Nat) : Int)) :: _) rfl ?_; clear hA; intro a hA
       refine wpList_nil ?_
       replace hA := hA.sel [3, 5, 9, 10, 11, 12, 13, 14] (e' := [(3, .int .u8 ((g : Nat) : Int)), (5, .pointer (some ⟨b3, 0, none⟩)), (9, .pointer (some ⟨b8, 0, none⟩)), (10, .pointer (some ⟨b25, 0, none⟩)), (11, .nilIface), (12, .bool true), (13, .bool false), (14, .int .i64 ((k + 1 : Nat) : Int))]) rfl
       replace hS := hS.drop1
       replace hS := hS.front 3 (C := [(b25, rowO [.int .u64 ma0, .int .u64 9, .int .u32 1, .int .u16 ma3, .int .u16 0, .int .u64 ma5, .int .u32 ma6, .int .u8 ma7, .int .u64 ma8, .int .u64 ma9, .slice A19 bsma.length c20] 32)]) (L' := L52 :: D53 :: [(b3, rowO [.int .u64 9, .int .u64 ma0, .int .u32 1, .int .u16 mb3, .int .u16 mb4, .int .u64 mb5, .int .u32 mb6, .int .u8 mb7, .int .u64 mb8, .int .u64 mb9, .slice mbB bsmb.length mbd] 32)] :: F) rfl rfl
       replace hS := hS.front 3 (C := [(b3, rowO [.int .u64 9, .int .u64 ma0, .int .u32 1, .int .u16 mb3, .int .u16 mb4, .int .u64 mb5, .int .u32 mb6, .int .u8 mb7, .int .u64 mb8, .int .u64 mb9, .slice mbB bsmb.length mbd] 32)]) (L' := [(b25, rowO [.int .u64 ma0, .int .u64 9, .int .u32 1, .int .u16 ma3, .int .u16 0, .int .u64 ma5, .int .u32 ma6, .int .u8 ma7, .int .u64 ma8, .int .u64 ma9, .slice A19 bsma.length c20] 32)] :: L52 :: D53 :: F) rfl rfl
       replace hS := hS.front 3 (C := D53) (L' := [(b3, rowO [.int .u64 9, .int .u64 ma0, .int .u32 1, .int .u16 mb3, .int .u16 mb4, .int .u64 mb5, .int .u32 mb6, .int .u8 mb7, .int .u64 mb8, .int .u64 mb9, .slice mbB bsmb.length mbd] 32)] :: [(b25, rowO [.int .u64 ma0, .int .u64 9, .int .u32 1, .int .u16 ma3, .int .u16 0, .int .u64 ma5, .int .u32 ma6, .int .u8 ma7, .int .u64 ma8, .int .u64 ma9, .slice A19 bsma.length c20] 32)] :: L52 :: F) rfl rfl
       replace hS := hS.front 3 (C := L52) (L' := D53 :: [(b3, rowO [.int .u64 9, .int .u64 ma0, .int .u32 1, .int .u16 mb3, .int .u16 mb4, .int .u64 mb5, .int .u32 mb6, .int .u8 mb7, .int .u64 mb8, .int .u64 mb9, .slice mbB bsmb.length mbd] 32)] :: [(b25, rowO [.int .u64 ma0, .int .u64 9, .int .u32 1, .int .u16 ma3, .int .u16 0, .int .u64 ma5, .int .u32 ma6, .int .u8 ma7, .int .u64 ma8, .int .u64 ma9, .slice A19 bsma.length c20] 32)] :: F) rfl rfl
       exact lp_next _ (by omega) ⟨(k + 1), L52, D53, rfl, (hA.sel [3, 5, 9, 10, 11, 12, 13, 14] rfl), hS, by omega, hM67, dd68⟩)
  · first
    | (exfalso; omega)
    | (replace hA := hA.rw 51 (v' := .bool false) rfl (vb_false hc50)
       refine cd_cond_f hA rfl ?_
       refine wp_exit ?_
       refine xt_exit ?_
       refine xt_exit ?_
       refine cd_exit_eq ?_
       refine xt_norm ?_
       refine wp_seq ?_
       refine wp_region_lit ?_
       refine st_run tbOk 2 hA (e' := (60, .pointer (some ⟨b25, 2, none⟩)) :: (59, .pointer (some ⟨b8, 0, none⟩)) :: _) rfl ?_; clear hA; intro a hA
       refine st_val hA rfl rfl (by decide) (rn_load tbOk hA rfl rfl rfl rfl (cell_row (hS.heapAt 3 rfl) rfl)) ?_; clear hA; intro a hA
       replace hS := hS.front 1 (C := D4) (L' := L4 :: [(b3, rowO [.int .u64 9, .int .u64 ma0, .int .u32 1, .int .u16 mb3, .int .u16 mb4, .int .u64 mb5, .int .u32 mb6, .int .u8 mb7, .int .u64 mb8, .int .u64 mb9, .slice mbB bsmb.length mbd] 32)] :: [(b25, rowO [.int .u64 ma0, .int .u64 9, .int .u32 1, .int .u16 ma3, .int .u16 0, .int .u64 ma5, .int .u32 ma6, .int .u8 ma7, .int .u64 ma8, .int .u64 ma9, .slice A19 bsma.length c20] 32)] :: F) rfl rfl
       replace hS := hS.front 1 (C := L4) (L' := D4 :: [(b3, rowO [.int .u64 9, .int .u64 ma0, .int .u32 1, .int .u16 mb3, .int .u16 mb4, .int .u64 mb5, .int .u32 mb6, .int .u8 mb7, .int .u64 mb8, .int .u64 mb9, .slice mbB bsmb.length mbd] 32)] :: [(b25, rowO [.int .u64 ma0, .int .u64 9, .int .u32 1, .int .u16 ma3, .int .u16 0, .int .u64 ma5, .int .u32 ma6, .int .u8 ma7, .int .u64 ma8, .int .u64 ma9, .slice A19 bsma.length c20] 32)] :: F) rfl rfl
       refine st_call0 hA rfl rfl rfl isfn11 rfl rfl (by decide) (cget_ok11 hS hM4 (k := 0) (x := (ma0, 9, 1, ma3, 0, ma5, ma6, ma7, ma8, ma9, A17, c18, bsma, 2, 1, 3, 9, ma0, 1, mb3, mb4, mb5, mb6, mb7, mb8, mb9, A38, c39, bsmb)) rfl (Nat.le_of_ble_eq_true rfl) rfl (show ¬ (2 : Int) = 3 by decide) hdd4 sz45) ?_
       clear hA hS; rintro _ w71 a ⟨L72, E74, A75, c76, hM73, hE77, rfl, hS⟩ hA
       have dd78 := encCall_lefts (E := E74) hdd4
       refine st_run tbOk 4 hA (e' := (65, .nilIface) :: (64, .agg #[.int .u64 9, .int .u64 ma0, .int .u32 1, .int .u16 mb3, .int .u16 mb4, .int .u64 mb5, .int .u32 mb6, .int .u8 mb7, .int .u64 mb8, .int .u64 mb9, .slice A75 bsmb.length c76]) :: (63, .int .i64 2) :: (58, .tuple #[.int .i64 2, .agg #[.int .u64 9, .int .u64 ma0, .int .u32 1, .int .u16 mb3, .int .u16 mb4, .int .u64 mb5, .int .u32 mb6, .int .u8 mb7, .int .u64 mb8, .int .u64 mb9, .slice A75 bsmb.length c76], .nilIface]) :: _) rfl ?_; clear hA; intro a hA
       refine st_alloc tbOk hA hS [.int .u64 0, .int .u64 0, .int .u32 0, .int .u16 0, .int .u16 0, .int .u64 0, .int .u32 0, .int .u8 0, .int .u64 0, .int .u64 0, .slice none 0 0] rfl rfl rfl rfl rfl (by decide) ?_; clear hA hS; intro b79 w80 a hS hA
       refine st_run tbOk 1 hA (e' := (15, .int .i64 2) :: _) rfl ?_; clear hA; intro a hA
       refine st_store tbOk hA hS [.int .u64 9, .int .u64 ma0, .int .u32 1, .int .u16 mb3, .int .u16 mb4, .int .u64 mb5, .int .u32 mb6, .int .u8 mb7, .int .u64 mb8, .int .u64 mb9, .slice A75 bsmb.length c76] [.int .u64 9, .int .u64 ma0, .int .u32 1, .int .u16 mb3, .int .u16 mb4, .int .u64 mb5, .int .u32 mb6, .int .u8 mb7, .int .u64 mb8, .int .u64 mb9, .slice A75 bsmb.length c76] rfl rfl rfl rfl rfl rfl (by simp [Value.oneCell']) (Nat.le_of_ble_eq_true rfl) rfl rfl rfl ?_; clear hS; intro w81 hS
       refine st_run tbOk 1 hA (e' := (17, .nilIface) :: _) rfl ?_; clear hA; intro a hA
       refine wpList_nil ?_
       replace hA := hA.sel [5, 11, 12, 13, 15, 16, 17] (e' := [(5, .pointer (some ⟨b3, 0, none⟩)), (11, .nilIface), (12, .bool true), (13, .bool false), (15, .int .i64 2), (16, .pointer (some ⟨b79, 0, none⟩)), (17, .nilIface)]) rfl
       refine xt_norm ?_
       refine wp_seq ?_
       refine wp_region_lit ?_
       refine st_run tbOk 18 hA (e' := (83, .bool true) :: (82, .bool true) :: (81, .bool true) :: (80, .nilIface) :: (79, .bool true) :: (78, .bool true) :: (77, .bool true) :: (76, .int .i64 2) :: (75, .bool true) :: (74, .bool true) :: (73, .bool true) :: (72, .bool false) :: (71, .bool true) :: (70, .bool true) :: (69, .bool true) :: (68, .bool true) :: (67, .bool true) :: (66, .nilIface) :: _) rfl ?_; clear hA; intro a hA
       refine st_val hA rfl rfl (by decide) (rn_loadA tbOk hA [.int .u64 9, .int .u64 ma0, .int .u32 1, .int .u16 mb3, .int .u16 mb4, .int .u64 mb5, .int .u32 mb6, .int .u8 mb7, .int .u64 mb8, .int .u64 mb9, .slice A75 bsmb.length c76] rfl rfl rfl rfl rfl (cells_row (hS.heapAt 0 rfl) rfl)) ?_; clear hA; intro a hA
       refine st_val hA rfl rfl (by decide) (rn_loadA tbOk hA [.int .u64 9, .int .u64 ma0, .int .u32 1, .int .u16 mb3, .int .u16 mb4, .int .u64 mb5, .int .u32 mb6, .int .u8 mb7, .int .u64 mb8, .int .u64 mb9, .slice mbB bsmb.length mbd] rfl rfl rfl rfl rfl (cells_row (hS.heapAt 3 rfl) rfl)) ?_; clear hA; intro a hA
       refine st_call0 hA rfl rfl rfl isfn13 rfl rfl (by decide) (same04_13 hS 9 ma0 1 mb3 mb4 mb5 mb6 mb7 mb8 mb9 9 ma0 1 mb3 mb4 mb5 mb6 mb7 mb8 mb9 (bs := bsmb) (cs := bsmb) (fun w' h => (hE77.right _ (h.only 2 rfl))) (fun w' h => (hdmb _ (h.tail 5 rfl)))) ?_
       clear hA hS; rintro v w82 a ⟨rfl, hS⟩ hA
       replace hA := hA.rw 86 (v' := .bool true) rfl (congrArg Value.bool (by rw [decide_eq_true_eq]; exact ⟨rfl, rfl, rfl, rfl, rfl, ⟨rfl, rfl, rfl, rfl⟩, rfl, rfl⟩))
       refine st_run tbOk 2 hA (e' := (8, .bool true) :: (87, .bool true) :: _) rfl ?_; clear hA; intro a hA
       refine wpList_nil ?_
       replace hA := hA.sel [8] (e' := [(8, .bool true)]) rfl
       refine xt_norm ?_
       refine wp_ret ?_
       refine ret1 (fn := Tryd.f4) hA rfl rfl ?_
       replace hS := hS.drop1
       replace hS := hS.drop1
       replace hS := hS.drop1
       replace hS := hS.drop1
       replace hS := hS.drop1
       exact ⟨rfl, hS⟩)

theorem fits5 {w0 w : World} {F : List Chunk} (hS : St w0 w F) (hg : HG w0) (ma0 ma1 ma2 ma3 ma4 ma5 ma6 ma7 ma8 ma9 : Int) {dvma : Value} {bsma : List UInt8} (hdma : RdSX w0 F 1 dvma bsma.length (rows encB bsma)) (hblma : bsma.length ≤ 140737488351232) (mb0 mb1 mb2 mb3 mb4 mb5 mb6 mb7 mb8 mb9 : Int) {dvmb : Value} {bsmb : List UInt8} (hdmb : RdSX w0 F 1 dvmb bsmb.length (rows encB bsmb)) (hblmb : bsmb.length ≤ 140737488351232) (hm0 : 0 ≤ ma0 ∧ ma0 < 18446744073709551616) (a2 : Int) (h0 : 0 ≤ a2) (hb0 : a2 < 256) :
    Ret Tryd.prog 5 #[.agg #[.int .u64 ma0, .int .u64 ma1, .int .u32 ma2, .int .u16 ma3, .int .u16 ma4, .int .u64 ma5, .int .u32 ma6, .int .u8 ma7, .int .u64 ma8, .int .u64 ma9, dvma], .agg #[.int .u64 mb0, .int .u64 mb1, .int .u32 mb2, .int .u16 mb3, .int .u16 mb4, .int .u64 mb5, .int .u32 mb6, .int .u8 mb7, .int .u64 mb8, .int .u64 mb9, dvmb], .int .u8 a2] w (fun v w' => v = .bool true ∧ St w0 w' F) := by
  obtain ⟨maB, mad, rfl, mah1, mah2⟩ := (hdma _ hS).open'
  obtain ⟨mbB, mbd, rfl, mbh1, mbh2⟩ := (hdmb _ hS).open'
  obtain ⟨g, rfl⟩ := Int.eq_ofNat_of_zero_le h0
  obtain ⟨hrne, hr0⟩ := wrap_u64_ne ma0 hm0.1 hm0.2
  refine enter (vs := [.agg #[.int .u64 ma0, .int .u64 ma1, .int .u32 ma2, .int .u16 ma3, .int .u16 ma4, .int .u64 ma5, .int .u32 ma6, .int .u8 ma7, .int .u64 ma8, .int .u64 ma9, .slice maB bsma.length mad], .agg #[.int .u64 mb0, .int .u64 mb1, .int .u32 mb2, .int .u16 mb3, .int .u16 mb4, .int .u64 mb5, .int .u32 mb6, .int .u8 mb7, .int .u64 mb8, .int .u64 mb9, .slice mbB bsmb.length mbd], .int .u8 ((g : Nat) : Int)]) 73 Tryd.func5 rfl rfl (by simp) ?_; intro a hA
  refine wp_seq ?_
  refine wp_region_lit ?_
  refine st_box hA hS [.int .u64 ma0, .int .u64 ma1, .int .u32 ma2, .int .u16 ma3, .int .u16 ma4, .int .u64 ma5, .int .u32 ma6, .int .u8 ma7, .int .u64 ma8, .int .u64 ma9, .slice maB bsma.length mad] rfl rfl rfl rfl rfl (by decide) ?_; clear hA hS; intro b1 w2 a hS hA
  refine st_box hA hS [.int .u64 mb0, .int .u64 mb1, .int .u32 mb2, .int .u16 mb3, .int .u16 mb4, .int .u64 mb5, .int .u32 mb6, .int .u8 mb7, .int .u64 mb8, .int .u64 mb9, .slice mbB bsmb.length mbd] rfl rfl rfl rfl rfl (by decide) ?_; clear hA hS; intro b3 w4 a hS hA
  refine st_run tbOk 1 hA (e' := (6, .bool false) :: _) rfl ?_; clear hA; intro a hA
  refine wpList_nil ?_
  replace hA := hA.sel [2, 3, 4] (e' := [(2, .int .u8 ((g : Nat) : Int)), (3, .pointer (some ⟨b1, 0, none⟩)), (4, .pointer (some ⟨b3, 0, none⟩))]) rfl
  refine xt_norm ?_
  refine wp_seq ?_
  refine wp_seq ?_
  refine wp_region_lit ?_
  refine st_call0 hA rfl rfl rfl isfn7 rfl rfl (by decide) (awake7 hS hg) ?_
  clear hA hS; rintro _ w5 a ⟨rfl, hS⟩ hA
  refine st_run tbOk 1 hA (e' := (15, .bool false) :: _) rfl ?_; clear hA; intro a hA
  refine wpList_nil ?_
  replace hA := hA.sel [2, 3, 4, 15] (e' := [(2, .int .u8 ((g : Nat) : Int)), (3, .pointer (some ⟨b1, 0, none⟩)), (4, .pointer (some ⟨b3, 0, none⟩)), (15, .bool false)]) rfl
  refine xt_norm ?_
  refine cd_cond_f hA rfl ?_
  refine wp_skip ?_
  refine xt_norm ?_
  refine wp_seq ?_
  refine wp_region_lit ?_
  refine st_call0 hA rfl rfl rfl isfn8 rfl rfl (by decide) (cof8 hS 9 3 4) ?_
  clear hA hS; rintro _ w9 a ⟨b6, L7, hM8, rfl, hS⟩ hA
  have hM10 : CR b6 9 3 4 [] L7 := by first | exact hM8 | simpa using hM8
  replace hS := hS.nil
  refine st_run tbOk 1 hA (e' := (7, .pointer (some ⟨b6, 0, none⟩)) :: _) rfl ?_; clear hA; intro a hA
  refine wpList_nil ?_
  replace hA := hA.sel [2, 3, 4, 7] (e' := [(2, .int .u8 ((g : Nat) : Int)), (3, .pointer (some ⟨b1, 0, none⟩)), (4, .pointer (some ⟨b3, 0, none⟩)), (7, .pointer (some ⟨b6, 0, none⟩))]) rfl
  refine xt_norm ?_
  refine wp_seq ?_
  refine wp_region_lit ?_
  refine st_run tbOk 1 hA (e' := (18, .pointer (some ⟨b6, 0, none⟩)) :: _) rfl ?_; clear hA; intro a hA
  refine st_val hA rfl rfl (by decide) (rn_loadA tbOk hA [.int .u64 ma0, .int .u64 ma1, .int .u32 ma2, .int .u16 ma3, .int .u16 ma4, .int .u64 ma5, .int .u32 ma6, .int .u8 ma7, .int .u64 ma8, .int .u64 ma9, .slice maB bsma.length mad] rfl rfl rfl rfl rfl (cells_row (hS.heapAt 3 rfl) rfl)) ?_; clear hA; intro a hA
  replace hS := hS.front 1 (C := L7) (L' := [] :: [(b3, rowO [.int .u64 mb0, .int .u64 mb1, .int .u32 mb2, .int .u16 mb3, .int .u16 mb4, .int .u64 mb5, .int .u32 mb6, .int .u8 mb7, .int .u64 mb8, .int .u64 mb9, .slice mbB bsmb.length mbd] 32)] :: [(b1, rowO [.int .u64 ma0, .int .u64 ma1, .int .u32 ma2, .int .u16 ma3, .int .u16 ma4, .int .u64 ma5, .int .u32 ma6, .int .u8 ma7, .int .u64 ma8, .int .u64 ma9, .slice maB bsma.length mad] 32)] :: F) rfl rfl
  refine st_call0 hA rfl rfl rfl isfn9 rfl rfl (by decide) (start_ok9 hS hM10 ma0 ma1 ma2 ma3 ma4 ma5 ma6 ma7 ma8 ma9 (bs := bsma) (fun w' h => (hdma _ (h.tail 3 rfl))) (by first | omega | exact Nat.zero_le _) (Nat.le_of_ble_eq_true rfl)) ?_
  clear hA hS; rintro _ w11 a ⟨L12, E14, A15, c16, A17, c18, hM13, hE19, hE20, rfl, hS⟩ hA
  replace hM13 : CR b6 9 3 4 [(ma0, 9, 1, ma3, 0, ma5, ma6, ma7, ma8, ma9, A15, c16, bsma, 1, 1, 3, 0, 0, 0, 0, 0, 0, 0, 0, 0, 0, none, 0, ([] : List UInt8))] L12 := hM13
  have dd21 : ∀ x ∈ ([(ma0, 9, 1, ma3, 0, ma5, ma6, ma7, ma8, ma9, A15, c16, bsma, 1, 1, 3, 0, 0, 0, 0, 0, 0, 0, 0, 0, 0, none, 0, ([] : List UInt8))]), encCall_dd w0 (E14 ++ []) x := one_of ⟨hE19.right, DD.nil⟩
  have sz22 : ∀ x ∈ ([(ma0, 9, 1, ma3, 0, ma5, ma6, ma7, ma8, ma9, A15, c16, bsma, 1, 1, 3, 0, 0, 0, 0, 0, 0, 0, 0, 0, 0, none, 0, ([] : List UInt8))]), csz x := one_of ⟨(by show (bsma).length ≤ 140737488351232; first | omega | exact Nat.zero_le _), (Nat.zero_le _)⟩
  replace hA := hA.rw 20 (v' := .tuple #[.agg #[.int .u64 ma0, .int .u64 9, .int .u32 1, .int .u16 ma3, .int .u16 0, .int .u64 ma5, .int .u32 ma6, .int .u8 ma7, .int .u64 ma8, .int .u64 ma9, .slice A17 bsma.length c18], .nilIface]) rfl (by rfl)
  refine st_run tbOk 3 hA (e' := (22, .nilIface) :: (21, .agg #[.int .u64 ma0, .int .u64 9, .int .u32 1, .int .u16 ma3, .int .u16 0, .int .u64 ma5, .int .u32 ma6, .int .u8 ma7, .int .u64 ma8, .int .u64 ma9, .slice A17 bsma.length c18]) :: (17, .tuple #[.agg #[.int .u64 ma0, .int .u64 9, .int .u32 1, .int .u16 ma3, .int .u16 0, .int .u64 ma5, .int .u32 ma6, .int .u8 ma7, .int .u64 ma8, .int .u64 ma9, .slice A17 bsma.length c18], .nilIface]) :: _) rfl ?_; clear hA; intro a hA
  refine st_alloc tbOk hA hS [.int .u64 0, .int .u64 0, .int .u32 0, .int .u16 0, .int .u16 0, .int .u64 0, .int .u32 0, .int .u8 0, .int .u64 0, .int .u64 0, .slice none 0 0] rfl rfl rfl rfl rfl (by decide) ?_; clear hA hS; intro b23 w24 a hS hA
  refine st_store tbOk hA hS [.int .u64 ma0, .int .u64 9, .int .u32 1, .int .u16 ma3, .int .u16 0, .int .u64 ma5, .int .u32 ma6, .int .u8 ma7, .int .u64 ma8, .int .u64 ma9, .slice A17 bsma.length c18] [.int .u64 ma0, .int .u64 9, .int .u32 1, .int .u16 ma3, .int .u16 0, .int .u64 ma5, .int .u32 ma6, .int .u8 ma7, .int .u64 ma8, .int .u64 ma9, .slice A17 bsma.length c18] rfl rfl rfl rfl rfl rfl (by simp [Value.oneCell']) (Nat.le_of_ble_eq_true rfl) rfl rfl rfl ?_; clear hS; intro w25 hS
  refine st_run tbOk 1 hA (e' := (9, .nilIface) :: _) rfl ?_; clear hA; intro a hA
  refine wpList_nil ?_
  replace hA := hA.sel [2, 4, 7, 8, 9] (e' := [(2, .int .u8 ((g : Nat) : Int)), (4, .pointer (some ⟨b3, 0, none⟩)), (7, .pointer (some ⟨b6, 0, none⟩)), (8, .pointer (some ⟨b23, 0, none⟩)), (9, .nilIface)]) rfl
  refine xt_norm ?_
  refine wp_seq ?_
  replace hS := hS.front 3 (C := [(b3, rowO [.int .u64 mb0, .int .u64 mb1, .int .u32 mb2, .int .u16 mb3, .int .u16 mb4, .int .u64 mb5, .int .u32 mb6, .int .u8 mb7, .int .u64 mb8, .int .u64 mb9, .slice mbB bsmb.length mbd] 32)]) (L' := [(b23, rowO [.int .u64 ma0, .int .u64 9, .int .u32 1, .int .u16 ma3, .int .u16 0, .int .u64 ma5, .int .u32 ma6, .int .u8 ma7, .int .u64 ma8, .int .u64 ma9, .slice A17 bsma.length c18] 32)] :: L12 :: (E14 ++ []) :: [(b1, rowO [.int .u64 ma0, .int .u64 ma1, .int .u32 ma2, .int .u16 ma3, .int .u16 ma4, .int .u64 ma5, .int .u32 ma6, .int .u8 ma7, .int .u64 ma8, .int .u64 ma9, .slice maB bsma.length mad] 32)] :: F) rfl rfl
  refine wp_draw (fun w' => St w0 w' ([(b23, rowO [.int .u64 ma0, .int .u64 9, .int .u32 1, .int .u16 ma3, .int .u16 0, .int .u64 ma5, .int .u32 ma6, .int .u8 ma7, .int .u64 ma8, .int .u64 ma9, .slice A17 bsma.length c18] 32)] :: L12 :: (E14 ++ []) :: [(b1, rowO [.int .u64 ma0, .int .u64 ma1, .int .u32 ma2, .int .u16 ma3, .int .u16 ma4, .int .u64 ma5, .int .u32 ma6, .int .u8 ma7, .int .u64 ma8, .int .u64 ma9, .slice maB bsma.length mad] 32)] :: F)) [] [(0, true), (1, true), (2, true), (3, true), (4, true), (5, false), (6, true), (7, false), (8, true), (9, false)] mixed (by kernel_rfl) (by rintro c a w ⟨_, _, h, _⟩; cases h) (by rfl) (by kernel_rfl) ?_
  replace hS := hS.drew
  refine dr_run tbOk 1 hA (hS.tail 1 rfl) (e' := (23, .pointer (some ⟨b23, 2, none⟩)) :: _) rfl ?_; clear hA; intro a hA
  refine dr_y hA rfl rfl rfl (by decide) (hS.tail 1 rfl) (fun w' hS' => rn_load tbOk hA rfl rfl rfl rfl (cell_row (hS'.heapAt 0 rfl) rfl)) ?_; clear hA; intro a hA
  refine dr_run tbOk 1 hA (hS.tail 1 rfl) (e' := (25, .pointer (some ⟨b23, 0, none⟩)) :: _) rfl ?_; clear hA; intro a hA
  refine dr_y hA rfl rfl rfl (by decide) (hS.tail 1 rfl) (fun w' hS' => rn_load tbOk hA rfl rfl rfl rfl (cell_row (hS'.heapAt 0 rfl) rfl)) ?_; clear hA; intro a hA
  refine dr_run tbOk 1 hA (hS.tail 1 rfl) (e' := (27, .pointer (some ⟨b3, 2, none⟩)) :: _) rfl ?_; clear hA; intro a hA
  refine dr_b (o := _) rfl ?_
  refine st_store tbOk hA hS [.int .u32 1] [.int .u64 mb0, .int .u64 mb1, .int .u32 1, .int .u16 mb3, .int .u16 mb4, .int .u64 mb5, .int .u32 mb6, .int .u8 mb7, .int .u64 mb8, .int .u64 mb9, .slice mbB bsmb.length mbd] rfl rfl rfl rfl rfl rfl (by intro u hu; rw [List.mem_singleton.1 hu]; rfl) (Nat.le_of_ble_eq_true rfl) rfl rfl rfl ?_; clear hS; intro w26 hS
  refine dr_nil (.inr (hS.tail 1 rfl)) ?_
  refine dr_run tbOk 1 hA (hS.tail 1 rfl) (e' := (28, .pointer (some ⟨b3, 0, none⟩)) :: _) rfl ?_; clear hA; intro a hA
  refine dr_b (o := _) rfl ?_
  refine st_store tbOk hA hS [.int .u64 9] [.int .u64 9, .int .u64 mb1, .int .u32 1, .int .u16 mb3, .int .u16 mb4, .int .u64 mb5, .int .u32 mb6, .int .u8 mb7, .int .u64 mb8, .int .u64 mb9, .slice mbB bsmb.length mbd] rfl rfl rfl rfl rfl rfl (by intro u hu; rw [List.mem_singleton.1 hu]; rfl) (Nat.le_of_ble_eq_true rfl) rfl rfl rfl ?_; clear hS; intro w27 hS
  refine dr_nil (.inr (hS.tail 1 rfl)) ?_
  refine dr_run tbOk 1 hA (hS.tail 1 rfl) (e' := (29, .pointer (some ⟨b3, 1, none⟩)) :: _) rfl ?_; clear hA; intro a hA
  refine dr_b (o := _) rfl ?_
  refine st_store tbOk hA hS [.int .u64 ma0] [.int .u64 9, .int .u64 ma0, .int .u32 1, .int .u16 mb3, .int .u16 mb4, .int .u64 mb5, .int .u32 mb6, .int .u8 mb7, .int .u64 mb8, .int .u64 mb9, .slice mbB bsmb.length mbd] rfl rfl rfl rfl rfl rfl (by intro u hu; rw [List.mem_singleton.1 hu]; rfl) (Nat.le_of_ble_eq_true rfl) rfl rfl rfl ?_; clear hS; intro w28 hS
  refine dr_nil (.inr (hS.tail 1 rfl)) ?_
  refine dr_end ?_
  replace hA := hA.sel [2, 4, 7, 8, 9] (e' := [(2, .int .u8 ((g : Nat) : Int)), (4, .pointer (some ⟨b3, 0, none⟩)), (7, .pointer (some ⟨b6, 0, none⟩)), (8, .pointer (some ⟨b23, 0, none⟩)), (9, .nilIface)]) rfl
  refine xt_norm ?_
  refine wp_seq ?_
  refine wp_seq ?_
  refine wp_region_lit ?_
  refine st_run tbOk 2 hA (e' := (31, .int .u8 (((g : Nat) : Int).tmod 3)) :: (30, .int .u8 ((g : Nat) : Int)) :: _) rfl ?_; clear hA; intro a hA
  replace hA := hA.rw 31 (v' := .int .u8 ((g % 3 : Nat) : Int)) rfl (vint (Int.ofNat_tmod _ _).symm)
  refine wpList_nil ?_
  replace hA := hA.sel [4, 7, 8, 9, 31] (e' := [(4, .pointer (some ⟨b3, 0, none⟩)), (7, .pointer (some ⟨b6, 0, none⟩)), (8, .pointer (some ⟨b23, 0, none⟩)), (9, .nilIface), (31, .int .u8 ((g % 3 : Nat) : Int))]) rfl
  refine xt_norm ?_
  refine wp_block ?_
  refine wp_seq ?_
  refine wp_region_lit ?_
  refine st_run tbOk 2 hA (e' := (36, .bool (((g % 3 : Nat) : Int) == 0)) :: (37, .bool (((g % 3 : Nat) : Int) == 0)) :: _) rfl ?_; clear hA; intro a hA
  refine wpList_nil ?_
  replace hA := hA.sel [4, 7, 8, 9, 31, 36] (e' := [(4, .pointer (some ⟨b3, 0, none⟩)), (7, .pointer (some ⟨b6, 0, none⟩)), (8, .pointer (some ⟨b23, 0, none⟩)), (9, .nilIface), (31, .int .u8 ((g % 3 : Nat) : Int)), (36, .bool (((g % 3 : Nat) : Int) == 0))]) rfl
  refine xt_norm ?_
  by_cases hc29 : ((g % 3 : Nat) : Int) = 0
  · first
    | (exfalso; omega)
    | (replace hA := hA.rw 36 (v' := .bool true) rfl (vb_eq_t hc29)
       refine cd_cond_t hA rfl ?_
       refine wp_region_lit ?_
       refine st_run tbOk 1 hA (e' := (38, .pointer (some ⟨b3, 2, none⟩)) :: _) rfl ?_; clear hA; intro a hA
       refine st_val hA rfl rfl (by decide) (rn_load tbOk hA rfl rfl rfl rfl (cell_row (hS.heapAt 0 rfl) rfl)) ?_; clear hA; intro a hA
       refine st_run tbOk 1 hA (e' := (40, .int .u32 (IntKind.u32.wrap (1 + 1))) :: _) rfl ?_; clear hA; intro a hA
       replace hA := hA.rw 40 (v' := .int .u32 2) rfl (vint (by decide))
       refine st_run tbOk 1 hA (e' := (41, .pointer (some ⟨b3, 2, none⟩)) :: _) rfl ?_; clear hA; intro a hA
       refine st_store tbOk hA hS [.int .u32 2] [.int .u64 9, .int .u64 ma0, .int .u32 2, .int .u16 mb3, .int .u16 mb4, .int .u64 mb5, .int .u32 mb6, .int .u8 mb7, .int .u64 mb8, .int .u64 mb9, .slice mbB bsmb.length mbd] rfl rfl rfl rfl rfl rfl (by intro u hu; rw [List.mem_singleton.1 hu]; rfl) (Nat.le_of_ble_eq_true rfl) rfl rfl rfl ?_; clear hS; intro w30 hS
       refine wpList_nil ?_
       replace hA := hA.sel [4, 7, 8, 9] (e' := [(4, .pointer (some ⟨b3, 0, none⟩)), (7, .pointer (some ⟨b6, 0, none⟩)), (8, .pointer (some ⟨b23, 0, none⟩)), (9, .nilIface)]) rfl
       refine xb_norm ?_
       refine xt_norm ?_
       refine wp_seq ?_
       refine wp_region_lit ?_
       refine st_run tbOk 1 hA (e' := (48, .pointer (some ⟨b6, 0, none⟩)) :: _) rfl ?_; clear hA; intro a hA
       refine st_val hA rfl rfl (by decide) (rn_loadA tbOk hA [.int .u64 9, .int .u64 ma0, .int .u32 2, .int .u16 mb3, .int .u16 mb4, .int .u64 mb5, .int .u32 mb6, .int .u8 mb7, .int .u64 mb8, .int .u64 mb9, .slice mbB bsmb.length mbd] rfl rfl rfl rfl rfl (cells_row (hS.heapAt 0 rfl) rfl)) ?_; clear hA; intro a hA
       replace hS := hS.front 3 (C := (E14 ++ [])) (L' := [(b3, rowO [.int .u64 9, .int .u64 ma0, .int .u32 2, .int .u16 mb3, .int .u16 mb4, .int .u64 mb5, .int .u32 mb6, .int .u8 mb7, .int .u64 mb8, .int .u64 mb9, .slice mbB bsmb.length mbd] 32)] :: [(b23, rowO [.int .u64 ma0, .int .u64 9, .int .u32 1, .int .u16 ma3, .int .u16 0, .int .u64 ma5, .int .u32 ma6, .int .u8 ma7, .int .u64 ma8, .int .u64 ma9, .slice A17 bsma.length c18] 32)] :: L12 :: [(b1, rowO [.int .u64 ma0, .int .u64 ma1, .int .u32 ma2, .int .u16 ma3, .int .u16 ma4, .int .u64 ma5, .int .u32 ma6, .int .u8 ma7, .int .u64 ma8, .int .u64 ma9, .slice maB bsma.length mad] 32)] :: F) rfl rfl
       replace hS := hS.front 3 (C := L12) (L' := (E14 ++ []) :: [(b3, rowO [.int .u64 9, .int .u64 ma0, .int .u32 2, .int .u16 mb3, .int .u16 mb4, .int .u64 mb5, .int .u32 mb6, .int .u8 mb7, .int .u64 mb8, .int .u64 mb9, .slice mbB bsmb.length mbd] 32)] :: [(b23, rowO [.int .u64 ma0, .int .u64 9, .int .u32 1, .int .u16 ma3, .int .u16 0, .int .u64 ma5, .int .u32 ma6, .int .u8 ma7, .int .u64 ma8, .int .u64 ma9, .slice A17 bsma.length c18] 32)] :: [(b1, rowO [.int .u64 ma0, .int .u64 ma1, .int .u32 ma2, .int .u16 ma3, .int .u16 ma4, .int .u64 ma5, .int .u32 ma6, .int .u8 ma7, .int .u64 ma8, .int .u64 ma9, .slice maB bsma.length mad] 32)] :: F) rfl rfl
       refine st_call0 hA rfl rfl rfl isfn12 rfl rfl (by decide) (answer_none12 hS hM13 9 ma0 2 mb3 mb4 mb5 mb6 mb7 mb8 mb9 _ (by right; show (1 : Int) < 2; decide) (by decide) (by decide)) ?_
       clear hA hS; rintro _ w31 a ⟨L32, hM33, rfl, hS⟩ hA
       refine st_run tbOk 1 hA (e' := (10, .bool false) :: _) rfl ?_; clear hA; intro a hA
       refine wpList_nil ?_
       replace hA := hA.sel [7, 8, 9, 10] (e' := [(7, .pointer (some ⟨b6, 0, none⟩)), (8, .pointer (some ⟨b23, 0, none⟩)), (9, .nilIface), (10, .bool false)]) rfl
       refine xt_norm ?_
       refine wp_seq ?_
       refine wp_region_lit ?_
       refine st_run tbOk 2 hA (e' := (53, .pointer (some ⟨b23, 2, none⟩)) :: (52, .pointer (some ⟨b6, 0, none⟩)) :: _) rfl ?_; clear hA; intro a hA
       refine st_val hA rfl rfl (by decide) (rn_load tbOk hA rfl rfl rfl rfl (cell_row (hS.heapAt 3 rfl) rfl)) ?_; clear hA; intro a hA
       replace hS := hS.front 1 (C := (E14 ++ [])) (L' := L32 :: [(b3, rowO [.int .u64 9, .int .u64 ma0, .int .u32 2, .int .u16 mb3, .int .u16 mb4, .int .u64 mb5, .int .u32 mb6, .int .u8 mb7, .int .u64 mb8, .int .u64 mb9, .slice mbB bsmb.length mbd] 32)] :: [(b23, rowO [.int .u64 ma0, .int .u64 9, .int .u32 1, .int .u16 ma3, .int .u16 0, .int .u64 ma5, .int .u32 ma6, .int .u8 ma7, .int .u64 ma8, .int .u64 ma9, .slice A17 bsma.length c18] 32)] :: [(b1, rowO [.int .u64 ma0, .int .u64 ma1, .int .u32 ma2, .int .u16 ma3, .int .u16 ma4, .int .u64 ma5, .int .u32 ma6, .int .u8 ma7, .int .u64 ma8, .int .u64 ma9, .slice maB bsma.length mad] 32)] :: F) rfl rfl
       replace hS := hS.front 1 (C := L32) (L' := (E14 ++ []) :: [(b3, rowO [.int .u64 9, .int .u64 ma0, .int .u32 2, .int .u16 mb3, .int .u16 mb4, .int .u64 mb5, .int .u32 mb6, .int .u8 mb7, .int .u64 mb8, .int .u64 mb9, .slice mbB bsmb.length mbd] 32)] :: [(b23, rowO [.int .u64 ma0, .int .u64 9, .int .u32 1, .int .u16 ma3, .int .u16 0, .int .u64 ma5, .int .u32 ma6, .int .u8 ma7, .int .u64 ma8, .int .u64 ma9, .slice A17 bsma.length c18] 32)] :: [(b1, rowO [.int .u64 ma0, .int .u64 ma1, .int .u32 ma2, .int .u16 ma3, .int .u16 ma4, .int .u64 ma5, .int .u32 ma6, .int .u8 ma7, .int .u64 ma8, .int .u64 ma9, .slice maB bsma.length mad] 32)] :: F) rfl rfl
       refine st_call0 hA rfl rfl rfl isfn11 rfl rfl (by decide) (cget_ok11 hS hM33 (k := 0) (x := (ma0, 9, 1, ma3, 0, ma5, ma6, ma7, ma8, ma9, A15, c16, bsma, 1, 1, 3, 0, 0, 0, 0, 0, 0, 0, 0, 0, 0, none, 0, ([] : List UInt8))) rfl (Nat.le_of_ble_eq_true rfl) rfl (show ¬ (1 : Int) = 3 by decide) dd21 sz22) ?_
       clear hA hS; rintro _ w34 a ⟨L35, E37, A38, c39, hM36, hE40, rfl, hS⟩ hA
       have dd41 := encCall_lefts (E := E37) dd21
       refine st_run tbOk 4 hA (e' := (58, .nilIface) :: (57, .agg #[.int .u64 0, .int .u64 0, .int .u32 0, .int .u16 0, .int .u16 0, .int .u64 0, .int .u32 0, .int .u8 0, .int .u64 0, .int .u64 0, .slice A38 0 c39]) :: (56, .int .i64 1) :: (51, .tuple #[.int .i64 1, .agg #[.int .u64 0, .int .u64 0, .int .u32 0, .int .u16 0, .int .u16 0, .int .u64 0, .int .u32 0, .int .u8 0, .int .u64 0, .int .u64 0, .slice A38 0 c39], .nilIface]) :: _) rfl ?_; clear hA; intro a hA
       refine st_alloc tbOk hA hS [.int .u64 0, .int .u64 0, .int .u32 0, .int .u16 0, .int .u16 0, .int .u64 0, .int .u32 0, .int .u8 0, .int .u64 0, .int .u64 0, .slice none 0 0] rfl rfl rfl rfl rfl (by decide) ?_; clear hA hS; intro b42 w43 a hS hA
       refine st_run tbOk 1 hA (e' := (11, .int .i64 1) :: _) rfl ?_; clear hA; intro a hA
       refine st_store tbOk hA hS [.int .u64 0, .int .u64 0, .int .u32 0, .int .u16 0, .int .u16 0, .int .u64 0, .int .u32 0, .int .u8 0, .int .u64 0, .int .u64 0, .slice A38 0 c39] [.int .u64 0, .int .u64 0, .int .u32 0, .int .u16 0, .int .u16 0, .int .u64 0, .int .u32 0, .int .u8 0, .int .u64 0, .int .u64 0, .slice A38 0 c39] rfl rfl rfl rfl rfl rfl (by simp [Value.oneCell']) (Nat.le_of_ble_eq_true rfl) rfl rfl rfl ?_; clear hS; intro w44 hS
       refine st_run tbOk 1 hA (e' := (13, .nilIface) :: _) rfl ?_; clear hA; intro a hA
       refine wpList_nil ?_
       replace hA := hA.sel [9, 10, 11, 13] (e' := [(9, .nilIface), (10, .bool false), (11, .int .i64 1), (13, .nilIface)]) rfl
       refine xt_norm ?_
       refine wp_seq ?_
       refine wp_region_lit ?_
       refine st_run tbOk 15 hA (e' := (6, .bool true) :: (72, .bool true) :: (71, .bool true) :: (70, .nilIface) :: (69, .bool true) :: (68, .bool true) :: (67, .bool true) :: (66, .int .i64 1) :: (65, .bool true) :: (64, .bool true) :: (63, .bool true) :: (62, .bool false) :: (61, .bool true) :: (60, .bool true) :: (59, .nilIface) :: _) rfl ?_; clear hA; intro a hA
       refine wpList_nil ?_
       replace hA := hA.sel [6] (e' := [(6, .bool true)]) rfl
       refine xt_norm ?_
       refine wp_ret ?_
       refine ret1 (fn := Tryd.f5) hA rfl rfl ?_
       replace hS := hS.drop1
       replace hS := hS.drop1
       replace hS := hS.drop1
       replace hS := hS.drop1
       replace hS := hS.drop1
       replace hS := hS.drop1
       exact ⟨rfl, hS⟩)
  · first
    | (exfalso; omega)
    | (replace hA := hA.rw 36 (v' := .bool false) rfl (vb_eq_f hc29)
       refine cd_cond_f hA rfl ?_
       refine wp_seq ?_
       refine wp_region_lit ?_
       refine st_run tbOk 2 hA (e' := (42, .bool (((g % 3 : Nat) : Int) == 1)) :: (43, .bool (((g % 3 : Nat) : Int) == 1)) :: _) rfl ?_; clear hA; intro a hA
       refine wpList_nil ?_
       replace hA := hA.sel [4, 7, 8, 9, 42] (e' := [(4, .pointer (some ⟨b3, 0, none⟩)), (7, .pointer (some ⟨b6, 0, none⟩)), (8, .pointer (some ⟨b23, 0, none⟩)), (9, .nilIface), (42, .bool (((g % 3 : Nat) : Int) == 1))]) rfl
       refine xt_norm ?_
       by_cases hc45 : ((g % 3 : Nat) : Int) = 1
       · first
         | (exfalso; omega)
         | (replace hA := hA.rw 42 (v' := .bool true) rfl (vb_eq_t hc45)
            refine cd_cond_t hA rfl ?_
            refine wp_region_lit ?_
            refine st_run tbOk 1 hA (e' := (44, .pointer (some ⟨b3, 0, none⟩)) :: _) rfl ?_; clear hA; intro a hA
            refine st_val hA rfl rfl (by decide) (rn_load tbOk hA rfl rfl rfl rfl (cell_row (hS.heapAt 0 rfl) rfl)) ?_; clear hA; intro a hA
            refine st_run tbOk 1 hA (e' := (46, .int .u64 (IntKind.u64.wrap (9 + 1))) :: _) rfl ?_; clear hA; intro a hA
            replace hA := hA.rw 46 (v' := .int .u64 10) rfl (vint (by decide))
            refine st_run tbOk 1 hA (e' := (47, .pointer (some ⟨b3, 0, none⟩)) :: _) rfl ?_; clear hA; intro a hA
            refine st_store tbOk hA hS [.int .u64 10] [.int .u64 10, .int .u64 ma0, .int .u32 1, .int .u16 mb3, .int .u16 mb4, .int .u64 mb5, .int .u32 mb6, .int .u8 mb7, .int .u64 mb8, .int .u64 mb9, .slice mbB bsmb.length mbd] rfl rfl rfl rfl rfl rfl (by intro u hu; rw [List.mem_singleton.1 hu]; rfl) (Nat.le_of_ble_eq_true rfl) rfl rfl rfl ?_; clear hS; intro w46 hS
            refine wpList_nil ?_
            replace hA := hA.sel [4, 7, 8, 9] (e' := [(4, .pointer (some ⟨b3, 0, none⟩)), (7, .pointer (some ⟨b6, 0, none⟩)), (8, .pointer (some ⟨b23, 0, none⟩)), (9, .nilIface)]) rfl
            refine xb_norm ?_
            refine xt_norm ?_
            refine wp_seq ?_
            refine wp_region_lit ?_
            refine st_run tbOk 1 hA (e' := (48, .pointer (some ⟨b6, 0, none⟩)) :: _) rfl ?_; clear hA; intro a hA
            refine st_val hA rfl rfl (by decide) (rn_loadA tbOk hA [.int .u64 10, .int .u64 ma0, .int .u32 1, .int .u16 mb3, .int .u16 mb4, .int .u64 mb5, .int .u32 mb6, .int .u8 mb7, .int .u64 mb8, .int .u64 mb9, .slice mbB bsmb.length mbd] rfl rfl rfl rfl rfl (cells_row (hS.heapAt 0 rfl) rfl)) ?_; clear hA; intro a hA
            replace hS := hS.front 3 (C := (E14 ++ [])) (L' := [(b3, rowO [.int .u64 10, .int .u64 ma0, .int .u32 1, .int .u16 mb3, .int .u16 mb4, .int .u64 mb5, .int .u32 mb6, .int .u8 mb7, .int .u64 mb8, .int .u64 mb9, .slice mbB bsmb.length mbd] 32)] :: [(b23, rowO [.int .u64 ma0, .int .u64 9, .int .u32 1, .int .u16 ma3, .int .u16 0, .int .u64 ma5, .int .u32 ma6, .int .u8 ma7, .int .u64 ma8, .int .u64 ma9, .slice A17 bsma.length c18] 32)] :: L12 :: [(b1, rowO [.int .u64 ma0, .int .u64 ma1, .int .u32 ma2, .int .u16 ma3, .int .u16 ma4, .int .u64 ma5, .int .u32 ma6, .int .u8 ma7, .int .u64 ma8, .int .u64 ma9, .slice maB bsma.length mad] 32)] :: F) rfl rfl
            replace hS := hS.front 3 (C := L12) (L' := (E14 ++ []) :: [(b3, rowO [.int .u64 10, .int .u64 ma0, .int .u32 1, .int .u16 mb3, .int .u16 mb4, .int .u64 mb5, .int .u32 mb6, .int .u8 mb7, .int .u64 mb8, .int .u64 mb9, .slice mbB bsmb.length mbd] 32)] :: [(b23, rowO [.int .u64 ma0, .int .u64 9, .int .u32 1, .int .u16 ma3, .int .u16 0, .int .u64 ma5, .int .u32 ma6, .int .u8 ma7, .int .u64 ma8, .int .u64 ma9, .slice A17 bsma.length c18] 32)] :: [(b1, rowO [.int .u64 ma0, .int .u64 ma1, .int .u32 ma2, .int .u16 ma3, .int .u16 ma4, .int .u64 ma5, .int .u32 ma6, .int .u8 ma7, .int .u64 ma8, .int .u64 ma9, .slice maB bsma.length mad] 32)] :: F) rfl rfl
            refine st_call0 hA rfl rfl rfl isfn12 rfl rfl (by decide) (answer_no12 hS hM13 10 ma0 1 mb3 mb4 mb5 mb6 mb7 mb8 mb9 _ (k := 0) (x := (ma0, 9, 1, ma3, 0, ma5, ma6, ma7, ma8, ma9, A15, c16, bsma, 1, 1, 3, 0, 0, 0, 0, 0, 0, 0, 0, 0, 0, none, 0, ([] : List UInt8))) rfl (Nat.le_of_ble_eq_true rfl) rfl (fun h => absurd (show (10 : Int) = 9 from h.2.1) (by decide))) ?_
            clear hA hS; rintro _ w47 a ⟨L48, hM49, rfl, hS⟩ hA
            refine st_run tbOk 1 hA (e' := (10, .bool false) :: _) rfl ?_; clear hA; intro a hA
            refine wpList_nil ?_
            replace hA := hA.sel [7, 8, 9, 10] (e' := [(7, .pointer (some ⟨b6, 0, none⟩)), (8, .pointer (some ⟨b23, 0, none⟩)), (9, .nilIface), (10, .bool false)]) rfl
            refine xt_norm ?_
            refine wp_seq ?_
            refine wp_region_lit ?_
            refine st_run tbOk 2 hA (e' := (53, .pointer (some ⟨b23, 2, none⟩)) :: (52, .pointer (some ⟨b6, 0, none⟩)) :: _) rfl ?_; clear hA; intro a hA
            refine st_val hA rfl rfl (by decide) (rn_load tbOk hA rfl rfl rfl rfl (cell_row (hS.heapAt 3 rfl) rfl)) ?_; clear hA; intro a hA
            replace hS := hS.front 1 (C := (E14 ++ [])) (L' := L48 :: [(b3, rowO [.int .u64 10, .int .u64 ma0, .int .u32 1, .int .u16 mb3, .int .u16 mb4, .int .u64 mb5, .int .u32 mb6, .int .u8 mb7, .int .u64 mb8, .int .u64 mb9, .slice mbB bsmb.length mbd] 32)] :: [(b23, rowO [.int .u64 ma0, .int .u64 9, .int .u32 1, .int .u16 ma3, .int .u16 0, .int .u64 ma5, .int .u32 ma6, .int .u8 ma7, .int .u64 ma8, .int .u64 ma9, .slice A17 bsma.length c18] 32)] :: [(b1, rowO [.int .u64 ma0, .int .u64 ma1, .int .u32 ma2, .int .u16 ma3, .int .u16 ma4, .int .u64 ma5, .int .u32 ma6, .int .u8 ma7, .int .u64 ma8, .int .u64 ma9, .slice maB bsma.length mad] 32)] :: F) rfl rfl
            replace hS := hS.front 1 (C := L48) (L' := (E14 ++ []) :: [(b3, rowO [.int .u64 10, .int .u64 ma0, .int .u32 1, .int .u16 mb3, .int .u16 mb4, .int .u64 mb5, .int .u32 mb6, .int .u8 mb7, .int .u64 mb8, .int .u64 mb9, .slice mbB bsmb.length mbd] 32)] :: [(b23, rowO [.int .u64 ma0, .int .u64 9, .int .u32 1, .int .u16 ma3, .int .u16 0, .int .u64 ma5, .int .u32 ma6, .int .u8 ma7, .int .u64 ma8, .int .u64 ma9, .slice A17 bsma.length c18] 32)] :: [(b1, rowO [.int .u64 ma0, .int .u64 ma1, .int .u32 ma2, .int .u16 ma3, .int .u16 ma4, .int .u64 ma5, .int .u32 ma6, .int .u8 ma7, .int .u64 ma8, .int .u64 ma9, .slice maB bsma.length mad] 32)] :: F) rfl rfl
            refine st_call0 hA rfl rfl rfl isfn11 rfl rfl (by decide) (cget_ok11 hS hM49 (k := 0) (x := (ma0, 9, 1, ma3, 0, ma5, ma6, ma7, ma8, ma9, A15, c16, bsma, 1, 1, 3, 0, 0, 0, 0, 0, 0, 0, 0, 0, 0, none, 0, ([] : List UInt8))) rfl (Nat.le_of_ble_eq_true rfl) rfl (show ¬ (1 : Int) = 3 by decide) dd21 sz22) ?_
            clear hA hS; rintro _ w50 a ⟨L51, E53, A54, c55, hM52, hE56, rfl, hS⟩ hA
            have dd57 := encCall_lefts (E := E53) dd21
            refine st_run tbOk 4 hA (e' := (58, .nilIface) :: (57, .agg #[.int .u64 0, .int .u64 0, .int .u32 0, .int .u16 0, .int .u16 0, .int .u64 0, .int .u32 0, .int .u8 0, .int .u64 0, .int .u64 0, .slice A54 0 c55]) :: (56, .int .i64 1) :: (51, .tuple #[.int .i64 1, .agg #[.int .u64 0, .int .u64 0, .int .u32 0, .int .u16 0, .int .u16 0, .int .u64 0, .int .u32 0, .int .u8 0, .int .u64 0, .int .u64 0, .slice A54 0 c55], .nilIface]) :: _) rfl ?_; clear hA; intro a hA
            refine st_alloc tbOk hA hS [.int .u64 0, .int .u64 0, .int .u32 0, .int .u16 0, .int .u16 0, .int .u64 0, .int .u32 0, .int .u8 0, .int .u64 0, .int .u64 0, .slice none 0 0] rfl rfl rfl rfl rfl (by decide) ?_; clear hA hS; intro b58 w59 a hS hA
            refine st_run tbOk 1 hA (e' := (11, .int .i64 1) :: _) rfl ?_; clear hA; intro a hA
            refine st_store tbOk hA hS [.int .u64 0, .int .u64 0, .int .u32 0, .int .u16 0, .int .u16 0, .int .u64 0, .int .u32 0, .int .u8 0, .int .u64 0, .int .u64 0, .slice A54 0 c55] [.int .u64 0, .int .u64 0, .int .u32 0, .int .u16 0, .int .u16 0, .int .u64 0, .int .u32 0, .int .u8 0, .int .u64 0, .int .u64 0, .slice A54 0 c55] rfl rfl rfl rfl rfl rfl (by simp [Value.oneCell']) (Nat.le_of_ble_eq_true rfl) rfl rfl rfl ?_; clear hS; intro w60 hS
            refine st_run tbOk 1 hA (e' := (13, .nilIface) :: _) rfl ?_; clear hA; intro a hA
            refine wpList_nil ?_
            replace hA := hA.sel [9, 10, 11, 13] (e' := [(9, .nilIface), (10, .bool false), (11, .int .i64 1), (13, .nilIface)]) rfl
            refine xt_norm ?_
            refine wp_seq ?_
            refine wp_region_lit ?_
            refine st_run tbOk 15 hA (e' := (6, .bool true) :: (72, .bool true) :: (71, .bool true) :: (70, .nilIface) :: (69, .bool true) :: (68, .bool true) :: (67, .bool true) :: (66, .int .i64 1) :: (65, .bool true) :: (64, .bool true) :: (63, .bool true) :: (62, .bool false) :: (61, .bool true) :: (60, .bool true) :: (59, .nilIface) :: _) rfl ?_; clear hA; intro a hA
            refine wpList_nil ?_
            replace hA := hA.sel [6] (e' := [(6, .bool true)]) rfl
            refine xt_norm ?_
            refine wp_ret ?_
            refine ret1 (fn := Tryd.f5) hA rfl rfl ?_
            replace hS := hS.drop1
            replace hS := hS.drop1
            replace hS := hS.drop1
            replace hS := hS.drop1
            replace hS := hS.drop1
            replace hS := hS.drop1
            exact ⟨rfl, hS⟩)
       · first
         | (exfalso; omega)
         | (replace hA := hA.rw 42 (v' := .bool false) rfl (vb_eq_f hc45)
            refine cd_cond_f hA rfl ?_
            refine wp_region_lit ?_
            refine st_run tbOk 1 hA (e' := (32, .pointer (some ⟨b3, 1, none⟩)) :: _) rfl ?_; clear hA; intro a hA
            refine st_val hA rfl rfl (by decide) (rn_load tbOk hA rfl rfl rfl rfl (cell_row (hS.heapAt 0 rfl) rfl)) ?_; clear hA; intro a hA
            refine st_run tbOk 1 hA (e' := (34, .int .u64 (IntKind.u64.wrap (ma0 + 1))) :: _) rfl ?_; clear hA; intro a hA
            refine st_run tbOk 1 hA (e' := (35, .pointer (some ⟨b3, 1, none⟩)) :: _) rfl ?_; clear hA; intro a hA
            refine st_store tbOk hA hS [.int .u64 (IntKind.u64.wrap (ma0 + 1))] [.int .u64 9, .int .u64 (IntKind.u64.wrap (ma0 + 1)), .int .u32 1, .int .u16 mb3, .int .u16 mb4, .int .u64 mb5, .int .u32 mb6, .int .u8 mb7, .int .u64 mb8, .int .u64 mb9, .slice mbB bsmb.length mbd] rfl rfl rfl rfl rfl rfl (by intro u hu; rw [List.mem_singleton.1 hu]; rfl) (Nat.le_of_ble_eq_true rfl) rfl rfl rfl ?_; clear hS; intro w61 hS
            refine wpList_nil ?_
            replace hA := hA.sel [4, 7, 8, 9] (e' := [(4, .pointer (some ⟨b3, 0, none⟩)), (7, .pointer (some ⟨b6, 0, none⟩)), (8, .pointer (some ⟨b23, 0, none⟩)), (9, .nilIface)]) rfl
            refine xb_norm ?_
            refine xt_norm ?_
            refine wp_seq ?_
            refine wp_region_lit ?_
            refine st_run tbOk 1 hA (e' := (48, .pointer (some ⟨b6, 0, none⟩)) :: _) rfl ?_; clear hA; intro a hA
            refine st_val hA rfl rfl (by decide) (rn_loadA tbOk hA [.int .u64 9, .int .u64 (IntKind.u64.wrap (ma0 + 1)), .int .u32 1, .int .u16 mb3, .int .u16 mb4, .int .u64 mb5, .int .u32 mb6, .int .u8 mb7, .int .u64 mb8, .int .u64 mb9, .slice mbB bsmb.length mbd] rfl rfl rfl rfl rfl (cells_row (hS.heapAt 0 rfl) rfl)) ?_; clear hA; intro a hA
            replace hS := hS.front 3 (C := (E14 ++ [])) (L' := [(b3, rowO [.int .u64 9, .int .u64 (IntKind.u64.wrap (ma0 + 1)), .int .u32 1, .int .u16 mb3, .int .u16 mb4, .int .u64 mb5, .int .u32 mb6, .int .u8 mb7, .int .u64 mb8, .int .u64 mb9, .slice mbB bsmb.length mbd] 32)] :: [(b23, rowO [.int .u64 ma0, .int .u64 9, .int .u32 1, .int .u16 ma3, .int .u16 0, .int .u64 ma5, .int .u32 ma6, .int .u8 ma7, .int .u64 ma8, .int .u64 ma9, .slice A17 bsma.length c18] 32)] :: L12 :: [(b1, rowO [.int .u64 ma0, .int .u64 ma1, .int .u32 ma2, .int .u16 ma3, .int .u16 ma4, .int .u64 ma5, .int .u32 ma6, .int .u8 ma7, .int .u64 ma8, .int .u64 ma9, .slice maB bsma.length mad] 32)] :: F) rfl rfl
            replace hS := hS.front 3 (C := L12) (L' := (E14 ++ []) :: [(b3, rowO [.int .u64 9, .int .u64 (IntKind.u64.wrap (ma0 + 1)), .int .u32 1, .int .u16 mb3, .int .u16 mb4, .int .u64 mb5, .int .u32 mb6, .int .u8 mb7, .int .u64 mb8, .int .u64 mb9, .slice mbB bsmb.length mbd] 32)] :: [(b23, rowO [.int .u64 ma0, .int .u64 9, .int .u32 1, .int .u16 ma3, .int .u16 0, .int .u64 ma5, .int .u32 ma6, .int .u8 ma7, .int .u64 ma8, .int .u64 ma9, .slice A17 bsma.length c18] 32)] :: [(b1, rowO [.int .u64 ma0, .int .u64 ma1, .int .u32 ma2, .int .u16 ma3, .int .u16 ma4, .int .u64 ma5, .int .u32 ma6, .int .u8 ma7, .int .u64 ma8, .int .u64 ma9, .slice maB bsma.length mad] 32)] :: F) rfl rfl
            refine st_call0 hA rfl rfl rfl isfn12 rfl rfl (by decide) (answer_no12 hS hM13 9 (IntKind.u64.wrap (ma0 + 1)) 1 mb3 mb4 mb5 mb6 mb7 mb8 mb9 _ (k := 0) (x := (ma0, 9, 1, ma3, 0, ma5, ma6, ma7, ma8, ma9, A15, c16, bsma, 1, 1, 3, 0, 0, 0, 0, 0, 0, 0, 0, 0, 0, none, 0, ([] : List UInt8))) rfl (Nat.le_of_ble_eq_true rfl) rfl (fun h => hrne h.2.2)) ?_
            clear hA hS; rintro _ w62 a ⟨L63, hM64, rfl, hS⟩ hA
            refine st_run tbOk 1 hA (e' := (10, .bool false) :: _) rfl ?_; clear hA; intro a hA
            refine wpList_nil ?_
            replace hA := hA.sel [7, 8, 9, 10] (e' := [(7, .pointer (some ⟨b6, 0, none⟩)), (8, .pointer (some ⟨b23, 0, none⟩)), (9, .nilIface), (10, .bool false)]) rfl
            refine xt_norm ?_
            refine wp_seq ?_
            refine wp_region_lit ?_
            refine st_run tbOk 2 hA (e' := (53, .pointer (some ⟨b23, 2, none⟩)) :: (52, .pointer (some ⟨b6, 0, none⟩)) :: _) rfl ?_; clear hA; intro a hA
            refine st_val hA rfl rfl (by decide) (rn_load tbOk hA rfl rfl rfl rfl (cell_row (hS.heapAt 3 rfl) rfl)) ?_; clear hA; intro a hA
            replace hS := hS.front 1 (C := (E14 ++ [])) (L' := L63 :: [(b3, rowO [.int .u64 9, .int .u64 (IntKind.u64.wrap (ma0 + 1)), .int .u32 1, .int .u16 mb3, .int .u16 mb4, .int .u64 mb5, .int .u32 mb6, .int .u8 mb7, .int .u64 mb8, .int .u64 mb9, .slice mbB bsmb.length mbd] 32)] :: [(b23, rowO [.int .u64 ma0, .int .u64 9, .int .u32 1, .int .u16 ma3, .int .u16 0, .int .u64 ma5, .int .u32 ma6, .int .u8 ma7, .int .u64 ma8, .int .u64 ma9, .slice A17 bsma.length c18] 32)] :: [(b1, rowO [.int .u64 ma0, .int .u64 ma1, .int .u32 ma2, .int .u16 ma3, .int .u16 ma4, .int .u64 ma5, .int .u32 ma6, .int .u8 ma7, .int .u64 ma8, .int .u64 ma9, .slice maB bsma.length mad] 32)] :: F) rfl rfl
            replace hS := hS.front 1 (C := L63) (L' := (E14 ++ []) :: [(b3, rowO [.int .u64 9, .int .u64 (IntKind.u64.wrap (ma0 + 1)), .int .u32 1, .int .u16 mb3, .int .u16 mb4, .int .u64 mb5, .int .u32 mb6, .int .u8 mb7, .int .u64 mb8, .int .u64 mb9, .slice mbB bsmb.length mbd] 32)] :: [(b23, rowO [.int .u64 ma0, .int .u64 9, .int .u32 1, .int .u16 ma3, .int .u16 0, .int .u64 ma5, .int .u32 ma6, .int .u8 ma7, .int .u64 ma8, .int .u64 ma9, .slice A17 bsma.length c18] 32)] :: [(b1, rowO [.int .u64 ma0, .int .u64 ma1, .int .u32 ma2, .int .u16 ma3, .int .u16 ma4, .int .u64 ma5, .int .u32 ma6, .int .u8 ma7, .int .u64 ma8, .int .u64 ma9, .slice maB bsma.length mad] 32)] :: F) rfl rfl
            refine st_call0 hA rfl rfl rfl isfn11 rfl rfl (by decide) (cget_ok11 hS hM64 (k := 0) (x := (ma0, 9, 1, ma3, 0, ma5, ma6, ma7, ma8, ma9, A15, c16, bsma, 1, 1, 3, 0, 0, 0, 0, 0, 0, 0, 0, 0, 0, none, 0, ([] : List UInt8))) rfl (Nat.le_of_ble_eq_true rfl) rfl (show ¬ (1 : Int) = 3 by decide) dd21 sz22) ?_
            clear hA hS; rintro _ w65 a ⟨L66, E68, A69, c70, hM67, hE71, rfl, hS⟩ hA
            have dd72 := encCall_lefts (E := E68) dd21
            refine st_run tbOk 4 hA (e' := (58, .nilIface) :: (57, .agg #[.int .u64 0, .int .u64 0, .int .u32 0, .int .u16 0, .int .u16 0, .int .u64 0, .int .u32 0, .int .u8 0, .int .u64 0, .int .u64 0, .slice A69 0 c70]) :: (56, .int .i64 1) :: (51, .tuple #[.int .i64 1, .agg #[.int .u64 0, .int .u64 0, .int .u32 0, .int .u16 0, .int .u16 0, .int .u64 0, .int .u32 0, .int .u8 0, .int .u64 0, .int .u64 0, .slice A69 0 c70], .nilIface]) :: _) rfl ?_; clear hA; intro a hA
            refine st_alloc tbOk hA hS [.int .u64 0, .int .u64 0, .int .u32 0, .int .u16 0, .int .u16 0, .int .u64 0, .int .u32 0, .int .u8 0, .int .u64 0, .int .u64 0, .slice none 0 0] rfl rfl rfl rfl rfl (by decide) ?_; clear hA hS; intro b73 w74 a hS hA
            refine st_run tbOk 1 hA (e' := (11, .int .i64 1) :: _) rfl ?_; clear hA; intro a hA
            refine st_store tbOk hA hS [.int .u64 0, .int .u64 0, .int .u32 0, .int .u16 0, .int .u16 0, .int .u64 0, .int .u32 0, .int .u8 0, .int .u64 0, .int .u64 0, .slice A69 0 c70] [.int .u64 0, .int .u64 0, .int .u32 0, .int .u16 0, .int .u16 0, .int .u64 0, .int .u32 0, .int .u8 0, .int .u64 0, .int .u64 0, .slice A69 0 c70] rfl rfl rfl rfl rfl rfl (by simp [Value.oneCell']) (Nat.le_of_ble_eq_true rfl) rfl rfl rfl ?_; clear hS; intro w75 hS
            refine st_run tbOk 1 hA (e' := (13, .nilIface) :: _) rfl ?_; clear hA; intro a hA
            refine wpList_nil ?_
            replace hA := hA.sel [9, 10, 11, 13] (e' := [(9, .nilIface), (10, .bool false), (11, .int .i64 1), (13, .nilIface)]) rfl
            refine xt_norm ?_
            refine wp_seq ?_
            refine wp_region_lit ?_
            refine st_run tbOk 15 hA (e' := (6, .bool true) :: (72, .bool true) :: (71, .bool true) :: (70, .nilIface) :: (69, .bool true) :: (68, .bool true) :: (67, .bool true) :: (66, .int .i64 1) :: (65, .bool true) :: (64, .bool true) :: (63, .bool true) :: (62, .bool false) :: (61, .bool true) :: (60, .bool true) :: (59, .nilIface) :: _) rfl ?_; clear hA; intro a hA
            refine wpList_nil ?_
            replace hA := hA.sel [6] (e' := [(6, .bool true)]) rfl
            refine xt_norm ?_
            refine wp_ret ?_
            refine ret1 (fn := Tryd.f5) hA rfl rfl ?_
            replace hS := hS.drop1
            replace hS := hS.drop1
            replace hS := hS.drop1
            replace hS := hS.drop1
            replace hS := hS.drop1
            replace hS := hS.drop1
            exact ⟨rfl, hS⟩))

end Go.Proofs.YtjdkcdeldmjdmaaDoor
