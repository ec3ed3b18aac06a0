import Derived.Test.YtbfdppfddlilgaaSKR
import Derived.Laws.BytesString
import Derived.Laws.IdiomStrings
set_option linter.unusedVariables false
set_option linter.unusedSimpArgs false
/-! ### 13. Bytes: the data of packets and messages; strings. Own work. -/
namespace Go.SK
open Go
theorem St.only {w0 w : World} {L : List Chunk} (h : St w0 w L) (i : Nat) {C : Chunk} (hi : L[i]? = some C) : St w0 w [C] := by
  have h1 := h.front i hi rfl
  exact h1.sub (by simp)
/-- What a slice of bytes reads, wherever a chunk stands. -/
def RdSX (w0 : World) (F : List Chunk) (size : Nat) (v : Value) (m : Nat) (xs : List Value) : Prop := ∀ w', St w0 w' F → RdX w' size v m xs
theorem RdS.x {w0 : World} {F : List Chunk} {size : Nat} {v : Value} {m : Nat} {xs : List Value} (h : RdS w0 F size v m xs) : RdSX w0 F size v m xs := fun w' hS => (h w' hS).x
theorem RdSX.nil {w0 : World} {F : List Chunk} {size : Nat} : RdSX w0 F size (.slice none 0 0) 0 [] := fun w' _ => RdX.nil w' size
theorem RdSX.old {w0 : World} {F : List Chunk} {size : Nat} {v : Value} {m : Nat} {xs : List Value} (h : RdX w0 size v m xs) : RdSX w0 F size v m xs := fun _ hS => h.old hS
def DD (w0 : World) (D : Chunk) (A : Option Addr) (c : Nat) (bs : List UInt8) : Prop := ∀ w', St w0 w' [D] → RdX w' 1 (.slice A bs.length c) bs.length (rows encB bs)
theorem DD.left {w0 : World} {D E : Chunk} {A : Option Addr} {c : Nat} {bs : List UInt8} (h : DD w0 D A c bs) : DD w0 (E ++ D) A c bs := fun w' hS => h w' hS.split.drop1
theorem DD.right {w0 : World} {D E : Chunk} {A : Option Addr} {c : Nat} {bs : List UInt8} (h : DD w0 D A c bs) : DD w0 (D ++ E) A c bs := fun w' hS => h w' hS.split.drop2
theorem DD.new {w0 : World} {T c : Nat} {A : Option Addr} {bs : List UInt8} {C : Chunk} (ho : Own T 1 (.slice A bs.length c) bs.length (rows encB bs) C) : DD w0 C A c bs := fun w' hS => (ho.rd (hS.own_ 0 rfl)).x
theorem DD.of {w0 : World} {D : Chunk} {A : Option Addr} {c : Nat} {bs : List UInt8} (h : RdX w0 1 (.slice A bs.length c) bs.length (rows encB bs)) : DD w0 D A c bs := fun w' hS => h.old hS
theorem DD.nil {w0 : World} {D : Chunk} : DD w0 D none 0 [] := fun w' _ => RdX.nil w' 1
theorem DD.rds {w0 : World} {D : Chunk} {F : List Chunk} {A : Option Addr} {c : Nat} {bs : List UInt8} (h : DD w0 D A c bs) (i : Nat) (hi : F[i]? = some D) : RdSX w0 F 1 (.slice A bs.length c) bs.length (rows encB bs) := fun w' hS => h w' (hS.only i hi)
def bsv (bs : List UInt8) : ByteArray := ⟨bs.toArray⟩
theorem bsv_size (bs : List UInt8) : (bsv bs).size = bs.length := rfl
theorem fold_push : ∀ (bs : List UInt8) (s : ByteArray), (bs.map fun x => ((x.toNat : Nat) : Int)).foldl (fun r n => r.push (UInt8.ofNat n.toNat)) s = ⟨s.data ++ bs.toArray⟩
  | [], s => by cases s; simp
  | x :: bs, s => by
    simp only [List.map_cons, List.foldl_cons]
    rw [fold_push bs]
    have : UInt8.ofNat ((x.toNat : Nat) : Int).toNat = x := by simp
    rw [this]
    cases s
    simp [ByteArray.push]
theorem rows_bytes : ∀ bs : List UInt8, rows encB bs = (bs.map fun x => ((x.toNat : Nat) : Int)).map (Value.int .u8)
  | [] => rfl
  | x :: bs => by rw [rows_cons, rows_bytes bs]; rfl
section
variable {P : Program} {tb : List TI} {a : Act} {w : World} {n : Nat} {e : Env} {o : Oper}
/-- string(b) of bytes. -/
theorem rn_bstr (hT : TabOk P tb) (hA : Has a n e) {T E Ts : Nat} {i j k : TI} {x : Operand} {v : Value} {bs : List UInt8} (ho : o.op = .convert T Ts x) (hx : ev e x = some v)
    (hi : lkT tb T = some i) (hE : i.desc = .slice E) (hj : lkT tb E = some j) (hu : j.desc = .int .u8) (hk : lkT tb Ts = some k) (hs : k.desc = .string)
    (hr : RdX w 1 v bs.length (rows encB bs)) : (execOp a.eval o).run P w = .ok (.value (.string (bsv bs))) w := by
  obtain ⟨hti, hoi⟩ := hT.at_ hi
  obtain ⟨htj, hoj⟩ := hT.at_ hj
  obtain ⟨htk, hok⟩ := hT.at_ hk
  have ui : P.underlying T = some (.slice E) := by have := hoi.1; rwa [hti, hE] at this
  have uj : P.underlying E = some (.int .u8) := by have := hoj.1; rwa [htj, hu] at this
  have uk : P.underlying Ts = some .string := by have := hok.1; rwa [htk, hs] at this
  have main : (convert T Ts v).run P w = .ok (.string (bsv bs)) w := by
    obtain ⟨hl, hx⟩ := hr
    rcases hx with ⟨rfl, h0⟩ | ⟨ad, c, rfl, _, _, hc⟩
    · rw [run_convert_bytes_string w T Ts E _ _ _ ui uj uk]
      have : bs = [] := List.eq_nil_of_length_eq_zero h0
      subst this
      rfl
    · rw [run_convert_bytes_string w T Ts E _ _ _ ui uj uk]
      have h3 := run_loadCells_list (P := P) w ad (rows encB bs) hc
      have h4 : (rows encB bs).length = bs.length := by rw [rows_length encB_ok, Nat.mul_one]
      rw [h4, rows_bytes] at h3
      rw [run_bytesToString w ad bs.length c _ h3, fold_push]
      congr 2
      simp [bsv, ByteArray.empty, ByteArray.emptyWithCapacity]
      try rfl
  unfold execOp
  rw [ho]
  simp [hA.ev hx, main]
end
theorem toList_loop (s : ByteArray) : ∀ (m i : Nat) (r : List UInt8), s.size - i = m → ByteArray.toList.loop s i r = r.reverse ++ s.data.toList.drop i
  | 0, i, r, h => by
    rw [ByteArray.toList.loop]
    have h2 : ¬ i < s.size := by omega
    have h0 : s.size = s.data.toList.length := rfl
    have h3 : s.data.toList.drop i = [] := List.drop_eq_nil_of_le (by omega)
    rw [if_neg h2, h3, List.append_nil]
  | m + 1, i, r, h => by
    rw [ByteArray.toList.loop]
    have h2 : i < s.size := by omega
    rw [if_pos h2, toList_loop s m (i + 1) _ (by omega)]
    have h4 : i < s.data.toList.length := h2
    rw [List.drop_eq_getElem_cons h4]
    have h5 : s.get! i = s.data.toList[i] := by
      show s.data[i]! = _
      rw [getElem!_pos s.data i h2]; simp
    rw [h5]
    simp
theorem bsv_toList (bs : List UInt8) : (bsv bs).toList = bs := by
  rw [ByteArray.toList, toList_loop _ _ 0 [] rfl]; simp [bsv]
theorem bsv_eq (x y : List UInt8) : ((bsv x).toList == (bsv y).toList) = decide (x = y) := by rw [bsv_toList, bsv_toList]; by_cases h : x = y <;> simp [h]
section
variable {P : Program} {tb : List TI} {ops : Array Oper} {Q : Exit → Act → World → Prop} {a : Act} {w w0 : World} {n d : Nat} {e : Env} {o : Oper} {rest : List Oper} {L : List Chunk}
/-- []byte(b) of bytes in a block of the call's own: the block bears a mark behind its last cell. -/
theorem st_mark (hT : TabOk P tb) (hA : Has a n e) {T E b c : Nat} {i j : TI} {x : Operand} (bs : List UInt8) (hS : St w0 w ([(b, rowO (rows encB bs) E)] :: L)) (ho : o.op = .convert T T x)
    (hx : ev e x = some (.slice (some ⟨b, 0, none⟩) bs.length c)) (hi : lkT tb T = some i) (hE : i.desc = .slice E) (hj : lkT tb E = some j) (hu : j.desc = .int .u8)
    (hw : wantE ops e o.guard = some true) (hd : o.dst = some d) (hdn : d < n) (hc : bs.length ≤ c) (hm : c ≤ 9223372036854775807)
    (kk : ∀ C w' a', (∀ w'', St w0 w'' [C] → Rd w'' 1 (.slice (some ⟨b, 0, none⟩) bs.length c) bs.length (rows encB bs)) → St w0 w' (C :: L) → Has a' n ((d, .slice (some ⟨b, 0, none⟩) bs.length c) :: e) → wpList P ops Q rest a' w') : wpList P ops Q (o :: rest) a w := by
  obtain ⟨hti, hoi⟩ := hT.at_ hi
  obtain ⟨htj, hoj⟩ := hT.at_ hj
  have ui : P.underlying T = some (.slice E) := by have := hoi.1; rwa [hti, hE] at this
  have uj : P.underlying E = some (.int .u8) := by have := hoj.1; rwa [htj, hu] at this
  have hb := hS.heapAt 0 rfl
  have hsh : w.shape? b = some (E, (rows encB bs).length) := by unfold World.shape?; rw [hb]; simp [rowO]
  refine st_val hA hw hd hdn (v := .slice (some ⟨b, 0, none⟩) bs.length c) (w' := w.freeze ⟨b, (rows encB bs).length, none⟩ 1) ?_
    (fun a' h => kk [(b, .cells (rows encB bs).toArray E ((rows encB bs).length, (rows encB bs).length + 1))] _ a' ?_ (hS.upd ?_) h)
  · unfold execOp
    rw [ho]
    simp [hA.ev hx, convert, run_underlying ui, run_underlying uj, markStringish, hsh]
  · intro w' hS'
    have hh := hS'.heapAt 0 rfl
    refine ⟨by rw [rows_length encB_ok], .inr ⟨b, 0, c, rfl, hc, hm, fun j u hu => ?_⟩⟩
    rw [Nat.zero_add]
    exact (cell_of hh j).trans (by simpa using hu)
  · unfold World.freeze
    rw [if_neg (by decide)]
    refine ⟨rfl, rfl, rfl, by simp, ?_, fun k _ hk => ?_⟩
    · simp only [Array.getElem?_modify, if_true, hb]
      simp [rowO]
    · simp only [Array.getElem?_modify]
      rw [if_neg (Ne.symm hk)]
end
theorem bsv_app (x y : List UInt8) : bsv x ++ bsv y = bsv (x ++ y) := by
  apply ByteArray.ext
  simp [bsv]
/-- s + t of strings. -/
theorem rn_stradd {P : Program} {a : Act} {w : World} {n : Nat} {e : Env} {o : Oper} (hA : Has a n e) {x y : Operand} {t yt : TypeId} {p q : List UInt8} (ho : o.op = .binOp .add t x y yt) (hx : ev e x = some (.string (bsv p))) (hy : ev e y = some (.string (bsv q))) (hl : p.length + q.length ≤ 9223372036854775807) :
    (execOp a.eval o).run P w = .ok (.value (.string (bsv (p ++ q)))) w := by
  have h1 : ¬ (((bsv p).size + (bsv q).size : Nat) : Int) > IntKind.i64.max := by
    rw [bsv_size, bsv_size]
    have : IntKind.i64.max = 9223372036854775807 := by decide
    omega
  unfold execOp
  rw [ho]
  simp only [hA.ev hx, hA.ev hy, eqGuard, binOp, Op.stringOp, if_neg h1, bsv_app]
  rfl
/-! A struct of many parts. -/
def fillL (ps : List (Nat × Nat)) : List Value → List (Nat × Value) → Option (List Value)
  | cells, [] => some cells
  | cells, (i, v) :: rest => match ps[i]? with
    | none => none
    | some (off, size) => bif (v.cells.toList.length == size) && Nat.ble (off + v.cells.toList.length) cells.length then fillL ps (cells.take off ++ (v.cells.toList ++ cells.drop (off + v.cells.toList.length))) rest else none
theorem fold_set (off : Nat) : ∀ (vs : List Value) (k : Nat) (cells : List Value), off + k + vs.length ≤ cells.length →
    (vs.zipIdx k).foldl (fun (cs : Array Value) (p : Value × Nat) => cs.setIfInBounds (off + p.2) p.1) cells.toArray = (cells.take (off + k) ++ (vs ++ cells.drop (off + k + vs.length))).toArray
  | [], k, cells, h => by simp
  | v :: vs, k, cells, h => by
    simp only [List.length_cons] at h
    rw [List.zipIdx_cons, List.foldl_cons]
    simp only [List.setIfInBounds_toArray]
    rw [fold_set off vs (k + 1) (cells.set (off + k) v) (by rw [List.length_set]; omega)]
    congr 1
    have h1 : (cells.set (off + k) v).take (off + (k + 1)) = cells.take (off + k) ++ [v] := by
      rw [← Nat.add_assoc, List.take_add_one, List.take_set_of_le (Nat.le_refl _), List.getElem?_set_self (by omega)]; rfl
    have h2 : (cells.set (off + k) v).drop (off + (k + 1) + vs.length) = cells.drop (off + k + (vs.length + 1)) := by
      rw [List.drop_set_of_lt (by omega)]; congr 1; omega
    rw [h1, h2, List.append_assoc, List.length_cons]; rfl
theorem fillL_spec (ps : List (Nat × Nat)) : ∀ (parts : List (Nat × Value)) (cells r : List Value), fillL ps cells parts = some r → Instr.fill (fun j => ps[j]?) cells.toArray parts = some r.toArray
  | [], cells, r, h => by simp only [fillL, Option.some.injEq] at h; subst h; rfl
  | (i, v) :: rest, cells, r, h => by
    simp only [fillL] at h
    unfold Instr.fill
    split at h
    · cases h
    · rename_i off size hp
      simp only [hp]
      cases hb : (v.cells.toList.length == size) && Nat.ble (off + v.cells.toList.length) cells.length with
      | false => rw [hb] at h; cases h
      | true =>
        rw [hb] at h
        simp only [cond_true] at h
        simp only [Bool.and_eq_true, beq_iff_eq, Nat.ble_eq] at hb
        have hs : v.cells.size = v.cells.toList.length := by simp
        have hn : ¬ (v.cells.size ≠ size ∨ off + v.cells.size > cells.toArray.size) := by
          simp only [List.size_toArray]; omega
        rw [if_neg (by simpa using hn)]
        have e1 : v.cells.zipIdx.foldl (fun cs (c, j) => cs.setIfInBounds (off + j) c) cells.toArray = (cells.take off ++ (v.cells.toList ++ cells.drop (off + v.cells.toList.length))).toArray := by
          have := fold_set off v.cells.toList 0 cells (by omega)
          rw [Nat.add_zero] at this
          rw [← this, ← Array.foldl_toList]
          simp [Array.toList_zipIdx]
        rw [e1]
        exact fillL_spec ps rest _ r h
theorem rn_build {P : Program} {tb : List TI} {a : Act} {w : World} {n : Nat} {e : Env} {o : Oper} (hT : TabOk P tb) (hA : Has a n e) {T : Nat} {i : TI} {fs : Array Field} {ps : List (Nat × Nat)} {parts : Array (Nat × Operand)} {vs : List (Nat × Value)} {z l : List Value}
    (ho : o.op = .build T parts) (hvs : evps e parts.toList = some vs) (hi : lkT tb T = some i) (hd : i.desc = .struct fs) (hp : placesOf tb fs.toList = some ps) (hz : i.zero.cells = z.toArray) (hf : fillL ps z vs = some l) :
    (execOp a.eval o).run P w = .ok (.value (.agg l.toArray)) w := by
  refine pureOp_run hT hA ?_ w
  rw [ho]
  simp only [pureOp, hvs, pureBuild, hi, hd, hp, hz]
  rw [fillL_spec ps vs z l hf]; rfl
end Go.SK
