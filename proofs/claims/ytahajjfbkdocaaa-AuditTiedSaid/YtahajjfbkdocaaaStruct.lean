/- Structs as rows of cells: parts, fields, equality, building; rows of structs, one behind the other. Nothing of the program stands here. -/
import Derived.Test.YtahajjfbkdocaaaRes
import Derived.ChangeKeysEq
namespace Go.Proofs.Ytahajjfbkdocaaa
open Go.RowKit
set_option linter.unusedVariables false
section
open Classical in
/-- Whether two rows of cells are the same. -/
noncomputable def eqA (X Y : Array Value) : Bool := decide (X = Y)
theorem eqA_iff {X Y : Array Value} : eqA X Y = true ↔ X = Y := by unfold eqA; simp
theorem eqA_no {X Y : Array Value} : eqA X Y = false ↔ X ≠ Y := by unfold eqA; simp
theorem eqA_refl (X : Array Value) : eqA X X = true := eqA_iff.2 rfl
theorem eqA_of {X Y : Array Value} {b : Bool} (h : b = true ↔ X = Y) : b = eqA X Y := by
  cases hb : b
  · cases he : eqA X Y
    · rfl
    · have := h.2 (eqA_iff.1 he); rw [hb] at this; cases this
  · rw [eqA_iff.2 (h.1 hb)]
end
theorem toList_inj_iff {a b : ByteArray} : a.toList = b.toList ↔ a = b := by
  constructor
  · intro h
    rw [ByteArray.toList_eq, ByteArray.toList_eq] at h
    obtain ⟨⟨x⟩⟩ := a
    obtain ⟨⟨y⟩⟩ := b
    simp at h; subst h; rfl
  · rintro rfl; rfl
def partSlow (P : Program) (T : TypeId) (X : Array Value) (o : Nat) (w : World) : Result Value := (part T X o).run P w
section
variable {P : Program} {T : TypeId} {n : Nat} {d : TypeDesc}
theorem part_row (hu : P.underlying T = some d) (hd : d.isRow = true) (hi : (P.info? T).map (·.size) = some n) (X : Array Value) (o : Nat) (w : World) : (part T X o).run P w = .ok (.agg (piece X o n)) w := by
  cases hq : P.info? T with
  | none => simp [hq] at hi
  | some f =>
    have hs : f.size = n := by simpa [hq] using hi
    have ha : (isAgg T).run P w = .ok true w := by
      unfold isAgg
      simp only [Sem.run_bind, run_underlying hu, Result.andThen_ok]
      cases d <;> first | rfl | (cases hd; done)
    simp [part, sizeOf, typeInfo, hq, hs, ha, piece]
theorem part_cell (hu : P.underlying T = some d) (hd : d.isRow = false) (hi : (P.info? T).map (·.size) = some 1) {X : Array Value} {o : Nat} {v : Value} (h : X[o]? = some v) (w : World) : (part T X o).run P w = .ok v w := by
  cases hq : P.info? T with
  | none => simp [hq] at hi
  | some f =>
    have hs : f.size = 1 := by simpa [hq] using hi
    have ha : (isAgg T).run P w = .ok false w := by
      unfold isAgg
      simp only [Sem.run_bind, run_underlying hu, Result.andThen_ok]
      cases d <;> first | rfl | (cases hd; done)
    simp [part, sizeOf, typeInfo, hq, hs, ha, h]
theorem eqFields_run {P : Program} {d : Nat} {xs ys : Array Value} : ∀ {fs : List Field} {L : List (TypeId × Nat × Bool)}, fs.map (fun f => (f.name != "_", f.type, f.offset)) = L.map (fun x => (true, x.1, x.2.1)) →
    (∀ x ∈ L, ∃ a b, (∀ w, (part x.1 xs x.2.1).run P w = .ok a w) ∧ (∀ w, (part x.1 ys x.2.1).run P w = .ok b w) ∧ ∀ w, (Op.equalIn d x.1 a b).run P w = .ok x.2.2 w) →
    ∀ w, (Op.eqFields d xs ys fs).run P w = .ok (L.all (·.2.2)) w
  | [], L, hm, h, w => by
    cases L with
    | nil => simp [Op.eqFields]
    | cons x L => simp at hm
  | f :: fs, L, hm, h, w => by
    cases L with
    | nil => simp at hm
    | cons x L =>
      simp only [List.map_cons, List.cons.injEq, Prod.mk.injEq] at hm
      obtain ⟨⟨h1, h2, h3⟩, h4⟩ := hm
      obtain ⟨a, b, ha, hb, he⟩ := h x (by simp)
      have hn : f.name ≠ "_" := by simpa using h1
      have ih := eqFields_run (P := P) (d := d) (xs := xs) (ys := ys) h4 (fun y hy => h y (by simp [hy])) w
      simp only [Op.eqFields, if_pos hn, Sem.run_bind, h2, h3, ha, hb, he, Result.andThen_ok, Sem.run_ite, List.all_cons]
      cases x.2.2
      · simp
      · simp [ih]
theorem eq_struct {d : Nat} {t : TypeId} {xs ys : Array Value} {L : List (TypeId × Nat × Bool)} {b : Bool} (ht : P.underlying t = some (.struct (P.fieldsOf t))) (hp : P.stoodInHeld t = false)
    (hm : (P.fieldsOf t).toList.map (fun f => (f.name != "_", f.type, f.offset)) = L.map (fun x => (true, x.1, x.2.1)))
    (h : ∀ x ∈ L, ∃ a b, (∀ w, (part x.1 xs x.2.1).run P w = .ok a w) ∧ (∀ w, (part x.1 ys x.2.1).run P w = .ok b w) ∧ ∀ w, (Op.equalIn d x.1 a b).run P w = .ok x.2.2 w) (hb : L.all (·.2.2) = b) (w : World) :
    (Op.equalIn (d + 1) t (.agg xs) (.agg ys)).run P w = .ok b w := by
  rw [run_equalIn_struct w d t xs ys ht hp, eqFields_run hm h, hb]
theorem eql_of {t : TypeId} {X Y : Array Value} {b : Bool} (h : ∀ w, (Op.equalIn 10000 t (.agg X) (.agg Y)).run P w = .ok b w) (w : World) : (binOp .eql t (.agg X) (.agg Y)).run P w = .ok (.bool b) w := by
  rw [run_eql_struct, h]; rfl
theorem neq_of {t : TypeId} {X Y : Array Value} {b : Bool} (h : ∀ w, (Op.equalIn 10000 t (.agg X) (.agg Y)).run P w = .ok b w) (w : World) : (binOp .neq t (.agg X) (.agg Y)).run P w = .ok (.bool (!b)) w := by
  rw [run_neq_struct, h]; rfl
end
/-! a field of a value -/
def fieldSem (T : TypeId) (x : Value) (i : Nat) : Sem Value := Instr.field T x i
theorem field_of {P : Program} {T : TypeId} {X : Array Value} {i : Nat} {t : TypeId} {o : Nat} {v : Value} (hT : P.underlying T = some (.struct (P.fieldsOf T))) (hf : (P.fieldsOf T)[i]?.map (fun f => (f.type, f.offset)) = some (t, o))
    (hp : ∀ w, (part t X o).run P w = .ok v w) (w : World) : (fieldSem T (.agg X) i).run P w = .ok v w := by
  cases hq : (P.fieldsOf T)[i]? with
  | none => rw [hq] at hf; simp at hf
  | some f =>
    rw [hq] at hf
    simp only [Option.map_some, Option.some.injEq, Prod.mk.injEq] at hf
    unfold fieldSem Instr.field
    simp only [Sem.run_bind, run_underlying hT, Result.andThen_ok, hq, hf.1, hf.2]
    show ((asAgg (.agg X)).run P w).andThen _ = _
    have : (asAgg (.agg X)).run P w = .ok X w := rfl
    rw [this]
    exact hp w
/-! a value built of parts -/
def buildS (T : TypeId) (parts : Array (Nat × Value)) : Sem Value := Instr.build T parts
def buildSlow (P : Program) (T : TypeId) (parts : Array (Nat × Value)) (w : World) : Result Value := (buildS T parts).run P w
def fillS (pl : Nat → Option (Nat × Nat)) (Z : Array Value) (l : List (Nat × Value)) : Option (Array Value) := Instr.fill pl Z l
def buildRes (P : Program) (T : TypeId) (parts : Array (Nat × Value)) (w : World) : Option (Array Value) → Result Value
  | some X => .ok (.agg X) w
  | none => buildSlow P T parts w
theorem buildRes_some (P : Program) (T : TypeId) (parts : Array (Nat × Value)) (w : World) (X : Array Value) : buildRes P T parts w (some X) = .ok (.agg X) w := rfl
def buildOf (P : Program) (T : TypeId) (pl : Nat → Option (Nat × Nat)) (Z : Array Value) (parts : Array (Nat × Value)) (w : World) : Result Value := buildRes P T parts w (fillS pl Z parts.toList)
theorem build_struct {P : Program} {T : TypeId} {Z : Array Value} {PL : Array (Nat × Nat)} (hT : P.underlying T = some (.struct (P.fieldsOf T))) (hz : (P.info? T).map (·.zero) = some (some (.agg Z)))
    (hpl : ∀ w, ((P.fieldsOf T).mapM fun f => (do pure (f.offset, ← sizeOf f.type) : Sem (Nat × Nat))).run P w = .ok PL w) (w : World) (parts : Array (Nat × Value)) :
    (buildS T parts).run P w = buildOf P T (fun i => PL[i]?) Z parts w := by
  unfold buildOf fillS
  cases hf : Instr.fill (fun i => PL[i]?) Z parts.toList with
  | none => rfl
  | some X =>
    cases hq : P.info? T with
    | none => simp [hq] at hz
    | some f =>
      have hzz : (zeroValue T).run P w = .ok (.agg Z) w := by
        have : f.zero = some (.agg Z) := by simpa [hq] using hz
        simp [zeroValue, typeInfo, hq, this]
      unfold buildS Instr.build
      simp only [Sem.run_bind, hzz, Result.andThen_ok, run_underlying hT, hpl, Value.cells, hf]
      rfl
def cellSet (w : World) (n i : Nat) (X : Array Value) : Option Value := (w.setRow n X).cell? ⟨n, i, none⟩
def frozenSet (w : World) (n i : Nat) (X : Array Value) : Bool := (w.setRow n X).frozen? ⟨n, i, none⟩
theorem cell_setRow (w : World) (n m i : Nat) (X : Array Value) : (w.setRow n X).cell? ⟨m, i, none⟩ = if n = m then cellSet w n i X else w.cell? ⟨m, i, none⟩ := by
  split
  · rename_i h; subst h; rfl
  · exact World.cell?_of_block (w := w) (setRow_other w n m X (fun e => absurd e.symm ‹_›))
theorem frozen_setRow (w : World) (n m i : Nat) (X : Array Value) : (w.setRow n X).frozen? ⟨m, i, none⟩ = if n = m then frozenSet w n i X else w.frozen? ⟨m, i, none⟩ := by
  split
  · rename_i h; subst h; rfl
  · exact World.frozen?_of_block (w := w) (setRow_other w n m X (fun e => absurd e.symm ‹_›))
/-! rows of structs -/
def flatV {α : Type} (V : α → Array Value) : List α → Array Value
  | [] => #[]
  | a :: l => V a ++ flatV V l
section
variable {α : Type} {V : α → Array Value} {n : Nat} (hV : ∀ a, (V a).size = n)
include hV
theorem flatV_size : ∀ l : List α, (flatV V l).size = l.length * n
  | [] => by simp [flatV]
  | a :: l => by rw [flatV, Array.size_append, hV, flatV_size l, List.length_cons, Nat.succ_mul]; omega
theorem flatV_get : ∀ (l : List α) (k : Nat) (hk : k < l.length) (j : Nat), j < n → (flatV V l)[k * n + j]? = (V l[k])[j]?
  | a :: l, 0, hk, j, hj => by
    rw [flatV, Array.getElem?_append, if_pos (by rw [hV]; omega)]
    simp
  | a :: l, k + 1, hk, j, hj => by
    rw [flatV, Array.getElem?_append, if_neg (by rw [hV, Nat.succ_mul]; omega), hV]
    have e : (k + 1) * n + j - n = k * n + j := by rw [Nat.succ_mul]; omega
    rw [e, flatV_get l k (by simpa using hk) j hj]
    simp
theorem flatV_get0 (l : List α) (k : Nat) (hk : k < l.length) (h0 : 0 < n) : (flatV V l)[k * n]? = (V l[k])[0]? := flatV_get hV l k hk 0 h0
theorem flatV_piece (l : List α) (k : Nat) (hk : k < l.length) : piece (flatV V l) (k * n) n = V l[k] := by
  have hle : (k + 1) * n ≤ l.length * n := Nat.mul_le_mul_right n hk
  rw [Nat.succ_mul] at hle
  apply append_of_gets
  · simp [piece, flatV_size hV, hV]; omega
  · intro i hi
    rw [hV] at hi
    rw [← flatV_get hV l k hk i hi]
    simp only [piece, Array.getElem?_extract]
    rw [if_pos]
    rw [flatV_size hV]; omega
end
theorem flatV_append {α : Type} (V : α → Array Value) : ∀ (l m : List α), flatV V (l ++ m) = flatV V l ++ flatV V m
  | [], m => by simp [flatV]
  | a :: l, m => by rw [List.cons_append, flatV, flatV, flatV_append V l m, Array.append_assoc]
theorem flatV_one {α : Type} (V : α → Array Value) (a : α) : flatV V [a] = V a := by simp [flatV]
end Go.Proofs.Ytahajjfbkdocaaa
