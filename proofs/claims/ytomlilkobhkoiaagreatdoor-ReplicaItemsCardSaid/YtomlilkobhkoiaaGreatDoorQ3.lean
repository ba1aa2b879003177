/- Several texts in one. -/
import Derived.Test.YtomlilkobhkoiaaGreatDoorQ2
import Derived.ChangeKeysEq
import Derived.Test.YtomlilkobhkoiaaGreatDoorRows
import Derived.Test.YtomlilkobhkoiaaGreatDoorQ1
import Derived.ProofKit
import Derived.OpenShut
import Derived.Lib.SmallJoins
import Derived.SizedLaws
import Derived.Deep.Slices
import Derived.DataReads
import Derived.Deep.AppendLies
import Derived.Deep.RegionHeld3
/- Structs as rows of cells: parts, fields, equality, building; rows of structs, one behind the other. Nothing of the program stands here. -/
namespace Go.Proofs.YtomlilkobhkoiaaGreatDoor
open Go.RowKit
set_option linter.unusedVariables false
section
open Classical in
/-- Whether two rows of cells are the same. -/
noncomputable def eqA (X Y : Array Value) : Bool := decide (X = Y)
theorem eqA_iff {X Y : Array Value} : eqA X Y = true ↔ X = Y := by unfold eqA; simp
theorem eqA_no {X Y : Array Value} : eqA X Y = false ↔ X ≠ Y := by unfold eqA; simp
theorem eqA_refl (X : Array Value) : eqA X X = true := eqA_iff.2 rfl
theorem eqA_of {X Y : Array Value} {b : Bool} (h : b = true ↔ X = Y) : b = eqA X Y := by
  cases hb : b
  · cases he : eqA X Y
    · rfl
    · have := h.2 (eqA_iff.1 he); rw [hb] at this; cases this
  · rw [eqA_iff.2 (h.1 hb)]
end
theorem toList_inj_iff {a b : ByteArray} : a.toList = b.toList ↔ a = b := by
  constructor
  · intro h
    rw [ByteArray.toList_eq, ByteArray.toList_eq] at h
    obtain ⟨⟨x⟩⟩ := a
    obtain ⟨⟨y⟩⟩ := b
    simp at h; subst h; rfl
  · rintro rfl; rfl
section
variable {P : Program} {T : TypeId} {n : Nat} {d : TypeDesc}
theorem part_row (hu : P.underlying T = some d) (hd : d.isRow = true) (hi : (P.info? T).map (·.size) = some n) (X : Array Value) (o : Nat) (w : World) : (part T X o).run P w = .ok (.agg (piece X o n)) w := by
  cases hq : P.info? T with
  | none => simp [hq] at hi
  | some f =>
    have hs : f.size = n := by simpa [hq] using hi
    have ha : (isAgg T).run P w = .ok true w := by
      unfold isAgg
      simp only [Sem.run_bind, run_underlying hu, Result.andThen_ok]
      cases d <;> first | rfl | (cases hd; done)
    simp [part, sizeOf, typeInfo, hq, hs, ha, piece]
theorem part_cell (hu : P.underlying T = some d) (hd : d.isRow = false) (hi : (P.info? T).map (·.size) = some 1) {X : Array Value} {o : Nat} {v : Value} (h : X[o]? = some v) (w : World) : (part T X o).run P w = .ok v w := by
  cases hq : P.info? T with
  | none => simp [hq] at hi
  | some f =>
    have hs : f.size = 1 := by simpa [hq] using hi
    have ha : (isAgg T).run P w = .ok false w := by
      unfold isAgg
      simp only [Sem.run_bind, run_underlying hu, Result.andThen_ok]
      cases d <;> first | rfl | (cases hd; done)
    simp [part, sizeOf, typeInfo, hq, hs, ha, h]
theorem eqFields_run {P : Program} {d : Nat} {xs ys : Array Value} : ∀ {fs : List Field} {L : List (TypeId × Nat × Bool)}, fs.map (fun f => (f.name != "_", f.type, f.offset)) = L.map (fun x => (true, x.1, x.2.1)) →
    (∀ x ∈ L, ∃ a b, (∀ w, (part x.1 xs x.2.1).run P w = .ok a w) ∧ (∀ w, (part x.1 ys x.2.1).run P w = .ok b w) ∧ ∀ w, (Op.equalIn d x.1 a b).run P w = .ok x.2.2 w) →
    ∀ w, (Op.eqFields d xs ys fs).run P w = .ok (L.all (·.2.2)) w
  | [], L, hm, h, w => by
    cases L with
    | nil => simp [Op.eqFields]
    | cons x L => simp at hm
  | f :: fs, L, hm, h, w => by
    cases L with
    | nil => simp at hm
    | cons x L =>
      simp only [List.map_cons, List.cons.injEq, Prod.mk.injEq] at hm
      obtain ⟨⟨h1, h2, h3⟩, h4⟩ := hm
      obtain ⟨a, b, ha, hb, he⟩ := h x (by simp)
      have hn : f.name ≠ "_" := by simpa using h1
      have ih := eqFields_run (P := P) (d := d) (xs := xs) (ys := ys) h4 (fun y hy => h y (by simp [hy])) w
      simp only [Op.eqFields, if_pos hn, Sem.run_bind, h2, h3, ha, hb, he, Result.andThen_ok, Sem.run_ite, List.all_cons]
      cases x.2.2
      · simp
      · simp [ih]
theorem eq_struct {d : Nat} {t : TypeId} {xs ys : Array Value} {L : List (TypeId × Nat × Bool)} {b : Bool} (ht : P.underlying t = some (.struct (P.fieldsOf t))) (hp : P.stoodInHeld t = false)
    (hm : (P.fieldsOf t).toList.map (fun f => (f.name != "_", f.type, f.offset)) = L.map (fun x => (true, x.1, x.2.1)))
    (h : ∀ x ∈ L, ∃ a b, (∀ w, (part x.1 xs x.2.1).run P w = .ok a w) ∧ (∀ w, (part x.1 ys x.2.1).run P w = .ok b w) ∧ ∀ w, (Op.equalIn d x.1 a b).run P w = .ok x.2.2 w) (hb : L.all (·.2.2) = b) (w : World) :
    (Op.equalIn (d + 1) t (.agg xs) (.agg ys)).run P w = .ok b w := by
  rw [run_equalIn_struct w d t xs ys ht hp, eqFields_run hm h, hb]
theorem eql_of {t : TypeId} {X Y : Array Value} {b : Bool} (h : ∀ w, (Op.equalIn 10000 t (.agg X) (.agg Y)).run P w = .ok b w) (w : World) : (binOp .eql t (.agg X) (.agg Y)).run P w = .ok (.bool b) w := by
  rw [run_eql_struct, h]; rfl
theorem neq_of {t : TypeId} {X Y : Array Value} {b : Bool} (h : ∀ w, (Op.equalIn 10000 t (.agg X) (.agg Y)).run P w = .ok b w) (w : World) : (binOp .neq t (.agg X) (.agg Y)).run P w = .ok (.bool (!b)) w := by
  rw [run_neq_struct, h]; rfl
end
/-! a field of a value -/
def fieldSem (T : TypeId) (x : Value) (i : Nat) : Sem Value := Instr.field T x i
theorem field_of {P : Program} {T : TypeId} {X : Array Value} {i : Nat} {t : TypeId} {o : Nat} {v : Value} (hT : P.underlying T = some (.struct (P.fieldsOf T))) (hf : (P.fieldsOf T)[i]?.map (fun f => (f.type, f.offset)) = some (t, o))
    (hp : ∀ w, (part t X o).run P w = .ok v w) (w : World) : (fieldSem T (.agg X) i).run P w = .ok v w := by
  cases hq : (P.fieldsOf T)[i]? with
  | none => rw [hq] at hf; simp at hf
  | some f =>
    rw [hq] at hf
    simp only [Option.map_some, Option.some.injEq, Prod.mk.injEq] at hf
    unfold fieldSem Instr.field
    simp only [Sem.run_bind, run_underlying hT, Result.andThen_ok, hq, hf.1, hf.2]
    show ((asAgg (.agg X)).run P w).andThen _ = _
    have : (asAgg (.agg X)).run P w = .ok X w := rfl
    rw [this]
    exact hp w
/-! a value built of parts -/
def buildS (T : TypeId) (parts : Array (Nat × Value)) : Sem Value := Instr.build T parts
def buildSlow (P : Program) (T : TypeId) (parts : Array (Nat × Value)) (w : World) : Result Value := (buildS T parts).run P w
def fillS (pl : Nat → Option (Nat × Nat)) (Z : Array Value) (l : List (Nat × Value)) : Option (Array Value) := Instr.fill pl Z l
def buildRes (P : Program) (T : TypeId) (parts : Array (Nat × Value)) (w : World) : Option (Array Value) → Result Value
  | some X => .ok (.agg X) w
  | none => buildSlow P T parts w
theorem buildRes_some (P : Program) (T : TypeId) (parts : Array (Nat × Value)) (w : World) (X : Array Value) : buildRes P T parts w (some X) = .ok (.agg X) w := rfl
def buildOf (P : Program) (T : TypeId) (pl : Nat → Option (Nat × Nat)) (Z : Array Value) (parts : Array (Nat × Value)) (w : World) : Result Value := buildRes P T parts w (fillS pl Z parts.toList)
theorem build_struct {P : Program} {T : TypeId} {Z : Array Value} {PL : Array (Nat × Nat)} (hT : P.underlying T = some (.struct (P.fieldsOf T))) (hz : (P.info? T).map (·.zero) = some (some (.agg Z)))
    (hpl : ∀ w, ((P.fieldsOf T).mapM fun f => (do pure (f.offset, ← sizeOf f.type) : Sem (Nat × Nat))).run P w = .ok PL w) (w : World) (parts : Array (Nat × Value)) :
    (buildS T parts).run P w = buildOf P T (fun i => PL[i]?) Z parts w := by
  unfold buildOf fillS
  cases hf : Instr.fill (fun i => PL[i]?) Z parts.toList with
  | none => rfl
  | some X =>
    cases hq : P.info? T with
    | none => simp [hq] at hz
    | some f =>
      have hzz : (zeroValue T).run P w = .ok (.agg Z) w := by
        have : f.zero = some (.agg Z) := by simpa [hq] using hz
        simp [zeroValue, typeInfo, hq, this]
      unfold buildS Instr.build
      simp only [Sem.run_bind, hzz, Result.andThen_ok, run_underlying hT, hpl, Value.cells, hf]
      rfl
def cellSet (w : World) (n i : Nat) (X : Array Value) : Option Value := (w.setRow n X).cell? ⟨n, i, none⟩
def frozenSet (w : World) (n i : Nat) (X : Array Value) : Bool := (w.setRow n X).frozen? ⟨n, i, none⟩
theorem cell_setRow (w : World) (n m i : Nat) (X : Array Value) : (w.setRow n X).cell? ⟨m, i, none⟩ = if n = m then cellSet w n i X else w.cell? ⟨m, i, none⟩ := by
  split
  · rename_i h; subst h; rfl
  · exact World.cell?_of_block (w := w) (setRow_other w n m X (fun e => absurd e.symm ‹_›))
theorem frozen_setRow (w : World) (n m i : Nat) (X : Array Value) : (w.setRow n X).frozen? ⟨m, i, none⟩ = if n = m then frozenSet w n i X else w.frozen? ⟨m, i, none⟩ := by
  split
  · rename_i h; subst h; rfl
  · exact World.frozen?_of_block (w := w) (setRow_other w n m X (fun e => absurd e.symm ‹_›))
/-! rows of structs -/
def flatV {α : Type} (V : α → Array Value) : List α → Array Value
  | [] => #[]
  | a :: l => V a ++ flatV V l
section
variable {α : Type} {V : α → Array Value} {n : Nat} (hV : ∀ a, (V a).size = n)
include hV
theorem flatV_size : ∀ l : List α, (flatV V l).size = l.length * n
  | [] => by simp [flatV]
  | a :: l => by rw [flatV, Array.size_append, hV, flatV_size l, List.length_cons, Nat.succ_mul]; omega
theorem flatV_get : ∀ (l : List α) (k : Nat) (hk : k < l.length) (j : Nat), j < n → (flatV V l)[k * n + j]? = (V l[k])[j]?
  | a :: l, 0, hk, j, hj => by
    rw [flatV, Array.getElem?_append, if_pos (by rw [hV]; omega)]
    simp
  | a :: l, k + 1, hk, j, hj => by
    rw [flatV, Array.getElem?_append, if_neg (by rw [hV, Nat.succ_mul]; omega), hV]
    have e : (k + 1) * n + j - n = k * n + j := by rw [Nat.succ_mul]; omega
    rw [e, flatV_get l k (by simpa using hk) j hj]
    simp
end
theorem flatV_append {α : Type} (V : α → Array Value) : ∀ (l m : List α), flatV V (l ++ m) = flatV V l ++ flatV V m
  | [], m => by simp [flatV]
  | a :: l, m => by rw [List.cons_append, flatV, flatV, flatV_append V l m, Array.append_assoc]
theorem flatV_one {α : Type} (V : α → Array Value) (a : α) : flatV V [a] = V a := by simp [flatV]
end Go.Proofs.YtomlilkobhkoiaaGreatDoor
/- Item as a value, as cells: its parts, equality, loads, stores, building. Printed by types.py. -/
namespace Go.Proofs.YtomlilkobhkoiaaGreatDoor
open Go.RowKit
set_option linter.unusedVariables false
structure Item where
  rep : Int
  num : Int
def IV (x : Item) : Array Value := #[.int .i64 x.rep, .int .i64 x.num]
def noItem : Item := ⟨0, 0⟩
section
variable (x y : Item)
theorem TItem_size : (IV x).size = 2 := rfl
theorem TItem_one : allOne (IV x) = true := by simp [allOne, IV, Value.oneCell']
theorem TItem_piece : piece (IV x) 0 2 = IV x := piece_all _ _ rfl
theorem TItem_c0 : (IV x)[0]? = some (.int .i64 x.rep) := rfl
theorem TItem_c1 : (IV x)[1]? = some (.int .i64 x.num) := rfl
theorem TItem_set_rep (v : Int) : (IV x).setIfInBounds 0 (.int .i64 v) = IV { x with rep := v } := rfl
theorem TItem_set_num (v : Int) : (IV x).setIfInBounds 1 (.int .i64 v) = IV { x with num := v } := rfl
theorem TItem_cat : IV x = #[.int .i64 x.rep] ++ #[.int .i64 x.num] := by kernel_rfl
theorem TItem_ext : IV x = IV y ↔ x.rep = y.rep ∧ x.num = y.num := by
  constructor
  · intro h
    refine ⟨?_, ?_⟩
    · have := congrArg (·[0]?) h; simpa [TItem_c0, TItem_size] using this
    · have := congrArg (·[1]?) h; simpa [TItem_c1, TItem_size] using this
  · rintro ⟨h0, h1⟩
    rw [TItem_cat x, TItem_cat y, h0, h1]
end
theorem TItem_und : Tryz.prog.underlying 33 = some (.struct (Tryz.prog.fieldsOf 33)) := by kernel_rfl
theorem TItem_eq (d : Nat) (x y : Item) (w : World) : (Op.equalIn (d + 2) 33 (.agg (IV x)) (.agg (IV y))).run Tryz.prog w = .ok (eqA (IV x) (IV y)) w := by
  refine eq_struct (d := d + 1) (L := [(3, 0, x.rep == y.rep), (3, 1, x.num == y.num)]) TItem_und (by kernel_rfl) (by kernel_rfl) ?_ ?_ w
  · simp only [List.forall_mem_cons]
    exact ⟨⟨_, _, part_cell Tryz.underlying3 rfl (by kernel_rfl) (TItem_c0 x), part_cell Tryz.underlying3 rfl (by kernel_rfl) (TItem_c0 y), fun w => run_equalIn_int w (d + 0) _ _ _ _ _ Tryz.underlying3⟩, ⟨_, _, part_cell Tryz.underlying3 rfl (by kernel_rfl) (TItem_c1 x), part_cell Tryz.underlying3 rfl (by kernel_rfl) (TItem_c1 y), fun w => run_equalIn_int w (d + 0) _ _ _ _ _ Tryz.underlying3⟩, by simp⟩
  · refine eqA_of ?_
    rw [TItem_ext]
    simp
theorem TItem_eql (x y : Item) (w : World) : (binOp .eql 33 (.agg (IV x)) (.agg (IV y))).run Tryz.prog w = .ok (.bool (eqA (IV x) (IV y))) w := eql_of (TItem_eq 9998 x y) w
theorem TItem_neq (x y : Item) (w : World) : (binOp .neq 33 (.agg (IV x)) (.agg (IV y))).run Tryz.prog w = .ok (.bool (!eqA (IV x) (IV y))) w := neq_of (TItem_eq 9998 x y) w
theorem TItem_ld0 (v : Value) : Instr.loadAt 33 v = loadSem 33 v := rfl
theorem TItem_st0 (v u : Value) : Instr.storeAt 33 v u = storeSem 33 v u := rfl
theorem TItem_fd0 (x : Value) (i : Nat) : Instr.field 33 x i = fieldSem 33 x i := rfl
theorem TItem_bd0 (p : Array (Nat × Value)) : Instr.build 33 p = buildS 33 p := rfl
theorem TItem_ld (w : World) (v : Value) : (loadSem 33 v).run Tryz.prog w = loadVal Tryz.prog 33 2 w v := load_val TItem_und rfl (by kernel_rfl) w v
theorem TItem_st (w : World) (v u : Value) : (storeSem 33 v u).run Tryz.prog w = storeVal Tryz.prog 33 2 w v u := store_val (by kernel_rfl) w v u
theorem TItem_f_rep (x : Item) (w : World) : (fieldSem 33 (.agg (IV x)) 0).run Tryz.prog w = .ok (.int .i64 x.rep) w := field_of TItem_und (by kernel_rfl) (part_cell Tryz.underlying3 rfl (by kernel_rfl) (TItem_c0 x)) w
theorem TItem_f_num (x : Item) (w : World) : (fieldSem 33 (.agg (IV x)) 1).run Tryz.prog w = .ok (.int .i64 x.num) w := field_of TItem_und (by kernel_rfl) (part_cell Tryz.underlying3 rfl (by kernel_rfl) (TItem_c1 x)) w
def TItem_pl : Nat → Option (Nat × Nat) := fun i => (#[(0, 1), (1, 1)] : Array (Nat × Nat))[i]?
theorem TItem_bd (w : World) (p : Array (Nat × Value)) : (buildS 33 p).run Tryz.prog w = buildOf Tryz.prog 33 TItem_pl (IV noItem) p w := build_struct TItem_und (by kernel_rfl) (fun w => by kernel_rfl) w p
theorem TItem_fl (X : Array Value) : fillS TItem_pl X [] = some X := rfl
theorem TItem_fl_rep (x : Item) (v : Int) (r : List (Nat × Value)) : fillS TItem_pl (IV x) ((0, .int .i64 v) :: r) = fillS TItem_pl (IV { x with rep := v }) r := rfl
theorem TItem_fl_num (x : Item) (v : Int) (r : List (Nat × Value)) : fillS TItem_pl (IV x) ((1, .int .i64 v) :: r) = fillS TItem_pl (IV { x with num := v }) r := rfl
theorem TItem_ret {fn : Func} {R : Ending → World → Prop} {a : Act} {w : World} {p : Tmp} (x : Item) {g : Nat} (hr : fn.results = #[.cell p 33]) (hp : a.tmps.getD p undef = .pointer (some ⟨g, 0, none⟩)) (hdf : a.defers = []) (hrow : row? w g = some (IV x)) (hR : R (.returned (.agg (IV x))) w) : bodyPost Tryz.prog fn R .ret a w :=
  ret_row (IV x) TItem_und rfl (by kernel_rfl) hr hp hdf (TItem_size x) hrow hR
end Go.Proofs.YtomlilkobhkoiaaGreatDoor
/- Spoke as a value, as cells: its parts, equality, loads, stores, building. Printed by types.py. -/
namespace Go.Proofs.YtomlilkobhkoiaaGreatDoor
open Go.RowKit
set_option linter.unusedVariables false
structure Spoke where
  key : Item
  due : Int
  turn : Int
def SKV (x : Spoke) : Array Value := #[.int .i64 x.key.rep, .int .i64 x.key.num, .int .i64 x.due, .int .i64 x.turn]
def noSpoke : Spoke := ⟨noItem, 0, 0⟩
section
variable (x y : Spoke)
theorem TSpoke_size : (SKV x).size = 4 := rfl
theorem TSpoke_one : allOne (SKV x) = true := by simp [allOne, SKV, Value.oneCell']
theorem TSpoke_piece : piece (SKV x) 0 4 = SKV x := piece_all _ _ rfl
theorem TSpoke_c0 : (SKV x)[0]? = some (.int .i64 x.key.rep) := rfl
theorem TSpoke_c1 : (SKV x)[1]? = some (.int .i64 x.key.num) := rfl
theorem TSpoke_c2 : (SKV x)[2]? = some (.int .i64 x.due) := rfl
theorem TSpoke_c3 : (SKV x)[3]? = some (.int .i64 x.turn) := rfl
theorem TSpoke_p_key : piece (SKV x) 0 2 = IV x.key := by kernel_rfl
theorem TSpoke_put_key (v : Item) : splice (SKV x) 0 (IV v) = SKV { x with key := v } := by kernel_rfl
theorem TSpoke_set_due (v : Int) : (SKV x).setIfInBounds 2 (.int .i64 v) = SKV { x with due := v } := rfl
theorem TSpoke_set_turn (v : Int) : (SKV x).setIfInBounds 3 (.int .i64 v) = SKV { x with turn := v } := rfl
theorem TSpoke_cat : SKV x = IV x.key ++ #[.int .i64 x.due] ++ #[.int .i64 x.turn] := by kernel_rfl
theorem TSpoke_ext : SKV x = SKV y ↔ IV x.key = IV y.key ∧ x.due = y.due ∧ x.turn = y.turn := by
  constructor
  · intro h
    refine ⟨?_, ?_, ?_⟩
    · have := congrArg (fun c => piece c 0 2) h; simpa only [TSpoke_p_key] using this
    · have := congrArg (·[2]?) h; simpa [TSpoke_c2, TSpoke_size] using this
    · have := congrArg (·[3]?) h; simpa [TSpoke_c3, TSpoke_size] using this
  · rintro ⟨h0, h1, h2⟩
    rw [TSpoke_cat x, TSpoke_cat y, h0, h1, h2]
end
theorem TSpoke_und : Tryz.prog.underlying 184 = some (.struct (Tryz.prog.fieldsOf 184)) := by kernel_rfl
theorem TSpoke_eq (d : Nat) (x y : Spoke) (w : World) : (Op.equalIn (d + 3) 184 (.agg (SKV x)) (.agg (SKV y))).run Tryz.prog w = .ok (eqA (SKV x) (SKV y)) w := by
  refine eq_struct (d := d + 2) (L := [(33, 0, eqA (IV x.key) (IV y.key)), (3, 2, x.due == y.due), (3, 3, x.turn == y.turn)]) TSpoke_und (by kernel_rfl) (by kernel_rfl) ?_ ?_ w
  · simp only [List.forall_mem_cons]
    exact ⟨⟨_, _, fun w => by rw [part_row TItem_und rfl (by kernel_rfl) (n := 2), TSpoke_p_key], fun w => by rw [part_row TItem_und rfl (by kernel_rfl) (n := 2), TSpoke_p_key], fun w => TItem_eq (d + 0) x.key y.key w⟩, ⟨_, _, part_cell Tryz.underlying3 rfl (by kernel_rfl) (TSpoke_c2 x), part_cell Tryz.underlying3 rfl (by kernel_rfl) (TSpoke_c2 y), fun w => run_equalIn_int w (d + 1) _ _ _ _ _ Tryz.underlying3⟩, ⟨_, _, part_cell Tryz.underlying3 rfl (by kernel_rfl) (TSpoke_c3 x), part_cell Tryz.underlying3 rfl (by kernel_rfl) (TSpoke_c3 y), fun w => run_equalIn_int w (d + 1) _ _ _ _ _ Tryz.underlying3⟩, by simp⟩
  · refine eqA_of ?_
    rw [TSpoke_ext]
    simp [eqA_iff]
theorem TSpoke_eql (x y : Spoke) (w : World) : (binOp .eql 184 (.agg (SKV x)) (.agg (SKV y))).run Tryz.prog w = .ok (.bool (eqA (SKV x) (SKV y))) w := eql_of (TSpoke_eq 9997 x y) w
theorem TSpoke_neq (x y : Spoke) (w : World) : (binOp .neq 184 (.agg (SKV x)) (.agg (SKV y))).run Tryz.prog w = .ok (.bool (!eqA (SKV x) (SKV y))) w := neq_of (TSpoke_eq 9997 x y) w
theorem TSpoke_ld0 (v : Value) : Instr.loadAt 184 v = loadSem 184 v := rfl
theorem TSpoke_st0 (v u : Value) : Instr.storeAt 184 v u = storeSem 184 v u := rfl
theorem TSpoke_fd0 (x : Value) (i : Nat) : Instr.field 184 x i = fieldSem 184 x i := rfl
theorem TSpoke_bd0 (p : Array (Nat × Value)) : Instr.build 184 p = buildS 184 p := rfl
theorem TSpoke_ld (w : World) (v : Value) : (loadSem 184 v).run Tryz.prog w = loadVal Tryz.prog 184 4 w v := load_val TSpoke_und rfl (by kernel_rfl) w v
theorem TSpoke_st (w : World) (v u : Value) : (storeSem 184 v u).run Tryz.prog w = storeVal Tryz.prog 184 4 w v u := store_val (by kernel_rfl) w v u
theorem TSpoke_f_key (x : Spoke) (w : World) : (fieldSem 184 (.agg (SKV x)) 0).run Tryz.prog w = .ok (.agg (IV x.key)) w := field_of TSpoke_und (by kernel_rfl) (fun w => by rw [part_row TItem_und rfl (by kernel_rfl) (n := 2), TSpoke_p_key]) w
theorem TSpoke_f_due (x : Spoke) (w : World) : (fieldSem 184 (.agg (SKV x)) 1).run Tryz.prog w = .ok (.int .i64 x.due) w := field_of TSpoke_und (by kernel_rfl) (part_cell Tryz.underlying3 rfl (by kernel_rfl) (TSpoke_c2 x)) w
theorem TSpoke_f_turn (x : Spoke) (w : World) : (fieldSem 184 (.agg (SKV x)) 2).run Tryz.prog w = .ok (.int .i64 x.turn) w := field_of TSpoke_und (by kernel_rfl) (part_cell Tryz.underlying3 rfl (by kernel_rfl) (TSpoke_c3 x)) w
def TSpoke_pl : Nat → Option (Nat × Nat) := fun i => (#[(0, 2), (2, 1), (3, 1)] : Array (Nat × Nat))[i]?
theorem TSpoke_bd (w : World) (p : Array (Nat × Value)) : (buildS 184 p).run Tryz.prog w = buildOf Tryz.prog 184 TSpoke_pl (SKV noSpoke) p w := build_struct TSpoke_und (by kernel_rfl) (fun w => by kernel_rfl) w p
theorem TSpoke_fl (X : Array Value) : fillS TSpoke_pl X [] = some X := rfl
theorem TSpoke_fl_key (x : Spoke) (v : Item) (r : List (Nat × Value)) : fillS TSpoke_pl (SKV x) ((0, .agg (IV v)) :: r) = fillS TSpoke_pl (SKV { x with key := v }) r := by
  show Instr.fill _ _ _ = Instr.fill _ _ _
  rw [fill_cons TSpoke_pl (SKV x) (IV v) 0 0 2 r rfl rfl (by show _ ≤ 4; omega), TSpoke_put_key]
theorem TSpoke_fl_due (x : Spoke) (v : Int) (r : List (Nat × Value)) : fillS TSpoke_pl (SKV x) ((1, .int .i64 v) :: r) = fillS TSpoke_pl (SKV { x with due := v }) r := rfl
theorem TSpoke_fl_turn (x : Spoke) (v : Int) (r : List (Nat × Value)) : fillS TSpoke_pl (SKV x) ((2, .int .i64 v) :: r) = fillS TSpoke_pl (SKV { x with turn := v }) r := rfl
end Go.Proofs.YtomlilkobhkoiaaGreatDoor
/- From a law's walk to what its row asks: the arguments read as they did, nothing that was there has turned, the answer is true. -/
namespace Go.Proofs.YtomlilkobhkoiaaGreatDoor
open Go.ChangeShapes Go.WideShapes Go.ChangeAt Go.RowKit Go.WideMaps Go.WideElems
open Go.ChangeMaps (open_string)
theorem own : ownKnob Tryz.prog.godebug = none := by kernel_rfl
theorem laidOut : laidOutB Tryz.prog = true := by kernel_rfl
section
variable {H : Type} {enc : TypeId × Value → H} {P : Program}
theorem trodAll_stays (hl : laidOutB P = true) {W W' : World} {sp' : Nat → Bool} : ∀ {ts : List TypeId} {vs : List Value} {ds : List (DataW H)} {ps : List MemPlace},
    (∀ t ∈ ts, P.readableRec t = true ∧ t < P.types.size) → DataW.TrodAll enc P W 0 (fun _ => true) true ts vs ds ps → (∀ p ∈ ps, W.sameAt W' p) → (∀ p ∈ ps, sp' p.block = true) →
    DataW.TrodAll enc P W' 0 sp' true ts vs ds ps
  | [], _, _, _, _, h, _, _ => by
    obtain ⟨rfl, rfl, rfl⟩ := trodAll_nil h
    exact trodAll_mk0
  | t :: ts, _, _, _, hr, h, hs, hp => by
    obtain ⟨v, vs, d, ds, p, q, rfl, rfl, rfl, h1, h2⟩ := trodAll_cons h
    exact trodAll_cons_mk (Trod_stays hl (hr t (by simp)).1 (hr t (by simp)).2 h1 (fun x hx => hs x (by simp [hx])) (fun x hx => hp x (by simp [hx])))
      (trodAll_stays hl (fun t ht => hr t (by simp [ht])) h2 (fun x hx => hs x (by simp [hx])) (fun x hx => hp x (by simp [hx])))
theorem law_post {f : Func} {s : ChangeSpec} {W W' : World} {args : Array Value} {ds gs : List (DataW H)} {before : List MemPlace} {B : TypeId} (hl : laidOutB P = true)
    (hW : DataW.Whole enc P f.params.toList s.vars false W args.toList ds gs before) (hsv : s.vars = []) (hread : f.params.toList.all (fun t => P.readableRec t && decide (t < P.types.size)) = true)
    (hrt : f.resultTypes = #[B]) (hB : P.underlying B = some .bool) (hfn : ∀ ds : List (DataW H), ds.length = f.params.toList.length → s.fn H ds = { results := [.lit (.bool true)], args := ds })
    (hb : Below W.heap.size W W') : s.post enc P f false true false false W args (.bool true) W' := by
  have hlt := fun p hp => hW.lt p hp
  obtain ⟨p, q, hA, hV, rfl, hz, hn⟩ := id hW
  rw [hsv] at hV
  obtain ⟨rfl, rfl⟩ := trodVars_none hV
  have hlen : ∀ {ts : List TypeId} {vs : List Value} {ds : List (DataW H)} {ps : List MemPlace}, DataW.TrodAll enc P W 0 (fun _ => true) true ts vs ds ps → ds.length = ts.length := by
    intro ts
    induction ts with
    | nil => intro vs ds ps h; obtain ⟨rfl, rfl, rfl⟩ := trodAll_nil h; rfl
    | cons t ts ih => intro vs ds ps h; obtain ⟨v, vs, d, ds, p, q, rfl, rfl, rfl, _, h2⟩ := trodAll_cons h; simp [ih h2]
  have hf := hfn ds (hlen hA)
  refine ⟨ds, [], p ++ [], [], p, [], hW, ?_, ?_, ?_, World.keptBut_mono (fun x hx => ⟨hx, Or.inr (Or.inl (by simpa using hx))⟩) (hb.frame _), fun h => by cases h⟩
  · rw [List.append_nil, hf, hrt]
    exact trodAll_mk1 (shut_bool hB _)
  · rw [List.append_nil, hf]
    refine trodAll_stays hl (fun t ht => ?_) hA (fun x hx => hb.same (hlt x (by simpa using hx))) (fun x hx => by simpa using hlt x (by simpa using hx))
    have := List.all_eq_true.1 hread t ht
    simpa using this
  · rw [hsv, List.append_nil, hf]
    exact rfl
end
end Go.Proofs.YtomlilkobhkoiaaGreatDoor
/- What comes in: numbers, bytes, texts. -/
namespace Go.Proofs.YtomlilkobhkoiaaGreatDoor
open Go.ChangeShapes Go.WideShapes Go.ChangeAt Go.RowKit Go.WideMaps Go.WideElems Go.Joins
open Go.ChangeMaps (open_string)
/-- a number that an int holds -/
def Fits (n : Int) : Prop := -9223372036854775808 ≤ n ∧ n ≤ 9223372036854775807
theorem fits_of {n : Int} (h : (Lit.int .i64 n).wf = true) : Fits n := by
  simp [Lit.wf, IntKind.min, IntKind.max, IntKind.signed, IntKind.bits] at h
  exact h
section
variable {H : Type} {enc : TypeId × Value → H} {w : World} {base : Nat} {sp : Nat → Bool} {held : Bool} {r : Reach} {b0 : Nat} {v : Value} {d : DataW H} {p : List MemPlace}
end
/-- what weighs in one argument is weighed -/
theorem sized_arg {H : Type} {P : Program} {ts : List TypeId} {ds : List (DataW H)} (h : (DataW.weightsEach P ts ds).all (· ≤ reachBytes) = true) {j : Nat} {t : TypeId} {d : DataW H} (ht : ts[j]? = some t) (hd : ds[j]? = some d) :
    ∀ n ∈ d.weights P t, n ≤ reachBytes := fun n hn => by simpa using List.all_eq_true.1 h n (DataW.weights_mem_each ht hd n hn)
end Go.Proofs.YtomlilkobhkoiaaGreatDoor
/- A slice of wide things that came in: its cells, its loads. Nothing of the program stands here. -/
namespace Go.Proofs.YtomlilkobhkoiaaGreatDoor
open Go.ChangeShapes Go.WideShapes Go.ChangeAt Go.RowKit Go.WideMaps Go.WideElems Go.Joins Go.Deep
set_option linter.unusedVariables false
/-- The slice with this address holds these things, each of n cells. -/
structure RowsIn {α : Type} (w : World) (A : Option Addr) (n : Nat) (V : α → Array Value) (l : List α) : Prop where
  nil : A = none → l = []
  cell : ∀ a, A = some a → ∀ j (h : j < l.length) i v, (V l[j])[i]? = some v → w.cell? ((a.add (j * n)).add i) = some v
  len : l.length ≤ 9223372036854775807
theorem add_blk (a : Addr) (j : Nat) : (a.add j).block = a.block := by unfold Addr.add; split <;> rfl
section
variable {α : Type} {w W : World} {A : Option Addr} {n : Nat} {V : α → Array Value} {l : List α} {P : Program} {T : TypeId} {d : TypeDesc} {a : Addr} {j : Nat}
theorem loadAt_cells (W : World) (a : Addr) (X : Array Value) (hc : ∀ i v, X[i]? = some v → W.cell? (a.add i) = some v) (hu : P.underlying T = some d) (hd : d.isRow = true) (hi : (P.info? T).map (·.size) = some X.size) :
    (Instr.loadAt T (.pointer (some a))).run P W = .ok (.agg X) W := by
  have hl : (loadCells a X.size).run P W = .ok X W := by
    have := run_loadCells_list (P := P) (w := W) a X.toList (fun j v hv => hc j v (by simpa using hv))
    simpa using this
  cases hq : P.info? T with
  | none => simp [hq] at hi
  | some i =>
    have hs : i.size = X.size := by simpa [hq] using hi
    have hagg : (isAgg T).run P W = .ok true W := by
      unfold isAgg
      rw [Sem.run_bind, run_underlying hu W]
      cases d <;> simp_all
    simp [Instr.loadAt, Instr.sureAddr, loadVar, Sem.run_bind, hagg, sizeOf, typeInfo, hq, hs, hl]
theorem RowsIn.load (h : RowsIn w A n V l) (hV : ∀ x, (V x).size = n) (hu : P.underlying T = some d) (hd : d.isRow = true) (hi : (P.info? T).map (·.size) = some n) (hb : Below w.heap.size w W) (hA : A = some a) (hj : j < l.length) :
    loadVal P T n W (.pointer (some (a.add (j * n)))) = .ok (.agg (V l[j])) W := by
  rw [← load_val hu hd hi]
  refine loadAt_cells W _ _ (fun i v hv => ?_) hu hd (by rw [hi, hV])
  have hc := h.cell a hA j hj i v hv
  exact (hb.cell (World.block_lt_of_cell? w _ hc)).trans hc
theorem RowsIn.block (h : RowsIn w A n V l) (hV : ∀ x, (V x).size = n) (hn : 0 < n) (hA : A = some a) (hj : j < l.length) : a.block < w.heap.size := by
  have hc := h.cell a hA j hj 0 ((V l[j])[0]'(by rw [hV]; exact hn)) (by rw [Array.getElem?_eq_getElem])
  have := World.block_lt_of_cell? w _ hc
  rwa [add_blk, add_blk] at this
end
theorem weigh_mem {H : Type} {P : Program} {e : TypeId} {d : DataW H} {m : Nat} : ∀ {ds : List (DataW H)}, d ∈ ds → m ∈ d.weights P e → m ∈ DataW.weightsAll P e ds
  | x :: ds, h, hm => by
    simp only [DataW.weightsAll, List.mem_append]
    rcases List.mem_cons.1 h with rfl | h
    · exact .inl hm
    · exact .inr (weigh_mem h hm)
theorem choose_list {α : Type} {p : Nat → α → Prop} : ∀ (n : Nat), (∀ i, i < n → ∃ x, p i x) → ∃ l : List α, l.length = n ∧ ∀ i (h : i < l.length), p i l[i]
  | 0, _ => ⟨[], rfl, fun i h => by simp at h⟩
  | n + 1, h => by
    obtain ⟨l, hl, hp⟩ := choose_list n fun i hi => h i (by omega)
    obtain ⟨x, hx⟩ := h n (by omega)
    refine ⟨l ++ [x], by simp [hl], fun i hi => ?_⟩
    rw [List.length_append, List.length_singleton] at hi
    by_cases hin : i < l.length
    · rw [List.getElem_append_left hin]; exact hp i hin
    · have : i = l.length := by omega
      subst this
      rw [List.getElem_append_right (by omega)]
      simpa [hl] using hx
theorem open_rowsIn {α : Type} {V : α → Array Value} {Fit : α → Prop} {H : Type} {enc : TypeId × Value → H} {P : Program} {w : World} {base : Nat} {sp : Nat → Bool} {held : Bool} {r : Reach} {b0 : Nat} {v : Value} {d : DataW H} {p : List MemPlace} {t e : TypeId} {n : Nat}
    (ht : P.underlying t = some (.slice e)) (hn : P.cellsOf e = n)
    (each : ∀ (fuel : Nat) (cs : List Value) (x : DataW H × List MemPlace), DataW.trod enc P w base sp held fuel e cs = some x → (∀ m ∈ x.1.weights P e, m ≤ reachBytes) → ∃ X : α, cs = (V X).toList ∧ Fit X)
    (hv : Value.okWide P w r b0 t v) (h : DataW.Trod enc P w base sp held t v d p) (hw : ∀ m ∈ d.weights P t, m ≤ reachBytes) :
    ∃ A l c, v = .slice A (List.length l) c ∧ RowsIn w A n V l ∧ ∀ x ∈ l, Fit x := by
  obtain ⟨fuel, hf⟩ := h
  rcases open_slice ht hf with ⟨hcs, hx⟩ | ⟨a, len, cap, m, k, D, Pl, hcs, _, hlc, hcm, hm, hx, hel⟩
  · have hv1 : v = .slice none 0 0 := by
      cases v <;> simp [Value.okWide, Cell.okWide, Cell.ok, ht] at hv <;> simp_all [Value.cells]
    exact ⟨none, [], 0, hv1, ⟨fun _ => rfl, fun a ha => (by cases ha), by simp⟩, fun s hs => (by cases hs)⟩
  · have hv1 : v = .slice (some a) len cap := by
      cases v <;> simp [Value.okWide, Cell.okWide, Cell.ok, ht] at hv <;> simp_all [Value.cells]
    have hle : len ≤ m := by rw [hm]; split <;> omega
    injection hx with hx1 hx2
    obtain ⟨l, hl, hp⟩ := choose_list (p := fun i X => Fit X ∧ ∀ q v, (V X)[q]? = some v → w.cell? ((a.add (i * n)).add q) = some v) len fun i hi => by
      obtain ⟨cs', h1, h2⟩ := hel i (by omega)
      obtain ⟨X, e1, e2⟩ := each k cs' _ h2 fun q hq => hw q (by
        rw [hx1]; simp only [DataW.weights, ht]
        exact List.mem_cons_of_mem _ (List.mem_append_left _ (weigh_mem (List.mem_map_of_mem (List.mem_range.2 hi)) hq)))
      refine ⟨X, e2, fun q v hq => ?_⟩
      rw [hn] at h1
      obtain ⟨_, hlen, hcell⟩ := World.cells?_some h1
      have hq2 : q < (V X).size := (Array.getElem?_eq_some_iff.1 hq).1
      have hlen2 : cs'.length = (V X).size := by rw [e1]; simp
      rw [hcell q (by omega), e1]
      simpa using hq
    refine ⟨some a, l, cap, by rw [hl]; exact hv1, ⟨fun ha => (by cases ha), fun a' ha j hj i v hi => ?_, ?_⟩, fun x hx => ?_⟩
    · injection ha with ha; subst ha
      exact (hp j hj).2 i v hi
    · have : maxLen = 9223372036854775807 := rfl
      omega
    · obtain ⟨i, hi, rfl⟩ := List.mem_iff_getElem.1 hx
      exact (hp i hi).1
end Go.Proofs.YtomlilkobhkoiaaGreatDoor
/- Slices of wide things of the call's own: append in a region that draws its order; their cells and loads. Nothing of the program stands here. -/
namespace Go.Proofs.YtomlilkobhkoiaaGreatDoor
open Go.RowKit
set_option linter.unusedVariables false
/-- The cells of a row of things. -/
def vl {α : Type} (V : α → Array Value) (l : List α) : List Value := (flatV V l).toList
theorem vl_snoc {α : Type} (V : α → Array Value) (l : List α) (x : α) : vl V (l ++ [x]) = vl V l ++ (V x).toList := by
  unfold vl; rw [flatV_append, flatV_one, Array.toList_append]
theorem vl_nil {α : Type} (V : α → Array Value) : vl V [] = [] := rfl
section
variable {P : Program} {w W : World} {F : Nat → Prop} {R : List Res}
theorem step_append_vec {ops : Array Oper} {o : Oper} {a : Act} {K : Act → World → Prop} {Q : Exit → Act → World → Prop} {E : Prop} (hgd : o.guard = none) (s x : Operand) (t : TypeId)
    (ho : o.op = .call { callee := .builtin .append, args := #[s, x], argTypes := #[t, t] })
    (e : TypeId) (i : TypeInfo) (z : Value) (size bytes : Nat) (ht : P.underlying t = some (.slice e)) (hi : P.info? e = some i) (hz : i.zero = some z)
    (hsize : i.size = size) (hby : i.bytes = bytes) (hzs : z.cells.size = size) (hsz : 0 < size)
    (v : Value) (n : Nat) (xs : List Value) (hs : a.eval s = v) (T : Sts w F W (vecR e size v n xs :: R))
    (ad : Addr) (m c : Nat) (news : List Value) (hx : a.eval x = .slice (some ad) m c) (hl : news.length = m * size) (hnews : ∀ j u, news[j]? = some u → W.cell? (ad.add j) = some u) (h1 : ∀ u ∈ news, u.oneCell' = true)
    (hm : 0 < m) (h63 : n + m ≤ maxLen) (hbytes : (n + m) * bytes ≤ 140737488355328)
    (h : ∀ g cap w', Sts w F w' (vecR e size (.slice (some ⟨g, 0, none⟩) (n + m) cap) (n + m) (xs ++ news) :: R) → K (a.put o.dst (.slice (some ⟨g, 0, none⟩) (n + m) cap)) w') :
    if Region.wanted o (yielded ops a.tmps) = true then Oper.wp P o a W K Q else E := by
  refine step_append_lies W hgd s x t ho 0 e i z size bytes ht hi hz hsize hby hzs hsz v n xs hs T.vec ad m c news hx hl hnews h1 hm h63 hbytes (Nat.zero_le _) W.heap.size rfl ?_
  intro g cap w' hown hg hat hlt
  refine h g cap w' (T.grown hown hg ?_)
  rcases hat with h | h
  · left; rw [h]; rfl
  · right; rw [h]; rfl
/-- What lies in such a slice. -/
theorem vec_cell {α : Type} {V : α → Array Value} {size : Nat} (hV : ∀ x, (V x).size = size) {e : TypeId} {v : Value} {l : List α} (T : Sts w F W (vecR e size v l.length (vl V l) :: R)) (h0 : 0 < size) {j : Nat} (hj : j < l.length) :
    ∃ g c, v = .slice (some ⟨g, 0, none⟩) l.length c ∧ g < W.heap.size ∧ ∀ i u, (V l[j])[i]? = some u → W.cell? ⟨g, j * size + i, none⟩ = some u := by
  have hown := T.vec
  rcases hown.2 with ⟨_, h⟩ | ⟨g, cap, cur, rfl, _, hg, hn, hm, hc, ht⟩
  · omega
  · refine ⟨g, cap, rfl, (Array.getElem?_eq_some_iff.1 hg).1, fun i u hu => ?_⟩
    have hi : i < size := by have := (Array.getElem?_eq_some_iff.1 hu).1; rw [hV] at this; exact this
    have h2 := flatV_get hV l j hj i hi
    rw [hu] at h2
    have h3 : (vl V l)[j * size + i]? = some u := by unfold vl; rw [Array.getElem?_toList]; exact h2
    rw [← ht, List.getElem?_take] at h3
    split at h3
    · rw [cell_of_row W g _ cur e (0, 0) hg]; simpa using h3
    · cases h3
end
end Go.Proofs.YtomlilkobhkoiaaGreatDoor
/- Slices of the call's own, read like such that came in. Nothing of the program stands here. -/
namespace Go.Proofs.YtomlilkobhkoiaaGreatDoor
open Go.RowKit
set_option linter.unusedVariables false
theorem add_none (b o j : Nat) : (⟨b, o, none⟩ : Addr).add j = ⟨b, o + j, none⟩ := by unfold Addr.add; split <;> simp_all
/-- A slice of the call's own lies like one that came in. -/
theorem vec_rows {α : Type} {V : α → Array Value} {size : Nat} (hV : ∀ x, (V x).size = size) {e : TypeId} {v : Value} {l : List α} {w W : World} {F : Nat → Prop} {R : List Res} (T : Sts w F W (vecR e size v l.length (vl V l) :: R)) (h0 : 0 < size) (hl : l.length ≤ 9223372036854775807) :
    ∃ A c, v = .slice A l.length c ∧ RowsIn W A size V l ∧ l.length ≤ c ∧ ∀ a, A = some a → ∃ g, a = ⟨g, 0, none⟩ := by
  have hown := T.vec
  rcases hown.2 with ⟨rfl, h⟩ | ⟨g, cap, cur, rfl, _, hg, hn, hm, hc, ht⟩
  · have : l = [] := List.eq_nil_of_length_eq_zero (by omega)
    subst this
    exact ⟨none, 0, rfl, ⟨fun _ => rfl, fun a ha => (by cases ha), by simp⟩, Nat.le_refl _, fun a ha => (by cases ha)⟩
  · refine ⟨some ⟨g, 0, none⟩, cap, rfl, ⟨fun ha => (by cases ha), fun a ha j hj i u hu => ?_, hl⟩, hn, fun a ha => by injection ha with ha; exact ⟨g, ha.symm⟩⟩
    injection ha with ha; subst ha
    obtain ⟨g', c', hv, _, hcell⟩ := vec_cell hV T h0 hj
    injection hv with e1
    injection e1 with e1
    injection e1 with e1
    subst e1
    have := hcell i u hu
    rw [add_none, add_none, Nat.zero_add]
    exact this
section
variable {α : Type} {w W : World} {n : Nat} {V : α → Array Value} {l : List α} {P : Program} {T : TypeId} {d : TypeDesc} {g j : Nat}
/-- A part of a thing of such a slice, loaded whole. -/
theorem RowsIn.part (h : RowsIn w (some ⟨g, 0, none⟩) n V l) (hb : Below w.heap.size w W) (hj : j < l.length) (o m : Nat) (X : Array Value) (hX : ∀ i v, X[i]? = some v → (V l[j])[o + i]? = some v) (hm : X.size = m) (hu : P.underlying T = some d) (hd : d.isRow = true) (hi : (P.info? T).map (·.size) = some m) :
    loadOf P T m W g (j * n + o) = .ok (.agg X) W := by
  rw [← loadVal_at, ← load_val hu hd hi]
  refine loadAt_cells W _ _ (fun i v hv => ?_) hu hd (by rw [hi, hm])
  have hc := h.cell _ rfl j hj (o + i) v (hX i v hv)
  rw [add_none, add_none, Nat.zero_add] at hc
  rw [add_none, Nat.add_assoc]
  exact (hb.cell (World.block_lt_of_cell? w _ hc)).trans hc
/-- A cell of a thing of such a slice. -/
theorem RowsIn.one (h : RowsIn w (some ⟨g, 0, none⟩) n V l) (hb : Below w.heap.size w W) (hj : j < l.length) (o : Nat) (v : Value) (hv : (V l[j])[o]? = some v) : W.cell? ⟨g, j * n + o, none⟩ = some v := by
  have hc := h.cell _ rfl j hj o v hv
  rw [add_none, add_none, Nat.zero_add] at hc
  exact (hb.cell (World.block_lt_of_cell? w _ hc)).trans hc
end
theorem RowsIn.later {α : Type} {w W : World} {A : Option Addr} {n : Nat} {V : α → Array Value} {l : List α} (h : RowsIn w A n V l) (hb : Below w.heap.size w W) : RowsIn W A n V l :=
  ⟨h.nil, fun a ha j hj i v hv => (hb.cell (World.block_lt_of_cell? w _ (h.cell a ha j hj i v hv))).trans (h.cell a ha j hj i v hv), h.len⟩
theorem vec_shape2 {e : TypeId} {size n : Nat} {v : Value} {xs : List Value} {w W : World} {F : Nat → Prop} {R : List Res} (T : Sts w F W (vecR e size v n xs :: R)) : ∃ A c, v = .slice A n c := by
  rcases T.vec.2 with ⟨rfl, rfl⟩ | ⟨g, cap, cur, rfl, _⟩
  · exact ⟨_, _, rfl⟩
  · exact ⟨_, _, rfl⟩
end Go.Proofs.YtomlilkobhkoiaaGreatDoor
