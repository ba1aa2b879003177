/- Several texts in one. -/
import Derived.Test.YtfgacjglfdehbaaGreatDoorZ2
import Derived.ChangeKeysEq
import Derived.Test.YtfgacjglfdehbaaGreatDoorZ1
/- Structs as rows of cells: parts, fields, equality, building; rows of structs, one behind the other. Nothing of the program stands here. -/
namespace Go.Proofs.YtfgacjglfdehbaaGreatDoor
open Go.RowKit
set_option linter.unusedVariables false
section
open Classical in
/-- Whether two rows of cells are the same. -/
noncomputable def eqA (X Y : Array Value) : Bool := decide (X = Y)
theorem eqA_iff {X Y : Array Value} : eqA X Y = true ↔ X = Y := by unfold eqA; simp
theorem eqA_no {X Y : Array Value} : eqA X Y = false ↔ X ≠ Y := by unfold eqA; simp
theorem eqA_refl (X : Array Value) : eqA X X = true := eqA_iff.2 rfl
theorem eqA_of {X Y : Array Value} {b : Bool} (h : b = true ↔ X = Y) : b = eqA X Y := by
  cases hb : b
  · cases he : eqA X Y
    · rfl
    · have := h.2 (eqA_iff.1 he); rw [hb] at this; cases this
  · rw [eqA_iff.2 (h.1 hb)]
end
theorem toList_inj_iff {a b : ByteArray} : a.toList = b.toList ↔ a = b := by
  constructor
  · intro h
    rw [ByteArray.toList_eq, ByteArray.toList_eq] at h
    obtain ⟨⟨x⟩⟩ := a
    obtain ⟨⟨y⟩⟩ := b
    simp at h; subst h; rfl
  · rintro rfl; rfl
section
variable {P : Program} {T : TypeId} {n : Nat} {d : TypeDesc}
theorem part_row (hu : P.underlying T = some d) (hd : d.isRow = true) (hi : (P.info? T).map (·.size) = some n) (X : Array Value) (o : Nat) (w : World) : (part T X o).run P w = .ok (.agg (piece X o n)) w := by
  cases hq : P.info? T with
  | none => simp [hq] at hi
  | some f =>
    have hs : f.size = n := by simpa [hq] using hi
    have ha : (isAgg T).run P w = .ok true w := by
      unfold isAgg
      simp only [Sem.run_bind, run_underlying hu, Result.andThen_ok]
      cases d <;> first | rfl | (cases hd; done)
    simp [part, sizeOf, typeInfo, hq, hs, ha, piece]
theorem part_cell (hu : P.underlying T = some d) (hd : d.isRow = false) (hi : (P.info? T).map (·.size) = some 1) {X : Array Value} {o : Nat} {v : Value} (h : X[o]? = some v) (w : World) : (part T X o).run P w = .ok v w := by
  cases hq : P.info? T with
  | none => simp [hq] at hi
  | some f =>
    have hs : f.size = 1 := by simpa [hq] using hi
    have ha : (isAgg T).run P w = .ok false w := by
      unfold isAgg
      simp only [Sem.run_bind, run_underlying hu, Result.andThen_ok]
      cases d <;> first | rfl | (cases hd; done)
    simp [part, sizeOf, typeInfo, hq, hs, ha, h]
theorem eqFields_run {P : Program} {d : Nat} {xs ys : Array Value} : ∀ {fs : List Field} {L : List (TypeId × Nat × Bool)}, fs.map (fun f => (f.name != "_", f.type, f.offset)) = L.map (fun x => (true, x.1, x.2.1)) →
    (∀ x ∈ L, ∃ a b, (∀ w, (part x.1 xs x.2.1).run P w = .ok a w) ∧ (∀ w, (part x.1 ys x.2.1).run P w = .ok b w) ∧ ∀ w, (Op.equalIn d x.1 a b).run P w = .ok x.2.2 w) →
    ∀ w, (Op.eqFields d xs ys fs).run P w = .ok (L.all (·.2.2)) w
  | [], L, hm, h, w => by
    cases L with
    | nil => simp [Op.eqFields]
    | cons x L => simp at hm
  | f :: fs, L, hm, h, w => by
    cases L with
    | nil => simp at hm
    | cons x L =>
      simp only [List.map_cons, List.cons.injEq, Prod.mk.injEq] at hm
      obtain ⟨⟨h1, h2, h3⟩, h4⟩ := hm
      obtain ⟨a, b, ha, hb, he⟩ := h x (by simp)
      have hn : f.name ≠ "_" := by simpa using h1
      have ih := eqFields_run (P := P) (d := d) (xs := xs) (ys := ys) h4 (fun y hy => h y (by simp [hy])) w
      simp only [Op.eqFields, if_pos hn, Sem.run_bind, h2, h3, ha, hb, he, Result.andThen_ok, Sem.run_ite, List.all_cons]
      cases x.2.2
      · simp
      · simp [ih]
theorem eq_struct {d : Nat} {t : TypeId} {xs ys : Array Value} {L : List (TypeId × Nat × Bool)} {b : Bool} (ht : P.underlying t = some (.struct (P.fieldsOf t))) (hp : P.stoodInHeld t = false)
    (hm : (P.fieldsOf t).toList.map (fun f => (f.name != "_", f.type, f.offset)) = L.map (fun x => (true, x.1, x.2.1)))
    (h : ∀ x ∈ L, ∃ a b, (∀ w, (part x.1 xs x.2.1).run P w = .ok a w) ∧ (∀ w, (part x.1 ys x.2.1).run P w = .ok b w) ∧ ∀ w, (Op.equalIn d x.1 a b).run P w = .ok x.2.2 w) (hb : L.all (·.2.2) = b) (w : World) :
    (Op.equalIn (d + 1) t (.agg xs) (.agg ys)).run P w = .ok b w := by
  rw [run_equalIn_struct w d t xs ys ht hp, eqFields_run hm h, hb]
theorem eql_of {t : TypeId} {X Y : Array Value} {b : Bool} (h : ∀ w, (Op.equalIn 10000 t (.agg X) (.agg Y)).run P w = .ok b w) (w : World) : (binOp .eql t (.agg X) (.agg Y)).run P w = .ok (.bool b) w := by
  rw [run_eql_struct, h]; rfl
theorem neq_of {t : TypeId} {X Y : Array Value} {b : Bool} (h : ∀ w, (Op.equalIn 10000 t (.agg X) (.agg Y)).run P w = .ok b w) (w : World) : (binOp .neq t (.agg X) (.agg Y)).run P w = .ok (.bool (!b)) w := by
  rw [run_neq_struct, h]; rfl
end
/-! a field of a value -/
def fieldSem (T : TypeId) (x : Value) (i : Nat) : Sem Value := Instr.field T x i
theorem field_of {P : Program} {T : TypeId} {X : Array Value} {i : Nat} {t : TypeId} {o : Nat} {v : Value} (hT : P.underlying T = some (.struct (P.fieldsOf T))) (hf : (P.fieldsOf T)[i]?.map (fun f => (f.type, f.offset)) = some (t, o))
    (hp : ∀ w, (part t X o).run P w = .ok v w) (w : World) : (fieldSem T (.agg X) i).run P w = .ok v w := by
  cases hq : (P.fieldsOf T)[i]? with
  | none => rw [hq] at hf; simp at hf
  | some f =>
    rw [hq] at hf
    simp only [Option.map_some, Option.some.injEq, Prod.mk.injEq] at hf
    unfold fieldSem Instr.field
    simp only [Sem.run_bind, run_underlying hT, Result.andThen_ok, hq, hf.1, hf.2]
    show ((asAgg (.agg X)).run P w).andThen _ = _
    have : (asAgg (.agg X)).run P w = .ok X w := rfl
    rw [this]
    exact hp w
/-! a value built of parts -/
def buildS (T : TypeId) (parts : Array (Nat × Value)) : Sem Value := Instr.build T parts
def buildSlow (P : Program) (T : TypeId) (parts : Array (Nat × Value)) (w : World) : Result Value := (buildS T parts).run P w
def fillS (pl : Nat → Option (Nat × Nat)) (Z : Array Value) (l : List (Nat × Value)) : Option (Array Value) := Instr.fill pl Z l
def buildRes (P : Program) (T : TypeId) (parts : Array (Nat × Value)) (w : World) : Option (Array Value) → Result Value
  | some X => .ok (.agg X) w
  | none => buildSlow P T parts w
theorem buildRes_some (P : Program) (T : TypeId) (parts : Array (Nat × Value)) (w : World) (X : Array Value) : buildRes P T parts w (some X) = .ok (.agg X) w := rfl
def buildOf (P : Program) (T : TypeId) (pl : Nat → Option (Nat × Nat)) (Z : Array Value) (parts : Array (Nat × Value)) (w : World) : Result Value := buildRes P T parts w (fillS pl Z parts.toList)
theorem build_struct {P : Program} {T : TypeId} {Z : Array Value} {PL : Array (Nat × Nat)} (hT : P.underlying T = some (.struct (P.fieldsOf T))) (hz : (P.info? T).map (·.zero) = some (some (.agg Z)))
    (hpl : ∀ w, ((P.fieldsOf T).mapM fun f => (do pure (f.offset, ← sizeOf f.type) : Sem (Nat × Nat))).run P w = .ok PL w) (w : World) (parts : Array (Nat × Value)) :
    (buildS T parts).run P w = buildOf P T (fun i => PL[i]?) Z parts w := by
  unfold buildOf fillS
  cases hf : Instr.fill (fun i => PL[i]?) Z parts.toList with
  | none => rfl
  | some X =>
    cases hq : P.info? T with
    | none => simp [hq] at hz
    | some f =>
      have hzz : (zeroValue T).run P w = .ok (.agg Z) w := by
        have : f.zero = some (.agg Z) := by simpa [hq] using hz
        simp [zeroValue, typeInfo, hq, this]
      unfold buildS Instr.build
      simp only [Sem.run_bind, hzz, Result.andThen_ok, run_underlying hT, hpl, Value.cells, hf]
      rfl
def cellSet (w : World) (n i : Nat) (X : Array Value) : Option Value := (w.setRow n X).cell? ⟨n, i, none⟩
def frozenSet (w : World) (n i : Nat) (X : Array Value) : Bool := (w.setRow n X).frozen? ⟨n, i, none⟩
theorem cell_setRow (w : World) (n m i : Nat) (X : Array Value) : (w.setRow n X).cell? ⟨m, i, none⟩ = if n = m then cellSet w n i X else w.cell? ⟨m, i, none⟩ := by
  split
  · rename_i h; subst h; rfl
  · exact World.cell?_of_block (w := w) (setRow_other w n m X (fun e => absurd e.symm ‹_›))
theorem frozen_setRow (w : World) (n m i : Nat) (X : Array Value) : (w.setRow n X).frozen? ⟨m, i, none⟩ = if n = m then frozenSet w n i X else w.frozen? ⟨m, i, none⟩ := by
  split
  · rename_i h; subst h; rfl
  · exact World.frozen?_of_block (w := w) (setRow_other w n m X (fun e => absurd e.symm ‹_›))
/-! rows of structs -/
def flatV {α : Type} (V : α → Array Value) : List α → Array Value
  | [] => #[]
  | a :: l => V a ++ flatV V l
section
variable {α : Type} {V : α → Array Value} {n : Nat} (hV : ∀ a, (V a).size = n)
include hV
theorem flatV_size : ∀ l : List α, (flatV V l).size = l.length * n
  | [] => by simp [flatV]
  | a :: l => by rw [flatV, Array.size_append, hV, flatV_size l, List.length_cons, Nat.succ_mul]; omega
theorem flatV_get : ∀ (l : List α) (k : Nat) (hk : k < l.length) (j : Nat), j < n → (flatV V l)[k * n + j]? = (V l[k])[j]?
  | a :: l, 0, hk, j, hj => by
    rw [flatV, Array.getElem?_append, if_pos (by rw [hV]; omega)]
    simp
  | a :: l, k + 1, hk, j, hj => by
    rw [flatV, Array.getElem?_append, if_neg (by rw [hV, Nat.succ_mul]; omega), hV]
    have e : (k + 1) * n + j - n = k * n + j := by rw [Nat.succ_mul]; omega
    rw [e, flatV_get l k (by simpa using hk) j hj]
    simp
end
theorem flatV_append {α : Type} (V : α → Array Value) : ∀ (l m : List α), flatV V (l ++ m) = flatV V l ++ flatV V m
  | [], m => by simp [flatV]
  | a :: l, m => by rw [List.cons_append, flatV, flatV, flatV_append V l m, Array.append_assoc]
theorem flatV_one {α : Type} (V : α → Array Value) (a : α) : flatV V [a] = V a := by simp [flatV]
end Go.Proofs.YtfgacjglfdehbaaGreatDoor
/- Item as a value, as cells: its parts, equality, loads, stores, building. Printed by types.py. -/
namespace Go.Proofs.YtfgacjglfdehbaaGreatDoor
open Go.RowKit
set_option linter.unusedVariables false
structure Item where
  rep : Int
  num : Int
def IV (x : Item) : Array Value := #[.int .i64 x.rep, .int .i64 x.num]
def noItem : Item := ⟨0, 0⟩
section
variable (x y : Item)
theorem TItem_size : (IV x).size = 2 := rfl
theorem TItem_one : allOne (IV x) = true := by simp [allOne, IV, Value.oneCell']
theorem TItem_piece : piece (IV x) 0 2 = IV x := piece_all _ _ rfl
theorem TItem_c0 : (IV x)[0]? = some (.int .i64 x.rep) := rfl
theorem TItem_c1 : (IV x)[1]? = some (.int .i64 x.num) := rfl
theorem TItem_set_rep (v : Int) : (IV x).setIfInBounds 0 (.int .i64 v) = IV { x with rep := v } := rfl
theorem TItem_set_num (v : Int) : (IV x).setIfInBounds 1 (.int .i64 v) = IV { x with num := v } := rfl
theorem TItem_cat : IV x = #[.int .i64 x.rep] ++ #[.int .i64 x.num] := by kernel_rfl
theorem TItem_ext : IV x = IV y ↔ x.rep = y.rep ∧ x.num = y.num := by
  constructor
  · intro h
    refine ⟨?_, ?_⟩
    · have := congrArg (·[0]?) h; simpa [TItem_c0, TItem_size] using this
    · have := congrArg (·[1]?) h; simpa [TItem_c1, TItem_size] using this
  · rintro ⟨h0, h1⟩
    rw [TItem_cat x, TItem_cat y, h0, h1]
end
theorem TItem_und : Tryz.prog.underlying 32 = some (.struct (Tryz.prog.fieldsOf 32)) := by kernel_rfl
theorem TItem_eq (d : Nat) (x y : Item) (w : World) : (Op.equalIn (d + 2) 32 (.agg (IV x)) (.agg (IV y))).run Tryz.prog w = .ok (eqA (IV x) (IV y)) w := by
  refine eq_struct (d := d + 1) (L := [(3, 0, x.rep == y.rep), (3, 1, x.num == y.num)]) TItem_und (by kernel_rfl) (by kernel_rfl) ?_ ?_ w
  · simp only [List.forall_mem_cons]
    exact ⟨⟨_, _, part_cell Tryz.underlying3 rfl (by kernel_rfl) (TItem_c0 x), part_cell Tryz.underlying3 rfl (by kernel_rfl) (TItem_c0 y), fun w => run_equalIn_int w (d + 0) _ _ _ _ _ Tryz.underlying3⟩, ⟨_, _, part_cell Tryz.underlying3 rfl (by kernel_rfl) (TItem_c1 x), part_cell Tryz.underlying3 rfl (by kernel_rfl) (TItem_c1 y), fun w => run_equalIn_int w (d + 0) _ _ _ _ _ Tryz.underlying3⟩, by simp⟩
  · refine eqA_of ?_
    rw [TItem_ext]
    simp
theorem TItem_eql (x y : Item) (w : World) : (binOp .eql 32 (.agg (IV x)) (.agg (IV y))).run Tryz.prog w = .ok (.bool (eqA (IV x) (IV y))) w := eql_of (TItem_eq 9998 x y) w
theorem TItem_neq (x y : Item) (w : World) : (binOp .neq 32 (.agg (IV x)) (.agg (IV y))).run Tryz.prog w = .ok (.bool (!eqA (IV x) (IV y))) w := neq_of (TItem_eq 9998 x y) w
theorem TItem_ld0 (v : Value) : Instr.loadAt 32 v = loadSem 32 v := rfl
theorem TItem_st0 (v u : Value) : Instr.storeAt 32 v u = storeSem 32 v u := rfl
theorem TItem_fd0 (x : Value) (i : Nat) : Instr.field 32 x i = fieldSem 32 x i := rfl
theorem TItem_bd0 (p : Array (Nat × Value)) : Instr.build 32 p = buildS 32 p := rfl
theorem TItem_ld (w : World) (v : Value) : (loadSem 32 v).run Tryz.prog w = loadVal Tryz.prog 32 2 w v := load_val TItem_und rfl (by kernel_rfl) w v
theorem TItem_st (w : World) (v u : Value) : (storeSem 32 v u).run Tryz.prog w = storeVal Tryz.prog 32 2 w v u := store_val (by kernel_rfl) w v u
theorem TItem_f_rep (x : Item) (w : World) : (fieldSem 32 (.agg (IV x)) 0).run Tryz.prog w = .ok (.int .i64 x.rep) w := field_of TItem_und (by kernel_rfl) (part_cell Tryz.underlying3 rfl (by kernel_rfl) (TItem_c0 x)) w
theorem TItem_f_num (x : Item) (w : World) : (fieldSem 32 (.agg (IV x)) 1).run Tryz.prog w = .ok (.int .i64 x.num) w := field_of TItem_und (by kernel_rfl) (part_cell Tryz.underlying3 rfl (by kernel_rfl) (TItem_c1 x)) w
def TItem_pl : Nat → Option (Nat × Nat) := fun i => (#[(0, 1), (1, 1)] : Array (Nat × Nat))[i]?
theorem TItem_bd (w : World) (p : Array (Nat × Value)) : (buildS 32 p).run Tryz.prog w = buildOf Tryz.prog 32 TItem_pl (IV noItem) p w := build_struct TItem_und (by kernel_rfl) (fun w => by kernel_rfl) w p
theorem TItem_fl (X : Array Value) : fillS TItem_pl X [] = some X := rfl
theorem TItem_fl_rep (x : Item) (v : Int) (r : List (Nat × Value)) : fillS TItem_pl (IV x) ((0, .int .i64 v) :: r) = fillS TItem_pl (IV { x with rep := v }) r := rfl
theorem TItem_fl_num (x : Item) (v : Int) (r : List (Nat × Value)) : fillS TItem_pl (IV x) ((1, .int .i64 v) :: r) = fillS TItem_pl (IV { x with num := v }) r := rfl
theorem TItem_ret {fn : Func} {R : Ending → World → Prop} {a : Act} {w : World} {p : Tmp} (x : Item) {g : Nat} (hr : fn.results = #[.cell p 32]) (hp : a.tmps.getD p undef = .pointer (some ⟨g, 0, none⟩)) (hdf : a.defers = []) (hrow : row? w g = some (IV x)) (hR : R (.returned (.agg (IV x))) w) : bodyPost Tryz.prog fn R .ret a w :=
  ret_row (IV x) TItem_und rfl (by kernel_rfl) hr hp hdf (TItem_size x) hrow hR
end Go.Proofs.YtfgacjglfdehbaaGreatDoor
/- Ballot as a value, as cells: its parts, equality, loads, stores, building. Printed by types.py. -/
namespace Go.Proofs.YtfgacjglfdehbaaGreatDoor
open Go.RowKit
set_option linter.unusedVariables false
structure Ballot where
  round : Int
  rep : Int
def BV (x : Ballot) : Array Value := #[.int .i64 x.round, .int .i64 x.rep]
def noBallot : Ballot := ⟨0, 0⟩
section
variable (x y : Ballot)
theorem TBallot_size : (BV x).size = 2 := rfl
theorem TBallot_one : allOne (BV x) = true := by simp [allOne, BV, Value.oneCell']
theorem TBallot_piece : piece (BV x) 0 2 = BV x := piece_all _ _ rfl
theorem TBallot_c0 : (BV x)[0]? = some (.int .i64 x.round) := rfl
theorem TBallot_c1 : (BV x)[1]? = some (.int .i64 x.rep) := rfl
theorem TBallot_set_round (v : Int) : (BV x).setIfInBounds 0 (.int .i64 v) = BV { x with round := v } := rfl
theorem TBallot_set_rep (v : Int) : (BV x).setIfInBounds 1 (.int .i64 v) = BV { x with rep := v } := rfl
theorem TBallot_cat : BV x = #[.int .i64 x.round] ++ #[.int .i64 x.rep] := by kernel_rfl
theorem TBallot_ext : BV x = BV y ↔ x.round = y.round ∧ x.rep = y.rep := by
  constructor
  · intro h
    refine ⟨?_, ?_⟩
    · have := congrArg (·[0]?) h; simpa [TBallot_c0, TBallot_size] using this
    · have := congrArg (·[1]?) h; simpa [TBallot_c1, TBallot_size] using this
  · rintro ⟨h0, h1⟩
    rw [TBallot_cat x, TBallot_cat y, h0, h1]
end
theorem TBallot_und : Tryz.prog.underlying 34 = some (.struct (Tryz.prog.fieldsOf 34)) := by kernel_rfl
theorem TBallot_eq (d : Nat) (x y : Ballot) (w : World) : (Op.equalIn (d + 2) 34 (.agg (BV x)) (.agg (BV y))).run Tryz.prog w = .ok (eqA (BV x) (BV y)) w := by
  refine eq_struct (d := d + 1) (L := [(3, 0, x.round == y.round), (3, 1, x.rep == y.rep)]) TBallot_und (by kernel_rfl) (by kernel_rfl) ?_ ?_ w
  · simp only [List.forall_mem_cons]
    exact ⟨⟨_, _, part_cell Tryz.underlying3 rfl (by kernel_rfl) (TBallot_c0 x), part_cell Tryz.underlying3 rfl (by kernel_rfl) (TBallot_c0 y), fun w => run_equalIn_int w (d + 0) _ _ _ _ _ Tryz.underlying3⟩, ⟨_, _, part_cell Tryz.underlying3 rfl (by kernel_rfl) (TBallot_c1 x), part_cell Tryz.underlying3 rfl (by kernel_rfl) (TBallot_c1 y), fun w => run_equalIn_int w (d + 0) _ _ _ _ _ Tryz.underlying3⟩, by simp⟩
  · refine eqA_of ?_
    rw [TBallot_ext]
    simp
theorem TBallot_eql (x y : Ballot) (w : World) : (binOp .eql 34 (.agg (BV x)) (.agg (BV y))).run Tryz.prog w = .ok (.bool (eqA (BV x) (BV y))) w := eql_of (TBallot_eq 9998 x y) w
theorem TBallot_neq (x y : Ballot) (w : World) : (binOp .neq 34 (.agg (BV x)) (.agg (BV y))).run Tryz.prog w = .ok (.bool (!eqA (BV x) (BV y))) w := neq_of (TBallot_eq 9998 x y) w
theorem TBallot_ld0 (v : Value) : Instr.loadAt 34 v = loadSem 34 v := rfl
theorem TBallot_st0 (v u : Value) : Instr.storeAt 34 v u = storeSem 34 v u := rfl
theorem TBallot_fd0 (x : Value) (i : Nat) : Instr.field 34 x i = fieldSem 34 x i := rfl
theorem TBallot_bd0 (p : Array (Nat × Value)) : Instr.build 34 p = buildS 34 p := rfl
theorem TBallot_ld (w : World) (v : Value) : (loadSem 34 v).run Tryz.prog w = loadVal Tryz.prog 34 2 w v := load_val TBallot_und rfl (by kernel_rfl) w v
theorem TBallot_st (w : World) (v u : Value) : (storeSem 34 v u).run Tryz.prog w = storeVal Tryz.prog 34 2 w v u := store_val (by kernel_rfl) w v u
theorem TBallot_f_round (x : Ballot) (w : World) : (fieldSem 34 (.agg (BV x)) 0).run Tryz.prog w = .ok (.int .i64 x.round) w := field_of TBallot_und (by kernel_rfl) (part_cell Tryz.underlying3 rfl (by kernel_rfl) (TBallot_c0 x)) w
theorem TBallot_f_rep (x : Ballot) (w : World) : (fieldSem 34 (.agg (BV x)) 1).run Tryz.prog w = .ok (.int .i64 x.rep) w := field_of TBallot_und (by kernel_rfl) (part_cell Tryz.underlying3 rfl (by kernel_rfl) (TBallot_c1 x)) w
def TBallot_pl : Nat → Option (Nat × Nat) := fun i => (#[(0, 1), (1, 1)] : Array (Nat × Nat))[i]?
theorem TBallot_bd (w : World) (p : Array (Nat × Value)) : (buildS 34 p).run Tryz.prog w = buildOf Tryz.prog 34 TBallot_pl (BV noBallot) p w := build_struct TBallot_und (by kernel_rfl) (fun w => by kernel_rfl) w p
theorem TBallot_fl (X : Array Value) : fillS TBallot_pl X [] = some X := rfl
theorem TBallot_fl_round (x : Ballot) (v : Int) (r : List (Nat × Value)) : fillS TBallot_pl (BV x) ((0, .int .i64 v) :: r) = fillS TBallot_pl (BV { x with round := v }) r := rfl
theorem TBallot_fl_rep (x : Ballot) (v : Int) (r : List (Nat × Value)) : fillS TBallot_pl (BV x) ((1, .int .i64 v) :: r) = fillS TBallot_pl (BV { x with rep := v }) r := rfl
theorem TBallot_ret {fn : Func} {R : Ending → World → Prop} {a : Act} {w : World} {p : Tmp} (x : Ballot) {g : Nat} (hr : fn.results = #[.cell p 34]) (hp : a.tmps.getD p undef = .pointer (some ⟨g, 0, none⟩)) (hdf : a.defers = []) (hrow : row? w g = some (BV x)) (hR : R (.returned (.agg (BV x))) w) : bodyPost Tryz.prog fn R .ret a w :=
  ret_row (BV x) TBallot_und rfl (by kernel_rfl) hr hp hdf (TBallot_size x) hrow hR
end Go.Proofs.YtfgacjglfdehbaaGreatDoor
/- Layer 5, first part: a row of numbers, an item, as values; With and Has, and the document's Has: what each call answers. -/
namespace Go.Proofs.YtfgacjglfdehbaaGreatDoor
open Go.RowKit
/-- a row as a value -/
def DV (d : Nat → Int) : Array Value := #[.int .i64 (d 0), .int .i64 (d 1), .int .i64 (d 2), .int .i64 (d 3), .int .i64 (d 4), .int .i64 (d 5), .int .i64 (d 6)]
theorem DV_size (d : Nat → Int) : (DV d).size = 7 := rfl
theorem DV_piece (d : Nat → Int) : piece (DV d) 0 7 = DV d := piece_all _ _ rfl
theorem DV_one (d : Nat → Int) : allOne (DV d) = true := by simp [allOne, DV, Value.oneCell']
theorem DV_get (d : Nat → Int) (i : Nat) (h : i < 7) : (DV d)[i]? = some (.int .i64 (d i)) := by
  match i, h with
  | 0, _ => rfl
  | 1, _ => rfl
  | 2, _ => rfl
  | 3, _ => rfl
  | 4, _ => rfl
  | 5, _ => rfl
  | 6, _ => rfl
def upd (d : Nat → Int) (i : Nat) (v : Int) : Nat → Int := fun j => if j = i then v else d j
theorem DV_set (d : Nat → Int) (i : Nat) (v : Int) : (DV d).setIfInBounds i (.int .i64 v) = DV (upd d i v) := by
  apply Array.ext_getElem?
  intro j
  rw [Array.getElem?_setIfInBounds, DV_size]
  by_cases hj : j < 7
  · rw [DV_get _ j hj, DV_get _ j hj]
    by_cases h : i = j
    · subst h; simp [hj, upd]
    · have h' : ¬ j = i := fun e => h e.symm
      simp [h, h', upd]
  · have h1 : ∀ d : Nat → Int, (DV d)[j]? = none := fun d => Array.getElem?_eq_none (by rw [DV_size]; omega)
    rw [h1, h1]
    split <;> simp_all
theorem DV_congr {d e : Nat → Int} (h : ∀ i, i < 7 → d i = e i) : DV d = DV e := by
  simp only [DV, h 0 (by omega), h 1 (by omega), h 2 (by omega), h 3 (by omega), h 4 (by omega), h 5 (by omega), h 6 (by omega)]
theorem DV_inj {d e : Nat → Int} (h : DV d = DV e) : ∀ i, i < 7 → d i = e i := fun i hi => by
  have := congrArg (·[i]?) h
  simp only [DV_get _ i hi, Option.some.injEq, Value.int.injEq, true_and] at this
  exact this
theorem load_deps0 (v : Value) : Instr.loadAt 38 v = loadSem 38 v := rfl
theorem store_deps0 (v u : Value) : Instr.storeAt 38 v u = storeSem 38 v u := rfl
theorem load_deps (w : World) (v : Value) : (loadSem 38 v).run Tryz.prog w = loadVal Tryz.prog 38 7 w v :=
  load_val Tryz.underlying38 rfl (by kernel_rfl) w v
theorem store_deps (w : World) (v u : Value) : (storeSem 38 v u).run Tryz.prog w = storeVal Tryz.prog 38 7 w v u :=
  store_val (by kernel_rfl) w v u
theorem ret_deps {fn : Func} {R : Ending → World → Prop} {a : Act} {w : World} {p : Tmp} (d : Nat → Int) {g : Nat} (hr : fn.results = #[.cell p 38]) (hp : a.tmps.getD p undef = .pointer (some ⟨g, 0, none⟩)) (hdf : a.defers = [])
    (hrow : row? w g = some (DV d)) (hR : R (.returned (.agg (DV d))) w) : bodyPost Tryz.prog fn R .ret a w :=
  ret_row (DV d) Tryz.underlying38 rfl (by kernel_rfl) hr hp hdf (DV_size d) hrow hR
theorem index_deps0 (x i : Value) : Instr.index 38 x i = indexSem 38 x i := rfl
theorem index_deps (w : World) (d : Nat → Int) (i : Int) : (indexSem 38 (.agg (DV d)) (.int .i64 i)).run Tryz.prog w = if 0 ≤ i ∧ i < 7 then .ok (.int .i64 (d i.toNat)) w else indexSlow Tryz.prog 38 (DV d) i w := by
  split
  · rename_i h
    exact index_row Tryz.underlying38 Tryz.underlying3 rfl (by kernel_rfl) w (DV d) i _ h.1 h.2 (DV_get d _ (by omega))
  · rfl
end Go.Proofs.YtfgacjglfdehbaaGreatDoor
/- A row of numbers as a value: equality, loads, stores, building. -/
namespace Go.Proofs.YtfgacjglfdehbaaGreatDoor
open Go.RowKit
set_option linter.unusedVariables false
set_option maxRecDepth 20000
theorem TDeps_ext (x y : Nat → Int) : DV x = DV y ↔ ∀ i, i < 7 → x i = y i := ⟨DV_inj, DV_congr⟩
theorem TDeps_eq (d : Nat) (a b : Nat → Int) (w : World) : (Op.equalIn (d + 2) 38 (.agg (DV a)) (.agg (DV b))).run Tryz.prog w = .ok (eqA (DV a) (DV b)) w := by
  obtain ⟨i, hi, hz⟩ : ∃ i, Tryz.prog.info? 3 = some i ∧ i.size = 1 := by
    have h : (Tryz.prog.info? 3).map (·.size) = some 1 := by kernel_rfl
    cases hq : Tryz.prog.info? 3 with
    | none => rw [hq] at h; cases h
    | some i => rw [hq] at h; exact ⟨i, rfl, by simpa using h⟩
  have hC : Tryz.prog.cellsOf 3 = 1 := by kernel_rfl
  rw [run_equalIn_array w (d + 1) (DV a) (DV b) Tryz.underlying38 hi, hC]
  have key : ∀ is : List Nat, (∀ i ∈ is, i < 7) → (Op.eqItems (d + 1) 3 1 (DV a) (DV b) is).run Tryz.prog w = .ok (is.all fun i => a i == b i) w := by
    intro is
    induction is with
    | nil => intro _; rfl
    | cons i is ih =>
      intro h
      have hi7 := h i (by simp)
      have ha : (isAgg 3).run Tryz.prog w = .ok false w := by
        unfold isAgg
        simp only [Sem.run_bind, run_underlying Tryz.underlying3, Result.andThen_ok]
        rfl
      have p1 : ∀ d : Nat → Int, (part 3 (DV d) (i * 1)).run Tryz.prog w = .ok (.int .i64 (d i)) w := fun d => by
        simp [part, ha, DV_get d i hi7]
      have e1 : (Op.equalIn (d + 1) 3 (.int .i64 (a i)) (.int .i64 (b i))).run Tryz.prog w = .ok (a i == b i) w := run_equalIn_int w d _ .i64 .i64 _ _ Tryz.underlying3
      simp only [Op.eqItems, Sem.run_bind, p1, e1, Result.andThen_ok, List.all_cons]
      cases hb : (a i == b i)
      · simp
      · simp only [Bool.not_true, Bool.false_eq_true, if_false, Bool.true_and]
        exact ih fun j hj => h j (by simp [hj])
  rw [key _ (fun i hi => by simpa using hi)]
  congr 1
  refine eqA_of ?_
  rw [TDeps_ext]
  simp [List.all_eq_true]
theorem TDeps_eql (x y : Nat → Int) (w : World) : (binOp .eql 38 (.agg (DV x)) (.agg (DV y))).run Tryz.prog w = .ok (.bool (eqA (DV x) (DV y))) w := eql_of (TDeps_eq 9998 x y) w
theorem TDeps_neq (x y : Nat → Int) (w : World) : (binOp .neq 38 (.agg (DV x)) (.agg (DV y))).run Tryz.prog w = .ok (.bool (!eqA (DV x) (DV y))) w := neq_of (TDeps_eq 9998 x y) w
end Go.Proofs.YtfgacjglfdehbaaGreatDoor
/- Layer 4: a deed as a value; its fields. -/
namespace Go.Proofs.YtfgacjglfdehbaaGreatDoor
open Go.RowKit
structure Deed where
  kind : Int
  key : ByteArray
  val : ByteArray
  ver : Int
  ses : Int
  num : Int
/-- a deed as a value -/
def EV (d : Deed) : Array Value := #[.int .i64 d.kind, .string d.key, .string d.val, .int .i64 d.ver, .int .i64 d.ses, .int .i64 d.num]
section
variable (d : Deed)
theorem EV_size : (EV d).size = 6 := rfl
theorem EV_piece : piece (EV d) 0 6 = EV d := piece_all _ _ rfl
theorem EV_one : allOne (EV d) = true := by simp [allOne, EV, Value.oneCell']
theorem EV_0 : (EV d)[0]? = some (.int .i64 d.kind) := rfl
theorem EV_1 : (EV d)[1]? = some (.string d.key) := rfl
theorem EV_2 : (EV d)[2]? = some (.string d.val) := rfl
theorem EV_3 : (EV d)[3]? = some (.int .i64 d.ver) := rfl
theorem EV_4 : (EV d)[4]? = some (.int .i64 d.ses) := rfl
theorem EV_5 : (EV d)[5]? = some (.int .i64 d.num) := rfl
end
theorem load_deed0 (v : Value) : Instr.loadAt 36 v = loadSem 36 v := rfl
theorem store_deed0 (v u : Value) : Instr.storeAt 36 v u = storeSem 36 v u := rfl
theorem load_deed (w : World) (v : Value) : (loadSem 36 v).run Tryz.prog w = loadVal Tryz.prog 36 6 w v :=
  load_val Tryz.underlying36 rfl (by kernel_rfl) w v
theorem store_deed (w : World) (v u : Value) : (storeSem 36 v u).run Tryz.prog w = storeVal Tryz.prog 36 6 w v u :=
  store_val (by kernel_rfl) w v u
end Go.Proofs.YtfgacjglfdehbaaGreatDoor

namespace Go.Proofs.YtfgacjglfdehbaaGreatDoor
open Go.RowKit
attribute [local go_sem] row_alloc row_drew row_drewN row_ext row_setCell row_setRow size_ext setRow_alloc setRow_drew loadOf storeOf piece_lit loadVal_at storeVal_at allOne_lit EV_size EV_one EV_piece EV_0 EV_1 EV_2 EV_3 EV_4 EV_5
attribute [local go_sem high] cell_alloc frozen_alloc setCell_alloc cell_ext frozen_ext
attribute [local go_sem ↓] load_deed0 store_deed0
attribute [local go_sem] load_deed store_deed
theorem tl_nil (s : ByteArray) : s.toList = [] ↔ s.size = 0 := by
  rw [ByteArray.toList_eq, ← List.length_eq_zero_iff, Array.length_toList]; exact Iff.rfl
theorem bbT (a b : Int) : ((!(a == 0) == (b == 0)) = true) ↔ (a = 0 ↔ ¬ b = 0) := by
  by_cases h1 : a = 0
  · by_cases h2 : b = 0
    · simp [h1, h2]
    · have e2 : (b == 0) = false := by simpa using h2
      simp [h1, e2, h2]
  · have e1 : (a == 0) = false := by simpa using h1
    by_cases h2 : b = 0
    · simp [e1, h1, h2]
    · have e2 : (b == 0) = false := by simpa using h2
      simp [e1, e2, h1, h2]
theorem bbF (a b : Int) : ((!(a == 0) == (b == 0)) = false) ↔ (a = 0 ↔ b = 0) := by
  rw [← Bool.not_eq_true, bbT]
  constructor <;> intro h <;> omega
def Kinds (d : Deed) : Prop := (d.kind = 0 ∧ d.val.size = 0 ∧ d.ver = 0 ∧ d.key.size = 0 ∧ d.ses = 0) ∨ ((d.kind = 1 ∨ d.kind = 4) ∧ d.val.size = 0 ∧ d.ver = 0 ∧ ¬ d.key.size = 0) ∨
  (d.kind = 2 ∧ ¬ d.key.size = 0 ∧ d.ver = 0) ∨ (d.kind = 3 ∧ ¬ d.key.size = 0) ∨ (d.kind = 5 ∧ d.val.size = 0 ∧ d.ver = 0)
instance (d : Deed) : Decidable (Kinds d) := by unfold Kinds; exact inferInstance
def goodB (d : Deed) : Bool := decide (0 ≤ d.ses ∧ d.ses ≤ 1099511627776 ∧ 0 ≤ d.num ∧ d.num ≤ 1099511627776 ∧ (d.ses = 0 ↔ d.num = 0) ∧ d.key.size ≤ 16 ∧ d.val.size ≤ 32 ∧ 0 ≤ d.ver ∧ d.ver ≤ 1099511627776 ∧ Kinds d)
set_option maxHeartbeats 2000000 in
theorem good4_any (d : Deed) : Ans Tryz.prog 68 #[.agg (EV d)] (.bool (goodB d)) := by
  intro w
  go_enter Tryz.func68, Tryz.ntmps68
  go_wp2
  all_goals go_ret
  all_goals refine ⟨congrArg (fun b => Ending.returned (.bool b)) ?_, (Below.refl _ _).alloc (Nat.le_refl _) _⟩
  all_goals unfold goodB Kinds
  all_goals (try simp only [tl_nil, bbT, bbF, beq_iff_eq, beq_eq_false_iff_ne, ne_eq] at *)
  all_goals first
    | exact (decide_eq_false (by omega)).symm
    | exact (decide_eq_true (by omega)).symm
    | (rw [Bool.eq_iff_iff, decide_eq_true_eq]; simp only [Bool.and_eq_true, Bool.not_eq_true', List.isEmpty_eq_false_iff, ne_eq, tl_nil, beq_iff_eq]; constructor <;> intro h <;> omega)
end Go.Proofs.YtfgacjglfdehbaaGreatDoor

namespace Go.Proofs.YtfgacjglfdehbaaGreatDoor
open Go.RowKit
attribute [local go_sem] row_alloc row_drew row_drewN row_ext row_setCell row_setRow size_ext setRow_alloc setRow_drew loadOf storeOf piece_lit loadVal_at storeVal_at allOne_lit EV_size EV_one EV_piece EV_0 EV_1 EV_2 EV_3 EV_4 EV_5
attribute [local go_sem high] cell_alloc frozen_alloc setCell_alloc cell_ext frozen_ext
attribute [local go_sem ↓] load_deed0 store_deed0
attribute [local go_sem] load_deed store_deed

def noDeed : Deed := ⟨0, ByteArray.empty, ByteArray.empty, 0, 0, 0⟩
def eqE (a b : Deed) : Bool := decide (a.kind = b.kind ∧ a.key.toList = b.key.toList ∧ a.val.toList = b.val.toList ∧ a.ver = b.ver ∧ a.ses = b.ses ∧ a.num = b.num)
theorem eqE_no (d : Deed) : eqE d noDeed = true ↔ d.kind = 0 ∧ d.key.size = 0 ∧ d.val.size = 0 ∧ d.ver = 0 ∧ d.ses = 0 ∧ d.num = 0 := by
  have e : ∀ s : ByteArray, s.toList = ByteArray.empty.toList ↔ s.size = 0 := fun s => by rw [← tl_nil]; simp [ByteArray.toList_eq]
  unfold eqE noDeed
  rw [decide_eq_true_eq, e, e]
theorem run_eql_deed (w : World) (a b : Deed) : (binOp .eql 36 (.agg (EV a)) (.agg (EV b))).run Tryz.prog w = .ok (.bool (eqE a b)) w := by
  rw [run_eql_struct]
  unfold EV eqE
  simp [go_sem]
  repeat' split
  all_goals simp_all
theorem zero_deed : #[Value.int .i64 0, Value.string ⟨#[]⟩, Value.string ⟨#[]⟩, Value.int .i64 0, Value.int .i64 0, Value.int .i64 0] = EV noDeed := rfl
attribute [local go_sem high] run_eql_deed
attribute [local go_sem] zero_deed
theorem ie_true (s : ByteArray) : s.toList.isEmpty = true ↔ s.size = 0 := by rw [List.isEmpty_iff, tl_nil]
theorem ie_false (s : ByteArray) : s.toList.isEmpty = false ↔ ¬ s.size = 0 := by rw [← ie_true, Bool.not_eq_true]
def ref3 (d : Deed) (k : Nat) : Int := if k = 0 then d.ver else if k = 1 then d.ses else d.num
set_option maxHeartbeats 4000000 in
theorem rgood4_any (d : Deed) : Ans Tryz.prog 53 #[.agg (EV d)] (.bool (goodB d)) := by
  intro w
  go_enter Tryz.func53, Tryz.ntmps53
  go_wp2
  go_loop [14] (fun i => ∃ k : Nat, k ≤ 3 ∧ i = .int .i64 k ∧ Hid (∀ j, j < k → 0 ≤ ref3 d j ∧ ref3 d j ≤ 1099511627776)) (fun i => 3 - (intOf i).toNat)
  case atStart => exact ⟨0, by omega, rfl, fun j hj => by omega⟩
  case round =>
    obtain ⟨k, hk, rfl, hG⟩ := hrel
    by_cases hlt : k < 3
    · have hno : ¬ (0 ≤ ref3 d k ∧ ref3 d k ≤ 1099511627776) → goodB d = false := by
        intro h
        unfold goodB
        refine decide_eq_false (fun hg => h ?_)
        match k, hlt with
        | 0, _ => exact ⟨hg.2.2.2.2.2.2.2.1, hg.2.2.2.2.2.2.2.2.1⟩
        | 1, _ => exact ⟨hg.1, hg.2.1⟩
        | 2, _ => exact ⟨hg.2.2.1, hg.2.2.2.1⟩
      have hk3 : k = 0 ∨ k = 1 ∨ k = 2 := by omega
      rcases hk3 with rfl | rfl | rfl
      · have Hno : Hid (¬ (0 ≤ d.ver ∧ d.ver ≤ 1099511627776) → goodB d = false) := hno
        clear hno
        go_wp2
        all_goals first
          | (go_ret
             exact ⟨congrArg (fun b => Ending.returned (.bool b)) (Hno.out (by omega)).symm, ((Below.refl _ _).alloc (Nat.le_refl _) _).alloc (by simp) _⟩)
          | (refine ⟨⟨1, by omega, by go_num, fun j hj => ?_⟩, ?_⟩
             · have hj' := hG j
               by_cases e : j = 0
               · subst e; exact ⟨by simp [ref3]; omega, by simp [ref3]; omega⟩
               · exact hj' (by omega)
             · simp [intOf])
      · have Hno : Hid (¬ (0 ≤ d.ses ∧ d.ses ≤ 1099511627776) → goodB d = false) := hno
        clear hno
        go_wp2
        all_goals first
          | (go_ret
             exact ⟨congrArg (fun b => Ending.returned (.bool b)) (Hno.out (by omega)).symm, ((Below.refl _ _).alloc (Nat.le_refl _) _).alloc (by simp) _⟩)
          | (refine ⟨⟨2, by omega, by go_num, fun j hj => ?_⟩, ?_⟩
             · have hj' := hG j
               by_cases e : j = 1
               · subst e; exact ⟨by simp [ref3]; omega, by simp [ref3]; omega⟩
               · exact hj' (by omega)
             · simp [intOf])
      · have Hno : Hid (¬ (0 ≤ d.num ∧ d.num ≤ 1099511627776) → goodB d = false) := hno
        clear hno
        go_wp2
        all_goals first
          | (go_ret
             exact ⟨congrArg (fun b => Ending.returned (.bool b)) (Hno.out (by omega)).symm, ((Below.refl _ _).alloc (Nat.le_refl _) _).alloc (by simp) _⟩)
          | (refine ⟨⟨3, by omega, by go_num, fun j hj => ?_⟩, ?_⟩
             · have hj' := hG j
               by_cases e : j = 2
               · subst e; exact ⟨by simp [ref3]; omega, by simp [ref3]; omega⟩
               · exact hj' (by omega)
             · simp [intOf])
    · obtain rfl : k = 3 := by omega
      obtain ⟨hv0, hv1⟩ := hG 0 (by omega)
      obtain ⟨hs0, hs1⟩ := hG 1 (by omega)
      obtain ⟨hn0, hn1⟩ := hG 2 (by omega)
      simp only [ref3, if_true, if_false, Nat.one_ne_zero, Nat.reduceEqDiff] at hv0 hv1 hs0 hs1 hn0 hn1
      clear hG
      go_wp2
      all_goals go_ret
      all_goals refine ⟨congrArg (fun b => Ending.returned (.bool b)) ?_, ((Below.refl _ _).alloc (Nat.le_refl _) _).alloc (by simp) _⟩
      all_goals unfold goodB Kinds
      all_goals (try simp only [beq_iff_eq, beq_eq_false_iff_ne, ne_eq] at *)
      all_goals (try simp only [tl_nil] at *)
      all_goals (try simp only [ie_true] at *)
      all_goals (try simp only [ie_false] at *)
      all_goals (try simp only [bne_eq_false_iff_eq] at *)
      all_goals (try simp only [bne_iff_ne, ne_eq] at *)
      all_goals first
        | exact (decide_eq_false (by omega)).symm
        | exact (decide_eq_true (by omega)).symm
        | (rw [Bool.eq_iff_iff, decide_eq_true_eq]; simp only [Bool.or_eq_true, List.isEmpty_iff, tl_nil, beq_iff_eq]; constructor <;> intro h <;> omega)
        | (rw [Bool.eq_iff_iff, decide_eq_true_eq, eqE_no]; constructor <;> intro h <;> omega)
end Go.Proofs.YtfgacjglfdehbaaGreatDoor
