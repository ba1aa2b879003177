/- Several texts in one. -/
import Derived.Test.YtomlilkobhkoiaaGreatDoorQ3
import Derived.Test.YtomlilkobhkoiaaGreatDoorQ1
import Derived.ChangeKeysEq
/- Letter as a value, as cells: its parts, equality, loads, stores, building. Printed by types.py. -/
namespace Go.Proofs.YtomlilkobhkoiaaGreatDoor
open Go.RowKit
set_option linter.unusedVariables false
structure Letter where
  frm : Int
  to : Int
  bytes : ByteArray
def LTV (x : Letter) : Array Value := #[.int .i64 x.frm, .int .i64 x.to, .string x.bytes]
def noLetter : Letter := ⟨0, 0, ⟨#[]⟩⟩
section
variable (x y : Letter)
theorem TLetter_size : (LTV x).size = 3 := rfl
theorem TLetter_one : allOne (LTV x) = true := by simp [allOne, LTV, Value.oneCell']
theorem TLetter_piece : piece (LTV x) 0 3 = LTV x := piece_all _ _ rfl
theorem TLetter_c0 : (LTV x)[0]? = some (.int .i64 x.frm) := rfl
theorem TLetter_c1 : (LTV x)[1]? = some (.int .i64 x.to) := rfl
theorem TLetter_c2 : (LTV x)[2]? = some (.string x.bytes) := rfl
theorem TLetter_set_frm (v : Int) : (LTV x).setIfInBounds 0 (.int .i64 v) = LTV { x with frm := v } := rfl
theorem TLetter_set_to (v : Int) : (LTV x).setIfInBounds 1 (.int .i64 v) = LTV { x with to := v } := rfl
theorem TLetter_set_bytes (v : ByteArray) : (LTV x).setIfInBounds 2 (.string v) = LTV { x with bytes := v } := rfl
theorem TLetter_cat : LTV x = #[.int .i64 x.frm] ++ #[.int .i64 x.to] ++ #[.string x.bytes] := by kernel_rfl
theorem TLetter_ext : LTV x = LTV y ↔ x.frm = y.frm ∧ x.to = y.to ∧ x.bytes = y.bytes := by
  constructor
  · intro h
    refine ⟨?_, ?_, ?_⟩
    · have := congrArg (·[0]?) h; simpa [TLetter_c0, TLetter_size] using this
    · have := congrArg (·[1]?) h; simpa [TLetter_c1, TLetter_size] using this
    · have := congrArg (·[2]?) h; simpa [TLetter_c2, TLetter_size] using this
  · rintro ⟨h0, h1, h2⟩
    rw [TLetter_cat x, TLetter_cat y, h0, h1, h2]
end
theorem TLetter_und : Tryz.prog.underlying 148 = some (.struct (Tryz.prog.fieldsOf 148)) := by kernel_rfl
theorem TLetter_eq (d : Nat) (x y : Letter) (w : World) : (Op.equalIn (d + 2) 148 (.agg (LTV x)) (.agg (LTV y))).run Tryz.prog w = .ok (eqA (LTV x) (LTV y)) w := by
  refine eq_struct (d := d + 1) (L := [(3, 0, x.frm == y.frm), (3, 1, x.to == y.to), (9, 2, x.bytes.toList == y.bytes.toList)]) TLetter_und (by kernel_rfl) (by kernel_rfl) ?_ ?_ w
  · simp only [List.forall_mem_cons]
    exact ⟨⟨_, _, part_cell Tryz.underlying3 rfl (by kernel_rfl) (TLetter_c0 x), part_cell Tryz.underlying3 rfl (by kernel_rfl) (TLetter_c0 y), fun w => run_equalIn_int w (d + 0) _ _ _ _ _ Tryz.underlying3⟩, ⟨_, _, part_cell Tryz.underlying3 rfl (by kernel_rfl) (TLetter_c1 x), part_cell Tryz.underlying3 rfl (by kernel_rfl) (TLetter_c1 y), fun w => run_equalIn_int w (d + 0) _ _ _ _ _ Tryz.underlying3⟩, ⟨_, _, part_cell Tryz.underlying9 rfl (by kernel_rfl) (TLetter_c2 x), part_cell Tryz.underlying9 rfl (by kernel_rfl) (TLetter_c2 y), fun w => run_equalIn_string w (d + 0) _ _ _ Tryz.underlying9⟩, by simp⟩
  · refine eqA_of ?_
    rw [TLetter_ext]
    simp [toList_inj_iff]
theorem TLetter_eql (x y : Letter) (w : World) : (binOp .eql 148 (.agg (LTV x)) (.agg (LTV y))).run Tryz.prog w = .ok (.bool (eqA (LTV x) (LTV y))) w := eql_of (TLetter_eq 9998 x y) w
theorem TLetter_neq (x y : Letter) (w : World) : (binOp .neq 148 (.agg (LTV x)) (.agg (LTV y))).run Tryz.prog w = .ok (.bool (!eqA (LTV x) (LTV y))) w := neq_of (TLetter_eq 9998 x y) w
theorem TLetter_ld0 (v : Value) : Instr.loadAt 148 v = loadSem 148 v := rfl
theorem TLetter_st0 (v u : Value) : Instr.storeAt 148 v u = storeSem 148 v u := rfl
theorem TLetter_fd0 (x : Value) (i : Nat) : Instr.field 148 x i = fieldSem 148 x i := rfl
theorem TLetter_bd0 (p : Array (Nat × Value)) : Instr.build 148 p = buildS 148 p := rfl
theorem TLetter_ld (w : World) (v : Value) : (loadSem 148 v).run Tryz.prog w = loadVal Tryz.prog 148 3 w v := load_val TLetter_und rfl (by kernel_rfl) w v
theorem TLetter_st (w : World) (v u : Value) : (storeSem 148 v u).run Tryz.prog w = storeVal Tryz.prog 148 3 w v u := store_val (by kernel_rfl) w v u
theorem TLetter_f_frm (x : Letter) (w : World) : (fieldSem 148 (.agg (LTV x)) 0).run Tryz.prog w = .ok (.int .i64 x.frm) w := field_of TLetter_und (by kernel_rfl) (part_cell Tryz.underlying3 rfl (by kernel_rfl) (TLetter_c0 x)) w
theorem TLetter_f_to (x : Letter) (w : World) : (fieldSem 148 (.agg (LTV x)) 1).run Tryz.prog w = .ok (.int .i64 x.to) w := field_of TLetter_und (by kernel_rfl) (part_cell Tryz.underlying3 rfl (by kernel_rfl) (TLetter_c1 x)) w
theorem TLetter_f_bytes (x : Letter) (w : World) : (fieldSem 148 (.agg (LTV x)) 2).run Tryz.prog w = .ok (.string x.bytes) w := field_of TLetter_und (by kernel_rfl) (part_cell Tryz.underlying9 rfl (by kernel_rfl) (TLetter_c2 x)) w
def TLetter_pl : Nat → Option (Nat × Nat) := fun i => (#[(0, 1), (1, 1), (2, 1)] : Array (Nat × Nat))[i]?
theorem TLetter_bd (w : World) (p : Array (Nat × Value)) : (buildS 148 p).run Tryz.prog w = buildOf Tryz.prog 148 TLetter_pl (LTV noLetter) p w := build_struct TLetter_und (by kernel_rfl) (fun w => by kernel_rfl) w p
theorem TLetter_fl (X : Array Value) : fillS TLetter_pl X [] = some X := rfl
theorem TLetter_fl_frm (x : Letter) (v : Int) (r : List (Nat × Value)) : fillS TLetter_pl (LTV x) ((0, .int .i64 v) :: r) = fillS TLetter_pl (LTV { x with frm := v }) r := rfl
theorem TLetter_fl_to (x : Letter) (v : Int) (r : List (Nat × Value)) : fillS TLetter_pl (LTV x) ((1, .int .i64 v) :: r) = fillS TLetter_pl (LTV { x with to := v }) r := rfl
theorem TLetter_fl_bytes (x : Letter) (v : ByteArray) (r : List (Nat × Value)) : fillS TLetter_pl (LTV x) ((2, .string v) :: r) = fillS TLetter_pl (LTV { x with bytes := v }) r := rfl
end Go.Proofs.YtomlilkobhkoiaaGreatDoor
/- Ballot as a value, as cells: its parts, equality, loads, stores, building. Printed by types.py. -/
namespace Go.Proofs.YtomlilkobhkoiaaGreatDoor
open Go.RowKit
set_option linter.unusedVariables false
structure Ballot where
  round : Int
  rep : Int
def BV (x : Ballot) : Array Value := #[.int .i64 x.round, .int .i64 x.rep]
def noBallot : Ballot := ⟨0, 0⟩
section
variable (x y : Ballot)
theorem TBallot_size : (BV x).size = 2 := rfl
theorem TBallot_one : allOne (BV x) = true := by simp [allOne, BV, Value.oneCell']
theorem TBallot_piece : piece (BV x) 0 2 = BV x := piece_all _ _ rfl
theorem TBallot_c0 : (BV x)[0]? = some (.int .i64 x.round) := rfl
theorem TBallot_c1 : (BV x)[1]? = some (.int .i64 x.rep) := rfl
theorem TBallot_set_round (v : Int) : (BV x).setIfInBounds 0 (.int .i64 v) = BV { x with round := v } := rfl
theorem TBallot_set_rep (v : Int) : (BV x).setIfInBounds 1 (.int .i64 v) = BV { x with rep := v } := rfl
theorem TBallot_cat : BV x = #[.int .i64 x.round] ++ #[.int .i64 x.rep] := by kernel_rfl
theorem TBallot_ext : BV x = BV y ↔ x.round = y.round ∧ x.rep = y.rep := by
  constructor
  · intro h
    refine ⟨?_, ?_⟩
    · have := congrArg (·[0]?) h; simpa [TBallot_c0, TBallot_size] using this
    · have := congrArg (·[1]?) h; simpa [TBallot_c1, TBallot_size] using this
  · rintro ⟨h0, h1⟩
    rw [TBallot_cat x, TBallot_cat y, h0, h1]
end
theorem TBallot_und : Tryz.prog.underlying 64 = some (.struct (Tryz.prog.fieldsOf 64)) := by kernel_rfl
theorem TBallot_eq (d : Nat) (x y : Ballot) (w : World) : (Op.equalIn (d + 2) 64 (.agg (BV x)) (.agg (BV y))).run Tryz.prog w = .ok (eqA (BV x) (BV y)) w := by
  refine eq_struct (d := d + 1) (L := [(3, 0, x.round == y.round), (3, 1, x.rep == y.rep)]) TBallot_und (by kernel_rfl) (by kernel_rfl) ?_ ?_ w
  · simp only [List.forall_mem_cons]
    exact ⟨⟨_, _, part_cell Tryz.underlying3 rfl (by kernel_rfl) (TBallot_c0 x), part_cell Tryz.underlying3 rfl (by kernel_rfl) (TBallot_c0 y), fun w => run_equalIn_int w (d + 0) _ _ _ _ _ Tryz.underlying3⟩, ⟨_, _, part_cell Tryz.underlying3 rfl (by kernel_rfl) (TBallot_c1 x), part_cell Tryz.underlying3 rfl (by kernel_rfl) (TBallot_c1 y), fun w => run_equalIn_int w (d + 0) _ _ _ _ _ Tryz.underlying3⟩, by simp⟩
  · refine eqA_of ?_
    rw [TBallot_ext]
    simp
theorem TBallot_eql (x y : Ballot) (w : World) : (binOp .eql 64 (.agg (BV x)) (.agg (BV y))).run Tryz.prog w = .ok (.bool (eqA (BV x) (BV y))) w := eql_of (TBallot_eq 9998 x y) w
theorem TBallot_neq (x y : Ballot) (w : World) : (binOp .neq 64 (.agg (BV x)) (.agg (BV y))).run Tryz.prog w = .ok (.bool (!eqA (BV x) (BV y))) w := neq_of (TBallot_eq 9998 x y) w
theorem TBallot_ld0 (v : Value) : Instr.loadAt 64 v = loadSem 64 v := rfl
theorem TBallot_st0 (v u : Value) : Instr.storeAt 64 v u = storeSem 64 v u := rfl
theorem TBallot_fd0 (x : Value) (i : Nat) : Instr.field 64 x i = fieldSem 64 x i := rfl
theorem TBallot_bd0 (p : Array (Nat × Value)) : Instr.build 64 p = buildS 64 p := rfl
theorem TBallot_ld (w : World) (v : Value) : (loadSem 64 v).run Tryz.prog w = loadVal Tryz.prog 64 2 w v := load_val TBallot_und rfl (by kernel_rfl) w v
theorem TBallot_st (w : World) (v u : Value) : (storeSem 64 v u).run Tryz.prog w = storeVal Tryz.prog 64 2 w v u := store_val (by kernel_rfl) w v u
theorem TBallot_f_round (x : Ballot) (w : World) : (fieldSem 64 (.agg (BV x)) 0).run Tryz.prog w = .ok (.int .i64 x.round) w := field_of TBallot_und (by kernel_rfl) (part_cell Tryz.underlying3 rfl (by kernel_rfl) (TBallot_c0 x)) w
theorem TBallot_f_rep (x : Ballot) (w : World) : (fieldSem 64 (.agg (BV x)) 1).run Tryz.prog w = .ok (.int .i64 x.rep) w := field_of TBallot_und (by kernel_rfl) (part_cell Tryz.underlying3 rfl (by kernel_rfl) (TBallot_c1 x)) w
def TBallot_pl : Nat → Option (Nat × Nat) := fun i => (#[(0, 1), (1, 1)] : Array (Nat × Nat))[i]?
theorem TBallot_bd (w : World) (p : Array (Nat × Value)) : (buildS 64 p).run Tryz.prog w = buildOf Tryz.prog 64 TBallot_pl (BV noBallot) p w := build_struct TBallot_und (by kernel_rfl) (fun w => by kernel_rfl) w p
theorem TBallot_fl (X : Array Value) : fillS TBallot_pl X [] = some X := rfl
theorem TBallot_fl_round (x : Ballot) (v : Int) (r : List (Nat × Value)) : fillS TBallot_pl (BV x) ((0, .int .i64 v) :: r) = fillS TBallot_pl (BV { x with round := v }) r := rfl
theorem TBallot_fl_rep (x : Ballot) (v : Int) (r : List (Nat × Value)) : fillS TBallot_pl (BV x) ((1, .int .i64 v) :: r) = fillS TBallot_pl (BV { x with rep := v }) r := rfl
theorem TBallot_ret {fn : Func} {R : Ending → World → Prop} {a : Act} {w : World} {p : Tmp} (x : Ballot) {g : Nat} (hr : fn.results = #[.cell p 64]) (hp : a.tmps.getD p undef = .pointer (some ⟨g, 0, none⟩)) (hdf : a.defers = []) (hrow : row? w g = some (BV x)) (hR : R (.returned (.agg (BV x))) w) : bodyPost Tryz.prog fn R .ret a w :=
  ret_row (BV x) TBallot_und rfl (by kernel_rfl) hr hp hdf (TBallot_size x) hrow hR
end Go.Proofs.YtomlilkobhkoiaaGreatDoor
/- Layer 5, first part: a row of numbers, an item, as values; With and Has, and the document's Has: what each call answers. -/
namespace Go.Proofs.YtomlilkobhkoiaaGreatDoor
open Go.RowKit
/-- a row as a value -/
def DV (d : Nat → Int) : Array Value := #[.int .i64 (d 0), .int .i64 (d 1), .int .i64 (d 2), .int .i64 (d 3), .int .i64 (d 4), .int .i64 (d 5), .int .i64 (d 6)]
theorem DV_size (d : Nat → Int) : (DV d).size = 7 := rfl
theorem DV_piece (d : Nat → Int) : piece (DV d) 0 7 = DV d := piece_all _ _ rfl
theorem DV_one (d : Nat → Int) : allOne (DV d) = true := by simp [allOne, DV, Value.oneCell']
theorem DV_get (d : Nat → Int) (i : Nat) (h : i < 7) : (DV d)[i]? = some (.int .i64 (d i)) := by
  match i, h with
  | 0, _ => rfl
  | 1, _ => rfl
  | 2, _ => rfl
  | 3, _ => rfl
  | 4, _ => rfl
  | 5, _ => rfl
  | 6, _ => rfl
def upd (d : Nat → Int) (i : Nat) (v : Int) : Nat → Int := fun j => if j = i then v else d j
theorem DV_set (d : Nat → Int) (i : Nat) (v : Int) : (DV d).setIfInBounds i (.int .i64 v) = DV (upd d i v) := by
  apply Array.ext_getElem?
  intro j
  rw [Array.getElem?_setIfInBounds, DV_size]
  by_cases hj : j < 7
  · rw [DV_get _ j hj, DV_get _ j hj]
    by_cases h : i = j
    · subst h; simp [hj, upd]
    · have h' : ¬ j = i := fun e => h e.symm
      simp [h, h', upd]
  · have h1 : ∀ d : Nat → Int, (DV d)[j]? = none := fun d => Array.getElem?_eq_none (by rw [DV_size]; omega)
    rw [h1, h1]
    split <;> simp_all
theorem DV_congr {d e : Nat → Int} (h : ∀ i, i < 7 → d i = e i) : DV d = DV e := by
  simp only [DV, h 0 (by omega), h 1 (by omega), h 2 (by omega), h 3 (by omega), h 4 (by omega), h 5 (by omega), h 6 (by omega)]
theorem DV_inj {d e : Nat → Int} (h : DV d = DV e) : ∀ i, i < 7 → d i = e i := fun i hi => by
  have := congrArg (·[i]?) h
  simp only [DV_get _ i hi, Option.some.injEq, Value.int.injEq, true_and] at this
  exact this
theorem load_deps0 (v : Value) : Instr.loadAt 66 v = loadSem 66 v := rfl
theorem store_deps0 (v u : Value) : Instr.storeAt 66 v u = storeSem 66 v u := rfl
theorem load_deps (w : World) (v : Value) : (loadSem 66 v).run Tryz.prog w = loadVal Tryz.prog 66 7 w v :=
  load_val Tryz.underlying66 rfl (by kernel_rfl) w v
theorem store_deps (w : World) (v u : Value) : (storeSem 66 v u).run Tryz.prog w = storeVal Tryz.prog 66 7 w v u :=
  store_val (by kernel_rfl) w v u
theorem ret_deps {fn : Func} {R : Ending → World → Prop} {a : Act} {w : World} {p : Tmp} (d : Nat → Int) {g : Nat} (hr : fn.results = #[.cell p 66]) (hp : a.tmps.getD p undef = .pointer (some ⟨g, 0, none⟩)) (hdf : a.defers = [])
    (hrow : row? w g = some (DV d)) (hR : R (.returned (.agg (DV d))) w) : bodyPost Tryz.prog fn R .ret a w :=
  ret_row (DV d) Tryz.underlying66 rfl (by kernel_rfl) hr hp hdf (DV_size d) hrow hR
theorem index_deps0 (x i : Value) : Instr.index 66 x i = indexSem 66 x i := rfl
theorem index_deps (w : World) (d : Nat → Int) (i : Int) : (indexSem 66 (.agg (DV d)) (.int .i64 i)).run Tryz.prog w = if 0 ≤ i ∧ i < 7 then .ok (.int .i64 (d i.toNat)) w else indexSlow Tryz.prog 66 (DV d) i w := by
  split
  · rename_i h
    exact index_row Tryz.underlying66 Tryz.underlying3 rfl (by kernel_rfl) w (DV d) i _ h.1 h.2 (DV_get d _ (by omega))
  · rfl
end Go.Proofs.YtomlilkobhkoiaaGreatDoor
/- A row of numbers as a value: equality, loads, stores, building. -/
namespace Go.Proofs.YtomlilkobhkoiaaGreatDoor
open Go.RowKit
set_option linter.unusedVariables false
set_option maxRecDepth 20000
theorem TDeps_ext (x y : Nat → Int) : DV x = DV y ↔ ∀ i, i < 7 → x i = y i := ⟨DV_inj, DV_congr⟩
theorem TDeps_eq (d : Nat) (a b : Nat → Int) (w : World) : (Op.equalIn (d + 2) 66 (.agg (DV a)) (.agg (DV b))).run Tryz.prog w = .ok (eqA (DV a) (DV b)) w := by
  obtain ⟨i, hi, hz⟩ : ∃ i, Tryz.prog.info? 3 = some i ∧ i.size = 1 := by
    have h : (Tryz.prog.info? 3).map (·.size) = some 1 := by kernel_rfl
    cases hq : Tryz.prog.info? 3 with
    | none => rw [hq] at h; cases h
    | some i => rw [hq] at h; exact ⟨i, rfl, by simpa using h⟩
  have hC : Tryz.prog.cellsOf 3 = 1 := by kernel_rfl
  rw [run_equalIn_array w (d + 1) (DV a) (DV b) Tryz.underlying66 hi, hC]
  have key : ∀ is : List Nat, (∀ i ∈ is, i < 7) → (Op.eqItems (d + 1) 3 1 (DV a) (DV b) is).run Tryz.prog w = .ok (is.all fun i => a i == b i) w := by
    intro is
    induction is with
    | nil => intro _; rfl
    | cons i is ih =>
      intro h
      have hi7 := h i (by simp)
      have ha : (isAgg 3).run Tryz.prog w = .ok false w := by
        unfold isAgg
        simp only [Sem.run_bind, run_underlying Tryz.underlying3, Result.andThen_ok]
        rfl
      have p1 : ∀ d : Nat → Int, (part 3 (DV d) (i * 1)).run Tryz.prog w = .ok (.int .i64 (d i)) w := fun d => by
        simp [part, ha, DV_get d i hi7]
      have e1 : (Op.equalIn (d + 1) 3 (.int .i64 (a i)) (.int .i64 (b i))).run Tryz.prog w = .ok (a i == b i) w := run_equalIn_int w d _ .i64 .i64 _ _ Tryz.underlying3
      simp only [Op.eqItems, Sem.run_bind, p1, e1, Result.andThen_ok, List.all_cons]
      cases hb : (a i == b i)
      · simp
      · simp only [Bool.not_true, Bool.false_eq_true, if_false, Bool.true_and]
        exact ih fun j hj => h j (by simp [hj])
  rw [key _ (fun i hi => by simpa using hi)]
  congr 1
  refine eqA_of ?_
  rw [TDeps_ext]
  simp [List.all_eq_true]
theorem TDeps_eql (x y : Nat → Int) (w : World) : (binOp .eql 66 (.agg (DV x)) (.agg (DV y))).run Tryz.prog w = .ok (.bool (eqA (DV x) (DV y))) w := eql_of (TDeps_eq 9998 x y) w
theorem TDeps_neq (x y : Nat → Int) (w : World) : (binOp .neq 66 (.agg (DV x)) (.agg (DV y))).run Tryz.prog w = .ok (.bool (!eqA (DV x) (DV y))) w := neq_of (TDeps_eq 9998 x y) w
end Go.Proofs.YtomlilkobhkoiaaGreatDoor
/- Layer 4: a deed as a value; its fields. -/
namespace Go.Proofs.YtomlilkobhkoiaaGreatDoor
open Go.RowKit
structure Deed where
  kind : Int
  key : ByteArray
  val : ByteArray
  ver : Int
  ses : Int
  num : Int
/-- a deed as a value -/
def EV (d : Deed) : Array Value := #[.int .i64 d.kind, .string d.key, .string d.val, .int .i64 d.ver, .int .i64 d.ses, .int .i64 d.num]
section
variable (d : Deed)
theorem EV_size : (EV d).size = 6 := rfl
theorem EV_piece : piece (EV d) 0 6 = EV d := piece_all _ _ rfl
theorem EV_one : allOne (EV d) = true := by simp [allOne, EV, Value.oneCell']
theorem EV_0 : (EV d)[0]? = some (.int .i64 d.kind) := rfl
theorem EV_1 : (EV d)[1]? = some (.string d.key) := rfl
theorem EV_2 : (EV d)[2]? = some (.string d.val) := rfl
theorem EV_3 : (EV d)[3]? = some (.int .i64 d.ver) := rfl
theorem EV_4 : (EV d)[4]? = some (.int .i64 d.ses) := rfl
theorem EV_5 : (EV d)[5]? = some (.int .i64 d.num) := rfl
end
theorem load_deed0 (v : Value) : Instr.loadAt 31 v = loadSem 31 v := rfl
theorem store_deed0 (v u : Value) : Instr.storeAt 31 v u = storeSem 31 v u := rfl
theorem load_deed (w : World) (v : Value) : (loadSem 31 v).run Tryz.prog w = loadVal Tryz.prog 31 6 w v :=
  load_val Tryz.underlying31 rfl (by kernel_rfl) w v
theorem store_deed (w : World) (v u : Value) : (storeSem 31 v u).run Tryz.prog w = storeVal Tryz.prog 31 6 w v u :=
  store_val (by kernel_rfl) w v u
end Go.Proofs.YtomlilkobhkoiaaGreatDoor

namespace Go.Proofs.YtomlilkobhkoiaaGreatDoor
open Go.RowKit
attribute [local go_sem] row_alloc row_drew row_drewN row_ext row_setCell row_setRow size_ext setRow_alloc setRow_drew loadOf storeOf piece_lit loadVal_at storeVal_at allOne_lit EV_size EV_one EV_piece EV_0 EV_1 EV_2 EV_3 EV_4 EV_5
attribute [local go_sem high] cell_alloc frozen_alloc setCell_alloc cell_ext frozen_ext
attribute [local go_sem ↓] load_deed0 store_deed0
attribute [local go_sem] load_deed store_deed
theorem tl_nil (s : ByteArray) : s.toList = [] ↔ s.size = 0 := by
  rw [ByteArray.toList_eq, ← List.length_eq_zero_iff, Array.length_toList]; exact Iff.rfl
theorem bbT (a b : Int) : ((!(a == 0) == (b == 0)) = true) ↔ (a = 0 ↔ ¬ b = 0) := by
  by_cases h1 : a = 0
  · by_cases h2 : b = 0
    · simp [h1, h2]
    · have e2 : (b == 0) = false := by simpa using h2
      simp [h1, e2, h2]
  · have e1 : (a == 0) = false := by simpa using h1
    by_cases h2 : b = 0
    · simp [e1, h1, h2]
    · have e2 : (b == 0) = false := by simpa using h2
      simp [e1, e2, h1, h2]
theorem bbF (a b : Int) : ((!(a == 0) == (b == 0)) = false) ↔ (a = 0 ↔ b = 0) := by
  rw [← Bool.not_eq_true, bbT]
  constructor <;> intro h <;> omega
def Kinds (d : Deed) : Prop := (d.kind = 0 ∧ d.val.size = 0 ∧ d.ver = 0 ∧ d.key.size = 0 ∧ d.ses = 0) ∨ ((d.kind = 1 ∨ d.kind = 4) ∧ d.val.size = 0 ∧ d.ver = 0 ∧ ¬ d.key.size = 0) ∨
  (d.kind = 2 ∧ ¬ d.key.size = 0 ∧ d.ver = 0) ∨ (d.kind = 3 ∧ ¬ d.key.size = 0) ∨ (d.kind = 5 ∧ d.val.size = 0 ∧ d.ver = 0)
instance (d : Deed) : Decidable (Kinds d) := by unfold Kinds; exact inferInstance
def goodB (d : Deed) : Bool := decide (0 ≤ d.ses ∧ d.ses ≤ 1099511627776 ∧ 0 ≤ d.num ∧ d.num ≤ 1099511627776 ∧ (d.ses = 0 ↔ d.num = 0) ∧ d.key.size ≤ 16 ∧ d.val.size ≤ 32 ∧ 0 ≤ d.ver ∧ d.ver ≤ 1099511627776 ∧ Kinds d)
set_option maxHeartbeats 2000000 in
theorem good4_any (d : Deed) : Ans Tryz.prog 20 #[.agg (EV d)] (.bool (goodB d)) := by
  intro w
  go_enter Tryz.func20, Tryz.ntmps20
  go_wp2
  all_goals go_ret
  all_goals refine ⟨congrArg (fun b => Ending.returned (.bool b)) ?_, (Below.refl _ _).alloc (Nat.le_refl _) _⟩
  all_goals unfold goodB Kinds
  all_goals (try simp only [tl_nil, bbT, bbF, beq_iff_eq, beq_eq_false_iff_ne, ne_eq] at *)
  all_goals first
    | exact (decide_eq_false (by omega)).symm
    | exact (decide_eq_true (by omega)).symm
    | (rw [Bool.eq_iff_iff, decide_eq_true_eq]; simp only [Bool.and_eq_true, Bool.not_eq_true', List.isEmpty_eq_false_iff, ne_eq, tl_nil, beq_iff_eq]; constructor <;> intro h <;> omega)
end Go.Proofs.YtomlilkobhkoiaaGreatDoor

namespace Go.Proofs.YtomlilkobhkoiaaGreatDoor
open Go.RowKit
attribute [local go_sem] row_alloc row_drew row_drewN row_ext row_setCell row_setRow size_ext setRow_alloc setRow_drew loadOf storeOf piece_lit loadVal_at storeVal_at allOne_lit EV_size EV_one EV_piece EV_0 EV_1 EV_2 EV_3 EV_4 EV_5
attribute [local go_sem high] cell_alloc frozen_alloc setCell_alloc cell_ext frozen_ext
attribute [local go_sem ↓] load_deed0 store_deed0
attribute [local go_sem] load_deed store_deed

def noDeed : Deed := ⟨0, ByteArray.empty, ByteArray.empty, 0, 0, 0⟩
def eqE (a b : Deed) : Bool := decide (a.kind = b.kind ∧ a.key.toList = b.key.toList ∧ a.val.toList = b.val.toList ∧ a.ver = b.ver ∧ a.ses = b.ses ∧ a.num = b.num)
theorem eqE_no (d : Deed) : eqE d noDeed = true ↔ d.kind = 0 ∧ d.key.size = 0 ∧ d.val.size = 0 ∧ d.ver = 0 ∧ d.ses = 0 ∧ d.num = 0 := by
  have e : ∀ s : ByteArray, s.toList = ByteArray.empty.toList ↔ s.size = 0 := fun s => by rw [← tl_nil]; simp [ByteArray.toList_eq]
  unfold eqE noDeed
  rw [decide_eq_true_eq, e, e]
theorem run_eql_deed (w : World) (a b : Deed) : (binOp .eql 31 (.agg (EV a)) (.agg (EV b))).run Tryz.prog w = .ok (.bool (eqE a b)) w := by
  rw [run_eql_struct]
  unfold EV eqE
  simp [go_sem]
  repeat' split
  all_goals simp_all
theorem zero_deed : #[Value.int .i64 0, Value.string ⟨#[]⟩, Value.string ⟨#[]⟩, Value.int .i64 0, Value.int .i64 0, Value.int .i64 0] = EV noDeed := rfl
attribute [local go_sem high] run_eql_deed
attribute [local go_sem] zero_deed
theorem ie_true (s : ByteArray) : s.toList.isEmpty = true ↔ s.size = 0 := by rw [List.isEmpty_iff, tl_nil]
theorem ie_false (s : ByteArray) : s.toList.isEmpty = false ↔ ¬ s.size = 0 := by rw [← ie_true, Bool.not_eq_true]
def ref3 (d : Deed) (k : Nat) : Int := if k = 0 then d.ver else if k = 1 then d.ses else d.num
set_option maxHeartbeats 4000000 in
theorem rgood4_any (d : Deed) : Ans Tryz.prog 8 #[.agg (EV d)] (.bool (goodB d)) := by
  intro w
  go_enter Tryz.func8, Tryz.ntmps8
  go_wp2
  go_loop [14] (fun i => ∃ k : Nat, k ≤ 3 ∧ i = .int .i64 k ∧ Hid (∀ j, j < k → 0 ≤ ref3 d j ∧ ref3 d j ≤ 1099511627776)) (fun i => 3 - (intOf i).toNat)
  case atStart => exact ⟨0, by omega, rfl, fun j hj => by omega⟩
  case round =>
    obtain ⟨k, hk, rfl, hG⟩ := hrel
    by_cases hlt : k < 3
    · have hno : ¬ (0 ≤ ref3 d k ∧ ref3 d k ≤ 1099511627776) → goodB d = false := by
        intro h
        unfold goodB
        refine decide_eq_false (fun hg => h ?_)
        match k, hlt with
        | 0, _ => exact ⟨hg.2.2.2.2.2.2.2.1, hg.2.2.2.2.2.2.2.2.1⟩
        | 1, _ => exact ⟨hg.1, hg.2.1⟩
        | 2, _ => exact ⟨hg.2.2.1, hg.2.2.2.1⟩
      have hk3 : k = 0 ∨ k = 1 ∨ k = 2 := by omega
      rcases hk3 with rfl | rfl | rfl
      · have Hno : Hid (¬ (0 ≤ d.ver ∧ d.ver ≤ 1099511627776) → goodB d = false) := hno
        clear hno
        go_wp2
        all_goals first
          | (go_ret
             exact ⟨congrArg (fun b => Ending.returned (.bool b)) (Hno.out (by omega)).symm, ((Below.refl _ _).alloc (Nat.le_refl _) _).alloc (by simp) _⟩)
          | (refine ⟨⟨1, by omega, by go_num, fun j hj => ?_⟩, ?_⟩
             · have hj' := hG j
               by_cases e : j = 0
               · subst e; exact ⟨by simp [ref3]; omega, by simp [ref3]; omega⟩
               · exact hj' (by omega)
             · simp [intOf])
      · have Hno : Hid (¬ (0 ≤ d.ses ∧ d.ses ≤ 1099511627776) → goodB d = false) := hno
        clear hno
        go_wp2
        all_goals first
          | (go_ret
             exact ⟨congrArg (fun b => Ending.returned (.bool b)) (Hno.out (by omega)).symm, ((Below.refl _ _).alloc (Nat.le_refl _) _).alloc (by simp) _⟩)
          | (refine ⟨⟨2, by omega, by go_num, fun j hj => ?_⟩, ?_⟩
             · have hj' := hG j
               by_cases e : j = 1
               · subst e; exact ⟨by simp [ref3]; omega, by simp [ref3]; omega⟩
               · exact hj' (by omega)
             · simp [intOf])
      · have Hno : Hid (¬ (0 ≤ d.num ∧ d.num ≤ 1099511627776) → goodB d = false) := hno
        clear hno
        go_wp2
        all_goals first
          | (go_ret
             exact ⟨congrArg (fun b => Ending.returned (.bool b)) (Hno.out (by omega)).symm, ((Below.refl _ _).alloc (Nat.le_refl _) _).alloc (by simp) _⟩)
          | (refine ⟨⟨3, by omega, by go_num, fun j hj => ?_⟩, ?_⟩
             · have hj' := hG j
               by_cases e : j = 2
               · subst e; exact ⟨by simp [ref3]; omega, by simp [ref3]; omega⟩
               · exact hj' (by omega)
             · simp [intOf])
    · obtain rfl : k = 3 := by omega
      obtain ⟨hv0, hv1⟩ := hG 0 (by omega)
      obtain ⟨hs0, hs1⟩ := hG 1 (by omega)
      obtain ⟨hn0, hn1⟩ := hG 2 (by omega)
      simp only [ref3, if_true, if_false, Nat.one_ne_zero, Nat.reduceEqDiff] at hv0 hv1 hs0 hs1 hn0 hn1
      clear hG
      go_wp2
      all_goals go_ret
      all_goals refine ⟨congrArg (fun b => Ending.returned (.bool b)) ?_, ((Below.refl _ _).alloc (Nat.le_refl _) _).alloc (by simp) _⟩
      all_goals unfold goodB Kinds
      all_goals (try simp only [beq_iff_eq, beq_eq_false_iff_ne, ne_eq] at *)
      all_goals (try simp only [tl_nil] at *)
      all_goals (try simp only [ie_true] at *)
      all_goals (try simp only [ie_false] at *)
      all_goals (try simp only [bne_eq_false_iff_eq] at *)
      all_goals (try simp only [bne_iff_ne, ne_eq] at *)
      all_goals first
        | exact (decide_eq_false (by omega)).symm
        | exact (decide_eq_true (by omega)).symm
        | (rw [Bool.eq_iff_iff, decide_eq_true_eq]; simp only [Bool.or_eq_true, List.isEmpty_iff, tl_nil, beq_iff_eq]; constructor <;> intro h <;> omega)
        | (rw [Bool.eq_iff_iff, decide_eq_true_eq, eqE_no]; constructor <;> intro h <;> omega)
end Go.Proofs.YtomlilkobhkoiaaGreatDoor
/- Deed as a value, as cells: its parts, equality, loads, stores, building. Printed by types.py. -/
namespace Go.Proofs.YtomlilkobhkoiaaGreatDoor
open Go.RowKit
set_option linter.unusedVariables false
section
variable (x y : Deed)
theorem TDeed_size : (EV x).size = 6 := rfl
theorem TDeed_one : allOne (EV x) = true := by simp [allOne, EV, Value.oneCell']
theorem TDeed_piece : piece (EV x) 0 6 = EV x := piece_all _ _ rfl
theorem TDeed_c0 : (EV x)[0]? = some (.int .i64 x.kind) := rfl
theorem TDeed_c1 : (EV x)[1]? = some (.string x.key) := rfl
theorem TDeed_c2 : (EV x)[2]? = some (.string x.val) := rfl
theorem TDeed_c3 : (EV x)[3]? = some (.int .i64 x.ver) := rfl
theorem TDeed_c4 : (EV x)[4]? = some (.int .i64 x.ses) := rfl
theorem TDeed_c5 : (EV x)[5]? = some (.int .i64 x.num) := rfl
theorem TDeed_set_kind (v : Int) : (EV x).setIfInBounds 0 (.int .i64 v) = EV { x with kind := v } := rfl
theorem TDeed_set_key (v : ByteArray) : (EV x).setIfInBounds 1 (.string v) = EV { x with key := v } := rfl
theorem TDeed_set_val (v : ByteArray) : (EV x).setIfInBounds 2 (.string v) = EV { x with val := v } := rfl
theorem TDeed_set_ver (v : Int) : (EV x).setIfInBounds 3 (.int .i64 v) = EV { x with ver := v } := rfl
theorem TDeed_set_ses (v : Int) : (EV x).setIfInBounds 4 (.int .i64 v) = EV { x with ses := v } := rfl
theorem TDeed_set_num (v : Int) : (EV x).setIfInBounds 5 (.int .i64 v) = EV { x with num := v } := rfl
theorem TDeed_cat : EV x = #[.int .i64 x.kind] ++ #[.string x.key] ++ #[.string x.val] ++ #[.int .i64 x.ver] ++ #[.int .i64 x.ses] ++ #[.int .i64 x.num] := by kernel_rfl
theorem TDeed_ext : EV x = EV y ↔ x.kind = y.kind ∧ x.key = y.key ∧ x.val = y.val ∧ x.ver = y.ver ∧ x.ses = y.ses ∧ x.num = y.num := by
  constructor
  · intro h
    refine ⟨?_, ?_, ?_, ?_, ?_, ?_⟩
    · have := congrArg (·[0]?) h; simpa [TDeed_c0, TDeed_size] using this
    · have := congrArg (·[1]?) h; simpa [TDeed_c1, TDeed_size] using this
    · have := congrArg (·[2]?) h; simpa [TDeed_c2, TDeed_size] using this
    · have := congrArg (·[3]?) h; simpa [TDeed_c3, TDeed_size] using this
    · have := congrArg (·[4]?) h; simpa [TDeed_c4, TDeed_size] using this
    · have := congrArg (·[5]?) h; simpa [TDeed_c5, TDeed_size] using this
  · rintro ⟨h0, h1, h2, h3, h4, h5⟩
    rw [TDeed_cat x, TDeed_cat y, h0, h1, h2, h3, h4, h5]
end
theorem TDeed_und : Tryz.prog.underlying 31 = some (.struct (Tryz.prog.fieldsOf 31)) := by kernel_rfl
theorem TDeed_eq (d : Nat) (x y : Deed) (w : World) : (Op.equalIn (d + 2) 31 (.agg (EV x)) (.agg (EV y))).run Tryz.prog w = .ok (eqA (EV x) (EV y)) w := by
  refine eq_struct (d := d + 1) (L := [(3, 0, x.kind == y.kind), (9, 1, x.key.toList == y.key.toList), (9, 2, x.val.toList == y.val.toList), (3, 3, x.ver == y.ver), (3, 4, x.ses == y.ses), (3, 5, x.num == y.num)]) TDeed_und (by kernel_rfl) (by kernel_rfl) ?_ ?_ w
  · simp only [List.forall_mem_cons]
    exact ⟨⟨_, _, part_cell Tryz.underlying3 rfl (by kernel_rfl) (TDeed_c0 x), part_cell Tryz.underlying3 rfl (by kernel_rfl) (TDeed_c0 y), fun w => run_equalIn_int w (d + 0) _ _ _ _ _ Tryz.underlying3⟩, ⟨_, _, part_cell Tryz.underlying9 rfl (by kernel_rfl) (TDeed_c1 x), part_cell Tryz.underlying9 rfl (by kernel_rfl) (TDeed_c1 y), fun w => run_equalIn_string w (d + 0) _ _ _ Tryz.underlying9⟩, ⟨_, _, part_cell Tryz.underlying9 rfl (by kernel_rfl) (TDeed_c2 x), part_cell Tryz.underlying9 rfl (by kernel_rfl) (TDeed_c2 y), fun w => run_equalIn_string w (d + 0) _ _ _ Tryz.underlying9⟩, ⟨_, _, part_cell Tryz.underlying3 rfl (by kernel_rfl) (TDeed_c3 x), part_cell Tryz.underlying3 rfl (by kernel_rfl) (TDeed_c3 y), fun w => run_equalIn_int w (d + 0) _ _ _ _ _ Tryz.underlying3⟩, ⟨_, _, part_cell Tryz.underlying3 rfl (by kernel_rfl) (TDeed_c4 x), part_cell Tryz.underlying3 rfl (by kernel_rfl) (TDeed_c4 y), fun w => run_equalIn_int w (d + 0) _ _ _ _ _ Tryz.underlying3⟩, ⟨_, _, part_cell Tryz.underlying3 rfl (by kernel_rfl) (TDeed_c5 x), part_cell Tryz.underlying3 rfl (by kernel_rfl) (TDeed_c5 y), fun w => run_equalIn_int w (d + 0) _ _ _ _ _ Tryz.underlying3⟩, by simp⟩
  · refine eqA_of ?_
    rw [TDeed_ext]
    simp [toList_inj_iff]
theorem TDeed_eql (x y : Deed) (w : World) : (binOp .eql 31 (.agg (EV x)) (.agg (EV y))).run Tryz.prog w = .ok (.bool (eqA (EV x) (EV y))) w := eql_of (TDeed_eq 9998 x y) w
theorem TDeed_neq (x y : Deed) (w : World) : (binOp .neq 31 (.agg (EV x)) (.agg (EV y))).run Tryz.prog w = .ok (.bool (!eqA (EV x) (EV y))) w := neq_of (TDeed_eq 9998 x y) w
theorem TDeed_ld0 (v : Value) : Instr.loadAt 31 v = loadSem 31 v := rfl
theorem TDeed_st0 (v u : Value) : Instr.storeAt 31 v u = storeSem 31 v u := rfl
theorem TDeed_fd0 (x : Value) (i : Nat) : Instr.field 31 x i = fieldSem 31 x i := rfl
theorem TDeed_bd0 (p : Array (Nat × Value)) : Instr.build 31 p = buildS 31 p := rfl
theorem TDeed_ld (w : World) (v : Value) : (loadSem 31 v).run Tryz.prog w = loadVal Tryz.prog 31 6 w v := load_val TDeed_und rfl (by kernel_rfl) w v
theorem TDeed_st (w : World) (v u : Value) : (storeSem 31 v u).run Tryz.prog w = storeVal Tryz.prog 31 6 w v u := store_val (by kernel_rfl) w v u
theorem TDeed_f_kind (x : Deed) (w : World) : (fieldSem 31 (.agg (EV x)) 0).run Tryz.prog w = .ok (.int .i64 x.kind) w := field_of TDeed_und (by kernel_rfl) (part_cell Tryz.underlying3 rfl (by kernel_rfl) (TDeed_c0 x)) w
theorem TDeed_f_key (x : Deed) (w : World) : (fieldSem 31 (.agg (EV x)) 1).run Tryz.prog w = .ok (.string x.key) w := field_of TDeed_und (by kernel_rfl) (part_cell Tryz.underlying9 rfl (by kernel_rfl) (TDeed_c1 x)) w
theorem TDeed_f_val (x : Deed) (w : World) : (fieldSem 31 (.agg (EV x)) 2).run Tryz.prog w = .ok (.string x.val) w := field_of TDeed_und (by kernel_rfl) (part_cell Tryz.underlying9 rfl (by kernel_rfl) (TDeed_c2 x)) w
theorem TDeed_f_ver (x : Deed) (w : World) : (fieldSem 31 (.agg (EV x)) 3).run Tryz.prog w = .ok (.int .i64 x.ver) w := field_of TDeed_und (by kernel_rfl) (part_cell Tryz.underlying3 rfl (by kernel_rfl) (TDeed_c3 x)) w
theorem TDeed_f_ses (x : Deed) (w : World) : (fieldSem 31 (.agg (EV x)) 4).run Tryz.prog w = .ok (.int .i64 x.ses) w := field_of TDeed_und (by kernel_rfl) (part_cell Tryz.underlying3 rfl (by kernel_rfl) (TDeed_c4 x)) w
theorem TDeed_f_num (x : Deed) (w : World) : (fieldSem 31 (.agg (EV x)) 5).run Tryz.prog w = .ok (.int .i64 x.num) w := field_of TDeed_und (by kernel_rfl) (part_cell Tryz.underlying3 rfl (by kernel_rfl) (TDeed_c5 x)) w
def TDeed_pl : Nat → Option (Nat × Nat) := fun i => (#[(0, 1), (1, 1), (2, 1), (3, 1), (4, 1), (5, 1)] : Array (Nat × Nat))[i]?
theorem TDeed_bd (w : World) (p : Array (Nat × Value)) : (buildS 31 p).run Tryz.prog w = buildOf Tryz.prog 31 TDeed_pl (EV noDeed) p w := build_struct TDeed_und (by kernel_rfl) (fun w => by kernel_rfl) w p
theorem TDeed_fl (X : Array Value) : fillS TDeed_pl X [] = some X := rfl
theorem TDeed_fl_kind (x : Deed) (v : Int) (r : List (Nat × Value)) : fillS TDeed_pl (EV x) ((0, .int .i64 v) :: r) = fillS TDeed_pl (EV { x with kind := v }) r := rfl
theorem TDeed_fl_key (x : Deed) (v : ByteArray) (r : List (Nat × Value)) : fillS TDeed_pl (EV x) ((1, .string v) :: r) = fillS TDeed_pl (EV { x with key := v }) r := rfl
theorem TDeed_fl_val (x : Deed) (v : ByteArray) (r : List (Nat × Value)) : fillS TDeed_pl (EV x) ((2, .string v) :: r) = fillS TDeed_pl (EV { x with val := v }) r := rfl
theorem TDeed_fl_ver (x : Deed) (v : Int) (r : List (Nat × Value)) : fillS TDeed_pl (EV x) ((3, .int .i64 v) :: r) = fillS TDeed_pl (EV { x with ver := v }) r := rfl
theorem TDeed_fl_ses (x : Deed) (v : Int) (r : List (Nat × Value)) : fillS TDeed_pl (EV x) ((4, .int .i64 v) :: r) = fillS TDeed_pl (EV { x with ses := v }) r := rfl
theorem TDeed_fl_num (x : Deed) (v : Int) (r : List (Nat × Value)) : fillS TDeed_pl (EV x) ((5, .int .i64 v) :: r) = fillS TDeed_pl (EV { x with num := v }) r := rfl
end Go.Proofs.YtomlilkobhkoiaaGreatDoor
