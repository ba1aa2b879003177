/- RPlate as a value, as cells: its parts, equality, loads, stores, building. Printed by types.py. -/
import Derived.Test.YtdemkcfajeoaiaaStruct
namespace Go.Proofs.Ytdemkcfajeoaiaa
open Go.RowKit
set_option linter.unusedVariables false
structure RPlate where
  safe : ByteArray
  soft : ByteArray
def RPV (x : RPlate) : Array Value := #[.string x.safe, .string x.soft]
def noRPlate : RPlate := ⟨⟨#[]⟩, ⟨#[]⟩⟩
section
variable (x y : RPlate)
theorem TRPlate_size : (RPV x).size = 2 := rfl
theorem TRPlate_one : allOne (RPV x) = true := by simp [allOne, RPV, Value.oneCell']
theorem TRPlate_piece : piece (RPV x) 0 2 = RPV x := piece_all _ _ rfl
theorem TRPlate_c0 : (RPV x)[0]? = some (.string x.safe) := rfl
theorem TRPlate_c1 : (RPV x)[1]? = some (.string x.soft) := rfl
theorem TRPlate_set_safe (v : ByteArray) : (RPV x).setIfInBounds 0 (.string v) = RPV { x with safe := v } := rfl
theorem TRPlate_set_soft (v : ByteArray) : (RPV x).setIfInBounds 1 (.string v) = RPV { x with soft := v } := rfl
theorem TRPlate_cat : RPV x = #[.string x.safe] ++ #[.string x.soft] := by kernel_rfl
theorem TRPlate_ext : RPV x = RPV y ↔ x.safe = y.safe ∧ x.soft = y.soft := by
  constructor
  · intro h
    refine ⟨?_, ?_⟩
    · have := congrArg (·[0]?) h; simpa [TRPlate_c0, TRPlate_size] using this
    · have := congrArg (·[1]?) h; simpa [TRPlate_c1, TRPlate_size] using this
  · rintro ⟨h0, h1⟩
    rw [TRPlate_cat x, TRPlate_cat y, h0, h1]
end
theorem TRPlate_und : Try.prog.underlying 40 = some (.struct (Try.prog.fieldsOf 40)) := by kernel_rfl
theorem TRPlate_eq (d : Nat) (x y : RPlate) (w : World) : (Op.equalIn (d + 2) 40 (.agg (RPV x)) (.agg (RPV y))).run Try.prog w = .ok (eqA (RPV x) (RPV y)) w := by
  refine eq_struct (d := d + 1) (L := [(9, 0, x.safe.toList == y.safe.toList), (9, 1, x.soft.toList == y.soft.toList)]) TRPlate_und (by kernel_rfl) (by kernel_rfl) ?_ ?_ w
  · simp only [List.forall_mem_cons]
    exact ⟨⟨_, _, part_cell Try.underlying9 rfl (by kernel_rfl) (TRPlate_c0 x), part_cell Try.underlying9 rfl (by kernel_rfl) (TRPlate_c0 y), fun w => run_equalIn_string w (d + 0) _ _ _ Try.underlying9⟩, ⟨_, _, part_cell Try.underlying9 rfl (by kernel_rfl) (TRPlate_c1 x), part_cell Try.underlying9 rfl (by kernel_rfl) (TRPlate_c1 y), fun w => run_equalIn_string w (d + 0) _ _ _ Try.underlying9⟩, by simp⟩
  · refine eqA_of ?_
    rw [TRPlate_ext]
    simp [toList_inj_iff]
theorem TRPlate_eql (x y : RPlate) (w : World) : (binOp .eql 40 (.agg (RPV x)) (.agg (RPV y))).run Try.prog w = .ok (.bool (eqA (RPV x) (RPV y))) w := eql_of (TRPlate_eq 9998 x y) w
theorem TRPlate_neq (x y : RPlate) (w : World) : (binOp .neq 40 (.agg (RPV x)) (.agg (RPV y))).run Try.prog w = .ok (.bool (!eqA (RPV x) (RPV y))) w := neq_of (TRPlate_eq 9998 x y) w
theorem TRPlate_ld0 (v : Value) : Instr.loadAt 40 v = loadSem 40 v := rfl
theorem TRPlate_st0 (v u : Value) : Instr.storeAt 40 v u = storeSem 40 v u := rfl
theorem TRPlate_fd0 (x : Value) (i : Nat) : Instr.field 40 x i = fieldSem 40 x i := rfl
theorem TRPlate_bd0 (p : Array (Nat × Value)) : Instr.build 40 p = buildS 40 p := rfl
theorem TRPlate_ld (w : World) (v : Value) : (loadSem 40 v).run Try.prog w = loadVal Try.prog 40 2 w v := load_val TRPlate_und rfl (by kernel_rfl) w v
theorem TRPlate_st (w : World) (v u : Value) : (storeSem 40 v u).run Try.prog w = storeVal Try.prog 40 2 w v u := store_val (by kernel_rfl) w v u
theorem TRPlate_f_safe (x : RPlate) (w : World) : (fieldSem 40 (.agg (RPV x)) 0).run Try.prog w = .ok (.string x.safe) w := field_of TRPlate_und (by kernel_rfl) (part_cell Try.underlying9 rfl (by kernel_rfl) (TRPlate_c0 x)) w
theorem TRPlate_f_soft (x : RPlate) (w : World) : (fieldSem 40 (.agg (RPV x)) 1).run Try.prog w = .ok (.string x.soft) w := field_of TRPlate_und (by kernel_rfl) (part_cell Try.underlying9 rfl (by kernel_rfl) (TRPlate_c1 x)) w
def TRPlate_pl : Nat → Option (Nat × Nat) := fun i => (#[(0, 1), (1, 1)] : Array (Nat × Nat))[i]?
theorem TRPlate_bd (w : World) (p : Array (Nat × Value)) : (buildS 40 p).run Try.prog w = buildOf Try.prog 40 TRPlate_pl (RPV noRPlate) p w := build_struct TRPlate_und (by kernel_rfl) (fun w => by kernel_rfl) w p
theorem TRPlate_fl (X : Array Value) : fillS TRPlate_pl X [] = some X := rfl
theorem TRPlate_fl_safe (x : RPlate) (v : ByteArray) (r : List (Nat × Value)) : fillS TRPlate_pl (RPV x) ((0, .string v) :: r) = fillS TRPlate_pl (RPV { x with safe := v }) r := rfl
theorem TRPlate_fl_soft (x : RPlate) (v : ByteArray) (r : List (Nat × Value)) : fillS TRPlate_pl (RPV x) ((1, .string v) :: r) = fillS TRPlate_pl (RPV { x with soft := v }) r := rfl
theorem TRPlate_ret {fn : Func} {R : Ending → World → Prop} {a : Act} {w : World} {p : Tmp} (x : RPlate) {g : Nat} (hr : fn.results = #[.cell p 40]) (hp : a.tmps.getD p undef = .pointer (some ⟨g, 0, none⟩)) (hdf : a.defers = []) (hrow : row? w g = some (RPV x)) (hR : R (.returned (.agg (RPV x))) w) : bodyPost Try.prog fn R .ret a w :=
  ret_row (RPV x) TRPlate_und rfl (by kernel_rfl) hr hp hdf (TRPlate_size x) hrow hR
end Go.Proofs.Ytdemkcfajeoaiaa
