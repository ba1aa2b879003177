/- Item as a value, as cells: its parts, equality, loads, stores, building. Printed by types.py. -/
import Derived.Test.YtahajjfbkdocaaaStruct
namespace Go.Proofs.Ytahajjfbkdocaaa
open Go.RowKit
set_option linter.unusedVariables false
structure Item where
  rep : Int
  num : Int
def IV (x : Item) : Array Value := #[.int .i64 x.rep, .int .i64 x.num]
def noItem : Item := ⟨0, 0⟩
section
variable (x y : Item)
theorem TItem_size : (IV x).size = 2 := rfl
theorem TItem_one : allOne (IV x) = true := by simp [allOne, IV, Value.oneCell']
theorem TItem_piece : piece (IV x) 0 2 = IV x := piece_all _ _ rfl
theorem TItem_c0 : (IV x)[0]? = some (.int .i64 x.rep) := rfl
theorem TItem_c1 : (IV x)[1]? = some (.int .i64 x.num) := rfl
theorem TItem_set_rep (v : Int) : (IV x).setIfInBounds 0 (.int .i64 v) = IV { x with rep := v } := rfl
theorem TItem_set_num (v : Int) : (IV x).setIfInBounds 1 (.int .i64 v) = IV { x with num := v } := rfl
theorem TItem_cat : IV x = #[.int .i64 x.rep] ++ #[.int .i64 x.num] := by kernel_rfl
theorem TItem_ext : IV x = IV y ↔ x.rep = y.rep ∧ x.num = y.num := by
  constructor
  · intro h
    refine ⟨?_, ?_⟩
    · have := congrArg (·[0]?) h; simpa [TItem_c0, TItem_size] using this
    · have := congrArg (·[1]?) h; simpa [TItem_c1, TItem_size] using this
  · rintro ⟨h0, h1⟩
    rw [TItem_cat x, TItem_cat y, h0, h1]
end
theorem TItem_und : Try.prog.underlying 28 = some (.struct (Try.prog.fieldsOf 28)) := by kernel_rfl
theorem TItem_eq (d : Nat) (x y : Item) (w : World) : (Op.equalIn (d + 2) 28 (.agg (IV x)) (.agg (IV y))).run Try.prog w = .ok (eqA (IV x) (IV y)) w := by
  refine eq_struct (d := d + 1) (L := [(3, 0, x.rep == y.rep), (3, 1, x.num == y.num)]) TItem_und (by kernel_rfl) (by kernel_rfl) ?_ ?_ w
  · simp only [List.forall_mem_cons]
    exact ⟨⟨_, _, part_cell Try.underlying3 rfl (by kernel_rfl) (TItem_c0 x), part_cell Try.underlying3 rfl (by kernel_rfl) (TItem_c0 y), fun w => run_equalIn_int w (d + 0) _ _ _ _ _ Try.underlying3⟩, ⟨_, _, part_cell Try.underlying3 rfl (by kernel_rfl) (TItem_c1 x), part_cell Try.underlying3 rfl (by kernel_rfl) (TItem_c1 y), fun w => run_equalIn_int w (d + 0) _ _ _ _ _ Try.underlying3⟩, by simp⟩
  · refine eqA_of ?_
    rw [TItem_ext]
    simp
theorem TItem_eql (x y : Item) (w : World) : (binOp .eql 28 (.agg (IV x)) (.agg (IV y))).run Try.prog w = .ok (.bool (eqA (IV x) (IV y))) w := eql_of (TItem_eq 9998 x y) w
theorem TItem_neq (x y : Item) (w : World) : (binOp .neq 28 (.agg (IV x)) (.agg (IV y))).run Try.prog w = .ok (.bool (!eqA (IV x) (IV y))) w := neq_of (TItem_eq 9998 x y) w
theorem TItem_ld0 (v : Value) : Instr.loadAt 28 v = loadSem 28 v := rfl
theorem TItem_st0 (v u : Value) : Instr.storeAt 28 v u = storeSem 28 v u := rfl
theorem TItem_fd0 (x : Value) (i : Nat) : Instr.field 28 x i = fieldSem 28 x i := rfl
theorem TItem_bd0 (p : Array (Nat × Value)) : Instr.build 28 p = buildS 28 p := rfl
theorem TItem_ld (w : World) (v : Value) : (loadSem 28 v).run Try.prog w = loadVal Try.prog 28 2 w v := load_val TItem_und rfl (by kernel_rfl) w v
theorem TItem_st (w : World) (v u : Value) : (storeSem 28 v u).run Try.prog w = storeVal Try.prog 28 2 w v u := store_val (by kernel_rfl) w v u
theorem TItem_f_rep (x : Item) (w : World) : (fieldSem 28 (.agg (IV x)) 0).run Try.prog w = .ok (.int .i64 x.rep) w := field_of TItem_und (by kernel_rfl) (part_cell Try.underlying3 rfl (by kernel_rfl) (TItem_c0 x)) w
theorem TItem_f_num (x : Item) (w : World) : (fieldSem 28 (.agg (IV x)) 1).run Try.prog w = .ok (.int .i64 x.num) w := field_of TItem_und (by kernel_rfl) (part_cell Try.underlying3 rfl (by kernel_rfl) (TItem_c1 x)) w
def TItem_pl : Nat → Option (Nat × Nat) := fun i => (#[(0, 1), (1, 1)] : Array (Nat × Nat))[i]?
theorem TItem_bd (w : World) (p : Array (Nat × Value)) : (buildS 28 p).run Try.prog w = buildOf Try.prog 28 TItem_pl (IV noItem) p w := build_struct TItem_und (by kernel_rfl) (fun w => by kernel_rfl) w p
theorem TItem_fl (X : Array Value) : fillS TItem_pl X [] = some X := rfl
theorem TItem_fl_rep (x : Item) (v : Int) (r : List (Nat × Value)) : fillS TItem_pl (IV x) ((0, .int .i64 v) :: r) = fillS TItem_pl (IV { x with rep := v }) r := rfl
theorem TItem_fl_num (x : Item) (v : Int) (r : List (Nat × Value)) : fillS TItem_pl (IV x) ((1, .int .i64 v) :: r) = fillS TItem_pl (IV { x with num := v }) r := rfl
theorem TItem_ret {fn : Func} {R : Ending → World → Prop} {a : Act} {w : World} {p : Tmp} (x : Item) {g : Nat} (hr : fn.results = #[.cell p 28]) (hp : a.tmps.getD p undef = .pointer (some ⟨g, 0, none⟩)) (hdf : a.defers = []) (hrow : row? w g = some (IV x)) (hR : R (.returned (.agg (IV x))) w) : bodyPost Try.prog fn R .ret a w :=
  ret_row (IV x) TItem_und rfl (by kernel_rfl) hr hp hdf (TItem_size x) hrow hR
end Go.Proofs.Ytahajjfbkdocaaa
