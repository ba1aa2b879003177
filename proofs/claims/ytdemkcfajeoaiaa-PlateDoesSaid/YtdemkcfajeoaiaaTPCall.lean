/- PCall as a value, as cells: its parts, equality, loads, stores, building. Printed by types.py. -/
import Derived.Test.YtdemkcfajeoaiaaStruct
namespace Go.Proofs.Ytdemkcfajeoaiaa
open Go.RowKit
set_option linter.unusedVariables false
structure PCall where
  kind : Int
  text : ByteArray
  n : Int
  spoil : Int
def PCV (x : PCall) : Array Value := #[.int .i64 x.kind, .string x.text, .int .i64 x.n, .int .u8 x.spoil]
def noPCall : PCall := ⟨0, ⟨#[]⟩, 0, 0⟩
section
variable (x y : PCall)
theorem TPCall_size : (PCV x).size = 4 := rfl
theorem TPCall_one : allOne (PCV x) = true := by simp [allOne, PCV, Value.oneCell']
theorem TPCall_piece : piece (PCV x) 0 4 = PCV x := piece_all _ _ rfl
theorem TPCall_c0 : (PCV x)[0]? = some (.int .i64 x.kind) := rfl
theorem TPCall_c1 : (PCV x)[1]? = some (.string x.text) := rfl
theorem TPCall_c2 : (PCV x)[2]? = some (.int .i64 x.n) := rfl
theorem TPCall_c3 : (PCV x)[3]? = some (.int .u8 x.spoil) := rfl
theorem TPCall_set_kind (v : Int) : (PCV x).setIfInBounds 0 (.int .i64 v) = PCV { x with kind := v } := rfl
theorem TPCall_set_text (v : ByteArray) : (PCV x).setIfInBounds 1 (.string v) = PCV { x with text := v } := rfl
theorem TPCall_set_n (v : Int) : (PCV x).setIfInBounds 2 (.int .i64 v) = PCV { x with n := v } := rfl
theorem TPCall_set_spoil (v : Int) : (PCV x).setIfInBounds 3 (.int .u8 v) = PCV { x with spoil := v } := rfl
theorem TPCall_cat : PCV x = #[.int .i64 x.kind] ++ #[.string x.text] ++ #[.int .i64 x.n] ++ #[.int .u8 x.spoil] := by kernel_rfl
theorem TPCall_ext : PCV x = PCV y ↔ x.kind = y.kind ∧ x.text = y.text ∧ x.n = y.n ∧ x.spoil = y.spoil := by
  constructor
  · intro h
    refine ⟨?_, ?_, ?_, ?_⟩
    · have := congrArg (·[0]?) h; simpa [TPCall_c0, TPCall_size] using this
    · have := congrArg (·[1]?) h; simpa [TPCall_c1, TPCall_size] using this
    · have := congrArg (·[2]?) h; simpa [TPCall_c2, TPCall_size] using this
    · have := congrArg (·[3]?) h; simpa [TPCall_c3, TPCall_size] using this
  · rintro ⟨h0, h1, h2, h3⟩
    rw [TPCall_cat x, TPCall_cat y, h0, h1, h2, h3]
end
theorem TPCall_und : Try.prog.underlying 42 = some (.struct (Try.prog.fieldsOf 42)) := by kernel_rfl
theorem TPCall_eq (d : Nat) (x y : PCall) (w : World) : (Op.equalIn (d + 2) 42 (.agg (PCV x)) (.agg (PCV y))).run Try.prog w = .ok (eqA (PCV x) (PCV y)) w := by
  refine eq_struct (d := d + 1) (L := [(3, 0, x.kind == y.kind), (9, 1, x.text.toList == y.text.toList), (3, 2, x.n == y.n), (5, 3, x.spoil == y.spoil)]) TPCall_und (by kernel_rfl) (by kernel_rfl) ?_ ?_ w
  · simp only [List.forall_mem_cons]
    exact ⟨⟨_, _, part_cell Try.underlying3 rfl (by kernel_rfl) (TPCall_c0 x), part_cell Try.underlying3 rfl (by kernel_rfl) (TPCall_c0 y), fun w => run_equalIn_int w (d + 0) _ _ _ _ _ Try.underlying3⟩, ⟨_, _, part_cell Try.underlying9 rfl (by kernel_rfl) (TPCall_c1 x), part_cell Try.underlying9 rfl (by kernel_rfl) (TPCall_c1 y), fun w => run_equalIn_string w (d + 0) _ _ _ Try.underlying9⟩, ⟨_, _, part_cell Try.underlying3 rfl (by kernel_rfl) (TPCall_c2 x), part_cell Try.underlying3 rfl (by kernel_rfl) (TPCall_c2 y), fun w => run_equalIn_int w (d + 0) _ _ _ _ _ Try.underlying3⟩, ⟨_, _, part_cell Try.underlying5 rfl (by kernel_rfl) (TPCall_c3 x), part_cell Try.underlying5 rfl (by kernel_rfl) (TPCall_c3 y), fun w => run_equalIn_int w (d + 0) _ _ _ _ _ Try.underlying5⟩, by simp⟩
  · refine eqA_of ?_
    rw [TPCall_ext]
    simp [toList_inj_iff]
theorem TPCall_eql (x y : PCall) (w : World) : (binOp .eql 42 (.agg (PCV x)) (.agg (PCV y))).run Try.prog w = .ok (.bool (eqA (PCV x) (PCV y))) w := eql_of (TPCall_eq 9998 x y) w
theorem TPCall_neq (x y : PCall) (w : World) : (binOp .neq 42 (.agg (PCV x)) (.agg (PCV y))).run Try.prog w = .ok (.bool (!eqA (PCV x) (PCV y))) w := neq_of (TPCall_eq 9998 x y) w
theorem TPCall_ld0 (v : Value) : Instr.loadAt 42 v = loadSem 42 v := rfl
theorem TPCall_st0 (v u : Value) : Instr.storeAt 42 v u = storeSem 42 v u := rfl
theorem TPCall_fd0 (x : Value) (i : Nat) : Instr.field 42 x i = fieldSem 42 x i := rfl
theorem TPCall_bd0 (p : Array (Nat × Value)) : Instr.build 42 p = buildS 42 p := rfl
theorem TPCall_ld (w : World) (v : Value) : (loadSem 42 v).run Try.prog w = loadVal Try.prog 42 4 w v := load_val TPCall_und rfl (by kernel_rfl) w v
theorem TPCall_st (w : World) (v u : Value) : (storeSem 42 v u).run Try.prog w = storeVal Try.prog 42 4 w v u := store_val (by kernel_rfl) w v u
theorem TPCall_f_kind (x : PCall) (w : World) : (fieldSem 42 (.agg (PCV x)) 0).run Try.prog w = .ok (.int .i64 x.kind) w := field_of TPCall_und (by kernel_rfl) (part_cell Try.underlying3 rfl (by kernel_rfl) (TPCall_c0 x)) w
theorem TPCall_f_text (x : PCall) (w : World) : (fieldSem 42 (.agg (PCV x)) 1).run Try.prog w = .ok (.string x.text) w := field_of TPCall_und (by kernel_rfl) (part_cell Try.underlying9 rfl (by kernel_rfl) (TPCall_c1 x)) w
theorem TPCall_f_n (x : PCall) (w : World) : (fieldSem 42 (.agg (PCV x)) 2).run Try.prog w = .ok (.int .i64 x.n) w := field_of TPCall_und (by kernel_rfl) (part_cell Try.underlying3 rfl (by kernel_rfl) (TPCall_c2 x)) w
theorem TPCall_f_spoil (x : PCall) (w : World) : (fieldSem 42 (.agg (PCV x)) 3).run Try.prog w = .ok (.int .u8 x.spoil) w := field_of TPCall_und (by kernel_rfl) (part_cell Try.underlying5 rfl (by kernel_rfl) (TPCall_c3 x)) w
def TPCall_pl : Nat → Option (Nat × Nat) := fun i => (#[(0, 1), (1, 1), (2, 1), (3, 1)] : Array (Nat × Nat))[i]?
theorem TPCall_bd (w : World) (p : Array (Nat × Value)) : (buildS 42 p).run Try.prog w = buildOf Try.prog 42 TPCall_pl (PCV noPCall) p w := build_struct TPCall_und (by kernel_rfl) (fun w => by kernel_rfl) w p
theorem TPCall_fl (X : Array Value) : fillS TPCall_pl X [] = some X := rfl
theorem TPCall_fl_kind (x : PCall) (v : Int) (r : List (Nat × Value)) : fillS TPCall_pl (PCV x) ((0, .int .i64 v) :: r) = fillS TPCall_pl (PCV { x with kind := v }) r := rfl
theorem TPCall_fl_text (x : PCall) (v : ByteArray) (r : List (Nat × Value)) : fillS TPCall_pl (PCV x) ((1, .string v) :: r) = fillS TPCall_pl (PCV { x with text := v }) r := rfl
theorem TPCall_fl_n (x : PCall) (v : Int) (r : List (Nat × Value)) : fillS TPCall_pl (PCV x) ((2, .int .i64 v) :: r) = fillS TPCall_pl (PCV { x with n := v }) r := rfl
theorem TPCall_fl_spoil (x : PCall) (v : Int) (r : List (Nat × Value)) : fillS TPCall_pl (PCV x) ((3, .int .u8 v) :: r) = fillS TPCall_pl (PCV { x with spoil := v }) r := rfl
theorem TPCall_ret {fn : Func} {R : Ending → World → Prop} {a : Act} {w : World} {p : Tmp} (x : PCall) {g : Nat} (hr : fn.results = #[.cell p 42]) (hp : a.tmps.getD p undef = .pointer (some ⟨g, 0, none⟩)) (hdf : a.defers = []) (hrow : row? w g = some (PCV x)) (hR : R (.returned (.agg (PCV x))) w) : bodyPost Try.prog fn R .ret a w :=
  ret_row (PCV x) TPCall_und rfl (by kernel_rfl) hr hp hdf (TPCall_size x) hrow hR
end Go.Proofs.Ytdemkcfajeoaiaa
