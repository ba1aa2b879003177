/- Deed as a value, as cells: its parts, equality, loads, stores, building. Printed by types.py. -/
import Derived.Test.YtahajjfbkdocaaaStruct
import Derived.Test.YtahajjfbkdocaaaDeedB
namespace Go.Proofs.Ytahajjfbkdocaaa
open Go.RowKit
set_option linter.unusedVariables false
section
variable (x y : Deed)
theorem TDeed_size : (EV x).size = 6 := rfl
theorem TDeed_one : allOne (EV x) = true := by simp [allOne, EV, Value.oneCell']
theorem TDeed_piece : piece (EV x) 0 6 = EV x := piece_all _ _ rfl
theorem TDeed_c0 : (EV x)[0]? = some (.int .i64 x.kind) := rfl
theorem TDeed_c1 : (EV x)[1]? = some (.string x.key) := rfl
theorem TDeed_c2 : (EV x)[2]? = some (.string x.val) := rfl
theorem TDeed_c3 : (EV x)[3]? = some (.int .i64 x.ver) := rfl
theorem TDeed_c4 : (EV x)[4]? = some (.int .i64 x.ses) := rfl
theorem TDeed_c5 : (EV x)[5]? = some (.int .i64 x.num) := rfl
theorem TDeed_set_kind (v : Int) : (EV x).setIfInBounds 0 (.int .i64 v) = EV { x with kind := v } := rfl
theorem TDeed_set_key (v : ByteArray) : (EV x).setIfInBounds 1 (.string v) = EV { x with key := v } := rfl
theorem TDeed_set_val (v : ByteArray) : (EV x).setIfInBounds 2 (.string v) = EV { x with val := v } := rfl
theorem TDeed_set_ver (v : Int) : (EV x).setIfInBounds 3 (.int .i64 v) = EV { x with ver := v } := rfl
theorem TDeed_set_ses (v : Int) : (EV x).setIfInBounds 4 (.int .i64 v) = EV { x with ses := v } := rfl
theorem TDeed_set_num (v : Int) : (EV x).setIfInBounds 5 (.int .i64 v) = EV { x with num := v } := rfl
theorem TDeed_cat : EV x = #[.int .i64 x.kind] ++ #[.string x.key] ++ #[.string x.val] ++ #[.int .i64 x.ver] ++ #[.int .i64 x.ses] ++ #[.int .i64 x.num] := by kernel_rfl
theorem TDeed_ext : EV x = EV y ↔ x.kind = y.kind ∧ x.key = y.key ∧ x.val = y.val ∧ x.ver = y.ver ∧ x.ses = y.ses ∧ x.num = y.num := by
  constructor
  · intro h
    refine ⟨?_, ?_, ?_, ?_, ?_, ?_⟩
    · have := congrArg (·[0]?) h; simpa [TDeed_c0, TDeed_size] using this
    · have := congrArg (·[1]?) h; simpa [TDeed_c1, TDeed_size] using this
    · have := congrArg (·[2]?) h; simpa [TDeed_c2, TDeed_size] using this
    · have := congrArg (·[3]?) h; simpa [TDeed_c3, TDeed_size] using this
    · have := congrArg (·[4]?) h; simpa [TDeed_c4, TDeed_size] using this
    · have := congrArg (·[5]?) h; simpa [TDeed_c5, TDeed_size] using this
  · rintro ⟨h0, h1, h2, h3, h4, h5⟩
    rw [TDeed_cat x, TDeed_cat y, h0, h1, h2, h3, h4, h5]
end
theorem TDeed_und : Try.prog.underlying 32 = some (.struct (Try.prog.fieldsOf 32)) := by kernel_rfl
theorem TDeed_eq (d : Nat) (x y : Deed) (w : World) : (Op.equalIn (d + 2) 32 (.agg (EV x)) (.agg (EV y))).run Try.prog w = .ok (eqA (EV x) (EV y)) w := by
  refine eq_struct (d := d + 1) (L := [(3, 0, x.kind == y.kind), (9, 1, x.key.toList == y.key.toList), (9, 2, x.val.toList == y.val.toList), (3, 3, x.ver == y.ver), (3, 4, x.ses == y.ses), (3, 5, x.num == y.num)]) TDeed_und (by kernel_rfl) (by kernel_rfl) ?_ ?_ w
  · simp only [List.forall_mem_cons]
    exact ⟨⟨_, _, part_cell Try.underlying3 rfl (by kernel_rfl) (TDeed_c0 x), part_cell Try.underlying3 rfl (by kernel_rfl) (TDeed_c0 y), fun w => run_equalIn_int w (d + 0) _ _ _ _ _ Try.underlying3⟩, ⟨_, _, part_cell Try.underlying9 rfl (by kernel_rfl) (TDeed_c1 x), part_cell Try.underlying9 rfl (by kernel_rfl) (TDeed_c1 y), fun w => run_equalIn_string w (d + 0) _ _ _ Try.underlying9⟩, ⟨_, _, part_cell Try.underlying9 rfl (by kernel_rfl) (TDeed_c2 x), part_cell Try.underlying9 rfl (by kernel_rfl) (TDeed_c2 y), fun w => run_equalIn_string w (d + 0) _ _ _ Try.underlying9⟩, ⟨_, _, part_cell Try.underlying3 rfl (by kernel_rfl) (TDeed_c3 x), part_cell Try.underlying3 rfl (by kernel_rfl) (TDeed_c3 y), fun w => run_equalIn_int w (d + 0) _ _ _ _ _ Try.underlying3⟩, ⟨_, _, part_cell Try.underlying3 rfl (by kernel_rfl) (TDeed_c4 x), part_cell Try.underlying3 rfl (by kernel_rfl) (TDeed_c4 y), fun w => run_equalIn_int w (d + 0) _ _ _ _ _ Try.underlying3⟩, ⟨_, _, part_cell Try.underlying3 rfl (by kernel_rfl) (TDeed_c5 x), part_cell Try.underlying3 rfl (by kernel_rfl) (TDeed_c5 y), fun w => run_equalIn_int w (d + 0) _ _ _ _ _ Try.underlying3⟩, by simp⟩
  · refine eqA_of ?_
    rw [TDeed_ext]
    simp [toList_inj_iff]
theorem TDeed_eql (x y : Deed) (w : World) : (binOp .eql 32 (.agg (EV x)) (.agg (EV y))).run Try.prog w = .ok (.bool (eqA (EV x) (EV y))) w := eql_of (TDeed_eq 9998 x y) w
theorem TDeed_neq (x y : Deed) (w : World) : (binOp .neq 32 (.agg (EV x)) (.agg (EV y))).run Try.prog w = .ok (.bool (!eqA (EV x) (EV y))) w := neq_of (TDeed_eq 9998 x y) w
theorem TDeed_ld0 (v : Value) : Instr.loadAt 32 v = loadSem 32 v := rfl
theorem TDeed_st0 (v u : Value) : Instr.storeAt 32 v u = storeSem 32 v u := rfl
theorem TDeed_fd0 (x : Value) (i : Nat) : Instr.field 32 x i = fieldSem 32 x i := rfl
theorem TDeed_bd0 (p : Array (Nat × Value)) : Instr.build 32 p = buildS 32 p := rfl
theorem TDeed_ld (w : World) (v : Value) : (loadSem 32 v).run Try.prog w = loadVal Try.prog 32 6 w v := load_val TDeed_und rfl (by kernel_rfl) w v
theorem TDeed_st (w : World) (v u : Value) : (storeSem 32 v u).run Try.prog w = storeVal Try.prog 32 6 w v u := store_val (by kernel_rfl) w v u
theorem TDeed_f_kind (x : Deed) (w : World) : (fieldSem 32 (.agg (EV x)) 0).run Try.prog w = .ok (.int .i64 x.kind) w := field_of TDeed_und (by kernel_rfl) (part_cell Try.underlying3 rfl (by kernel_rfl) (TDeed_c0 x)) w
theorem TDeed_f_key (x : Deed) (w : World) : (fieldSem 32 (.agg (EV x)) 1).run Try.prog w = .ok (.string x.key) w := field_of TDeed_und (by kernel_rfl) (part_cell Try.underlying9 rfl (by kernel_rfl) (TDeed_c1 x)) w
theorem TDeed_f_val (x : Deed) (w : World) : (fieldSem 32 (.agg (EV x)) 2).run Try.prog w = .ok (.string x.val) w := field_of TDeed_und (by kernel_rfl) (part_cell Try.underlying9 rfl (by kernel_rfl) (TDeed_c2 x)) w
theorem TDeed_f_ver (x : Deed) (w : World) : (fieldSem 32 (.agg (EV x)) 3).run Try.prog w = .ok (.int .i64 x.ver) w := field_of TDeed_und (by kernel_rfl) (part_cell Try.underlying3 rfl (by kernel_rfl) (TDeed_c3 x)) w
theorem TDeed_f_ses (x : Deed) (w : World) : (fieldSem 32 (.agg (EV x)) 4).run Try.prog w = .ok (.int .i64 x.ses) w := field_of TDeed_und (by kernel_rfl) (part_cell Try.underlying3 rfl (by kernel_rfl) (TDeed_c4 x)) w
theorem TDeed_f_num (x : Deed) (w : World) : (fieldSem 32 (.agg (EV x)) 5).run Try.prog w = .ok (.int .i64 x.num) w := field_of TDeed_und (by kernel_rfl) (part_cell Try.underlying3 rfl (by kernel_rfl) (TDeed_c5 x)) w
def TDeed_pl : Nat → Option (Nat × Nat) := fun i => (#[(0, 1), (1, 1), (2, 1), (3, 1), (4, 1), (5, 1)] : Array (Nat × Nat))[i]?
theorem TDeed_bd (w : World) (p : Array (Nat × Value)) : (buildS 32 p).run Try.prog w = buildOf Try.prog 32 TDeed_pl (EV noDeed) p w := build_struct TDeed_und (by kernel_rfl) (fun w => by kernel_rfl) w p
theorem TDeed_fl (X : Array Value) : fillS TDeed_pl X [] = some X := rfl
theorem TDeed_fl_kind (x : Deed) (v : Int) (r : List (Nat × Value)) : fillS TDeed_pl (EV x) ((0, .int .i64 v) :: r) = fillS TDeed_pl (EV { x with kind := v }) r := rfl
theorem TDeed_fl_key (x : Deed) (v : ByteArray) (r : List (Nat × Value)) : fillS TDeed_pl (EV x) ((1, .string v) :: r) = fillS TDeed_pl (EV { x with key := v }) r := rfl
theorem TDeed_fl_val (x : Deed) (v : ByteArray) (r : List (Nat × Value)) : fillS TDeed_pl (EV x) ((2, .string v) :: r) = fillS TDeed_pl (EV { x with val := v }) r := rfl
theorem TDeed_fl_ver (x : Deed) (v : Int) (r : List (Nat × Value)) : fillS TDeed_pl (EV x) ((3, .int .i64 v) :: r) = fillS TDeed_pl (EV { x with ver := v }) r := rfl
theorem TDeed_fl_ses (x : Deed) (v : Int) (r : List (Nat × Value)) : fillS TDeed_pl (EV x) ((4, .int .i64 v) :: r) = fillS TDeed_pl (EV { x with ses := v }) r := rfl
theorem TDeed_fl_num (x : Deed) (v : Int) (r : List (Nat × Value)) : fillS TDeed_pl (EV x) ((5, .int .i64 v) :: r) = fillS TDeed_pl (EV { x with num := v }) r := rfl
theorem TDeed_ret {fn : Func} {R : Ending → World → Prop} {a : Act} {w : World} {p : Tmp} (x : Deed) {g : Nat} (hr : fn.results = #[.cell p 32]) (hp : a.tmps.getD p undef = .pointer (some ⟨g, 0, none⟩)) (hdf : a.defers = []) (hrow : row? w g = some (EV x)) (hR : R (.returned (.agg (EV x))) w) : bodyPost Try.prog fn R .ret a w :=
  ret_row (EV x) TDeed_und rfl (by kernel_rfl) hr hp hdf (TDeed_size x) hrow hR
end Go.Proofs.Ytahajjfbkdocaaa
