/- Several texts in one. -/
import Derived.Test.YtnjgjhjilolanaaH2
import Derived.Test.YtnjgjhjilolanaaH1
import Derived.SizedLaws
import Derived.Deep.AppendLies
import Derived.Deep.RegionHeld3
/- Deed as a value, as cells: its parts, equality, loads, stores, building. Printed by types.py. -/
namespace Go.Proofs.Ytnjgjhjilolanaa
open Go.RowKit
set_option linter.unusedVariables false
section
variable (x y : Deed)
theorem TDeed_size : (EV x).size = 6 := rfl
theorem TDeed_one : allOne (EV x) = true := by simp [allOne, EV, Value.oneCell']
theorem TDeed_piece : piece (EV x) 0 6 = EV x := piece_all _ _ rfl
theorem TDeed_c0 : (EV x)[0]? = some (.int .i64 x.kind) := rfl
theorem TDeed_c1 : (EV x)[1]? = some (.string x.key) := rfl
theorem TDeed_c2 : (EV x)[2]? = some (.string x.val) := rfl
theorem TDeed_c3 : (EV x)[3]? = some (.int .i64 x.ver) := rfl
theorem TDeed_c4 : (EV x)[4]? = some (.int .i64 x.ses) := rfl
theorem TDeed_c5 : (EV x)[5]? = some (.int .i64 x.num) := rfl
theorem TDeed_set_kind (v : Int) : (EV x).setIfInBounds 0 (.int .i64 v) = EV { x with kind := v } := rfl
theorem TDeed_set_key (v : ByteArray) : (EV x).setIfInBounds 1 (.string v) = EV { x with key := v } := rfl
theorem TDeed_set_val (v : ByteArray) : (EV x).setIfInBounds 2 (.string v) = EV { x with val := v } := rfl
theorem TDeed_set_ver (v : Int) : (EV x).setIfInBounds 3 (.int .i64 v) = EV { x with ver := v } := rfl
theorem TDeed_set_ses (v : Int) : (EV x).setIfInBounds 4 (.int .i64 v) = EV { x with ses := v } := rfl
theorem TDeed_set_num (v : Int) : (EV x).setIfInBounds 5 (.int .i64 v) = EV { x with num := v } := rfl
theorem TDeed_cat : EV x = #[.int .i64 x.kind] ++ #[.string x.key] ++ #[.string x.val] ++ #[.int .i64 x.ver] ++ #[.int .i64 x.ses] ++ #[.int .i64 x.num] := by kernel_rfl
theorem TDeed_ext : EV x = EV y ↔ x.kind = y.kind ∧ x.key = y.key ∧ x.val = y.val ∧ x.ver = y.ver ∧ x.ses = y.ses ∧ x.num = y.num := by
  constructor
  · intro h
    refine ⟨?_, ?_, ?_, ?_, ?_, ?_⟩
    · have := congrArg (·[0]?) h; simpa [TDeed_c0, TDeed_size] using this
    · have := congrArg (·[1]?) h; simpa [TDeed_c1, TDeed_size] using this
    · have := congrArg (·[2]?) h; simpa [TDeed_c2, TDeed_size] using this
    · have := congrArg (·[3]?) h; simpa [TDeed_c3, TDeed_size] using this
    · have := congrArg (·[4]?) h; simpa [TDeed_c4, TDeed_size] using this
    · have := congrArg (·[5]?) h; simpa [TDeed_c5, TDeed_size] using this
  · rintro ⟨h0, h1, h2, h3, h4, h5⟩
    rw [TDeed_cat x, TDeed_cat y, h0, h1, h2, h3, h4, h5]
end
theorem TDeed_und : Try.prog.underlying 43 = some (.struct (Try.prog.fieldsOf 43)) := by kernel_rfl
theorem TDeed_eq (d : Nat) (x y : Deed) (w : World) : (Op.equalIn (d + 2) 43 (.agg (EV x)) (.agg (EV y))).run Try.prog w = .ok (eqA (EV x) (EV y)) w := by
  refine eq_struct (d := d + 1) (L := [(3, 0, x.kind == y.kind), (9, 1, x.key.toList == y.key.toList), (9, 2, x.val.toList == y.val.toList), (3, 3, x.ver == y.ver), (3, 4, x.ses == y.ses), (3, 5, x.num == y.num)]) TDeed_und (by kernel_rfl) (by kernel_rfl) ?_ ?_ w
  · simp only [List.forall_mem_cons]
    exact ⟨⟨_, _, part_cell Try.underlying3 rfl (by kernel_rfl) (TDeed_c0 x), part_cell Try.underlying3 rfl (by kernel_rfl) (TDeed_c0 y), fun w => run_equalIn_int w (d + 0) _ _ _ _ _ Try.underlying3⟩, ⟨_, _, part_cell Try.underlying9 rfl (by kernel_rfl) (TDeed_c1 x), part_cell Try.underlying9 rfl (by kernel_rfl) (TDeed_c1 y), fun w => run_equalIn_string w (d + 0) _ _ _ Try.underlying9⟩, ⟨_, _, part_cell Try.underlying9 rfl (by kernel_rfl) (TDeed_c2 x), part_cell Try.underlying9 rfl (by kernel_rfl) (TDeed_c2 y), fun w => run_equalIn_string w (d + 0) _ _ _ Try.underlying9⟩, ⟨_, _, part_cell Try.underlying3 rfl (by kernel_rfl) (TDeed_c3 x), part_cell Try.underlying3 rfl (by kernel_rfl) (TDeed_c3 y), fun w => run_equalIn_int w (d + 0) _ _ _ _ _ Try.underlying3⟩, ⟨_, _, part_cell Try.underlying3 rfl (by kernel_rfl) (TDeed_c4 x), part_cell Try.underlying3 rfl (by kernel_rfl) (TDeed_c4 y), fun w => run_equalIn_int w (d + 0) _ _ _ _ _ Try.underlying3⟩, ⟨_, _, part_cell Try.underlying3 rfl (by kernel_rfl) (TDeed_c5 x), part_cell Try.underlying3 rfl (by kernel_rfl) (TDeed_c5 y), fun w => run_equalIn_int w (d + 0) _ _ _ _ _ Try.underlying3⟩, by simp⟩
  · refine eqA_of ?_
    rw [TDeed_ext]
    simp [toList_inj_iff]
theorem TDeed_eql (x y : Deed) (w : World) : (binOp .eql 43 (.agg (EV x)) (.agg (EV y))).run Try.prog w = .ok (.bool (eqA (EV x) (EV y))) w := eql_of (TDeed_eq 9998 x y) w
theorem TDeed_neq (x y : Deed) (w : World) : (binOp .neq 43 (.agg (EV x)) (.agg (EV y))).run Try.prog w = .ok (.bool (!eqA (EV x) (EV y))) w := neq_of (TDeed_eq 9998 x y) w
theorem TDeed_ld0 (v : Value) : Instr.loadAt 43 v = loadSem 43 v := rfl
theorem TDeed_st0 (v u : Value) : Instr.storeAt 43 v u = storeSem 43 v u := rfl
theorem TDeed_fd0 (x : Value) (i : Nat) : Instr.field 43 x i = fieldSem 43 x i := rfl
theorem TDeed_bd0 (p : Array (Nat × Value)) : Instr.build 43 p = buildS 43 p := rfl
theorem TDeed_ld (w : World) (v : Value) : (loadSem 43 v).run Try.prog w = loadVal Try.prog 43 6 w v := load_val TDeed_und rfl (by kernel_rfl) w v
theorem TDeed_st (w : World) (v u : Value) : (storeSem 43 v u).run Try.prog w = storeVal Try.prog 43 6 w v u := store_val (by kernel_rfl) w v u
theorem TDeed_f_kind (x : Deed) (w : World) : (fieldSem 43 (.agg (EV x)) 0).run Try.prog w = .ok (.int .i64 x.kind) w := field_of TDeed_und (by kernel_rfl) (part_cell Try.underlying3 rfl (by kernel_rfl) (TDeed_c0 x)) w
theorem TDeed_f_key (x : Deed) (w : World) : (fieldSem 43 (.agg (EV x)) 1).run Try.prog w = .ok (.string x.key) w := field_of TDeed_und (by kernel_rfl) (part_cell Try.underlying9 rfl (by kernel_rfl) (TDeed_c1 x)) w
theorem TDeed_f_val (x : Deed) (w : World) : (fieldSem 43 (.agg (EV x)) 2).run Try.prog w = .ok (.string x.val) w := field_of TDeed_und (by kernel_rfl) (part_cell Try.underlying9 rfl (by kernel_rfl) (TDeed_c2 x)) w
theorem TDeed_f_ver (x : Deed) (w : World) : (fieldSem 43 (.agg (EV x)) 3).run Try.prog w = .ok (.int .i64 x.ver) w := field_of TDeed_und (by kernel_rfl) (part_cell Try.underlying3 rfl (by kernel_rfl) (TDeed_c3 x)) w
theorem TDeed_f_ses (x : Deed) (w : World) : (fieldSem 43 (.agg (EV x)) 4).run Try.prog w = .ok (.int .i64 x.ses) w := field_of TDeed_und (by kernel_rfl) (part_cell Try.underlying3 rfl (by kernel_rfl) (TDeed_c4 x)) w
theorem TDeed_f_num (x : Deed) (w : World) : (fieldSem 43 (.agg (EV x)) 5).run Try.prog w = .ok (.int .i64 x.num) w := field_of TDeed_und (by kernel_rfl) (part_cell Try.underlying3 rfl (by kernel_rfl) (TDeed_c5 x)) w
def TDeed_pl : Nat → Option (Nat × Nat) := fun i => (#[(0, 1), (1, 1), (2, 1), (3, 1), (4, 1), (5, 1)] : Array (Nat × Nat))[i]?
theorem TDeed_bd (w : World) (p : Array (Nat × Value)) : (buildS 43 p).run Try.prog w = buildOf Try.prog 43 TDeed_pl (EV noDeed) p w := build_struct TDeed_und (by kernel_rfl) (fun w => by kernel_rfl) w p
theorem TDeed_fl (X : Array Value) : fillS TDeed_pl X [] = some X := rfl
theorem TDeed_fl_kind (x : Deed) (v : Int) (r : List (Nat × Value)) : fillS TDeed_pl (EV x) ((0, .int .i64 v) :: r) = fillS TDeed_pl (EV { x with kind := v }) r := rfl
theorem TDeed_fl_key (x : Deed) (v : ByteArray) (r : List (Nat × Value)) : fillS TDeed_pl (EV x) ((1, .string v) :: r) = fillS TDeed_pl (EV { x with key := v }) r := rfl
theorem TDeed_fl_val (x : Deed) (v : ByteArray) (r : List (Nat × Value)) : fillS TDeed_pl (EV x) ((2, .string v) :: r) = fillS TDeed_pl (EV { x with val := v }) r := rfl
theorem TDeed_fl_ver (x : Deed) (v : Int) (r : List (Nat × Value)) : fillS TDeed_pl (EV x) ((3, .int .i64 v) :: r) = fillS TDeed_pl (EV { x with ver := v }) r := rfl
theorem TDeed_fl_ses (x : Deed) (v : Int) (r : List (Nat × Value)) : fillS TDeed_pl (EV x) ((4, .int .i64 v) :: r) = fillS TDeed_pl (EV { x with ses := v }) r := rfl
theorem TDeed_fl_num (x : Deed) (v : Int) (r : List (Nat × Value)) : fillS TDeed_pl (EV x) ((5, .int .i64 v) :: r) = fillS TDeed_pl (EV { x with num := v }) r := rfl
end Go.Proofs.Ytnjgjhjilolanaa
/- Call as a value, as cells: its parts, equality, loads, stores, building. Printed by types.py. -/
namespace Go.Proofs.Ytnjgjhjilolanaa
open Go.RowKit
set_option linter.unusedVariables false
structure Call where
  deed : Deed
  deps : (Nat → Int)
  seq : Int
def CV (x : Call) : Array Value := #[.int .i64 x.deed.kind, .string x.deed.key, .string x.deed.val, .int .i64 x.deed.ver, .int .i64 x.deed.ses, .int .i64 x.deed.num, .int .i64 (x.deps 0), .int .i64 (x.deps 1), .int .i64 (x.deps 2), .int .i64 (x.deps 3), .int .i64 (x.deps 4), .int .i64 (x.deps 5), .int .i64 (x.deps 6), .int .i64 x.seq]
def noCall : Call := ⟨noDeed, (fun _ => 0), 0⟩
section
variable (x y : Call)
theorem TCall_size : (CV x).size = 14 := rfl
theorem TCall_one : allOne (CV x) = true := by simp [allOne, CV, Value.oneCell']
theorem TCall_piece : piece (CV x) 0 14 = CV x := piece_all _ _ rfl
theorem TCall_c0 : (CV x)[0]? = some (.int .i64 x.deed.kind) := rfl
theorem TCall_c1 : (CV x)[1]? = some (.string x.deed.key) := rfl
theorem TCall_c2 : (CV x)[2]? = some (.string x.deed.val) := rfl
theorem TCall_c3 : (CV x)[3]? = some (.int .i64 x.deed.ver) := rfl
theorem TCall_c4 : (CV x)[4]? = some (.int .i64 x.deed.ses) := rfl
theorem TCall_c5 : (CV x)[5]? = some (.int .i64 x.deed.num) := rfl
theorem TCall_c6 : (CV x)[6]? = some (.int .i64 (x.deps 0)) := rfl
theorem TCall_c7 : (CV x)[7]? = some (.int .i64 (x.deps 1)) := rfl
theorem TCall_c8 : (CV x)[8]? = some (.int .i64 (x.deps 2)) := rfl
theorem TCall_c9 : (CV x)[9]? = some (.int .i64 (x.deps 3)) := rfl
theorem TCall_c10 : (CV x)[10]? = some (.int .i64 (x.deps 4)) := rfl
theorem TCall_c11 : (CV x)[11]? = some (.int .i64 (x.deps 5)) := rfl
theorem TCall_c12 : (CV x)[12]? = some (.int .i64 (x.deps 6)) := rfl
theorem TCall_c13 : (CV x)[13]? = some (.int .i64 x.seq) := rfl
theorem TCall_p_deed : piece (CV x) 0 6 = EV x.deed := by kernel_rfl
theorem TCall_put_deed (v : Deed) : splice (CV x) 0 (EV v) = CV { x with deed := v } := by kernel_rfl
theorem TCall_p_deps : piece (CV x) 6 7 = DV x.deps := by kernel_rfl
theorem TCall_put_deps (v : (Nat → Int)) : splice (CV x) 6 (DV v) = CV { x with deps := v } := by kernel_rfl
theorem TCall_set_seq (v : Int) : (CV x).setIfInBounds 13 (.int .i64 v) = CV { x with seq := v } := rfl
theorem TCall_deps (i : Nat) (h : i < 7) : (CV x)[6 + i]? = some (.int .i64 (x.deps i)) := by
  match i, h with
  | 0, _ => rfl
  | 1, _ => rfl
  | 2, _ => rfl
  | 3, _ => rfl
  | 4, _ => rfl
  | 5, _ => rfl
  | 6, _ => rfl
theorem TCall_cat : CV x = EV x.deed ++ DV x.deps ++ #[.int .i64 x.seq] := by kernel_rfl
theorem TCall_ext : CV x = CV y ↔ EV x.deed = EV y.deed ∧ DV x.deps = DV y.deps ∧ x.seq = y.seq := by
  constructor
  · intro h
    refine ⟨?_, ?_, ?_⟩
    · have := congrArg (fun c => piece c 0 6) h; simpa only [TCall_p_deed] using this
    · have := congrArg (fun c => piece c 6 7) h; simpa only [TCall_p_deps] using this
    · have := congrArg (·[13]?) h; simpa [TCall_c13, TCall_size] using this
  · rintro ⟨h0, h1, h2⟩
    rw [TCall_cat x, TCall_cat y, h0, h1, h2]
end
theorem TCall_und : Try.prog.underlying 47 = some (.struct (Try.prog.fieldsOf 47)) := by kernel_rfl
theorem TCall_eq (d : Nat) (x y : Call) (w : World) : (Op.equalIn (d + 3) 47 (.agg (CV x)) (.agg (CV y))).run Try.prog w = .ok (eqA (CV x) (CV y)) w := by
  refine eq_struct (d := d + 2) (L := [(43, 0, eqA (EV x.deed) (EV y.deed)), (45, 6, eqA (DV x.deps) (DV y.deps)), (3, 13, x.seq == y.seq)]) TCall_und (by kernel_rfl) (by kernel_rfl) ?_ ?_ w
  · simp only [List.forall_mem_cons]
    exact ⟨⟨_, _, fun w => by rw [part_row TDeed_und rfl (by kernel_rfl) (n := 6), TCall_p_deed], fun w => by rw [part_row TDeed_und rfl (by kernel_rfl) (n := 6), TCall_p_deed], fun w => TDeed_eq (d + 0) x.deed y.deed w⟩, ⟨_, _, fun w => by rw [part_row Try.underlying45 rfl (by kernel_rfl) (n := 7), TCall_p_deps], fun w => by rw [part_row Try.underlying45 rfl (by kernel_rfl) (n := 7), TCall_p_deps], fun w => TDeps_eq (d + 0) x.deps y.deps w⟩, ⟨_, _, part_cell Try.underlying3 rfl (by kernel_rfl) (TCall_c13 x), part_cell Try.underlying3 rfl (by kernel_rfl) (TCall_c13 y), fun w => run_equalIn_int w (d + 1) _ _ _ _ _ Try.underlying3⟩, by simp⟩
  · refine eqA_of ?_
    rw [TCall_ext]
    simp [eqA_iff]
theorem TCall_eql (x y : Call) (w : World) : (binOp .eql 47 (.agg (CV x)) (.agg (CV y))).run Try.prog w = .ok (.bool (eqA (CV x) (CV y))) w := eql_of (TCall_eq 9997 x y) w
theorem TCall_neq (x y : Call) (w : World) : (binOp .neq 47 (.agg (CV x)) (.agg (CV y))).run Try.prog w = .ok (.bool (!eqA (CV x) (CV y))) w := neq_of (TCall_eq 9997 x y) w
theorem TCall_ld0 (v : Value) : Instr.loadAt 47 v = loadSem 47 v := rfl
theorem TCall_st0 (v u : Value) : Instr.storeAt 47 v u = storeSem 47 v u := rfl
theorem TCall_fd0 (x : Value) (i : Nat) : Instr.field 47 x i = fieldSem 47 x i := rfl
theorem TCall_bd0 (p : Array (Nat × Value)) : Instr.build 47 p = buildS 47 p := rfl
theorem TCall_ld (w : World) (v : Value) : (loadSem 47 v).run Try.prog w = loadVal Try.prog 47 14 w v := load_val TCall_und rfl (by kernel_rfl) w v
theorem TCall_st (w : World) (v u : Value) : (storeSem 47 v u).run Try.prog w = storeVal Try.prog 47 14 w v u := store_val (by kernel_rfl) w v u
theorem TCall_f_deed (x : Call) (w : World) : (fieldSem 47 (.agg (CV x)) 0).run Try.prog w = .ok (.agg (EV x.deed)) w := field_of TCall_und (by kernel_rfl) (fun w => by rw [part_row TDeed_und rfl (by kernel_rfl) (n := 6), TCall_p_deed]) w
theorem TCall_f_deps (x : Call) (w : World) : (fieldSem 47 (.agg (CV x)) 1).run Try.prog w = .ok (.agg (DV x.deps)) w := field_of TCall_und (by kernel_rfl) (fun w => by rw [part_row Try.underlying45 rfl (by kernel_rfl) (n := 7), TCall_p_deps]) w
theorem TCall_f_seq (x : Call) (w : World) : (fieldSem 47 (.agg (CV x)) 2).run Try.prog w = .ok (.int .i64 x.seq) w := field_of TCall_und (by kernel_rfl) (part_cell Try.underlying3 rfl (by kernel_rfl) (TCall_c13 x)) w
def TCall_pl : Nat → Option (Nat × Nat) := fun i => (#[(0, 6), (6, 7), (13, 1)] : Array (Nat × Nat))[i]?
theorem TCall_bd (w : World) (p : Array (Nat × Value)) : (buildS 47 p).run Try.prog w = buildOf Try.prog 47 TCall_pl (CV noCall) p w := build_struct TCall_und (by kernel_rfl) (fun w => by kernel_rfl) w p
theorem TCall_fl (X : Array Value) : fillS TCall_pl X [] = some X := rfl
theorem TCall_fl_deed (x : Call) (v : Deed) (r : List (Nat × Value)) : fillS TCall_pl (CV x) ((0, .agg (EV v)) :: r) = fillS TCall_pl (CV { x with deed := v }) r := by
  show Instr.fill _ _ _ = Instr.fill _ _ _
  rw [fill_cons TCall_pl (CV x) (EV v) 0 0 6 r rfl rfl (by show _ ≤ 14; omega), TCall_put_deed]
theorem TCall_fl_deps (x : Call) (v : (Nat → Int)) (r : List (Nat × Value)) : fillS TCall_pl (CV x) ((1, .agg (DV v)) :: r) = fillS TCall_pl (CV { x with deps := v }) r := by
  show Instr.fill _ _ _ = Instr.fill _ _ _
  rw [fill_cons TCall_pl (CV x) (DV v) 1 6 7 r rfl rfl (by show _ ≤ 14; omega), TCall_put_deps]
theorem TCall_fl_seq (x : Call) (v : Int) (r : List (Nat × Value)) : fillS TCall_pl (CV x) ((2, .int .i64 v) :: r) = fillS TCall_pl (CV { x with seq := v }) r := rfl
end Go.Proofs.Ytnjgjhjilolanaa
/- RStep as a value, as cells: its parts, equality, loads, stores, building. Printed by types.py. -/
namespace Go.Proofs.Ytnjgjhjilolanaa
open Go.RowKit
set_option linter.unusedVariables false
structure RStep where
  item : Item
  call : Call
  goes : Bool
def RSV (x : RStep) : Array Value := #[.int .i64 x.item.rep, .int .i64 x.item.num, .int .i64 x.call.deed.kind, .string x.call.deed.key, .string x.call.deed.val, .int .i64 x.call.deed.ver, .int .i64 x.call.deed.ses, .int .i64 x.call.deed.num, .int .i64 (x.call.deps 0), .int .i64 (x.call.deps 1), .int .i64 (x.call.deps 2), .int .i64 (x.call.deps 3), .int .i64 (x.call.deps 4), .int .i64 (x.call.deps 5), .int .i64 (x.call.deps 6), .int .i64 x.call.seq, .bool x.goes]
def noRStep : RStep := ⟨noItem, noCall, false⟩
section
variable (x y : RStep)
theorem TRStep_size : (RSV x).size = 17 := rfl
theorem TRStep_one : allOne (RSV x) = true := by simp [allOne, RSV, Value.oneCell']
theorem TRStep_piece : piece (RSV x) 0 17 = RSV x := piece_all _ _ rfl
theorem TRStep_c0 : (RSV x)[0]? = some (.int .i64 x.item.rep) := rfl
theorem TRStep_c1 : (RSV x)[1]? = some (.int .i64 x.item.num) := rfl
theorem TRStep_c2 : (RSV x)[2]? = some (.int .i64 x.call.deed.kind) := rfl
theorem TRStep_c3 : (RSV x)[3]? = some (.string x.call.deed.key) := rfl
theorem TRStep_c4 : (RSV x)[4]? = some (.string x.call.deed.val) := rfl
theorem TRStep_c5 : (RSV x)[5]? = some (.int .i64 x.call.deed.ver) := rfl
theorem TRStep_c6 : (RSV x)[6]? = some (.int .i64 x.call.deed.ses) := rfl
theorem TRStep_c7 : (RSV x)[7]? = some (.int .i64 x.call.deed.num) := rfl
theorem TRStep_c8 : (RSV x)[8]? = some (.int .i64 (x.call.deps 0)) := rfl
theorem TRStep_c9 : (RSV x)[9]? = some (.int .i64 (x.call.deps 1)) := rfl
theorem TRStep_c10 : (RSV x)[10]? = some (.int .i64 (x.call.deps 2)) := rfl
theorem TRStep_c11 : (RSV x)[11]? = some (.int .i64 (x.call.deps 3)) := rfl
theorem TRStep_c12 : (RSV x)[12]? = some (.int .i64 (x.call.deps 4)) := rfl
theorem TRStep_c13 : (RSV x)[13]? = some (.int .i64 (x.call.deps 5)) := rfl
theorem TRStep_c14 : (RSV x)[14]? = some (.int .i64 (x.call.deps 6)) := rfl
theorem TRStep_c15 : (RSV x)[15]? = some (.int .i64 x.call.seq) := rfl
theorem TRStep_c16 : (RSV x)[16]? = some (.bool x.goes) := rfl
theorem TRStep_p_item : piece (RSV x) 0 2 = IV x.item := by kernel_rfl
theorem TRStep_put_item (v : Item) : splice (RSV x) 0 (IV v) = RSV { x with item := v } := by kernel_rfl
theorem TRStep_p_call : piece (RSV x) 2 14 = CV x.call := by kernel_rfl
theorem TRStep_put_call (v : Call) : splice (RSV x) 2 (CV v) = RSV { x with call := v } := by kernel_rfl
theorem TRStep_set_goes (v : Bool) : (RSV x).setIfInBounds 16 (.bool v) = RSV { x with goes := v } := rfl
theorem TRStep_cat : RSV x = IV x.item ++ CV x.call ++ #[.bool x.goes] := by kernel_rfl
theorem TRStep_ext : RSV x = RSV y ↔ IV x.item = IV y.item ∧ CV x.call = CV y.call ∧ x.goes = y.goes := by
  constructor
  · intro h
    refine ⟨?_, ?_, ?_⟩
    · have := congrArg (fun c => piece c 0 2) h; simpa only [TRStep_p_item] using this
    · have := congrArg (fun c => piece c 2 14) h; simpa only [TRStep_p_call] using this
    · have := congrArg (·[16]?) h; simpa [TRStep_c16, TRStep_size] using this
  · rintro ⟨h0, h1, h2⟩
    rw [TRStep_cat x, TRStep_cat y, h0, h1, h2]
end
theorem TRStep_und : Try.prog.underlying 59 = some (.struct (Try.prog.fieldsOf 59)) := by kernel_rfl
theorem TRStep_eq (d : Nat) (x y : RStep) (w : World) : (Op.equalIn (d + 4) 59 (.agg (RSV x)) (.agg (RSV y))).run Try.prog w = .ok (eqA (RSV x) (RSV y)) w := by
  refine eq_struct (d := d + 3) (L := [(35, 0, eqA (IV x.item) (IV y.item)), (47, 2, eqA (CV x.call) (CV y.call)), (4, 16, x.goes == y.goes)]) TRStep_und (by kernel_rfl) (by kernel_rfl) ?_ ?_ w
  · simp only [List.forall_mem_cons]
    exact ⟨⟨_, _, fun w => by rw [part_row TItem_und rfl (by kernel_rfl) (n := 2), TRStep_p_item], fun w => by rw [part_row TItem_und rfl (by kernel_rfl) (n := 2), TRStep_p_item], fun w => TItem_eq (d + 1) x.item y.item w⟩, ⟨_, _, fun w => by rw [part_row TCall_und rfl (by kernel_rfl) (n := 14), TRStep_p_call], fun w => by rw [part_row TCall_und rfl (by kernel_rfl) (n := 14), TRStep_p_call], fun w => TCall_eq (d + 0) x.call y.call w⟩, ⟨_, _, part_cell Try.underlying4 rfl (by kernel_rfl) (TRStep_c16 x), part_cell Try.underlying4 rfl (by kernel_rfl) (TRStep_c16 y), fun w => run_equalIn_bool' w (d + 2) _ _ _ Try.underlying4⟩, by simp⟩
  · refine eqA_of ?_
    rw [TRStep_ext]
    simp [eqA_iff]
theorem TRStep_eql (x y : RStep) (w : World) : (binOp .eql 59 (.agg (RSV x)) (.agg (RSV y))).run Try.prog w = .ok (.bool (eqA (RSV x) (RSV y))) w := eql_of (TRStep_eq 9996 x y) w
theorem TRStep_neq (x y : RStep) (w : World) : (binOp .neq 59 (.agg (RSV x)) (.agg (RSV y))).run Try.prog w = .ok (.bool (!eqA (RSV x) (RSV y))) w := neq_of (TRStep_eq 9996 x y) w
theorem TRStep_ld0 (v : Value) : Instr.loadAt 59 v = loadSem 59 v := rfl
theorem TRStep_st0 (v u : Value) : Instr.storeAt 59 v u = storeSem 59 v u := rfl
theorem TRStep_fd0 (x : Value) (i : Nat) : Instr.field 59 x i = fieldSem 59 x i := rfl
theorem TRStep_bd0 (p : Array (Nat × Value)) : Instr.build 59 p = buildS 59 p := rfl
theorem TRStep_ld (w : World) (v : Value) : (loadSem 59 v).run Try.prog w = loadVal Try.prog 59 17 w v := load_val TRStep_und rfl (by kernel_rfl) w v
theorem TRStep_st (w : World) (v u : Value) : (storeSem 59 v u).run Try.prog w = storeVal Try.prog 59 17 w v u := store_val (by kernel_rfl) w v u
theorem TRStep_f_item (x : RStep) (w : World) : (fieldSem 59 (.agg (RSV x)) 0).run Try.prog w = .ok (.agg (IV x.item)) w := field_of TRStep_und (by kernel_rfl) (fun w => by rw [part_row TItem_und rfl (by kernel_rfl) (n := 2), TRStep_p_item]) w
theorem TRStep_f_call (x : RStep) (w : World) : (fieldSem 59 (.agg (RSV x)) 1).run Try.prog w = .ok (.agg (CV x.call)) w := field_of TRStep_und (by kernel_rfl) (fun w => by rw [part_row TCall_und rfl (by kernel_rfl) (n := 14), TRStep_p_call]) w
theorem TRStep_f_goes (x : RStep) (w : World) : (fieldSem 59 (.agg (RSV x)) 2).run Try.prog w = .ok (.bool x.goes) w := field_of TRStep_und (by kernel_rfl) (part_cell Try.underlying4 rfl (by kernel_rfl) (TRStep_c16 x)) w
def TRStep_pl : Nat → Option (Nat × Nat) := fun i => (#[(0, 2), (2, 14), (16, 1)] : Array (Nat × Nat))[i]?
theorem TRStep_bd (w : World) (p : Array (Nat × Value)) : (buildS 59 p).run Try.prog w = buildOf Try.prog 59 TRStep_pl (RSV noRStep) p w := build_struct TRStep_und (by kernel_rfl) (fun w => by kernel_rfl) w p
theorem TRStep_fl (X : Array Value) : fillS TRStep_pl X [] = some X := rfl
theorem TRStep_fl_item (x : RStep) (v : Item) (r : List (Nat × Value)) : fillS TRStep_pl (RSV x) ((0, .agg (IV v)) :: r) = fillS TRStep_pl (RSV { x with item := v }) r := by
  show Instr.fill _ _ _ = Instr.fill _ _ _
  rw [fill_cons TRStep_pl (RSV x) (IV v) 0 0 2 r rfl rfl (by show _ ≤ 17; omega), TRStep_put_item]
theorem TRStep_fl_call (x : RStep) (v : Call) (r : List (Nat × Value)) : fillS TRStep_pl (RSV x) ((1, .agg (CV v)) :: r) = fillS TRStep_pl (RSV { x with call := v }) r := by
  show Instr.fill _ _ _ = Instr.fill _ _ _
  rw [fill_cons TRStep_pl (RSV x) (CV v) 1 2 14 r rfl rfl (by show _ ≤ 17; omega), TRStep_put_call]
theorem TRStep_fl_goes (x : RStep) (v : Bool) (r : List (Nat × Value)) : fillS TRStep_pl (RSV x) ((2, .bool v) :: r) = fillS TRStep_pl (RSV { x with goes := v }) r := rfl
end Go.Proofs.Ytnjgjhjilolanaa
/- What comes in as Item. Printed by types.py. -/
namespace Go.Proofs.Ytnjgjhjilolanaa
open Go.ChangeShapes Go.WideShapes Go.ChangeAt Go.RowKit Go.WideMaps Go.WideElems Go.Joins
open Go.ChangeMaps (open_string)
set_option linter.unusedVariables false
set_option maxRecDepth 20000
structure ItemFits (x : Item) : Prop where
  rep : Fits x.rep
  num : Fits x.num
section
variable {H : Type} {enc : TypeId × Value → H} {w : World} {base : Nat} {sp : Nat → Bool} {held : Bool} {r : Reach} {b0 : Nat} {v : Value} {d : DataW H} {p : List MemPlace}
theorem trod_Item {fuel : Nat} {cs : List Value} {x : DataW H × List MemPlace} (h : DataW.trod enc Try.prog w base sp held fuel 35 cs = some x) :
    ∃ X : Item, cs = (IV X).toList ∧ ItemFits X := by
  obtain ⟨xs, n, _, hx, hlen, hxl, hg⟩ := DataW.trod_struct Try.underlying35 h
  have hC : Try.prog.cellsOf 35 = 2 := by kernel_rfl
  rw [hC] at hlen
  match xs, hxl with
  | [y0, y1], _ =>
    subst hx
    have c0 : Try.prog.cellsOf 3 = 1 := by kernel_rfl
    have g0 : DataW.trod enc Try.prog w base sp held n 3 ((cs.drop 0).take (Try.prog.cellsOf 3)) = some y0 := hg 0 _ rfl
    rw [c0] at g0
    obtain ⟨n0, e0, f0, w0⟩ := DataW.trod_int Try.underlying3 g0
    have c1 : Try.prog.cellsOf 3 = 1 := by kernel_rfl
    have g1 : DataW.trod enc Try.prog w base sp held n 3 ((cs.drop 1).take (Try.prog.cellsOf 3)) = some y1 := hg 1 _ rfl
    rw [c1] at g1
    obtain ⟨n1, e1, f1, w1⟩ := DataW.trod_int Try.underlying3 g1
    have ee : cs = (cs.drop 0).take 1 ++ ((cs.drop 1).take 1 ++ cs.drop 2) := by
      exact (List.drop_zero (l := cs)).symm.trans ((seg cs 0 1).trans (congrArg (_ ++ ·) (seg cs 1 1)))
    rw [e0, e1, List.drop_eq_nil_of_le (by omega)] at ee
    exact ⟨⟨n0, n1⟩, ee, ⟨fits_of w0, fits_of w1⟩⟩
end
end Go.Proofs.Ytnjgjhjilolanaa
/- What comes in as a deed. -/
namespace Go.Proofs.Ytnjgjhjilolanaa
open Go.ChangeShapes Go.WideShapes Go.ChangeAt Go.RowKit Go.WideMaps Go.WideElems Go.Joins
open Go.ChangeMaps (open_string)
set_option maxRecDepth 20000
section
variable {H : Type} {enc : TypeId × Value → H} {w : World} {base : Nat} {sp : Nat → Bool} {held : Bool} {r : Reach} {b0 : Nat} {v : Value} {d : DataW H} {p : List MemPlace}
structure DeedFits (d : Deed) : Prop where
  kind : Fits d.kind
  ver : Fits d.ver
  ses : Fits d.ses
  num : Fits d.num
  key : d.key.size ≤ 140737488351232
  val : d.val.size ≤ 140737488351232
theorem trod_deed {fuel : Nat} {cs : List Value} {x : DataW H × List MemPlace} (h : DataW.trod enc Try.prog w base sp held fuel 43 cs = some x) (hw : ∀ n ∈ x.1.weights Try.prog 43, n ≤ reachBytes) :
    ∃ D : Deed, cs = (EV D).toList ∧ DeedFits D := by
  obtain ⟨xs, n, _, hx, hlen, hxl, hg⟩ := DataW.trod_struct Try.underlying43 h
  have hC : Try.prog.cellsOf 43 = 6 := by kernel_rfl
  have hC1 : Try.prog.cellsOf 3 = 1 := by kernel_rfl
  have hC2 : Try.prog.cellsOf 9 = 1 := by kernel_rfl
  rw [hC] at hlen
  match cs, hlen, xs, hxl with
  | [c0, c1, c2, c3, c4, c5], _, [y0, y1, y2, y3, y4, y5], _ =>
    have g0 : DataW.trod enc Try.prog w base sp held n 3 (([c0, c1, c2, c3, c4, c5].drop 0).take (Try.prog.cellsOf 3)) = some y0 := hg 0 _ rfl
    rw [hC1] at g0
    have g1 : DataW.trod enc Try.prog w base sp held n 9 (([c0, c1, c2, c3, c4, c5].drop 1).take (Try.prog.cellsOf 9)) = some y1 := hg 1 _ rfl
    rw [hC2] at g1
    have g2 : DataW.trod enc Try.prog w base sp held n 9 (([c0, c1, c2, c3, c4, c5].drop 2).take (Try.prog.cellsOf 9)) = some y2 := hg 2 _ rfl
    rw [hC2] at g2
    have g3 : DataW.trod enc Try.prog w base sp held n 3 (([c0, c1, c2, c3, c4, c5].drop 3).take (Try.prog.cellsOf 3)) = some y3 := hg 3 _ rfl
    rw [hC1] at g3
    have g4 : DataW.trod enc Try.prog w base sp held n 3 (([c0, c1, c2, c3, c4, c5].drop 4).take (Try.prog.cellsOf 3)) = some y4 := hg 4 _ rfl
    rw [hC1] at g4
    have g5 : DataW.trod enc Try.prog w base sp held n 3 (([c0, c1, c2, c3, c4, c5].drop 5).take (Try.prog.cellsOf 3)) = some y5 := hg 5 _ rfl
    rw [hC1] at g5
    obtain ⟨n0, e0, f0, w0⟩ := DataW.trod_int Try.underlying3 g0
    obtain ⟨n1, e1, f1, w1⟩ := DataW.trod_string Try.underlying9 g1
    obtain ⟨n2, e2, f2, w2⟩ := DataW.trod_string Try.underlying9 g2
    obtain ⟨n3, e3, f3, w3⟩ := DataW.trod_int Try.underlying3 g3
    obtain ⟨n4, e4, f4, w4⟩ := DataW.trod_int Try.underlying3 g4
    obtain ⟨n5, e5, f5, w5⟩ := DataW.trod_int Try.underlying3 g5
    simp at e0 e1 e2 e3 e4 e5
    subst e0 e1 e2 e3 e4 e5 f0 f1 f2 f3 f4 f5
    subst hx
    have hk := hw n1.data.toList.length (by simp [DataW.weights, Try.underlying43, DataW.weightsEach])
    have hv := hw n2.data.toList.length (by simp [DataW.weights, Try.underlying43, DataW.weightsEach])
    have hr : reachBytes = 140737488351232 := rfl
    rw [hr, Array.length_toList] at hk hv
    exact ⟨⟨n0, n1, n2, n3, n4, n5⟩, rfl, ⟨fits_of w0, fits_of w3, fits_of w4, fits_of w5, hk, hv⟩⟩
end
end Go.Proofs.Ytnjgjhjilolanaa
/- What comes in as a row of numbers. -/
namespace Go.Proofs.Ytnjgjhjilolanaa
open Go.ChangeShapes Go.WideShapes Go.ChangeAt Go.RowKit Go.WideMaps Go.WideElems Go.Joins
set_option linter.unusedVariables false
set_option maxRecDepth 20000
section
variable {H : Type} {enc : TypeId × Value → H} {w : World} {base : Nat} {sp : Nat → Bool} {held : Bool} {r : Reach} {b0 : Nat} {v : Value} {d : DataW H} {p : List MemPlace}
theorem trod_Deps {fuel : Nat} {cs : List Value} {x : DataW H × List MemPlace} (hf : DataW.trod enc Try.prog w base sp held fuel 45 cs = some x) :
    ∃ X : Nat → Int, cs = (DV X).toList ∧ ∀ i, i < 7 → Fits (X i) := by
  have hC : Try.prog.cellsOf 45 = 7 := by kernel_rfl
  have hC1 : Try.prog.cellsOf 3 = 1 := by kernel_rfl
  obtain ⟨xs, m, _, _, hlen, hxl, hg⟩ := DataW.trod_array Try.underlying45 hf
  rw [hC] at hlen
  match cs, hlen with
  | [c0, c1, c2, c3, c4, c5, c6], _ =>
    have key : ∀ i, i < 7 → ∃ n, ([c0, c1, c2, c3, c4, c5, c6].drop i).take 1 = [.int .i64 n] ∧ (Lit.int .i64 n).wf = true := fun i hi => by
      have h1 := hg i hi
      rw [hC1, Nat.mul_one] at h1
      have : ∃ y, xs[i]? = some y := ⟨xs[i]'(by omega), List.getElem?_eq_getElem (by omega)⟩
      obtain ⟨y, hy⟩ := this
      obtain ⟨n, e1, _, e2⟩ := DataW.trod_int Try.underlying3 (h1.trans hy)
      exact ⟨n, by simpa using e1, e2⟩
    obtain ⟨n0, e0, w0⟩ := key 0 (by omega)
    obtain ⟨n1, e1, w1⟩ := key 1 (by omega)
    obtain ⟨n2, e2, w2⟩ := key 2 (by omega)
    obtain ⟨n3, e3, w3⟩ := key 3 (by omega)
    obtain ⟨n4, e4, w4⟩ := key 4 (by omega)
    obtain ⟨n5, e5, w5⟩ := key 5 (by omega)
    obtain ⟨n6, e6, w6⟩ := key 6 (by omega)
    simp at e0 e1 e2 e3 e4 e5 e6
    subst e0 e1 e2 e3 e4 e5 e6
    refine ⟨fun i => [n0, n1, n2, n3, n4, n5, n6].getD i 0, rfl, fun i hi => ?_⟩
    match i, hi with
    | 0, _ => exact fits_of w0
    | 1, _ => exact fits_of w1
    | 2, _ => exact fits_of w2
    | 3, _ => exact fits_of w3
    | 4, _ => exact fits_of w4
    | 5, _ => exact fits_of w5
    | 6, _ => exact fits_of w6
end
end Go.Proofs.Ytnjgjhjilolanaa
/- What comes in as Call. Printed by types.py. -/
namespace Go.Proofs.Ytnjgjhjilolanaa
open Go.ChangeShapes Go.WideShapes Go.ChangeAt Go.RowKit Go.WideMaps Go.WideElems Go.Joins
open Go.ChangeMaps (open_string)
set_option linter.unusedVariables false
set_option maxRecDepth 20000
structure CallFits (x : Call) : Prop where
  deed : DeedFits x.deed
  deps : ∀ i, i < 7 → Fits (x.deps i)
  seq : Fits x.seq
section
variable {H : Type} {enc : TypeId × Value → H} {w : World} {base : Nat} {sp : Nat → Bool} {held : Bool} {r : Reach} {b0 : Nat} {v : Value} {d : DataW H} {p : List MemPlace}
theorem trod_Call {fuel : Nat} {cs : List Value} {x : DataW H × List MemPlace} (h : DataW.trod enc Try.prog w base sp held fuel 47 cs = some x) (hw : ∀ n ∈ x.1.weights Try.prog 47, n ≤ reachBytes) :
    ∃ X : Call, cs = (CV X).toList ∧ CallFits X := by
  obtain ⟨xs, n, _, hx, hlen, hxl, hg⟩ := DataW.trod_struct Try.underlying47 h
  have hC : Try.prog.cellsOf 47 = 14 := by kernel_rfl
  rw [hC] at hlen
  match xs, hxl with
  | [y0, y1, y2], _ =>
    subst hx
    have c0 : Try.prog.cellsOf 43 = 6 := by kernel_rfl
    have g0 : DataW.trod enc Try.prog w base sp held n 43 ((cs.drop 0).take (Try.prog.cellsOf 43)) = some y0 := hg 0 _ rfl
    rw [c0] at g0
    obtain ⟨n0, e0, w0⟩ := trod_deed g0 (fun m hm => hw m (by simp [DataW.weights, Try.underlying47, DataW.weightsEach]; simp_all))
    have c1 : Try.prog.cellsOf 45 = 7 := by kernel_rfl
    have g1 : DataW.trod enc Try.prog w base sp held n 45 ((cs.drop 6).take (Try.prog.cellsOf 45)) = some y1 := hg 1 _ rfl
    rw [c1] at g1
    obtain ⟨n1, e1, w1⟩ := trod_Deps g1
    have c2 : Try.prog.cellsOf 3 = 1 := by kernel_rfl
    have g2 : DataW.trod enc Try.prog w base sp held n 3 ((cs.drop 13).take (Try.prog.cellsOf 3)) = some y2 := hg 2 _ rfl
    rw [c2] at g2
    obtain ⟨n2, e2, f2, w2⟩ := DataW.trod_int Try.underlying3 g2
    have ee : cs = (cs.drop 0).take 6 ++ ((cs.drop 6).take 7 ++ ((cs.drop 13).take 1 ++ cs.drop 14)) := by
      exact (List.drop_zero (l := cs)).symm.trans ((seg cs 0 6).trans (congrArg (_ ++ ·) ((seg cs 6 7).trans (congrArg (_ ++ ·) (seg cs 13 1)))))
    rw [e0, e1, e2, List.drop_eq_nil_of_le (by omega)] at ee
    exact ⟨⟨n0, n1, n2⟩, ee, ⟨w0, w1, fits_of w2⟩⟩
end
end Go.Proofs.Ytnjgjhjilolanaa
/- What comes in as RStep. Printed by types.py. -/
namespace Go.Proofs.Ytnjgjhjilolanaa
open Go.ChangeShapes Go.WideShapes Go.ChangeAt Go.RowKit Go.WideMaps Go.WideElems Go.Joins
open Go.ChangeMaps (open_string)
set_option linter.unusedVariables false
set_option maxRecDepth 20000
structure RStepFits (x : RStep) : Prop where
  item : ItemFits x.item
  call : CallFits x.call
section
variable {H : Type} {enc : TypeId × Value → H} {w : World} {base : Nat} {sp : Nat → Bool} {held : Bool} {r : Reach} {b0 : Nat} {v : Value} {d : DataW H} {p : List MemPlace}
theorem trod_RStep {fuel : Nat} {cs : List Value} {x : DataW H × List MemPlace} (h : DataW.trod enc Try.prog w base sp held fuel 59 cs = some x) (hw : ∀ n ∈ x.1.weights Try.prog 59, n ≤ reachBytes) :
    ∃ X : RStep, cs = (RSV X).toList ∧ RStepFits X := by
  obtain ⟨xs, n, _, hx, hlen, hxl, hg⟩ := DataW.trod_struct Try.underlying59 h
  have hC : Try.prog.cellsOf 59 = 17 := by kernel_rfl
  rw [hC] at hlen
  match xs, hxl with
  | [y0, y1, y2], _ =>
    subst hx
    have c0 : Try.prog.cellsOf 35 = 2 := by kernel_rfl
    have g0 : DataW.trod enc Try.prog w base sp held n 35 ((cs.drop 0).take (Try.prog.cellsOf 35)) = some y0 := hg 0 _ rfl
    rw [c0] at g0
    obtain ⟨n0, e0, w0⟩ := trod_Item g0
    have c1 : Try.prog.cellsOf 47 = 14 := by kernel_rfl
    have g1 : DataW.trod enc Try.prog w base sp held n 47 ((cs.drop 2).take (Try.prog.cellsOf 47)) = some y1 := hg 1 _ rfl
    rw [c1] at g1
    obtain ⟨n1, e1, w1⟩ := trod_Call g1 (fun m hm => hw m (by simp [DataW.weights, Try.underlying59, DataW.weightsEach]; simp_all))
    have c2 : Try.prog.cellsOf 4 = 1 := by kernel_rfl
    have g2 : DataW.trod enc Try.prog w base sp held n 4 ((cs.drop 16).take (Try.prog.cellsOf 4)) = some y2 := hg 2 _ rfl
    rw [c2] at g2
    obtain ⟨n2, e2, f2⟩ := DataW.trod_bool Try.underlying4 g2
    have ee : cs = (cs.drop 0).take 2 ++ ((cs.drop 2).take 14 ++ ((cs.drop 16).take 1 ++ cs.drop 17)) := by
      exact (List.drop_zero (l := cs)).symm.trans ((seg cs 0 2).trans (congrArg (_ ++ ·) ((seg cs 2 14).trans (congrArg (_ ++ ·) (seg cs 16 1)))))
    rw [e0, e1, e2, List.drop_eq_nil_of_le (by omega)] at ee
    exact ⟨⟨n0, n1, n2⟩, ee, ⟨w0, w1⟩⟩
end
end Go.Proofs.Ytnjgjhjilolanaa
/- Things in memory, many in one; one of a row of them taken out. Nothing of the program stands here. -/
namespace Go.Proofs.Ytnjgjhjilolanaa
open Go.RowKit Go.Lib
set_option linter.unusedVariables false
/-- Many things as one. -/
def packR (L : List Res) : Res where
  sat F W := Sat W L F
  stay h hs := hs.stay h
  lt hs := hs.lt
section
variable {w W : World} {F : Nat → Prop} {L R : List Res}
theorem Sts.unpack (h : Sts w F W (packR L :: R)) : Sts w F W (L ++ R) := by
  obtain ⟨⟨G, ⟨A, B, ha, hb, hd, hf⟩, hg⟩, m⟩ := h
  exact ⟨⟨G, (Sat.append (L1 := L) ha hb hd).congr fun k => (hf k).symm, hg⟩, m⟩
theorem Sts.pack (h : Sts w F W (L ++ R)) : Sts w F W (packR L :: R) := by
  obtain ⟨⟨G, hs, hg⟩, m⟩ := h
  obtain ⟨A, B, ha, hb, hd, hf⟩ := Sat.parts (L1 := L) hs
  exact ⟨⟨G, ⟨A, B, ha, hb, hd, hf⟩, hg⟩, m⟩
end
/-- One of a row of things is taken out. -/
theorem row_take (f : Nat → Res) {n k : Nat} (hk : k < n) : ((List.range n).map f).Perm (f k :: ((List.range n).erase k).map f) :=
  (List.perm_cons_erase (List.mem_range.2 hk)).map f
/-- The others stay. -/
theorem row_others {f g : Nat → Res} {n k : Nat} (h : ∀ i, i ≠ k → f i = g i) : ((List.range n).erase k).map f = ((List.range n).erase k).map g :=
  List.map_congr_left fun i hi => h i ((List.nodup_range.mem_erase_iff.1 hi).1)
/-- A function, turned at one place. -/
def updF {α : Type} (f : Nat → α) (k : Nat) (x : α) : Nat → α := fun i => if i = k then x else f i
theorem updF_same {α : Type} (f : Nat → α) (k : Nat) (x : α) : updF f k x k = x := by unfold updF; rw [if_pos rfl]
theorem updF_other {α : Type} (f : Nat → α) {k i : Nat} (x : α) (h : i ≠ k) : updF f k x i = f i := by unfold updF; rw [if_neg h]
end Go.Proofs.Ytnjgjhjilolanaa
/- Slices of wide things of the call's own: append in a region that draws its order; their cells and loads. Nothing of the program stands here. -/
namespace Go.Proofs.Ytnjgjhjilolanaa
open Go.RowKit
set_option linter.unusedVariables false
/-- The cells of a row of things. -/
def vl {α : Type} (V : α → Array Value) (l : List α) : List Value := (flatV V l).toList
theorem vl_snoc {α : Type} (V : α → Array Value) (l : List α) (x : α) : vl V (l ++ [x]) = vl V l ++ (V x).toList := by
  unfold vl; rw [flatV_append, flatV_one, Array.toList_append]
theorem vl_nil {α : Type} (V : α → Array Value) : vl V [] = [] := rfl
section
variable {P : Program} {w W : World} {F : Nat → Prop} {R : List Res}
theorem step_append_vec {ops : Array Oper} {o : Oper} {a : Act} {K : Act → World → Prop} {Q : Exit → Act → World → Prop} {E : Prop} (hgd : o.guard = none) (s x : Operand) (t : TypeId)
    (ho : o.op = .call { callee := .builtin .append, args := #[s, x], argTypes := #[t, t] })
    (e : TypeId) (i : TypeInfo) (z : Value) (size bytes : Nat) (ht : P.underlying t = some (.slice e)) (hi : P.info? e = some i) (hz : i.zero = some z)
    (hsize : i.size = size) (hby : i.bytes = bytes) (hzs : z.cells.size = size) (hsz : 0 < size)
    (v : Value) (n : Nat) (xs : List Value) (hs : a.eval s = v) (T : Sts w F W (vecR e size v n xs :: R))
    (ad : Addr) (m c : Nat) (news : List Value) (hx : a.eval x = .slice (some ad) m c) (hl : news.length = m * size) (hnews : ∀ j u, news[j]? = some u → W.cell? (ad.add j) = some u) (h1 : ∀ u ∈ news, u.oneCell' = true)
    (hm : 0 < m) (h63 : n + m ≤ maxLen) (hbytes : (n + m) * bytes ≤ 140737488355328)
    (h : ∀ g cap w', Sts w F w' (vecR e size (.slice (some ⟨g, 0, none⟩) (n + m) cap) (n + m) (xs ++ news) :: R) → K (a.put o.dst (.slice (some ⟨g, 0, none⟩) (n + m) cap)) w') :
    if Region.wanted o (yielded ops a.tmps) = true then Oper.wp P o a W K Q else E := by
  refine step_append_lies W hgd s x t ho 0 e i z size bytes ht hi hz hsize hby hzs hsz v n xs hs T.vec ad m c news hx hl hnews h1 hm h63 hbytes (Nat.zero_le _) W.heap.size rfl ?_
  intro g cap w' hown hg hat hlt
  refine h g cap w' (T.grown hown hg ?_)
  rcases hat with h | h
  · left; rw [h]; rfl
  · right; rw [h]; rfl
/-- What lies in such a slice. -/
theorem vec_cell {α : Type} {V : α → Array Value} {size : Nat} (hV : ∀ x, (V x).size = size) {e : TypeId} {v : Value} {l : List α} (T : Sts w F W (vecR e size v l.length (vl V l) :: R)) (h0 : 0 < size) {j : Nat} (hj : j < l.length) :
    ∃ g c, v = .slice (some ⟨g, 0, none⟩) l.length c ∧ g < W.heap.size ∧ ∀ i u, (V l[j])[i]? = some u → W.cell? ⟨g, j * size + i, none⟩ = some u := by
  have hown := T.vec
  rcases hown.2 with ⟨_, h⟩ | ⟨g, cap, cur, rfl, _, hg, hn, hm, hc, ht⟩
  · omega
  · refine ⟨g, cap, rfl, (Array.getElem?_eq_some_iff.1 hg).1, fun i u hu => ?_⟩
    have hi : i < size := by have := (Array.getElem?_eq_some_iff.1 hu).1; rw [hV] at this; exact this
    have h2 := flatV_get hV l j hj i hi
    rw [hu] at h2
    have h3 : (vl V l)[j * size + i]? = some u := by unfold vl; rw [Array.getElem?_toList]; exact h2
    rw [← ht, List.getElem?_take] at h3
    split at h3
    · rw [cell_of_row W g _ cur e (0, 0) hg]; simpa using h3
    · cases h3
end
end Go.Proofs.Ytnjgjhjilolanaa
