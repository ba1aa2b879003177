/- Several texts in one. -/
import Derived.Test.YtpganpiidgkofaaX3
import Derived.Test.YtpganpiidgkofaaX1
/- Deed as a value, as cells: its parts, equality, loads, stores, building. Printed by types.py. -/
namespace Go.Proofs.Ytpganpiidgkofaa
open Go.RowKit
set_option linter.unusedVariables false
section
variable (x y : Deed)
theorem TDeed_size : (EV x).size = 6 := rfl
theorem TDeed_one : allOne (EV x) = true := by simp [allOne, EV, Value.oneCell']
theorem TDeed_piece : piece (EV x) 0 6 = EV x := piece_all _ _ rfl
theorem TDeed_c0 : (EV x)[0]? = some (.int .i64 x.kind) := rfl
theorem TDeed_c1 : (EV x)[1]? = some (.string x.key) := rfl
theorem TDeed_c2 : (EV x)[2]? = some (.string x.val) := rfl
theorem TDeed_c3 : (EV x)[3]? = some (.int .i64 x.ver) := rfl
theorem TDeed_c4 : (EV x)[4]? = some (.int .i64 x.ses) := rfl
theorem TDeed_c5 : (EV x)[5]? = some (.int .i64 x.num) := rfl
theorem TDeed_set_kind (v : Int) : (EV x).setIfInBounds 0 (.int .i64 v) = EV { x with kind := v } := rfl
theorem TDeed_set_key (v : ByteArray) : (EV x).setIfInBounds 1 (.string v) = EV { x with key := v } := rfl
theorem TDeed_set_val (v : ByteArray) : (EV x).setIfInBounds 2 (.string v) = EV { x with val := v } := rfl
theorem TDeed_set_ver (v : Int) : (EV x).setIfInBounds 3 (.int .i64 v) = EV { x with ver := v } := rfl
theorem TDeed_set_ses (v : Int) : (EV x).setIfInBounds 4 (.int .i64 v) = EV { x with ses := v } := rfl
theorem TDeed_set_num (v : Int) : (EV x).setIfInBounds 5 (.int .i64 v) = EV { x with num := v } := rfl
theorem TDeed_cat : EV x = #[.int .i64 x.kind] ++ #[.string x.key] ++ #[.string x.val] ++ #[.int .i64 x.ver] ++ #[.int .i64 x.ses] ++ #[.int .i64 x.num] := by kernel_rfl
theorem TDeed_ext : EV x = EV y ↔ x.kind = y.kind ∧ x.key = y.key ∧ x.val = y.val ∧ x.ver = y.ver ∧ x.ses = y.ses ∧ x.num = y.num := by
  constructor
  · intro h
    refine ⟨?_, ?_, ?_, ?_, ?_, ?_⟩
    · have := congrArg (·[0]?) h; simpa [TDeed_c0, TDeed_size] using this
    · have := congrArg (·[1]?) h; simpa [TDeed_c1, TDeed_size] using this
    · have := congrArg (·[2]?) h; simpa [TDeed_c2, TDeed_size] using this
    · have := congrArg (·[3]?) h; simpa [TDeed_c3, TDeed_size] using this
    · have := congrArg (·[4]?) h; simpa [TDeed_c4, TDeed_size] using this
    · have := congrArg (·[5]?) h; simpa [TDeed_c5, TDeed_size] using this
  · rintro ⟨h0, h1, h2, h3, h4, h5⟩
    rw [TDeed_cat x, TDeed_cat y, h0, h1, h2, h3, h4, h5]
end
theorem TDeed_und : Try.prog.underlying 33 = some (.struct (Try.prog.fieldsOf 33)) := by kernel_rfl
theorem TDeed_eq (d : Nat) (x y : Deed) (w : World) : (Op.equalIn (d + 2) 33 (.agg (EV x)) (.agg (EV y))).run Try.prog w = .ok (eqA (EV x) (EV y)) w := by
  refine eq_struct (d := d + 1) (L := [(3, 0, x.kind == y.kind), (9, 1, x.key.toList == y.key.toList), (9, 2, x.val.toList == y.val.toList), (3, 3, x.ver == y.ver), (3, 4, x.ses == y.ses), (3, 5, x.num == y.num)]) TDeed_und (by kernel_rfl) (by kernel_rfl) ?_ ?_ w
  · simp only [List.forall_mem_cons]
    exact ⟨⟨_, _, part_cell Try.underlying3 rfl (by kernel_rfl) (TDeed_c0 x), part_cell Try.underlying3 rfl (by kernel_rfl) (TDeed_c0 y), fun w => run_equalIn_int w (d + 0) _ _ _ _ _ Try.underlying3⟩, ⟨_, _, part_cell Try.underlying9 rfl (by kernel_rfl) (TDeed_c1 x), part_cell Try.underlying9 rfl (by kernel_rfl) (TDeed_c1 y), fun w => run_equalIn_string w (d + 0) _ _ _ Try.underlying9⟩, ⟨_, _, part_cell Try.underlying9 rfl (by kernel_rfl) (TDeed_c2 x), part_cell Try.underlying9 rfl (by kernel_rfl) (TDeed_c2 y), fun w => run_equalIn_string w (d + 0) _ _ _ Try.underlying9⟩, ⟨_, _, part_cell Try.underlying3 rfl (by kernel_rfl) (TDeed_c3 x), part_cell Try.underlying3 rfl (by kernel_rfl) (TDeed_c3 y), fun w => run_equalIn_int w (d + 0) _ _ _ _ _ Try.underlying3⟩, ⟨_, _, part_cell Try.underlying3 rfl (by kernel_rfl) (TDeed_c4 x), part_cell Try.underlying3 rfl (by kernel_rfl) (TDeed_c4 y), fun w => run_equalIn_int w (d + 0) _ _ _ _ _ Try.underlying3⟩, ⟨_, _, part_cell Try.underlying3 rfl (by kernel_rfl) (TDeed_c5 x), part_cell Try.underlying3 rfl (by kernel_rfl) (TDeed_c5 y), fun w => run_equalIn_int w (d + 0) _ _ _ _ _ Try.underlying3⟩, by simp⟩
  · refine eqA_of ?_
    rw [TDeed_ext]
    simp [toList_inj_iff]
theorem TDeed_eql (x y : Deed) (w : World) : (binOp .eql 33 (.agg (EV x)) (.agg (EV y))).run Try.prog w = .ok (.bool (eqA (EV x) (EV y))) w := eql_of (TDeed_eq 9998 x y) w
theorem TDeed_neq (x y : Deed) (w : World) : (binOp .neq 33 (.agg (EV x)) (.agg (EV y))).run Try.prog w = .ok (.bool (!eqA (EV x) (EV y))) w := neq_of (TDeed_eq 9998 x y) w
theorem TDeed_ld0 (v : Value) : Instr.loadAt 33 v = loadSem 33 v := rfl
theorem TDeed_st0 (v u : Value) : Instr.storeAt 33 v u = storeSem 33 v u := rfl
theorem TDeed_fd0 (x : Value) (i : Nat) : Instr.field 33 x i = fieldSem 33 x i := rfl
theorem TDeed_bd0 (p : Array (Nat × Value)) : Instr.build 33 p = buildS 33 p := rfl
theorem TDeed_ld (w : World) (v : Value) : (loadSem 33 v).run Try.prog w = loadVal Try.prog 33 6 w v := load_val TDeed_und rfl (by kernel_rfl) w v
theorem TDeed_st (w : World) (v u : Value) : (storeSem 33 v u).run Try.prog w = storeVal Try.prog 33 6 w v u := store_val (by kernel_rfl) w v u
theorem TDeed_f_kind (x : Deed) (w : World) : (fieldSem 33 (.agg (EV x)) 0).run Try.prog w = .ok (.int .i64 x.kind) w := field_of TDeed_und (by kernel_rfl) (part_cell Try.underlying3 rfl (by kernel_rfl) (TDeed_c0 x)) w
theorem TDeed_f_key (x : Deed) (w : World) : (fieldSem 33 (.agg (EV x)) 1).run Try.prog w = .ok (.string x.key) w := field_of TDeed_und (by kernel_rfl) (part_cell Try.underlying9 rfl (by kernel_rfl) (TDeed_c1 x)) w
theorem TDeed_f_val (x : Deed) (w : World) : (fieldSem 33 (.agg (EV x)) 2).run Try.prog w = .ok (.string x.val) w := field_of TDeed_und (by kernel_rfl) (part_cell Try.underlying9 rfl (by kernel_rfl) (TDeed_c2 x)) w
theorem TDeed_f_ver (x : Deed) (w : World) : (fieldSem 33 (.agg (EV x)) 3).run Try.prog w = .ok (.int .i64 x.ver) w := field_of TDeed_und (by kernel_rfl) (part_cell Try.underlying3 rfl (by kernel_rfl) (TDeed_c3 x)) w
theorem TDeed_f_ses (x : Deed) (w : World) : (fieldSem 33 (.agg (EV x)) 4).run Try.prog w = .ok (.int .i64 x.ses) w := field_of TDeed_und (by kernel_rfl) (part_cell Try.underlying3 rfl (by kernel_rfl) (TDeed_c4 x)) w
theorem TDeed_f_num (x : Deed) (w : World) : (fieldSem 33 (.agg (EV x)) 5).run Try.prog w = .ok (.int .i64 x.num) w := field_of TDeed_und (by kernel_rfl) (part_cell Try.underlying3 rfl (by kernel_rfl) (TDeed_c5 x)) w
def TDeed_pl : Nat → Option (Nat × Nat) := fun i => (#[(0, 1), (1, 1), (2, 1), (3, 1), (4, 1), (5, 1)] : Array (Nat × Nat))[i]?
theorem TDeed_bd (w : World) (p : Array (Nat × Value)) : (buildS 33 p).run Try.prog w = buildOf Try.prog 33 TDeed_pl (EV noDeed) p w := build_struct TDeed_und (by kernel_rfl) (fun w => by kernel_rfl) w p
theorem TDeed_fl (X : Array Value) : fillS TDeed_pl X [] = some X := rfl
theorem TDeed_fl_kind (x : Deed) (v : Int) (r : List (Nat × Value)) : fillS TDeed_pl (EV x) ((0, .int .i64 v) :: r) = fillS TDeed_pl (EV { x with kind := v }) r := rfl
theorem TDeed_fl_key (x : Deed) (v : ByteArray) (r : List (Nat × Value)) : fillS TDeed_pl (EV x) ((1, .string v) :: r) = fillS TDeed_pl (EV { x with key := v }) r := rfl
theorem TDeed_fl_val (x : Deed) (v : ByteArray) (r : List (Nat × Value)) : fillS TDeed_pl (EV x) ((2, .string v) :: r) = fillS TDeed_pl (EV { x with val := v }) r := rfl
theorem TDeed_fl_ver (x : Deed) (v : Int) (r : List (Nat × Value)) : fillS TDeed_pl (EV x) ((3, .int .i64 v) :: r) = fillS TDeed_pl (EV { x with ver := v }) r := rfl
theorem TDeed_fl_ses (x : Deed) (v : Int) (r : List (Nat × Value)) : fillS TDeed_pl (EV x) ((4, .int .i64 v) :: r) = fillS TDeed_pl (EV { x with ses := v }) r := rfl
theorem TDeed_fl_num (x : Deed) (v : Int) (r : List (Nat × Value)) : fillS TDeed_pl (EV x) ((5, .int .i64 v) :: r) = fillS TDeed_pl (EV { x with num := v }) r := rfl
theorem TDeed_ret {fn : Func} {R : Ending → World → Prop} {a : Act} {w : World} {p : Tmp} (x : Deed) {g : Nat} (hr : fn.results = #[.cell p 33]) (hp : a.tmps.getD p undef = .pointer (some ⟨g, 0, none⟩)) (hdf : a.defers = []) (hrow : row? w g = some (EV x)) (hR : R (.returned (.agg (EV x))) w) : bodyPost Try.prog fn R .ret a w :=
  ret_row (EV x) TDeed_und rfl (by kernel_rfl) hr hp hdf (TDeed_size x) hrow hR
end Go.Proofs.Ytpganpiidgkofaa
/- Call as a value, as cells: its parts, equality, loads, stores, building. Printed by types.py. -/
namespace Go.Proofs.Ytpganpiidgkofaa
open Go.RowKit
set_option linter.unusedVariables false
structure Call where
  deed : Deed
  deps : (Nat → Int)
  seq : Int
def CV (x : Call) : Array Value := #[.int .i64 x.deed.kind, .string x.deed.key, .string x.deed.val, .int .i64 x.deed.ver, .int .i64 x.deed.ses, .int .i64 x.deed.num, .int .i64 (x.deps 0), .int .i64 (x.deps 1), .int .i64 (x.deps 2), .int .i64 (x.deps 3), .int .i64 (x.deps 4), .int .i64 (x.deps 5), .int .i64 (x.deps 6), .int .i64 x.seq]
def noCall : Call := ⟨noDeed, (fun _ => 0), 0⟩
section
variable (x y : Call)
theorem TCall_size : (CV x).size = 14 := rfl
theorem TCall_one : allOne (CV x) = true := by simp [allOne, CV, Value.oneCell']
theorem TCall_piece : piece (CV x) 0 14 = CV x := piece_all _ _ rfl
theorem TCall_c0 : (CV x)[0]? = some (.int .i64 x.deed.kind) := rfl
theorem TCall_c1 : (CV x)[1]? = some (.string x.deed.key) := rfl
theorem TCall_c2 : (CV x)[2]? = some (.string x.deed.val) := rfl
theorem TCall_c3 : (CV x)[3]? = some (.int .i64 x.deed.ver) := rfl
theorem TCall_c4 : (CV x)[4]? = some (.int .i64 x.deed.ses) := rfl
theorem TCall_c5 : (CV x)[5]? = some (.int .i64 x.deed.num) := rfl
theorem TCall_c6 : (CV x)[6]? = some (.int .i64 (x.deps 0)) := rfl
theorem TCall_c7 : (CV x)[7]? = some (.int .i64 (x.deps 1)) := rfl
theorem TCall_c8 : (CV x)[8]? = some (.int .i64 (x.deps 2)) := rfl
theorem TCall_c9 : (CV x)[9]? = some (.int .i64 (x.deps 3)) := rfl
theorem TCall_c10 : (CV x)[10]? = some (.int .i64 (x.deps 4)) := rfl
theorem TCall_c11 : (CV x)[11]? = some (.int .i64 (x.deps 5)) := rfl
theorem TCall_c12 : (CV x)[12]? = some (.int .i64 (x.deps 6)) := rfl
theorem TCall_c13 : (CV x)[13]? = some (.int .i64 x.seq) := rfl
theorem TCall_p_deed : piece (CV x) 0 6 = EV x.deed := by kernel_rfl
theorem TCall_put_deed (v : Deed) : splice (CV x) 0 (EV v) = CV { x with deed := v } := by kernel_rfl
theorem TCall_p_deps : piece (CV x) 6 7 = DV x.deps := by kernel_rfl
theorem TCall_put_deps (v : (Nat → Int)) : splice (CV x) 6 (DV v) = CV { x with deps := v } := by kernel_rfl
theorem TCall_set_seq (v : Int) : (CV x).setIfInBounds 13 (.int .i64 v) = CV { x with seq := v } := rfl
theorem TCall_deps (i : Nat) (h : i < 7) : (CV x)[6 + i]? = some (.int .i64 (x.deps i)) := by
  match i, h with
  | 0, _ => rfl
  | 1, _ => rfl
  | 2, _ => rfl
  | 3, _ => rfl
  | 4, _ => rfl
  | 5, _ => rfl
  | 6, _ => rfl
theorem TCall_setdeps (i : Nat) (h : i < 7) (v : Int) : (CV x).setIfInBounds (6 + i) (.int .i64 v) = CV { x with deps := upd x.deps i v } := by
  match i, h with
  | 0, _ => rfl
  | 1, _ => rfl
  | 2, _ => rfl
  | 3, _ => rfl
  | 4, _ => rfl
  | 5, _ => rfl
  | 6, _ => rfl
theorem TCall_cat : CV x = EV x.deed ++ DV x.deps ++ #[.int .i64 x.seq] := by kernel_rfl
theorem TCall_ext : CV x = CV y ↔ EV x.deed = EV y.deed ∧ DV x.deps = DV y.deps ∧ x.seq = y.seq := by
  constructor
  · intro h
    refine ⟨?_, ?_, ?_⟩
    · have := congrArg (fun c => piece c 0 6) h; simpa only [TCall_p_deed] using this
    · have := congrArg (fun c => piece c 6 7) h; simpa only [TCall_p_deps] using this
    · have := congrArg (·[13]?) h; simpa [TCall_c13, TCall_size] using this
  · rintro ⟨h0, h1, h2⟩
    rw [TCall_cat x, TCall_cat y, h0, h1, h2]
end
theorem TCall_und : Try.prog.underlying 37 = some (.struct (Try.prog.fieldsOf 37)) := by kernel_rfl
theorem TCall_eq (d : Nat) (x y : Call) (w : World) : (Op.equalIn (d + 3) 37 (.agg (CV x)) (.agg (CV y))).run Try.prog w = .ok (eqA (CV x) (CV y)) w := by
  refine eq_struct (d := d + 2) (L := [(33, 0, eqA (EV x.deed) (EV y.deed)), (35, 6, eqA (DV x.deps) (DV y.deps)), (3, 13, x.seq == y.seq)]) TCall_und (by kernel_rfl) (by kernel_rfl) ?_ ?_ w
  · simp only [List.forall_mem_cons]
    exact ⟨⟨_, _, fun w => by rw [part_row TDeed_und rfl (by kernel_rfl) (n := 6), TCall_p_deed], fun w => by rw [part_row TDeed_und rfl (by kernel_rfl) (n := 6), TCall_p_deed], fun w => TDeed_eq (d + 0) x.deed y.deed w⟩, ⟨_, _, fun w => by rw [part_row Try.underlying35 rfl (by kernel_rfl) (n := 7), TCall_p_deps], fun w => by rw [part_row Try.underlying35 rfl (by kernel_rfl) (n := 7), TCall_p_deps], fun w => TDeps_eq (d + 0) x.deps y.deps w⟩, ⟨_, _, part_cell Try.underlying3 rfl (by kernel_rfl) (TCall_c13 x), part_cell Try.underlying3 rfl (by kernel_rfl) (TCall_c13 y), fun w => run_equalIn_int w (d + 1) _ _ _ _ _ Try.underlying3⟩, by simp⟩
  · refine eqA_of ?_
    rw [TCall_ext]
    simp [eqA_iff]
theorem TCall_eql (x y : Call) (w : World) : (binOp .eql 37 (.agg (CV x)) (.agg (CV y))).run Try.prog w = .ok (.bool (eqA (CV x) (CV y))) w := eql_of (TCall_eq 9997 x y) w
theorem TCall_neq (x y : Call) (w : World) : (binOp .neq 37 (.agg (CV x)) (.agg (CV y))).run Try.prog w = .ok (.bool (!eqA (CV x) (CV y))) w := neq_of (TCall_eq 9997 x y) w
theorem TCall_ld0 (v : Value) : Instr.loadAt 37 v = loadSem 37 v := rfl
theorem TCall_st0 (v u : Value) : Instr.storeAt 37 v u = storeSem 37 v u := rfl
theorem TCall_fd0 (x : Value) (i : Nat) : Instr.field 37 x i = fieldSem 37 x i := rfl
theorem TCall_bd0 (p : Array (Nat × Value)) : Instr.build 37 p = buildS 37 p := rfl
theorem TCall_ld (w : World) (v : Value) : (loadSem 37 v).run Try.prog w = loadVal Try.prog 37 14 w v := load_val TCall_und rfl (by kernel_rfl) w v
theorem TCall_st (w : World) (v u : Value) : (storeSem 37 v u).run Try.prog w = storeVal Try.prog 37 14 w v u := store_val (by kernel_rfl) w v u
theorem TCall_f_deed (x : Call) (w : World) : (fieldSem 37 (.agg (CV x)) 0).run Try.prog w = .ok (.agg (EV x.deed)) w := field_of TCall_und (by kernel_rfl) (fun w => by rw [part_row TDeed_und rfl (by kernel_rfl) (n := 6), TCall_p_deed]) w
theorem TCall_f_deps (x : Call) (w : World) : (fieldSem 37 (.agg (CV x)) 1).run Try.prog w = .ok (.agg (DV x.deps)) w := field_of TCall_und (by kernel_rfl) (fun w => by rw [part_row Try.underlying35 rfl (by kernel_rfl) (n := 7), TCall_p_deps]) w
theorem TCall_f_seq (x : Call) (w : World) : (fieldSem 37 (.agg (CV x)) 2).run Try.prog w = .ok (.int .i64 x.seq) w := field_of TCall_und (by kernel_rfl) (part_cell Try.underlying3 rfl (by kernel_rfl) (TCall_c13 x)) w
def TCall_pl : Nat → Option (Nat × Nat) := fun i => (#[(0, 6), (6, 7), (13, 1)] : Array (Nat × Nat))[i]?
theorem TCall_bd (w : World) (p : Array (Nat × Value)) : (buildS 37 p).run Try.prog w = buildOf Try.prog 37 TCall_pl (CV noCall) p w := build_struct TCall_und (by kernel_rfl) (fun w => by kernel_rfl) w p
theorem TCall_fl (X : Array Value) : fillS TCall_pl X [] = some X := rfl
theorem TCall_fl_deed (x : Call) (v : Deed) (r : List (Nat × Value)) : fillS TCall_pl (CV x) ((0, .agg (EV v)) :: r) = fillS TCall_pl (CV { x with deed := v }) r := by
  show Instr.fill _ _ _ = Instr.fill _ _ _
  rw [fill_cons TCall_pl (CV x) (EV v) 0 0 6 r rfl rfl (by show _ ≤ 14; omega), TCall_put_deed]
theorem TCall_fl_deps (x : Call) (v : (Nat → Int)) (r : List (Nat × Value)) : fillS TCall_pl (CV x) ((1, .agg (DV v)) :: r) = fillS TCall_pl (CV { x with deps := v }) r := by
  show Instr.fill _ _ _ = Instr.fill _ _ _
  rw [fill_cons TCall_pl (CV x) (DV v) 1 6 7 r rfl rfl (by show _ ≤ 14; omega), TCall_put_deps]
theorem TCall_fl_seq (x : Call) (v : Int) (r : List (Nat × Value)) : fillS TCall_pl (CV x) ((2, .int .i64 v) :: r) = fillS TCall_pl (CV { x with seq := v }) r := rfl
theorem TCall_ret {fn : Func} {R : Ending → World → Prop} {a : Act} {w : World} {p : Tmp} (x : Call) {g : Nat} (hr : fn.results = #[.cell p 37]) (hp : a.tmps.getD p undef = .pointer (some ⟨g, 0, none⟩)) (hdf : a.defers = []) (hrow : row? w g = some (CV x)) (hR : R (.returned (.agg (CV x))) w) : bodyPost Try.prog fn R .ret a w :=
  ret_row (CV x) TCall_und rfl (by kernel_rfl) hr hp hdf (TCall_size x) hrow hR
end Go.Proofs.Ytpganpiidgkofaa
/- Inst as a value, as cells: its parts, equality, loads, stores, building. Printed by types.py. -/
namespace Go.Proofs.Ytpganpiidgkofaa
open Go.RowKit
set_option linter.unusedVariables false
structure Inst where
  prom : Ballot
  vote : Ballot
  status : Int
  call : Call
  same : Bool
def NV (x : Inst) : Array Value := #[.int .i64 x.prom.round, .int .i64 x.prom.rep, .int .i64 x.vote.round, .int .i64 x.vote.rep, .int .i64 x.status, .int .i64 x.call.deed.kind, .string x.call.deed.key, .string x.call.deed.val, .int .i64 x.call.deed.ver, .int .i64 x.call.deed.ses, .int .i64 x.call.deed.num, .int .i64 (x.call.deps 0), .int .i64 (x.call.deps 1), .int .i64 (x.call.deps 2), .int .i64 (x.call.deps 3), .int .i64 (x.call.deps 4), .int .i64 (x.call.deps 5), .int .i64 (x.call.deps 6), .int .i64 x.call.seq, .bool x.same]
def noInst : Inst := ⟨noBallot, noBallot, 0, noCall, false⟩
section
variable (x y : Inst)
theorem TInst_size : (NV x).size = 20 := rfl
theorem TInst_one : allOne (NV x) = true := by simp [allOne, NV, Value.oneCell']
theorem TInst_piece : piece (NV x) 0 20 = NV x := piece_all _ _ rfl
theorem TInst_c0 : (NV x)[0]? = some (.int .i64 x.prom.round) := rfl
theorem TInst_c1 : (NV x)[1]? = some (.int .i64 x.prom.rep) := rfl
theorem TInst_c2 : (NV x)[2]? = some (.int .i64 x.vote.round) := rfl
theorem TInst_c3 : (NV x)[3]? = some (.int .i64 x.vote.rep) := rfl
theorem TInst_c4 : (NV x)[4]? = some (.int .i64 x.status) := rfl
theorem TInst_c5 : (NV x)[5]? = some (.int .i64 x.call.deed.kind) := rfl
theorem TInst_c6 : (NV x)[6]? = some (.string x.call.deed.key) := rfl
theorem TInst_c7 : (NV x)[7]? = some (.string x.call.deed.val) := rfl
theorem TInst_c8 : (NV x)[8]? = some (.int .i64 x.call.deed.ver) := rfl
theorem TInst_c9 : (NV x)[9]? = some (.int .i64 x.call.deed.ses) := rfl
theorem TInst_c10 : (NV x)[10]? = some (.int .i64 x.call.deed.num) := rfl
theorem TInst_c11 : (NV x)[11]? = some (.int .i64 (x.call.deps 0)) := rfl
theorem TInst_c12 : (NV x)[12]? = some (.int .i64 (x.call.deps 1)) := rfl
theorem TInst_c13 : (NV x)[13]? = some (.int .i64 (x.call.deps 2)) := rfl
theorem TInst_c14 : (NV x)[14]? = some (.int .i64 (x.call.deps 3)) := rfl
theorem TInst_c15 : (NV x)[15]? = some (.int .i64 (x.call.deps 4)) := rfl
theorem TInst_c16 : (NV x)[16]? = some (.int .i64 (x.call.deps 5)) := rfl
theorem TInst_c17 : (NV x)[17]? = some (.int .i64 (x.call.deps 6)) := rfl
theorem TInst_c18 : (NV x)[18]? = some (.int .i64 x.call.seq) := rfl
theorem TInst_c19 : (NV x)[19]? = some (.bool x.same) := rfl
theorem TInst_p_prom : piece (NV x) 0 2 = BV x.prom := by kernel_rfl
theorem TInst_put_prom (v : Ballot) : splice (NV x) 0 (BV v) = NV { x with prom := v } := by kernel_rfl
theorem TInst_p_vote : piece (NV x) 2 2 = BV x.vote := by kernel_rfl
theorem TInst_put_vote (v : Ballot) : splice (NV x) 2 (BV v) = NV { x with vote := v } := by kernel_rfl
theorem TInst_set_status (v : Int) : (NV x).setIfInBounds 4 (.int .i64 v) = NV { x with status := v } := rfl
theorem TInst_p_call : piece (NV x) 5 14 = CV x.call := by kernel_rfl
theorem TInst_put_call (v : Call) : splice (NV x) 5 (CV v) = NV { x with call := v } := by kernel_rfl
theorem TInst_set_same (v : Bool) : (NV x).setIfInBounds 19 (.bool v) = NV { x with same := v } := rfl
theorem TInst_deps (i : Nat) (h : i < 7) : (NV x)[11 + i]? = some (.int .i64 (x.call.deps i)) := by
  match i, h with
  | 0, _ => rfl
  | 1, _ => rfl
  | 2, _ => rfl
  | 3, _ => rfl
  | 4, _ => rfl
  | 5, _ => rfl
  | 6, _ => rfl
theorem TInst_cat : NV x = BV x.prom ++ BV x.vote ++ #[.int .i64 x.status] ++ CV x.call ++ #[.bool x.same] := by kernel_rfl
theorem TInst_ext : NV x = NV y ↔ BV x.prom = BV y.prom ∧ BV x.vote = BV y.vote ∧ x.status = y.status ∧ CV x.call = CV y.call ∧ x.same = y.same := by
  constructor
  · intro h
    refine ⟨?_, ?_, ?_, ?_, ?_⟩
    · have := congrArg (fun c => piece c 0 2) h; simpa only [TInst_p_prom] using this
    · have := congrArg (fun c => piece c 2 2) h; simpa only [TInst_p_vote] using this
    · have := congrArg (·[4]?) h; simpa [TInst_c4, TInst_size] using this
    · have := congrArg (fun c => piece c 5 14) h; simpa only [TInst_p_call] using this
    · have := congrArg (·[19]?) h; simpa [TInst_c19, TInst_size] using this
  · rintro ⟨h0, h1, h2, h3, h4⟩
    rw [TInst_cat x, TInst_cat y, h0, h1, h2, h3, h4]
end
theorem TInst_und : Try.prog.underlying 39 = some (.struct (Try.prog.fieldsOf 39)) := by kernel_rfl
theorem TInst_eq (d : Nat) (x y : Inst) (w : World) : (Op.equalIn (d + 4) 39 (.agg (NV x)) (.agg (NV y))).run Try.prog w = .ok (eqA (NV x) (NV y)) w := by
  refine eq_struct (d := d + 3) (L := [(31, 0, eqA (BV x.prom) (BV y.prom)), (31, 2, eqA (BV x.vote) (BV y.vote)), (3, 4, x.status == y.status), (37, 5, eqA (CV x.call) (CV y.call)), (4, 19, x.same == y.same)]) TInst_und (by kernel_rfl) (by kernel_rfl) ?_ ?_ w
  · simp only [List.forall_mem_cons]
    exact ⟨⟨_, _, fun w => by rw [part_row TBallot_und rfl (by kernel_rfl) (n := 2), TInst_p_prom], fun w => by rw [part_row TBallot_und rfl (by kernel_rfl) (n := 2), TInst_p_prom], fun w => TBallot_eq (d + 1) x.prom y.prom w⟩, ⟨_, _, fun w => by rw [part_row TBallot_und rfl (by kernel_rfl) (n := 2), TInst_p_vote], fun w => by rw [part_row TBallot_und rfl (by kernel_rfl) (n := 2), TInst_p_vote], fun w => TBallot_eq (d + 1) x.vote y.vote w⟩, ⟨_, _, part_cell Try.underlying3 rfl (by kernel_rfl) (TInst_c4 x), part_cell Try.underlying3 rfl (by kernel_rfl) (TInst_c4 y), fun w => run_equalIn_int w (d + 2) _ _ _ _ _ Try.underlying3⟩, ⟨_, _, fun w => by rw [part_row TCall_und rfl (by kernel_rfl) (n := 14), TInst_p_call], fun w => by rw [part_row TCall_und rfl (by kernel_rfl) (n := 14), TInst_p_call], fun w => TCall_eq (d + 0) x.call y.call w⟩, ⟨_, _, part_cell Try.underlying4 rfl (by kernel_rfl) (TInst_c19 x), part_cell Try.underlying4 rfl (by kernel_rfl) (TInst_c19 y), fun w => run_equalIn_bool' w (d + 2) _ _ _ Try.underlying4⟩, by simp⟩
  · refine eqA_of ?_
    rw [TInst_ext]
    simp [eqA_iff]
theorem TInst_eql (x y : Inst) (w : World) : (binOp .eql 39 (.agg (NV x)) (.agg (NV y))).run Try.prog w = .ok (.bool (eqA (NV x) (NV y))) w := eql_of (TInst_eq 9996 x y) w
theorem TInst_neq (x y : Inst) (w : World) : (binOp .neq 39 (.agg (NV x)) (.agg (NV y))).run Try.prog w = .ok (.bool (!eqA (NV x) (NV y))) w := neq_of (TInst_eq 9996 x y) w
theorem TInst_ld0 (v : Value) : Instr.loadAt 39 v = loadSem 39 v := rfl
theorem TInst_st0 (v u : Value) : Instr.storeAt 39 v u = storeSem 39 v u := rfl
theorem TInst_fd0 (x : Value) (i : Nat) : Instr.field 39 x i = fieldSem 39 x i := rfl
theorem TInst_bd0 (p : Array (Nat × Value)) : Instr.build 39 p = buildS 39 p := rfl
theorem TInst_ld (w : World) (v : Value) : (loadSem 39 v).run Try.prog w = loadVal Try.prog 39 20 w v := load_val TInst_und rfl (by kernel_rfl) w v
theorem TInst_st (w : World) (v u : Value) : (storeSem 39 v u).run Try.prog w = storeVal Try.prog 39 20 w v u := store_val (by kernel_rfl) w v u
theorem TInst_f_prom (x : Inst) (w : World) : (fieldSem 39 (.agg (NV x)) 0).run Try.prog w = .ok (.agg (BV x.prom)) w := field_of TInst_und (by kernel_rfl) (fun w => by rw [part_row TBallot_und rfl (by kernel_rfl) (n := 2), TInst_p_prom]) w
theorem TInst_f_vote (x : Inst) (w : World) : (fieldSem 39 (.agg (NV x)) 1).run Try.prog w = .ok (.agg (BV x.vote)) w := field_of TInst_und (by kernel_rfl) (fun w => by rw [part_row TBallot_und rfl (by kernel_rfl) (n := 2), TInst_p_vote]) w
theorem TInst_f_status (x : Inst) (w : World) : (fieldSem 39 (.agg (NV x)) 2).run Try.prog w = .ok (.int .i64 x.status) w := field_of TInst_und (by kernel_rfl) (part_cell Try.underlying3 rfl (by kernel_rfl) (TInst_c4 x)) w
theorem TInst_f_call (x : Inst) (w : World) : (fieldSem 39 (.agg (NV x)) 3).run Try.prog w = .ok (.agg (CV x.call)) w := field_of TInst_und (by kernel_rfl) (fun w => by rw [part_row TCall_und rfl (by kernel_rfl) (n := 14), TInst_p_call]) w
theorem TInst_f_same (x : Inst) (w : World) : (fieldSem 39 (.agg (NV x)) 4).run Try.prog w = .ok (.bool x.same) w := field_of TInst_und (by kernel_rfl) (part_cell Try.underlying4 rfl (by kernel_rfl) (TInst_c19 x)) w
def TInst_pl : Nat → Option (Nat × Nat) := fun i => (#[(0, 2), (2, 2), (4, 1), (5, 14), (19, 1)] : Array (Nat × Nat))[i]?
theorem TInst_bd (w : World) (p : Array (Nat × Value)) : (buildS 39 p).run Try.prog w = buildOf Try.prog 39 TInst_pl (NV noInst) p w := build_struct TInst_und (by kernel_rfl) (fun w => by kernel_rfl) w p
theorem TInst_fl (X : Array Value) : fillS TInst_pl X [] = some X := rfl
theorem TInst_fl_prom (x : Inst) (v : Ballot) (r : List (Nat × Value)) : fillS TInst_pl (NV x) ((0, .agg (BV v)) :: r) = fillS TInst_pl (NV { x with prom := v }) r := by
  show Instr.fill _ _ _ = Instr.fill _ _ _
  rw [fill_cons TInst_pl (NV x) (BV v) 0 0 2 r rfl rfl (by show _ ≤ 20; omega), TInst_put_prom]
theorem TInst_fl_vote (x : Inst) (v : Ballot) (r : List (Nat × Value)) : fillS TInst_pl (NV x) ((1, .agg (BV v)) :: r) = fillS TInst_pl (NV { x with vote := v }) r := by
  show Instr.fill _ _ _ = Instr.fill _ _ _
  rw [fill_cons TInst_pl (NV x) (BV v) 1 2 2 r rfl rfl (by show _ ≤ 20; omega), TInst_put_vote]
theorem TInst_fl_status (x : Inst) (v : Int) (r : List (Nat × Value)) : fillS TInst_pl (NV x) ((2, .int .i64 v) :: r) = fillS TInst_pl (NV { x with status := v }) r := rfl
theorem TInst_fl_call (x : Inst) (v : Call) (r : List (Nat × Value)) : fillS TInst_pl (NV x) ((3, .agg (CV v)) :: r) = fillS TInst_pl (NV { x with call := v }) r := by
  show Instr.fill _ _ _ = Instr.fill _ _ _
  rw [fill_cons TInst_pl (NV x) (CV v) 3 5 14 r rfl rfl (by show _ ≤ 20; omega), TInst_put_call]
theorem TInst_fl_same (x : Inst) (v : Bool) (r : List (Nat × Value)) : fillS TInst_pl (NV x) ((4, .bool v) :: r) = fillS TInst_pl (NV { x with same := v }) r := rfl
theorem TInst_ret {fn : Func} {R : Ending → World → Prop} {a : Act} {w : World} {p : Tmp} (x : Inst) {g : Nat} (hr : fn.results = #[.cell p 39]) (hp : a.tmps.getD p undef = .pointer (some ⟨g, 0, none⟩)) (hdf : a.defers = []) (hrow : row? w g = some (NV x)) (hR : R (.returned (.agg (NV x))) w) : bodyPost Try.prog fn R .ret a w :=
  ret_row (NV x) TInst_und rfl (by kernel_rfl) hr hp hdf (TInst_size x) hrow hR
end Go.Proofs.Ytpganpiidgkofaa
/- SCall as a value, as cells: its parts, equality, loads, stores, building. Printed by types.py. -/
namespace Go.Proofs.Ytpganpiidgkofaa
open Go.RowKit
set_option linter.unusedVariables false
structure SCall where
  kind : Int
  item : Item
  inst : Inst
  keep : Int
  spoil : Int
def SCV (x : SCall) : Array Value := #[.int .i64 x.kind, .int .i64 x.item.rep, .int .i64 x.item.num, .int .i64 x.inst.prom.round, .int .i64 x.inst.prom.rep, .int .i64 x.inst.vote.round, .int .i64 x.inst.vote.rep, .int .i64 x.inst.status, .int .i64 x.inst.call.deed.kind, .string x.inst.call.deed.key, .string x.inst.call.deed.val, .int .i64 x.inst.call.deed.ver, .int .i64 x.inst.call.deed.ses, .int .i64 x.inst.call.deed.num, .int .i64 (x.inst.call.deps 0), .int .i64 (x.inst.call.deps 1), .int .i64 (x.inst.call.deps 2), .int .i64 (x.inst.call.deps 3), .int .i64 (x.inst.call.deps 4), .int .i64 (x.inst.call.deps 5), .int .i64 (x.inst.call.deps 6), .int .i64 x.inst.call.seq, .bool x.inst.same, .int .i64 x.keep, .int .u8 x.spoil]
def noSCall : SCall := ⟨0, noItem, noInst, 0, 0⟩
section
variable (x y : SCall)
theorem TSCall_size : (SCV x).size = 25 := rfl
theorem TSCall_one : allOne (SCV x) = true := by simp [allOne, SCV, Value.oneCell']
theorem TSCall_piece : piece (SCV x) 0 25 = SCV x := piece_all _ _ rfl
theorem TSCall_c0 : (SCV x)[0]? = some (.int .i64 x.kind) := rfl
theorem TSCall_c1 : (SCV x)[1]? = some (.int .i64 x.item.rep) := rfl
theorem TSCall_c2 : (SCV x)[2]? = some (.int .i64 x.item.num) := rfl
theorem TSCall_c3 : (SCV x)[3]? = some (.int .i64 x.inst.prom.round) := rfl
theorem TSCall_c4 : (SCV x)[4]? = some (.int .i64 x.inst.prom.rep) := rfl
theorem TSCall_c5 : (SCV x)[5]? = some (.int .i64 x.inst.vote.round) := rfl
theorem TSCall_c6 : (SCV x)[6]? = some (.int .i64 x.inst.vote.rep) := rfl
theorem TSCall_c7 : (SCV x)[7]? = some (.int .i64 x.inst.status) := rfl
theorem TSCall_c8 : (SCV x)[8]? = some (.int .i64 x.inst.call.deed.kind) := rfl
theorem TSCall_c9 : (SCV x)[9]? = some (.string x.inst.call.deed.key) := rfl
theorem TSCall_c10 : (SCV x)[10]? = some (.string x.inst.call.deed.val) := rfl
theorem TSCall_c11 : (SCV x)[11]? = some (.int .i64 x.inst.call.deed.ver) := rfl
theorem TSCall_c12 : (SCV x)[12]? = some (.int .i64 x.inst.call.deed.ses) := rfl
theorem TSCall_c13 : (SCV x)[13]? = some (.int .i64 x.inst.call.deed.num) := rfl
theorem TSCall_c14 : (SCV x)[14]? = some (.int .i64 (x.inst.call.deps 0)) := rfl
theorem TSCall_c15 : (SCV x)[15]? = some (.int .i64 (x.inst.call.deps 1)) := rfl
theorem TSCall_c16 : (SCV x)[16]? = some (.int .i64 (x.inst.call.deps 2)) := rfl
theorem TSCall_c17 : (SCV x)[17]? = some (.int .i64 (x.inst.call.deps 3)) := rfl
theorem TSCall_c18 : (SCV x)[18]? = some (.int .i64 (x.inst.call.deps 4)) := rfl
theorem TSCall_c19 : (SCV x)[19]? = some (.int .i64 (x.inst.call.deps 5)) := rfl
theorem TSCall_c20 : (SCV x)[20]? = some (.int .i64 (x.inst.call.deps 6)) := rfl
theorem TSCall_c21 : (SCV x)[21]? = some (.int .i64 x.inst.call.seq) := rfl
theorem TSCall_c22 : (SCV x)[22]? = some (.bool x.inst.same) := rfl
theorem TSCall_c23 : (SCV x)[23]? = some (.int .i64 x.keep) := rfl
theorem TSCall_c24 : (SCV x)[24]? = some (.int .u8 x.spoil) := rfl
theorem TSCall_set_kind (v : Int) : (SCV x).setIfInBounds 0 (.int .i64 v) = SCV { x with kind := v } := rfl
theorem TSCall_p_item : piece (SCV x) 1 2 = IV x.item := by kernel_rfl
theorem TSCall_put_item (v : Item) : splice (SCV x) 1 (IV v) = SCV { x with item := v } := by kernel_rfl
theorem TSCall_p_inst : piece (SCV x) 3 20 = NV x.inst := by kernel_rfl
theorem TSCall_put_inst (v : Inst) : splice (SCV x) 3 (NV v) = SCV { x with inst := v } := by kernel_rfl
theorem TSCall_set_keep (v : Int) : (SCV x).setIfInBounds 23 (.int .i64 v) = SCV { x with keep := v } := rfl
theorem TSCall_set_spoil (v : Int) : (SCV x).setIfInBounds 24 (.int .u8 v) = SCV { x with spoil := v } := rfl
theorem TSCall_deps (i : Nat) (h : i < 7) : (SCV x)[14 + i]? = some (.int .i64 (x.inst.call.deps i)) := by
  match i, h with
  | 0, _ => rfl
  | 1, _ => rfl
  | 2, _ => rfl
  | 3, _ => rfl
  | 4, _ => rfl
  | 5, _ => rfl
  | 6, _ => rfl
theorem TSCall_cat : SCV x = #[.int .i64 x.kind] ++ IV x.item ++ NV x.inst ++ #[.int .i64 x.keep] ++ #[.int .u8 x.spoil] := by kernel_rfl
theorem TSCall_ext : SCV x = SCV y ↔ x.kind = y.kind ∧ IV x.item = IV y.item ∧ NV x.inst = NV y.inst ∧ x.keep = y.keep ∧ x.spoil = y.spoil := by
  constructor
  · intro h
    refine ⟨?_, ?_, ?_, ?_, ?_⟩
    · have := congrArg (·[0]?) h; simpa [TSCall_c0, TSCall_size] using this
    · have := congrArg (fun c => piece c 1 2) h; simpa only [TSCall_p_item] using this
    · have := congrArg (fun c => piece c 3 20) h; simpa only [TSCall_p_inst] using this
    · have := congrArg (·[23]?) h; simpa [TSCall_c23, TSCall_size] using this
    · have := congrArg (·[24]?) h; simpa [TSCall_c24, TSCall_size] using this
  · rintro ⟨h0, h1, h2, h3, h4⟩
    rw [TSCall_cat x, TSCall_cat y, h0, h1, h2, h3, h4]
end
theorem TSCall_und : Try.prog.underlying 72 = some (.struct (Try.prog.fieldsOf 72)) := by kernel_rfl
theorem TSCall_eq (d : Nat) (x y : SCall) (w : World) : (Op.equalIn (d + 5) 72 (.agg (SCV x)) (.agg (SCV y))).run Try.prog w = .ok (eqA (SCV x) (SCV y)) w := by
  refine eq_struct (d := d + 4) (L := [(3, 0, x.kind == y.kind), (42, 1, eqA (IV x.item) (IV y.item)), (39, 3, eqA (NV x.inst) (NV y.inst)), (3, 23, x.keep == y.keep), (5, 24, x.spoil == y.spoil)]) TSCall_und (by kernel_rfl) (by kernel_rfl) ?_ ?_ w
  · simp only [List.forall_mem_cons]
    exact ⟨⟨_, _, part_cell Try.underlying3 rfl (by kernel_rfl) (TSCall_c0 x), part_cell Try.underlying3 rfl (by kernel_rfl) (TSCall_c0 y), fun w => run_equalIn_int w (d + 3) _ _ _ _ _ Try.underlying3⟩, ⟨_, _, fun w => by rw [part_row TItem_und rfl (by kernel_rfl) (n := 2), TSCall_p_item], fun w => by rw [part_row TItem_und rfl (by kernel_rfl) (n := 2), TSCall_p_item], fun w => TItem_eq (d + 2) x.item y.item w⟩, ⟨_, _, fun w => by rw [part_row TInst_und rfl (by kernel_rfl) (n := 20), TSCall_p_inst], fun w => by rw [part_row TInst_und rfl (by kernel_rfl) (n := 20), TSCall_p_inst], fun w => TInst_eq (d + 0) x.inst y.inst w⟩, ⟨_, _, part_cell Try.underlying3 rfl (by kernel_rfl) (TSCall_c23 x), part_cell Try.underlying3 rfl (by kernel_rfl) (TSCall_c23 y), fun w => run_equalIn_int w (d + 3) _ _ _ _ _ Try.underlying3⟩, ⟨_, _, part_cell Try.underlying5 rfl (by kernel_rfl) (TSCall_c24 x), part_cell Try.underlying5 rfl (by kernel_rfl) (TSCall_c24 y), fun w => run_equalIn_int w (d + 3) _ _ _ _ _ Try.underlying5⟩, by simp⟩
  · refine eqA_of ?_
    rw [TSCall_ext]
    simp [eqA_iff]
theorem TSCall_eql (x y : SCall) (w : World) : (binOp .eql 72 (.agg (SCV x)) (.agg (SCV y))).run Try.prog w = .ok (.bool (eqA (SCV x) (SCV y))) w := eql_of (TSCall_eq 9995 x y) w
theorem TSCall_neq (x y : SCall) (w : World) : (binOp .neq 72 (.agg (SCV x)) (.agg (SCV y))).run Try.prog w = .ok (.bool (!eqA (SCV x) (SCV y))) w := neq_of (TSCall_eq 9995 x y) w
theorem TSCall_ld0 (v : Value) : Instr.loadAt 72 v = loadSem 72 v := rfl
theorem TSCall_st0 (v u : Value) : Instr.storeAt 72 v u = storeSem 72 v u := rfl
theorem TSCall_fd0 (x : Value) (i : Nat) : Instr.field 72 x i = fieldSem 72 x i := rfl
theorem TSCall_bd0 (p : Array (Nat × Value)) : Instr.build 72 p = buildS 72 p := rfl
theorem TSCall_ld (w : World) (v : Value) : (loadSem 72 v).run Try.prog w = loadVal Try.prog 72 25 w v := load_val TSCall_und rfl (by kernel_rfl) w v
theorem TSCall_st (w : World) (v u : Value) : (storeSem 72 v u).run Try.prog w = storeVal Try.prog 72 25 w v u := store_val (by kernel_rfl) w v u
theorem TSCall_f_kind (x : SCall) (w : World) : (fieldSem 72 (.agg (SCV x)) 0).run Try.prog w = .ok (.int .i64 x.kind) w := field_of TSCall_und (by kernel_rfl) (part_cell Try.underlying3 rfl (by kernel_rfl) (TSCall_c0 x)) w
theorem TSCall_f_item (x : SCall) (w : World) : (fieldSem 72 (.agg (SCV x)) 1).run Try.prog w = .ok (.agg (IV x.item)) w := field_of TSCall_und (by kernel_rfl) (fun w => by rw [part_row TItem_und rfl (by kernel_rfl) (n := 2), TSCall_p_item]) w
theorem TSCall_f_inst (x : SCall) (w : World) : (fieldSem 72 (.agg (SCV x)) 2).run Try.prog w = .ok (.agg (NV x.inst)) w := field_of TSCall_und (by kernel_rfl) (fun w => by rw [part_row TInst_und rfl (by kernel_rfl) (n := 20), TSCall_p_inst]) w
theorem TSCall_f_keep (x : SCall) (w : World) : (fieldSem 72 (.agg (SCV x)) 3).run Try.prog w = .ok (.int .i64 x.keep) w := field_of TSCall_und (by kernel_rfl) (part_cell Try.underlying3 rfl (by kernel_rfl) (TSCall_c23 x)) w
theorem TSCall_f_spoil (x : SCall) (w : World) : (fieldSem 72 (.agg (SCV x)) 4).run Try.prog w = .ok (.int .u8 x.spoil) w := field_of TSCall_und (by kernel_rfl) (part_cell Try.underlying5 rfl (by kernel_rfl) (TSCall_c24 x)) w
def TSCall_pl : Nat → Option (Nat × Nat) := fun i => (#[(0, 1), (1, 2), (3, 20), (23, 1), (24, 1)] : Array (Nat × Nat))[i]?
theorem TSCall_bd (w : World) (p : Array (Nat × Value)) : (buildS 72 p).run Try.prog w = buildOf Try.prog 72 TSCall_pl (SCV noSCall) p w := build_struct TSCall_und (by kernel_rfl) (fun w => by kernel_rfl) w p
theorem TSCall_fl (X : Array Value) : fillS TSCall_pl X [] = some X := rfl
theorem TSCall_fl_kind (x : SCall) (v : Int) (r : List (Nat × Value)) : fillS TSCall_pl (SCV x) ((0, .int .i64 v) :: r) = fillS TSCall_pl (SCV { x with kind := v }) r := rfl
theorem TSCall_fl_item (x : SCall) (v : Item) (r : List (Nat × Value)) : fillS TSCall_pl (SCV x) ((1, .agg (IV v)) :: r) = fillS TSCall_pl (SCV { x with item := v }) r := by
  show Instr.fill _ _ _ = Instr.fill _ _ _
  rw [fill_cons TSCall_pl (SCV x) (IV v) 1 1 2 r rfl rfl (by show _ ≤ 25; omega), TSCall_put_item]
theorem TSCall_fl_inst (x : SCall) (v : Inst) (r : List (Nat × Value)) : fillS TSCall_pl (SCV x) ((2, .agg (NV v)) :: r) = fillS TSCall_pl (SCV { x with inst := v }) r := by
  show Instr.fill _ _ _ = Instr.fill _ _ _
  rw [fill_cons TSCall_pl (SCV x) (NV v) 2 3 20 r rfl rfl (by show _ ≤ 25; omega), TSCall_put_inst]
theorem TSCall_fl_keep (x : SCall) (v : Int) (r : List (Nat × Value)) : fillS TSCall_pl (SCV x) ((3, .int .i64 v) :: r) = fillS TSCall_pl (SCV { x with keep := v }) r := rfl
theorem TSCall_fl_spoil (x : SCall) (v : Int) (r : List (Nat × Value)) : fillS TSCall_pl (SCV x) ((4, .int .u8 v) :: r) = fillS TSCall_pl (SCV { x with spoil := v }) r := rfl
theorem TSCall_ret {fn : Func} {R : Ending → World → Prop} {a : Act} {w : World} {p : Tmp} (x : SCall) {g : Nat} (hr : fn.results = #[.cell p 72]) (hp : a.tmps.getD p undef = .pointer (some ⟨g, 0, none⟩)) (hdf : a.defers = []) (hrow : row? w g = some (SCV x)) (hR : R (.returned (.agg (SCV x))) w) : bodyPost Try.prog fn R .ret a w :=
  ret_row (SCV x) TSCall_und rfl (by kernel_rfl) hr hp hdf (TSCall_size x) hrow hR
end Go.Proofs.Ytpganpiidgkofaa
/- What comes in as Ballot. Printed by types.py. -/
namespace Go.Proofs.Ytpganpiidgkofaa
open Go.ChangeShapes Go.WideShapes Go.ChangeAt Go.RowKit Go.WideMaps Go.WideElems Go.Joins
open Go.ChangeMaps (open_string)
set_option linter.unusedVariables false
set_option maxRecDepth 20000
structure BallotFits (x : Ballot) : Prop where
  round : Fits x.round
  rep : Fits x.rep
section
variable {H : Type} {enc : TypeId × Value → H} {w : World} {base : Nat} {sp : Nat → Bool} {held : Bool} {r : Reach} {b0 : Nat} {v : Value} {d : DataW H} {p : List MemPlace}
theorem trod_Ballot {fuel : Nat} {cs : List Value} {x : DataW H × List MemPlace} (h : DataW.trod enc Try.prog w base sp held fuel 31 cs = some x) :
    ∃ X : Ballot, cs = (BV X).toList ∧ BallotFits X := by
  obtain ⟨xs, n, _, hx, hlen, hxl, hg⟩ := DataW.trod_struct Try.underlying31 h
  have hC : Try.prog.cellsOf 31 = 2 := by kernel_rfl
  rw [hC] at hlen
  match xs, hxl with
  | [y0, y1], _ =>
    subst hx
    have c0 : Try.prog.cellsOf 3 = 1 := by kernel_rfl
    have g0 : DataW.trod enc Try.prog w base sp held n 3 ((cs.drop 0).take (Try.prog.cellsOf 3)) = some y0 := hg 0 _ rfl
    rw [c0] at g0
    obtain ⟨n0, e0, f0, w0⟩ := DataW.trod_int Try.underlying3 g0
    have c1 : Try.prog.cellsOf 3 = 1 := by kernel_rfl
    have g1 : DataW.trod enc Try.prog w base sp held n 3 ((cs.drop 1).take (Try.prog.cellsOf 3)) = some y1 := hg 1 _ rfl
    rw [c1] at g1
    obtain ⟨n1, e1, f1, w1⟩ := DataW.trod_int Try.underlying3 g1
    have ee : cs = (cs.drop 0).take 1 ++ ((cs.drop 1).take 1 ++ cs.drop 2) := by
      exact (List.drop_zero (l := cs)).symm.trans ((seg cs 0 1).trans (congrArg (_ ++ ·) (seg cs 1 1)))
    rw [e0, e1, List.drop_eq_nil_of_le (by omega)] at ee
    exact ⟨⟨n0, n1⟩, ee, ⟨fits_of w0, fits_of w1⟩⟩
theorem open_Ballot (hv : Value.okWide Try.prog w r b0 31 v) (h : DataW.Trod enc Try.prog w base sp held 31 v d p) :
    ∃ X : Ballot, v = .agg (BV X) ∧ BallotFits X := by
  obtain ⟨cs, rfl, _⟩ := okWide_struct Try.underlying31 hv
  obtain ⟨fuel, hf⟩ := h
  obtain ⟨X, e, hX⟩ := trod_Ballot hf
  refine ⟨X, ?_, hX⟩
  obtain ⟨l⟩ := cs
  simp only [Value.cells] at e
  have e' : l = (BV X).toList := e
  subst e'
  rfl
end
end Go.Proofs.Ytpganpiidgkofaa
