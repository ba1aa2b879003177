/- Several texts in one. -/
import Derived.Test.YtfgacjglfdehbaaGreatDoorZ3
import Derived.Test.YtfgacjglfdehbaaGreatDoorZ1
import Derived.SizedLaws
/- Deed as a value, as cells: its parts, equality, loads, stores, building. Printed by types.py. -/
namespace Go.Proofs.YtfgacjglfdehbaaGreatDoor
open Go.RowKit
set_option linter.unusedVariables false
section
variable (x y : Deed)
theorem TDeed_size : (EV x).size = 6 := rfl
theorem TDeed_one : allOne (EV x) = true := by simp [allOne, EV, Value.oneCell']
theorem TDeed_piece : piece (EV x) 0 6 = EV x := piece_all _ _ rfl
theorem TDeed_c0 : (EV x)[0]? = some (.int .i64 x.kind) := rfl
theorem TDeed_c1 : (EV x)[1]? = some (.string x.key) := rfl
theorem TDeed_c2 : (EV x)[2]? = some (.string x.val) := rfl
theorem TDeed_c3 : (EV x)[3]? = some (.int .i64 x.ver) := rfl
theorem TDeed_c4 : (EV x)[4]? = some (.int .i64 x.ses) := rfl
theorem TDeed_c5 : (EV x)[5]? = some (.int .i64 x.num) := rfl
theorem TDeed_set_kind (v : Int) : (EV x).setIfInBounds 0 (.int .i64 v) = EV { x with kind := v } := rfl
theorem TDeed_set_key (v : ByteArray) : (EV x).setIfInBounds 1 (.string v) = EV { x with key := v } := rfl
theorem TDeed_set_val (v : ByteArray) : (EV x).setIfInBounds 2 (.string v) = EV { x with val := v } := rfl
theorem TDeed_set_ver (v : Int) : (EV x).setIfInBounds 3 (.int .i64 v) = EV { x with ver := v } := rfl
theorem TDeed_set_ses (v : Int) : (EV x).setIfInBounds 4 (.int .i64 v) = EV { x with ses := v } := rfl
theorem TDeed_set_num (v : Int) : (EV x).setIfInBounds 5 (.int .i64 v) = EV { x with num := v } := rfl
theorem TDeed_cat : EV x = #[.int .i64 x.kind] ++ #[.string x.key] ++ #[.string x.val] ++ #[.int .i64 x.ver] ++ #[.int .i64 x.ses] ++ #[.int .i64 x.num] := by kernel_rfl
theorem TDeed_ext : EV x = EV y ↔ x.kind = y.kind ∧ x.key = y.key ∧ x.val = y.val ∧ x.ver = y.ver ∧ x.ses = y.ses ∧ x.num = y.num := by
  constructor
  · intro h
    refine ⟨?_, ?_, ?_, ?_, ?_, ?_⟩
    · have := congrArg (·[0]?) h; simpa [TDeed_c0, TDeed_size] using this
    · have := congrArg (·[1]?) h; simpa [TDeed_c1, TDeed_size] using this
    · have := congrArg (·[2]?) h; simpa [TDeed_c2, TDeed_size] using this
    · have := congrArg (·[3]?) h; simpa [TDeed_c3, TDeed_size] using this
    · have := congrArg (·[4]?) h; simpa [TDeed_c4, TDeed_size] using this
    · have := congrArg (·[5]?) h; simpa [TDeed_c5, TDeed_size] using this
  · rintro ⟨h0, h1, h2, h3, h4, h5⟩
    rw [TDeed_cat x, TDeed_cat y, h0, h1, h2, h3, h4, h5]
end
theorem TDeed_und : Tryz.prog.underlying 36 = some (.struct (Tryz.prog.fieldsOf 36)) := by kernel_rfl
theorem TDeed_eq (d : Nat) (x y : Deed) (w : World) : (Op.equalIn (d + 2) 36 (.agg (EV x)) (.agg (EV y))).run Tryz.prog w = .ok (eqA (EV x) (EV y)) w := by
  refine eq_struct (d := d + 1) (L := [(3, 0, x.kind == y.kind), (9, 1, x.key.toList == y.key.toList), (9, 2, x.val.toList == y.val.toList), (3, 3, x.ver == y.ver), (3, 4, x.ses == y.ses), (3, 5, x.num == y.num)]) TDeed_und (by kernel_rfl) (by kernel_rfl) ?_ ?_ w
  · simp only [List.forall_mem_cons]
    exact ⟨⟨_, _, part_cell Tryz.underlying3 rfl (by kernel_rfl) (TDeed_c0 x), part_cell Tryz.underlying3 rfl (by kernel_rfl) (TDeed_c0 y), fun w => run_equalIn_int w (d + 0) _ _ _ _ _ Tryz.underlying3⟩, ⟨_, _, part_cell Tryz.underlying9 rfl (by kernel_rfl) (TDeed_c1 x), part_cell Tryz.underlying9 rfl (by kernel_rfl) (TDeed_c1 y), fun w => run_equalIn_string w (d + 0) _ _ _ Tryz.underlying9⟩, ⟨_, _, part_cell Tryz.underlying9 rfl (by kernel_rfl) (TDeed_c2 x), part_cell Tryz.underlying9 rfl (by kernel_rfl) (TDeed_c2 y), fun w => run_equalIn_string w (d + 0) _ _ _ Tryz.underlying9⟩, ⟨_, _, part_cell Tryz.underlying3 rfl (by kernel_rfl) (TDeed_c3 x), part_cell Tryz.underlying3 rfl (by kernel_rfl) (TDeed_c3 y), fun w => run_equalIn_int w (d + 0) _ _ _ _ _ Tryz.underlying3⟩, ⟨_, _, part_cell Tryz.underlying3 rfl (by kernel_rfl) (TDeed_c4 x), part_cell Tryz.underlying3 rfl (by kernel_rfl) (TDeed_c4 y), fun w => run_equalIn_int w (d + 0) _ _ _ _ _ Tryz.underlying3⟩, ⟨_, _, part_cell Tryz.underlying3 rfl (by kernel_rfl) (TDeed_c5 x), part_cell Tryz.underlying3 rfl (by kernel_rfl) (TDeed_c5 y), fun w => run_equalIn_int w (d + 0) _ _ _ _ _ Tryz.underlying3⟩, by simp⟩
  · refine eqA_of ?_
    rw [TDeed_ext]
    simp [toList_inj_iff]
theorem TDeed_eql (x y : Deed) (w : World) : (binOp .eql 36 (.agg (EV x)) (.agg (EV y))).run Tryz.prog w = .ok (.bool (eqA (EV x) (EV y))) w := eql_of (TDeed_eq 9998 x y) w
theorem TDeed_neq (x y : Deed) (w : World) : (binOp .neq 36 (.agg (EV x)) (.agg (EV y))).run Tryz.prog w = .ok (.bool (!eqA (EV x) (EV y))) w := neq_of (TDeed_eq 9998 x y) w
theorem TDeed_ld0 (v : Value) : Instr.loadAt 36 v = loadSem 36 v := rfl
theorem TDeed_st0 (v u : Value) : Instr.storeAt 36 v u = storeSem 36 v u := rfl
theorem TDeed_fd0 (x : Value) (i : Nat) : Instr.field 36 x i = fieldSem 36 x i := rfl
theorem TDeed_bd0 (p : Array (Nat × Value)) : Instr.build 36 p = buildS 36 p := rfl
theorem TDeed_ld (w : World) (v : Value) : (loadSem 36 v).run Tryz.prog w = loadVal Tryz.prog 36 6 w v := load_val TDeed_und rfl (by kernel_rfl) w v
theorem TDeed_st (w : World) (v u : Value) : (storeSem 36 v u).run Tryz.prog w = storeVal Tryz.prog 36 6 w v u := store_val (by kernel_rfl) w v u
theorem TDeed_f_kind (x : Deed) (w : World) : (fieldSem 36 (.agg (EV x)) 0).run Tryz.prog w = .ok (.int .i64 x.kind) w := field_of TDeed_und (by kernel_rfl) (part_cell Tryz.underlying3 rfl (by kernel_rfl) (TDeed_c0 x)) w
theorem TDeed_f_key (x : Deed) (w : World) : (fieldSem 36 (.agg (EV x)) 1).run Tryz.prog w = .ok (.string x.key) w := field_of TDeed_und (by kernel_rfl) (part_cell Tryz.underlying9 rfl (by kernel_rfl) (TDeed_c1 x)) w
theorem TDeed_f_val (x : Deed) (w : World) : (fieldSem 36 (.agg (EV x)) 2).run Tryz.prog w = .ok (.string x.val) w := field_of TDeed_und (by kernel_rfl) (part_cell Tryz.underlying9 rfl (by kernel_rfl) (TDeed_c2 x)) w
theorem TDeed_f_ver (x : Deed) (w : World) : (fieldSem 36 (.agg (EV x)) 3).run Tryz.prog w = .ok (.int .i64 x.ver) w := field_of TDeed_und (by kernel_rfl) (part_cell Tryz.underlying3 rfl (by kernel_rfl) (TDeed_c3 x)) w
theorem TDeed_f_ses (x : Deed) (w : World) : (fieldSem 36 (.agg (EV x)) 4).run Tryz.prog w = .ok (.int .i64 x.ses) w := field_of TDeed_und (by kernel_rfl) (part_cell Tryz.underlying3 rfl (by kernel_rfl) (TDeed_c4 x)) w
theorem TDeed_f_num (x : Deed) (w : World) : (fieldSem 36 (.agg (EV x)) 5).run Tryz.prog w = .ok (.int .i64 x.num) w := field_of TDeed_und (by kernel_rfl) (part_cell Tryz.underlying3 rfl (by kernel_rfl) (TDeed_c5 x)) w
def TDeed_pl : Nat → Option (Nat × Nat) := fun i => (#[(0, 1), (1, 1), (2, 1), (3, 1), (4, 1), (5, 1)] : Array (Nat × Nat))[i]?
theorem TDeed_bd (w : World) (p : Array (Nat × Value)) : (buildS 36 p).run Tryz.prog w = buildOf Tryz.prog 36 TDeed_pl (EV noDeed) p w := build_struct TDeed_und (by kernel_rfl) (fun w => by kernel_rfl) w p
theorem TDeed_fl (X : Array Value) : fillS TDeed_pl X [] = some X := rfl
theorem TDeed_fl_kind (x : Deed) (v : Int) (r : List (Nat × Value)) : fillS TDeed_pl (EV x) ((0, .int .i64 v) :: r) = fillS TDeed_pl (EV { x with kind := v }) r := rfl
theorem TDeed_fl_key (x : Deed) (v : ByteArray) (r : List (Nat × Value)) : fillS TDeed_pl (EV x) ((1, .string v) :: r) = fillS TDeed_pl (EV { x with key := v }) r := rfl
theorem TDeed_fl_val (x : Deed) (v : ByteArray) (r : List (Nat × Value)) : fillS TDeed_pl (EV x) ((2, .string v) :: r) = fillS TDeed_pl (EV { x with val := v }) r := rfl
theorem TDeed_fl_ver (x : Deed) (v : Int) (r : List (Nat × Value)) : fillS TDeed_pl (EV x) ((3, .int .i64 v) :: r) = fillS TDeed_pl (EV { x with ver := v }) r := rfl
theorem TDeed_fl_ses (x : Deed) (v : Int) (r : List (Nat × Value)) : fillS TDeed_pl (EV x) ((4, .int .i64 v) :: r) = fillS TDeed_pl (EV { x with ses := v }) r := rfl
theorem TDeed_fl_num (x : Deed) (v : Int) (r : List (Nat × Value)) : fillS TDeed_pl (EV x) ((5, .int .i64 v) :: r) = fillS TDeed_pl (EV { x with num := v }) r := rfl
end Go.Proofs.YtfgacjglfdehbaaGreatDoor
/- Call as a value, as cells: its parts, equality, loads, stores, building. Printed by types.py. -/
namespace Go.Proofs.YtfgacjglfdehbaaGreatDoor
open Go.RowKit
set_option linter.unusedVariables false
structure Call where
  deed : Deed
  deps : (Nat → Int)
  seq : Int
def CV (x : Call) : Array Value := #[.int .i64 x.deed.kind, .string x.deed.key, .string x.deed.val, .int .i64 x.deed.ver, .int .i64 x.deed.ses, .int .i64 x.deed.num, .int .i64 (x.deps 0), .int .i64 (x.deps 1), .int .i64 (x.deps 2), .int .i64 (x.deps 3), .int .i64 (x.deps 4), .int .i64 (x.deps 5), .int .i64 (x.deps 6), .int .i64 x.seq]
def noCall : Call := ⟨noDeed, (fun _ => 0), 0⟩
section
variable (x y : Call)
theorem TCall_size : (CV x).size = 14 := rfl
theorem TCall_one : allOne (CV x) = true := by simp [allOne, CV, Value.oneCell']
theorem TCall_piece : piece (CV x) 0 14 = CV x := piece_all _ _ rfl
theorem TCall_c0 : (CV x)[0]? = some (.int .i64 x.deed.kind) := rfl
theorem TCall_c1 : (CV x)[1]? = some (.string x.deed.key) := rfl
theorem TCall_c2 : (CV x)[2]? = some (.string x.deed.val) := rfl
theorem TCall_c3 : (CV x)[3]? = some (.int .i64 x.deed.ver) := rfl
theorem TCall_c4 : (CV x)[4]? = some (.int .i64 x.deed.ses) := rfl
theorem TCall_c5 : (CV x)[5]? = some (.int .i64 x.deed.num) := rfl
theorem TCall_c6 : (CV x)[6]? = some (.int .i64 (x.deps 0)) := rfl
theorem TCall_c7 : (CV x)[7]? = some (.int .i64 (x.deps 1)) := rfl
theorem TCall_c8 : (CV x)[8]? = some (.int .i64 (x.deps 2)) := rfl
theorem TCall_c9 : (CV x)[9]? = some (.int .i64 (x.deps 3)) := rfl
theorem TCall_c10 : (CV x)[10]? = some (.int .i64 (x.deps 4)) := rfl
theorem TCall_c11 : (CV x)[11]? = some (.int .i64 (x.deps 5)) := rfl
theorem TCall_c12 : (CV x)[12]? = some (.int .i64 (x.deps 6)) := rfl
theorem TCall_c13 : (CV x)[13]? = some (.int .i64 x.seq) := rfl
theorem TCall_p_deed : piece (CV x) 0 6 = EV x.deed := by kernel_rfl
theorem TCall_put_deed (v : Deed) : splice (CV x) 0 (EV v) = CV { x with deed := v } := by kernel_rfl
theorem TCall_p_deps : piece (CV x) 6 7 = DV x.deps := by kernel_rfl
theorem TCall_put_deps (v : (Nat → Int)) : splice (CV x) 6 (DV v) = CV { x with deps := v } := by kernel_rfl
theorem TCall_set_seq (v : Int) : (CV x).setIfInBounds 13 (.int .i64 v) = CV { x with seq := v } := rfl
theorem TCall_deps (i : Nat) (h : i < 7) : (CV x)[6 + i]? = some (.int .i64 (x.deps i)) := by
  match i, h with
  | 0, _ => rfl
  | 1, _ => rfl
  | 2, _ => rfl
  | 3, _ => rfl
  | 4, _ => rfl
  | 5, _ => rfl
  | 6, _ => rfl
theorem TCall_setdeps (i : Nat) (h : i < 7) (v : Int) : (CV x).setIfInBounds (6 + i) (.int .i64 v) = CV { x with deps := upd x.deps i v } := by
  match i, h with
  | 0, _ => rfl
  | 1, _ => rfl
  | 2, _ => rfl
  | 3, _ => rfl
  | 4, _ => rfl
  | 5, _ => rfl
  | 6, _ => rfl
theorem TCall_cat : CV x = EV x.deed ++ DV x.deps ++ #[.int .i64 x.seq] := by kernel_rfl
theorem TCall_ext : CV x = CV y ↔ EV x.deed = EV y.deed ∧ DV x.deps = DV y.deps ∧ x.seq = y.seq := by
  constructor
  · intro h
    refine ⟨?_, ?_, ?_⟩
    · have := congrArg (fun c => piece c 0 6) h; simpa only [TCall_p_deed] using this
    · have := congrArg (fun c => piece c 6 7) h; simpa only [TCall_p_deps] using this
    · have := congrArg (·[13]?) h; simpa [TCall_c13, TCall_size] using this
  · rintro ⟨h0, h1, h2⟩
    rw [TCall_cat x, TCall_cat y, h0, h1, h2]
end
theorem TCall_und : Tryz.prog.underlying 40 = some (.struct (Tryz.prog.fieldsOf 40)) := by kernel_rfl
theorem TCall_eq (d : Nat) (x y : Call) (w : World) : (Op.equalIn (d + 3) 40 (.agg (CV x)) (.agg (CV y))).run Tryz.prog w = .ok (eqA (CV x) (CV y)) w := by
  refine eq_struct (d := d + 2) (L := [(36, 0, eqA (EV x.deed) (EV y.deed)), (38, 6, eqA (DV x.deps) (DV y.deps)), (3, 13, x.seq == y.seq)]) TCall_und (by kernel_rfl) (by kernel_rfl) ?_ ?_ w
  · simp only [List.forall_mem_cons]
    exact ⟨⟨_, _, fun w => by rw [part_row TDeed_und rfl (by kernel_rfl) (n := 6), TCall_p_deed], fun w => by rw [part_row TDeed_und rfl (by kernel_rfl) (n := 6), TCall_p_deed], fun w => TDeed_eq (d + 0) x.deed y.deed w⟩, ⟨_, _, fun w => by rw [part_row Tryz.underlying38 rfl (by kernel_rfl) (n := 7), TCall_p_deps], fun w => by rw [part_row Tryz.underlying38 rfl (by kernel_rfl) (n := 7), TCall_p_deps], fun w => TDeps_eq (d + 0) x.deps y.deps w⟩, ⟨_, _, part_cell Tryz.underlying3 rfl (by kernel_rfl) (TCall_c13 x), part_cell Tryz.underlying3 rfl (by kernel_rfl) (TCall_c13 y), fun w => run_equalIn_int w (d + 1) _ _ _ _ _ Tryz.underlying3⟩, by simp⟩
  · refine eqA_of ?_
    rw [TCall_ext]
    simp [eqA_iff]
theorem TCall_eql (x y : Call) (w : World) : (binOp .eql 40 (.agg (CV x)) (.agg (CV y))).run Tryz.prog w = .ok (.bool (eqA (CV x) (CV y))) w := eql_of (TCall_eq 9997 x y) w
theorem TCall_neq (x y : Call) (w : World) : (binOp .neq 40 (.agg (CV x)) (.agg (CV y))).run Tryz.prog w = .ok (.bool (!eqA (CV x) (CV y))) w := neq_of (TCall_eq 9997 x y) w
theorem TCall_ld0 (v : Value) : Instr.loadAt 40 v = loadSem 40 v := rfl
theorem TCall_st0 (v u : Value) : Instr.storeAt 40 v u = storeSem 40 v u := rfl
theorem TCall_fd0 (x : Value) (i : Nat) : Instr.field 40 x i = fieldSem 40 x i := rfl
theorem TCall_bd0 (p : Array (Nat × Value)) : Instr.build 40 p = buildS 40 p := rfl
theorem TCall_ld (w : World) (v : Value) : (loadSem 40 v).run Tryz.prog w = loadVal Tryz.prog 40 14 w v := load_val TCall_und rfl (by kernel_rfl) w v
theorem TCall_st (w : World) (v u : Value) : (storeSem 40 v u).run Tryz.prog w = storeVal Tryz.prog 40 14 w v u := store_val (by kernel_rfl) w v u
theorem TCall_f_deed (x : Call) (w : World) : (fieldSem 40 (.agg (CV x)) 0).run Tryz.prog w = .ok (.agg (EV x.deed)) w := field_of TCall_und (by kernel_rfl) (fun w => by rw [part_row TDeed_und rfl (by kernel_rfl) (n := 6), TCall_p_deed]) w
theorem TCall_f_deps (x : Call) (w : World) : (fieldSem 40 (.agg (CV x)) 1).run Tryz.prog w = .ok (.agg (DV x.deps)) w := field_of TCall_und (by kernel_rfl) (fun w => by rw [part_row Tryz.underlying38 rfl (by kernel_rfl) (n := 7), TCall_p_deps]) w
theorem TCall_f_seq (x : Call) (w : World) : (fieldSem 40 (.agg (CV x)) 2).run Tryz.prog w = .ok (.int .i64 x.seq) w := field_of TCall_und (by kernel_rfl) (part_cell Tryz.underlying3 rfl (by kernel_rfl) (TCall_c13 x)) w
def TCall_pl : Nat → Option (Nat × Nat) := fun i => (#[(0, 6), (6, 7), (13, 1)] : Array (Nat × Nat))[i]?
theorem TCall_bd (w : World) (p : Array (Nat × Value)) : (buildS 40 p).run Tryz.prog w = buildOf Tryz.prog 40 TCall_pl (CV noCall) p w := build_struct TCall_und (by kernel_rfl) (fun w => by kernel_rfl) w p
theorem TCall_fl (X : Array Value) : fillS TCall_pl X [] = some X := rfl
theorem TCall_fl_deed (x : Call) (v : Deed) (r : List (Nat × Value)) : fillS TCall_pl (CV x) ((0, .agg (EV v)) :: r) = fillS TCall_pl (CV { x with deed := v }) r := by
  show Instr.fill _ _ _ = Instr.fill _ _ _
  rw [fill_cons TCall_pl (CV x) (EV v) 0 0 6 r rfl rfl (by show _ ≤ 14; omega), TCall_put_deed]
theorem TCall_fl_deps (x : Call) (v : (Nat → Int)) (r : List (Nat × Value)) : fillS TCall_pl (CV x) ((1, .agg (DV v)) :: r) = fillS TCall_pl (CV { x with deps := v }) r := by
  show Instr.fill _ _ _ = Instr.fill _ _ _
  rw [fill_cons TCall_pl (CV x) (DV v) 1 6 7 r rfl rfl (by show _ ≤ 14; omega), TCall_put_deps]
theorem TCall_fl_seq (x : Call) (v : Int) (r : List (Nat × Value)) : fillS TCall_pl (CV x) ((2, .int .i64 v) :: r) = fillS TCall_pl (CV { x with seq := v }) r := rfl
theorem TCall_ret {fn : Func} {R : Ending → World → Prop} {a : Act} {w : World} {p : Tmp} (x : Call) {g : Nat} (hr : fn.results = #[.cell p 40]) (hp : a.tmps.getD p undef = .pointer (some ⟨g, 0, none⟩)) (hdf : a.defers = []) (hrow : row? w g = some (CV x)) (hR : R (.returned (.agg (CV x))) w) : bodyPost Tryz.prog fn R .ret a w :=
  ret_row (CV x) TCall_und rfl (by kernel_rfl) hr hp hdf (TCall_size x) hrow hR
end Go.Proofs.YtfgacjglfdehbaaGreatDoor
/- Msg as a value, as cells: its parts, equality, loads, stores, building. Printed by types.py. -/
namespace Go.Proofs.YtfgacjglfdehbaaGreatDoor
open Go.RowKit
set_option linter.unusedVariables false
structure Msg where
  kind : Int
  frm : Int
  to : Int
  item : Item
  bal : Ballot
  vote : Ballot
  status : Int
  same : Bool
  call : Call
def MV (x : Msg) : Array Value := #[.int .i64 x.kind, .int .i64 x.frm, .int .i64 x.to, .int .i64 x.item.rep, .int .i64 x.item.num, .int .i64 x.bal.round, .int .i64 x.bal.rep, .int .i64 x.vote.round, .int .i64 x.vote.rep, .int .i64 x.status, .bool x.same, .int .i64 x.call.deed.kind, .string x.call.deed.key, .string x.call.deed.val, .int .i64 x.call.deed.ver, .int .i64 x.call.deed.ses, .int .i64 x.call.deed.num, .int .i64 (x.call.deps 0), .int .i64 (x.call.deps 1), .int .i64 (x.call.deps 2), .int .i64 (x.call.deps 3), .int .i64 (x.call.deps 4), .int .i64 (x.call.deps 5), .int .i64 (x.call.deps 6), .int .i64 x.call.seq]
def noMsg : Msg := ⟨0, 0, 0, noItem, noBallot, noBallot, 0, false, noCall⟩
section
variable (x y : Msg)
theorem TMsg_size : (MV x).size = 25 := rfl
theorem TMsg_one : allOne (MV x) = true := by simp [allOne, MV, Value.oneCell']
theorem TMsg_piece : piece (MV x) 0 25 = MV x := piece_all _ _ rfl
theorem TMsg_c0 : (MV x)[0]? = some (.int .i64 x.kind) := rfl
theorem TMsg_c1 : (MV x)[1]? = some (.int .i64 x.frm) := rfl
theorem TMsg_c2 : (MV x)[2]? = some (.int .i64 x.to) := rfl
theorem TMsg_c3 : (MV x)[3]? = some (.int .i64 x.item.rep) := rfl
theorem TMsg_c4 : (MV x)[4]? = some (.int .i64 x.item.num) := rfl
theorem TMsg_c5 : (MV x)[5]? = some (.int .i64 x.bal.round) := rfl
theorem TMsg_c6 : (MV x)[6]? = some (.int .i64 x.bal.rep) := rfl
theorem TMsg_c7 : (MV x)[7]? = some (.int .i64 x.vote.round) := rfl
theorem TMsg_c8 : (MV x)[8]? = some (.int .i64 x.vote.rep) := rfl
theorem TMsg_c9 : (MV x)[9]? = some (.int .i64 x.status) := rfl
theorem TMsg_c10 : (MV x)[10]? = some (.bool x.same) := rfl
theorem TMsg_c11 : (MV x)[11]? = some (.int .i64 x.call.deed.kind) := rfl
theorem TMsg_c12 : (MV x)[12]? = some (.string x.call.deed.key) := rfl
theorem TMsg_c13 : (MV x)[13]? = some (.string x.call.deed.val) := rfl
theorem TMsg_c14 : (MV x)[14]? = some (.int .i64 x.call.deed.ver) := rfl
theorem TMsg_c15 : (MV x)[15]? = some (.int .i64 x.call.deed.ses) := rfl
theorem TMsg_c16 : (MV x)[16]? = some (.int .i64 x.call.deed.num) := rfl
theorem TMsg_c17 : (MV x)[17]? = some (.int .i64 (x.call.deps 0)) := rfl
theorem TMsg_c18 : (MV x)[18]? = some (.int .i64 (x.call.deps 1)) := rfl
theorem TMsg_c19 : (MV x)[19]? = some (.int .i64 (x.call.deps 2)) := rfl
theorem TMsg_c20 : (MV x)[20]? = some (.int .i64 (x.call.deps 3)) := rfl
theorem TMsg_c21 : (MV x)[21]? = some (.int .i64 (x.call.deps 4)) := rfl
theorem TMsg_c22 : (MV x)[22]? = some (.int .i64 (x.call.deps 5)) := rfl
theorem TMsg_c23 : (MV x)[23]? = some (.int .i64 (x.call.deps 6)) := rfl
theorem TMsg_c24 : (MV x)[24]? = some (.int .i64 x.call.seq) := rfl
theorem TMsg_set_kind (v : Int) : (MV x).setIfInBounds 0 (.int .i64 v) = MV { x with kind := v } := rfl
theorem TMsg_set_frm (v : Int) : (MV x).setIfInBounds 1 (.int .i64 v) = MV { x with frm := v } := rfl
theorem TMsg_set_to (v : Int) : (MV x).setIfInBounds 2 (.int .i64 v) = MV { x with to := v } := rfl
theorem TMsg_p_item : piece (MV x) 3 2 = IV x.item := by kernel_rfl
theorem TMsg_put_item (v : Item) : splice (MV x) 3 (IV v) = MV { x with item := v } := by kernel_rfl
theorem TMsg_p_bal : piece (MV x) 5 2 = BV x.bal := by kernel_rfl
theorem TMsg_put_bal (v : Ballot) : splice (MV x) 5 (BV v) = MV { x with bal := v } := by kernel_rfl
theorem TMsg_p_vote : piece (MV x) 7 2 = BV x.vote := by kernel_rfl
theorem TMsg_put_vote (v : Ballot) : splice (MV x) 7 (BV v) = MV { x with vote := v } := by kernel_rfl
theorem TMsg_set_status (v : Int) : (MV x).setIfInBounds 9 (.int .i64 v) = MV { x with status := v } := rfl
theorem TMsg_set_same (v : Bool) : (MV x).setIfInBounds 10 (.bool v) = MV { x with same := v } := rfl
theorem TMsg_p_call : piece (MV x) 11 14 = CV x.call := by kernel_rfl
theorem TMsg_put_call (v : Call) : splice (MV x) 11 (CV v) = MV { x with call := v } := by kernel_rfl
theorem TMsg_cat : MV x = #[.int .i64 x.kind] ++ #[.int .i64 x.frm] ++ #[.int .i64 x.to] ++ IV x.item ++ BV x.bal ++ BV x.vote ++ #[.int .i64 x.status] ++ #[.bool x.same] ++ CV x.call := by kernel_rfl
theorem TMsg_ext : MV x = MV y ↔ x.kind = y.kind ∧ x.frm = y.frm ∧ x.to = y.to ∧ IV x.item = IV y.item ∧ BV x.bal = BV y.bal ∧ BV x.vote = BV y.vote ∧ x.status = y.status ∧ x.same = y.same ∧ CV x.call = CV y.call := by
  constructor
  · intro h
    refine ⟨?_, ?_, ?_, ?_, ?_, ?_, ?_, ?_, ?_⟩
    · have := congrArg (·[0]?) h; simpa [TMsg_c0, TMsg_size] using this
    · have := congrArg (·[1]?) h; simpa [TMsg_c1, TMsg_size] using this
    · have := congrArg (·[2]?) h; simpa [TMsg_c2, TMsg_size] using this
    · have := congrArg (fun c => piece c 3 2) h; simpa only [TMsg_p_item] using this
    · have := congrArg (fun c => piece c 5 2) h; simpa only [TMsg_p_bal] using this
    · have := congrArg (fun c => piece c 7 2) h; simpa only [TMsg_p_vote] using this
    · have := congrArg (·[9]?) h; simpa [TMsg_c9, TMsg_size] using this
    · have := congrArg (·[10]?) h; simpa [TMsg_c10, TMsg_size] using this
    · have := congrArg (fun c => piece c 11 14) h; simpa only [TMsg_p_call] using this
  · rintro ⟨h0, h1, h2, h3, h4, h5, h6, h7, h8⟩
    rw [TMsg_cat x, TMsg_cat y, h0, h1, h2, h3, h4, h5, h6, h7, h8]
end
theorem TMsg_und : Tryz.prog.underlying 42 = some (.struct (Tryz.prog.fieldsOf 42)) := by kernel_rfl
theorem TMsg_eq (d : Nat) (x y : Msg) (w : World) : (Op.equalIn (d + 4) 42 (.agg (MV x)) (.agg (MV y))).run Tryz.prog w = .ok (eqA (MV x) (MV y)) w := by
  refine eq_struct (d := d + 3) (L := [(3, 0, x.kind == y.kind), (3, 1, x.frm == y.frm), (3, 2, x.to == y.to), (32, 3, eqA (IV x.item) (IV y.item)), (34, 5, eqA (BV x.bal) (BV y.bal)), (34, 7, eqA (BV x.vote) (BV y.vote)), (3, 9, x.status == y.status), (4, 10, x.same == y.same), (40, 11, eqA (CV x.call) (CV y.call))]) TMsg_und (by kernel_rfl) (by kernel_rfl) ?_ ?_ w
  · simp only [List.forall_mem_cons]
    exact ⟨⟨_, _, part_cell Tryz.underlying3 rfl (by kernel_rfl) (TMsg_c0 x), part_cell Tryz.underlying3 rfl (by kernel_rfl) (TMsg_c0 y), fun w => run_equalIn_int w (d + 2) _ _ _ _ _ Tryz.underlying3⟩, ⟨_, _, part_cell Tryz.underlying3 rfl (by kernel_rfl) (TMsg_c1 x), part_cell Tryz.underlying3 rfl (by kernel_rfl) (TMsg_c1 y), fun w => run_equalIn_int w (d + 2) _ _ _ _ _ Tryz.underlying3⟩, ⟨_, _, part_cell Tryz.underlying3 rfl (by kernel_rfl) (TMsg_c2 x), part_cell Tryz.underlying3 rfl (by kernel_rfl) (TMsg_c2 y), fun w => run_equalIn_int w (d + 2) _ _ _ _ _ Tryz.underlying3⟩, ⟨_, _, fun w => by rw [part_row TItem_und rfl (by kernel_rfl) (n := 2), TMsg_p_item], fun w => by rw [part_row TItem_und rfl (by kernel_rfl) (n := 2), TMsg_p_item], fun w => TItem_eq (d + 1) x.item y.item w⟩, ⟨_, _, fun w => by rw [part_row TBallot_und rfl (by kernel_rfl) (n := 2), TMsg_p_bal], fun w => by rw [part_row TBallot_und rfl (by kernel_rfl) (n := 2), TMsg_p_bal], fun w => TBallot_eq (d + 1) x.bal y.bal w⟩, ⟨_, _, fun w => by rw [part_row TBallot_und rfl (by kernel_rfl) (n := 2), TMsg_p_vote], fun w => by rw [part_row TBallot_und rfl (by kernel_rfl) (n := 2), TMsg_p_vote], fun w => TBallot_eq (d + 1) x.vote y.vote w⟩, ⟨_, _, part_cell Tryz.underlying3 rfl (by kernel_rfl) (TMsg_c9 x), part_cell Tryz.underlying3 rfl (by kernel_rfl) (TMsg_c9 y), fun w => run_equalIn_int w (d + 2) _ _ _ _ _ Tryz.underlying3⟩, ⟨_, _, part_cell Tryz.underlying4 rfl (by kernel_rfl) (TMsg_c10 x), part_cell Tryz.underlying4 rfl (by kernel_rfl) (TMsg_c10 y), fun w => run_equalIn_bool' w (d + 2) _ _ _ Tryz.underlying4⟩, ⟨_, _, fun w => by rw [part_row TCall_und rfl (by kernel_rfl) (n := 14), TMsg_p_call], fun w => by rw [part_row TCall_und rfl (by kernel_rfl) (n := 14), TMsg_p_call], fun w => TCall_eq (d + 0) x.call y.call w⟩, by simp⟩
  · refine eqA_of ?_
    rw [TMsg_ext]
    simp [eqA_iff]
theorem TMsg_eql (x y : Msg) (w : World) : (binOp .eql 42 (.agg (MV x)) (.agg (MV y))).run Tryz.prog w = .ok (.bool (eqA (MV x) (MV y))) w := eql_of (TMsg_eq 9996 x y) w
theorem TMsg_neq (x y : Msg) (w : World) : (binOp .neq 42 (.agg (MV x)) (.agg (MV y))).run Tryz.prog w = .ok (.bool (!eqA (MV x) (MV y))) w := neq_of (TMsg_eq 9996 x y) w
theorem TMsg_ld0 (v : Value) : Instr.loadAt 42 v = loadSem 42 v := rfl
theorem TMsg_st0 (v u : Value) : Instr.storeAt 42 v u = storeSem 42 v u := rfl
theorem TMsg_fd0 (x : Value) (i : Nat) : Instr.field 42 x i = fieldSem 42 x i := rfl
theorem TMsg_bd0 (p : Array (Nat × Value)) : Instr.build 42 p = buildS 42 p := rfl
theorem TMsg_ld (w : World) (v : Value) : (loadSem 42 v).run Tryz.prog w = loadVal Tryz.prog 42 25 w v := load_val TMsg_und rfl (by kernel_rfl) w v
theorem TMsg_st (w : World) (v u : Value) : (storeSem 42 v u).run Tryz.prog w = storeVal Tryz.prog 42 25 w v u := store_val (by kernel_rfl) w v u
theorem TMsg_f_kind (x : Msg) (w : World) : (fieldSem 42 (.agg (MV x)) 0).run Tryz.prog w = .ok (.int .i64 x.kind) w := field_of TMsg_und (by kernel_rfl) (part_cell Tryz.underlying3 rfl (by kernel_rfl) (TMsg_c0 x)) w
theorem TMsg_f_frm (x : Msg) (w : World) : (fieldSem 42 (.agg (MV x)) 1).run Tryz.prog w = .ok (.int .i64 x.frm) w := field_of TMsg_und (by kernel_rfl) (part_cell Tryz.underlying3 rfl (by kernel_rfl) (TMsg_c1 x)) w
theorem TMsg_f_to (x : Msg) (w : World) : (fieldSem 42 (.agg (MV x)) 2).run Tryz.prog w = .ok (.int .i64 x.to) w := field_of TMsg_und (by kernel_rfl) (part_cell Tryz.underlying3 rfl (by kernel_rfl) (TMsg_c2 x)) w
theorem TMsg_f_item (x : Msg) (w : World) : (fieldSem 42 (.agg (MV x)) 3).run Tryz.prog w = .ok (.agg (IV x.item)) w := field_of TMsg_und (by kernel_rfl) (fun w => by rw [part_row TItem_und rfl (by kernel_rfl) (n := 2), TMsg_p_item]) w
theorem TMsg_f_bal (x : Msg) (w : World) : (fieldSem 42 (.agg (MV x)) 4).run Tryz.prog w = .ok (.agg (BV x.bal)) w := field_of TMsg_und (by kernel_rfl) (fun w => by rw [part_row TBallot_und rfl (by kernel_rfl) (n := 2), TMsg_p_bal]) w
theorem TMsg_f_vote (x : Msg) (w : World) : (fieldSem 42 (.agg (MV x)) 5).run Tryz.prog w = .ok (.agg (BV x.vote)) w := field_of TMsg_und (by kernel_rfl) (fun w => by rw [part_row TBallot_und rfl (by kernel_rfl) (n := 2), TMsg_p_vote]) w
theorem TMsg_f_status (x : Msg) (w : World) : (fieldSem 42 (.agg (MV x)) 6).run Tryz.prog w = .ok (.int .i64 x.status) w := field_of TMsg_und (by kernel_rfl) (part_cell Tryz.underlying3 rfl (by kernel_rfl) (TMsg_c9 x)) w
theorem TMsg_f_same (x : Msg) (w : World) : (fieldSem 42 (.agg (MV x)) 7).run Tryz.prog w = .ok (.bool x.same) w := field_of TMsg_und (by kernel_rfl) (part_cell Tryz.underlying4 rfl (by kernel_rfl) (TMsg_c10 x)) w
theorem TMsg_f_call (x : Msg) (w : World) : (fieldSem 42 (.agg (MV x)) 8).run Tryz.prog w = .ok (.agg (CV x.call)) w := field_of TMsg_und (by kernel_rfl) (fun w => by rw [part_row TCall_und rfl (by kernel_rfl) (n := 14), TMsg_p_call]) w
def TMsg_pl : Nat → Option (Nat × Nat) := fun i => (#[(0, 1), (1, 1), (2, 1), (3, 2), (5, 2), (7, 2), (9, 1), (10, 1), (11, 14)] : Array (Nat × Nat))[i]?
theorem TMsg_bd (w : World) (p : Array (Nat × Value)) : (buildS 42 p).run Tryz.prog w = buildOf Tryz.prog 42 TMsg_pl (MV noMsg) p w := build_struct TMsg_und (by kernel_rfl) (fun w => by kernel_rfl) w p
theorem TMsg_fl (X : Array Value) : fillS TMsg_pl X [] = some X := rfl
theorem TMsg_fl_kind (x : Msg) (v : Int) (r : List (Nat × Value)) : fillS TMsg_pl (MV x) ((0, .int .i64 v) :: r) = fillS TMsg_pl (MV { x with kind := v }) r := rfl
theorem TMsg_fl_frm (x : Msg) (v : Int) (r : List (Nat × Value)) : fillS TMsg_pl (MV x) ((1, .int .i64 v) :: r) = fillS TMsg_pl (MV { x with frm := v }) r := rfl
theorem TMsg_fl_to (x : Msg) (v : Int) (r : List (Nat × Value)) : fillS TMsg_pl (MV x) ((2, .int .i64 v) :: r) = fillS TMsg_pl (MV { x with to := v }) r := rfl
theorem TMsg_fl_item (x : Msg) (v : Item) (r : List (Nat × Value)) : fillS TMsg_pl (MV x) ((3, .agg (IV v)) :: r) = fillS TMsg_pl (MV { x with item := v }) r := by
  show Instr.fill _ _ _ = Instr.fill _ _ _
  rw [fill_cons TMsg_pl (MV x) (IV v) 3 3 2 r rfl rfl (by show _ ≤ 25; omega), TMsg_put_item]
theorem TMsg_fl_bal (x : Msg) (v : Ballot) (r : List (Nat × Value)) : fillS TMsg_pl (MV x) ((4, .agg (BV v)) :: r) = fillS TMsg_pl (MV { x with bal := v }) r := by
  show Instr.fill _ _ _ = Instr.fill _ _ _
  rw [fill_cons TMsg_pl (MV x) (BV v) 4 5 2 r rfl rfl (by show _ ≤ 25; omega), TMsg_put_bal]
theorem TMsg_fl_vote (x : Msg) (v : Ballot) (r : List (Nat × Value)) : fillS TMsg_pl (MV x) ((5, .agg (BV v)) :: r) = fillS TMsg_pl (MV { x with vote := v }) r := by
  show Instr.fill _ _ _ = Instr.fill _ _ _
  rw [fill_cons TMsg_pl (MV x) (BV v) 5 7 2 r rfl rfl (by show _ ≤ 25; omega), TMsg_put_vote]
theorem TMsg_fl_status (x : Msg) (v : Int) (r : List (Nat × Value)) : fillS TMsg_pl (MV x) ((6, .int .i64 v) :: r) = fillS TMsg_pl (MV { x with status := v }) r := rfl
theorem TMsg_fl_same (x : Msg) (v : Bool) (r : List (Nat × Value)) : fillS TMsg_pl (MV x) ((7, .bool v) :: r) = fillS TMsg_pl (MV { x with same := v }) r := rfl
theorem TMsg_fl_call (x : Msg) (v : Call) (r : List (Nat × Value)) : fillS TMsg_pl (MV x) ((8, .agg (CV v)) :: r) = fillS TMsg_pl (MV { x with call := v }) r := by
  show Instr.fill _ _ _ = Instr.fill _ _ _
  rw [fill_cons TMsg_pl (MV x) (CV v) 8 11 14 r rfl rfl (by show _ ≤ 25; omega), TMsg_put_call]
end Go.Proofs.YtfgacjglfdehbaaGreatDoor
/- What comes in as Item. Printed by types.py. -/
namespace Go.Proofs.YtfgacjglfdehbaaGreatDoor
open Go.ChangeShapes Go.WideShapes Go.ChangeAt Go.RowKit Go.WideMaps Go.WideElems Go.Joins
open Go.ChangeMaps (open_string)
set_option linter.unusedVariables false
set_option maxRecDepth 20000
structure ItemFits (x : Item) : Prop where
  rep : Fits x.rep
  num : Fits x.num
section
variable {H : Type} {enc : TypeId × Value → H} {w : World} {base : Nat} {sp : Nat → Bool} {held : Bool} {r : Reach} {b0 : Nat} {v : Value} {d : DataW H} {p : List MemPlace}
theorem trod_Item {fuel : Nat} {cs : List Value} {x : DataW H × List MemPlace} (h : DataW.trod enc Tryz.prog w base sp held fuel 32 cs = some x) :
    ∃ X : Item, cs = (IV X).toList ∧ ItemFits X := by
  obtain ⟨xs, n, _, hx, hlen, hxl, hg⟩ := DataW.trod_struct Tryz.underlying32 h
  have hC : Tryz.prog.cellsOf 32 = 2 := by kernel_rfl
  rw [hC] at hlen
  match xs, hxl with
  | [y0, y1], _ =>
    subst hx
    have c0 : Tryz.prog.cellsOf 3 = 1 := by kernel_rfl
    have g0 : DataW.trod enc Tryz.prog w base sp held n 3 ((cs.drop 0).take (Tryz.prog.cellsOf 3)) = some y0 := hg 0 _ rfl
    rw [c0] at g0
    obtain ⟨n0, e0, f0, w0⟩ := DataW.trod_int Tryz.underlying3 g0
    have c1 : Tryz.prog.cellsOf 3 = 1 := by kernel_rfl
    have g1 : DataW.trod enc Tryz.prog w base sp held n 3 ((cs.drop 1).take (Tryz.prog.cellsOf 3)) = some y1 := hg 1 _ rfl
    rw [c1] at g1
    obtain ⟨n1, e1, f1, w1⟩ := DataW.trod_int Tryz.underlying3 g1
    have ee : cs = (cs.drop 0).take 1 ++ ((cs.drop 1).take 1 ++ cs.drop 2) := by
      exact (List.drop_zero (l := cs)).symm.trans ((seg cs 0 1).trans (congrArg (_ ++ ·) (seg cs 1 1)))
    rw [e0, e1, List.drop_eq_nil_of_le (by omega)] at ee
    exact ⟨⟨n0, n1⟩, ee, ⟨fits_of w0, fits_of w1⟩⟩
end
end Go.Proofs.YtfgacjglfdehbaaGreatDoor
/- What comes in as Ballot. Printed by types.py. -/
namespace Go.Proofs.YtfgacjglfdehbaaGreatDoor
open Go.ChangeShapes Go.WideShapes Go.ChangeAt Go.RowKit Go.WideMaps Go.WideElems Go.Joins
open Go.ChangeMaps (open_string)
set_option linter.unusedVariables false
set_option maxRecDepth 20000
structure BallotFits (x : Ballot) : Prop where
  round : Fits x.round
  rep : Fits x.rep
section
variable {H : Type} {enc : TypeId × Value → H} {w : World} {base : Nat} {sp : Nat → Bool} {held : Bool} {r : Reach} {b0 : Nat} {v : Value} {d : DataW H} {p : List MemPlace}
theorem trod_Ballot {fuel : Nat} {cs : List Value} {x : DataW H × List MemPlace} (h : DataW.trod enc Tryz.prog w base sp held fuel 34 cs = some x) :
    ∃ X : Ballot, cs = (BV X).toList ∧ BallotFits X := by
  obtain ⟨xs, n, _, hx, hlen, hxl, hg⟩ := DataW.trod_struct Tryz.underlying34 h
  have hC : Tryz.prog.cellsOf 34 = 2 := by kernel_rfl
  rw [hC] at hlen
  match xs, hxl with
  | [y0, y1], _ =>
    subst hx
    have c0 : Tryz.prog.cellsOf 3 = 1 := by kernel_rfl
    have g0 : DataW.trod enc Tryz.prog w base sp held n 3 ((cs.drop 0).take (Tryz.prog.cellsOf 3)) = some y0 := hg 0 _ rfl
    rw [c0] at g0
    obtain ⟨n0, e0, f0, w0⟩ := DataW.trod_int Tryz.underlying3 g0
    have c1 : Tryz.prog.cellsOf 3 = 1 := by kernel_rfl
    have g1 : DataW.trod enc Tryz.prog w base sp held n 3 ((cs.drop 1).take (Tryz.prog.cellsOf 3)) = some y1 := hg 1 _ rfl
    rw [c1] at g1
    obtain ⟨n1, e1, f1, w1⟩ := DataW.trod_int Tryz.underlying3 g1
    have ee : cs = (cs.drop 0).take 1 ++ ((cs.drop 1).take 1 ++ cs.drop 2) := by
      exact (List.drop_zero (l := cs)).symm.trans ((seg cs 0 1).trans (congrArg (_ ++ ·) (seg cs 1 1)))
    rw [e0, e1, List.drop_eq_nil_of_le (by omega)] at ee
    exact ⟨⟨n0, n1⟩, ee, ⟨fits_of w0, fits_of w1⟩⟩
end
end Go.Proofs.YtfgacjglfdehbaaGreatDoor
/- What comes in as a deed. -/
namespace Go.Proofs.YtfgacjglfdehbaaGreatDoor
open Go.ChangeShapes Go.WideShapes Go.ChangeAt Go.RowKit Go.WideMaps Go.WideElems Go.Joins
open Go.ChangeMaps (open_string)
set_option maxRecDepth 20000
section
variable {H : Type} {enc : TypeId × Value → H} {w : World} {base : Nat} {sp : Nat → Bool} {held : Bool} {r : Reach} {b0 : Nat} {v : Value} {d : DataW H} {p : List MemPlace}
structure DeedFits (d : Deed) : Prop where
  kind : Fits d.kind
  ver : Fits d.ver
  ses : Fits d.ses
  num : Fits d.num
  key : d.key.size ≤ 140737488351232
  val : d.val.size ≤ 140737488351232
theorem trod_deed {fuel : Nat} {cs : List Value} {x : DataW H × List MemPlace} (h : DataW.trod enc Tryz.prog w base sp held fuel 36 cs = some x) (hw : ∀ n ∈ x.1.weights Tryz.prog 36, n ≤ reachBytes) :
    ∃ D : Deed, cs = (EV D).toList ∧ DeedFits D := by
  obtain ⟨xs, n, _, hx, hlen, hxl, hg⟩ := DataW.trod_struct Tryz.underlying36 h
  have hC : Tryz.prog.cellsOf 36 = 6 := by kernel_rfl
  have hC1 : Tryz.prog.cellsOf 3 = 1 := by kernel_rfl
  have hC2 : Tryz.prog.cellsOf 9 = 1 := by kernel_rfl
  rw [hC] at hlen
  match cs, hlen, xs, hxl with
  | [c0, c1, c2, c3, c4, c5], _, [y0, y1, y2, y3, y4, y5], _ =>
    have g0 : DataW.trod enc Tryz.prog w base sp held n 3 (([c0, c1, c2, c3, c4, c5].drop 0).take (Tryz.prog.cellsOf 3)) = some y0 := hg 0 _ rfl
    rw [hC1] at g0
    have g1 : DataW.trod enc Tryz.prog w base sp held n 9 (([c0, c1, c2, c3, c4, c5].drop 1).take (Tryz.prog.cellsOf 9)) = some y1 := hg 1 _ rfl
    rw [hC2] at g1
    have g2 : DataW.trod enc Tryz.prog w base sp held n 9 (([c0, c1, c2, c3, c4, c5].drop 2).take (Tryz.prog.cellsOf 9)) = some y2 := hg 2 _ rfl
    rw [hC2] at g2
    have g3 : DataW.trod enc Tryz.prog w base sp held n 3 (([c0, c1, c2, c3, c4, c5].drop 3).take (Tryz.prog.cellsOf 3)) = some y3 := hg 3 _ rfl
    rw [hC1] at g3
    have g4 : DataW.trod enc Tryz.prog w base sp held n 3 (([c0, c1, c2, c3, c4, c5].drop 4).take (Tryz.prog.cellsOf 3)) = some y4 := hg 4 _ rfl
    rw [hC1] at g4
    have g5 : DataW.trod enc Tryz.prog w base sp held n 3 (([c0, c1, c2, c3, c4, c5].drop 5).take (Tryz.prog.cellsOf 3)) = some y5 := hg 5 _ rfl
    rw [hC1] at g5
    obtain ⟨n0, e0, f0, w0⟩ := DataW.trod_int Tryz.underlying3 g0
    obtain ⟨n1, e1, f1, w1⟩ := DataW.trod_string Tryz.underlying9 g1
    obtain ⟨n2, e2, f2, w2⟩ := DataW.trod_string Tryz.underlying9 g2
    obtain ⟨n3, e3, f3, w3⟩ := DataW.trod_int Tryz.underlying3 g3
    obtain ⟨n4, e4, f4, w4⟩ := DataW.trod_int Tryz.underlying3 g4
    obtain ⟨n5, e5, f5, w5⟩ := DataW.trod_int Tryz.underlying3 g5
    simp at e0 e1 e2 e3 e4 e5
    subst e0 e1 e2 e3 e4 e5 f0 f1 f2 f3 f4 f5
    subst hx
    have hk := hw n1.data.toList.length (by simp [DataW.weights, Tryz.underlying36, DataW.weightsEach])
    have hv := hw n2.data.toList.length (by simp [DataW.weights, Tryz.underlying36, DataW.weightsEach])
    have hr : reachBytes = 140737488351232 := rfl
    rw [hr, Array.length_toList] at hk hv
    exact ⟨⟨n0, n1, n2, n3, n4, n5⟩, rfl, ⟨fits_of w0, fits_of w3, fits_of w4, fits_of w5, hk, hv⟩⟩
end
end Go.Proofs.YtfgacjglfdehbaaGreatDoor
/- What comes in as a row of numbers. -/
namespace Go.Proofs.YtfgacjglfdehbaaGreatDoor
open Go.ChangeShapes Go.WideShapes Go.ChangeAt Go.RowKit Go.WideMaps Go.WideElems Go.Joins
set_option linter.unusedVariables false
set_option maxRecDepth 20000
section
variable {H : Type} {enc : TypeId × Value → H} {w : World} {base : Nat} {sp : Nat → Bool} {held : Bool} {r : Reach} {b0 : Nat} {v : Value} {d : DataW H} {p : List MemPlace}
theorem trod_Deps {fuel : Nat} {cs : List Value} {x : DataW H × List MemPlace} (hf : DataW.trod enc Tryz.prog w base sp held fuel 38 cs = some x) :
    ∃ X : Nat → Int, cs = (DV X).toList ∧ ∀ i, i < 7 → Fits (X i) := by
  have hC : Tryz.prog.cellsOf 38 = 7 := by kernel_rfl
  have hC1 : Tryz.prog.cellsOf 3 = 1 := by kernel_rfl
  obtain ⟨xs, m, _, _, hlen, hxl, hg⟩ := DataW.trod_array Tryz.underlying38 hf
  rw [hC] at hlen
  match cs, hlen with
  | [c0, c1, c2, c3, c4, c5, c6], _ =>
    have key : ∀ i, i < 7 → ∃ n, ([c0, c1, c2, c3, c4, c5, c6].drop i).take 1 = [.int .i64 n] ∧ (Lit.int .i64 n).wf = true := fun i hi => by
      have h1 := hg i hi
      rw [hC1, Nat.mul_one] at h1
      have : ∃ y, xs[i]? = some y := ⟨xs[i]'(by omega), List.getElem?_eq_getElem (by omega)⟩
      obtain ⟨y, hy⟩ := this
      obtain ⟨n, e1, _, e2⟩ := DataW.trod_int Tryz.underlying3 (h1.trans hy)
      exact ⟨n, by simpa using e1, e2⟩
    obtain ⟨n0, e0, w0⟩ := key 0 (by omega)
    obtain ⟨n1, e1, w1⟩ := key 1 (by omega)
    obtain ⟨n2, e2, w2⟩ := key 2 (by omega)
    obtain ⟨n3, e3, w3⟩ := key 3 (by omega)
    obtain ⟨n4, e4, w4⟩ := key 4 (by omega)
    obtain ⟨n5, e5, w5⟩ := key 5 (by omega)
    obtain ⟨n6, e6, w6⟩ := key 6 (by omega)
    simp at e0 e1 e2 e3 e4 e5 e6
    subst e0 e1 e2 e3 e4 e5 e6
    refine ⟨fun i => [n0, n1, n2, n3, n4, n5, n6].getD i 0, rfl, fun i hi => ?_⟩
    match i, hi with
    | 0, _ => exact fits_of w0
    | 1, _ => exact fits_of w1
    | 2, _ => exact fits_of w2
    | 3, _ => exact fits_of w3
    | 4, _ => exact fits_of w4
    | 5, _ => exact fits_of w5
    | 6, _ => exact fits_of w6
end
end Go.Proofs.YtfgacjglfdehbaaGreatDoor
