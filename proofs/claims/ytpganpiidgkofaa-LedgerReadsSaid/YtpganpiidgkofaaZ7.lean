/- Several texts in one. -/
import Derived.Test.YtpganpiidgkofaaZ5
import Derived.Test.YtpganpiidgkofaaZ6
/- Call as a value, as cells: its parts, equality, loads, stores, building. Printed by types.py. -/
namespace Go.Proofs.Ytpganpiidgkofaa
open Go.RowKit
set_option linter.unusedVariables false
structure Call where
  deed : Deed
  deps : (Nat → Int)
  seq : Int
def CV (x : Call) : Array Value := #[.int .i64 x.deed.kind, .string x.deed.key, .string x.deed.val, .int .i64 x.deed.ver, .int .i64 x.deed.ses, .int .i64 x.deed.num, .int .i64 (x.deps 0), .int .i64 (x.deps 1), .int .i64 (x.deps 2), .int .i64 (x.deps 3), .int .i64 (x.deps 4), .int .i64 (x.deps 5), .int .i64 (x.deps 6), .int .i64 x.seq]
def noCall : Call := ⟨noDeed, (fun _ => 0), 0⟩
section
variable (x y : Call)
theorem TCall_size : (CV x).size = 14 := rfl
theorem TCall_one : allOne (CV x) = true := by simp [allOne, CV, Value.oneCell']
theorem TCall_piece : piece (CV x) 0 14 = CV x := piece_all _ _ rfl
theorem TCall_c0 : (CV x)[0]? = some (.int .i64 x.deed.kind) := rfl
theorem TCall_c1 : (CV x)[1]? = some (.string x.deed.key) := rfl
theorem TCall_c2 : (CV x)[2]? = some (.string x.deed.val) := rfl
theorem TCall_c3 : (CV x)[3]? = some (.int .i64 x.deed.ver) := rfl
theorem TCall_c4 : (CV x)[4]? = some (.int .i64 x.deed.ses) := rfl
theorem TCall_c5 : (CV x)[5]? = some (.int .i64 x.deed.num) := rfl
theorem TCall_c6 : (CV x)[6]? = some (.int .i64 (x.deps 0)) := rfl
theorem TCall_c7 : (CV x)[7]? = some (.int .i64 (x.deps 1)) := rfl
theorem TCall_c8 : (CV x)[8]? = some (.int .i64 (x.deps 2)) := rfl
theorem TCall_c9 : (CV x)[9]? = some (.int .i64 (x.deps 3)) := rfl
theorem TCall_c10 : (CV x)[10]? = some (.int .i64 (x.deps 4)) := rfl
theorem TCall_c11 : (CV x)[11]? = some (.int .i64 (x.deps 5)) := rfl
theorem TCall_c12 : (CV x)[12]? = some (.int .i64 (x.deps 6)) := rfl
theorem TCall_c13 : (CV x)[13]? = some (.int .i64 x.seq) := rfl
theorem TCall_p_deed : piece (CV x) 0 6 = EV x.deed := by kernel_rfl
theorem TCall_put_deed (v : Deed) : splice (CV x) 0 (EV v) = CV { x with deed := v } := by kernel_rfl
theorem TCall_p_deps : piece (CV x) 6 7 = DV x.deps := by kernel_rfl
theorem TCall_put_deps (v : (Nat → Int)) : splice (CV x) 6 (DV v) = CV { x with deps := v } := by kernel_rfl
theorem TCall_set_seq (v : Int) : (CV x).setIfInBounds 13 (.int .i64 v) = CV { x with seq := v } := rfl
theorem TCall_deps (i : Nat) (h : i < 7) : (CV x)[6 + i]? = some (.int .i64 (x.deps i)) := by
  match i, h with
  | 0, _ => rfl
  | 1, _ => rfl
  | 2, _ => rfl
  | 3, _ => rfl
  | 4, _ => rfl
  | 5, _ => rfl
  | 6, _ => rfl
theorem TCall_setdeps (i : Nat) (h : i < 7) (v : Int) : (CV x).setIfInBounds (6 + i) (.int .i64 v) = CV { x with deps := upd x.deps i v } := by
  match i, h with
  | 0, _ => rfl
  | 1, _ => rfl
  | 2, _ => rfl
  | 3, _ => rfl
  | 4, _ => rfl
  | 5, _ => rfl
  | 6, _ => rfl
theorem TCall_cat : CV x = EV x.deed ++ DV x.deps ++ #[.int .i64 x.seq] := by kernel_rfl
theorem TCall_ext : CV x = CV y ↔ EV x.deed = EV y.deed ∧ DV x.deps = DV y.deps ∧ x.seq = y.seq := by
  constructor
  · intro h
    refine ⟨?_, ?_, ?_⟩
    · have := congrArg (fun c => piece c 0 6) h; simpa only [TCall_p_deed] using this
    · have := congrArg (fun c => piece c 6 7) h; simpa only [TCall_p_deps] using this
    · have := congrArg (·[13]?) h; simpa [TCall_c13, TCall_size] using this
  · rintro ⟨h0, h1, h2⟩
    rw [TCall_cat x, TCall_cat y, h0, h1, h2]
end
theorem TCall_und : Try.prog.underlying 37 = some (.struct (Try.prog.fieldsOf 37)) := by kernel_rfl
theorem TCall_eq (d : Nat) (x y : Call) (w : World) : (Op.equalIn (d + 3) 37 (.agg (CV x)) (.agg (CV y))).run Try.prog w = .ok (eqA (CV x) (CV y)) w := by
  refine eq_struct (d := d + 2) (L := [(33, 0, eqA (EV x.deed) (EV y.deed)), (35, 6, eqA (DV x.deps) (DV y.deps)), (3, 13, x.seq == y.seq)]) TCall_und (by kernel_rfl) (by kernel_rfl) ?_ ?_ w
  · simp only [List.forall_mem_cons]
    exact ⟨⟨_, _, fun w => by rw [part_row TDeed_und rfl (by kernel_rfl) (n := 6), TCall_p_deed], fun w => by rw [part_row TDeed_und rfl (by kernel_rfl) (n := 6), TCall_p_deed], fun w => TDeed_eq (d + 0) x.deed y.deed w⟩, ⟨_, _, fun w => by rw [part_row Try.underlying35 rfl (by kernel_rfl) (n := 7), TCall_p_deps], fun w => by rw [part_row Try.underlying35 rfl (by kernel_rfl) (n := 7), TCall_p_deps], fun w => TDeps_eq (d + 0) x.deps y.deps w⟩, ⟨_, _, part_cell Try.underlying3 rfl (by kernel_rfl) (TCall_c13 x), part_cell Try.underlying3 rfl (by kernel_rfl) (TCall_c13 y), fun w => run_equalIn_int w (d + 1) _ _ _ _ _ Try.underlying3⟩, by simp⟩
  · refine eqA_of ?_
    rw [TCall_ext]
    simp [eqA_iff]
theorem TCall_eql (x y : Call) (w : World) : (binOp .eql 37 (.agg (CV x)) (.agg (CV y))).run Try.prog w = .ok (.bool (eqA (CV x) (CV y))) w := eql_of (TCall_eq 9997 x y) w
theorem TCall_neq (x y : Call) (w : World) : (binOp .neq 37 (.agg (CV x)) (.agg (CV y))).run Try.prog w = .ok (.bool (!eqA (CV x) (CV y))) w := neq_of (TCall_eq 9997 x y) w
theorem TCall_ld0 (v : Value) : Instr.loadAt 37 v = loadSem 37 v := rfl
theorem TCall_st0 (v u : Value) : Instr.storeAt 37 v u = storeSem 37 v u := rfl
theorem TCall_fd0 (x : Value) (i : Nat) : Instr.field 37 x i = fieldSem 37 x i := rfl
theorem TCall_bd0 (p : Array (Nat × Value)) : Instr.build 37 p = buildS 37 p := rfl
theorem TCall_ld (w : World) (v : Value) : (loadSem 37 v).run Try.prog w = loadVal Try.prog 37 14 w v := load_val TCall_und rfl (by kernel_rfl) w v
theorem TCall_st (w : World) (v u : Value) : (storeSem 37 v u).run Try.prog w = storeVal Try.prog 37 14 w v u := store_val (by kernel_rfl) w v u
theorem TCall_f_deed (x : Call) (w : World) : (fieldSem 37 (.agg (CV x)) 0).run Try.prog w = .ok (.agg (EV x.deed)) w := field_of TCall_und (by kernel_rfl) (fun w => by rw [part_row TDeed_und rfl (by kernel_rfl) (n := 6), TCall_p_deed]) w
theorem TCall_f_deps (x : Call) (w : World) : (fieldSem 37 (.agg (CV x)) 1).run Try.prog w = .ok (.agg (DV x.deps)) w := field_of TCall_und (by kernel_rfl) (fun w => by rw [part_row Try.underlying35 rfl (by kernel_rfl) (n := 7), TCall_p_deps]) w
theorem TCall_f_seq (x : Call) (w : World) : (fieldSem 37 (.agg (CV x)) 2).run Try.prog w = .ok (.int .i64 x.seq) w := field_of TCall_und (by kernel_rfl) (part_cell Try.underlying3 rfl (by kernel_rfl) (TCall_c13 x)) w
def TCall_pl : Nat → Option (Nat × Nat) := fun i => (#[(0, 6), (6, 7), (13, 1)] : Array (Nat × Nat))[i]?
theorem TCall_bd (w : World) (p : Array (Nat × Value)) : (buildS 37 p).run Try.prog w = buildOf Try.prog 37 TCall_pl (CV noCall) p w := build_struct TCall_und (by kernel_rfl) (fun w => by kernel_rfl) w p
theorem TCall_fl (X : Array Value) : fillS TCall_pl X [] = some X := rfl
theorem TCall_fl_deed (x : Call) (v : Deed) (r : List (Nat × Value)) : fillS TCall_pl (CV x) ((0, .agg (EV v)) :: r) = fillS TCall_pl (CV { x with deed := v }) r := by
  show Instr.fill _ _ _ = Instr.fill _ _ _
  rw [fill_cons TCall_pl (CV x) (EV v) 0 0 6 r rfl rfl (by show _ ≤ 14; omega), TCall_put_deed]
theorem TCall_fl_deps (x : Call) (v : (Nat → Int)) (r : List (Nat × Value)) : fillS TCall_pl (CV x) ((1, .agg (DV v)) :: r) = fillS TCall_pl (CV { x with deps := v }) r := by
  show Instr.fill _ _ _ = Instr.fill _ _ _
  rw [fill_cons TCall_pl (CV x) (DV v) 1 6 7 r rfl rfl (by show _ ≤ 14; omega), TCall_put_deps]
theorem TCall_fl_seq (x : Call) (v : Int) (r : List (Nat × Value)) : fillS TCall_pl (CV x) ((2, .int .i64 v) :: r) = fillS TCall_pl (CV { x with seq := v }) r := rfl
theorem TCall_ret {fn : Func} {R : Ending → World → Prop} {a : Act} {w : World} {p : Tmp} (x : Call) {g : Nat} (hr : fn.results = #[.cell p 37]) (hp : a.tmps.getD p undef = .pointer (some ⟨g, 0, none⟩)) (hdf : a.defers = []) (hrow : row? w g = some (CV x)) (hR : R (.returned (.agg (CV x))) w) : bodyPost Try.prog fn R .ret a w :=
  ret_row (CV x) TCall_und rfl (by kernel_rfl) hr hp hdf (TCall_size x) hrow hR
end Go.Proofs.Ytpganpiidgkofaa
/- Inst as a value, as cells: its parts, equality, loads, stores, building. Printed by types.py. -/
namespace Go.Proofs.Ytpganpiidgkofaa
open Go.RowKit
set_option linter.unusedVariables false
structure Inst where
  prom : Ballot
  vote : Ballot
  status : Int
  call : Call
  same : Bool
def NV (x : Inst) : Array Value := #[.int .i64 x.prom.round, .int .i64 x.prom.rep, .int .i64 x.vote.round, .int .i64 x.vote.rep, .int .i64 x.status, .int .i64 x.call.deed.kind, .string x.call.deed.key, .string x.call.deed.val, .int .i64 x.call.deed.ver, .int .i64 x.call.deed.ses, .int .i64 x.call.deed.num, .int .i64 (x.call.deps 0), .int .i64 (x.call.deps 1), .int .i64 (x.call.deps 2), .int .i64 (x.call.deps 3), .int .i64 (x.call.deps 4), .int .i64 (x.call.deps 5), .int .i64 (x.call.deps 6), .int .i64 x.call.seq, .bool x.same]
def noInst : Inst := ⟨noBallot, noBallot, 0, noCall, false⟩
section
variable (x y : Inst)
theorem TInst_size : (NV x).size = 20 := rfl
theorem TInst_one : allOne (NV x) = true := by simp [allOne, NV, Value.oneCell']
theorem TInst_piece : piece (NV x) 0 20 = NV x := piece_all _ _ rfl
theorem TInst_c0 : (NV x)[0]? = some (.int .i64 x.prom.round) := rfl
theorem TInst_c1 : (NV x)[1]? = some (.int .i64 x.prom.rep) := rfl
theorem TInst_c2 : (NV x)[2]? = some (.int .i64 x.vote.round) := rfl
theorem TInst_c3 : (NV x)[3]? = some (.int .i64 x.vote.rep) := rfl
theorem TInst_c4 : (NV x)[4]? = some (.int .i64 x.status) := rfl
theorem TInst_c5 : (NV x)[5]? = some (.int .i64 x.call.deed.kind) := rfl
theorem TInst_c6 : (NV x)[6]? = some (.string x.call.deed.key) := rfl
theorem TInst_c7 : (NV x)[7]? = some (.string x.call.deed.val) := rfl
theorem TInst_c8 : (NV x)[8]? = some (.int .i64 x.call.deed.ver) := rfl
theorem TInst_c9 : (NV x)[9]? = some (.int .i64 x.call.deed.ses) := rfl
theorem TInst_c10 : (NV x)[10]? = some (.int .i64 x.call.deed.num) := rfl
theorem TInst_c11 : (NV x)[11]? = some (.int .i64 (x.call.deps 0)) := rfl
theorem TInst_c12 : (NV x)[12]? = some (.int .i64 (x.call.deps 1)) := rfl
theorem TInst_c13 : (NV x)[13]? = some (.int .i64 (x.call.deps 2)) := rfl
theorem TInst_c14 : (NV x)[14]? = some (.int .i64 (x.call.deps 3)) := rfl
theorem TInst_c15 : (NV x)[15]? = some (.int .i64 (x.call.deps 4)) := rfl
theorem TInst_c16 : (NV x)[16]? = some (.int .i64 (x.call.deps 5)) := rfl
theorem TInst_c17 : (NV x)[17]? = some (.int .i64 (x.call.deps 6)) := rfl
theorem TInst_c18 : (NV x)[18]? = some (.int .i64 x.call.seq) := rfl
theorem TInst_c19 : (NV x)[19]? = some (.bool x.same) := rfl
theorem TInst_p_prom : piece (NV x) 0 2 = BV x.prom := by kernel_rfl
theorem TInst_put_prom (v : Ballot) : splice (NV x) 0 (BV v) = NV { x with prom := v } := by kernel_rfl
theorem TInst_p_vote : piece (NV x) 2 2 = BV x.vote := by kernel_rfl
theorem TInst_put_vote (v : Ballot) : splice (NV x) 2 (BV v) = NV { x with vote := v } := by kernel_rfl
theorem TInst_set_status (v : Int) : (NV x).setIfInBounds 4 (.int .i64 v) = NV { x with status := v } := rfl
theorem TInst_p_call : piece (NV x) 5 14 = CV x.call := by kernel_rfl
theorem TInst_put_call (v : Call) : splice (NV x) 5 (CV v) = NV { x with call := v } := by kernel_rfl
theorem TInst_set_same (v : Bool) : (NV x).setIfInBounds 19 (.bool v) = NV { x with same := v } := rfl
theorem TInst_deps (i : Nat) (h : i < 7) : (NV x)[11 + i]? = some (.int .i64 (x.call.deps i)) := by
  match i, h with
  | 0, _ => rfl
  | 1, _ => rfl
  | 2, _ => rfl
  | 3, _ => rfl
  | 4, _ => rfl
  | 5, _ => rfl
  | 6, _ => rfl
theorem TInst_cat : NV x = BV x.prom ++ BV x.vote ++ #[.int .i64 x.status] ++ CV x.call ++ #[.bool x.same] := by kernel_rfl
theorem TInst_ext : NV x = NV y ↔ BV x.prom = BV y.prom ∧ BV x.vote = BV y.vote ∧ x.status = y.status ∧ CV x.call = CV y.call ∧ x.same = y.same := by
  constructor
  · intro h
    refine ⟨?_, ?_, ?_, ?_, ?_⟩
    · have := congrArg (fun c => piece c 0 2) h; simpa only [TInst_p_prom] using this
    · have := congrArg (fun c => piece c 2 2) h; simpa only [TInst_p_vote] using this
    · have := congrArg (·[4]?) h; simpa [TInst_c4, TInst_size] using this
    · have := congrArg (fun c => piece c 5 14) h; simpa only [TInst_p_call] using this
    · have := congrArg (·[19]?) h; simpa [TInst_c19, TInst_size] using this
  · rintro ⟨h0, h1, h2, h3, h4⟩
    rw [TInst_cat x, TInst_cat y, h0, h1, h2, h3, h4]
end
theorem TInst_und : Try.prog.underlying 39 = some (.struct (Try.prog.fieldsOf 39)) := by kernel_rfl
theorem TInst_eq (d : Nat) (x y : Inst) (w : World) : (Op.equalIn (d + 4) 39 (.agg (NV x)) (.agg (NV y))).run Try.prog w = .ok (eqA (NV x) (NV y)) w := by
  refine eq_struct (d := d + 3) (L := [(31, 0, eqA (BV x.prom) (BV y.prom)), (31, 2, eqA (BV x.vote) (BV y.vote)), (3, 4, x.status == y.status), (37, 5, eqA (CV x.call) (CV y.call)), (4, 19, x.same == y.same)]) TInst_und (by kernel_rfl) (by kernel_rfl) ?_ ?_ w
  · simp only [List.forall_mem_cons]
    exact ⟨⟨_, _, fun w => by rw [part_row TBallot_und rfl (by kernel_rfl) (n := 2), TInst_p_prom], fun w => by rw [part_row TBallot_und rfl (by kernel_rfl) (n := 2), TInst_p_prom], fun w => TBallot_eq (d + 1) x.prom y.prom w⟩, ⟨_, _, fun w => by rw [part_row TBallot_und rfl (by kernel_rfl) (n := 2), TInst_p_vote], fun w => by rw [part_row TBallot_und rfl (by kernel_rfl) (n := 2), TInst_p_vote], fun w => TBallot_eq (d + 1) x.vote y.vote w⟩, ⟨_, _, part_cell Try.underlying3 rfl (by kernel_rfl) (TInst_c4 x), part_cell Try.underlying3 rfl (by kernel_rfl) (TInst_c4 y), fun w => run_equalIn_int w (d + 2) _ _ _ _ _ Try.underlying3⟩, ⟨_, _, fun w => by rw [part_row TCall_und rfl (by kernel_rfl) (n := 14), TInst_p_call], fun w => by rw [part_row TCall_und rfl (by kernel_rfl) (n := 14), TInst_p_call], fun w => TCall_eq (d + 0) x.call y.call w⟩, ⟨_, _, part_cell Try.underlying4 rfl (by kernel_rfl) (TInst_c19 x), part_cell Try.underlying4 rfl (by kernel_rfl) (TInst_c19 y), fun w => run_equalIn_bool' w (d + 2) _ _ _ Try.underlying4⟩, by simp⟩
  · refine eqA_of ?_
    rw [TInst_ext]
    simp [eqA_iff]
theorem TInst_eql (x y : Inst) (w : World) : (binOp .eql 39 (.agg (NV x)) (.agg (NV y))).run Try.prog w = .ok (.bool (eqA (NV x) (NV y))) w := eql_of (TInst_eq 9996 x y) w
theorem TInst_neq (x y : Inst) (w : World) : (binOp .neq 39 (.agg (NV x)) (.agg (NV y))).run Try.prog w = .ok (.bool (!eqA (NV x) (NV y))) w := neq_of (TInst_eq 9996 x y) w
theorem TInst_ld0 (v : Value) : Instr.loadAt 39 v = loadSem 39 v := rfl
theorem TInst_st0 (v u : Value) : Instr.storeAt 39 v u = storeSem 39 v u := rfl
theorem TInst_fd0 (x : Value) (i : Nat) : Instr.field 39 x i = fieldSem 39 x i := rfl
theorem TInst_bd0 (p : Array (Nat × Value)) : Instr.build 39 p = buildS 39 p := rfl
theorem TInst_ld (w : World) (v : Value) : (loadSem 39 v).run Try.prog w = loadVal Try.prog 39 20 w v := load_val TInst_und rfl (by kernel_rfl) w v
theorem TInst_st (w : World) (v u : Value) : (storeSem 39 v u).run Try.prog w = storeVal Try.prog 39 20 w v u := store_val (by kernel_rfl) w v u
theorem TInst_f_prom (x : Inst) (w : World) : (fieldSem 39 (.agg (NV x)) 0).run Try.prog w = .ok (.agg (BV x.prom)) w := field_of TInst_und (by kernel_rfl) (fun w => by rw [part_row TBallot_und rfl (by kernel_rfl) (n := 2), TInst_p_prom]) w
theorem TInst_f_vote (x : Inst) (w : World) : (fieldSem 39 (.agg (NV x)) 1).run Try.prog w = .ok (.agg (BV x.vote)) w := field_of TInst_und (by kernel_rfl) (fun w => by rw [part_row TBallot_und rfl (by kernel_rfl) (n := 2), TInst_p_vote]) w
theorem TInst_f_status (x : Inst) (w : World) : (fieldSem 39 (.agg (NV x)) 2).run Try.prog w = .ok (.int .i64 x.status) w := field_of TInst_und (by kernel_rfl) (part_cell Try.underlying3 rfl (by kernel_rfl) (TInst_c4 x)) w
theorem TInst_f_call (x : Inst) (w : World) : (fieldSem 39 (.agg (NV x)) 3).run Try.prog w = .ok (.agg (CV x.call)) w := field_of TInst_und (by kernel_rfl) (fun w => by rw [part_row TCall_und rfl (by kernel_rfl) (n := 14), TInst_p_call]) w
theorem TInst_f_same (x : Inst) (w : World) : (fieldSem 39 (.agg (NV x)) 4).run Try.prog w = .ok (.bool x.same) w := field_of TInst_und (by kernel_rfl) (part_cell Try.underlying4 rfl (by kernel_rfl) (TInst_c19 x)) w
def TInst_pl : Nat → Option (Nat × Nat) := fun i => (#[(0, 2), (2, 2), (4, 1), (5, 14), (19, 1)] : Array (Nat × Nat))[i]?
theorem TInst_bd (w : World) (p : Array (Nat × Value)) : (buildS 39 p).run Try.prog w = buildOf Try.prog 39 TInst_pl (NV noInst) p w := build_struct TInst_und (by kernel_rfl) (fun w => by kernel_rfl) w p
theorem TInst_fl (X : Array Value) : fillS TInst_pl X [] = some X := rfl
theorem TInst_fl_prom (x : Inst) (v : Ballot) (r : List (Nat × Value)) : fillS TInst_pl (NV x) ((0, .agg (BV v)) :: r) = fillS TInst_pl (NV { x with prom := v }) r := by
  show Instr.fill _ _ _ = Instr.fill _ _ _
  rw [fill_cons TInst_pl (NV x) (BV v) 0 0 2 r rfl rfl (by show _ ≤ 20; omega), TInst_put_prom]
theorem TInst_fl_vote (x : Inst) (v : Ballot) (r : List (Nat × Value)) : fillS TInst_pl (NV x) ((1, .agg (BV v)) :: r) = fillS TInst_pl (NV { x with vote := v }) r := by
  show Instr.fill _ _ _ = Instr.fill _ _ _
  rw [fill_cons TInst_pl (NV x) (BV v) 1 2 2 r rfl rfl (by show _ ≤ 20; omega), TInst_put_vote]
theorem TInst_fl_status (x : Inst) (v : Int) (r : List (Nat × Value)) : fillS TInst_pl (NV x) ((2, .int .i64 v) :: r) = fillS TInst_pl (NV { x with status := v }) r := rfl
theorem TInst_fl_call (x : Inst) (v : Call) (r : List (Nat × Value)) : fillS TInst_pl (NV x) ((3, .agg (CV v)) :: r) = fillS TInst_pl (NV { x with call := v }) r := by
  show Instr.fill _ _ _ = Instr.fill _ _ _
  rw [fill_cons TInst_pl (NV x) (CV v) 3 5 14 r rfl rfl (by show _ ≤ 20; omega), TInst_put_call]
theorem TInst_fl_same (x : Inst) (v : Bool) (r : List (Nat × Value)) : fillS TInst_pl (NV x) ((4, .bool v) :: r) = fillS TInst_pl (NV { x with same := v }) r := rfl
theorem TInst_ret {fn : Func} {R : Ending → World → Prop} {a : Act} {w : World} {p : Tmp} (x : Inst) {g : Nat} (hr : fn.results = #[.cell p 39]) (hp : a.tmps.getD p undef = .pointer (some ⟨g, 0, none⟩)) (hdf : a.defers = []) (hrow : row? w g = some (NV x)) (hR : R (.returned (.agg (NV x))) w) : bodyPost Try.prog fn R .ret a w :=
  ret_row (NV x) TInst_und rfl (by kernel_rfl) hr hp hdf (TInst_size x) hrow hR
end Go.Proofs.Ytpganpiidgkofaa
