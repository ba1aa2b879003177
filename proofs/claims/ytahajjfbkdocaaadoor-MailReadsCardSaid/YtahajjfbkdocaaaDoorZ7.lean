/- Several texts in one. -/
import Derived.Test.YtahajjfbkdocaaaDoorZ5
import Derived.Test.YtahajjfbkdocaaaDoorZ6
/- Call as a value, as cells: its parts, equality, loads, stores, building. Printed by types.py. -/
namespace Go.Proofs.YtahajjfbkdocaaaDoor
open Go.RowKit
set_option linter.unusedVariables false
structure Call where
  deed : Deed
  deps : (Nat → Int)
  seq : Int
def CV (x : Call) : Array Value := #[.int .i64 x.deed.kind, .string x.deed.key, .string x.deed.val, .int .i64 x.deed.ver, .int .i64 x.deed.ses, .int .i64 x.deed.num, .int .i64 (x.deps 0), .int .i64 (x.deps 1), .int .i64 (x.deps 2), .int .i64 (x.deps 3), .int .i64 (x.deps 4), .int .i64 (x.deps 5), .int .i64 (x.deps 6), .int .i64 x.seq]
def noCall : Call := ⟨noDeed, (fun _ => 0), 0⟩
section
variable (x y : Call)
theorem TCall_size : (CV x).size = 14 := rfl
theorem TCall_one : allOne (CV x) = true := by simp [allOne, CV, Value.oneCell']
theorem TCall_piece : piece (CV x) 0 14 = CV x := piece_all _ _ rfl
theorem TCall_c0 : (CV x)[0]? = some (.int .i64 x.deed.kind) := rfl
theorem TCall_c1 : (CV x)[1]? = some (.string x.deed.key) := rfl
theorem TCall_c2 : (CV x)[2]? = some (.string x.deed.val) := rfl
theorem TCall_c3 : (CV x)[3]? = some (.int .i64 x.deed.ver) := rfl
theorem TCall_c4 : (CV x)[4]? = some (.int .i64 x.deed.ses) := rfl
theorem TCall_c5 : (CV x)[5]? = some (.int .i64 x.deed.num) := rfl
theorem TCall_c6 : (CV x)[6]? = some (.int .i64 (x.deps 0)) := rfl
theorem TCall_c7 : (CV x)[7]? = some (.int .i64 (x.deps 1)) := rfl
theorem TCall_c8 : (CV x)[8]? = some (.int .i64 (x.deps 2)) := rfl
theorem TCall_c9 : (CV x)[9]? = some (.int .i64 (x.deps 3)) := rfl
theorem TCall_c10 : (CV x)[10]? = some (.int .i64 (x.deps 4)) := rfl
theorem TCall_c11 : (CV x)[11]? = some (.int .i64 (x.deps 5)) := rfl
theorem TCall_c12 : (CV x)[12]? = some (.int .i64 (x.deps 6)) := rfl
theorem TCall_c13 : (CV x)[13]? = some (.int .i64 x.seq) := rfl
theorem TCall_p_deed : piece (CV x) 0 6 = EV x.deed := by kernel_rfl
theorem TCall_put_deed (v : Deed) : splice (CV x) 0 (EV v) = CV { x with deed := v } := by kernel_rfl
theorem TCall_p_deps : piece (CV x) 6 7 = DV x.deps := by kernel_rfl
theorem TCall_put_deps (v : (Nat → Int)) : splice (CV x) 6 (DV v) = CV { x with deps := v } := by kernel_rfl
theorem TCall_set_seq (v : Int) : (CV x).setIfInBounds 13 (.int .i64 v) = CV { x with seq := v } := rfl
theorem TCall_deps (i : Nat) (h : i < 7) : (CV x)[6 + i]? = some (.int .i64 (x.deps i)) := by
  match i, h with
  | 0, _ => rfl
  | 1, _ => rfl
  | 2, _ => rfl
  | 3, _ => rfl
  | 4, _ => rfl
  | 5, _ => rfl
  | 6, _ => rfl
theorem TCall_setdeps (i : Nat) (h : i < 7) (v : Int) : (CV x).setIfInBounds (6 + i) (.int .i64 v) = CV { x with deps := upd x.deps i v } := by
  match i, h with
  | 0, _ => rfl
  | 1, _ => rfl
  | 2, _ => rfl
  | 3, _ => rfl
  | 4, _ => rfl
  | 5, _ => rfl
  | 6, _ => rfl
theorem TCall_cat : CV x = EV x.deed ++ DV x.deps ++ #[.int .i64 x.seq] := by kernel_rfl
theorem TCall_ext : CV x = CV y ↔ EV x.deed = EV y.deed ∧ DV x.deps = DV y.deps ∧ x.seq = y.seq := by
  constructor
  · intro h
    refine ⟨?_, ?_, ?_⟩
    · have := congrArg (fun c => piece c 0 6) h; simpa only [TCall_p_deed] using this
    · have := congrArg (fun c => piece c 6 7) h; simpa only [TCall_p_deps] using this
    · have := congrArg (·[13]?) h; simpa [TCall_c13, TCall_size] using this
  · rintro ⟨h0, h1, h2⟩
    rw [TCall_cat x, TCall_cat y, h0, h1, h2]
end
theorem TCall_und : Tryd.prog.underlying 31 = some (.struct (Tryd.prog.fieldsOf 31)) := by kernel_rfl
theorem TCall_eq (d : Nat) (x y : Call) (w : World) : (Op.equalIn (d + 3) 31 (.agg (CV x)) (.agg (CV y))).run Tryd.prog w = .ok (eqA (CV x) (CV y)) w := by
  refine eq_struct (d := d + 2) (L := [(27, 0, eqA (EV x.deed) (EV y.deed)), (29, 6, eqA (DV x.deps) (DV y.deps)), (3, 13, x.seq == y.seq)]) TCall_und (by kernel_rfl) (by kernel_rfl) ?_ ?_ w
  · simp only [List.forall_mem_cons]
    exact ⟨⟨_, _, fun w => by rw [part_row TDeed_und rfl (by kernel_rfl) (n := 6), TCall_p_deed], fun w => by rw [part_row TDeed_und rfl (by kernel_rfl) (n := 6), TCall_p_deed], fun w => TDeed_eq (d + 0) x.deed y.deed w⟩, ⟨_, _, fun w => by rw [part_row Tryd.underlying29 rfl (by kernel_rfl) (n := 7), TCall_p_deps], fun w => by rw [part_row Tryd.underlying29 rfl (by kernel_rfl) (n := 7), TCall_p_deps], fun w => TDeps_eq (d + 0) x.deps y.deps w⟩, ⟨_, _, part_cell Tryd.underlying3 rfl (by kernel_rfl) (TCall_c13 x), part_cell Tryd.underlying3 rfl (by kernel_rfl) (TCall_c13 y), fun w => run_equalIn_int w (d + 1) _ _ _ _ _ Tryd.underlying3⟩, by simp⟩
  · refine eqA_of ?_
    rw [TCall_ext]
    simp [eqA_iff]
theorem TCall_eql (x y : Call) (w : World) : (binOp .eql 31 (.agg (CV x)) (.agg (CV y))).run Tryd.prog w = .ok (.bool (eqA (CV x) (CV y))) w := eql_of (TCall_eq 9997 x y) w
theorem TCall_neq (x y : Call) (w : World) : (binOp .neq 31 (.agg (CV x)) (.agg (CV y))).run Tryd.prog w = .ok (.bool (!eqA (CV x) (CV y))) w := neq_of (TCall_eq 9997 x y) w
theorem TCall_ld0 (v : Value) : Instr.loadAt 31 v = loadSem 31 v := rfl
theorem TCall_st0 (v u : Value) : Instr.storeAt 31 v u = storeSem 31 v u := rfl
theorem TCall_fd0 (x : Value) (i : Nat) : Instr.field 31 x i = fieldSem 31 x i := rfl
theorem TCall_bd0 (p : Array (Nat × Value)) : Instr.build 31 p = buildS 31 p := rfl
theorem TCall_ld (w : World) (v : Value) : (loadSem 31 v).run Tryd.prog w = loadVal Tryd.prog 31 14 w v := load_val TCall_und rfl (by kernel_rfl) w v
theorem TCall_st (w : World) (v u : Value) : (storeSem 31 v u).run Tryd.prog w = storeVal Tryd.prog 31 14 w v u := store_val (by kernel_rfl) w v u
theorem TCall_f_deed (x : Call) (w : World) : (fieldSem 31 (.agg (CV x)) 0).run Tryd.prog w = .ok (.agg (EV x.deed)) w := field_of TCall_und (by kernel_rfl) (fun w => by rw [part_row TDeed_und rfl (by kernel_rfl) (n := 6), TCall_p_deed]) w
theorem TCall_f_deps (x : Call) (w : World) : (fieldSem 31 (.agg (CV x)) 1).run Tryd.prog w = .ok (.agg (DV x.deps)) w := field_of TCall_und (by kernel_rfl) (fun w => by rw [part_row Tryd.underlying29 rfl (by kernel_rfl) (n := 7), TCall_p_deps]) w
theorem TCall_f_seq (x : Call) (w : World) : (fieldSem 31 (.agg (CV x)) 2).run Tryd.prog w = .ok (.int .i64 x.seq) w := field_of TCall_und (by kernel_rfl) (part_cell Tryd.underlying3 rfl (by kernel_rfl) (TCall_c13 x)) w
def TCall_pl : Nat → Option (Nat × Nat) := fun i => (#[(0, 6), (6, 7), (13, 1)] : Array (Nat × Nat))[i]?
theorem TCall_bd (w : World) (p : Array (Nat × Value)) : (buildS 31 p).run Tryd.prog w = buildOf Tryd.prog 31 TCall_pl (CV noCall) p w := build_struct TCall_und (by kernel_rfl) (fun w => by kernel_rfl) w p
theorem TCall_fl (X : Array Value) : fillS TCall_pl X [] = some X := rfl
theorem TCall_fl_deed (x : Call) (v : Deed) (r : List (Nat × Value)) : fillS TCall_pl (CV x) ((0, .agg (EV v)) :: r) = fillS TCall_pl (CV { x with deed := v }) r := by
  show Instr.fill _ _ _ = Instr.fill _ _ _
  rw [fill_cons TCall_pl (CV x) (EV v) 0 0 6 r rfl rfl (by show _ ≤ 14; omega), TCall_put_deed]
theorem TCall_fl_deps (x : Call) (v : (Nat → Int)) (r : List (Nat × Value)) : fillS TCall_pl (CV x) ((1, .agg (DV v)) :: r) = fillS TCall_pl (CV { x with deps := v }) r := by
  show Instr.fill _ _ _ = Instr.fill _ _ _
  rw [fill_cons TCall_pl (CV x) (DV v) 1 6 7 r rfl rfl (by show _ ≤ 14; omega), TCall_put_deps]
theorem TCall_fl_seq (x : Call) (v : Int) (r : List (Nat × Value)) : fillS TCall_pl (CV x) ((2, .int .i64 v) :: r) = fillS TCall_pl (CV { x with seq := v }) r := rfl
theorem TCall_ret {fn : Func} {R : Ending → World → Prop} {a : Act} {w : World} {p : Tmp} (x : Call) {g : Nat} (hr : fn.results = #[.cell p 31]) (hp : a.tmps.getD p undef = .pointer (some ⟨g, 0, none⟩)) (hdf : a.defers = []) (hrow : row? w g = some (CV x)) (hR : R (.returned (.agg (CV x))) w) : bodyPost Tryd.prog fn R .ret a w :=
  ret_row (CV x) TCall_und rfl (by kernel_rfl) hr hp hdf (TCall_size x) hrow hR
end Go.Proofs.YtahajjfbkdocaaaDoor
/- Msg as a value, as cells: its parts, equality, loads, stores, building. Printed by types.py. -/
namespace Go.Proofs.YtahajjfbkdocaaaDoor
open Go.RowKit
set_option linter.unusedVariables false
structure Msg where
  kind : Int
  frm : Int
  to : Int
  item : Item
  bal : Ballot
  vote : Ballot
  status : Int
  same : Bool
  call : Call
def MV (x : Msg) : Array Value := #[.int .i64 x.kind, .int .i64 x.frm, .int .i64 x.to, .int .i64 x.item.rep, .int .i64 x.item.num, .int .i64 x.bal.round, .int .i64 x.bal.rep, .int .i64 x.vote.round, .int .i64 x.vote.rep, .int .i64 x.status, .bool x.same, .int .i64 x.call.deed.kind, .string x.call.deed.key, .string x.call.deed.val, .int .i64 x.call.deed.ver, .int .i64 x.call.deed.ses, .int .i64 x.call.deed.num, .int .i64 (x.call.deps 0), .int .i64 (x.call.deps 1), .int .i64 (x.call.deps 2), .int .i64 (x.call.deps 3), .int .i64 (x.call.deps 4), .int .i64 (x.call.deps 5), .int .i64 (x.call.deps 6), .int .i64 x.call.seq]
def noMsg : Msg := ⟨0, 0, 0, noItem, noBallot, noBallot, 0, false, noCall⟩
section
variable (x y : Msg)
theorem TMsg_size : (MV x).size = 25 := rfl
theorem TMsg_one : allOne (MV x) = true := by simp [allOne, MV, Value.oneCell']
theorem TMsg_piece : piece (MV x) 0 25 = MV x := piece_all _ _ rfl
theorem TMsg_c0 : (MV x)[0]? = some (.int .i64 x.kind) := rfl
theorem TMsg_c1 : (MV x)[1]? = some (.int .i64 x.frm) := rfl
theorem TMsg_c2 : (MV x)[2]? = some (.int .i64 x.to) := rfl
theorem TMsg_c3 : (MV x)[3]? = some (.int .i64 x.item.rep) := rfl
theorem TMsg_c4 : (MV x)[4]? = some (.int .i64 x.item.num) := rfl
theorem TMsg_c5 : (MV x)[5]? = some (.int .i64 x.bal.round) := rfl
theorem TMsg_c6 : (MV x)[6]? = some (.int .i64 x.bal.rep) := rfl
theorem TMsg_c7 : (MV x)[7]? = some (.int .i64 x.vote.round) := rfl
theorem TMsg_c8 : (MV x)[8]? = some (.int .i64 x.vote.rep) := rfl
theorem TMsg_c9 : (MV x)[9]? = some (.int .i64 x.status) := rfl
theorem TMsg_c10 : (MV x)[10]? = some (.bool x.same) := rfl
theorem TMsg_c11 : (MV x)[11]? = some (.int .i64 x.call.deed.kind) := rfl
theorem TMsg_c12 : (MV x)[12]? = some (.string x.call.deed.key) := rfl
theorem TMsg_c13 : (MV x)[13]? = some (.string x.call.deed.val) := rfl
theorem TMsg_c14 : (MV x)[14]? = some (.int .i64 x.call.deed.ver) := rfl
theorem TMsg_c15 : (MV x)[15]? = some (.int .i64 x.call.deed.ses) := rfl
theorem TMsg_c16 : (MV x)[16]? = some (.int .i64 x.call.deed.num) := rfl
theorem TMsg_c17 : (MV x)[17]? = some (.int .i64 (x.call.deps 0)) := rfl
theorem TMsg_c18 : (MV x)[18]? = some (.int .i64 (x.call.deps 1)) := rfl
theorem TMsg_c19 : (MV x)[19]? = some (.int .i64 (x.call.deps 2)) := rfl
theorem TMsg_c20 : (MV x)[20]? = some (.int .i64 (x.call.deps 3)) := rfl
theorem TMsg_c21 : (MV x)[21]? = some (.int .i64 (x.call.deps 4)) := rfl
theorem TMsg_c22 : (MV x)[22]? = some (.int .i64 (x.call.deps 5)) := rfl
theorem TMsg_c23 : (MV x)[23]? = some (.int .i64 (x.call.deps 6)) := rfl
theorem TMsg_c24 : (MV x)[24]? = some (.int .i64 x.call.seq) := rfl
theorem TMsg_set_kind (v : Int) : (MV x).setIfInBounds 0 (.int .i64 v) = MV { x with kind := v } := rfl
theorem TMsg_set_frm (v : Int) : (MV x).setIfInBounds 1 (.int .i64 v) = MV { x with frm := v } := rfl
theorem TMsg_set_to (v : Int) : (MV x).setIfInBounds 2 (.int .i64 v) = MV { x with to := v } := rfl
theorem TMsg_p_item : piece (MV x) 3 2 = IV x.item := by kernel_rfl
theorem TMsg_put_item (v : Item) : splice (MV x) 3 (IV v) = MV { x with item := v } := by kernel_rfl
theorem TMsg_p_bal : piece (MV x) 5 2 = BV x.bal := by kernel_rfl
theorem TMsg_put_bal (v : Ballot) : splice (MV x) 5 (BV v) = MV { x with bal := v } := by kernel_rfl
theorem TMsg_p_vote : piece (MV x) 7 2 = BV x.vote := by kernel_rfl
theorem TMsg_put_vote (v : Ballot) : splice (MV x) 7 (BV v) = MV { x with vote := v } := by kernel_rfl
theorem TMsg_set_status (v : Int) : (MV x).setIfInBounds 9 (.int .i64 v) = MV { x with status := v } := rfl
theorem TMsg_set_same (v : Bool) : (MV x).setIfInBounds 10 (.bool v) = MV { x with same := v } := rfl
theorem TMsg_p_call : piece (MV x) 11 14 = CV x.call := by kernel_rfl
theorem TMsg_put_call (v : Call) : splice (MV x) 11 (CV v) = MV { x with call := v } := by kernel_rfl
theorem TMsg_deps (i : Nat) (h : i < 7) : (MV x)[17 + i]? = some (.int .i64 (x.call.deps i)) := by
  match i, h with
  | 0, _ => rfl
  | 1, _ => rfl
  | 2, _ => rfl
  | 3, _ => rfl
  | 4, _ => rfl
  | 5, _ => rfl
  | 6, _ => rfl
theorem TMsg_cat : MV x = #[.int .i64 x.kind] ++ #[.int .i64 x.frm] ++ #[.int .i64 x.to] ++ IV x.item ++ BV x.bal ++ BV x.vote ++ #[.int .i64 x.status] ++ #[.bool x.same] ++ CV x.call := by kernel_rfl
theorem TMsg_ext : MV x = MV y ↔ x.kind = y.kind ∧ x.frm = y.frm ∧ x.to = y.to ∧ IV x.item = IV y.item ∧ BV x.bal = BV y.bal ∧ BV x.vote = BV y.vote ∧ x.status = y.status ∧ x.same = y.same ∧ CV x.call = CV y.call := by
  constructor
  · intro h
    refine ⟨?_, ?_, ?_, ?_, ?_, ?_, ?_, ?_, ?_⟩
    · have := congrArg (·[0]?) h; simpa [TMsg_c0, TMsg_size] using this
    · have := congrArg (·[1]?) h; simpa [TMsg_c1, TMsg_size] using this
    · have := congrArg (·[2]?) h; simpa [TMsg_c2, TMsg_size] using this
    · have := congrArg (fun c => piece c 3 2) h; simpa only [TMsg_p_item] using this
    · have := congrArg (fun c => piece c 5 2) h; simpa only [TMsg_p_bal] using this
    · have := congrArg (fun c => piece c 7 2) h; simpa only [TMsg_p_vote] using this
    · have := congrArg (·[9]?) h; simpa [TMsg_c9, TMsg_size] using this
    · have := congrArg (·[10]?) h; simpa [TMsg_c10, TMsg_size] using this
    · have := congrArg (fun c => piece c 11 14) h; simpa only [TMsg_p_call] using this
  · rintro ⟨h0, h1, h2, h3, h4, h5, h6, h7, h8⟩
    rw [TMsg_cat x, TMsg_cat y, h0, h1, h2, h3, h4, h5, h6, h7, h8]
end
theorem TMsg_und : Tryd.prog.underlying 33 = some (.struct (Tryd.prog.fieldsOf 33)) := by kernel_rfl
theorem TMsg_eq (d : Nat) (x y : Msg) (w : World) : (Op.equalIn (d + 4) 33 (.agg (MV x)) (.agg (MV y))).run Tryd.prog w = .ok (eqA (MV x) (MV y)) w := by
  refine eq_struct (d := d + 3) (L := [(3, 0, x.kind == y.kind), (3, 1, x.frm == y.frm), (3, 2, x.to == y.to), (23, 3, eqA (IV x.item) (IV y.item)), (25, 5, eqA (BV x.bal) (BV y.bal)), (25, 7, eqA (BV x.vote) (BV y.vote)), (3, 9, x.status == y.status), (4, 10, x.same == y.same), (31, 11, eqA (CV x.call) (CV y.call))]) TMsg_und (by kernel_rfl) (by kernel_rfl) ?_ ?_ w
  · simp only [List.forall_mem_cons]
    exact ⟨⟨_, _, part_cell Tryd.underlying3 rfl (by kernel_rfl) (TMsg_c0 x), part_cell Tryd.underlying3 rfl (by kernel_rfl) (TMsg_c0 y), fun w => run_equalIn_int w (d + 2) _ _ _ _ _ Tryd.underlying3⟩, ⟨_, _, part_cell Tryd.underlying3 rfl (by kernel_rfl) (TMsg_c1 x), part_cell Tryd.underlying3 rfl (by kernel_rfl) (TMsg_c1 y), fun w => run_equalIn_int w (d + 2) _ _ _ _ _ Tryd.underlying3⟩, ⟨_, _, part_cell Tryd.underlying3 rfl (by kernel_rfl) (TMsg_c2 x), part_cell Tryd.underlying3 rfl (by kernel_rfl) (TMsg_c2 y), fun w => run_equalIn_int w (d + 2) _ _ _ _ _ Tryd.underlying3⟩, ⟨_, _, fun w => by rw [part_row TItem_und rfl (by kernel_rfl) (n := 2), TMsg_p_item], fun w => by rw [part_row TItem_und rfl (by kernel_rfl) (n := 2), TMsg_p_item], fun w => TItem_eq (d + 1) x.item y.item w⟩, ⟨_, _, fun w => by rw [part_row TBallot_und rfl (by kernel_rfl) (n := 2), TMsg_p_bal], fun w => by rw [part_row TBallot_und rfl (by kernel_rfl) (n := 2), TMsg_p_bal], fun w => TBallot_eq (d + 1) x.bal y.bal w⟩, ⟨_, _, fun w => by rw [part_row TBallot_und rfl (by kernel_rfl) (n := 2), TMsg_p_vote], fun w => by rw [part_row TBallot_und rfl (by kernel_rfl) (n := 2), TMsg_p_vote], fun w => TBallot_eq (d + 1) x.vote y.vote w⟩, ⟨_, _, part_cell Tryd.underlying3 rfl (by kernel_rfl) (TMsg_c9 x), part_cell Tryd.underlying3 rfl (by kernel_rfl) (TMsg_c9 y), fun w => run_equalIn_int w (d + 2) _ _ _ _ _ Tryd.underlying3⟩, ⟨_, _, part_cell Tryd.underlying4 rfl (by kernel_rfl) (TMsg_c10 x), part_cell Tryd.underlying4 rfl (by kernel_rfl) (TMsg_c10 y), fun w => run_equalIn_bool' w (d + 2) _ _ _ Tryd.underlying4⟩, ⟨_, _, fun w => by rw [part_row TCall_und rfl (by kernel_rfl) (n := 14), TMsg_p_call], fun w => by rw [part_row TCall_und rfl (by kernel_rfl) (n := 14), TMsg_p_call], fun w => TCall_eq (d + 0) x.call y.call w⟩, by simp⟩
  · refine eqA_of ?_
    rw [TMsg_ext]
    simp [eqA_iff]
theorem TMsg_eql (x y : Msg) (w : World) : (binOp .eql 33 (.agg (MV x)) (.agg (MV y))).run Tryd.prog w = .ok (.bool (eqA (MV x) (MV y))) w := eql_of (TMsg_eq 9996 x y) w
theorem TMsg_neq (x y : Msg) (w : World) : (binOp .neq 33 (.agg (MV x)) (.agg (MV y))).run Tryd.prog w = .ok (.bool (!eqA (MV x) (MV y))) w := neq_of (TMsg_eq 9996 x y) w
theorem TMsg_ld0 (v : Value) : Instr.loadAt 33 v = loadSem 33 v := rfl
theorem TMsg_st0 (v u : Value) : Instr.storeAt 33 v u = storeSem 33 v u := rfl
theorem TMsg_fd0 (x : Value) (i : Nat) : Instr.field 33 x i = fieldSem 33 x i := rfl
theorem TMsg_bd0 (p : Array (Nat × Value)) : Instr.build 33 p = buildS 33 p := rfl
theorem TMsg_ld (w : World) (v : Value) : (loadSem 33 v).run Tryd.prog w = loadVal Tryd.prog 33 25 w v := load_val TMsg_und rfl (by kernel_rfl) w v
theorem TMsg_st (w : World) (v u : Value) : (storeSem 33 v u).run Tryd.prog w = storeVal Tryd.prog 33 25 w v u := store_val (by kernel_rfl) w v u
theorem TMsg_f_kind (x : Msg) (w : World) : (fieldSem 33 (.agg (MV x)) 0).run Tryd.prog w = .ok (.int .i64 x.kind) w := field_of TMsg_und (by kernel_rfl) (part_cell Tryd.underlying3 rfl (by kernel_rfl) (TMsg_c0 x)) w
theorem TMsg_f_frm (x : Msg) (w : World) : (fieldSem 33 (.agg (MV x)) 1).run Tryd.prog w = .ok (.int .i64 x.frm) w := field_of TMsg_und (by kernel_rfl) (part_cell Tryd.underlying3 rfl (by kernel_rfl) (TMsg_c1 x)) w
theorem TMsg_f_to (x : Msg) (w : World) : (fieldSem 33 (.agg (MV x)) 2).run Tryd.prog w = .ok (.int .i64 x.to) w := field_of TMsg_und (by kernel_rfl) (part_cell Tryd.underlying3 rfl (by kernel_rfl) (TMsg_c2 x)) w
theorem TMsg_f_item (x : Msg) (w : World) : (fieldSem 33 (.agg (MV x)) 3).run Tryd.prog w = .ok (.agg (IV x.item)) w := field_of TMsg_und (by kernel_rfl) (fun w => by rw [part_row TItem_und rfl (by kernel_rfl) (n := 2), TMsg_p_item]) w
theorem TMsg_f_bal (x : Msg) (w : World) : (fieldSem 33 (.agg (MV x)) 4).run Tryd.prog w = .ok (.agg (BV x.bal)) w := field_of TMsg_und (by kernel_rfl) (fun w => by rw [part_row TBallot_und rfl (by kernel_rfl) (n := 2), TMsg_p_bal]) w
theorem TMsg_f_vote (x : Msg) (w : World) : (fieldSem 33 (.agg (MV x)) 5).run Tryd.prog w = .ok (.agg (BV x.vote)) w := field_of TMsg_und (by kernel_rfl) (fun w => by rw [part_row TBallot_und rfl (by kernel_rfl) (n := 2), TMsg_p_vote]) w
theorem TMsg_f_status (x : Msg) (w : World) : (fieldSem 33 (.agg (MV x)) 6).run Tryd.prog w = .ok (.int .i64 x.status) w := field_of TMsg_und (by kernel_rfl) (part_cell Tryd.underlying3 rfl (by kernel_rfl) (TMsg_c9 x)) w
theorem TMsg_f_same (x : Msg) (w : World) : (fieldSem 33 (.agg (MV x)) 7).run Tryd.prog w = .ok (.bool x.same) w := field_of TMsg_und (by kernel_rfl) (part_cell Tryd.underlying4 rfl (by kernel_rfl) (TMsg_c10 x)) w
theorem TMsg_f_call (x : Msg) (w : World) : (fieldSem 33 (.agg (MV x)) 8).run Tryd.prog w = .ok (.agg (CV x.call)) w := field_of TMsg_und (by kernel_rfl) (fun w => by rw [part_row TCall_und rfl (by kernel_rfl) (n := 14), TMsg_p_call]) w
def TMsg_pl : Nat → Option (Nat × Nat) := fun i => (#[(0, 1), (1, 1), (2, 1), (3, 2), (5, 2), (7, 2), (9, 1), (10, 1), (11, 14)] : Array (Nat × Nat))[i]?
theorem TMsg_bd (w : World) (p : Array (Nat × Value)) : (buildS 33 p).run Tryd.prog w = buildOf Tryd.prog 33 TMsg_pl (MV noMsg) p w := build_struct TMsg_und (by kernel_rfl) (fun w => by kernel_rfl) w p
theorem TMsg_fl (X : Array Value) : fillS TMsg_pl X [] = some X := rfl
theorem TMsg_fl_kind (x : Msg) (v : Int) (r : List (Nat × Value)) : fillS TMsg_pl (MV x) ((0, .int .i64 v) :: r) = fillS TMsg_pl (MV { x with kind := v }) r := rfl
theorem TMsg_fl_frm (x : Msg) (v : Int) (r : List (Nat × Value)) : fillS TMsg_pl (MV x) ((1, .int .i64 v) :: r) = fillS TMsg_pl (MV { x with frm := v }) r := rfl
theorem TMsg_fl_to (x : Msg) (v : Int) (r : List (Nat × Value)) : fillS TMsg_pl (MV x) ((2, .int .i64 v) :: r) = fillS TMsg_pl (MV { x with to := v }) r := rfl
theorem TMsg_fl_item (x : Msg) (v : Item) (r : List (Nat × Value)) : fillS TMsg_pl (MV x) ((3, .agg (IV v)) :: r) = fillS TMsg_pl (MV { x with item := v }) r := by
  show Instr.fill _ _ _ = Instr.fill _ _ _
  rw [fill_cons TMsg_pl (MV x) (IV v) 3 3 2 r rfl rfl (by show _ ≤ 25; omega), TMsg_put_item]
theorem TMsg_fl_bal (x : Msg) (v : Ballot) (r : List (Nat × Value)) : fillS TMsg_pl (MV x) ((4, .agg (BV v)) :: r) = fillS TMsg_pl (MV { x with bal := v }) r := by
  show Instr.fill _ _ _ = Instr.fill _ _ _
  rw [fill_cons TMsg_pl (MV x) (BV v) 4 5 2 r rfl rfl (by show _ ≤ 25; omega), TMsg_put_bal]
theorem TMsg_fl_vote (x : Msg) (v : Ballot) (r : List (Nat × Value)) : fillS TMsg_pl (MV x) ((5, .agg (BV v)) :: r) = fillS TMsg_pl (MV { x with vote := v }) r := by
  show Instr.fill _ _ _ = Instr.fill _ _ _
  rw [fill_cons TMsg_pl (MV x) (BV v) 5 7 2 r rfl rfl (by show _ ≤ 25; omega), TMsg_put_vote]
theorem TMsg_fl_status (x : Msg) (v : Int) (r : List (Nat × Value)) : fillS TMsg_pl (MV x) ((6, .int .i64 v) :: r) = fillS TMsg_pl (MV { x with status := v }) r := rfl
theorem TMsg_fl_same (x : Msg) (v : Bool) (r : List (Nat × Value)) : fillS TMsg_pl (MV x) ((7, .bool v) :: r) = fillS TMsg_pl (MV { x with same := v }) r := rfl
theorem TMsg_fl_call (x : Msg) (v : Call) (r : List (Nat × Value)) : fillS TMsg_pl (MV x) ((8, .agg (CV v)) :: r) = fillS TMsg_pl (MV { x with call := v }) r := by
  show Instr.fill _ _ _ = Instr.fill _ _ _
  rw [fill_cons TMsg_pl (MV x) (CV v) 8 11 14 r rfl rfl (by show _ ≤ 25; omega), TMsg_put_call]
theorem TMsg_ret {fn : Func} {R : Ending → World → Prop} {a : Act} {w : World} {p : Tmp} (x : Msg) {g : Nat} (hr : fn.results = #[.cell p 33]) (hp : a.tmps.getD p undef = .pointer (some ⟨g, 0, none⟩)) (hdf : a.defers = []) (hrow : row? w g = some (MV x)) (hR : R (.returned (.agg (MV x))) w) : bodyPost Tryd.prog fn R .ret a w :=
  ret_row (MV x) TMsg_und rfl (by kernel_rfl) hr hp hdf (TMsg_size x) hrow hR
end Go.Proofs.YtahajjfbkdocaaaDoor
