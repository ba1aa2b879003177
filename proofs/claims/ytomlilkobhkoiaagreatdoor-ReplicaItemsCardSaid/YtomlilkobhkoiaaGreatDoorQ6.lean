/- Several texts in one. -/
import Derived.Test.YtomlilkobhkoiaaGreatDoorQ3
import Derived.Test.YtomlilkobhkoiaaGreatDoorQ5
import Derived.Test.YtomlilkobhkoiaaGreatDoorQ4
import Derived.Deep.Cut
/- Call as a value, as cells: its parts, equality, loads, stores, building. Printed by types.py. -/
namespace Go.Proofs.YtomlilkobhkoiaaGreatDoor
open Go.RowKit
set_option linter.unusedVariables false
structure Call where
 deed : Deed
 deps : (Nat → Int)
 seq : Int
def CV (x : Call) : Array Value := #[.int .i64 x.deed.kind, .string x.deed.key, .string x.deed.val, .int .i64 x.deed.ver, .int .i64 x.deed.ses, .int .i64 x.deed.num, .int .i64 (x.deps 0), .int .i64 (x.deps 1), .int .i64 (x.deps 2), .int .i64 (x.deps 3), .int .i64 (x.deps 4), .int .i64 (x.deps 5), .int .i64 (x.deps 6), .int .i64 x.seq]
def noCall : Call := ⟨noDeed, (fun _ => 0), 0⟩
section
variable (x y : Call)
theorem TCall_size : (CV x).size = 14 := rfl
theorem TCall_one : allOne (CV x) = true := by simp [allOne, CV, Value.oneCell']
theorem TCall_piece : piece (CV x) 0 14 = CV x := piece_all _ _ rfl
theorem TCall_c0 : (CV x)[0]? = some (.int .i64 x.deed.kind) := rfl
theorem TCall_c1 : (CV x)[1]? = some (.string x.deed.key) := rfl
theorem TCall_c2 : (CV x)[2]? = some (.string x.deed.val) := rfl
theorem TCall_c3 : (CV x)[3]? = some (.int .i64 x.deed.ver) := rfl
theorem TCall_c4 : (CV x)[4]? = some (.int .i64 x.deed.ses) := rfl
theorem TCall_c5 : (CV x)[5]? = some (.int .i64 x.deed.num) := rfl
theorem TCall_c6 : (CV x)[6]? = some (.int .i64 (x.deps 0)) := rfl
theorem TCall_c7 : (CV x)[7]? = some (.int .i64 (x.deps 1)) := rfl
theorem TCall_c8 : (CV x)[8]? = some (.int .i64 (x.deps 2)) := rfl
theorem TCall_c9 : (CV x)[9]? = some (.int .i64 (x.deps 3)) := rfl
theorem TCall_c10 : (CV x)[10]? = some (.int .i64 (x.deps 4)) := rfl
theorem TCall_c11 : (CV x)[11]? = some (.int .i64 (x.deps 5)) := rfl
theorem TCall_c12 : (CV x)[12]? = some (.int .i64 (x.deps 6)) := rfl
theorem TCall_c13 : (CV x)[13]? = some (.int .i64 x.seq) := rfl
theorem TCall_p_deed : piece (CV x) 0 6 = EV x.deed := by kernel_rfl
theorem TCall_put_deed (v : Deed) : splice (CV x) 0 (EV v) = CV { x with deed := v } := by kernel_rfl
theorem TCall_p_deps : piece (CV x) 6 7 = DV x.deps := by kernel_rfl
theorem TCall_put_deps (v : (Nat → Int)) : splice (CV x) 6 (DV v) = CV { x with deps := v } := by kernel_rfl
theorem TCall_set_seq (v : Int) : (CV x).setIfInBounds 13 (.int .i64 v) = CV { x with seq := v } := rfl
theorem TCall_deps (i : Nat) (h : i < 7) : (CV x)[6 + i]? = some (.int .i64 (x.deps i)) := by
 match i, h with
 | 0, _ => rfl
 | 1, _ => rfl
 | 2, _ => rfl
 | 3, _ => rfl
 | 4, _ => rfl
 | 5, _ => rfl
 | 6, _ => rfl
theorem TCall_setdeps (i : Nat) (h : i < 7) (v : Int) : (CV x).setIfInBounds (6 + i) (.int .i64 v) = CV { x with deps := upd x.deps i v } := by
 match i, h with
 | 0, _ => rfl
 | 1, _ => rfl
 | 2, _ => rfl
 | 3, _ => rfl
 | 4, _ => rfl
 | 5, _ => rfl
 | 6, _ => rfl
theorem TCall_cat : CV x = EV x.deed ++ DV x.deps ++ #[.int .i64 x.seq] := by kernel_rfl
theorem TCall_ext : CV x = CV y ↔ EV x.deed = EV y.deed ∧ DV x.deps = DV y.deps ∧ x.seq = y.seq := by
 constructor
 ·intro h
  refine ⟨?_, ?_, ?_⟩
  ·have := congrArg (fun c => piece c 0 6) h; simpa only [TCall_p_deed] using this
  ·have := congrArg (fun c => piece c 6 7) h; simpa only [TCall_p_deps] using this
  ·have := congrArg (·[13]?) h; simpa [TCall_c13, TCall_size] using this
 ·rintro ⟨h0, h1, h2⟩
  rw [TCall_cat x, TCall_cat y, h0, h1, h2]
end
theorem TCall_und : Tryz.prog.underlying 68 = some (.struct (Tryz.prog.fieldsOf 68)) := by kernel_rfl
theorem TCall_eq (d : Nat) (x y : Call) (w : World) : (Op.equalIn (d + 3) 68 (.agg (CV x)) (.agg (CV y))).run Tryz.prog w = .ok (eqA (CV x) (CV y)) w := by
 refine eq_struct (d := d + 2) (L := [(31, 0, eqA (EV x.deed) (EV y.deed)), (66, 6, eqA (DV x.deps) (DV y.deps)), (3, 13, x.seq == y.seq)]) TCall_und (by kernel_rfl) (by kernel_rfl) ?_ ?_ w
 ·simp only [List.forall_mem_cons]
  exact ⟨⟨_, _, fun w => by rw [part_row TDeed_und rfl (by kernel_rfl) (n := 6), TCall_p_deed], fun w => by rw [part_row TDeed_und rfl (by kernel_rfl) (n := 6), TCall_p_deed], fun w => TDeed_eq (d + 0) x.deed y.deed w⟩, ⟨_, _, fun w => by rw [part_row Tryz.underlying66 rfl (by kernel_rfl) (n := 7), TCall_p_deps], fun w => by rw [part_row Tryz.underlying66 rfl (by kernel_rfl) (n := 7), TCall_p_deps], fun w => TDeps_eq (d + 0) x.deps y.deps w⟩, ⟨_, _, part_cell Tryz.underlying3 rfl (by kernel_rfl) (TCall_c13 x), part_cell Tryz.underlying3 rfl (by kernel_rfl) (TCall_c13 y), fun w => run_equalIn_int w (d + 1) _ _ _ _ _ Tryz.underlying3⟩, by simp⟩
 ·refine eqA_of ?_
  rw [TCall_ext]
  simp [eqA_iff]
theorem TCall_eql (x y : Call) (w : World) : (binOp .eql 68 (.agg (CV x)) (.agg (CV y))).run Tryz.prog w = .ok (.bool (eqA (CV x) (CV y))) w := eql_of (TCall_eq 9997 x y) w
theorem TCall_neq (x y : Call) (w : World) : (binOp .neq 68 (.agg (CV x)) (.agg (CV y))).run Tryz.prog w = .ok (.bool (!eqA (CV x) (CV y))) w := neq_of (TCall_eq 9997 x y) w
theorem TCall_ld0 (v : Value) : Instr.loadAt 68 v = loadSem 68 v := rfl
theorem TCall_st0 (v u : Value) : Instr.storeAt 68 v u = storeSem 68 v u := rfl
theorem TCall_fd0 (x : Value) (i : Nat) : Instr.field 68 x i = fieldSem 68 x i := rfl
theorem TCall_bd0 (p : Array (Nat × Value)) : Instr.build 68 p = buildS 68 p := rfl
theorem TCall_ld (w : World) (v : Value) : (loadSem 68 v).run Tryz.prog w = loadVal Tryz.prog 68 14 w v := load_val TCall_und rfl (by kernel_rfl) w v
theorem TCall_st (w : World) (v u : Value) : (storeSem 68 v u).run Tryz.prog w = storeVal Tryz.prog 68 14 w v u := store_val (by kernel_rfl) w v u
theorem TCall_f_deed (x : Call) (w : World) : (fieldSem 68 (.agg (CV x)) 0).run Tryz.prog w = .ok (.agg (EV x.deed)) w := field_of TCall_und (by kernel_rfl) (fun w => by rw [part_row TDeed_und rfl (by kernel_rfl) (n := 6), TCall_p_deed]) w
theorem TCall_f_deps (x : Call) (w : World) : (fieldSem 68 (.agg (CV x)) 1).run Tryz.prog w = .ok (.agg (DV x.deps)) w := field_of TCall_und (by kernel_rfl) (fun w => by rw [part_row Tryz.underlying66 rfl (by kernel_rfl) (n := 7), TCall_p_deps]) w
theorem TCall_f_seq (x : Call) (w : World) : (fieldSem 68 (.agg (CV x)) 2).run Tryz.prog w = .ok (.int .i64 x.seq) w := field_of TCall_und (by kernel_rfl) (part_cell Tryz.underlying3 rfl (by kernel_rfl) (TCall_c13 x)) w
def TCall_pl : Nat → Option (Nat × Nat) := fun i => (#[(0, 6), (6, 7), (13, 1)] : Array (Nat × Nat))[i]?
theorem TCall_bd (w : World) (p : Array (Nat × Value)) : (buildS 68 p).run Tryz.prog w = buildOf Tryz.prog 68 TCall_pl (CV noCall) p w := build_struct TCall_und (by kernel_rfl) (fun w => by kernel_rfl) w p
theorem TCall_fl (X : Array Value) : fillS TCall_pl X [] = some X := rfl
theorem TCall_fl_deed (x : Call) (v : Deed) (r : List (Nat × Value)) : fillS TCall_pl (CV x) ((0, .agg (EV v)) :: r) = fillS TCall_pl (CV { x with deed := v }) r := by
 show Instr.fill _ _ _ = Instr.fill _ _ _
 rw [fill_cons TCall_pl (CV x) (EV v) 0 0 6 r rfl rfl (by show _ ≤ 14; omega), TCall_put_deed]
theorem TCall_fl_deps (x : Call) (v : (Nat → Int)) (r : List (Nat × Value)) : fillS TCall_pl (CV x) ((1, .agg (DV v)) :: r) = fillS TCall_pl (CV { x with deps := v }) r := by
 show Instr.fill _ _ _ = Instr.fill _ _ _
 rw [fill_cons TCall_pl (CV x) (DV v) 1 6 7 r rfl rfl (by show _ ≤ 14; omega), TCall_put_deps]
theorem TCall_fl_seq (x : Call) (v : Int) (r : List (Nat × Value)) : fillS TCall_pl (CV x) ((2, .int .i64 v) :: r) = fillS TCall_pl (CV { x with seq := v }) r := rfl
theorem TCall_ret {fn : Func} {R : Ending → World → Prop} {a : Act} {w : World} {p : Tmp} (x : Call) {g : Nat} (hr : fn.results = #[.cell p 68]) (hp : a.tmps.getD p undef = .pointer (some ⟨g, 0, none⟩)) (hdf : a.defers = []) (hrow : row? w g = some (CV x)) (hR : R (.returned (.agg (CV x))) w) : bodyPost Tryz.prog fn R .ret a w :=
 ret_row (CV x) TCall_und rfl (by kernel_rfl) hr hp hdf (TCall_size x) hrow hR
end Go.Proofs.YtomlilkobhkoiaaGreatDoor
/- Msg as a value, as cells: its parts, equality, loads, stores, building. Printed by types.py. -/
namespace Go.Proofs.YtomlilkobhkoiaaGreatDoor
open Go.RowKit
set_option linter.unusedVariables false
structure Msg where
 kind : Int
 frm : Int
 to : Int
 item : Item
 bal : Ballot
 vote : Ballot
 status : Int
 same : Bool
 call : Call
def MV (x : Msg) : Array Value := #[.int .i64 x.kind, .int .i64 x.frm, .int .i64 x.to, .int .i64 x.item.rep, .int .i64 x.item.num, .int .i64 x.bal.round, .int .i64 x.bal.rep, .int .i64 x.vote.round, .int .i64 x.vote.rep, .int .i64 x.status, .bool x.same, .int .i64 x.call.deed.kind, .string x.call.deed.key, .string x.call.deed.val, .int .i64 x.call.deed.ver, .int .i64 x.call.deed.ses, .int .i64 x.call.deed.num, .int .i64 (x.call.deps 0), .int .i64 (x.call.deps 1), .int .i64 (x.call.deps 2), .int .i64 (x.call.deps 3), .int .i64 (x.call.deps 4), .int .i64 (x.call.deps 5), .int .i64 (x.call.deps 6), .int .i64 x.call.seq]
def noMsg : Msg := ⟨0, 0, 0, noItem, noBallot, noBallot, 0, false, noCall⟩
section
variable (x y : Msg)
theorem TMsg_size : (MV x).size = 25 := rfl
theorem TMsg_one : allOne (MV x) = true := by simp [allOne, MV, Value.oneCell']
theorem TMsg_piece : piece (MV x) 0 25 = MV x := piece_all _ _ rfl
theorem TMsg_c0 : (MV x)[0]? = some (.int .i64 x.kind) := rfl
theorem TMsg_c1 : (MV x)[1]? = some (.int .i64 x.frm) := rfl
theorem TMsg_c2 : (MV x)[2]? = some (.int .i64 x.to) := rfl
theorem TMsg_c3 : (MV x)[3]? = some (.int .i64 x.item.rep) := rfl
theorem TMsg_c4 : (MV x)[4]? = some (.int .i64 x.item.num) := rfl
theorem TMsg_c5 : (MV x)[5]? = some (.int .i64 x.bal.round) := rfl
theorem TMsg_c6 : (MV x)[6]? = some (.int .i64 x.bal.rep) := rfl
theorem TMsg_c7 : (MV x)[7]? = some (.int .i64 x.vote.round) := rfl
theorem TMsg_c8 : (MV x)[8]? = some (.int .i64 x.vote.rep) := rfl
theorem TMsg_c9 : (MV x)[9]? = some (.int .i64 x.status) := rfl
theorem TMsg_c10 : (MV x)[10]? = some (.bool x.same) := rfl
theorem TMsg_c11 : (MV x)[11]? = some (.int .i64 x.call.deed.kind) := rfl
theorem TMsg_c12 : (MV x)[12]? = some (.string x.call.deed.key) := rfl
theorem TMsg_c13 : (MV x)[13]? = some (.string x.call.deed.val) := rfl
theorem TMsg_c14 : (MV x)[14]? = some (.int .i64 x.call.deed.ver) := rfl
theorem TMsg_c15 : (MV x)[15]? = some (.int .i64 x.call.deed.ses) := rfl
theorem TMsg_c16 : (MV x)[16]? = some (.int .i64 x.call.deed.num) := rfl
theorem TMsg_c17 : (MV x)[17]? = some (.int .i64 (x.call.deps 0)) := rfl
theorem TMsg_c18 : (MV x)[18]? = some (.int .i64 (x.call.deps 1)) := rfl
theorem TMsg_c19 : (MV x)[19]? = some (.int .i64 (x.call.deps 2)) := rfl
theorem TMsg_c20 : (MV x)[20]? = some (.int .i64 (x.call.deps 3)) := rfl
theorem TMsg_c21 : (MV x)[21]? = some (.int .i64 (x.call.deps 4)) := rfl
theorem TMsg_c22 : (MV x)[22]? = some (.int .i64 (x.call.deps 5)) := rfl
theorem TMsg_c23 : (MV x)[23]? = some (.int .i64 (x.call.deps 6)) := rfl
theorem TMsg_c24 : (MV x)[24]? = some (.int .i64 x.call.seq) := rfl
theorem TMsg_set_kind (v : Int) : (MV x).setIfInBounds 0 (.int .i64 v) = MV { x with kind := v } := rfl
theorem TMsg_set_frm (v : Int) : (MV x).setIfInBounds 1 (.int .i64 v) = MV { x with frm := v } := rfl
theorem TMsg_set_to (v : Int) : (MV x).setIfInBounds 2 (.int .i64 v) = MV { x with to := v } := rfl
theorem TMsg_p_item : piece (MV x) 3 2 = IV x.item := by kernel_rfl
theorem TMsg_put_item (v : Item) : splice (MV x) 3 (IV v) = MV { x with item := v } := by kernel_rfl
theorem TMsg_p_bal : piece (MV x) 5 2 = BV x.bal := by kernel_rfl
theorem TMsg_put_bal (v : Ballot) : splice (MV x) 5 (BV v) = MV { x with bal := v } := by kernel_rfl
theorem TMsg_p_vote : piece (MV x) 7 2 = BV x.vote := by kernel_rfl
theorem TMsg_put_vote (v : Ballot) : splice (MV x) 7 (BV v) = MV { x with vote := v } := by kernel_rfl
theorem TMsg_set_status (v : Int) : (MV x).setIfInBounds 9 (.int .i64 v) = MV { x with status := v } := rfl
theorem TMsg_set_same (v : Bool) : (MV x).setIfInBounds 10 (.bool v) = MV { x with same := v } := rfl
theorem TMsg_p_call : piece (MV x) 11 14 = CV x.call := by kernel_rfl
theorem TMsg_put_call (v : Call) : splice (MV x) 11 (CV v) = MV { x with call := v } := by kernel_rfl
theorem TMsg_cat : MV x = #[.int .i64 x.kind] ++ #[.int .i64 x.frm] ++ #[.int .i64 x.to] ++ IV x.item ++ BV x.bal ++ BV x.vote ++ #[.int .i64 x.status] ++ #[.bool x.same] ++ CV x.call := by kernel_rfl
theorem TMsg_ext : MV x = MV y ↔ x.kind = y.kind ∧ x.frm = y.frm ∧ x.to = y.to ∧ IV x.item = IV y.item ∧ BV x.bal = BV y.bal ∧ BV x.vote = BV y.vote ∧ x.status = y.status ∧ x.same = y.same ∧ CV x.call = CV y.call := by
 constructor
 ·intro h
  refine ⟨?_, ?_, ?_, ?_, ?_, ?_, ?_, ?_, ?_⟩
  ·have := congrArg (·[0]?) h; simpa [TMsg_c0, TMsg_size] using this
  ·have := congrArg (·[1]?) h; simpa [TMsg_c1, TMsg_size] using this
  ·have := congrArg (·[2]?) h; simpa [TMsg_c2, TMsg_size] using this
  ·have := congrArg (fun c => piece c 3 2) h; simpa only [TMsg_p_item] using this
  ·have := congrArg (fun c => piece c 5 2) h; simpa only [TMsg_p_bal] using this
  ·have := congrArg (fun c => piece c 7 2) h; simpa only [TMsg_p_vote] using this
  ·have := congrArg (·[9]?) h; simpa [TMsg_c9, TMsg_size] using this
  ·have := congrArg (·[10]?) h; simpa [TMsg_c10, TMsg_size] using this
  ·have := congrArg (fun c => piece c 11 14) h; simpa only [TMsg_p_call] using this
 ·rintro ⟨h0, h1, h2, h3, h4, h5, h6, h7, h8⟩
  rw [TMsg_cat x, TMsg_cat y, h0, h1, h2, h3, h4, h5, h6, h7, h8]
end
theorem TMsg_und : Tryz.prog.underlying 136 = some (.struct (Tryz.prog.fieldsOf 136)) := by kernel_rfl
theorem TMsg_eq (d : Nat) (x y : Msg) (w : World) : (Op.equalIn (d + 4) 136 (.agg (MV x)) (.agg (MV y))).run Tryz.prog w = .ok (eqA (MV x) (MV y)) w := by
 refine eq_struct (d := d + 3) (L := [(3, 0, x.kind == y.kind), (3, 1, x.frm == y.frm), (3, 2, x.to == y.to), (33, 3, eqA (IV x.item) (IV y.item)), (64, 5, eqA (BV x.bal) (BV y.bal)), (64, 7, eqA (BV x.vote) (BV y.vote)), (3, 9, x.status == y.status), (4, 10, x.same == y.same), (68, 11, eqA (CV x.call) (CV y.call))]) TMsg_und (by kernel_rfl) (by kernel_rfl) ?_ ?_ w
 ·simp only [List.forall_mem_cons]
  exact ⟨⟨_, _, part_cell Tryz.underlying3 rfl (by kernel_rfl) (TMsg_c0 x), part_cell Tryz.underlying3 rfl (by kernel_rfl) (TMsg_c0 y), fun w => run_equalIn_int w (d + 2) _ _ _ _ _ Tryz.underlying3⟩, ⟨_, _, part_cell Tryz.underlying3 rfl (by kernel_rfl) (TMsg_c1 x), part_cell Tryz.underlying3 rfl (by kernel_rfl) (TMsg_c1 y), fun w => run_equalIn_int w (d + 2) _ _ _ _ _ Tryz.underlying3⟩, ⟨_, _, part_cell Tryz.underlying3 rfl (by kernel_rfl) (TMsg_c2 x), part_cell Tryz.underlying3 rfl (by kernel_rfl) (TMsg_c2 y), fun w => run_equalIn_int w (d + 2) _ _ _ _ _ Tryz.underlying3⟩, ⟨_, _, fun w => by rw [part_row TItem_und rfl (by kernel_rfl) (n := 2), TMsg_p_item], fun w => by rw [part_row TItem_und rfl (by kernel_rfl) (n := 2), TMsg_p_item], fun w => TItem_eq (d + 1) x.item y.item w⟩, ⟨_, _, fun w => by rw [part_row TBallot_und rfl (by kernel_rfl) (n := 2), TMsg_p_bal], fun w => by rw [part_row TBallot_und rfl (by kernel_rfl) (n := 2), TMsg_p_bal], fun w => TBallot_eq (d + 1) x.bal y.bal w⟩, ⟨_, _, fun w => by rw [part_row TBallot_und rfl (by kernel_rfl) (n := 2), TMsg_p_vote], fun w => by rw [part_row TBallot_und rfl (by kernel_rfl) (n := 2), TMsg_p_vote], fun w => TBallot_eq (d + 1) x.vote y.vote w⟩, ⟨_, _, part_cell Tryz.underlying3 rfl (by kernel_rfl) (TMsg_c9 x), part_cell Tryz.underlying3 rfl (by kernel_rfl) (TMsg_c9 y), fun w => run_equalIn_int w (d + 2) _ _ _ _ _ Tryz.underlying3⟩, ⟨_, _, part_cell Tryz.underlying4 rfl (by kernel_rfl) (TMsg_c10 x), part_cell Tryz.underlying4 rfl (by kernel_rfl) (TMsg_c10 y), fun w => run_equalIn_bool' w (d + 2) _ _ _ Tryz.underlying4⟩, ⟨_, _, fun w => by rw [part_row TCall_und rfl (by kernel_rfl) (n := 14), TMsg_p_call], fun w => by rw [part_row TCall_und rfl (by kernel_rfl) (n := 14), TMsg_p_call], fun w => TCall_eq (d + 0) x.call y.call w⟩, by simp⟩
 ·refine eqA_of ?_
  rw [TMsg_ext]
  simp [eqA_iff]
theorem TMsg_eql (x y : Msg) (w : World) : (binOp .eql 136 (.agg (MV x)) (.agg (MV y))).run Tryz.prog w = .ok (.bool (eqA (MV x) (MV y))) w := eql_of (TMsg_eq 9996 x y) w
theorem TMsg_neq (x y : Msg) (w : World) : (binOp .neq 136 (.agg (MV x)) (.agg (MV y))).run Tryz.prog w = .ok (.bool (!eqA (MV x) (MV y))) w := neq_of (TMsg_eq 9996 x y) w
theorem TMsg_ld0 (v : Value) : Instr.loadAt 136 v = loadSem 136 v := rfl
theorem TMsg_st0 (v u : Value) : Instr.storeAt 136 v u = storeSem 136 v u := rfl
theorem TMsg_fd0 (x : Value) (i : Nat) : Instr.field 136 x i = fieldSem 136 x i := rfl
theorem TMsg_bd0 (p : Array (Nat × Value)) : Instr.build 136 p = buildS 136 p := rfl
theorem TMsg_ld (w : World) (v : Value) : (loadSem 136 v).run Tryz.prog w = loadVal Tryz.prog 136 25 w v := load_val TMsg_und rfl (by kernel_rfl) w v
theorem TMsg_st (w : World) (v u : Value) : (storeSem 136 v u).run Tryz.prog w = storeVal Tryz.prog 136 25 w v u := store_val (by kernel_rfl) w v u
theorem TMsg_f_kind (x : Msg) (w : World) : (fieldSem 136 (.agg (MV x)) 0).run Tryz.prog w = .ok (.int .i64 x.kind) w := field_of TMsg_und (by kernel_rfl) (part_cell Tryz.underlying3 rfl (by kernel_rfl) (TMsg_c0 x)) w
theorem TMsg_f_frm (x : Msg) (w : World) : (fieldSem 136 (.agg (MV x)) 1).run Tryz.prog w = .ok (.int .i64 x.frm) w := field_of TMsg_und (by kernel_rfl) (part_cell Tryz.underlying3 rfl (by kernel_rfl) (TMsg_c1 x)) w
theorem TMsg_f_to (x : Msg) (w : World) : (fieldSem 136 (.agg (MV x)) 2).run Tryz.prog w = .ok (.int .i64 x.to) w := field_of TMsg_und (by kernel_rfl) (part_cell Tryz.underlying3 rfl (by kernel_rfl) (TMsg_c2 x)) w
theorem TMsg_f_item (x : Msg) (w : World) : (fieldSem 136 (.agg (MV x)) 3).run Tryz.prog w = .ok (.agg (IV x.item)) w := field_of TMsg_und (by kernel_rfl) (fun w => by rw [part_row TItem_und rfl (by kernel_rfl) (n := 2), TMsg_p_item]) w
theorem TMsg_f_bal (x : Msg) (w : World) : (fieldSem 136 (.agg (MV x)) 4).run Tryz.prog w = .ok (.agg (BV x.bal)) w := field_of TMsg_und (by kernel_rfl) (fun w => by rw [part_row TBallot_und rfl (by kernel_rfl) (n := 2), TMsg_p_bal]) w
theorem TMsg_f_vote (x : Msg) (w : World) : (fieldSem 136 (.agg (MV x)) 5).run Tryz.prog w = .ok (.agg (BV x.vote)) w := field_of TMsg_und (by kernel_rfl) (fun w => by rw [part_row TBallot_und rfl (by kernel_rfl) (n := 2), TMsg_p_vote]) w
theorem TMsg_f_status (x : Msg) (w : World) : (fieldSem 136 (.agg (MV x)) 6).run Tryz.prog w = .ok (.int .i64 x.status) w := field_of TMsg_und (by kernel_rfl) (part_cell Tryz.underlying3 rfl (by kernel_rfl) (TMsg_c9 x)) w
theorem TMsg_f_same (x : Msg) (w : World) : (fieldSem 136 (.agg (MV x)) 7).run Tryz.prog w = .ok (.bool x.same) w := field_of TMsg_und (by kernel_rfl) (part_cell Tryz.underlying4 rfl (by kernel_rfl) (TMsg_c10 x)) w
theorem TMsg_f_call (x : Msg) (w : World) : (fieldSem 136 (.agg (MV x)) 8).run Tryz.prog w = .ok (.agg (CV x.call)) w := field_of TMsg_und (by kernel_rfl) (fun w => by rw [part_row TCall_und rfl (by kernel_rfl) (n := 14), TMsg_p_call]) w
def TMsg_pl : Nat → Option (Nat × Nat) := fun i => (#[(0, 1), (1, 1), (2, 1), (3, 2), (5, 2), (7, 2), (9, 1), (10, 1), (11, 14)] : Array (Nat × Nat))[i]?
theorem TMsg_bd (w : World) (p : Array (Nat × Value)) : (buildS 136 p).run Tryz.prog w = buildOf Tryz.prog 136 TMsg_pl (MV noMsg) p w := build_struct TMsg_und (by kernel_rfl) (fun w => by kernel_rfl) w p
theorem TMsg_fl (X : Array Value) : fillS TMsg_pl X [] = some X := rfl
theorem TMsg_fl_kind (x : Msg) (v : Int) (r : List (Nat × Value)) : fillS TMsg_pl (MV x) ((0, .int .i64 v) :: r) = fillS TMsg_pl (MV { x with kind := v }) r := rfl
theorem TMsg_fl_frm (x : Msg) (v : Int) (r : List (Nat × Value)) : fillS TMsg_pl (MV x) ((1, .int .i64 v) :: r) = fillS TMsg_pl (MV { x with frm := v }) r := rfl
theorem TMsg_fl_to (x : Msg) (v : Int) (r : List (Nat × Value)) : fillS TMsg_pl (MV x) ((2, .int .i64 v) :: r) = fillS TMsg_pl (MV { x with to := v }) r := rfl
theorem TMsg_fl_item (x : Msg) (v : Item) (r : List (Nat × Value)) : fillS TMsg_pl (MV x) ((3, .agg (IV v)) :: r) = fillS TMsg_pl (MV { x with item := v }) r := by
 show Instr.fill _ _ _ = Instr.fill _ _ _
 rw [fill_cons TMsg_pl (MV x) (IV v) 3 3 2 r rfl rfl (by show _ ≤ 25; omega), TMsg_put_item]
theorem TMsg_fl_bal (x : Msg) (v : Ballot) (r : List (Nat × Value)) : fillS TMsg_pl (MV x) ((4, .agg (BV v)) :: r) = fillS TMsg_pl (MV { x with bal := v }) r := by
 show Instr.fill _ _ _ = Instr.fill _ _ _
 rw [fill_cons TMsg_pl (MV x) (BV v) 4 5 2 r rfl rfl (by show _ ≤ 25; omega), TMsg_put_bal]
theorem TMsg_fl_vote (x : Msg) (v : Ballot) (r : List (Nat × Value)) : fillS TMsg_pl (MV x) ((5, .agg (BV v)) :: r) = fillS TMsg_pl (MV { x with vote := v }) r := by
 show Instr.fill _ _ _ = Instr.fill _ _ _
 rw [fill_cons TMsg_pl (MV x) (BV v) 5 7 2 r rfl rfl (by show _ ≤ 25; omega), TMsg_put_vote]
theorem TMsg_fl_status (x : Msg) (v : Int) (r : List (Nat × Value)) : fillS TMsg_pl (MV x) ((6, .int .i64 v) :: r) = fillS TMsg_pl (MV { x with status := v }) r := rfl
theorem TMsg_fl_same (x : Msg) (v : Bool) (r : List (Nat × Value)) : fillS TMsg_pl (MV x) ((7, .bool v) :: r) = fillS TMsg_pl (MV { x with same := v }) r := rfl
theorem TMsg_fl_call (x : Msg) (v : Call) (r : List (Nat × Value)) : fillS TMsg_pl (MV x) ((8, .agg (CV v)) :: r) = fillS TMsg_pl (MV { x with call := v }) r := by
 show Instr.fill _ _ _ = Instr.fill _ _ _
 rw [fill_cons TMsg_pl (MV x) (CV v) 8 11 14 r rfl rfl (by show _ ≤ 25; omega), TMsg_put_call]
end Go.Proofs.YtomlilkobhkoiaaGreatDoor
/- Slices of Letters, Spokes, Messages, Items: built, appended to. -/
namespace Go.Proofs.YtomlilkobhkoiaaGreatDoor
open Go.RowKit
set_option linter.unusedVariables false
theorem spk_slice0 (len : Nat) (parts : Array (Nat × Value)) : Instr.buildSlice 164 len parts = buildSem 164 len parts := rfl
theorem spk_slice1 (w : World) (x : Spoke) : (buildSem 164 1 #[(0, .agg (SKV x))]).run Tryz.prog w = .ok (.slice (some ⟨w.heap.size, 0, none⟩) 1 1) (w.alloc (.cells (SKV x) 184)) :=
 build_slice1 Tryz.underlying164 (z := .agg (SKV noSpoke)) (n := 4) (by kernel_rfl) (by omega) w (TSpoke_size x) (by omega)
theorem spk_i : ∃ i, Tryz.prog.info? 184 = some i ∧ i.zero = some (.agg (SKV noSpoke)) ∧ i.size = 4 ∧ i.bytes = 32 := by
 have h : (Tryz.prog.info? 184).map (fun i => (i.zero, i.size, i.bytes)) = some (some (.agg (SKV noSpoke)), 4, 32) := by kernel_rfl
 cases hi : Tryz.prog.info? 184 with
 | none => rw [hi] at h; simp at h
 | some i => rw [hi] at h; simp at h; exact ⟨i, rfl, h.1, h.2.1, h.2.2⟩
theorem spk_one (x : Spoke) : ∀ u ∈ (SKV x).toList, u.oneCell' = true := by simp [SKV, Value.oneCell']
theorem ltr_slice0 (len : Nat) (parts : Array (Nat × Value)) : Instr.buildSlice 41 len parts = buildSem 41 len parts := rfl
theorem ltr_slice1 (w : World) (x : Letter) : (buildSem 41 1 #[(0, .agg (LTV x))]).run Tryz.prog w = .ok (.slice (some ⟨w.heap.size, 0, none⟩) 1 1) (w.alloc (.cells (LTV x) 148)) :=
 build_slice1 Tryz.underlying41 (z := .agg (LTV noLetter)) (n := 3) (by kernel_rfl) (by omega) w (TLetter_size x) (by omega)
theorem ltr_i : ∃ i, Tryz.prog.info? 148 = some i ∧ i.zero = some (.agg (LTV noLetter)) ∧ i.size = 3 ∧ i.bytes = 32 := by
 have h : (Tryz.prog.info? 148).map (fun i => (i.zero, i.size, i.bytes)) = some (some (.agg (LTV noLetter)), 3, 32) := by kernel_rfl
 cases hi : Tryz.prog.info? 148 with
 | none => rw [hi] at h; simp at h
 | some i => rw [hi] at h; simp at h; exact ⟨i, rfl, h.1, h.2.1, h.2.2⟩
theorem ltr_one (x : Letter) : ∀ u ∈ (LTV x).toList, u.oneCell' = true := by simp [LTV, Value.oneCell']
theorem mes_slice0 (len : Nat) (parts : Array (Nat × Value)) : Instr.buildSlice 57 len parts = buildSem 57 len parts := rfl
theorem mes_slice1 (w : World) (x : Msg) : (buildSem 57 1 #[(0, .agg (MV x))]).run Tryz.prog w = .ok (.slice (some ⟨w.heap.size, 0, none⟩) 1 1) (w.alloc (.cells (MV x) 136)) :=
 build_slice1 Tryz.underlying57 (z := .agg (MV noMsg)) (n := 25) (by kernel_rfl) (by omega) w (TMsg_size x) (by omega)
theorem mes_i : ∃ i, Tryz.prog.info? 136 = some i ∧ i.zero = some (.agg (MV noMsg)) ∧ i.size = 25 ∧ i.bytes = 216 := by
 have h : (Tryz.prog.info? 136).map (fun i => (i.zero, i.size, i.bytes)) = some (some (.agg (MV noMsg)), 25, 216) := by kernel_rfl
 cases hi : Tryz.prog.info? 136 with
 | none => rw [hi] at h; simp at h
 | some i => rw [hi] at h; simp at h; exact ⟨i, rfl, h.1, h.2.1, h.2.2⟩
theorem mes_one (x : Msg) : ∀ u ∈ (MV x).toList, u.oneCell' = true := by simp [MV, Value.oneCell']
theorem ite_slice0 (len : Nat) (parts : Array (Nat × Value)) : Instr.buildSlice 89 len parts = buildSem 89 len parts := rfl
theorem ite_slice1 (w : World) (x : Item) : (buildSem 89 1 #[(0, .agg (IV x))]).run Tryz.prog w = .ok (.slice (some ⟨w.heap.size, 0, none⟩) 1 1) (w.alloc (.cells (IV x) 33)) :=
 build_slice1 Tryz.underlying89 (z := .agg (IV noItem)) (n := 2) (by kernel_rfl) (by omega) w (TItem_size x) (by omega)
theorem news_at {W : World} {g : Nat} {X : Array Value} (h : row? W g = some X) : ∀ j u, X.toList[j]? = some u → W.cell? ((⟨g, 0, none⟩ : Addr).add j) = some u := by
 intro j u hj
 rw [Addr.add_lit, Nat.zero_add, row_cell h]
 simpa using hj
end Go.Proofs.YtomlilkobhkoiaaGreatDoor
/- append of a slice that comes in to a slice of the call's own. Nothing of the program stands here. -/
namespace Go.Proofs.YtomlilkobhkoiaaGreatDoor
open Go.RowKit
set_option linter.unusedVariables false
section
variable {P : Program} {w W : World} {F : Nat → Prop} {R : List Res}
end
end Go.Proofs.YtomlilkobhkoiaaGreatDoor
/- Layer 10: the wheel: a thing is set, behind all others. -/
namespace Go.Proofs.YtomlilkobhkoiaaGreatDoor
open Go.RowKit
set_option linter.unusedVariables false
set_option maxRecDepth 20000
attribute [local go_sem] row_alloc row_drew row_drewN row_ext row_setCell row_setRow size_ext setRow_alloc setRow_drew loadOf storeOf piece_lit loadVal_at storeVal_at allOne_lit buildOf buildRes_some
attribute [local go_sem high] cell_alloc frozen_alloc setCell_alloc cell_ext frozen_ext cell_setRow frozen_setRow
attribute [local go_sem ↓] TItem_ld0 TItem_st0 TItem_fd0 TItem_bd0
attribute [local go_sem] TItem_size TItem_one TItem_piece TItem_c0 TItem_c1 TItem_set_rep TItem_set_num TItem_ld TItem_st TItem_f_rep TItem_f_num TItem_bd TItem_fl TItem_fl_rep TItem_fl_num
attribute [local go_sem high] TItem_eql TItem_neq
attribute [local go_sem ↓] TSpoke_ld0 TSpoke_st0 TSpoke_fd0 TSpoke_bd0
attribute [local go_sem] TSpoke_size TSpoke_one TSpoke_piece TSpoke_c0 TSpoke_c1 TSpoke_c2 TSpoke_c3 TSpoke_p_key TSpoke_put_key TSpoke_set_due TSpoke_set_turn TSpoke_ld TSpoke_st TSpoke_f_key TSpoke_f_due TSpoke_f_turn TSpoke_bd TSpoke_fl TSpoke_fl_key TSpoke_fl_due TSpoke_fl_turn
attribute [local go_sem high] TSpoke_eql TSpoke_neq
section
variable {w W : World} {F : Nat → Prop} {R : List Res} {v : Value} {l : List Spoke}
set_option maxHeartbeats 4000000 in
theorem whBinT (hl : l.length ≤ 1000) (s : Spoke) (hall : ∀ y ∈ l, y.due = s.due ∧ y.turn < s.turn) (T : Sts w F W (skR v l :: R)) :
  Calls Tryz.prog 73 #[v, .agg (SKV s), .func (.func 74) #[] #[]] W fun e W' => e = .returned (.tuple #[.int .i64 l.length, .bool false]) ∧ Sts w F W' (skR v l :: R) := by
 obtain ⟨A, c, rfl, hc⟩ := vec_form T
 have T1 := T.new (SKV s) 184
 unfold skR at T1 ⊢
 obtain ⟨n, hn⟩ : ∃ n, n = l.length := ⟨_, rfl⟩
 rw [← hn] at hl hc T1 ⊢
 have HN := Lib.hid hn; have HA := Lib.hid hall; have HT := Lib.hid T1
 clear hn hall T T1
 go_enter Tryz.func73, Tryz.ntmps73
 go_wp2_with fail
 generalize W.heap.size = gs at *
 go_loopw [9, 10] (fun u9 u10 wr => u10 = .int .i64 n ∧ ∃ k : Nat, u9 = .int .i64 k ∧ k ≤ n ∧ Sts w F wr (rowR gs (SKV s) :: vecR 184 4 (.slice A n c) n (vl SKV l) :: R)) (fun u9 _ _ => n - (intOf u9).toNat)
 case atStart => exact ⟨rfl, 0, rfl, by omega, HT.out⟩
 case round =>
  clear HT
  obtain ⟨rfl, k, rfl, hk, T⟩ := hrel
  by_cases hkn : k < n
  ·have hk1 : (k : Int) < (n : Int) := by omega
   obtain ⟨h, hh⟩ : ∃ h : Nat, ((k : Int) + (n : Int)) / 2 = (h : Int) := ⟨(k + n) / 2, by omega⟩
   have hkh : k ≤ h := by omega
   have hhn : h < n := by omega
   have hh0 : (0 : Int) ≤ (h : Int) := by omega
   have hh1 : (h : Int) < (n : Int) := by omega
   obtain ⟨y, hy⟩ : ∃ y, l[h]? = some y := ⟨l[h]'(by rw [← HN.out]; exact hhn), List.getElem?_eq_getElem _⟩
   obtain ⟨g5, rfl, -⟩ := vec_get (P := Tryz.prog) (e := 184) TSpoke_size (by omega) TSpoke_und rfl (by kernel_rfl) T.drop HN.out hy (by omega)
   have FS : ∀ W' R', Sts w F W' (rowR gs (SKV s) :: vecR 184 4 (.slice (some ⟨g5, 0, none⟩) n c) n (vl SKV l) :: R') → (row? W' gs = some (SKV s) ∧ loadVal Tryz.prog 184 4 W' (.pointer (some ⟨g5, h * 4, none⟩)) = .ok (.agg (SKV y)) W') := fun W' R' T' => by
    obtain ⟨g6, e6, hld⟩ := vec_get (P := Tryz.prog) (e := 184) TSpoke_size (by omega) TSpoke_und rfl (by kernel_rfl) T'.drop HN.out hy (by omega)
    injection e6 with e6
    injection e6 with e6
    subst e6
    exact ⟨T'.row, hld⟩
   have hq := HA.out y (List.mem_of_getElem? hy)
   have HB := Lib.hid (before_any y s hq.1 hq.2)
   have HFS := Lib.hid FS
   have HT := Lib.hid T.drew
   have S0 := FS _ _ HT.out
   clear FS T hy hq
   go_upto_region 5 with fail
   refine wp_region_held_drew (S := fun W' => (row? W' gs = some (SKV s) ∧ loadVal Tryz.prog 184 4 W' (.pointer (some ⟨g5, h * 4, none⟩)) = .ok (.agg (SKV y)) W')) (by kernel_rfl) S0 (fun hHeld => ?_)
   clear S0
   refine tkH 0 rfl ?_
   simp only [Act.put, List.setIfInBounds_toArray, List.set_cons_zero, List.set_cons_succ]
   refine tkH 1 rfl ?_
   go_frame
   refine tkH 2 rfl ?_
   go_frame
   refine tkH 3 rfl ?_
   go_frame
   refine tkH 4 rfl ?_
   go_frame
   refine tkH 5 rfl ?_
   go_frame
   refine wpAnyH_ready (rs := [6]) (by kernel_rfl) (by simp) ?_
   refine AllReadyH.cons (o := _) rfl (fun K hK => ?_) AllReadyH.nil
   go_simp
   refine (HB.out.at HT.out).mono ?_
   clear HB
   rintro e5 w5 ⟨rfl, T⟩
   clear HT
   have HT := Lib.hid T; clear T
   refine hK.out _ _ (HFS.out _ _ HT.out) (fun hHeld => ?_)
   clear hK K HFS
   refine tkH 7 rfl ?_
   simp only [Act.put, List.setIfInBounds_toArray, List.set_cons_zero, List.set_cons_succ]
   refine wpAnyH_done (by kernel_rfl) ?_ _
   try simp only [Exit.then]
   go_wp2
   go_roundw
   case rel => exact ⟨rfl, h + 1, by go_num, by omega, HT.out⟩
   case measure => simp [intOf]; omega
  ·obtain rfl : k = n := by omega
   have hk1 : ¬ (k : Int) < (k : Int) := by omega
   have HT := Lib.hid T; clear T
   go_upto_region 8 with fail
   go_quiet (fail)
   go_wp2
   go_ret2
   exact ⟨rfl, (HT.out.drewN _).drop⟩
set_option maxHeartbeats 4000000 in
theorem whInsT (hl : l.length ≤ 1000) (s : Spoke) (g : Nat) (T : Sts w F W (rowR g (SKV s) :: skR v l :: R)) :
  Calls Tryz.prog 75 #[v, .int .i64 l.length, .slice (some ⟨g, 0, none⟩) 1 1] W fun e W' => ∃ v', e = .returned v' ∧ Sts w F W' (skR v' (l ++ [s]) :: R) := by
 obtain ⟨A, c, rfl, hc⟩ := vec_form T.swap
 unfold skR at T ⊢
 obtain ⟨n, hn⟩ : ∃ n, n = l.length := ⟨_, rfl⟩
 rw [List.length_append, ← hn]
 rw [← hn] at hl hc T
 have HN := Lib.hid hn; have HT := Lib.hid T
 clear hn T
 rcases Nat.lt_or_eq_of_le hc with hcn | hcn
 ·have hne : ¬ c = n := by omega
  go_enter Tryz.func75, Tryz.ntmps75
  obtain ⟨i0, hi, hz0, hz1, hz2⟩ := spk_i
  have hnw := Lib.hid (news_at HT.out.row)
  have TA := Lib.hid HT.out.swap
  go_wp2_with (at_builtin; refine wpList_append_vec rfl _ _ 164 rfl 184 i0 _ 4 32 Tryz.underlying164 hi hz0 hz1 hz2 rfl (by omega) _ _ _ rfl TA.out _ 1 1 (SKV s).toList rfl rfl hnw.out (spk_one s) ?c3 ?c4 ?_)
  case c3 => unfold maxLen; omega
  case c4 => omega
  intro v9 w9 T9
  clear TA hnw HT
  have HT := Lib.hid T9; clear T9
  go_wp2
  go_ret
  refine ⟨_, rfl, ?_⟩
  rw [vl_snoc]
  exact HT.out.swap.drop
 ·subst hcn
  go_enter Tryz.func75, Tryz.ntmps75
  obtain ⟨i0, hi, hz0, hz1, hz2⟩ := spk_i
  have hnw := Lib.hid (news_at HT.out.row)
  have TA := Lib.hid HT.out.swap
  go_wp2_with (at_builtin; refine wpList_append_vec rfl _ _ 164 rfl 184 i0 _ 4 32 Tryz.underlying164 hi hz0 hz1 hz2 rfl (by omega) _ _ _ rfl TA.out _ 1 1 (SKV s).toList rfl rfl hnw.out (spk_one s) ?c3 ?c4 ?_)
  case c3 => unfold maxLen; omega
  case c4 => omega
  intro v9 w9 T9
  clear TA hnw HT
  have HT := Lib.hid T9; clear T9
  go_wp2
  go_ret
  refine ⟨_, rfl, ?_⟩
  rw [vl_snoc]
  exact HT.out.swap.drop
end
end Go.Proofs.YtomlilkobhkoiaaGreatDoor
