/- Ballot as a value, as cells: its parts, equality, loads, stores, building. Printed by types.py. -/
import Derived.Test.YtahajjfbkdocaaaStruct
namespace Go.Proofs.Ytahajjfbkdocaaa
open Go.RowKit
set_option linter.unusedVariables false
structure Ballot where
  round : Int
  rep : Int
def BV (x : Ballot) : Array Value := #[.int .i64 x.round, .int .i64 x.rep]
def noBallot : Ballot := ⟨0, 0⟩
section
variable (x y : Ballot)
theorem TBallot_size : (BV x).size = 2 := rfl
theorem TBallot_one : allOne (BV x) = true := by simp [allOne, BV, Value.oneCell']
theorem TBallot_piece : piece (BV x) 0 2 = BV x := piece_all _ _ rfl
theorem TBallot_c0 : (BV x)[0]? = some (.int .i64 x.round) := rfl
theorem TBallot_c1 : (BV x)[1]? = some (.int .i64 x.rep) := rfl
theorem TBallot_set_round (v : Int) : (BV x).setIfInBounds 0 (.int .i64 v) = BV { x with round := v } := rfl
theorem TBallot_set_rep (v : Int) : (BV x).setIfInBounds 1 (.int .i64 v) = BV { x with rep := v } := rfl
theorem TBallot_cat : BV x = #[.int .i64 x.round] ++ #[.int .i64 x.rep] := by kernel_rfl
theorem TBallot_ext : BV x = BV y ↔ x.round = y.round ∧ x.rep = y.rep := by
  constructor
  · intro h
    refine ⟨?_, ?_⟩
    · have := congrArg (·[0]?) h; simpa [TBallot_c0, TBallot_size] using this
    · have := congrArg (·[1]?) h; simpa [TBallot_c1, TBallot_size] using this
  · rintro ⟨h0, h1⟩
    rw [TBallot_cat x, TBallot_cat y, h0, h1]
end
theorem TBallot_und : Try.prog.underlying 30 = some (.struct (Try.prog.fieldsOf 30)) := by kernel_rfl
theorem TBallot_eq (d : Nat) (x y : Ballot) (w : World) : (Op.equalIn (d + 2) 30 (.agg (BV x)) (.agg (BV y))).run Try.prog w = .ok (eqA (BV x) (BV y)) w := by
  refine eq_struct (d := d + 1) (L := [(3, 0, x.round == y.round), (3, 1, x.rep == y.rep)]) TBallot_und (by kernel_rfl) (by kernel_rfl) ?_ ?_ w
  · simp only [List.forall_mem_cons]
    exact ⟨⟨_, _, part_cell Try.underlying3 rfl (by kernel_rfl) (TBallot_c0 x), part_cell Try.underlying3 rfl (by kernel_rfl) (TBallot_c0 y), fun w => run_equalIn_int w (d + 0) _ _ _ _ _ Try.underlying3⟩, ⟨_, _, part_cell Try.underlying3 rfl (by kernel_rfl) (TBallot_c1 x), part_cell Try.underlying3 rfl (by kernel_rfl) (TBallot_c1 y), fun w => run_equalIn_int w (d + 0) _ _ _ _ _ Try.underlying3⟩, by simp⟩
  · refine eqA_of ?_
    rw [TBallot_ext]
    simp
theorem TBallot_eql (x y : Ballot) (w : World) : (binOp .eql 30 (.agg (BV x)) (.agg (BV y))).run Try.prog w = .ok (.bool (eqA (BV x) (BV y))) w := eql_of (TBallot_eq 9998 x y) w
theorem TBallot_neq (x y : Ballot) (w : World) : (binOp .neq 30 (.agg (BV x)) (.agg (BV y))).run Try.prog w = .ok (.bool (!eqA (BV x) (BV y))) w := neq_of (TBallot_eq 9998 x y) w
theorem TBallot_ld0 (v : Value) : Instr.loadAt 30 v = loadSem 30 v := rfl
theorem TBallot_st0 (v u : Value) : Instr.storeAt 30 v u = storeSem 30 v u := rfl
theorem TBallot_fd0 (x : Value) (i : Nat) : Instr.field 30 x i = fieldSem 30 x i := rfl
theorem TBallot_bd0 (p : Array (Nat × Value)) : Instr.build 30 p = buildS 30 p := rfl
theorem TBallot_ld (w : World) (v : Value) : (loadSem 30 v).run Try.prog w = loadVal Try.prog 30 2 w v := load_val TBallot_und rfl (by kernel_rfl) w v
theorem TBallot_st (w : World) (v u : Value) : (storeSem 30 v u).run Try.prog w = storeVal Try.prog 30 2 w v u := store_val (by kernel_rfl) w v u
theorem TBallot_f_round (x : Ballot) (w : World) : (fieldSem 30 (.agg (BV x)) 0).run Try.prog w = .ok (.int .i64 x.round) w := field_of TBallot_und (by kernel_rfl) (part_cell Try.underlying3 rfl (by kernel_rfl) (TBallot_c0 x)) w
theorem TBallot_f_rep (x : Ballot) (w : World) : (fieldSem 30 (.agg (BV x)) 1).run Try.prog w = .ok (.int .i64 x.rep) w := field_of TBallot_und (by kernel_rfl) (part_cell Try.underlying3 rfl (by kernel_rfl) (TBallot_c1 x)) w
def TBallot_pl : Nat → Option (Nat × Nat) := fun i => (#[(0, 1), (1, 1)] : Array (Nat × Nat))[i]?
theorem TBallot_bd (w : World) (p : Array (Nat × Value)) : (buildS 30 p).run Try.prog w = buildOf Try.prog 30 TBallot_pl (BV noBallot) p w := build_struct TBallot_und (by kernel_rfl) (fun w => by kernel_rfl) w p
theorem TBallot_fl (X : Array Value) : fillS TBallot_pl X [] = some X := rfl
theorem TBallot_fl_round (x : Ballot) (v : Int) (r : List (Nat × Value)) : fillS TBallot_pl (BV x) ((0, .int .i64 v) :: r) = fillS TBallot_pl (BV { x with round := v }) r := rfl
theorem TBallot_fl_rep (x : Ballot) (v : Int) (r : List (Nat × Value)) : fillS TBallot_pl (BV x) ((1, .int .i64 v) :: r) = fillS TBallot_pl (BV { x with rep := v }) r := rfl
theorem TBallot_ret {fn : Func} {R : Ending → World → Prop} {a : Act} {w : World} {p : Tmp} (x : Ballot) {g : Nat} (hr : fn.results = #[.cell p 30]) (hp : a.tmps.getD p undef = .pointer (some ⟨g, 0, none⟩)) (hdf : a.defers = []) (hrow : row? w g = some (BV x)) (hR : R (.returned (.agg (BV x))) w) : bodyPost Try.prog fn R .ret a w :=
  ret_row (BV x) TBallot_und rfl (by kernel_rfl) hr hp hdf (TBallot_size x) hrow hR
end Go.Proofs.Ytahajjfbkdocaaa
