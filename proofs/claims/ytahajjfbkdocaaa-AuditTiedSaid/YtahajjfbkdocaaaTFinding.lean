/- Finding as a value, as cells: its parts, equality, loads, stores, building. Printed by types.py. -/
import Derived.Test.YtahajjfbkdocaaaStruct
import Derived.Test.YtahajjfbkdocaaaTItem
namespace Go.Proofs.Ytahajjfbkdocaaa
open Go.RowKit
set_option linter.unusedVariables false
structure Finding where
  kind : Int
  rep : Int
  item : Item
def FV (x : Finding) : Array Value := #[.int .i64 x.kind, .int .i64 x.rep, .int .i64 x.item.rep, .int .i64 x.item.num]
def noFinding : Finding := ⟨0, 0, noItem⟩
section
variable (x y : Finding)
theorem TFinding_size : (FV x).size = 4 := rfl
theorem TFinding_one : allOne (FV x) = true := by simp [allOne, FV, Value.oneCell']
theorem TFinding_piece : piece (FV x) 0 4 = FV x := piece_all _ _ rfl
theorem TFinding_c0 : (FV x)[0]? = some (.int .i64 x.kind) := rfl
theorem TFinding_c1 : (FV x)[1]? = some (.int .i64 x.rep) := rfl
theorem TFinding_c2 : (FV x)[2]? = some (.int .i64 x.item.rep) := rfl
theorem TFinding_c3 : (FV x)[3]? = some (.int .i64 x.item.num) := rfl
theorem TFinding_set_kind (v : Int) : (FV x).setIfInBounds 0 (.int .i64 v) = FV { x with kind := v } := rfl
theorem TFinding_set_rep (v : Int) : (FV x).setIfInBounds 1 (.int .i64 v) = FV { x with rep := v } := rfl
theorem TFinding_p_item : piece (FV x) 2 2 = IV x.item := by kernel_rfl
theorem TFinding_put_item (v : Item) : splice (FV x) 2 (IV v) = FV { x with item := v } := by kernel_rfl
theorem TFinding_cat : FV x = #[.int .i64 x.kind] ++ #[.int .i64 x.rep] ++ IV x.item := by kernel_rfl
theorem TFinding_ext : FV x = FV y ↔ x.kind = y.kind ∧ x.rep = y.rep ∧ IV x.item = IV y.item := by
  constructor
  · intro h
    refine ⟨?_, ?_, ?_⟩
    · have := congrArg (·[0]?) h; simpa [TFinding_c0, TFinding_size] using this
    · have := congrArg (·[1]?) h; simpa [TFinding_c1, TFinding_size] using this
    · have := congrArg (fun c => piece c 2 2) h; simpa only [TFinding_p_item] using this
  · rintro ⟨h0, h1, h2⟩
    rw [TFinding_cat x, TFinding_cat y, h0, h1, h2]
end
theorem TFinding_und : Try.prog.underlying 49 = some (.struct (Try.prog.fieldsOf 49)) := by kernel_rfl
theorem TFinding_eq (d : Nat) (x y : Finding) (w : World) : (Op.equalIn (d + 3) 49 (.agg (FV x)) (.agg (FV y))).run Try.prog w = .ok (eqA (FV x) (FV y)) w := by
  refine eq_struct (d := d + 2) (L := [(47, 0, x.kind == y.kind), (3, 1, x.rep == y.rep), (28, 2, eqA (IV x.item) (IV y.item))]) TFinding_und (by kernel_rfl) (by kernel_rfl) ?_ ?_ w
  · simp only [List.forall_mem_cons]
    exact ⟨⟨_, _, part_cell Try.underlying47 rfl (by kernel_rfl) (TFinding_c0 x), part_cell Try.underlying47 rfl (by kernel_rfl) (TFinding_c0 y), fun w => run_equalIn_int w (d + 1) _ _ _ _ _ Try.underlying47⟩, ⟨_, _, part_cell Try.underlying3 rfl (by kernel_rfl) (TFinding_c1 x), part_cell Try.underlying3 rfl (by kernel_rfl) (TFinding_c1 y), fun w => run_equalIn_int w (d + 1) _ _ _ _ _ Try.underlying3⟩, ⟨_, _, fun w => by rw [part_row TItem_und rfl (by kernel_rfl) (n := 2), TFinding_p_item], fun w => by rw [part_row TItem_und rfl (by kernel_rfl) (n := 2), TFinding_p_item], fun w => TItem_eq (d + 0) x.item y.item w⟩, by simp⟩
  · refine eqA_of ?_
    rw [TFinding_ext]
    simp [eqA_iff]
theorem TFinding_eql (x y : Finding) (w : World) : (binOp .eql 49 (.agg (FV x)) (.agg (FV y))).run Try.prog w = .ok (.bool (eqA (FV x) (FV y))) w := eql_of (TFinding_eq 9997 x y) w
theorem TFinding_neq (x y : Finding) (w : World) : (binOp .neq 49 (.agg (FV x)) (.agg (FV y))).run Try.prog w = .ok (.bool (!eqA (FV x) (FV y))) w := neq_of (TFinding_eq 9997 x y) w
theorem TFinding_ld0 (v : Value) : Instr.loadAt 49 v = loadSem 49 v := rfl
theorem TFinding_st0 (v u : Value) : Instr.storeAt 49 v u = storeSem 49 v u := rfl
theorem TFinding_fd0 (x : Value) (i : Nat) : Instr.field 49 x i = fieldSem 49 x i := rfl
theorem TFinding_bd0 (p : Array (Nat × Value)) : Instr.build 49 p = buildS 49 p := rfl
theorem TFinding_ld (w : World) (v : Value) : (loadSem 49 v).run Try.prog w = loadVal Try.prog 49 4 w v := load_val TFinding_und rfl (by kernel_rfl) w v
theorem TFinding_st (w : World) (v u : Value) : (storeSem 49 v u).run Try.prog w = storeVal Try.prog 49 4 w v u := store_val (by kernel_rfl) w v u
theorem TFinding_f_kind (x : Finding) (w : World) : (fieldSem 49 (.agg (FV x)) 0).run Try.prog w = .ok (.int .i64 x.kind) w := field_of TFinding_und (by kernel_rfl) (part_cell Try.underlying47 rfl (by kernel_rfl) (TFinding_c0 x)) w
theorem TFinding_f_rep (x : Finding) (w : World) : (fieldSem 49 (.agg (FV x)) 1).run Try.prog w = .ok (.int .i64 x.rep) w := field_of TFinding_und (by kernel_rfl) (part_cell Try.underlying3 rfl (by kernel_rfl) (TFinding_c1 x)) w
theorem TFinding_f_item (x : Finding) (w : World) : (fieldSem 49 (.agg (FV x)) 2).run Try.prog w = .ok (.agg (IV x.item)) w := field_of TFinding_und (by kernel_rfl) (fun w => by rw [part_row TItem_und rfl (by kernel_rfl) (n := 2), TFinding_p_item]) w
def TFinding_pl : Nat → Option (Nat × Nat) := fun i => (#[(0, 1), (1, 1), (2, 2)] : Array (Nat × Nat))[i]?
theorem TFinding_bd (w : World) (p : Array (Nat × Value)) : (buildS 49 p).run Try.prog w = buildOf Try.prog 49 TFinding_pl (FV noFinding) p w := build_struct TFinding_und (by kernel_rfl) (fun w => by kernel_rfl) w p
theorem TFinding_fl (X : Array Value) : fillS TFinding_pl X [] = some X := rfl
theorem TFinding_fl_kind (x : Finding) (v : Int) (r : List (Nat × Value)) : fillS TFinding_pl (FV x) ((0, .int .i64 v) :: r) = fillS TFinding_pl (FV { x with kind := v }) r := rfl
theorem TFinding_fl_rep (x : Finding) (v : Int) (r : List (Nat × Value)) : fillS TFinding_pl (FV x) ((1, .int .i64 v) :: r) = fillS TFinding_pl (FV { x with rep := v }) r := rfl
theorem TFinding_fl_item (x : Finding) (v : Item) (r : List (Nat × Value)) : fillS TFinding_pl (FV x) ((2, .agg (IV v)) :: r) = fillS TFinding_pl (FV { x with item := v }) r := by
  show Instr.fill _ _ _ = Instr.fill _ _ _
  rw [fill_cons TFinding_pl (FV x) (IV v) 2 2 2 r rfl rfl (by show _ ≤ 4; omega), TFinding_put_item]
theorem TFinding_ret {fn : Func} {R : Ending → World → Prop} {a : Act} {w : World} {p : Tmp} (x : Finding) {g : Nat} (hr : fn.results = #[.cell p 49]) (hp : a.tmps.getD p undef = .pointer (some ⟨g, 0, none⟩)) (hdf : a.defers = []) (hrow : row? w g = some (FV x)) (hR : R (.returned (.agg (FV x))) w) : bodyPost Try.prog fn R .ret a w :=
  ret_row (FV x) TFinding_und rfl (by kernel_rfl) hr hp hdf (TFinding_size x) hrow hR
end Go.Proofs.Ytahajjfbkdocaaa
