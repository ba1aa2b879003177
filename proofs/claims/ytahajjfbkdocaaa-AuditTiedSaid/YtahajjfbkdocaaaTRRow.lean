/- RRow as a value, as cells: its parts, equality, loads, stores, building. Printed by types.py. -/
import Derived.Test.YtahajjfbkdocaaaStruct
import Derived.Test.YtahajjfbkdocaaaTItem
import Derived.Test.YtahajjfbkdocaaaTInst
namespace Go.Proofs.Ytahajjfbkdocaaa
open Go.RowKit
set_option linter.unusedVariables false
structure RRow where
  rep : Int
  item : Item
  inst : Inst
def RwV (x : RRow) : Array Value := #[.int .i64 x.rep, .int .i64 x.item.rep, .int .i64 x.item.num, .int .i64 x.inst.prom.round, .int .i64 x.inst.prom.rep, .int .i64 x.inst.vote.round, .int .i64 x.inst.vote.rep, .int .i64 x.inst.status, .int .i64 x.inst.call.deed.kind, .string x.inst.call.deed.key, .string x.inst.call.deed.val, .int .i64 x.inst.call.deed.ver, .int .i64 x.inst.call.deed.ses, .int .i64 x.inst.call.deed.num, .int .i64 (x.inst.call.deps 0), .int .i64 (x.inst.call.deps 1), .int .i64 (x.inst.call.deps 2), .int .i64 (x.inst.call.deps 3), .int .i64 (x.inst.call.deps 4), .int .i64 (x.inst.call.deps 5), .int .i64 (x.inst.call.deps 6), .int .i64 x.inst.call.seq, .bool x.inst.same]
def noRRow : RRow := ⟨0, noItem, noInst⟩
section
variable (x y : RRow)
theorem TRRow_size : (RwV x).size = 23 := rfl
theorem TRRow_one : allOne (RwV x) = true := by simp [allOne, RwV, Value.oneCell']
theorem TRRow_piece : piece (RwV x) 0 23 = RwV x := piece_all _ _ rfl
theorem TRRow_c0 : (RwV x)[0]? = some (.int .i64 x.rep) := rfl
theorem TRRow_c1 : (RwV x)[1]? = some (.int .i64 x.item.rep) := rfl
theorem TRRow_c2 : (RwV x)[2]? = some (.int .i64 x.item.num) := rfl
theorem TRRow_c3 : (RwV x)[3]? = some (.int .i64 x.inst.prom.round) := rfl
theorem TRRow_c4 : (RwV x)[4]? = some (.int .i64 x.inst.prom.rep) := rfl
theorem TRRow_c5 : (RwV x)[5]? = some (.int .i64 x.inst.vote.round) := rfl
theorem TRRow_c6 : (RwV x)[6]? = some (.int .i64 x.inst.vote.rep) := rfl
theorem TRRow_c7 : (RwV x)[7]? = some (.int .i64 x.inst.status) := rfl
theorem TRRow_c8 : (RwV x)[8]? = some (.int .i64 x.inst.call.deed.kind) := rfl
theorem TRRow_c9 : (RwV x)[9]? = some (.string x.inst.call.deed.key) := rfl
theorem TRRow_c10 : (RwV x)[10]? = some (.string x.inst.call.deed.val) := rfl
theorem TRRow_c11 : (RwV x)[11]? = some (.int .i64 x.inst.call.deed.ver) := rfl
theorem TRRow_c12 : (RwV x)[12]? = some (.int .i64 x.inst.call.deed.ses) := rfl
theorem TRRow_c13 : (RwV x)[13]? = some (.int .i64 x.inst.call.deed.num) := rfl
theorem TRRow_c14 : (RwV x)[14]? = some (.int .i64 (x.inst.call.deps 0)) := rfl
theorem TRRow_c15 : (RwV x)[15]? = some (.int .i64 (x.inst.call.deps 1)) := rfl
theorem TRRow_c16 : (RwV x)[16]? = some (.int .i64 (x.inst.call.deps 2)) := rfl
theorem TRRow_c17 : (RwV x)[17]? = some (.int .i64 (x.inst.call.deps 3)) := rfl
theorem TRRow_c18 : (RwV x)[18]? = some (.int .i64 (x.inst.call.deps 4)) := rfl
theorem TRRow_c19 : (RwV x)[19]? = some (.int .i64 (x.inst.call.deps 5)) := rfl
theorem TRRow_c20 : (RwV x)[20]? = some (.int .i64 (x.inst.call.deps 6)) := rfl
theorem TRRow_c21 : (RwV x)[21]? = some (.int .i64 x.inst.call.seq) := rfl
theorem TRRow_c22 : (RwV x)[22]? = some (.bool x.inst.same) := rfl
theorem TRRow_set_rep (v : Int) : (RwV x).setIfInBounds 0 (.int .i64 v) = RwV { x with rep := v } := rfl
theorem TRRow_p_item : piece (RwV x) 1 2 = IV x.item := by kernel_rfl
theorem TRRow_put_item (v : Item) : splice (RwV x) 1 (IV v) = RwV { x with item := v } := by kernel_rfl
theorem TRRow_p_inst : piece (RwV x) 3 20 = NV x.inst := by kernel_rfl
theorem TRRow_put_inst (v : Inst) : splice (RwV x) 3 (NV v) = RwV { x with inst := v } := by kernel_rfl
theorem TRRow_deps (i : Nat) (h : i < 7) : (RwV x)[14 + i]? = some (.int .i64 (x.inst.call.deps i)) := by
  match i, h with
  | 0, _ => rfl
  | 1, _ => rfl
  | 2, _ => rfl
  | 3, _ => rfl
  | 4, _ => rfl
  | 5, _ => rfl
  | 6, _ => rfl
theorem TRRow_cat : RwV x = #[.int .i64 x.rep] ++ IV x.item ++ NV x.inst := by kernel_rfl
theorem TRRow_ext : RwV x = RwV y ↔ x.rep = y.rep ∧ IV x.item = IV y.item ∧ NV x.inst = NV y.inst := by
  constructor
  · intro h
    refine ⟨?_, ?_, ?_⟩
    · have := congrArg (·[0]?) h; simpa [TRRow_c0, TRRow_size] using this
    · have := congrArg (fun c => piece c 1 2) h; simpa only [TRRow_p_item] using this
    · have := congrArg (fun c => piece c 3 20) h; simpa only [TRRow_p_inst] using this
  · rintro ⟨h0, h1, h2⟩
    rw [TRRow_cat x, TRRow_cat y, h0, h1, h2]
end
theorem TRRow_und : Try.prog.underlying 42 = some (.struct (Try.prog.fieldsOf 42)) := by kernel_rfl
theorem TRRow_eq (d : Nat) (x y : RRow) (w : World) : (Op.equalIn (d + 5) 42 (.agg (RwV x)) (.agg (RwV y))).run Try.prog w = .ok (eqA (RwV x) (RwV y)) w := by
  refine eq_struct (d := d + 4) (L := [(3, 0, x.rep == y.rep), (28, 1, eqA (IV x.item) (IV y.item)), (38, 3, eqA (NV x.inst) (NV y.inst))]) TRRow_und (by kernel_rfl) (by kernel_rfl) ?_ ?_ w
  · simp only [List.forall_mem_cons]
    exact ⟨⟨_, _, part_cell Try.underlying3 rfl (by kernel_rfl) (TRRow_c0 x), part_cell Try.underlying3 rfl (by kernel_rfl) (TRRow_c0 y), fun w => run_equalIn_int w (d + 3) _ _ _ _ _ Try.underlying3⟩, ⟨_, _, fun w => by rw [part_row TItem_und rfl (by kernel_rfl) (n := 2), TRRow_p_item], fun w => by rw [part_row TItem_und rfl (by kernel_rfl) (n := 2), TRRow_p_item], fun w => TItem_eq (d + 2) x.item y.item w⟩, ⟨_, _, fun w => by rw [part_row TInst_und rfl (by kernel_rfl) (n := 20), TRRow_p_inst], fun w => by rw [part_row TInst_und rfl (by kernel_rfl) (n := 20), TRRow_p_inst], fun w => TInst_eq (d + 0) x.inst y.inst w⟩, by simp⟩
  · refine eqA_of ?_
    rw [TRRow_ext]
    simp [eqA_iff]
theorem TRRow_eql (x y : RRow) (w : World) : (binOp .eql 42 (.agg (RwV x)) (.agg (RwV y))).run Try.prog w = .ok (.bool (eqA (RwV x) (RwV y))) w := eql_of (TRRow_eq 9995 x y) w
theorem TRRow_neq (x y : RRow) (w : World) : (binOp .neq 42 (.agg (RwV x)) (.agg (RwV y))).run Try.prog w = .ok (.bool (!eqA (RwV x) (RwV y))) w := neq_of (TRRow_eq 9995 x y) w
theorem TRRow_ld0 (v : Value) : Instr.loadAt 42 v = loadSem 42 v := rfl
theorem TRRow_st0 (v u : Value) : Instr.storeAt 42 v u = storeSem 42 v u := rfl
theorem TRRow_fd0 (x : Value) (i : Nat) : Instr.field 42 x i = fieldSem 42 x i := rfl
theorem TRRow_bd0 (p : Array (Nat × Value)) : Instr.build 42 p = buildS 42 p := rfl
theorem TRRow_ld (w : World) (v : Value) : (loadSem 42 v).run Try.prog w = loadVal Try.prog 42 23 w v := load_val TRRow_und rfl (by kernel_rfl) w v
theorem TRRow_st (w : World) (v u : Value) : (storeSem 42 v u).run Try.prog w = storeVal Try.prog 42 23 w v u := store_val (by kernel_rfl) w v u
theorem TRRow_f_rep (x : RRow) (w : World) : (fieldSem 42 (.agg (RwV x)) 0).run Try.prog w = .ok (.int .i64 x.rep) w := field_of TRRow_und (by kernel_rfl) (part_cell Try.underlying3 rfl (by kernel_rfl) (TRRow_c0 x)) w
theorem TRRow_f_item (x : RRow) (w : World) : (fieldSem 42 (.agg (RwV x)) 1).run Try.prog w = .ok (.agg (IV x.item)) w := field_of TRRow_und (by kernel_rfl) (fun w => by rw [part_row TItem_und rfl (by kernel_rfl) (n := 2), TRRow_p_item]) w
theorem TRRow_f_inst (x : RRow) (w : World) : (fieldSem 42 (.agg (RwV x)) 2).run Try.prog w = .ok (.agg (NV x.inst)) w := field_of TRRow_und (by kernel_rfl) (fun w => by rw [part_row TInst_und rfl (by kernel_rfl) (n := 20), TRRow_p_inst]) w
def TRRow_pl : Nat → Option (Nat × Nat) := fun i => (#[(0, 1), (1, 2), (3, 20)] : Array (Nat × Nat))[i]?
theorem TRRow_bd (w : World) (p : Array (Nat × Value)) : (buildS 42 p).run Try.prog w = buildOf Try.prog 42 TRRow_pl (RwV noRRow) p w := build_struct TRRow_und (by kernel_rfl) (fun w => by kernel_rfl) w p
theorem TRRow_fl (X : Array Value) : fillS TRRow_pl X [] = some X := rfl
theorem TRRow_fl_rep (x : RRow) (v : Int) (r : List (Nat × Value)) : fillS TRRow_pl (RwV x) ((0, .int .i64 v) :: r) = fillS TRRow_pl (RwV { x with rep := v }) r := rfl
theorem TRRow_fl_item (x : RRow) (v : Item) (r : List (Nat × Value)) : fillS TRRow_pl (RwV x) ((1, .agg (IV v)) :: r) = fillS TRRow_pl (RwV { x with item := v }) r := by
  show Instr.fill _ _ _ = Instr.fill _ _ _
  rw [fill_cons TRRow_pl (RwV x) (IV v) 1 1 2 r rfl rfl (by show _ ≤ 23; omega), TRRow_put_item]
theorem TRRow_fl_inst (x : RRow) (v : Inst) (r : List (Nat × Value)) : fillS TRRow_pl (RwV x) ((2, .agg (NV v)) :: r) = fillS TRRow_pl (RwV { x with inst := v }) r := by
  show Instr.fill _ _ _ = Instr.fill _ _ _
  rw [fill_cons TRRow_pl (RwV x) (NV v) 2 3 20 r rfl rfl (by show _ ≤ 23; omega), TRRow_put_inst]
theorem TRRow_ret {fn : Func} {R : Ending → World → Prop} {a : Act} {w : World} {p : Tmp} (x : RRow) {g : Nat} (hr : fn.results = #[.cell p 42]) (hp : a.tmps.getD p undef = .pointer (some ⟨g, 0, none⟩)) (hdf : a.defers = []) (hrow : row? w g = some (RwV x)) (hR : R (.returned (.agg (RwV x))) w) : bodyPost Try.prog fn R .ret a w :=
  ret_row (RwV x) TRRow_und rfl (by kernel_rfl) hr hp hdf (TRRow_size x) hrow hR
end Go.Proofs.Ytahajjfbkdocaaa
