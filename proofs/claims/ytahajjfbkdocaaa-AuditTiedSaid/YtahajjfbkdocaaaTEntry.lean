/- Entry as a value, as cells: its parts, equality, loads, stores, building. Printed by types.py. -/
import Derived.Test.YtahajjfbkdocaaaStruct
import Derived.Test.YtahajjfbkdocaaaTItem
import Derived.Test.YtahajjfbkdocaaaTInst
namespace Go.Proofs.Ytahajjfbkdocaaa
open Go.RowKit
set_option linter.unusedVariables false
structure Entry where
  item : Item
  inst : Inst
def AV (x : Entry) : Array Value := #[.int .i64 x.item.rep, .int .i64 x.item.num, .int .i64 x.inst.prom.round, .int .i64 x.inst.prom.rep, .int .i64 x.inst.vote.round, .int .i64 x.inst.vote.rep, .int .i64 x.inst.status, .int .i64 x.inst.call.deed.kind, .string x.inst.call.deed.key, .string x.inst.call.deed.val, .int .i64 x.inst.call.deed.ver, .int .i64 x.inst.call.deed.ses, .int .i64 x.inst.call.deed.num, .int .i64 (x.inst.call.deps 0), .int .i64 (x.inst.call.deps 1), .int .i64 (x.inst.call.deps 2), .int .i64 (x.inst.call.deps 3), .int .i64 (x.inst.call.deps 4), .int .i64 (x.inst.call.deps 5), .int .i64 (x.inst.call.deps 6), .int .i64 x.inst.call.seq, .bool x.inst.same]
def noEntry : Entry := ⟨noItem, noInst⟩
section
variable (x y : Entry)
theorem TEntry_size : (AV x).size = 22 := rfl
theorem TEntry_one : allOne (AV x) = true := by simp [allOne, AV, Value.oneCell']
theorem TEntry_piece : piece (AV x) 0 22 = AV x := piece_all _ _ rfl
theorem TEntry_c0 : (AV x)[0]? = some (.int .i64 x.item.rep) := rfl
theorem TEntry_c1 : (AV x)[1]? = some (.int .i64 x.item.num) := rfl
theorem TEntry_c2 : (AV x)[2]? = some (.int .i64 x.inst.prom.round) := rfl
theorem TEntry_c3 : (AV x)[3]? = some (.int .i64 x.inst.prom.rep) := rfl
theorem TEntry_c4 : (AV x)[4]? = some (.int .i64 x.inst.vote.round) := rfl
theorem TEntry_c5 : (AV x)[5]? = some (.int .i64 x.inst.vote.rep) := rfl
theorem TEntry_c6 : (AV x)[6]? = some (.int .i64 x.inst.status) := rfl
theorem TEntry_c7 : (AV x)[7]? = some (.int .i64 x.inst.call.deed.kind) := rfl
theorem TEntry_c8 : (AV x)[8]? = some (.string x.inst.call.deed.key) := rfl
theorem TEntry_c9 : (AV x)[9]? = some (.string x.inst.call.deed.val) := rfl
theorem TEntry_c10 : (AV x)[10]? = some (.int .i64 x.inst.call.deed.ver) := rfl
theorem TEntry_c11 : (AV x)[11]? = some (.int .i64 x.inst.call.deed.ses) := rfl
theorem TEntry_c12 : (AV x)[12]? = some (.int .i64 x.inst.call.deed.num) := rfl
theorem TEntry_c13 : (AV x)[13]? = some (.int .i64 (x.inst.call.deps 0)) := rfl
theorem TEntry_c14 : (AV x)[14]? = some (.int .i64 (x.inst.call.deps 1)) := rfl
theorem TEntry_c15 : (AV x)[15]? = some (.int .i64 (x.inst.call.deps 2)) := rfl
theorem TEntry_c16 : (AV x)[16]? = some (.int .i64 (x.inst.call.deps 3)) := rfl
theorem TEntry_c17 : (AV x)[17]? = some (.int .i64 (x.inst.call.deps 4)) := rfl
theorem TEntry_c18 : (AV x)[18]? = some (.int .i64 (x.inst.call.deps 5)) := rfl
theorem TEntry_c19 : (AV x)[19]? = some (.int .i64 (x.inst.call.deps 6)) := rfl
theorem TEntry_c20 : (AV x)[20]? = some (.int .i64 x.inst.call.seq) := rfl
theorem TEntry_c21 : (AV x)[21]? = some (.bool x.inst.same) := rfl
theorem TEntry_p_item : piece (AV x) 0 2 = IV x.item := by kernel_rfl
theorem TEntry_put_item (v : Item) : splice (AV x) 0 (IV v) = AV { x with item := v } := by kernel_rfl
theorem TEntry_p_inst : piece (AV x) 2 20 = NV x.inst := by kernel_rfl
theorem TEntry_put_inst (v : Inst) : splice (AV x) 2 (NV v) = AV { x with inst := v } := by kernel_rfl
theorem TEntry_deps (i : Nat) (h : i < 7) : (AV x)[13 + i]? = some (.int .i64 (x.inst.call.deps i)) := by
  match i, h with
  | 0, _ => rfl
  | 1, _ => rfl
  | 2, _ => rfl
  | 3, _ => rfl
  | 4, _ => rfl
  | 5, _ => rfl
  | 6, _ => rfl
theorem TEntry_cat : AV x = IV x.item ++ NV x.inst := by kernel_rfl
theorem TEntry_ext : AV x = AV y ↔ IV x.item = IV y.item ∧ NV x.inst = NV y.inst := by
  constructor
  · intro h
    refine ⟨?_, ?_⟩
    · have := congrArg (fun c => piece c 0 2) h; simpa only [TEntry_p_item] using this
    · have := congrArg (fun c => piece c 2 20) h; simpa only [TEntry_p_inst] using this
  · rintro ⟨h0, h1⟩
    rw [TEntry_cat x, TEntry_cat y, h0, h1]
end
theorem TEntry_und : Try.prog.underlying 40 = some (.struct (Try.prog.fieldsOf 40)) := by kernel_rfl
theorem TEntry_eq (d : Nat) (x y : Entry) (w : World) : (Op.equalIn (d + 5) 40 (.agg (AV x)) (.agg (AV y))).run Try.prog w = .ok (eqA (AV x) (AV y)) w := by
  refine eq_struct (d := d + 4) (L := [(28, 0, eqA (IV x.item) (IV y.item)), (38, 2, eqA (NV x.inst) (NV y.inst))]) TEntry_und (by kernel_rfl) (by kernel_rfl) ?_ ?_ w
  · simp only [List.forall_mem_cons]
    exact ⟨⟨_, _, fun w => by rw [part_row TItem_und rfl (by kernel_rfl) (n := 2), TEntry_p_item], fun w => by rw [part_row TItem_und rfl (by kernel_rfl) (n := 2), TEntry_p_item], fun w => TItem_eq (d + 2) x.item y.item w⟩, ⟨_, _, fun w => by rw [part_row TInst_und rfl (by kernel_rfl) (n := 20), TEntry_p_inst], fun w => by rw [part_row TInst_und rfl (by kernel_rfl) (n := 20), TEntry_p_inst], fun w => TInst_eq (d + 0) x.inst y.inst w⟩, by simp⟩
  · refine eqA_of ?_
    rw [TEntry_ext]
    simp [eqA_iff]
theorem TEntry_eql (x y : Entry) (w : World) : (binOp .eql 40 (.agg (AV x)) (.agg (AV y))).run Try.prog w = .ok (.bool (eqA (AV x) (AV y))) w := eql_of (TEntry_eq 9995 x y) w
theorem TEntry_neq (x y : Entry) (w : World) : (binOp .neq 40 (.agg (AV x)) (.agg (AV y))).run Try.prog w = .ok (.bool (!eqA (AV x) (AV y))) w := neq_of (TEntry_eq 9995 x y) w
theorem TEntry_ld0 (v : Value) : Instr.loadAt 40 v = loadSem 40 v := rfl
theorem TEntry_st0 (v u : Value) : Instr.storeAt 40 v u = storeSem 40 v u := rfl
theorem TEntry_fd0 (x : Value) (i : Nat) : Instr.field 40 x i = fieldSem 40 x i := rfl
theorem TEntry_bd0 (p : Array (Nat × Value)) : Instr.build 40 p = buildS 40 p := rfl
theorem TEntry_ld (w : World) (v : Value) : (loadSem 40 v).run Try.prog w = loadVal Try.prog 40 22 w v := load_val TEntry_und rfl (by kernel_rfl) w v
theorem TEntry_st (w : World) (v u : Value) : (storeSem 40 v u).run Try.prog w = storeVal Try.prog 40 22 w v u := store_val (by kernel_rfl) w v u
theorem TEntry_f_item (x : Entry) (w : World) : (fieldSem 40 (.agg (AV x)) 0).run Try.prog w = .ok (.agg (IV x.item)) w := field_of TEntry_und (by kernel_rfl) (fun w => by rw [part_row TItem_und rfl (by kernel_rfl) (n := 2), TEntry_p_item]) w
theorem TEntry_f_inst (x : Entry) (w : World) : (fieldSem 40 (.agg (AV x)) 1).run Try.prog w = .ok (.agg (NV x.inst)) w := field_of TEntry_und (by kernel_rfl) (fun w => by rw [part_row TInst_und rfl (by kernel_rfl) (n := 20), TEntry_p_inst]) w
def TEntry_pl : Nat → Option (Nat × Nat) := fun i => (#[(0, 2), (2, 20)] : Array (Nat × Nat))[i]?
theorem TEntry_bd (w : World) (p : Array (Nat × Value)) : (buildS 40 p).run Try.prog w = buildOf Try.prog 40 TEntry_pl (AV noEntry) p w := build_struct TEntry_und (by kernel_rfl) (fun w => by kernel_rfl) w p
theorem TEntry_fl (X : Array Value) : fillS TEntry_pl X [] = some X := rfl
theorem TEntry_fl_item (x : Entry) (v : Item) (r : List (Nat × Value)) : fillS TEntry_pl (AV x) ((0, .agg (IV v)) :: r) = fillS TEntry_pl (AV { x with item := v }) r := by
  show Instr.fill _ _ _ = Instr.fill _ _ _
  rw [fill_cons TEntry_pl (AV x) (IV v) 0 0 2 r rfl rfl (by show _ ≤ 22; omega), TEntry_put_item]
theorem TEntry_fl_inst (x : Entry) (v : Inst) (r : List (Nat × Value)) : fillS TEntry_pl (AV x) ((1, .agg (NV v)) :: r) = fillS TEntry_pl (AV { x with inst := v }) r := by
  show Instr.fill _ _ _ = Instr.fill _ _ _
  rw [fill_cons TEntry_pl (AV x) (NV v) 1 2 20 r rfl rfl (by show _ ≤ 22; omega), TEntry_put_inst]
theorem TEntry_ret {fn : Func} {R : Ending → World → Prop} {a : Act} {w : World} {p : Tmp} (x : Entry) {g : Nat} (hr : fn.results = #[.cell p 40]) (hp : a.tmps.getD p undef = .pointer (some ⟨g, 0, none⟩)) (hdf : a.defers = []) (hrow : row? w g = some (AV x)) (hR : R (.returned (.agg (AV x))) w) : bodyPost Try.prog fn R .ret a w :=
  ret_row (AV x) TEntry_und rfl (by kernel_rfl) hr hp hdf (TEntry_size x) hrow hR
end Go.Proofs.Ytahajjfbkdocaaa
