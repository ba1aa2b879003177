/- Several texts in one. -/
import Derived.Test.YtpganpiidgkofaaX5
import Derived.Test.YtpganpiidgkofaaX10
import Derived.Test.YtpganpiidgkofaaX33
import Derived.Test.YtpganpiidgkofaaX4
import Derived.Deep.RegionLaw
import Derived.Test.YtpganpiidgkofaaX3
/- Layer 24: the report as a thing; one finding more. -/
namespace Go.Proofs.Ytpganpiidgkofaa
open Go.RowKit
set_option linter.unusedVariables false
attribute [local go_sem] row_alloc row_drew row_drewN row_ext row_setCell row_setRow size_ext setRow_alloc setRow_drew loadOf storeOf piece_lit loadVal_at storeVal_at allOne_lit buildOf buildRes_some
attribute [local go_sem high] cell_alloc frozen_alloc setCell_alloc cell_ext frozen_ext cell_setRow frozen_setRow
attribute [local go_sem ↓] TDeed_ld0 TDeed_st0 TDeed_fd0 TDeed_bd0
attribute [local go_sem] TDeed_size TDeed_one TDeed_piece TDeed_c0 TDeed_c1 TDeed_c2 TDeed_c3 TDeed_c4 TDeed_c5 TDeed_set_kind TDeed_set_key TDeed_set_val TDeed_set_ver TDeed_set_ses TDeed_set_num TDeed_ld TDeed_st TDeed_f_kind TDeed_f_key TDeed_f_val TDeed_f_ver TDeed_f_ses TDeed_f_num TDeed_bd TDeed_fl TDeed_fl_kind TDeed_fl_key TDeed_fl_val TDeed_fl_ver TDeed_fl_ses TDeed_fl_num
attribute [local go_sem high] TDeed_eql TDeed_neq
attribute [local go_sem ↓] index_deps0 load_deps0 store_deps0
attribute [local go_sem] DV_piece DV_size DV_one index_deps load_deps store_deps
attribute [local go_sem high] TDeps_eql TDeps_neq
attribute [local go_sem ↓] TCall_ld0 TCall_st0 TCall_fd0 TCall_bd0
attribute [local go_sem] TCall_size TCall_one TCall_piece TCall_c0 TCall_c1 TCall_c2 TCall_c3 TCall_c4 TCall_c5 TCall_c6 TCall_c7 TCall_c8 TCall_c9 TCall_c10 TCall_c11 TCall_c12 TCall_c13 TCall_p_deed TCall_put_deed TCall_p_deps TCall_put_deps TCall_set_seq TCall_ld TCall_st TCall_f_deed TCall_f_deps TCall_f_seq TCall_bd TCall_fl TCall_fl_deed TCall_fl_deps TCall_fl_seq
attribute [local go_sem high] TCall_eql TCall_neq
attribute [local go_sem ↓] TItem_ld0 TItem_st0 TItem_fd0 TItem_bd0
attribute [local go_sem] TItem_size TItem_one TItem_piece TItem_c0 TItem_c1 TItem_set_rep TItem_set_num TItem_ld TItem_st TItem_f_rep TItem_f_num TItem_bd TItem_fl TItem_fl_rep TItem_fl_num
attribute [local go_sem high] TItem_eql TItem_neq
attribute [local go_sem ↓] TFinding_ld0 TFinding_st0 TFinding_fd0 TFinding_bd0
attribute [local go_sem] TFinding_size TFinding_one TFinding_piece TFinding_c0 TFinding_c1 TFinding_c2 TFinding_c3 TFinding_set_kind TFinding_set_rep TFinding_p_item TFinding_put_item TFinding_ld TFinding_st TFinding_f_kind TFinding_f_rep TFinding_f_item TFinding_bd TFinding_fl TFinding_fl_kind TFinding_fl_rep TFinding_fl_item
attribute [local go_sem high] TFinding_eql TFinding_neq
structure Rep where
  n : Int
  list : List Finding
  order : List Item
  calls : Item → Option Call
  cnt : Nat
def cellsR (s : Rep) (v1 v2 : Value) (m : Nat) : Array Value := #[.int .i64 s.n, v1, .map (some m), v2]
section
variable (s : Rep) (v1 v2 v : Value) (m : Nat)
theorem cellsR_0 : (cellsR s v1 v2 m)[0]? = some (.int .i64 s.n) := rfl
theorem cellsR_1 : (cellsR s v1 v2 m)[1]? = some v1 := rfl
theorem cellsR_2 : (cellsR s v1 v2 m)[2]? = some (.map (some m)) := rfl
theorem cellsR_3 : (cellsR s v1 v2 m)[3]? = some v2 := rfl
theorem cellsR_set1 : (cellsR s v1 v2 m).setIfInBounds 1 v = cellsR s v v2 m := rfl
theorem cellsR_set3 : (cellsR s v1 v2 m).setIfInBounds 3 v = cellsR s v1 v m := rfl
end
attribute [local go_sem] cellsR_0 cellsR_1 cellsR_2 cellsR_3
def callsR (s : Rep) (m : Nat) : Res := mapR Try.prog 42 (fun x : Item => Value.agg (IV x)) (fun c : Call => Value.agg (CV c)) InI m s.cnt s.calls
def listR (s : Rep) (v : Value) : Res := vecR 137 4 v s.list.length (vl FV s.list)
def orderR (s : Rep) (v : Value) : Res := vecR 42 2 v s.order.length (vl IV s.order)
/-- The report in block r. -/
def repR (r : Nat) (s : Rep) : Res := exR fun q : Value × Value × Nat => starR (rowR r (cellsR s q.1 q.2.1 q.2.2)) (starR (listR s q.1) (starR (orderR s q.2.1) (callsR s q.2.2)))
section
variable {w W : World} {F : Nat → Prop} {R : List Res} {r : Nat} {s : Rep}
theorem Sts.repOpen (T : Sts w F W (repR r s :: R)) : ∃ v1 v2 m, Sts w F W (rowR r (cellsR s v1 v2 m) :: listR s v1 :: orderR s v2 :: callsR s m :: R) := by
  obtain ⟨⟨v1, v2, m⟩, T⟩ := T.open
  refine ⟨v1, v2, m, ?_⟩
  have T := T.split.swap.split
  have T := (T.swap).split
  exact (T.rot3.perm (.cons _ ((List.Perm.cons _ (.swap ..)).trans (.swap ..))))
theorem Sts.repShut {v1 v2 : Value} {m : Nat} (T : Sts w F W (rowR r (cellsR s v1 v2 m) :: listR s v1 :: orderR s v2 :: callsR s m :: R)) : Sts w F W (repR r s :: R) := by
  have T := T.perm (.cons _ ((List.Perm.swap ..).trans (.cons _ (.swap ..))))
  -- row, order, calls, list
  have T := (T.swap.perm (.cons _ (.swap ..))).join
  have T := T.rot2
  have T := T.swap2
  exact Sts.close (v1, v2, m) (T.perm (.cons _ (.swap ..))).join.swap.join
end
theorem find_info : (Try.prog.info? 137).map (fun i => (i.zero, i.size, i.bytes)) = some (some (.agg #[.int .i64 0, .int .i64 0, .int .i64 0, .int .i64 0]), 4, 32) := by kernel_rfl
theorem find_i : ∃ i, Try.prog.info? 137 = some i ∧ i.zero = some (.agg #[.int .i64 0, .int .i64 0, .int .i64 0, .int .i64 0]) ∧ i.size = 4 ∧ i.bytes = 32 := by
  have h := find_info
  cases hi : Try.prog.info? 137 with
  | none => rw [hi] at h; simp at h
  | some i => rw [hi] at h; simp at h; exact ⟨i, rfl, h.1, h.2.1, h.2.2⟩
theorem find_slice0 (len : Nat) (parts : Array (Nat × Value)) : Instr.buildSlice 133 len parts = buildSem 133 len parts := rfl
theorem find_slice1 (w : World) (x : Finding) : (buildSem 133 1 #[(0, .agg (FV x))]).run Try.prog w = .ok (.slice (some ⟨w.heap.size, 0, none⟩) 1 1) (w.alloc (.cells (FV x) 137)) :=
  build_slice1 Try.underlying133 (z := .agg #[.int .i64 0, .int .i64 0, .int .i64 0, .int .i64 0]) (n := 4) (by kernel_rfl) (by omega) w (TFinding_size x) (by omega)
attribute [local go_sem ↓] find_slice0
attribute [local go_sem] find_slice1
/-- A world that bears a row. -/
def SR (k : Nat) (Y : Array Value) (W : World) : Prop := row? W k = some Y
theorem SR.drew {k : Nat} {Y : Array Value} {W : World} (h : SR k Y W) : SR k Y W.drew := h
theorem SR.alloc {k : Nat} {Y : Array Value} {W : World} (h : SR k Y W) (o : Obj) : SR k Y (W.alloc o) := by
  unfold SR at *; rw [row_alloc_ne W k o (Nat.ne_of_lt (row_lt h))]; exact h
theorem SR.setCell {k r i : Nat} {Y : Array Value} {W : World} (h : SR k Y W) (hne : k ≠ r) (u : Value) : SR k Y (W.setCell ⟨r, i, none⟩ u) := by
  unfold SR at *; rw [row_setCell, if_neg (fun e => hne e.symm)]; exact h
set_option maxHeartbeats 4000000 in
theorem tellD (r : Nat) (s : Rep) (k rep : Int) (x : Item) (hn : s.list.length < 1000000) :
    Does Try.prog 120 #[.pointer (some ⟨r, 0, none⟩), .int .i64 k, .int .i64 rep, .agg (IV x)] [repR r s] (.tuple #[]) [repR r { s with list := s.list ++ [⟨k, rep, x⟩] }] := by
  intro W G hS
  obtain ⟨v1, v2, m, T⟩ := (Sts.start hS).repOpen
  clear hS
  have T := (T.new (IV x) 42).swap
  -- rows: report, item, list, order, calls
  obtain ⟨i0, hi, hz0, hz1, hz2⟩ := find_i
  have hS0 : SR W.heap.size (IV x) (W.alloc (.cells (IV x) 42)) := T.row1
  have hq2 : ∀ W0, SR W.heap.size (IV x) W0 → row? W0 W.heap.size = some (IV x) := fun W0 h => h
  have hcr := row_cell T.row
  have hlr := row_lt T.row
  have hlr0 : r < W.heap.size + 1 := by have := hlr; rw [World.size_alloc] at this; exact this
  have hlr2 : ¬ r = W.heap.size + 1 := by omega
  have hner : W.heap.size ≠ r := fun e => T.ne e.symm
  have hT1 : Sts W G ((W.alloc (.cells (IV x) 42)).alloc (.cells (FV ⟨k, rep, x⟩) 137)).drew [vecR 137 4 v1 s.list.length (vl FV s.list), rowR (W.heap.size + 1) (FV ⟨k, rep, x⟩), rowR r (cellsR s v1 v2 m), rowR W.heap.size (IV x), orderR s v2, callsR s m] := by
    have := (T.new (FV ⟨k, rep, x⟩) 137).rot3.drew
    simp only [World.size_alloc] at this
    exact this
  have hnews : ∀ j u, (FV ⟨k, rep, x⟩).toList[j]? = some u → ((W.alloc (.cells (IV x) 42)).alloc (.cells (FV ⟨k, rep, x⟩) 137)).drew.cell? ((⟨W.heap.size + 1, 0, none⟩ : Addr).add j) = some u := by
    intro j u hu
    have hadd : (⟨W.heap.size + 1, 0, none⟩ : Addr).add j = ⟨W.heap.size + 1, j, none⟩ := by unfold Addr.add; split <;> simp_all
    rw [hadd, row_cell hT1.row1]; simpa using hu
  have h1 : ∀ u ∈ (FV ⟨k, rep, x⟩).toList, u.oneCell' = true := by simp [FV, Value.oneCell']
  have h63 : s.list.length + 1 ≤ maxLen := by unfold maxLen; omega
  have hby : (s.list.length + 1) * 32 ≤ 140737488355328 := by omega
  have HT := Lib.hid hT1; clear hT1 T
  go_enter Try.func120, Try.ntmps120
  go_wp2_with fail
  go_region_law
    ((refine step_append_vec (by rfl) _ _ _ (by rfl) 137 i0 _ 4 32 Try.underlying133 hi hz0 hz1 hz2 rfl (by omega) v1 s.list.length (vl FV s.list) (by rfl) HT.out ⟨W.heap.size + 1, 0, none⟩ 1 1 (FV ⟨k, rep, x⟩).toList (by rfl) (by rfl) hnews h1 (by omega) h63 hby ?_; intro g cap w1 T1; have hc1 := row_cell T1.row2; have hf1 := row_frozen T1.row2; have hl1 := row_lt T1.row2))
  all_goals
    have T2 := (T1.swap.drop.swap).setCell 1 (.slice (some ⟨g, 0, none⟩) (s.list.length + 1) cap)
    rw [cellsR_set1] at T2
    have T3 := T2.rot2.drop
    have HT3 := Lib.hid T3; clear T1 T2 T3
    go_end0
    refine ⟨rfl, Sts.repShut (s := { s with list := s.list ++ [⟨k, rep, x⟩] }) (v1 := .slice (some ⟨g, 0, none⟩) (s.list.length + 1) cap) (v2 := v2) (m := m) ?_⟩
    unfold listR
    simp only [vl_snoc, List.length_append, List.length_cons, List.length_nil]
    exact HT3.out
end Go.Proofs.Ytpganpiidgkofaa
/- Entry as a value, as cells: its parts, equality, loads, stores, building. Printed by types.py. -/
namespace Go.Proofs.Ytpganpiidgkofaa
open Go.RowKit
set_option linter.unusedVariables false
structure Entry where
  item : Item
  inst : Inst
def AV (x : Entry) : Array Value := #[.int .i64 x.item.rep, .int .i64 x.item.num, .int .i64 x.inst.prom.round, .int .i64 x.inst.prom.rep, .int .i64 x.inst.vote.round, .int .i64 x.inst.vote.rep, .int .i64 x.inst.status, .int .i64 x.inst.call.deed.kind, .string x.inst.call.deed.key, .string x.inst.call.deed.val, .int .i64 x.inst.call.deed.ver, .int .i64 x.inst.call.deed.ses, .int .i64 x.inst.call.deed.num, .int .i64 (x.inst.call.deps 0), .int .i64 (x.inst.call.deps 1), .int .i64 (x.inst.call.deps 2), .int .i64 (x.inst.call.deps 3), .int .i64 (x.inst.call.deps 4), .int .i64 (x.inst.call.deps 5), .int .i64 (x.inst.call.deps 6), .int .i64 x.inst.call.seq, .bool x.inst.same]
def noEntry : Entry := ⟨noItem, noInst⟩
section
variable (x y : Entry)
theorem TEntry_size : (AV x).size = 22 := rfl
theorem TEntry_one : allOne (AV x) = true := by simp [allOne, AV, Value.oneCell']
theorem TEntry_piece : piece (AV x) 0 22 = AV x := piece_all _ _ rfl
theorem TEntry_c0 : (AV x)[0]? = some (.int .i64 x.item.rep) := rfl
theorem TEntry_c1 : (AV x)[1]? = some (.int .i64 x.item.num) := rfl
theorem TEntry_c2 : (AV x)[2]? = some (.int .i64 x.inst.prom.round) := rfl
theorem TEntry_c3 : (AV x)[3]? = some (.int .i64 x.inst.prom.rep) := rfl
theorem TEntry_c4 : (AV x)[4]? = some (.int .i64 x.inst.vote.round) := rfl
theorem TEntry_c5 : (AV x)[5]? = some (.int .i64 x.inst.vote.rep) := rfl
theorem TEntry_c6 : (AV x)[6]? = some (.int .i64 x.inst.status) := rfl
theorem TEntry_c7 : (AV x)[7]? = some (.int .i64 x.inst.call.deed.kind) := rfl
theorem TEntry_c8 : (AV x)[8]? = some (.string x.inst.call.deed.key) := rfl
theorem TEntry_c9 : (AV x)[9]? = some (.string x.inst.call.deed.val) := rfl
theorem TEntry_c10 : (AV x)[10]? = some (.int .i64 x.inst.call.deed.ver) := rfl
theorem TEntry_c11 : (AV x)[11]? = some (.int .i64 x.inst.call.deed.ses) := rfl
theorem TEntry_c12 : (AV x)[12]? = some (.int .i64 x.inst.call.deed.num) := rfl
theorem TEntry_c13 : (AV x)[13]? = some (.int .i64 (x.inst.call.deps 0)) := rfl
theorem TEntry_c14 : (AV x)[14]? = some (.int .i64 (x.inst.call.deps 1)) := rfl
theorem TEntry_c15 : (AV x)[15]? = some (.int .i64 (x.inst.call.deps 2)) := rfl
theorem TEntry_c16 : (AV x)[16]? = some (.int .i64 (x.inst.call.deps 3)) := rfl
theorem TEntry_c17 : (AV x)[17]? = some (.int .i64 (x.inst.call.deps 4)) := rfl
theorem TEntry_c18 : (AV x)[18]? = some (.int .i64 (x.inst.call.deps 5)) := rfl
theorem TEntry_c19 : (AV x)[19]? = some (.int .i64 (x.inst.call.deps 6)) := rfl
theorem TEntry_c20 : (AV x)[20]? = some (.int .i64 x.inst.call.seq) := rfl
theorem TEntry_c21 : (AV x)[21]? = some (.bool x.inst.same) := rfl
theorem TEntry_p_item : piece (AV x) 0 2 = IV x.item := by kernel_rfl
theorem TEntry_put_item (v : Item) : splice (AV x) 0 (IV v) = AV { x with item := v } := by kernel_rfl
theorem TEntry_p_inst : piece (AV x) 2 20 = NV x.inst := by kernel_rfl
theorem TEntry_put_inst (v : Inst) : splice (AV x) 2 (NV v) = AV { x with inst := v } := by kernel_rfl
theorem TEntry_deps (i : Nat) (h : i < 7) : (AV x)[13 + i]? = some (.int .i64 (x.inst.call.deps i)) := by
  match i, h with
  | 0, _ => rfl
  | 1, _ => rfl
  | 2, _ => rfl
  | 3, _ => rfl
  | 4, _ => rfl
  | 5, _ => rfl
  | 6, _ => rfl
theorem TEntry_cat : AV x = IV x.item ++ NV x.inst := by kernel_rfl
theorem TEntry_ext : AV x = AV y ↔ IV x.item = IV y.item ∧ NV x.inst = NV y.inst := by
  constructor
  · intro h
    refine ⟨?_, ?_⟩
    · have := congrArg (fun c => piece c 0 2) h; simpa only [TEntry_p_item] using this
    · have := congrArg (fun c => piece c 2 20) h; simpa only [TEntry_p_inst] using this
  · rintro ⟨h0, h1⟩
    rw [TEntry_cat x, TEntry_cat y, h0, h1]
end
theorem TEntry_und : Try.prog.underlying 85 = some (.struct (Try.prog.fieldsOf 85)) := by kernel_rfl
theorem TEntry_eq (d : Nat) (x y : Entry) (w : World) : (Op.equalIn (d + 5) 85 (.agg (AV x)) (.agg (AV y))).run Try.prog w = .ok (eqA (AV x) (AV y)) w := by
  refine eq_struct (d := d + 4) (L := [(42, 0, eqA (IV x.item) (IV y.item)), (39, 2, eqA (NV x.inst) (NV y.inst))]) TEntry_und (by kernel_rfl) (by kernel_rfl) ?_ ?_ w
  · simp only [List.forall_mem_cons]
    exact ⟨⟨_, _, fun w => by rw [part_row TItem_und rfl (by kernel_rfl) (n := 2), TEntry_p_item], fun w => by rw [part_row TItem_und rfl (by kernel_rfl) (n := 2), TEntry_p_item], fun w => TItem_eq (d + 2) x.item y.item w⟩, ⟨_, _, fun w => by rw [part_row TInst_und rfl (by kernel_rfl) (n := 20), TEntry_p_inst], fun w => by rw [part_row TInst_und rfl (by kernel_rfl) (n := 20), TEntry_p_inst], fun w => TInst_eq (d + 0) x.inst y.inst w⟩, by simp⟩
  · refine eqA_of ?_
    rw [TEntry_ext]
    simp [eqA_iff]
theorem TEntry_eql (x y : Entry) (w : World) : (binOp .eql 85 (.agg (AV x)) (.agg (AV y))).run Try.prog w = .ok (.bool (eqA (AV x) (AV y))) w := eql_of (TEntry_eq 9995 x y) w
theorem TEntry_neq (x y : Entry) (w : World) : (binOp .neq 85 (.agg (AV x)) (.agg (AV y))).run Try.prog w = .ok (.bool (!eqA (AV x) (AV y))) w := neq_of (TEntry_eq 9995 x y) w
theorem TEntry_ld0 (v : Value) : Instr.loadAt 85 v = loadSem 85 v := rfl
theorem TEntry_st0 (v u : Value) : Instr.storeAt 85 v u = storeSem 85 v u := rfl
theorem TEntry_fd0 (x : Value) (i : Nat) : Instr.field 85 x i = fieldSem 85 x i := rfl
theorem TEntry_bd0 (p : Array (Nat × Value)) : Instr.build 85 p = buildS 85 p := rfl
theorem TEntry_ld (w : World) (v : Value) : (loadSem 85 v).run Try.prog w = loadVal Try.prog 85 22 w v := load_val TEntry_und rfl (by kernel_rfl) w v
theorem TEntry_st (w : World) (v u : Value) : (storeSem 85 v u).run Try.prog w = storeVal Try.prog 85 22 w v u := store_val (by kernel_rfl) w v u
theorem TEntry_f_item (x : Entry) (w : World) : (fieldSem 85 (.agg (AV x)) 0).run Try.prog w = .ok (.agg (IV x.item)) w := field_of TEntry_und (by kernel_rfl) (fun w => by rw [part_row TItem_und rfl (by kernel_rfl) (n := 2), TEntry_p_item]) w
theorem TEntry_f_inst (x : Entry) (w : World) : (fieldSem 85 (.agg (AV x)) 1).run Try.prog w = .ok (.agg (NV x.inst)) w := field_of TEntry_und (by kernel_rfl) (fun w => by rw [part_row TInst_und rfl (by kernel_rfl) (n := 20), TEntry_p_inst]) w
def TEntry_pl : Nat → Option (Nat × Nat) := fun i => (#[(0, 2), (2, 20)] : Array (Nat × Nat))[i]?
theorem TEntry_bd (w : World) (p : Array (Nat × Value)) : (buildS 85 p).run Try.prog w = buildOf Try.prog 85 TEntry_pl (AV noEntry) p w := build_struct TEntry_und (by kernel_rfl) (fun w => by kernel_rfl) w p
theorem TEntry_fl (X : Array Value) : fillS TEntry_pl X [] = some X := rfl
theorem TEntry_fl_item (x : Entry) (v : Item) (r : List (Nat × Value)) : fillS TEntry_pl (AV x) ((0, .agg (IV v)) :: r) = fillS TEntry_pl (AV { x with item := v }) r := by
  show Instr.fill _ _ _ = Instr.fill _ _ _
  rw [fill_cons TEntry_pl (AV x) (IV v) 0 0 2 r rfl rfl (by show _ ≤ 22; omega), TEntry_put_item]
theorem TEntry_fl_inst (x : Entry) (v : Inst) (r : List (Nat × Value)) : fillS TEntry_pl (AV x) ((1, .agg (NV v)) :: r) = fillS TEntry_pl (AV { x with inst := v }) r := by
  show Instr.fill _ _ _ = Instr.fill _ _ _
  rw [fill_cons TEntry_pl (AV x) (NV v) 1 2 20 r rfl rfl (by show _ ≤ 22; omega), TEntry_put_inst]
theorem TEntry_ret {fn : Func} {R : Ending → World → Prop} {a : Act} {w : World} {p : Tmp} (x : Entry) {g : Nat} (hr : fn.results = #[.cell p 85]) (hp : a.tmps.getD p undef = .pointer (some ⟨g, 0, none⟩)) (hdf : a.defers = []) (hrow : row? w g = some (AV x)) (hR : R (.returned (.agg (AV x))) w) : bodyPost Try.prog fn R .ret a w :=
  ret_row (AV x) TEntry_und rfl (by kernel_rfl) hr hp hdf (TEntry_size x) hrow hR
end Go.Proofs.Ytpganpiidgkofaa
