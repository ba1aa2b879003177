/- Several texts in one. -/
import Derived.Test.YtahajjfbkdocaaaZ5
import Derived.Test.YtahajjfbkdocaaaZ9
import Derived.Test.YtahajjfbkdocaaaZ7
import Derived.Deep.RegionLaw
import Derived.ChangeKeysEq
/- Finding as a value, as cells: its parts, equality, loads, stores, building. Printed by types.py. -/
namespace Go.Proofs.Ytahajjfbkdocaaa
open Go.RowKit
set_option linter.unusedVariables false
structure Finding where
  kind : Int
  rep : Int
  item : Item
def FV (x : Finding) : Array Value := #[.int .i64 x.kind, .int .i64 x.rep, .int .i64 x.item.rep, .int .i64 x.item.num]
def noFinding : Finding := ⟨0, 0, noItem⟩
section
variable (x y : Finding)
theorem TFinding_size : (FV x).size = 4 := rfl
theorem TFinding_one : allOne (FV x) = true := by simp [allOne, FV, Value.oneCell']
theorem TFinding_piece : piece (FV x) 0 4 = FV x := piece_all _ _ rfl
theorem TFinding_c0 : (FV x)[0]? = some (.int .i64 x.kind) := rfl
theorem TFinding_c1 : (FV x)[1]? = some (.int .i64 x.rep) := rfl
theorem TFinding_c2 : (FV x)[2]? = some (.int .i64 x.item.rep) := rfl
theorem TFinding_c3 : (FV x)[3]? = some (.int .i64 x.item.num) := rfl
theorem TFinding_set_kind (v : Int) : (FV x).setIfInBounds 0 (.int .i64 v) = FV { x with kind := v } := rfl
theorem TFinding_set_rep (v : Int) : (FV x).setIfInBounds 1 (.int .i64 v) = FV { x with rep := v } := rfl
theorem TFinding_p_item : piece (FV x) 2 2 = IV x.item := by kernel_rfl
theorem TFinding_put_item (v : Item) : splice (FV x) 2 (IV v) = FV { x with item := v } := by kernel_rfl
theorem TFinding_cat : FV x = #[.int .i64 x.kind] ++ #[.int .i64 x.rep] ++ IV x.item := by kernel_rfl
theorem TFinding_ext : FV x = FV y ↔ x.kind = y.kind ∧ x.rep = y.rep ∧ IV x.item = IV y.item := by
  constructor
  · intro h
    refine ⟨?_, ?_, ?_⟩
    · have := congrArg (·[0]?) h; simpa [TFinding_c0, TFinding_size] using this
    · have := congrArg (·[1]?) h; simpa [TFinding_c1, TFinding_size] using this
    · have := congrArg (fun c => piece c 2 2) h; simpa only [TFinding_p_item] using this
  · rintro ⟨h0, h1, h2⟩
    rw [TFinding_cat x, TFinding_cat y, h0, h1, h2]
end
theorem TFinding_und : Try.prog.underlying 49 = some (.struct (Try.prog.fieldsOf 49)) := by kernel_rfl
theorem TFinding_eq (d : Nat) (x y : Finding) (w : World) : (Op.equalIn (d + 3) 49 (.agg (FV x)) (.agg (FV y))).run Try.prog w = .ok (eqA (FV x) (FV y)) w := by
  refine eq_struct (d := d + 2) (L := [(47, 0, x.kind == y.kind), (3, 1, x.rep == y.rep), (28, 2, eqA (IV x.item) (IV y.item))]) TFinding_und (by kernel_rfl) (by kernel_rfl) ?_ ?_ w
  · simp only [List.forall_mem_cons]
    exact ⟨⟨_, _, part_cell Try.underlying47 rfl (by kernel_rfl) (TFinding_c0 x), part_cell Try.underlying47 rfl (by kernel_rfl) (TFinding_c0 y), fun w => run_equalIn_int w (d + 1) _ _ _ _ _ Try.underlying47⟩, ⟨_, _, part_cell Try.underlying3 rfl (by kernel_rfl) (TFinding_c1 x), part_cell Try.underlying3 rfl (by kernel_rfl) (TFinding_c1 y), fun w => run_equalIn_int w (d + 1) _ _ _ _ _ Try.underlying3⟩, ⟨_, _, fun w => by rw [part_row TItem_und rfl (by kernel_rfl) (n := 2), TFinding_p_item], fun w => by rw [part_row TItem_und rfl (by kernel_rfl) (n := 2), TFinding_p_item], fun w => TItem_eq (d + 0) x.item y.item w⟩, by simp⟩
  · refine eqA_of ?_
    rw [TFinding_ext]
    simp [eqA_iff]
theorem TFinding_eql (x y : Finding) (w : World) : (binOp .eql 49 (.agg (FV x)) (.agg (FV y))).run Try.prog w = .ok (.bool (eqA (FV x) (FV y))) w := eql_of (TFinding_eq 9997 x y) w
theorem TFinding_neq (x y : Finding) (w : World) : (binOp .neq 49 (.agg (FV x)) (.agg (FV y))).run Try.prog w = .ok (.bool (!eqA (FV x) (FV y))) w := neq_of (TFinding_eq 9997 x y) w
theorem TFinding_ld0 (v : Value) : Instr.loadAt 49 v = loadSem 49 v := rfl
theorem TFinding_st0 (v u : Value) : Instr.storeAt 49 v u = storeSem 49 v u := rfl
theorem TFinding_fd0 (x : Value) (i : Nat) : Instr.field 49 x i = fieldSem 49 x i := rfl
theorem TFinding_bd0 (p : Array (Nat × Value)) : Instr.build 49 p = buildS 49 p := rfl
theorem TFinding_ld (w : World) (v : Value) : (loadSem 49 v).run Try.prog w = loadVal Try.prog 49 4 w v := load_val TFinding_und rfl (by kernel_rfl) w v
theorem TFinding_st (w : World) (v u : Value) : (storeSem 49 v u).run Try.prog w = storeVal Try.prog 49 4 w v u := store_val (by kernel_rfl) w v u
theorem TFinding_f_kind (x : Finding) (w : World) : (fieldSem 49 (.agg (FV x)) 0).run Try.prog w = .ok (.int .i64 x.kind) w := field_of TFinding_und (by kernel_rfl) (part_cell Try.underlying47 rfl (by kernel_rfl) (TFinding_c0 x)) w
theorem TFinding_f_rep (x : Finding) (w : World) : (fieldSem 49 (.agg (FV x)) 1).run Try.prog w = .ok (.int .i64 x.rep) w := field_of TFinding_und (by kernel_rfl) (part_cell Try.underlying3 rfl (by kernel_rfl) (TFinding_c1 x)) w
theorem TFinding_f_item (x : Finding) (w : World) : (fieldSem 49 (.agg (FV x)) 2).run Try.prog w = .ok (.agg (IV x.item)) w := field_of TFinding_und (by kernel_rfl) (fun w => by rw [part_row TItem_und rfl (by kernel_rfl) (n := 2), TFinding_p_item]) w
def TFinding_pl : Nat → Option (Nat × Nat) := fun i => (#[(0, 1), (1, 1), (2, 2)] : Array (Nat × Nat))[i]?
theorem TFinding_bd (w : World) (p : Array (Nat × Value)) : (buildS 49 p).run Try.prog w = buildOf Try.prog 49 TFinding_pl (FV noFinding) p w := build_struct TFinding_und (by kernel_rfl) (fun w => by kernel_rfl) w p
theorem TFinding_fl (X : Array Value) : fillS TFinding_pl X [] = some X := rfl
theorem TFinding_fl_kind (x : Finding) (v : Int) (r : List (Nat × Value)) : fillS TFinding_pl (FV x) ((0, .int .i64 v) :: r) = fillS TFinding_pl (FV { x with kind := v }) r := rfl
theorem TFinding_fl_rep (x : Finding) (v : Int) (r : List (Nat × Value)) : fillS TFinding_pl (FV x) ((1, .int .i64 v) :: r) = fillS TFinding_pl (FV { x with rep := v }) r := rfl
theorem TFinding_fl_item (x : Finding) (v : Item) (r : List (Nat × Value)) : fillS TFinding_pl (FV x) ((2, .agg (IV v)) :: r) = fillS TFinding_pl (FV { x with item := v }) r := by
  show Instr.fill _ _ _ = Instr.fill _ _ _
  rw [fill_cons TFinding_pl (FV x) (IV v) 2 2 2 r rfl rfl (by show _ ≤ 4; omega), TFinding_put_item]
theorem TFinding_ret {fn : Func} {R : Ending → World → Prop} {a : Act} {w : World} {p : Tmp} (x : Finding) {g : Nat} (hr : fn.results = #[.cell p 49]) (hp : a.tmps.getD p undef = .pointer (some ⟨g, 0, none⟩)) (hdf : a.defers = []) (hrow : row? w g = some (FV x)) (hR : R (.returned (.agg (FV x))) w) : bodyPost Try.prog fn R .ret a w :=
  ret_row (FV x) TFinding_und rfl (by kernel_rfl) hr hp hdf (TFinding_size x) hrow hR
end Go.Proofs.Ytahajjfbkdocaaa
/- Layer 24: the report as a thing; one finding more. -/
namespace Go.Proofs.Ytahajjfbkdocaaa
open Go.RowKit
set_option linter.unusedVariables false
attribute [local go_sem] row_alloc row_drew row_drewN row_ext row_setCell row_setRow size_ext setRow_alloc setRow_drew loadOf storeOf piece_lit loadVal_at storeVal_at allOne_lit buildOf buildRes_some
attribute [local go_sem high] cell_alloc frozen_alloc setCell_alloc cell_ext frozen_ext cell_setRow frozen_setRow
attribute [local go_sem ↓] TDeed_ld0 TDeed_st0 TDeed_fd0 TDeed_bd0
attribute [local go_sem] TDeed_size TDeed_one TDeed_piece TDeed_c0 TDeed_c1 TDeed_c2 TDeed_c3 TDeed_c4 TDeed_c5 TDeed_set_kind TDeed_set_key TDeed_set_val TDeed_set_ver TDeed_set_ses TDeed_set_num TDeed_ld TDeed_st TDeed_f_kind TDeed_f_key TDeed_f_val TDeed_f_ver TDeed_f_ses TDeed_f_num TDeed_bd TDeed_fl TDeed_fl_kind TDeed_fl_key TDeed_fl_val TDeed_fl_ver TDeed_fl_ses TDeed_fl_num
attribute [local go_sem high] TDeed_eql TDeed_neq
attribute [local go_sem ↓] index_deps0 load_deps0 store_deps0
attribute [local go_sem] DV_piece DV_size DV_one index_deps load_deps store_deps
attribute [local go_sem high] TDeps_eql TDeps_neq
attribute [local go_sem ↓] TCall_ld0 TCall_st0 TCall_fd0 TCall_bd0
attribute [local go_sem] TCall_size TCall_one TCall_piece TCall_c0 TCall_c1 TCall_c2 TCall_c3 TCall_c4 TCall_c5 TCall_c6 TCall_c7 TCall_c8 TCall_c9 TCall_c10 TCall_c11 TCall_c12 TCall_c13 TCall_p_deed TCall_put_deed TCall_p_deps TCall_put_deps TCall_set_seq TCall_ld TCall_st TCall_f_deed TCall_f_deps TCall_f_seq TCall_bd TCall_fl TCall_fl_deed TCall_fl_deps TCall_fl_seq
attribute [local go_sem high] TCall_eql TCall_neq
attribute [local go_sem ↓] TItem_ld0 TItem_st0 TItem_fd0 TItem_bd0
attribute [local go_sem] TItem_size TItem_one TItem_piece TItem_c0 TItem_c1 TItem_set_rep TItem_set_num TItem_ld TItem_st TItem_f_rep TItem_f_num TItem_bd TItem_fl TItem_fl_rep TItem_fl_num
attribute [local go_sem high] TItem_eql TItem_neq
attribute [local go_sem ↓] TFinding_ld0 TFinding_st0 TFinding_fd0 TFinding_bd0
attribute [local go_sem] TFinding_size TFinding_one TFinding_piece TFinding_c0 TFinding_c1 TFinding_c2 TFinding_c3 TFinding_set_kind TFinding_set_rep TFinding_p_item TFinding_put_item TFinding_ld TFinding_st TFinding_f_kind TFinding_f_rep TFinding_f_item TFinding_bd TFinding_fl TFinding_fl_kind TFinding_fl_rep TFinding_fl_item
attribute [local go_sem high] TFinding_eql TFinding_neq
structure Rep where
  n : Int
  list : List Finding
  order : List Item
  calls : Item → Option Call
  cnt : Nat
def cellsR (s : Rep) (v1 v2 : Value) (m : Nat) : Array Value := #[.int .i64 s.n, v1, .map (some m), v2]
section
variable (s : Rep) (v1 v2 v : Value) (m : Nat)
theorem cellsR_0 : (cellsR s v1 v2 m)[0]? = some (.int .i64 s.n) := rfl
theorem cellsR_1 : (cellsR s v1 v2 m)[1]? = some v1 := rfl
theorem cellsR_2 : (cellsR s v1 v2 m)[2]? = some (.map (some m)) := rfl
theorem cellsR_3 : (cellsR s v1 v2 m)[3]? = some v2 := rfl
theorem cellsR_set1 : (cellsR s v1 v2 m).setIfInBounds 1 v = cellsR s v v2 m := rfl
theorem cellsR_set3 : (cellsR s v1 v2 m).setIfInBounds 3 v = cellsR s v1 v m := rfl
end
attribute [local go_sem] cellsR_0 cellsR_1 cellsR_2 cellsR_3
def callsR (s : Rep) (m : Nat) : Res := mapR Try.prog 28 (fun x : Item => Value.agg (IV x)) (fun c : Call => Value.agg (CV c)) InI m s.cnt s.calls
def listR (s : Rep) (v : Value) : Res := vecR 49 4 v s.list.length (vl FV s.list)
def orderR (s : Rep) (v : Value) : Res := vecR 28 2 v s.order.length (vl IV s.order)
/-- The report in block r. -/
def repR (r : Nat) (s : Rep) : Res := exR fun q : Value × Value × Nat => starR (rowR r (cellsR s q.1 q.2.1 q.2.2)) (starR (listR s q.1) (starR (orderR s q.2.1) (callsR s q.2.2)))
section
variable {w W : World} {F : Nat → Prop} {R : List Res} {r : Nat} {s : Rep}
theorem Sts.repOpen (T : Sts w F W (repR r s :: R)) : ∃ v1 v2 m, Sts w F W (rowR r (cellsR s v1 v2 m) :: listR s v1 :: orderR s v2 :: callsR s m :: R) := by
  obtain ⟨⟨v1, v2, m⟩, T⟩ := T.open
  refine ⟨v1, v2, m, ?_⟩
  have T := T.split.swap.split
  have T := (T.swap).split
  exact (T.rot3.perm (.cons _ ((List.Perm.cons _ (.swap ..)).trans (.swap ..))))
theorem Sts.repShut {v1 v2 : Value} {m : Nat} (T : Sts w F W (rowR r (cellsR s v1 v2 m) :: listR s v1 :: orderR s v2 :: callsR s m :: R)) : Sts w F W (repR r s :: R) := by
  have T := T.perm (.cons _ ((List.Perm.swap ..).trans (.cons _ (.swap ..))))
  -- row, order, calls, list
  have T := (T.swap.perm (.cons _ (.swap ..))).join
  have T := T.rot2
  have T := T.swap2
  exact Sts.close (v1, v2, m) (T.perm (.cons _ (.swap ..))).join.swap.join
end
theorem find_info : (Try.prog.info? 49).map (fun i => (i.zero, i.size, i.bytes)) = some (some (.agg #[.int .i64 0, .int .i64 0, .int .i64 0, .int .i64 0]), 4, 32) := by kernel_rfl
theorem find_i : ∃ i, Try.prog.info? 49 = some i ∧ i.zero = some (.agg #[.int .i64 0, .int .i64 0, .int .i64 0, .int .i64 0]) ∧ i.size = 4 ∧ i.bytes = 32 := by
  have h := find_info
  cases hi : Try.prog.info? 49 with
  | none => rw [hi] at h; simp at h
  | some i => rw [hi] at h; simp at h; exact ⟨i, rfl, h.1, h.2.1, h.2.2⟩
theorem find_slice0 (len : Nat) (parts : Array (Nat × Value)) : Instr.buildSlice 43 len parts = buildSem 43 len parts := rfl
theorem find_slice1 (w : World) (x : Finding) : (buildSem 43 1 #[(0, .agg (FV x))]).run Try.prog w = .ok (.slice (some ⟨w.heap.size, 0, none⟩) 1 1) (w.alloc (.cells (FV x) 49)) :=
  build_slice1 Try.underlying43 (z := .agg #[.int .i64 0, .int .i64 0, .int .i64 0, .int .i64 0]) (n := 4) (by kernel_rfl) (by omega) w (TFinding_size x) (by omega)
attribute [local go_sem ↓] find_slice0
attribute [local go_sem] find_slice1
/-- A world that bears a row. -/
def SR (k : Nat) (Y : Array Value) (W : World) : Prop := row? W k = some Y
theorem SR.drew {k : Nat} {Y : Array Value} {W : World} (h : SR k Y W) : SR k Y W.drew := h
theorem SR.alloc {k : Nat} {Y : Array Value} {W : World} (h : SR k Y W) (o : Obj) : SR k Y (W.alloc o) := by
  unfold SR at *; rw [row_alloc_ne W k o (Nat.ne_of_lt (row_lt h))]; exact h
theorem SR.setCell {k r i : Nat} {Y : Array Value} {W : World} (h : SR k Y W) (hne : k ≠ r) (u : Value) : SR k Y (W.setCell ⟨r, i, none⟩ u) := by
  unfold SR at *; rw [row_setCell, if_neg (fun e => hne e.symm)]; exact h
set_option maxHeartbeats 4000000 in
theorem tellD (r : Nat) (s : Rep) (k rep : Int) (x : Item) (hn : s.list.length < 1000000) :
    Does Try.prog 22 #[.pointer (some ⟨r, 0, none⟩), .int .i64 k, .int .i64 rep, .agg (IV x)] [repR r s] (.tuple #[]) [repR r { s with list := s.list ++ [⟨k, rep, x⟩] }] := by
  intro W G hS
  obtain ⟨v1, v2, m, T⟩ := (Sts.start hS).repOpen
  clear hS
  have T := (T.new (IV x) 28).swap
  -- rows: report, item, list, order, calls
  obtain ⟨i0, hi, hz0, hz1, hz2⟩ := find_i
  have hS0 : SR W.heap.size (IV x) (W.alloc (.cells (IV x) 28)) := T.row1
  have hq2 : ∀ W0, SR W.heap.size (IV x) W0 → row? W0 W.heap.size = some (IV x) := fun W0 h => h
  have hcr := row_cell T.row
  have hlr := row_lt T.row
  have hlr0 : r < W.heap.size + 1 := by have := hlr; rw [World.size_alloc] at this; exact this
  have hlr2 : ¬ r = W.heap.size + 1 := by omega
  have hner : W.heap.size ≠ r := fun e => T.ne e.symm
  have hT1 : Sts W G ((W.alloc (.cells (IV x) 28)).alloc (.cells (FV ⟨k, rep, x⟩) 49)).drew [vecR 49 4 v1 s.list.length (vl FV s.list), rowR (W.heap.size + 1) (FV ⟨k, rep, x⟩), rowR r (cellsR s v1 v2 m), rowR W.heap.size (IV x), orderR s v2, callsR s m] := by
    have := (T.new (FV ⟨k, rep, x⟩) 49).rot3.drew
    simp only [World.size_alloc] at this
    exact this
  have hnews : ∀ j u, (FV ⟨k, rep, x⟩).toList[j]? = some u → ((W.alloc (.cells (IV x) 28)).alloc (.cells (FV ⟨k, rep, x⟩) 49)).drew.cell? ((⟨W.heap.size + 1, 0, none⟩ : Addr).add j) = some u := by
    intro j u hu
    have hadd : (⟨W.heap.size + 1, 0, none⟩ : Addr).add j = ⟨W.heap.size + 1, j, none⟩ := by unfold Addr.add; split <;> simp_all
    rw [hadd, row_cell hT1.row1]; simpa using hu
  have h1 : ∀ u ∈ (FV ⟨k, rep, x⟩).toList, u.oneCell' = true := by simp [FV, Value.oneCell']
  have h63 : s.list.length + 1 ≤ maxLen := by unfold maxLen; omega
  have hby : (s.list.length + 1) * 32 ≤ 140737488355328 := by omega
  have HT := Lib.hid hT1; clear hT1 T
  go_enter Try.func22, Try.ntmps22
  go_wp2_with fail
  go_region_law
    ((refine step_append_vec (by rfl) _ _ _ (by rfl) 49 i0 _ 4 32 Try.underlying43 hi hz0 hz1 hz2 rfl (by omega) v1 s.list.length (vl FV s.list) (by rfl) HT.out ⟨W.heap.size + 1, 0, none⟩ 1 1 (FV ⟨k, rep, x⟩).toList (by rfl) (by rfl) hnews h1 (by omega) h63 hby ?_; intro g cap w1 T1; have hc1 := row_cell T1.row2; have hf1 := row_frozen T1.row2; have hl1 := row_lt T1.row2))
  all_goals
    have T2 := (T1.swap.drop.swap).setCell 1 (.slice (some ⟨g, 0, none⟩) (s.list.length + 1) cap)
    rw [cellsR_set1] at T2
    have T3 := T2.rot2.drop
    have HT3 := Lib.hid T3; clear T1 T2 T3
    go_end0
    refine ⟨rfl, Sts.repShut (s := { s with list := s.list ++ [⟨k, rep, x⟩] }) (v1 := .slice (some ⟨g, 0, none⟩) (s.list.length + 1) cap) (v2 := v2) (m := m) ?_⟩
    unfold listR
    simp only [vl_snoc, List.length_append, List.length_cons, List.length_nil]
    exact HT3.out
end Go.Proofs.Ytahajjfbkdocaaa

namespace Go.Proofs.Ytahajjfbkdocaaa
open Go.RowKit
attribute [local go_sem] row_alloc row_drew row_drewN row_ext row_setCell row_setRow size_ext setRow_alloc setRow_drew loadOf storeOf piece_lit DV_piece loadVal_at storeVal_at allOne_lit DV_size DV_one
attribute [local go_sem high] cell_alloc frozen_alloc setCell_alloc cell_ext frozen_ext
attribute [local go_sem ↓] index_deps0 load_deps0 store_deps0
attribute [local go_sem] index_deps load_deps store_deps
def goodAt (d : Nat → Int) (n : Int) (i : Nat) : Bool := decide (0 ≤ d i ∧ d i ≤ 64 ∧ (n ≤ i → d i = 0))
def goodD (d : Nat → Int) (n : Int) : Bool := (List.range 7).all (goodAt d n)
theorem goodD_no {d : Nat → Int} {n : Int} (j : Nat) (hj : j < 7) (h : ¬ (0 ≤ d j ∧ d j ≤ 64 ∧ (n ≤ j → d j = 0))) : goodD d n = false := by
  rw [goodD, List.all_eq_false]
  exact ⟨j, by simpa using hj, by unfold goodAt; simpa only [decide_eq_true_eq] using h⟩
theorem goodD_yes {d : Nat → Int} {n : Int} (h : ∀ i, i < 7 → 0 ≤ d i ∧ d i ≤ 64 ∧ (n ≤ i → d i = 0)) : goodD d n = true := by
  rw [goodD, List.all_eq_true]
  intro i hi
  unfold goodAt
  rw [decide_eq_true_eq]
  exact h i (by simpa using hi)
set_option maxHeartbeats 1000000 in
theorem good_any (d : Nat → Int) (n : Int) : Ans Try.prog 40 #[.agg (DV d), .int .i64 n] (.bool (goodD d n)) := by
  intro w
  go_enter Try.func40, Try.ntmps40
  go_wp2
  go_loop [8] (fun i => ∃ j : Nat, j ≤ 7 ∧ i = .int .i64 j ∧ Hid (∀ k, k < j → 0 ≤ d k ∧ d k ≤ 64 ∧ (n ≤ k → d k = 0))) (fun i => 7 - (intOf i).toNat)
  case atStart => exact ⟨0, by omega, rfl, fun k hk => by omega⟩
  case round =>
    obtain ⟨j, hj, rfl, hG⟩ := hrel
    by_cases hlt : j < 7
    · have hno := @goodD_no d n j hlt
      have Hno := Lib.hid hno; clear hno
      by_cases hz : d j = 0
      · have hz' : (d j != 0) = false := by simp [hz]
        have Hz := Lib.hid hz; clear hz
        go_wp2
        all_goals first
          | (go_ret
             refine ⟨?_, (Below.refl _ _).alloc (Nat.le_refl _) _⟩
             exact congrArg (fun b => Ending.returned (.bool b)) (Hno.out (by omega)).symm)
          | (go_round
             case rel =>
               refine ⟨j + 1, by omega, by go_num, fun k hk => ?_⟩
               by_cases e : k = j
               · subst e; exact ⟨by omega, by omega, fun _ => Hz.out⟩
               · exact hG k (by omega)
             case measure => simp [intOf]; omega)
      · have hz' : (d j != 0) = true := by simp [hz]
        go_wp2
        all_goals first
          | (go_ret
             refine ⟨?_, (Below.refl _ _).alloc (Nat.le_refl _) _⟩
             exact congrArg (fun b => Ending.returned (.bool b)) (Hno.out (by omega)).symm)
          | (go_round
             case rel =>
               refine ⟨j + 1, by omega, by go_num, fun k hk => ?_⟩
               by_cases e : k = j
               · subst e; omega
               · exact hG k (by omega)
             case measure => simp [intOf]; omega)
    · obtain rfl : j = 7 := by omega
      have hy := goodD_yes hG
      have Hy := Lib.hid hy; clear hy
      go_wp2
      go_ret
      exact ⟨congrArg (fun b => Ending.returned (.bool b)) Hy.out.symm, (Below.refl _ _).alloc (Nat.le_refl _) _⟩
set_option maxHeartbeats 1000000 in
theorem rgood_any (d : Nat → Int) (n : Int) : Ans Try.prog 33 #[.agg (DV d), .int .i64 n] (.bool (goodD d n)) := by
  intro w
  go_enter Try.func33, Try.ntmps33
  go_wp2
  go_loop [5] (fun i => ∃ j : Nat, j ≤ 7 ∧ i = .int .i64 j ∧ Hid (∀ k, k < j → 0 ≤ d k ∧ d k ≤ 64 ∧ (n ≤ k → d k = 0))) (fun i => 7 - (intOf i).toNat)
  case atStart => exact ⟨0, by omega, rfl, fun k hk => by omega⟩
  case round =>
    obtain ⟨j, hj, rfl, hG⟩ := hrel
    by_cases hlt : j < 7
    · have hno := @goodD_no d n j hlt
      have Hno := Lib.hid hno; clear hno
      have hD := DV_get d j hlt
      by_cases hz : d j = 0
      · have hz' : (d j != 0) = false := by simp [hz]
        have Hz := Lib.hid hz; clear hz
        go_wp2
        all_goals first
          | (go_ret
             refine ⟨?_, (Below.refl _ _).alloc (Nat.le_refl _) _⟩
             exact congrArg (fun b => Ending.returned (.bool b)) (Hno.out (by omega)).symm)
          | (go_round
             case rel =>
               refine ⟨j + 1, by omega, by go_num, fun k hk => ?_⟩
               by_cases e : k = j
               · subst e; exact ⟨by omega, by omega, fun _ => Hz.out⟩
               · exact hG k (by omega)
             case measure => simp [intOf]; omega)
      · have hz' : (d j != 0) = true := by simp [hz]
        go_wp2
        all_goals first
          | (go_ret
             refine ⟨?_, (Below.refl _ _).alloc (Nat.le_refl _) _⟩
             exact congrArg (fun b => Ending.returned (.bool b)) (Hno.out (by omega)).symm)
          | (go_round
             case rel =>
               refine ⟨j + 1, by omega, by go_num, fun k hk => ?_⟩
               by_cases e : k = j
               · subst e; omega
               · exact hG k (by omega)
             case measure => simp [intOf]; omega)
    · obtain rfl : j = 7 := by omega
      have hy := goodD_yes hG
      have Hy := Lib.hid hy; clear hy
      go_wp2
      go_ret
      exact ⟨congrArg (fun b => Ending.returned (.bool b)) Hy.out.symm, (Below.refl _ _).alloc (Nat.le_refl _) _⟩
end Go.Proofs.Ytahajjfbkdocaaa
