/- Several texts in one. -/
import Derived.Test.YtnjgjhjilolanaaX33
import Derived.Test.YtnjgjhjilolanaaX16
import Derived.Test.YtnjgjhjilolanaaX2
import Derived.Test.YtnjgjhjilolanaaX3
import Derived.Test.YtnjgjhjilolanaaX22
import Derived.Test.YtnjgjhjilolanaaX4
/- Items in a slice of the call's own, sorted in their place by a function: up to 49 of them. -/
namespace Go.Proofs.Ytnjgjhjilolanaa
open Go.RowKit Go.Shelf
open Go.Sort (insertionSort pdq bitsLen)
set_option linter.unusedVariables false
set_option maxRecDepth 20000
attribute [local go_sem] row_alloc row_drew row_drewN row_ext row_setCell row_setRow size_ext setRow_alloc setRow_drew loadOf storeOf piece_lit loadVal_at storeVal_at allOne_lit buildOf buildRes_some
attribute [local go_sem high] cell_alloc frozen_alloc setCell_alloc cell_ext frozen_ext cell_setRow frozen_setRow
attribute [local go_sem ↓] TDeed_ld0 TDeed_st0 TDeed_fd0 TDeed_bd0
attribute [local go_sem] TDeed_size TDeed_one TDeed_piece TDeed_c0 TDeed_c1 TDeed_c2 TDeed_c3 TDeed_c4 TDeed_c5 TDeed_set_kind TDeed_set_key TDeed_set_val TDeed_set_ver TDeed_set_ses TDeed_set_num TDeed_ld TDeed_st TDeed_f_kind TDeed_f_key TDeed_f_val TDeed_f_ver TDeed_f_ses TDeed_f_num TDeed_bd TDeed_fl TDeed_fl_kind TDeed_fl_key TDeed_fl_val TDeed_fl_ver TDeed_fl_ses TDeed_fl_num
attribute [local go_sem high] TDeed_eql TDeed_neq
attribute [local go_sem ↓] index_deps0 load_deps0 store_deps0
attribute [local go_sem] DV_piece DV_size DV_one index_deps load_deps store_deps
attribute [local go_sem high] TDeps_eql TDeps_neq
attribute [local go_sem ↓] TCall_ld0 TCall_st0 TCall_fd0 TCall_bd0
attribute [local go_sem] TCall_size TCall_one TCall_piece TCall_c0 TCall_c1 TCall_c2 TCall_c3 TCall_c4 TCall_c5 TCall_c6 TCall_c7 TCall_c8 TCall_c9 TCall_c10 TCall_c11 TCall_c12 TCall_c13 TCall_p_deed TCall_put_deed TCall_p_deps TCall_put_deps TCall_set_seq TCall_ld TCall_st TCall_f_deed TCall_f_deps TCall_f_seq TCall_bd TCall_fl TCall_fl_deed TCall_fl_deps TCall_fl_seq
attribute [local go_sem high] TCall_eql TCall_neq
attribute [local go_sem ↓] TItem_ld0 TItem_st0 TItem_fd0 TItem_bd0
attribute [local go_sem] TItem_size TItem_one TItem_piece TItem_c0 TItem_c1 TItem_set_rep TItem_set_num TItem_ld TItem_st TItem_f_rep TItem_f_num TItem_bd TItem_fl TItem_fl_rep TItem_fl_num
attribute [local go_sem high] TItem_eql TItem_neq
section
variable {w W : World} {F : Nat → Prop} {R : List Res} {g c : Nat} {CM : CmpK} {d : Array Item}
theorem pdqSmallTC {n : Nat} (hd : d.size = n) (a z lim : Nat) (haz : a ≤ z) (hz : z ≤ n) (h12 : z - a ≤ 12) (hn : n ≤ 1000000) (hm : CM.Ok) (T : Sts w F W (itR g c d :: (CM.L ++ R))) :
    Calls Try.prog 68 #[.slice (some ⟨g, 0, none⟩) n c, .int .i64 a, .int .i64 z, .int .i64 lim, CM.cv] W fun e W' => e = .returned (.tuple #[]) ∧ Sts w F W' (itR g c (insertionSort CM.lt d a z) :: (CM.L ++ R)) := by
  have HT := Lib.hid T; clear T
  have HD := Lib.hid hd; clear hd
  have hl : (z : Int) - (a : Int) ≤ 12 := by omega
  have hw : IntKind.i64.wrap ((z : Int) - (a : Int)) = (z : Int) - (a : Int) := by rw [IntKind.wrap_i64] <;> omega
  go_enter Try.func68, Try.ntmps68
  go_wp2_with fail
  go_loopw [1, 2] (fun u1 u2 wr => u1 = .int .i64 a ∧ u2 = .int .i64 z ∧ Sts w F wr (itR g c d :: (CM.L ++ R))) (fun _ _ _ => 0)
  case atStart => exact ⟨rfl, rfl, HT.out⟩
  case round =>
    obtain ⟨rfl, rfl, hrel⟩ := hrel
    have HT := Lib.hid hrel; clear hrel
    go_wp2_with fail
    have HI := insSortTC (g := g) (c := c) (CM := CM) (d := d) a z haz (by rw [HD.out]; exact hz) (by rw [HD.out]; exact hn) hm HT.out
    rw [HD.out] at HI
    refine HI.mono ?_
    clear HI
    rintro e w5 ⟨rfl, T⟩
    have HT2 := Lib.hid T; clear T
    go_wp2
    try simp only [Exit.inBlock, Exit.then]
    refine bodyPost_ret (results_none rfl _ _ _) rfl ?_
    exact ⟨rfl, HT2.out⟩
/-- Such a function sorts so many items. -/
def SortsToC (K : Nat) : Prop := ∀ (w W : World) (F : Nat → Prop) (R : List Res) (g c : Nat) (CM : CmpK) (d : Array Item) (n : Nat), d.size = n → n ≤ K → CM.Ok → Sts w F W (itR g c d :: (CM.L ++ R)) →
  Calls Try.prog 53 #[.slice (some ⟨g, 0, none⟩) n c, CM.cv] W fun e W' => e = .returned (.tuple #[]) ∧ Sts w F W' (itR g c (pdq CM.lt d 0 n (bitsLen n) true true) :: (CM.L ++ R))
end
theorem pdqAllC {n : Nat} (hn : n < 50) : ∀ K, PdqAtC n K
  | 0 => by
    intro w W F R g c CM d a z lim hd haz hz hK hlim hm T
    have h := pdqSmallTC hd a z lim haz hz (by omega) (by omega) hm T
    rw [pdq, if_pos (by omega)]
    exact h
  | K + 1 => pdqStepC hn (pdqAllC hn K)
theorem sorts49C : SortsToC 49 := by
  intro w W F R g c CM d n hd h49 hm T
  have HT := Lib.hid T; clear T
  have HD := Lib.hid hd; clear hd
  have hk : n < 64 := by omega
  have hbl := bitsLen_le ⟨n, hk⟩
  dsimp only at hbl
  have HPQ := Lib.hid (pdqAllC (n := n) (by omega) n w W F R g c CM d 0 n (bitsLen n) HD.out (Nat.zero_le _) (Nat.le_refl _) (by omega) (by omega) hm HT.out)
  have HBL := Lib.hid hbl; clear hbl
  go_enter Try.func53, Try.ntmps53
  go_wp2_with fail
  refine (bitsLenT n hk _).mono ?_
  rintro e w5 ⟨rfl, rfl⟩
  go_wp2_with fail
  refine HPQ.out.mono ?_
  rintro e w5 ⟨rfl, T⟩
  have HT2 := Lib.hid T; clear T HT HPQ
  go_wp2
  go_end0
  exact ⟨rfl, HT2.out⟩
end Go.Proofs.Ytnjgjhjilolanaa
/- Layer 18: the document's graph: items, calls, what is done. -/
namespace Go.Proofs.Ytnjgjhjilolanaa
open Go.RowKit Go.Shelf
set_option linter.unusedVariables false
set_option maxRecDepth 20000
attribute [local go_sem] row_alloc row_drew row_drewN row_ext row_setCell row_setRow size_ext setRow_alloc setRow_drew loadOf storeOf piece_lit loadVal_at storeVal_at allOne_lit buildOf buildRes_some
attribute [local go_sem high] cell_alloc frozen_alloc setCell_alloc cell_ext frozen_ext cell_setRow frozen_setRow
attribute [local go_sem ↓] TDeed_ld0 TDeed_st0 TDeed_fd0 TDeed_bd0
attribute [local go_sem] TDeed_size TDeed_one TDeed_piece TDeed_c0 TDeed_c1 TDeed_c2 TDeed_c3 TDeed_c4 TDeed_c5 TDeed_set_kind TDeed_set_key TDeed_set_val TDeed_set_ver TDeed_set_ses TDeed_set_num TDeed_ld TDeed_st TDeed_f_kind TDeed_f_key TDeed_f_val TDeed_f_ver TDeed_f_ses TDeed_f_num TDeed_bd TDeed_fl TDeed_fl_kind TDeed_fl_key TDeed_fl_val TDeed_fl_ver TDeed_fl_ses TDeed_fl_num
attribute [local go_sem high] TDeed_eql TDeed_neq
attribute [local go_sem ↓] index_deps0 load_deps0 store_deps0
attribute [local go_sem] DV_piece DV_size DV_one index_deps load_deps store_deps
attribute [local go_sem high] TDeps_eql TDeps_neq
attribute [local go_sem ↓] TCall_ld0 TCall_st0 TCall_fd0 TCall_bd0
attribute [local go_sem] TCall_size TCall_one TCall_piece TCall_c0 TCall_c1 TCall_c2 TCall_c3 TCall_c4 TCall_c5 TCall_c6 TCall_c7 TCall_c8 TCall_c9 TCall_c10 TCall_c11 TCall_c12 TCall_c13 TCall_p_deed TCall_put_deed TCall_p_deps TCall_put_deps TCall_set_seq TCall_ld TCall_st TCall_f_deed TCall_f_deps TCall_f_seq TCall_bd TCall_fl TCall_fl_deed TCall_fl_deps TCall_fl_seq
attribute [local go_sem high] TCall_eql TCall_neq
attribute [local go_sem ↓] TItem_ld0 TItem_st0 TItem_fd0 TItem_bd0
attribute [local go_sem] TItem_size TItem_one TItem_piece TItem_c0 TItem_c1 TItem_set_rep TItem_set_num TItem_ld TItem_st TItem_f_rep TItem_f_num TItem_bd TItem_fl TItem_fl_rep TItem_fl_num
attribute [local go_sem high] TItem_eql TItem_neq
def docC (vi vc vd : Value) : Array Value := #[vi, vc, vd]
section
variable {w W : World} {F : Nat → Prop} {R : List Res}
end
end Go.Proofs.Ytnjgjhjilolanaa
/- GStep as a value, as cells: its parts, equality, loads, stores, building. Printed by types.py. -/
namespace Go.Proofs.Ytnjgjhjilolanaa
open Go.RowKit
set_option linter.unusedVariables false
structure GStep where
  kind : Int
  item : Item
  call : Call
def GSV (x : GStep) : Array Value := #[.int .i64 x.kind, .int .i64 x.item.rep, .int .i64 x.item.num, .int .i64 x.call.deed.kind, .string x.call.deed.key, .string x.call.deed.val, .int .i64 x.call.deed.ver, .int .i64 x.call.deed.ses, .int .i64 x.call.deed.num, .int .i64 (x.call.deps 0), .int .i64 (x.call.deps 1), .int .i64 (x.call.deps 2), .int .i64 (x.call.deps 3), .int .i64 (x.call.deps 4), .int .i64 (x.call.deps 5), .int .i64 (x.call.deps 6), .int .i64 x.call.seq]
def noGStep : GStep := ⟨0, noItem, noCall⟩
section
variable (x y : GStep)
theorem TGStep_size : (GSV x).size = 17 := rfl
theorem TGStep_one : allOne (GSV x) = true := by simp [allOne, GSV, Value.oneCell']
theorem TGStep_piece : piece (GSV x) 0 17 = GSV x := piece_all _ _ rfl
theorem TGStep_c0 : (GSV x)[0]? = some (.int .i64 x.kind) := rfl
theorem TGStep_c1 : (GSV x)[1]? = some (.int .i64 x.item.rep) := rfl
theorem TGStep_c2 : (GSV x)[2]? = some (.int .i64 x.item.num) := rfl
theorem TGStep_c3 : (GSV x)[3]? = some (.int .i64 x.call.deed.kind) := rfl
theorem TGStep_c4 : (GSV x)[4]? = some (.string x.call.deed.key) := rfl
theorem TGStep_c5 : (GSV x)[5]? = some (.string x.call.deed.val) := rfl
theorem TGStep_c6 : (GSV x)[6]? = some (.int .i64 x.call.deed.ver) := rfl
theorem TGStep_c7 : (GSV x)[7]? = some (.int .i64 x.call.deed.ses) := rfl
theorem TGStep_c8 : (GSV x)[8]? = some (.int .i64 x.call.deed.num) := rfl
theorem TGStep_c9 : (GSV x)[9]? = some (.int .i64 (x.call.deps 0)) := rfl
theorem TGStep_c10 : (GSV x)[10]? = some (.int .i64 (x.call.deps 1)) := rfl
theorem TGStep_c11 : (GSV x)[11]? = some (.int .i64 (x.call.deps 2)) := rfl
theorem TGStep_c12 : (GSV x)[12]? = some (.int .i64 (x.call.deps 3)) := rfl
theorem TGStep_c13 : (GSV x)[13]? = some (.int .i64 (x.call.deps 4)) := rfl
theorem TGStep_c14 : (GSV x)[14]? = some (.int .i64 (x.call.deps 5)) := rfl
theorem TGStep_c15 : (GSV x)[15]? = some (.int .i64 (x.call.deps 6)) := rfl
theorem TGStep_c16 : (GSV x)[16]? = some (.int .i64 x.call.seq) := rfl
theorem TGStep_set_kind (v : Int) : (GSV x).setIfInBounds 0 (.int .i64 v) = GSV { x with kind := v } := rfl
theorem TGStep_p_item : piece (GSV x) 1 2 = IV x.item := by kernel_rfl
theorem TGStep_put_item (v : Item) : splice (GSV x) 1 (IV v) = GSV { x with item := v } := by kernel_rfl
theorem TGStep_p_call : piece (GSV x) 3 14 = CV x.call := by kernel_rfl
theorem TGStep_put_call (v : Call) : splice (GSV x) 3 (CV v) = GSV { x with call := v } := by kernel_rfl
theorem TGStep_cat : GSV x = #[.int .i64 x.kind] ++ IV x.item ++ CV x.call := by kernel_rfl
theorem TGStep_ext : GSV x = GSV y ↔ x.kind = y.kind ∧ IV x.item = IV y.item ∧ CV x.call = CV y.call := by
  constructor
  · intro h
    refine ⟨?_, ?_, ?_⟩
    · have := congrArg (·[0]?) h; simpa [TGStep_c0, TGStep_size] using this
    · have := congrArg (fun c => piece c 1 2) h; simpa only [TGStep_p_item] using this
    · have := congrArg (fun c => piece c 3 14) h; simpa only [TGStep_p_call] using this
  · rintro ⟨h0, h1, h2⟩
    rw [TGStep_cat x, TGStep_cat y, h0, h1, h2]
end
theorem TGStep_und : Try.prog.underlying 78 = some (.struct (Try.prog.fieldsOf 78)) := by kernel_rfl
theorem TGStep_eq (d : Nat) (x y : GStep) (w : World) : (Op.equalIn (d + 4) 78 (.agg (GSV x)) (.agg (GSV y))).run Try.prog w = .ok (eqA (GSV x) (GSV y)) w := by
  refine eq_struct (d := d + 3) (L := [(3, 0, x.kind == y.kind), (35, 1, eqA (IV x.item) (IV y.item)), (47, 3, eqA (CV x.call) (CV y.call))]) TGStep_und (by kernel_rfl) (by kernel_rfl) ?_ ?_ w
  · simp only [List.forall_mem_cons]
    exact ⟨⟨_, _, part_cell Try.underlying3 rfl (by kernel_rfl) (TGStep_c0 x), part_cell Try.underlying3 rfl (by kernel_rfl) (TGStep_c0 y), fun w => run_equalIn_int w (d + 2) _ _ _ _ _ Try.underlying3⟩, ⟨_, _, fun w => by rw [part_row TItem_und rfl (by kernel_rfl) (n := 2), TGStep_p_item], fun w => by rw [part_row TItem_und rfl (by kernel_rfl) (n := 2), TGStep_p_item], fun w => TItem_eq (d + 1) x.item y.item w⟩, ⟨_, _, fun w => by rw [part_row TCall_und rfl (by kernel_rfl) (n := 14), TGStep_p_call], fun w => by rw [part_row TCall_und rfl (by kernel_rfl) (n := 14), TGStep_p_call], fun w => TCall_eq (d + 0) x.call y.call w⟩, by simp⟩
  · refine eqA_of ?_
    rw [TGStep_ext]
    simp [eqA_iff]
theorem TGStep_eql (x y : GStep) (w : World) : (binOp .eql 78 (.agg (GSV x)) (.agg (GSV y))).run Try.prog w = .ok (.bool (eqA (GSV x) (GSV y))) w := eql_of (TGStep_eq 9996 x y) w
theorem TGStep_neq (x y : GStep) (w : World) : (binOp .neq 78 (.agg (GSV x)) (.agg (GSV y))).run Try.prog w = .ok (.bool (!eqA (GSV x) (GSV y))) w := neq_of (TGStep_eq 9996 x y) w
theorem TGStep_ld0 (v : Value) : Instr.loadAt 78 v = loadSem 78 v := rfl
theorem TGStep_st0 (v u : Value) : Instr.storeAt 78 v u = storeSem 78 v u := rfl
theorem TGStep_fd0 (x : Value) (i : Nat) : Instr.field 78 x i = fieldSem 78 x i := rfl
theorem TGStep_bd0 (p : Array (Nat × Value)) : Instr.build 78 p = buildS 78 p := rfl
theorem TGStep_ld (w : World) (v : Value) : (loadSem 78 v).run Try.prog w = loadVal Try.prog 78 17 w v := load_val TGStep_und rfl (by kernel_rfl) w v
theorem TGStep_st (w : World) (v u : Value) : (storeSem 78 v u).run Try.prog w = storeVal Try.prog 78 17 w v u := store_val (by kernel_rfl) w v u
theorem TGStep_f_kind (x : GStep) (w : World) : (fieldSem 78 (.agg (GSV x)) 0).run Try.prog w = .ok (.int .i64 x.kind) w := field_of TGStep_und (by kernel_rfl) (part_cell Try.underlying3 rfl (by kernel_rfl) (TGStep_c0 x)) w
theorem TGStep_f_item (x : GStep) (w : World) : (fieldSem 78 (.agg (GSV x)) 1).run Try.prog w = .ok (.agg (IV x.item)) w := field_of TGStep_und (by kernel_rfl) (fun w => by rw [part_row TItem_und rfl (by kernel_rfl) (n := 2), TGStep_p_item]) w
theorem TGStep_f_call (x : GStep) (w : World) : (fieldSem 78 (.agg (GSV x)) 2).run Try.prog w = .ok (.agg (CV x.call)) w := field_of TGStep_und (by kernel_rfl) (fun w => by rw [part_row TCall_und rfl (by kernel_rfl) (n := 14), TGStep_p_call]) w
def TGStep_pl : Nat → Option (Nat × Nat) := fun i => (#[(0, 1), (1, 2), (3, 14)] : Array (Nat × Nat))[i]?
theorem TGStep_bd (w : World) (p : Array (Nat × Value)) : (buildS 78 p).run Try.prog w = buildOf Try.prog 78 TGStep_pl (GSV noGStep) p w := build_struct TGStep_und (by kernel_rfl) (fun w => by kernel_rfl) w p
theorem TGStep_fl (X : Array Value) : fillS TGStep_pl X [] = some X := rfl
theorem TGStep_fl_kind (x : GStep) (v : Int) (r : List (Nat × Value)) : fillS TGStep_pl (GSV x) ((0, .int .i64 v) :: r) = fillS TGStep_pl (GSV { x with kind := v }) r := rfl
theorem TGStep_fl_item (x : GStep) (v : Item) (r : List (Nat × Value)) : fillS TGStep_pl (GSV x) ((1, .agg (IV v)) :: r) = fillS TGStep_pl (GSV { x with item := v }) r := by
  show Instr.fill _ _ _ = Instr.fill _ _ _
  rw [fill_cons TGStep_pl (GSV x) (IV v) 1 1 2 r rfl rfl (by show _ ≤ 17; omega), TGStep_put_item]
theorem TGStep_fl_call (x : GStep) (v : Call) (r : List (Nat × Value)) : fillS TGStep_pl (GSV x) ((2, .agg (CV v)) :: r) = fillS TGStep_pl (GSV { x with call := v }) r := by
  show Instr.fill _ _ _ = Instr.fill _ _ _
  rw [fill_cons TGStep_pl (GSV x) (CV v) 2 3 14 r rfl rfl (by show _ ≤ 17; omega), TGStep_put_call]
end Go.Proofs.Ytnjgjhjilolanaa
/- Layer 18: a graph, and the document's, step by step. -/
namespace Go.Proofs.Ytnjgjhjilolanaa
open Go.RowKit Go.Shelf
set_option linter.unusedVariables false
set_option maxRecDepth 20000
attribute [local go_sem] Oper.semAt_some
attribute [local go_sem] row_alloc row_drew row_drewN row_ext row_setCell row_setRow size_ext setRow_alloc setRow_drew loadOf storeOf piece_lit loadVal_at storeVal_at allOne_lit buildOf buildRes_some
attribute [local go_sem high] cell_alloc frozen_alloc setCell_alloc cell_ext frozen_ext cell_setRow frozen_setRow
attribute [local go_sem ↓] TDeed_ld0 TDeed_st0 TDeed_fd0 TDeed_bd0
attribute [local go_sem] TDeed_size TDeed_one TDeed_piece TDeed_c0 TDeed_c1 TDeed_c2 TDeed_c3 TDeed_c4 TDeed_c5 TDeed_set_kind TDeed_set_key TDeed_set_val TDeed_set_ver TDeed_set_ses TDeed_set_num TDeed_ld TDeed_st TDeed_f_kind TDeed_f_key TDeed_f_val TDeed_f_ver TDeed_f_ses TDeed_f_num TDeed_bd TDeed_fl TDeed_fl_kind TDeed_fl_key TDeed_fl_val TDeed_fl_ver TDeed_fl_ses TDeed_fl_num
attribute [local go_sem high] TDeed_eql TDeed_neq
attribute [local go_sem ↓] index_deps0 load_deps0 store_deps0
attribute [local go_sem] DV_piece DV_size DV_one index_deps load_deps store_deps
attribute [local go_sem high] TDeps_eql TDeps_neq
attribute [local go_sem ↓] TCall_ld0 TCall_st0 TCall_fd0 TCall_bd0
attribute [local go_sem] TCall_size TCall_one TCall_piece TCall_c0 TCall_c1 TCall_c2 TCall_c3 TCall_c4 TCall_c5 TCall_c6 TCall_c7 TCall_c8 TCall_c9 TCall_c10 TCall_c11 TCall_c12 TCall_c13 TCall_p_deed TCall_put_deed TCall_p_deps TCall_put_deps TCall_set_seq TCall_ld TCall_st TCall_f_deed TCall_f_deps TCall_f_seq TCall_bd TCall_fl TCall_fl_deed TCall_fl_deps TCall_fl_seq
attribute [local go_sem high] TCall_eql TCall_neq
attribute [local go_sem ↓] TItem_ld0 TItem_st0 TItem_fd0 TItem_bd0
attribute [local go_sem] TItem_size TItem_one TItem_piece TItem_c0 TItem_c1 TItem_set_rep TItem_set_num TItem_ld TItem_st TItem_f_rep TItem_f_num TItem_bd TItem_fl TItem_fl_rep TItem_fl_num
attribute [local go_sem high] TItem_eql TItem_neq
attribute [local go_sem ↓] TGStep_ld0 TGStep_st0 TGStep_fd0 TGStep_bd0
attribute [local go_sem] TGStep_size TGStep_one TGStep_piece TGStep_c0 TGStep_c1 TGStep_c2 TGStep_c3 TGStep_c4 TGStep_c5 TGStep_c6 TGStep_c7 TGStep_c8 TGStep_c9 TGStep_c10 TGStep_c11 TGStep_c12 TGStep_c13 TGStep_c14 TGStep_c15 TGStep_c16 TGStep_set_kind TGStep_p_item TGStep_put_item TGStep_p_call TGStep_put_call TGStep_ld TGStep_st TGStep_f_kind TGStep_f_item TGStep_f_call TGStep_bd TGStep_fl TGStep_fl_kind TGStep_fl_item TGStep_fl_call
attribute [local go_sem high] TGStep_eql TGStep_neq
attribute [local go_sem ↓] itm_slice0
attribute [local go_sem] itm_slice1
theorem cll_slice0 (len : Nat) (parts : Array (Nat × Value)) : Instr.buildSlice 31 len parts = buildSem 31 len parts := rfl
theorem cll_slice1 (w : World) (x : Call) : (buildSem 31 1 #[(0, .agg (CV x))]).run Try.prog w = .ok (.slice (some ⟨w.heap.size, 0, none⟩) 1 1) (w.alloc (.cells (CV x) 47)) :=
  build_slice1 Try.underlying31 (z := .agg (CV noCall)) (n := 14) (by kernel_rfl) (by omega) w rfl (by omega)
theorem itm_sliceB (w : World) (x y : Item) : (buildSem 30 2 #[(0, .agg (IV x)), (1, .agg (IV y))]).run Try.prog w = .ok (.slice (some ⟨w.heap.size, 0, none⟩) 2 2) (w.alloc (.cells (IV x ++ IV y) 35)) :=
  build_slice2 Try.underlying30 (z := .agg (IV noItem)) (n := 2) (by kernel_rfl) (by omega) w rfl rfl (by omega)
theorem doc_build0 (p : Array (Nat × Value)) : Instr.build 33 p = buildS 33 p := rfl
theorem doc_build (w : World) : (buildS 33 #[]).run Try.prog w = .ok (.agg (docC (.slice none 0 0) (.slice none 0 0) (.slice none 0 0))) w := by kernel_rfl
attribute [local go_sem ↓] cll_slice0 doc_build0
attribute [local go_sem] cll_slice1 itm_sliceB doc_build
section
variable {w W : World} {R : List Res}
end
end Go.Proofs.Ytnjgjhjilolanaa
