/- Several texts in one. -/
import Derived.Test.YtahajjfbkdocaaaZ5
import Derived.Test.YtahajjfbkdocaaaZ7
import Derived.Test.YtahajjfbkdocaaaZ18
import Derived.DataReads
/- RRow as a value, as cells: its parts, equality, loads, stores, building. Printed by types.py. -/
namespace Go.Proofs.Ytahajjfbkdocaaa
open Go.RowKit
set_option linter.unusedVariables false
structure RRow where
  rep : Int
  item : Item
  inst : Inst
def RwV (x : RRow) : Array Value := #[.int .i64 x.rep, .int .i64 x.item.rep, .int .i64 x.item.num, .int .i64 x.inst.prom.round, .int .i64 x.inst.prom.rep, .int .i64 x.inst.vote.round, .int .i64 x.inst.vote.rep, .int .i64 x.inst.status, .int .i64 x.inst.call.deed.kind, .string x.inst.call.deed.key, .string x.inst.call.deed.val, .int .i64 x.inst.call.deed.ver, .int .i64 x.inst.call.deed.ses, .int .i64 x.inst.call.deed.num, .int .i64 (x.inst.call.deps 0), .int .i64 (x.inst.call.deps 1), .int .i64 (x.inst.call.deps 2), .int .i64 (x.inst.call.deps 3), .int .i64 (x.inst.call.deps 4), .int .i64 (x.inst.call.deps 5), .int .i64 (x.inst.call.deps 6), .int .i64 x.inst.call.seq, .bool x.inst.same]
def noRRow : RRow := ⟨0, noItem, noInst⟩
section
variable (x y : RRow)
theorem TRRow_size : (RwV x).size = 23 := rfl
theorem TRRow_one : allOne (RwV x) = true := by simp [allOne, RwV, Value.oneCell']
theorem TRRow_piece : piece (RwV x) 0 23 = RwV x := piece_all _ _ rfl
theorem TRRow_c0 : (RwV x)[0]? = some (.int .i64 x.rep) := rfl
theorem TRRow_c1 : (RwV x)[1]? = some (.int .i64 x.item.rep) := rfl
theorem TRRow_c2 : (RwV x)[2]? = some (.int .i64 x.item.num) := rfl
theorem TRRow_c3 : (RwV x)[3]? = some (.int .i64 x.inst.prom.round) := rfl
theorem TRRow_c4 : (RwV x)[4]? = some (.int .i64 x.inst.prom.rep) := rfl
theorem TRRow_c5 : (RwV x)[5]? = some (.int .i64 x.inst.vote.round) := rfl
theorem TRRow_c6 : (RwV x)[6]? = some (.int .i64 x.inst.vote.rep) := rfl
theorem TRRow_c7 : (RwV x)[7]? = some (.int .i64 x.inst.status) := rfl
theorem TRRow_c8 : (RwV x)[8]? = some (.int .i64 x.inst.call.deed.kind) := rfl
theorem TRRow_c9 : (RwV x)[9]? = some (.string x.inst.call.deed.key) := rfl
theorem TRRow_c10 : (RwV x)[10]? = some (.string x.inst.call.deed.val) := rfl
theorem TRRow_c11 : (RwV x)[11]? = some (.int .i64 x.inst.call.deed.ver) := rfl
theorem TRRow_c12 : (RwV x)[12]? = some (.int .i64 x.inst.call.deed.ses) := rfl
theorem TRRow_c13 : (RwV x)[13]? = some (.int .i64 x.inst.call.deed.num) := rfl
theorem TRRow_c14 : (RwV x)[14]? = some (.int .i64 (x.inst.call.deps 0)) := rfl
theorem TRRow_c15 : (RwV x)[15]? = some (.int .i64 (x.inst.call.deps 1)) := rfl
theorem TRRow_c16 : (RwV x)[16]? = some (.int .i64 (x.inst.call.deps 2)) := rfl
theorem TRRow_c17 : (RwV x)[17]? = some (.int .i64 (x.inst.call.deps 3)) := rfl
theorem TRRow_c18 : (RwV x)[18]? = some (.int .i64 (x.inst.call.deps 4)) := rfl
theorem TRRow_c19 : (RwV x)[19]? = some (.int .i64 (x.inst.call.deps 5)) := rfl
theorem TRRow_c20 : (RwV x)[20]? = some (.int .i64 (x.inst.call.deps 6)) := rfl
theorem TRRow_c21 : (RwV x)[21]? = some (.int .i64 x.inst.call.seq) := rfl
theorem TRRow_c22 : (RwV x)[22]? = some (.bool x.inst.same) := rfl
theorem TRRow_set_rep (v : Int) : (RwV x).setIfInBounds 0 (.int .i64 v) = RwV { x with rep := v } := rfl
theorem TRRow_p_item : piece (RwV x) 1 2 = IV x.item := by kernel_rfl
theorem TRRow_put_item (v : Item) : splice (RwV x) 1 (IV v) = RwV { x with item := v } := by kernel_rfl
theorem TRRow_p_inst : piece (RwV x) 3 20 = NV x.inst := by kernel_rfl
theorem TRRow_put_inst (v : Inst) : splice (RwV x) 3 (NV v) = RwV { x with inst := v } := by kernel_rfl
theorem TRRow_deps (i : Nat) (h : i < 7) : (RwV x)[14 + i]? = some (.int .i64 (x.inst.call.deps i)) := by
  match i, h with
  | 0, _ => rfl
  | 1, _ => rfl
  | 2, _ => rfl
  | 3, _ => rfl
  | 4, _ => rfl
  | 5, _ => rfl
  | 6, _ => rfl
theorem TRRow_cat : RwV x = #[.int .i64 x.rep] ++ IV x.item ++ NV x.inst := by kernel_rfl
theorem TRRow_ext : RwV x = RwV y ↔ x.rep = y.rep ∧ IV x.item = IV y.item ∧ NV x.inst = NV y.inst := by
  constructor
  · intro h
    refine ⟨?_, ?_, ?_⟩
    · have := congrArg (·[0]?) h; simpa [TRRow_c0, TRRow_size] using this
    · have := congrArg (fun c => piece c 1 2) h; simpa only [TRRow_p_item] using this
    · have := congrArg (fun c => piece c 3 20) h; simpa only [TRRow_p_inst] using this
  · rintro ⟨h0, h1, h2⟩
    rw [TRRow_cat x, TRRow_cat y, h0, h1, h2]
end
theorem TRRow_und : Try.prog.underlying 42 = some (.struct (Try.prog.fieldsOf 42)) := by kernel_rfl
theorem TRRow_eq (d : Nat) (x y : RRow) (w : World) : (Op.equalIn (d + 5) 42 (.agg (RwV x)) (.agg (RwV y))).run Try.prog w = .ok (eqA (RwV x) (RwV y)) w := by
  refine eq_struct (d := d + 4) (L := [(3, 0, x.rep == y.rep), (28, 1, eqA (IV x.item) (IV y.item)), (38, 3, eqA (NV x.inst) (NV y.inst))]) TRRow_und (by kernel_rfl) (by kernel_rfl) ?_ ?_ w
  · simp only [List.forall_mem_cons]
    exact ⟨⟨_, _, part_cell Try.underlying3 rfl (by kernel_rfl) (TRRow_c0 x), part_cell Try.underlying3 rfl (by kernel_rfl) (TRRow_c0 y), fun w => run_equalIn_int w (d + 3) _ _ _ _ _ Try.underlying3⟩, ⟨_, _, fun w => by rw [part_row TItem_und rfl (by kernel_rfl) (n := 2), TRRow_p_item], fun w => by rw [part_row TItem_und rfl (by kernel_rfl) (n := 2), TRRow_p_item], fun w => TItem_eq (d + 2) x.item y.item w⟩, ⟨_, _, fun w => by rw [part_row TInst_und rfl (by kernel_rfl) (n := 20), TRRow_p_inst], fun w => by rw [part_row TInst_und rfl (by kernel_rfl) (n := 20), TRRow_p_inst], fun w => TInst_eq (d + 0) x.inst y.inst w⟩, by simp⟩
  · refine eqA_of ?_
    rw [TRRow_ext]
    simp [eqA_iff]
theorem TRRow_eql (x y : RRow) (w : World) : (binOp .eql 42 (.agg (RwV x)) (.agg (RwV y))).run Try.prog w = .ok (.bool (eqA (RwV x) (RwV y))) w := eql_of (TRRow_eq 9995 x y) w
theorem TRRow_neq (x y : RRow) (w : World) : (binOp .neq 42 (.agg (RwV x)) (.agg (RwV y))).run Try.prog w = .ok (.bool (!eqA (RwV x) (RwV y))) w := neq_of (TRRow_eq 9995 x y) w
theorem TRRow_ld0 (v : Value) : Instr.loadAt 42 v = loadSem 42 v := rfl
theorem TRRow_st0 (v u : Value) : Instr.storeAt 42 v u = storeSem 42 v u := rfl
theorem TRRow_fd0 (x : Value) (i : Nat) : Instr.field 42 x i = fieldSem 42 x i := rfl
theorem TRRow_bd0 (p : Array (Nat × Value)) : Instr.build 42 p = buildS 42 p := rfl
theorem TRRow_ld (w : World) (v : Value) : (loadSem 42 v).run Try.prog w = loadVal Try.prog 42 23 w v := load_val TRRow_und rfl (by kernel_rfl) w v
theorem TRRow_st (w : World) (v u : Value) : (storeSem 42 v u).run Try.prog w = storeVal Try.prog 42 23 w v u := store_val (by kernel_rfl) w v u
theorem TRRow_f_rep (x : RRow) (w : World) : (fieldSem 42 (.agg (RwV x)) 0).run Try.prog w = .ok (.int .i64 x.rep) w := field_of TRRow_und (by kernel_rfl) (part_cell Try.underlying3 rfl (by kernel_rfl) (TRRow_c0 x)) w
theorem TRRow_f_item (x : RRow) (w : World) : (fieldSem 42 (.agg (RwV x)) 1).run Try.prog w = .ok (.agg (IV x.item)) w := field_of TRRow_und (by kernel_rfl) (fun w => by rw [part_row TItem_und rfl (by kernel_rfl) (n := 2), TRRow_p_item]) w
theorem TRRow_f_inst (x : RRow) (w : World) : (fieldSem 42 (.agg (RwV x)) 2).run Try.prog w = .ok (.agg (NV x.inst)) w := field_of TRRow_und (by kernel_rfl) (fun w => by rw [part_row TInst_und rfl (by kernel_rfl) (n := 20), TRRow_p_inst]) w
def TRRow_pl : Nat → Option (Nat × Nat) := fun i => (#[(0, 1), (1, 2), (3, 20)] : Array (Nat × Nat))[i]?
theorem TRRow_bd (w : World) (p : Array (Nat × Value)) : (buildS 42 p).run Try.prog w = buildOf Try.prog 42 TRRow_pl (RwV noRRow) p w := build_struct TRRow_und (by kernel_rfl) (fun w => by kernel_rfl) w p
theorem TRRow_fl (X : Array Value) : fillS TRRow_pl X [] = some X := rfl
theorem TRRow_fl_rep (x : RRow) (v : Int) (r : List (Nat × Value)) : fillS TRRow_pl (RwV x) ((0, .int .i64 v) :: r) = fillS TRRow_pl (RwV { x with rep := v }) r := rfl
theorem TRRow_fl_item (x : RRow) (v : Item) (r : List (Nat × Value)) : fillS TRRow_pl (RwV x) ((1, .agg (IV v)) :: r) = fillS TRRow_pl (RwV { x with item := v }) r := by
  show Instr.fill _ _ _ = Instr.fill _ _ _
  rw [fill_cons TRRow_pl (RwV x) (IV v) 1 1 2 r rfl rfl (by show _ ≤ 23; omega), TRRow_put_item]
theorem TRRow_fl_inst (x : RRow) (v : Inst) (r : List (Nat × Value)) : fillS TRRow_pl (RwV x) ((2, .agg (NV v)) :: r) = fillS TRRow_pl (RwV { x with inst := v }) r := by
  show Instr.fill _ _ _ = Instr.fill _ _ _
  rw [fill_cons TRRow_pl (RwV x) (NV v) 2 3 20 r rfl rfl (by show _ ≤ 23; omega), TRRow_put_inst]
theorem TRRow_ret {fn : Func} {R : Ending → World → Prop} {a : Act} {w : World} {p : Tmp} (x : RRow) {g : Nat} (hr : fn.results = #[.cell p 42]) (hp : a.tmps.getD p undef = .pointer (some ⟨g, 0, none⟩)) (hdf : a.defers = []) (hrow : row? w g = some (RwV x)) (hR : R (.returned (.agg (RwV x))) w) : bodyPost Try.prog fn R .ret a w :=
  ret_row (RwV x) TRRow_und rfl (by kernel_rfl) hr hp hdf (TRRow_size x) hrow hR
end Go.Proofs.Ytahajjfbkdocaaa
/- Layer 24, the document: is a row the first one of its replica's item? -/
namespace Go.Proofs.Ytahajjfbkdocaaa
open Go.RowKit
set_option linter.unusedVariables false
attribute [local go_sem] row_alloc row_drew row_drewN row_ext row_setCell row_setRow size_ext setRow_alloc setRow_drew loadOf storeOf piece_lit loadVal_at storeVal_at allOne_lit buildOf buildRes_some
attribute [local go_sem high] cell_alloc frozen_alloc setCell_alloc cell_ext frozen_ext cell_setRow frozen_setRow
attribute [local go_sem ↓] TDeed_ld0 TDeed_st0 TDeed_fd0 TDeed_bd0
attribute [local go_sem] TDeed_size TDeed_one TDeed_piece TDeed_c0 TDeed_c1 TDeed_c2 TDeed_c3 TDeed_c4 TDeed_c5 TDeed_set_kind TDeed_set_key TDeed_set_val TDeed_set_ver TDeed_set_ses TDeed_set_num TDeed_ld TDeed_st TDeed_f_kind TDeed_f_key TDeed_f_val TDeed_f_ver TDeed_f_ses TDeed_f_num TDeed_bd TDeed_fl TDeed_fl_kind TDeed_fl_key TDeed_fl_val TDeed_fl_ver TDeed_fl_ses TDeed_fl_num
attribute [local go_sem high] TDeed_eql TDeed_neq
attribute [local go_sem ↓] index_deps0 load_deps0 store_deps0
attribute [local go_sem] DV_piece DV_size DV_one index_deps load_deps store_deps
attribute [local go_sem high] TDeps_eql TDeps_neq
attribute [local go_sem ↓] TCall_ld0 TCall_st0 TCall_fd0 TCall_bd0
attribute [local go_sem] TCall_size TCall_one TCall_piece TCall_c0 TCall_c1 TCall_c2 TCall_c3 TCall_c4 TCall_c5 TCall_c6 TCall_c7 TCall_c8 TCall_c9 TCall_c10 TCall_c11 TCall_c12 TCall_c13 TCall_p_deed TCall_put_deed TCall_p_deps TCall_put_deps TCall_set_seq TCall_ld TCall_st TCall_f_deed TCall_f_deps TCall_f_seq TCall_bd TCall_fl TCall_fl_deed TCall_fl_deps TCall_fl_seq
attribute [local go_sem high] TCall_eql TCall_neq
attribute [local go_sem ↓] TItem_ld0 TItem_st0 TItem_fd0 TItem_bd0
attribute [local go_sem] TItem_size TItem_one TItem_piece TItem_c0 TItem_c1 TItem_set_rep TItem_set_num TItem_ld TItem_st TItem_f_rep TItem_f_num TItem_bd TItem_fl TItem_fl_rep TItem_fl_num
attribute [local go_sem high] TItem_eql TItem_neq
attribute [local go_sem ↓] TBallot_ld0 TBallot_st0 TBallot_fd0 TBallot_bd0
attribute [local go_sem] TBallot_size TBallot_one TBallot_piece TBallot_c0 TBallot_c1 TBallot_set_round TBallot_set_rep TBallot_ld TBallot_st TBallot_f_round TBallot_f_rep TBallot_bd TBallot_fl TBallot_fl_round TBallot_fl_rep
attribute [local go_sem high] TBallot_eql TBallot_neq
attribute [local go_sem ↓] TInst_ld0 TInst_st0 TInst_fd0 TInst_bd0
attribute [local go_sem] TInst_size TInst_one TInst_piece TInst_c0 TInst_c1 TInst_c2 TInst_c3 TInst_c4 TInst_c5 TInst_c6 TInst_c7 TInst_c8 TInst_c9 TInst_c10 TInst_c11 TInst_c12 TInst_c13 TInst_c14 TInst_c15 TInst_c16 TInst_c17 TInst_c18 TInst_c19 TInst_p_prom TInst_put_prom TInst_p_vote TInst_put_vote TInst_set_status TInst_p_call TInst_put_call TInst_set_same TInst_ld TInst_st TInst_f_prom TInst_f_vote TInst_f_status TInst_f_call TInst_f_same TInst_bd TInst_fl TInst_fl_prom TInst_fl_vote TInst_fl_status TInst_fl_call TInst_fl_same
attribute [local go_sem high] TInst_eql TInst_neq
attribute [local go_sem ↓] TRRow_ld0 TRRow_st0 TRRow_fd0 TRRow_bd0
attribute [local go_sem] TRRow_size TRRow_one TRRow_piece TRRow_c0 TRRow_c1 TRRow_c2 TRRow_c3 TRRow_c4 TRRow_c5 TRRow_c6 TRRow_c7 TRRow_c8 TRRow_c9 TRRow_c10 TRRow_c11 TRRow_c12 TRRow_c13 TRRow_c14 TRRow_c15 TRRow_c16 TRRow_c17 TRRow_c18 TRRow_c19 TRRow_c20 TRRow_c21 TRRow_c22 TRRow_set_rep TRRow_p_item TRRow_put_item TRRow_p_inst TRRow_put_inst TRRow_ld TRRow_st TRRow_f_rep TRRow_f_item TRRow_f_inst TRRow_bd TRRow_fl TRRow_fl_rep TRRow_fl_item TRRow_fl_inst
attribute [local go_sem high] TRRow_eql TRRow_neq
attribute [-go_sem] loadOf
section
variable {α : Type} {w W : World} {n : Nat} {V : α → Array Value} {l : List α} {P : Program} {T : TypeId} {d : TypeDesc} {g j : Nat}
/-- A part of a thing of such a slice, loaded whole. -/
theorem RowsIn.part (h : RowsIn w (some ⟨g, 0, none⟩) n V l) (hb : Below w.heap.size w W) (hj : j < l.length) (o m : Nat) (X : Array Value) (hX : ∀ i v, X[i]? = some v → (V l[j])[o + i]? = some v) (hm : X.size = m) (hu : P.underlying T = some d) (hd : d.isRow = true) (hi : (P.info? T).map (·.size) = some m) :
    loadOf P T m W g (j * n + o) = .ok (.agg X) W := by
  rw [← loadVal_at, ← load_val hu hd hi]
  refine loadAt_cells W _ _ (fun i v hv => ?_) hu hd (by rw [hi, hm])
  have hc := h.cell _ rfl j hj (o + i) v (hX i v hv)
  rw [add_none, add_none, Nat.zero_add] at hc
  rw [add_none, Nat.add_assoc]
  exact (hb.cell (World.block_lt_of_cell? w _ hc)).trans hc
/-- A cell of a thing of such a slice. -/
theorem RowsIn.one (h : RowsIn w (some ⟨g, 0, none⟩) n V l) (hb : Below w.heap.size w W) (hj : j < l.length) (o : Nat) (v : Value) (hv : (V l[j])[o]? = some v) : W.cell? ⟨g, j * n + o, none⟩ = some v := by
  have hc := h.cell _ rfl j hj o v hv
  rw [add_none, add_none, Nat.zero_add] at hc
  exact (hb.cell (World.block_lt_of_cell? w _ hc)).trans hc
end
noncomputable def sameRow (a b : RRow) : Bool := a.rep == b.rep && eqA (IV a.item) (IV b.item) && goodI a.item 7
noncomputable def firstB (l : List RRow) (x : RRow) : Bool := !l.any fun r => sameRow r x
set_option maxHeartbeats 4000000 in
theorem first_any (g c : Nat) (l : List RRow) (k : Nat) (hk : k < l.length) (w W : World) (R : List Res) (hx : RowsIn w (some ⟨g, 0, none⟩) 23 RwV l) (T : Sts w (fun _ => False) W R) :
    Calls Try.prog 14 #[.slice (some ⟨g, 0, none⟩) l.length c, .int .i64 k] W fun e W' => e = .returned (.bool (firstB (l.take k) l[k])) ∧ Sts w (fun _ => False) W' R := by
  have hll := hx.len
  have hok : l[k]? = some l[k] := List.getElem?_eq_getElem hk
  have k1 := fun W' (hb : Below w.heap.size w W') => hx.one hb hk 0 (.int .i64 l[k].rep) rfl
  have k2 := fun W' (hb : Below w.heap.size w W') => hx.part (P := Try.prog) (T := 28) hb hk 1 2 (IV l[k].item) (fun i v h => by match i with | 0 => exact h | 1 => exact h | (i + 2) => cases h) rfl TItem_und rfl (by kernel_rfl)
  have K1 := Lib.hid k1; have K2 := Lib.hid k2; clear k1 k2
  generalize l[k] = q at *
  go_enter Try.func14, Try.ntmps14
  go_wp2_with fail
  go_loopw [5] (fun i wr => ∃ j : Nat, j ≤ k ∧ i = .int .i64 j ∧ (l.take j).any (fun r => sameRow r q) = false ∧ Sts w (fun _ => False) wr R) (fun i _ => k - (intOf i).toNat)
  case atStart => exact ⟨0, by omega, rfl, rfl, T⟩
  case round =>
    clear T
    obtain ⟨j, hj0, rfl, hno, T⟩ := hrel
    by_cases hjk : j < k
    · have hjl : j < l.length := by omega
      have f1 := fun x => K1.out (ext wr x) (T.ext x).below
      have f2 := fun x => K2.out (ext wr x) (T.ext x).below
      have f3 := fun x => hx.one (T.ext x).below hjl 0 (.int .i64 l[j].rep) rfl
      have f4 := fun x => hx.part (P := Try.prog) (T := 28) (T.ext x).below hjl 1 2 (IV l[j].item) (fun i v h => by match i with | 0 => exact h | 1 => exact h | (i + 2) => cases h) rfl TItem_und rfl (by kernel_rfl)
      have hmem : l[j] ∈ l.take k := List.mem_take_iff_getElem.2 ⟨j, by omega, rfl⟩
      have hoj : l[j]? = some l[j] := List.getElem?_eq_getElem hjl
      generalize l[j] = p at *
      simp only [Nat.add_zero] at f1 f3
      have cg := ritemGood_any p.item 7
      have hcg := Lib.hid cg; clear cg
      cases h1 : (p.rep == q.rep)
      case false =>
        have hss : sameRow p q = false := by unfold sameRow; simp [h1]
        go_upto_region 4 with fail
        refine wp_region_ext (by kernel_rfl) (by kernel_rfl) ?_
        repeat (go_big_quiet_step (first | (go_at_call 13; exact hcg.out.quiet)))
        refine wpQuiet_nil ?_
        rintro _ ⟨x9, rfl⟩
        have T := T.ext x9
        clear hcg f1 f2 f3 f4
        generalize ext _ x9 = w1 at *
        go_wp2
        go_roundw
        case rel => exact ⟨j + 1, by omega, by go_num, by rw [List.take_add_one, hoj, List.any_append, hno]; simp [hss], T⟩
        case measure => simp [intOf]; omega
      case true =>
        cases h2 : eqA (IV p.item) (IV q.item)
        case false =>
          have hss : sameRow p q = false := by unfold sameRow; simp [h1, h2]
          go_upto_region 4 with fail
          refine wp_region_ext (by kernel_rfl) (by kernel_rfl) ?_
          repeat (go_big_quiet_step (first | (go_at_call 13; exact hcg.out.quiet)))
          refine wpQuiet_nil ?_
          rintro _ ⟨x9, rfl⟩
          have T := T.ext x9
          clear hcg f1 f2 f3 f4
          generalize ext _ x9 = w1 at *
          go_wp2
          go_roundw
          case rel => exact ⟨j + 1, by omega, by go_num, by rw [List.take_add_one, hoj, List.any_append, hno]; simp [hss], T⟩
          case measure => simp [intOf]; omega
        case true =>
          cases h3 : goodI p.item 7
          all_goals rw [h3] at hcg
          case false =>
            have hss : sameRow p q = false := by unfold sameRow; simp [h1, h2, h3]
            go_upto_region 4 with fail
            refine wp_region_ext (by kernel_rfl) (by kernel_rfl) ?_
            repeat (go_big_quiet_step (first | (go_at_call 13; exact hcg.out.quiet)))
            refine wpQuiet_nil ?_
            rintro _ ⟨x9, rfl⟩
            have T := T.ext x9
            clear hcg f1 f2 f3 f4
            generalize ext _ x9 = w1 at *
            go_wp2
            go_roundw
            case rel => exact ⟨j + 1, by omega, by go_num, by rw [List.take_add_one, hoj, List.any_append, hno]; simp [hss], T⟩
            case measure => simp [intOf]; omega
          case true =>
            have hss : sameRow p q = true := by unfold sameRow; simp [h1, h2, h3]
            have hm : firstB (l.take k) q = false := by
              unfold firstB
              rw [Bool.not_eq_false', List.any_eq_true]
              exact ⟨p, hmem, hss⟩
            have HM := Lib.hid hm; clear hm
            go_upto_region 4 with fail
            refine wp_region_ext (by kernel_rfl) (by kernel_rfl) ?_
            repeat (go_big_quiet_step (first | (go_at_call 13; exact hcg.out.quiet)))
            refine wpQuiet_nil ?_
            rintro _ ⟨x9, rfl⟩
            have T := T.ext x9
            clear hcg f1 f2 f3 f4
            generalize ext _ x9 = w1 at *
            go_wp2
            try simp only [Exit.inBlock, Exit.then]
            go_ret
            exact ⟨by rw [HM.out]; rfl, T⟩
    · obtain rfl : j = k := by omega
      have hm : firstB (l.take j) q = true := by unfold firstB; rw [hno]; rfl
      have HM := Lib.hid hm; clear hm
      go_wp2
      try simp only [Exit.inBlock, Exit.then]
      go_ret
      exact ⟨by rw [HM.out]; rfl, T⟩
end Go.Proofs.Ytahajjfbkdocaaa
