/- Several texts in one. -/
import Derived.Test.YtpganpiidgkofaaZ5
import Derived.Test.YtpganpiidgkofaaZ7
import Derived.Test.YtpganpiidgkofaaZ2
import Derived.Test.YtpganpiidgkofaaZ6
import Derived.SizedLaws
/- LCall as a value, as cells: its parts, equality, loads, stores, building. Printed by types.py. -/
namespace Go.Proofs.Ytpganpiidgkofaa
open Go.RowKit
set_option linter.unusedVariables false
structure LCall where
  kind : Int
  item : Item
  inst : Inst
  keep : Int
  spoil : Int
def LCV (x : LCall) : Array Value := #[.int .i64 x.kind, .int .i64 x.item.rep, .int .i64 x.item.num, .int .i64 x.inst.prom.round, .int .i64 x.inst.prom.rep, .int .i64 x.inst.vote.round, .int .i64 x.inst.vote.rep, .int .i64 x.inst.status, .int .i64 x.inst.call.deed.kind, .string x.inst.call.deed.key, .string x.inst.call.deed.val, .int .i64 x.inst.call.deed.ver, .int .i64 x.inst.call.deed.ses, .int .i64 x.inst.call.deed.num, .int .i64 (x.inst.call.deps 0), .int .i64 (x.inst.call.deps 1), .int .i64 (x.inst.call.deps 2), .int .i64 (x.inst.call.deps 3), .int .i64 (x.inst.call.deps 4), .int .i64 (x.inst.call.deps 5), .int .i64 (x.inst.call.deps 6), .int .i64 x.inst.call.seq, .bool x.inst.same, .int .i64 x.keep, .int .u8 x.spoil]
def noLCall : LCall := ⟨0, noItem, noInst, 0, 0⟩
section
variable (x y : LCall)
theorem TLCall_size : (LCV x).size = 25 := rfl
theorem TLCall_one : allOne (LCV x) = true := by simp [allOne, LCV, Value.oneCell']
theorem TLCall_piece : piece (LCV x) 0 25 = LCV x := piece_all _ _ rfl
theorem TLCall_c0 : (LCV x)[0]? = some (.int .i64 x.kind) := rfl
theorem TLCall_c1 : (LCV x)[1]? = some (.int .i64 x.item.rep) := rfl
theorem TLCall_c2 : (LCV x)[2]? = some (.int .i64 x.item.num) := rfl
theorem TLCall_c3 : (LCV x)[3]? = some (.int .i64 x.inst.prom.round) := rfl
theorem TLCall_c4 : (LCV x)[4]? = some (.int .i64 x.inst.prom.rep) := rfl
theorem TLCall_c5 : (LCV x)[5]? = some (.int .i64 x.inst.vote.round) := rfl
theorem TLCall_c6 : (LCV x)[6]? = some (.int .i64 x.inst.vote.rep) := rfl
theorem TLCall_c7 : (LCV x)[7]? = some (.int .i64 x.inst.status) := rfl
theorem TLCall_c8 : (LCV x)[8]? = some (.int .i64 x.inst.call.deed.kind) := rfl
theorem TLCall_c9 : (LCV x)[9]? = some (.string x.inst.call.deed.key) := rfl
theorem TLCall_c10 : (LCV x)[10]? = some (.string x.inst.call.deed.val) := rfl
theorem TLCall_c11 : (LCV x)[11]? = some (.int .i64 x.inst.call.deed.ver) := rfl
theorem TLCall_c12 : (LCV x)[12]? = some (.int .i64 x.inst.call.deed.ses) := rfl
theorem TLCall_c13 : (LCV x)[13]? = some (.int .i64 x.inst.call.deed.num) := rfl
theorem TLCall_c14 : (LCV x)[14]? = some (.int .i64 (x.inst.call.deps 0)) := rfl
theorem TLCall_c15 : (LCV x)[15]? = some (.int .i64 (x.inst.call.deps 1)) := rfl
theorem TLCall_c16 : (LCV x)[16]? = some (.int .i64 (x.inst.call.deps 2)) := rfl
theorem TLCall_c17 : (LCV x)[17]? = some (.int .i64 (x.inst.call.deps 3)) := rfl
theorem TLCall_c18 : (LCV x)[18]? = some (.int .i64 (x.inst.call.deps 4)) := rfl
theorem TLCall_c19 : (LCV x)[19]? = some (.int .i64 (x.inst.call.deps 5)) := rfl
theorem TLCall_c20 : (LCV x)[20]? = some (.int .i64 (x.inst.call.deps 6)) := rfl
theorem TLCall_c21 : (LCV x)[21]? = some (.int .i64 x.inst.call.seq) := rfl
theorem TLCall_c22 : (LCV x)[22]? = some (.bool x.inst.same) := rfl
theorem TLCall_c23 : (LCV x)[23]? = some (.int .i64 x.keep) := rfl
theorem TLCall_c24 : (LCV x)[24]? = some (.int .u8 x.spoil) := rfl
theorem TLCall_set_kind (v : Int) : (LCV x).setIfInBounds 0 (.int .i64 v) = LCV { x with kind := v } := rfl
theorem TLCall_p_item : piece (LCV x) 1 2 = IV x.item := by kernel_rfl
theorem TLCall_put_item (v : Item) : splice (LCV x) 1 (IV v) = LCV { x with item := v } := by kernel_rfl
theorem TLCall_p_inst : piece (LCV x) 3 20 = NV x.inst := by kernel_rfl
theorem TLCall_put_inst (v : Inst) : splice (LCV x) 3 (NV v) = LCV { x with inst := v } := by kernel_rfl
theorem TLCall_set_keep (v : Int) : (LCV x).setIfInBounds 23 (.int .i64 v) = LCV { x with keep := v } := rfl
theorem TLCall_set_spoil (v : Int) : (LCV x).setIfInBounds 24 (.int .u8 v) = LCV { x with spoil := v } := rfl
theorem TLCall_deps (i : Nat) (h : i < 7) : (LCV x)[14 + i]? = some (.int .i64 (x.inst.call.deps i)) := by
  match i, h with
  | 0, _ => rfl
  | 1, _ => rfl
  | 2, _ => rfl
  | 3, _ => rfl
  | 4, _ => rfl
  | 5, _ => rfl
  | 6, _ => rfl
theorem TLCall_cat : LCV x = #[.int .i64 x.kind] ++ IV x.item ++ NV x.inst ++ #[.int .i64 x.keep] ++ #[.int .u8 x.spoil] := by kernel_rfl
theorem TLCall_ext : LCV x = LCV y ↔ x.kind = y.kind ∧ IV x.item = IV y.item ∧ NV x.inst = NV y.inst ∧ x.keep = y.keep ∧ x.spoil = y.spoil := by
  constructor
  · intro h
    refine ⟨?_, ?_, ?_, ?_, ?_⟩
    · have := congrArg (·[0]?) h; simpa [TLCall_c0, TLCall_size] using this
    · have := congrArg (fun c => piece c 1 2) h; simpa only [TLCall_p_item] using this
    · have := congrArg (fun c => piece c 3 20) h; simpa only [TLCall_p_inst] using this
    · have := congrArg (·[23]?) h; simpa [TLCall_c23, TLCall_size] using this
    · have := congrArg (·[24]?) h; simpa [TLCall_c24, TLCall_size] using this
  · rintro ⟨h0, h1, h2, h3, h4⟩
    rw [TLCall_cat x, TLCall_cat y, h0, h1, h2, h3, h4]
end
theorem TLCall_und : Try.prog.underlying 62 = some (.struct (Try.prog.fieldsOf 62)) := by kernel_rfl
theorem TLCall_eq (d : Nat) (x y : LCall) (w : World) : (Op.equalIn (d + 5) 62 (.agg (LCV x)) (.agg (LCV y))).run Try.prog w = .ok (eqA (LCV x) (LCV y)) w := by
  refine eq_struct (d := d + 4) (L := [(3, 0, x.kind == y.kind), (42, 1, eqA (IV x.item) (IV y.item)), (39, 3, eqA (NV x.inst) (NV y.inst)), (3, 23, x.keep == y.keep), (5, 24, x.spoil == y.spoil)]) TLCall_und (by kernel_rfl) (by kernel_rfl) ?_ ?_ w
  · simp only [List.forall_mem_cons]
    exact ⟨⟨_, _, part_cell Try.underlying3 rfl (by kernel_rfl) (TLCall_c0 x), part_cell Try.underlying3 rfl (by kernel_rfl) (TLCall_c0 y), fun w => run_equalIn_int w (d + 3) _ _ _ _ _ Try.underlying3⟩, ⟨_, _, fun w => by rw [part_row TItem_und rfl (by kernel_rfl) (n := 2), TLCall_p_item], fun w => by rw [part_row TItem_und rfl (by kernel_rfl) (n := 2), TLCall_p_item], fun w => TItem_eq (d + 2) x.item y.item w⟩, ⟨_, _, fun w => by rw [part_row TInst_und rfl (by kernel_rfl) (n := 20), TLCall_p_inst], fun w => by rw [part_row TInst_und rfl (by kernel_rfl) (n := 20), TLCall_p_inst], fun w => TInst_eq (d + 0) x.inst y.inst w⟩, ⟨_, _, part_cell Try.underlying3 rfl (by kernel_rfl) (TLCall_c23 x), part_cell Try.underlying3 rfl (by kernel_rfl) (TLCall_c23 y), fun w => run_equalIn_int w (d + 3) _ _ _ _ _ Try.underlying3⟩, ⟨_, _, part_cell Try.underlying5 rfl (by kernel_rfl) (TLCall_c24 x), part_cell Try.underlying5 rfl (by kernel_rfl) (TLCall_c24 y), fun w => run_equalIn_int w (d + 3) _ _ _ _ _ Try.underlying5⟩, by simp⟩
  · refine eqA_of ?_
    rw [TLCall_ext]
    simp [eqA_iff]
theorem TLCall_eql (x y : LCall) (w : World) : (binOp .eql 62 (.agg (LCV x)) (.agg (LCV y))).run Try.prog w = .ok (.bool (eqA (LCV x) (LCV y))) w := eql_of (TLCall_eq 9995 x y) w
theorem TLCall_neq (x y : LCall) (w : World) : (binOp .neq 62 (.agg (LCV x)) (.agg (LCV y))).run Try.prog w = .ok (.bool (!eqA (LCV x) (LCV y))) w := neq_of (TLCall_eq 9995 x y) w
theorem TLCall_ld0 (v : Value) : Instr.loadAt 62 v = loadSem 62 v := rfl
theorem TLCall_st0 (v u : Value) : Instr.storeAt 62 v u = storeSem 62 v u := rfl
theorem TLCall_fd0 (x : Value) (i : Nat) : Instr.field 62 x i = fieldSem 62 x i := rfl
theorem TLCall_bd0 (p : Array (Nat × Value)) : Instr.build 62 p = buildS 62 p := rfl
theorem TLCall_ld (w : World) (v : Value) : (loadSem 62 v).run Try.prog w = loadVal Try.prog 62 25 w v := load_val TLCall_und rfl (by kernel_rfl) w v
theorem TLCall_st (w : World) (v u : Value) : (storeSem 62 v u).run Try.prog w = storeVal Try.prog 62 25 w v u := store_val (by kernel_rfl) w v u
theorem TLCall_f_kind (x : LCall) (w : World) : (fieldSem 62 (.agg (LCV x)) 0).run Try.prog w = .ok (.int .i64 x.kind) w := field_of TLCall_und (by kernel_rfl) (part_cell Try.underlying3 rfl (by kernel_rfl) (TLCall_c0 x)) w
theorem TLCall_f_item (x : LCall) (w : World) : (fieldSem 62 (.agg (LCV x)) 1).run Try.prog w = .ok (.agg (IV x.item)) w := field_of TLCall_und (by kernel_rfl) (fun w => by rw [part_row TItem_und rfl (by kernel_rfl) (n := 2), TLCall_p_item]) w
theorem TLCall_f_inst (x : LCall) (w : World) : (fieldSem 62 (.agg (LCV x)) 2).run Try.prog w = .ok (.agg (NV x.inst)) w := field_of TLCall_und (by kernel_rfl) (fun w => by rw [part_row TInst_und rfl (by kernel_rfl) (n := 20), TLCall_p_inst]) w
theorem TLCall_f_keep (x : LCall) (w : World) : (fieldSem 62 (.agg (LCV x)) 3).run Try.prog w = .ok (.int .i64 x.keep) w := field_of TLCall_und (by kernel_rfl) (part_cell Try.underlying3 rfl (by kernel_rfl) (TLCall_c23 x)) w
theorem TLCall_f_spoil (x : LCall) (w : World) : (fieldSem 62 (.agg (LCV x)) 4).run Try.prog w = .ok (.int .u8 x.spoil) w := field_of TLCall_und (by kernel_rfl) (part_cell Try.underlying5 rfl (by kernel_rfl) (TLCall_c24 x)) w
def TLCall_pl : Nat → Option (Nat × Nat) := fun i => (#[(0, 1), (1, 2), (3, 20), (23, 1), (24, 1)] : Array (Nat × Nat))[i]?
theorem TLCall_bd (w : World) (p : Array (Nat × Value)) : (buildS 62 p).run Try.prog w = buildOf Try.prog 62 TLCall_pl (LCV noLCall) p w := build_struct TLCall_und (by kernel_rfl) (fun w => by kernel_rfl) w p
theorem TLCall_fl (X : Array Value) : fillS TLCall_pl X [] = some X := rfl
theorem TLCall_fl_kind (x : LCall) (v : Int) (r : List (Nat × Value)) : fillS TLCall_pl (LCV x) ((0, .int .i64 v) :: r) = fillS TLCall_pl (LCV { x with kind := v }) r := rfl
theorem TLCall_fl_item (x : LCall) (v : Item) (r : List (Nat × Value)) : fillS TLCall_pl (LCV x) ((1, .agg (IV v)) :: r) = fillS TLCall_pl (LCV { x with item := v }) r := by
  show Instr.fill _ _ _ = Instr.fill _ _ _
  rw [fill_cons TLCall_pl (LCV x) (IV v) 1 1 2 r rfl rfl (by show _ ≤ 25; omega), TLCall_put_item]
theorem TLCall_fl_inst (x : LCall) (v : Inst) (r : List (Nat × Value)) : fillS TLCall_pl (LCV x) ((2, .agg (NV v)) :: r) = fillS TLCall_pl (LCV { x with inst := v }) r := by
  show Instr.fill _ _ _ = Instr.fill _ _ _
  rw [fill_cons TLCall_pl (LCV x) (NV v) 2 3 20 r rfl rfl (by show _ ≤ 25; omega), TLCall_put_inst]
theorem TLCall_fl_keep (x : LCall) (v : Int) (r : List (Nat × Value)) : fillS TLCall_pl (LCV x) ((3, .int .i64 v) :: r) = fillS TLCall_pl (LCV { x with keep := v }) r := rfl
theorem TLCall_fl_spoil (x : LCall) (v : Int) (r : List (Nat × Value)) : fillS TLCall_pl (LCV x) ((4, .int .u8 v) :: r) = fillS TLCall_pl (LCV { x with spoil := v }) r := rfl
theorem TLCall_ret {fn : Func} {R : Ending → World → Prop} {a : Act} {w : World} {p : Tmp} (x : LCall) {g : Nat} (hr : fn.results = #[.cell p 62]) (hp : a.tmps.getD p undef = .pointer (some ⟨g, 0, none⟩)) (hdf : a.defers = []) (hrow : row? w g = some (LCV x)) (hR : R (.returned (.agg (LCV x))) w) : bodyPost Try.prog fn R .ret a w :=
  ret_row (LCV x) TLCall_und rfl (by kernel_rfl) hr hp hdf (TLCall_size x) hrow hR
end Go.Proofs.Ytpganpiidgkofaa
/- What comes in as Item. Printed by types.py. -/
namespace Go.Proofs.Ytpganpiidgkofaa
open Go.ChangeShapes Go.WideShapes Go.ChangeAt Go.RowKit Go.WideMaps Go.WideElems Go.Joins
open Go.ChangeMaps (open_string)
set_option linter.unusedVariables false
set_option maxRecDepth 20000
structure ItemFits (x : Item) : Prop where
  rep : Fits x.rep
  num : Fits x.num
section
variable {H : Type} {enc : TypeId × Value → H} {w : World} {base : Nat} {sp : Nat → Bool} {held : Bool} {r : Reach} {b0 : Nat} {v : Value} {d : DataW H} {p : List MemPlace}
theorem trod_Item {fuel : Nat} {cs : List Value} {x : DataW H × List MemPlace} (h : DataW.trod enc Try.prog w base sp held fuel 42 cs = some x) :
    ∃ X : Item, cs = (IV X).toList ∧ ItemFits X := by
  obtain ⟨xs, n, _, hx, hlen, hxl, hg⟩ := DataW.trod_struct Try.underlying42 h
  have hC : Try.prog.cellsOf 42 = 2 := by kernel_rfl
  rw [hC] at hlen
  match xs, hxl with
  | [y0, y1], _ =>
    subst hx
    have c0 : Try.prog.cellsOf 3 = 1 := by kernel_rfl
    have g0 : DataW.trod enc Try.prog w base sp held n 3 ((cs.drop 0).take (Try.prog.cellsOf 3)) = some y0 := hg 0 _ rfl
    rw [c0] at g0
    obtain ⟨n0, e0, f0, w0⟩ := DataW.trod_int Try.underlying3 g0
    have c1 : Try.prog.cellsOf 3 = 1 := by kernel_rfl
    have g1 : DataW.trod enc Try.prog w base sp held n 3 ((cs.drop 1).take (Try.prog.cellsOf 3)) = some y1 := hg 1 _ rfl
    rw [c1] at g1
    obtain ⟨n1, e1, f1, w1⟩ := DataW.trod_int Try.underlying3 g1
    have ee : cs = (cs.drop 0).take 1 ++ ((cs.drop 1).take 1 ++ cs.drop 2) := by
      exact (List.drop_zero (l := cs)).symm.trans ((seg cs 0 1).trans (congrArg (_ ++ ·) (seg cs 1 1)))
    rw [e0, e1, List.drop_eq_nil_of_le (by omega)] at ee
    exact ⟨⟨n0, n1⟩, ee, ⟨fits_of w0, fits_of w1⟩⟩
theorem open_Item (hv : Value.okWide Try.prog w r b0 42 v) (h : DataW.Trod enc Try.prog w base sp held 42 v d p) :
    ∃ X : Item, v = .agg (IV X) ∧ ItemFits X := by
  obtain ⟨cs, rfl, _⟩ := okWide_struct Try.underlying42 hv
  obtain ⟨fuel, hf⟩ := h
  obtain ⟨X, e, hX⟩ := trod_Item hf
  refine ⟨X, ?_, hX⟩
  obtain ⟨l⟩ := cs
  simp only [Value.cells] at e
  have e' : l = (IV X).toList := e
  subst e'
  rfl
end
end Go.Proofs.Ytpganpiidgkofaa
/- What comes in as Ballot. Printed by types.py. -/
namespace Go.Proofs.Ytpganpiidgkofaa
open Go.ChangeShapes Go.WideShapes Go.ChangeAt Go.RowKit Go.WideMaps Go.WideElems Go.Joins
open Go.ChangeMaps (open_string)
set_option linter.unusedVariables false
set_option maxRecDepth 20000
structure BallotFits (x : Ballot) : Prop where
  round : Fits x.round
  rep : Fits x.rep
section
variable {H : Type} {enc : TypeId × Value → H} {w : World} {base : Nat} {sp : Nat → Bool} {held : Bool} {r : Reach} {b0 : Nat} {v : Value} {d : DataW H} {p : List MemPlace}
theorem trod_Ballot {fuel : Nat} {cs : List Value} {x : DataW H × List MemPlace} (h : DataW.trod enc Try.prog w base sp held fuel 31 cs = some x) :
    ∃ X : Ballot, cs = (BV X).toList ∧ BallotFits X := by
  obtain ⟨xs, n, _, hx, hlen, hxl, hg⟩ := DataW.trod_struct Try.underlying31 h
  have hC : Try.prog.cellsOf 31 = 2 := by kernel_rfl
  rw [hC] at hlen
  match xs, hxl with
  | [y0, y1], _ =>
    subst hx
    have c0 : Try.prog.cellsOf 3 = 1 := by kernel_rfl
    have g0 : DataW.trod enc Try.prog w base sp held n 3 ((cs.drop 0).take (Try.prog.cellsOf 3)) = some y0 := hg 0 _ rfl
    rw [c0] at g0
    obtain ⟨n0, e0, f0, w0⟩ := DataW.trod_int Try.underlying3 g0
    have c1 : Try.prog.cellsOf 3 = 1 := by kernel_rfl
    have g1 : DataW.trod enc Try.prog w base sp held n 3 ((cs.drop 1).take (Try.prog.cellsOf 3)) = some y1 := hg 1 _ rfl
    rw [c1] at g1
    obtain ⟨n1, e1, f1, w1⟩ := DataW.trod_int Try.underlying3 g1
    have ee : cs = (cs.drop 0).take 1 ++ ((cs.drop 1).take 1 ++ cs.drop 2) := by
      exact (List.drop_zero (l := cs)).symm.trans ((seg cs 0 1).trans (congrArg (_ ++ ·) (seg cs 1 1)))
    rw [e0, e1, List.drop_eq_nil_of_le (by omega)] at ee
    exact ⟨⟨n0, n1⟩, ee, ⟨fits_of w0, fits_of w1⟩⟩
theorem open_Ballot (hv : Value.okWide Try.prog w r b0 31 v) (h : DataW.Trod enc Try.prog w base sp held 31 v d p) :
    ∃ X : Ballot, v = .agg (BV X) ∧ BallotFits X := by
  obtain ⟨cs, rfl, _⟩ := okWide_struct Try.underlying31 hv
  obtain ⟨fuel, hf⟩ := h
  obtain ⟨X, e, hX⟩ := trod_Ballot hf
  refine ⟨X, ?_, hX⟩
  obtain ⟨l⟩ := cs
  simp only [Value.cells] at e
  have e' : l = (BV X).toList := e
  subst e'
  rfl
end
end Go.Proofs.Ytpganpiidgkofaa
/- What comes in as a deed. -/
namespace Go.Proofs.Ytpganpiidgkofaa
open Go.ChangeShapes Go.WideShapes Go.ChangeAt Go.RowKit Go.WideMaps Go.WideElems Go.Joins
open Go.ChangeMaps (open_string)
set_option maxRecDepth 20000
section
variable {H : Type} {enc : TypeId × Value → H} {w : World} {base : Nat} {sp : Nat → Bool} {held : Bool} {r : Reach} {b0 : Nat} {v : Value} {d : DataW H} {p : List MemPlace}
structure DeedFits (d : Deed) : Prop where
  kind : Fits d.kind
  ver : Fits d.ver
  ses : Fits d.ses
  num : Fits d.num
  key : d.key.size ≤ 140737488351232
  val : d.val.size ≤ 140737488351232
theorem DeedFits.keyM {d : Deed} (h : DeedFits d) : d.key.size ≤ maxLen := by have := h.key; unfold maxLen; omega
theorem DeedFits.valM {d : Deed} (h : DeedFits d) : d.val.size ≤ maxLen := by have := h.val; unfold maxLen; omega
theorem trod_deed {fuel : Nat} {cs : List Value} {x : DataW H × List MemPlace} (h : DataW.trod enc Try.prog w base sp held fuel 33 cs = some x) (hw : ∀ n ∈ x.1.weights Try.prog 33, n ≤ reachBytes) :
    ∃ D : Deed, cs = (EV D).toList ∧ DeedFits D := by
  obtain ⟨xs, n, _, hx, hlen, hxl, hg⟩ := DataW.trod_struct Try.underlying33 h
  have hC : Try.prog.cellsOf 33 = 6 := by kernel_rfl
  have hC1 : Try.prog.cellsOf 3 = 1 := by kernel_rfl
  have hC2 : Try.prog.cellsOf 9 = 1 := by kernel_rfl
  rw [hC] at hlen
  match cs, hlen, xs, hxl with
  | [c0, c1, c2, c3, c4, c5], _, [y0, y1, y2, y3, y4, y5], _ =>
    have g0 : DataW.trod enc Try.prog w base sp held n 3 (([c0, c1, c2, c3, c4, c5].drop 0).take (Try.prog.cellsOf 3)) = some y0 := hg 0 _ rfl
    rw [hC1] at g0
    have g1 : DataW.trod enc Try.prog w base sp held n 9 (([c0, c1, c2, c3, c4, c5].drop 1).take (Try.prog.cellsOf 9)) = some y1 := hg 1 _ rfl
    rw [hC2] at g1
    have g2 : DataW.trod enc Try.prog w base sp held n 9 (([c0, c1, c2, c3, c4, c5].drop 2).take (Try.prog.cellsOf 9)) = some y2 := hg 2 _ rfl
    rw [hC2] at g2
    have g3 : DataW.trod enc Try.prog w base sp held n 3 (([c0, c1, c2, c3, c4, c5].drop 3).take (Try.prog.cellsOf 3)) = some y3 := hg 3 _ rfl
    rw [hC1] at g3
    have g4 : DataW.trod enc Try.prog w base sp held n 3 (([c0, c1, c2, c3, c4, c5].drop 4).take (Try.prog.cellsOf 3)) = some y4 := hg 4 _ rfl
    rw [hC1] at g4
    have g5 : DataW.trod enc Try.prog w base sp held n 3 (([c0, c1, c2, c3, c4, c5].drop 5).take (Try.prog.cellsOf 3)) = some y5 := hg 5 _ rfl
    rw [hC1] at g5
    obtain ⟨n0, e0, f0, w0⟩ := DataW.trod_int Try.underlying3 g0
    obtain ⟨n1, e1, f1, w1⟩ := DataW.trod_string Try.underlying9 g1
    obtain ⟨n2, e2, f2, w2⟩ := DataW.trod_string Try.underlying9 g2
    obtain ⟨n3, e3, f3, w3⟩ := DataW.trod_int Try.underlying3 g3
    obtain ⟨n4, e4, f4, w4⟩ := DataW.trod_int Try.underlying3 g4
    obtain ⟨n5, e5, f5, w5⟩ := DataW.trod_int Try.underlying3 g5
    simp at e0 e1 e2 e3 e4 e5
    subst e0 e1 e2 e3 e4 e5 f0 f1 f2 f3 f4 f5
    subst hx
    have hk := hw n1.data.toList.length (by simp [DataW.weights, Try.underlying33, DataW.weightsEach])
    have hv := hw n2.data.toList.length (by simp [DataW.weights, Try.underlying33, DataW.weightsEach])
    have hr : reachBytes = 140737488351232 := rfl
    rw [hr, Array.length_toList] at hk hv
    exact ⟨⟨n0, n1, n2, n3, n4, n5⟩, rfl, ⟨fits_of w0, fits_of w3, fits_of w4, fits_of w5, hk, hv⟩⟩
theorem open_deed (hv : Value.okWide Try.prog w r b0 33 v) (h : DataW.Trod enc Try.prog w base sp held 33 v d p) (hw : ∀ n ∈ d.weights Try.prog 33, n ≤ reachBytes) :
    ∃ D : Deed, v = .agg (EV D) ∧ DeedFits D := by
  obtain ⟨cs, rfl, _⟩ := okWide_struct Try.underlying33 hv
  obtain ⟨fuel, hf⟩ := h
  obtain ⟨D, e, hD⟩ := trod_deed hf hw
  refine ⟨D, ?_, hD⟩
  obtain ⟨l⟩ := cs
  simp only [Value.cells] at e
  have e' : l = (EV D).toList := e
  subst e'
  rfl
end
end Go.Proofs.Ytpganpiidgkofaa
/- What comes in as a row of numbers. -/
namespace Go.Proofs.Ytpganpiidgkofaa
open Go.ChangeShapes Go.WideShapes Go.ChangeAt Go.RowKit Go.WideMaps Go.WideElems Go.Joins
set_option linter.unusedVariables false
set_option maxRecDepth 20000
section
variable {H : Type} {enc : TypeId × Value → H} {w : World} {base : Nat} {sp : Nat → Bool} {held : Bool} {r : Reach} {b0 : Nat} {v : Value} {d : DataW H} {p : List MemPlace}
theorem trod_Deps {fuel : Nat} {cs : List Value} {x : DataW H × List MemPlace} (hf : DataW.trod enc Try.prog w base sp held fuel 35 cs = some x) :
    ∃ X : Nat → Int, cs = (DV X).toList ∧ ∀ i, i < 7 → Fits (X i) := by
  have hC : Try.prog.cellsOf 35 = 7 := by kernel_rfl
  have hC1 : Try.prog.cellsOf 3 = 1 := by kernel_rfl
  obtain ⟨xs, m, _, _, hlen, hxl, hg⟩ := DataW.trod_array Try.underlying35 hf
  rw [hC] at hlen
  match cs, hlen with
  | [c0, c1, c2, c3, c4, c5, c6], _ =>
    have key : ∀ i, i < 7 → ∃ n, ([c0, c1, c2, c3, c4, c5, c6].drop i).take 1 = [.int .i64 n] ∧ (Lit.int .i64 n).wf = true := fun i hi => by
      have h1 := hg i hi
      rw [hC1, Nat.mul_one] at h1
      have : ∃ y, xs[i]? = some y := ⟨xs[i]'(by omega), List.getElem?_eq_getElem (by omega)⟩
      obtain ⟨y, hy⟩ := this
      obtain ⟨n, e1, _, e2⟩ := DataW.trod_int Try.underlying3 (h1.trans hy)
      exact ⟨n, by simpa using e1, e2⟩
    obtain ⟨n0, e0, w0⟩ := key 0 (by omega)
    obtain ⟨n1, e1, w1⟩ := key 1 (by omega)
    obtain ⟨n2, e2, w2⟩ := key 2 (by omega)
    obtain ⟨n3, e3, w3⟩ := key 3 (by omega)
    obtain ⟨n4, e4, w4⟩ := key 4 (by omega)
    obtain ⟨n5, e5, w5⟩ := key 5 (by omega)
    obtain ⟨n6, e6, w6⟩ := key 6 (by omega)
    simp at e0 e1 e2 e3 e4 e5 e6
    subst e0 e1 e2 e3 e4 e5 e6
    refine ⟨fun i => [n0, n1, n2, n3, n4, n5, n6].getD i 0, rfl, fun i hi => ?_⟩
    match i, hi with
    | 0, _ => exact fits_of w0
    | 1, _ => exact fits_of w1
    | 2, _ => exact fits_of w2
    | 3, _ => exact fits_of w3
    | 4, _ => exact fits_of w4
    | 5, _ => exact fits_of w5
    | 6, _ => exact fits_of w6
end
end Go.Proofs.Ytpganpiidgkofaa
