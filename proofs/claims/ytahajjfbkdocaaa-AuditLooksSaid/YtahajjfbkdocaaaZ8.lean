/- Several texts in one. -/
import Derived.Test.YtahajjfbkdocaaaZ5
import Derived.Test.YtahajjfbkdocaaaZ7
import Derived.Test.YtahajjfbkdocaaaZ2
import Derived.Test.YtahajjfbkdocaaaZ6
import Derived.SizedLaws
/- Entry as a value, as cells: its parts, equality, loads, stores, building. Printed by types.py. -/
namespace Go.Proofs.Ytahajjfbkdocaaa
open Go.RowKit
set_option linter.unusedVariables false
structure Entry where
  item : Item
  inst : Inst
def AV (x : Entry) : Array Value := #[.int .i64 x.item.rep, .int .i64 x.item.num, .int .i64 x.inst.prom.round, .int .i64 x.inst.prom.rep, .int .i64 x.inst.vote.round, .int .i64 x.inst.vote.rep, .int .i64 x.inst.status, .int .i64 x.inst.call.deed.kind, .string x.inst.call.deed.key, .string x.inst.call.deed.val, .int .i64 x.inst.call.deed.ver, .int .i64 x.inst.call.deed.ses, .int .i64 x.inst.call.deed.num, .int .i64 (x.inst.call.deps 0), .int .i64 (x.inst.call.deps 1), .int .i64 (x.inst.call.deps 2), .int .i64 (x.inst.call.deps 3), .int .i64 (x.inst.call.deps 4), .int .i64 (x.inst.call.deps 5), .int .i64 (x.inst.call.deps 6), .int .i64 x.inst.call.seq, .bool x.inst.same]
def noEntry : Entry := ⟨noItem, noInst⟩
section
variable (x y : Entry)
theorem TEntry_size : (AV x).size = 22 := rfl
theorem TEntry_one : allOne (AV x) = true := by simp [allOne, AV, Value.oneCell']
theorem TEntry_piece : piece (AV x) 0 22 = AV x := piece_all _ _ rfl
theorem TEntry_c0 : (AV x)[0]? = some (.int .i64 x.item.rep) := rfl
theorem TEntry_c1 : (AV x)[1]? = some (.int .i64 x.item.num) := rfl
theorem TEntry_c2 : (AV x)[2]? = some (.int .i64 x.inst.prom.round) := rfl
theorem TEntry_c3 : (AV x)[3]? = some (.int .i64 x.inst.prom.rep) := rfl
theorem TEntry_c4 : (AV x)[4]? = some (.int .i64 x.inst.vote.round) := rfl
theorem TEntry_c5 : (AV x)[5]? = some (.int .i64 x.inst.vote.rep) := rfl
theorem TEntry_c6 : (AV x)[6]? = some (.int .i64 x.inst.status) := rfl
theorem TEntry_c7 : (AV x)[7]? = some (.int .i64 x.inst.call.deed.kind) := rfl
theorem TEntry_c8 : (AV x)[8]? = some (.string x.inst.call.deed.key) := rfl
theorem TEntry_c9 : (AV x)[9]? = some (.string x.inst.call.deed.val) := rfl
theorem TEntry_c10 : (AV x)[10]? = some (.int .i64 x.inst.call.deed.ver) := rfl
theorem TEntry_c11 : (AV x)[11]? = some (.int .i64 x.inst.call.deed.ses) := rfl
theorem TEntry_c12 : (AV x)[12]? = some (.int .i64 x.inst.call.deed.num) := rfl
theorem TEntry_c13 : (AV x)[13]? = some (.int .i64 (x.inst.call.deps 0)) := rfl
theorem TEntry_c14 : (AV x)[14]? = some (.int .i64 (x.inst.call.deps 1)) := rfl
theorem TEntry_c15 : (AV x)[15]? = some (.int .i64 (x.inst.call.deps 2)) := rfl
theorem TEntry_c16 : (AV x)[16]? = some (.int .i64 (x.inst.call.deps 3)) := rfl
theorem TEntry_c17 : (AV x)[17]? = some (.int .i64 (x.inst.call.deps 4)) := rfl
theorem TEntry_c18 : (AV x)[18]? = some (.int .i64 (x.inst.call.deps 5)) := rfl
theorem TEntry_c19 : (AV x)[19]? = some (.int .i64 (x.inst.call.deps 6)) := rfl
theorem TEntry_c20 : (AV x)[20]? = some (.int .i64 x.inst.call.seq) := rfl
theorem TEntry_c21 : (AV x)[21]? = some (.bool x.inst.same) := rfl
theorem TEntry_p_item : piece (AV x) 0 2 = IV x.item := by kernel_rfl
theorem TEntry_put_item (v : Item) : splice (AV x) 0 (IV v) = AV { x with item := v } := by kernel_rfl
theorem TEntry_p_inst : piece (AV x) 2 20 = NV x.inst := by kernel_rfl
theorem TEntry_put_inst (v : Inst) : splice (AV x) 2 (NV v) = AV { x with inst := v } := by kernel_rfl
theorem TEntry_deps (i : Nat) (h : i < 7) : (AV x)[13 + i]? = some (.int .i64 (x.inst.call.deps i)) := by
  match i, h with
  | 0, _ => rfl
  | 1, _ => rfl
  | 2, _ => rfl
  | 3, _ => rfl
  | 4, _ => rfl
  | 5, _ => rfl
  | 6, _ => rfl
theorem TEntry_cat : AV x = IV x.item ++ NV x.inst := by kernel_rfl
theorem TEntry_ext : AV x = AV y ↔ IV x.item = IV y.item ∧ NV x.inst = NV y.inst := by
  constructor
  · intro h
    refine ⟨?_, ?_⟩
    · have := congrArg (fun c => piece c 0 2) h; simpa only [TEntry_p_item] using this
    · have := congrArg (fun c => piece c 2 20) h; simpa only [TEntry_p_inst] using this
  · rintro ⟨h0, h1⟩
    rw [TEntry_cat x, TEntry_cat y, h0, h1]
end
theorem TEntry_und : Try.prog.underlying 40 = some (.struct (Try.prog.fieldsOf 40)) := by kernel_rfl
theorem TEntry_eq (d : Nat) (x y : Entry) (w : World) : (Op.equalIn (d + 5) 40 (.agg (AV x)) (.agg (AV y))).run Try.prog w = .ok (eqA (AV x) (AV y)) w := by
  refine eq_struct (d := d + 4) (L := [(28, 0, eqA (IV x.item) (IV y.item)), (38, 2, eqA (NV x.inst) (NV y.inst))]) TEntry_und (by kernel_rfl) (by kernel_rfl) ?_ ?_ w
  · simp only [List.forall_mem_cons]
    exact ⟨⟨_, _, fun w => by rw [part_row TItem_und rfl (by kernel_rfl) (n := 2), TEntry_p_item], fun w => by rw [part_row TItem_und rfl (by kernel_rfl) (n := 2), TEntry_p_item], fun w => TItem_eq (d + 2) x.item y.item w⟩, ⟨_, _, fun w => by rw [part_row TInst_und rfl (by kernel_rfl) (n := 20), TEntry_p_inst], fun w => by rw [part_row TInst_und rfl (by kernel_rfl) (n := 20), TEntry_p_inst], fun w => TInst_eq (d + 0) x.inst y.inst w⟩, by simp⟩
  · refine eqA_of ?_
    rw [TEntry_ext]
    simp [eqA_iff]
theorem TEntry_eql (x y : Entry) (w : World) : (binOp .eql 40 (.agg (AV x)) (.agg (AV y))).run Try.prog w = .ok (.bool (eqA (AV x) (AV y))) w := eql_of (TEntry_eq 9995 x y) w
theorem TEntry_neq (x y : Entry) (w : World) : (binOp .neq 40 (.agg (AV x)) (.agg (AV y))).run Try.prog w = .ok (.bool (!eqA (AV x) (AV y))) w := neq_of (TEntry_eq 9995 x y) w
theorem TEntry_ld0 (v : Value) : Instr.loadAt 40 v = loadSem 40 v := rfl
theorem TEntry_st0 (v u : Value) : Instr.storeAt 40 v u = storeSem 40 v u := rfl
theorem TEntry_fd0 (x : Value) (i : Nat) : Instr.field 40 x i = fieldSem 40 x i := rfl
theorem TEntry_bd0 (p : Array (Nat × Value)) : Instr.build 40 p = buildS 40 p := rfl
theorem TEntry_ld (w : World) (v : Value) : (loadSem 40 v).run Try.prog w = loadVal Try.prog 40 22 w v := load_val TEntry_und rfl (by kernel_rfl) w v
theorem TEntry_st (w : World) (v u : Value) : (storeSem 40 v u).run Try.prog w = storeVal Try.prog 40 22 w v u := store_val (by kernel_rfl) w v u
theorem TEntry_f_item (x : Entry) (w : World) : (fieldSem 40 (.agg (AV x)) 0).run Try.prog w = .ok (.agg (IV x.item)) w := field_of TEntry_und (by kernel_rfl) (fun w => by rw [part_row TItem_und rfl (by kernel_rfl) (n := 2), TEntry_p_item]) w
theorem TEntry_f_inst (x : Entry) (w : World) : (fieldSem 40 (.agg (AV x)) 1).run Try.prog w = .ok (.agg (NV x.inst)) w := field_of TEntry_und (by kernel_rfl) (fun w => by rw [part_row TInst_und rfl (by kernel_rfl) (n := 20), TEntry_p_inst]) w
def TEntry_pl : Nat → Option (Nat × Nat) := fun i => (#[(0, 2), (2, 20)] : Array (Nat × Nat))[i]?
theorem TEntry_bd (w : World) (p : Array (Nat × Value)) : (buildS 40 p).run Try.prog w = buildOf Try.prog 40 TEntry_pl (AV noEntry) p w := build_struct TEntry_und (by kernel_rfl) (fun w => by kernel_rfl) w p
theorem TEntry_fl (X : Array Value) : fillS TEntry_pl X [] = some X := rfl
theorem TEntry_fl_item (x : Entry) (v : Item) (r : List (Nat × Value)) : fillS TEntry_pl (AV x) ((0, .agg (IV v)) :: r) = fillS TEntry_pl (AV { x with item := v }) r := by
  show Instr.fill _ _ _ = Instr.fill _ _ _
  rw [fill_cons TEntry_pl (AV x) (IV v) 0 0 2 r rfl rfl (by show _ ≤ 22; omega), TEntry_put_item]
theorem TEntry_fl_inst (x : Entry) (v : Inst) (r : List (Nat × Value)) : fillS TEntry_pl (AV x) ((1, .agg (NV v)) :: r) = fillS TEntry_pl (AV { x with inst := v }) r := by
  show Instr.fill _ _ _ = Instr.fill _ _ _
  rw [fill_cons TEntry_pl (AV x) (NV v) 1 2 20 r rfl rfl (by show _ ≤ 22; omega), TEntry_put_inst]
theorem TEntry_ret {fn : Func} {R : Ending → World → Prop} {a : Act} {w : World} {p : Tmp} (x : Entry) {g : Nat} (hr : fn.results = #[.cell p 40]) (hp : a.tmps.getD p undef = .pointer (some ⟨g, 0, none⟩)) (hdf : a.defers = []) (hrow : row? w g = some (AV x)) (hR : R (.returned (.agg (AV x))) w) : bodyPost Try.prog fn R .ret a w :=
  ret_row (AV x) TEntry_und rfl (by kernel_rfl) hr hp hdf (TEntry_size x) hrow hR
end Go.Proofs.Ytahajjfbkdocaaa
/- What comes in as Item. Printed by types.py. -/
namespace Go.Proofs.Ytahajjfbkdocaaa
open Go.ChangeShapes Go.WideShapes Go.ChangeAt Go.RowKit Go.WideMaps Go.WideElems Go.Joins
open Go.ChangeMaps (open_string)
set_option linter.unusedVariables false
structure ItemFits (x : Item) : Prop where
  rep : Fits x.rep
  num : Fits x.num
section
variable {H : Type} {enc : TypeId × Value → H} {w : World} {base : Nat} {sp : Nat → Bool} {held : Bool} {r : Reach} {b0 : Nat} {v : Value} {d : DataW H} {p : List MemPlace}
theorem trod_Item {fuel : Nat} {cs : List Value} {x : DataW H × List MemPlace} (h : DataW.trod enc Try.prog w base sp held fuel 28 cs = some x) :
    ∃ X : Item, cs = (IV X).toList ∧ ItemFits X := by
  obtain ⟨xs, n, _, hx, hlen, hxl, hg⟩ := DataW.trod_struct Try.underlying28 h
  have hC : Try.prog.cellsOf 28 = 2 := by kernel_rfl
  rw [hC] at hlen
  match xs, hxl with
  | [y0, y1], _ =>
    subst hx
    have c0 : Try.prog.cellsOf 3 = 1 := by kernel_rfl
    have g0 : DataW.trod enc Try.prog w base sp held n 3 ((cs.drop 0).take (Try.prog.cellsOf 3)) = some y0 := hg 0 _ rfl
    rw [c0] at g0
    obtain ⟨n0, e0, f0, w0⟩ := DataW.trod_int Try.underlying3 g0
    have c1 : Try.prog.cellsOf 3 = 1 := by kernel_rfl
    have g1 : DataW.trod enc Try.prog w base sp held n 3 ((cs.drop 1).take (Try.prog.cellsOf 3)) = some y1 := hg 1 _ rfl
    rw [c1] at g1
    obtain ⟨n1, e1, f1, w1⟩ := DataW.trod_int Try.underlying3 g1
    have ee : cs = (cs.drop 0).take 1 ++ ((cs.drop 1).take 1 ++ cs.drop 2) := by
      exact (List.drop_zero (l := cs)).symm.trans ((seg cs 0 1).trans (congrArg (_ ++ ·) (seg cs 1 1)))
    rw [e0, e1, List.drop_eq_nil_of_le (by omega)] at ee
    exact ⟨⟨n0, n1⟩, ee, ⟨fits_of w0, fits_of w1⟩⟩
theorem open_Item (hv : Value.okWide Try.prog w r b0 28 v) (h : DataW.Trod enc Try.prog w base sp held 28 v d p) :
    ∃ X : Item, v = .agg (IV X) ∧ ItemFits X := by
  obtain ⟨cs, rfl, _⟩ := okWide_struct Try.underlying28 hv
  obtain ⟨fuel, hf⟩ := h
  obtain ⟨X, e, hX⟩ := trod_Item hf
  refine ⟨X, ?_, hX⟩
  obtain ⟨l⟩ := cs
  simp only [Value.cells] at e
  have e' : l = (IV X).toList := e
  subst e'
  rfl
end
end Go.Proofs.Ytahajjfbkdocaaa
/- What comes in as Ballot. Printed by types.py. -/
namespace Go.Proofs.Ytahajjfbkdocaaa
open Go.ChangeShapes Go.WideShapes Go.ChangeAt Go.RowKit Go.WideMaps Go.WideElems Go.Joins
open Go.ChangeMaps (open_string)
set_option linter.unusedVariables false
structure BallotFits (x : Ballot) : Prop where
  round : Fits x.round
  rep : Fits x.rep
section
variable {H : Type} {enc : TypeId × Value → H} {w : World} {base : Nat} {sp : Nat → Bool} {held : Bool} {r : Reach} {b0 : Nat} {v : Value} {d : DataW H} {p : List MemPlace}
theorem trod_Ballot {fuel : Nat} {cs : List Value} {x : DataW H × List MemPlace} (h : DataW.trod enc Try.prog w base sp held fuel 30 cs = some x) :
    ∃ X : Ballot, cs = (BV X).toList ∧ BallotFits X := by
  obtain ⟨xs, n, _, hx, hlen, hxl, hg⟩ := DataW.trod_struct Try.underlying30 h
  have hC : Try.prog.cellsOf 30 = 2 := by kernel_rfl
  rw [hC] at hlen
  match xs, hxl with
  | [y0, y1], _ =>
    subst hx
    have c0 : Try.prog.cellsOf 3 = 1 := by kernel_rfl
    have g0 : DataW.trod enc Try.prog w base sp held n 3 ((cs.drop 0).take (Try.prog.cellsOf 3)) = some y0 := hg 0 _ rfl
    rw [c0] at g0
    obtain ⟨n0, e0, f0, w0⟩ := DataW.trod_int Try.underlying3 g0
    have c1 : Try.prog.cellsOf 3 = 1 := by kernel_rfl
    have g1 : DataW.trod enc Try.prog w base sp held n 3 ((cs.drop 1).take (Try.prog.cellsOf 3)) = some y1 := hg 1 _ rfl
    rw [c1] at g1
    obtain ⟨n1, e1, f1, w1⟩ := DataW.trod_int Try.underlying3 g1
    have ee : cs = (cs.drop 0).take 1 ++ ((cs.drop 1).take 1 ++ cs.drop 2) := by
      exact (List.drop_zero (l := cs)).symm.trans ((seg cs 0 1).trans (congrArg (_ ++ ·) (seg cs 1 1)))
    rw [e0, e1, List.drop_eq_nil_of_le (by omega)] at ee
    exact ⟨⟨n0, n1⟩, ee, ⟨fits_of w0, fits_of w1⟩⟩
theorem open_Ballot (hv : Value.okWide Try.prog w r b0 30 v) (h : DataW.Trod enc Try.prog w base sp held 30 v d p) :
    ∃ X : Ballot, v = .agg (BV X) ∧ BallotFits X := by
  obtain ⟨cs, rfl, _⟩ := okWide_struct Try.underlying30 hv
  obtain ⟨fuel, hf⟩ := h
  obtain ⟨X, e, hX⟩ := trod_Ballot hf
  refine ⟨X, ?_, hX⟩
  obtain ⟨l⟩ := cs
  simp only [Value.cells] at e
  have e' : l = (BV X).toList := e
  subst e'
  rfl
end
end Go.Proofs.Ytahajjfbkdocaaa
/- What comes in as a deed. -/
namespace Go.Proofs.Ytahajjfbkdocaaa
open Go.ChangeShapes Go.WideShapes Go.ChangeAt Go.RowKit Go.WideMaps Go.WideElems Go.Joins
open Go.ChangeMaps (open_string)
section
variable {H : Type} {enc : TypeId × Value → H} {w : World} {base : Nat} {sp : Nat → Bool} {held : Bool} {r : Reach} {b0 : Nat} {v : Value} {d : DataW H} {p : List MemPlace}
structure DeedFits (d : Deed) : Prop where
  kind : Fits d.kind
  ver : Fits d.ver
  ses : Fits d.ses
  num : Fits d.num
  key : d.key.size ≤ 140737488351232
  val : d.val.size ≤ 140737488351232
theorem DeedFits.keyM {d : Deed} (h : DeedFits d) : d.key.size ≤ maxLen := by have := h.key; unfold maxLen; omega
theorem DeedFits.valM {d : Deed} (h : DeedFits d) : d.val.size ≤ maxLen := by have := h.val; unfold maxLen; omega
theorem trod_deed {fuel : Nat} {cs : List Value} {x : DataW H × List MemPlace} (h : DataW.trod enc Try.prog w base sp held fuel 32 cs = some x) (hw : ∀ n ∈ x.1.weights Try.prog 32, n ≤ reachBytes) :
    ∃ D : Deed, cs = (EV D).toList ∧ DeedFits D := by
  obtain ⟨xs, n, _, hx, hlen, hxl, hg⟩ := DataW.trod_struct Try.underlying32 h
  have hC : Try.prog.cellsOf 32 = 6 := by kernel_rfl
  have hC1 : Try.prog.cellsOf 3 = 1 := by kernel_rfl
  have hC2 : Try.prog.cellsOf 9 = 1 := by kernel_rfl
  rw [hC] at hlen
  match cs, hlen, xs, hxl with
  | [c0, c1, c2, c3, c4, c5], _, [y0, y1, y2, y3, y4, y5], _ =>
    have g0 : DataW.trod enc Try.prog w base sp held n 3 (([c0, c1, c2, c3, c4, c5].drop 0).take (Try.prog.cellsOf 3)) = some y0 := hg 0 _ rfl
    rw [hC1] at g0
    have g1 : DataW.trod enc Try.prog w base sp held n 9 (([c0, c1, c2, c3, c4, c5].drop 1).take (Try.prog.cellsOf 9)) = some y1 := hg 1 _ rfl
    rw [hC2] at g1
    have g2 : DataW.trod enc Try.prog w base sp held n 9 (([c0, c1, c2, c3, c4, c5].drop 2).take (Try.prog.cellsOf 9)) = some y2 := hg 2 _ rfl
    rw [hC2] at g2
    have g3 : DataW.trod enc Try.prog w base sp held n 3 (([c0, c1, c2, c3, c4, c5].drop 3).take (Try.prog.cellsOf 3)) = some y3 := hg 3 _ rfl
    rw [hC1] at g3
    have g4 : DataW.trod enc Try.prog w base sp held n 3 (([c0, c1, c2, c3, c4, c5].drop 4).take (Try.prog.cellsOf 3)) = some y4 := hg 4 _ rfl
    rw [hC1] at g4
    have g5 : DataW.trod enc Try.prog w base sp held n 3 (([c0, c1, c2, c3, c4, c5].drop 5).take (Try.prog.cellsOf 3)) = some y5 := hg 5 _ rfl
    rw [hC1] at g5
    obtain ⟨n0, e0, f0, w0⟩ := DataW.trod_int Try.underlying3 g0
    obtain ⟨n1, e1, f1, w1⟩ := DataW.trod_string Try.underlying9 g1
    obtain ⟨n2, e2, f2, w2⟩ := DataW.trod_string Try.underlying9 g2
    obtain ⟨n3, e3, f3, w3⟩ := DataW.trod_int Try.underlying3 g3
    obtain ⟨n4, e4, f4, w4⟩ := DataW.trod_int Try.underlying3 g4
    obtain ⟨n5, e5, f5, w5⟩ := DataW.trod_int Try.underlying3 g5
    simp at e0 e1 e2 e3 e4 e5
    subst e0 e1 e2 e3 e4 e5 f0 f1 f2 f3 f4 f5
    subst hx
    have hk := hw n1.data.toList.length (by simp [DataW.weights, Try.underlying32, DataW.weightsEach])
    have hv := hw n2.data.toList.length (by simp [DataW.weights, Try.underlying32, DataW.weightsEach])
    have hr : reachBytes = 140737488351232 := rfl
    rw [hr, Array.length_toList] at hk hv
    exact ⟨⟨n0, n1, n2, n3, n4, n5⟩, rfl, ⟨fits_of w0, fits_of w3, fits_of w4, fits_of w5, hk, hv⟩⟩
theorem open_deed (hv : Value.okWide Try.prog w r b0 32 v) (h : DataW.Trod enc Try.prog w base sp held 32 v d p) (hw : ∀ n ∈ d.weights Try.prog 32, n ≤ reachBytes) :
    ∃ D : Deed, v = .agg (EV D) ∧ DeedFits D := by
  obtain ⟨cs, rfl, _⟩ := okWide_struct Try.underlying32 hv
  obtain ⟨fuel, hf⟩ := h
  obtain ⟨D, e, hD⟩ := trod_deed hf hw
  refine ⟨D, ?_, hD⟩
  obtain ⟨l⟩ := cs
  simp only [Value.cells] at e
  have e' : l = (EV D).toList := e
  subst e'
  rfl
end
end Go.Proofs.Ytahajjfbkdocaaa
/- What comes in as a row of numbers. -/
namespace Go.Proofs.Ytahajjfbkdocaaa
open Go.ChangeShapes Go.WideShapes Go.ChangeAt Go.RowKit Go.WideMaps Go.WideElems Go.Joins
set_option linter.unusedVariables false
section
variable {H : Type} {enc : TypeId × Value → H} {w : World} {base : Nat} {sp : Nat → Bool} {held : Bool} {r : Reach} {b0 : Nat} {v : Value} {d : DataW H} {p : List MemPlace}
theorem trod_Deps {fuel : Nat} {cs : List Value} {x : DataW H × List MemPlace} (hf : DataW.trod enc Try.prog w base sp held fuel 34 cs = some x) :
    ∃ X : Nat → Int, cs = (DV X).toList ∧ ∀ i, i < 7 → Fits (X i) := by
  have hC : Try.prog.cellsOf 34 = 7 := by kernel_rfl
  have hC1 : Try.prog.cellsOf 3 = 1 := by kernel_rfl
  obtain ⟨xs, m, _, _, hlen, hxl, hg⟩ := DataW.trod_array Try.underlying34 hf
  rw [hC] at hlen
  match cs, hlen with
  | [c0, c1, c2, c3, c4, c5, c6], _ =>
    have key : ∀ i, i < 7 → ∃ n, ([c0, c1, c2, c3, c4, c5, c6].drop i).take 1 = [.int .i64 n] ∧ (Lit.int .i64 n).wf = true := fun i hi => by
      have h1 := hg i hi
      rw [hC1, Nat.mul_one] at h1
      have : ∃ y, xs[i]? = some y := ⟨xs[i]'(by omega), List.getElem?_eq_getElem (by omega)⟩
      obtain ⟨y, hy⟩ := this
      obtain ⟨n, e1, _, e2⟩ := DataW.trod_int Try.underlying3 (h1.trans hy)
      exact ⟨n, by simpa using e1, e2⟩
    obtain ⟨n0, e0, w0⟩ := key 0 (by omega)
    obtain ⟨n1, e1, w1⟩ := key 1 (by omega)
    obtain ⟨n2, e2, w2⟩ := key 2 (by omega)
    obtain ⟨n3, e3, w3⟩ := key 3 (by omega)
    obtain ⟨n4, e4, w4⟩ := key 4 (by omega)
    obtain ⟨n5, e5, w5⟩ := key 5 (by omega)
    obtain ⟨n6, e6, w6⟩ := key 6 (by omega)
    simp at e0 e1 e2 e3 e4 e5 e6
    subst e0 e1 e2 e3 e4 e5 e6
    refine ⟨fun i => [n0, n1, n2, n3, n4, n5, n6].getD i 0, rfl, fun i hi => ?_⟩
    match i, hi with
    | 0, _ => exact fits_of w0
    | 1, _ => exact fits_of w1
    | 2, _ => exact fits_of w2
    | 3, _ => exact fits_of w3
    | 4, _ => exact fits_of w4
    | 5, _ => exact fits_of w5
    | 6, _ => exact fits_of w6
end
end Go.Proofs.Ytahajjfbkdocaaa
/- What comes in as Call. Printed by types.py. -/
namespace Go.Proofs.Ytahajjfbkdocaaa
open Go.ChangeShapes Go.WideShapes Go.ChangeAt Go.RowKit Go.WideMaps Go.WideElems Go.Joins
open Go.ChangeMaps (open_string)
set_option linter.unusedVariables false
structure CallFits (x : Call) : Prop where
  deed : DeedFits x.deed
  deps : ∀ i, i < 7 → Fits (x.deps i)
  seq : Fits x.seq
section
variable {H : Type} {enc : TypeId × Value → H} {w : World} {base : Nat} {sp : Nat → Bool} {held : Bool} {r : Reach} {b0 : Nat} {v : Value} {d : DataW H} {p : List MemPlace}
theorem trod_Call {fuel : Nat} {cs : List Value} {x : DataW H × List MemPlace} (h : DataW.trod enc Try.prog w base sp held fuel 36 cs = some x) (hw : ∀ n ∈ x.1.weights Try.prog 36, n ≤ reachBytes) :
    ∃ X : Call, cs = (CV X).toList ∧ CallFits X := by
  obtain ⟨xs, n, _, hx, hlen, hxl, hg⟩ := DataW.trod_struct Try.underlying36 h
  have hC : Try.prog.cellsOf 36 = 14 := by kernel_rfl
  rw [hC] at hlen
  match xs, hxl with
  | [y0, y1, y2], _ =>
    subst hx
    have c0 : Try.prog.cellsOf 32 = 6 := by kernel_rfl
    have g0 : DataW.trod enc Try.prog w base sp held n 32 ((cs.drop 0).take (Try.prog.cellsOf 32)) = some y0 := hg 0 _ rfl
    rw [c0] at g0
    obtain ⟨n0, e0, w0⟩ := trod_deed g0 (fun m hm => hw m (by simp [DataW.weights, Try.underlying36, DataW.weightsEach]; simp_all))
    have c1 : Try.prog.cellsOf 34 = 7 := by kernel_rfl
    have g1 : DataW.trod enc Try.prog w base sp held n 34 ((cs.drop 6).take (Try.prog.cellsOf 34)) = some y1 := hg 1 _ rfl
    rw [c1] at g1
    obtain ⟨n1, e1, w1⟩ := trod_Deps g1
    have c2 : Try.prog.cellsOf 3 = 1 := by kernel_rfl
    have g2 : DataW.trod enc Try.prog w base sp held n 3 ((cs.drop 13).take (Try.prog.cellsOf 3)) = some y2 := hg 2 _ rfl
    rw [c2] at g2
    obtain ⟨n2, e2, f2, w2⟩ := DataW.trod_int Try.underlying3 g2
    have ee : cs = (cs.drop 0).take 6 ++ ((cs.drop 6).take 7 ++ ((cs.drop 13).take 1 ++ cs.drop 14)) := by
      exact (List.drop_zero (l := cs)).symm.trans ((seg cs 0 6).trans (congrArg (_ ++ ·) ((seg cs 6 7).trans (congrArg (_ ++ ·) (seg cs 13 1)))))
    rw [e0, e1, e2, List.drop_eq_nil_of_le (by omega)] at ee
    exact ⟨⟨n0, n1, n2⟩, ee, ⟨w0, w1, fits_of w2⟩⟩
theorem open_Call (hv : Value.okWide Try.prog w r b0 36 v) (h : DataW.Trod enc Try.prog w base sp held 36 v d p) (hw : ∀ n ∈ d.weights Try.prog 36, n ≤ reachBytes) :
    ∃ X : Call, v = .agg (CV X) ∧ CallFits X := by
  obtain ⟨cs, rfl, _⟩ := okWide_struct Try.underlying36 hv
  obtain ⟨fuel, hf⟩ := h
  obtain ⟨X, e, hX⟩ := trod_Call hf hw
  refine ⟨X, ?_, hX⟩
  obtain ⟨l⟩ := cs
  simp only [Value.cells] at e
  have e' : l = (CV X).toList := e
  subst e'
  rfl
end
end Go.Proofs.Ytahajjfbkdocaaa
