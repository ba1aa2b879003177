/- Several texts in one. -/
import Derived.Test.YtahajjfbkdocaaaDoorZ2
import Derived.Test.YtahajjfbkdocaaaDoorZ5
import Derived.Test.YtahajjfbkdocaaaDoorZ6
import Derived.SizedLaws
import Derived.Test.YtahajjfbkdocaaaDoorZ7
import Derived.Test.YtahajjfbkdocaaaDoorZ3
/- What comes in as Item. Printed by types.py. -/
namespace Go.Proofs.YtahajjfbkdocaaaDoor
open Go.ChangeShapes Go.WideShapes Go.ChangeAt Go.RowKit Go.WideMaps Go.WideElems Go.Joins
open Go.ChangeMaps (open_string)
set_option linter.unusedVariables false
structure ItemFits (x : Item) : Prop where
  rep : Fits x.rep
  num : Fits x.num
section
variable {H : Type} {enc : TypeId × Value → H} {w : World} {base : Nat} {sp : Nat → Bool} {held : Bool} {r : Reach} {b0 : Nat} {v : Value} {d : DataW H} {p : List MemPlace}
theorem trod_Item {fuel : Nat} {cs : List Value} {x : DataW H × List MemPlace} (h : DataW.trod enc Tryd.prog w base sp held fuel 23 cs = some x) :
    ∃ X : Item, cs = (IV X).toList ∧ ItemFits X := by
  obtain ⟨xs, n, _, hx, hlen, hxl, hg⟩ := DataW.trod_struct Tryd.underlying23 h
  have hC : Tryd.prog.cellsOf 23 = 2 := by kernel_rfl
  rw [hC] at hlen
  match xs, hxl with
  | [y0, y1], _ =>
    subst hx
    have c0 : Tryd.prog.cellsOf 3 = 1 := by kernel_rfl
    have g0 : DataW.trod enc Tryd.prog w base sp held n 3 ((cs.drop 0).take (Tryd.prog.cellsOf 3)) = some y0 := hg 0 _ rfl
    rw [c0] at g0
    obtain ⟨n0, e0, f0, w0⟩ := DataW.trod_int Tryd.underlying3 g0
    have c1 : Tryd.prog.cellsOf 3 = 1 := by kernel_rfl
    have g1 : DataW.trod enc Tryd.prog w base sp held n 3 ((cs.drop 1).take (Tryd.prog.cellsOf 3)) = some y1 := hg 1 _ rfl
    rw [c1] at g1
    obtain ⟨n1, e1, f1, w1⟩ := DataW.trod_int Tryd.underlying3 g1
    have ee : cs = (cs.drop 0).take 1 ++ ((cs.drop 1).take 1 ++ cs.drop 2) := by
      exact (List.drop_zero (l := cs)).symm.trans ((seg cs 0 1).trans (congrArg (_ ++ ·) (seg cs 1 1)))
    rw [e0, e1, List.drop_eq_nil_of_le (by omega)] at ee
    exact ⟨⟨n0, n1⟩, ee, ⟨fits_of w0, fits_of w1⟩⟩
theorem open_Item (hv : Value.okWide Tryd.prog w r b0 23 v) (h : DataW.Trod enc Tryd.prog w base sp held 23 v d p) :
    ∃ X : Item, v = .agg (IV X) ∧ ItemFits X := by
  obtain ⟨cs, rfl, _⟩ := okWide_struct Tryd.underlying23 hv
  obtain ⟨fuel, hf⟩ := h
  obtain ⟨X, e, hX⟩ := trod_Item hf
  refine ⟨X, ?_, hX⟩
  obtain ⟨l⟩ := cs
  simp only [Value.cells] at e
  have e' : l = (IV X).toList := e
  subst e'
  rfl
end
end Go.Proofs.YtahajjfbkdocaaaDoor
/- What comes in as Ballot. Printed by types.py. -/
namespace Go.Proofs.YtahajjfbkdocaaaDoor
open Go.ChangeShapes Go.WideShapes Go.ChangeAt Go.RowKit Go.WideMaps Go.WideElems Go.Joins
open Go.ChangeMaps (open_string)
set_option linter.unusedVariables false
structure BallotFits (x : Ballot) : Prop where
  round : Fits x.round
  rep : Fits x.rep
section
variable {H : Type} {enc : TypeId × Value → H} {w : World} {base : Nat} {sp : Nat → Bool} {held : Bool} {r : Reach} {b0 : Nat} {v : Value} {d : DataW H} {p : List MemPlace}
theorem trod_Ballot {fuel : Nat} {cs : List Value} {x : DataW H × List MemPlace} (h : DataW.trod enc Tryd.prog w base sp held fuel 25 cs = some x) :
    ∃ X : Ballot, cs = (BV X).toList ∧ BallotFits X := by
  obtain ⟨xs, n, _, hx, hlen, hxl, hg⟩ := DataW.trod_struct Tryd.underlying25 h
  have hC : Tryd.prog.cellsOf 25 = 2 := by kernel_rfl
  rw [hC] at hlen
  match xs, hxl with
  | [y0, y1], _ =>
    subst hx
    have c0 : Tryd.prog.cellsOf 3 = 1 := by kernel_rfl
    have g0 : DataW.trod enc Tryd.prog w base sp held n 3 ((cs.drop 0).take (Tryd.prog.cellsOf 3)) = some y0 := hg 0 _ rfl
    rw [c0] at g0
    obtain ⟨n0, e0, f0, w0⟩ := DataW.trod_int Tryd.underlying3 g0
    have c1 : Tryd.prog.cellsOf 3 = 1 := by kernel_rfl
    have g1 : DataW.trod enc Tryd.prog w base sp held n 3 ((cs.drop 1).take (Tryd.prog.cellsOf 3)) = some y1 := hg 1 _ rfl
    rw [c1] at g1
    obtain ⟨n1, e1, f1, w1⟩ := DataW.trod_int Tryd.underlying3 g1
    have ee : cs = (cs.drop 0).take 1 ++ ((cs.drop 1).take 1 ++ cs.drop 2) := by
      exact (List.drop_zero (l := cs)).symm.trans ((seg cs 0 1).trans (congrArg (_ ++ ·) (seg cs 1 1)))
    rw [e0, e1, List.drop_eq_nil_of_le (by omega)] at ee
    exact ⟨⟨n0, n1⟩, ee, ⟨fits_of w0, fits_of w1⟩⟩
theorem open_Ballot (hv : Value.okWide Tryd.prog w r b0 25 v) (h : DataW.Trod enc Tryd.prog w base sp held 25 v d p) :
    ∃ X : Ballot, v = .agg (BV X) ∧ BallotFits X := by
  obtain ⟨cs, rfl, _⟩ := okWide_struct Tryd.underlying25 hv
  obtain ⟨fuel, hf⟩ := h
  obtain ⟨X, e, hX⟩ := trod_Ballot hf
  refine ⟨X, ?_, hX⟩
  obtain ⟨l⟩ := cs
  simp only [Value.cells] at e
  have e' : l = (BV X).toList := e
  subst e'
  rfl
end
end Go.Proofs.YtahajjfbkdocaaaDoor
/- What comes in as a deed. -/
namespace Go.Proofs.YtahajjfbkdocaaaDoor
open Go.ChangeShapes Go.WideShapes Go.ChangeAt Go.RowKit Go.WideMaps Go.WideElems Go.Joins
open Go.ChangeMaps (open_string)
section
variable {H : Type} {enc : TypeId × Value → H} {w : World} {base : Nat} {sp : Nat → Bool} {held : Bool} {r : Reach} {b0 : Nat} {v : Value} {d : DataW H} {p : List MemPlace}
structure DeedFits (d : Deed) : Prop where
  kind : Fits d.kind
  ver : Fits d.ver
  ses : Fits d.ses
  num : Fits d.num
  key : d.key.size ≤ 140737488351232
  val : d.val.size ≤ 140737488351232
theorem DeedFits.keyM {d : Deed} (h : DeedFits d) : d.key.size ≤ maxLen := by have := h.key; unfold maxLen; omega
theorem DeedFits.valM {d : Deed} (h : DeedFits d) : d.val.size ≤ maxLen := by have := h.val; unfold maxLen; omega
theorem trod_deed {fuel : Nat} {cs : List Value} {x : DataW H × List MemPlace} (h : DataW.trod enc Tryd.prog w base sp held fuel 27 cs = some x) (hw : ∀ n ∈ x.1.weights Tryd.prog 27, n ≤ reachBytes) :
    ∃ D : Deed, cs = (EV D).toList ∧ DeedFits D := by
  obtain ⟨xs, n, _, hx, hlen, hxl, hg⟩ := DataW.trod_struct Tryd.underlying27 h
  have hC : Tryd.prog.cellsOf 27 = 6 := by kernel_rfl
  have hC1 : Tryd.prog.cellsOf 3 = 1 := by kernel_rfl
  have hC2 : Tryd.prog.cellsOf 9 = 1 := by kernel_rfl
  rw [hC] at hlen
  match cs, hlen, xs, hxl with
  | [c0, c1, c2, c3, c4, c5], _, [y0, y1, y2, y3, y4, y5], _ =>
    have g0 : DataW.trod enc Tryd.prog w base sp held n 3 (([c0, c1, c2, c3, c4, c5].drop 0).take (Tryd.prog.cellsOf 3)) = some y0 := hg 0 _ rfl
    rw [hC1] at g0
    have g1 : DataW.trod enc Tryd.prog w base sp held n 9 (([c0, c1, c2, c3, c4, c5].drop 1).take (Tryd.prog.cellsOf 9)) = some y1 := hg 1 _ rfl
    rw [hC2] at g1
    have g2 : DataW.trod enc Tryd.prog w base sp held n 9 (([c0, c1, c2, c3, c4, c5].drop 2).take (Tryd.prog.cellsOf 9)) = some y2 := hg 2 _ rfl
    rw [hC2] at g2
    have g3 : DataW.trod enc Tryd.prog w base sp held n 3 (([c0, c1, c2, c3, c4, c5].drop 3).take (Tryd.prog.cellsOf 3)) = some y3 := hg 3 _ rfl
    rw [hC1] at g3
    have g4 : DataW.trod enc Tryd.prog w base sp held n 3 (([c0, c1, c2, c3, c4, c5].drop 4).take (Tryd.prog.cellsOf 3)) = some y4 := hg 4 _ rfl
    rw [hC1] at g4
    have g5 : DataW.trod enc Tryd.prog w base sp held n 3 (([c0, c1, c2, c3, c4, c5].drop 5).take (Tryd.prog.cellsOf 3)) = some y5 := hg 5 _ rfl
    rw [hC1] at g5
    obtain ⟨n0, e0, f0, w0⟩ := DataW.trod_int Tryd.underlying3 g0
    obtain ⟨n1, e1, f1, w1⟩ := DataW.trod_string Tryd.underlying9 g1
    obtain ⟨n2, e2, f2, w2⟩ := DataW.trod_string Tryd.underlying9 g2
    obtain ⟨n3, e3, f3, w3⟩ := DataW.trod_int Tryd.underlying3 g3
    obtain ⟨n4, e4, f4, w4⟩ := DataW.trod_int Tryd.underlying3 g4
    obtain ⟨n5, e5, f5, w5⟩ := DataW.trod_int Tryd.underlying3 g5
    simp at e0 e1 e2 e3 e4 e5
    subst e0 e1 e2 e3 e4 e5 f0 f1 f2 f3 f4 f5
    subst hx
    have hk := hw n1.data.toList.length (by simp [DataW.weights, Tryd.underlying27, DataW.weightsEach])
    have hv := hw n2.data.toList.length (by simp [DataW.weights, Tryd.underlying27, DataW.weightsEach])
    have hr : reachBytes = 140737488351232 := rfl
    rw [hr, Array.length_toList] at hk hv
    exact ⟨⟨n0, n1, n2, n3, n4, n5⟩, rfl, ⟨fits_of w0, fits_of w3, fits_of w4, fits_of w5, hk, hv⟩⟩
theorem open_deed (hv : Value.okWide Tryd.prog w r b0 27 v) (h : DataW.Trod enc Tryd.prog w base sp held 27 v d p) (hw : ∀ n ∈ d.weights Tryd.prog 27, n ≤ reachBytes) :
    ∃ D : Deed, v = .agg (EV D) ∧ DeedFits D := by
  obtain ⟨cs, rfl, _⟩ := okWide_struct Tryd.underlying27 hv
  obtain ⟨fuel, hf⟩ := h
  obtain ⟨D, e, hD⟩ := trod_deed hf hw
  refine ⟨D, ?_, hD⟩
  obtain ⟨l⟩ := cs
  simp only [Value.cells] at e
  have e' : l = (EV D).toList := e
  subst e'
  rfl
end
end Go.Proofs.YtahajjfbkdocaaaDoor
/- What comes in as a row of numbers. -/
namespace Go.Proofs.YtahajjfbkdocaaaDoor
open Go.ChangeShapes Go.WideShapes Go.ChangeAt Go.RowKit Go.WideMaps Go.WideElems Go.Joins
set_option linter.unusedVariables false
section
variable {H : Type} {enc : TypeId × Value → H} {w : World} {base : Nat} {sp : Nat → Bool} {held : Bool} {r : Reach} {b0 : Nat} {v : Value} {d : DataW H} {p : List MemPlace}
theorem trod_Deps {fuel : Nat} {cs : List Value} {x : DataW H × List MemPlace} (hf : DataW.trod enc Tryd.prog w base sp held fuel 29 cs = some x) :
    ∃ X : Nat → Int, cs = (DV X).toList ∧ ∀ i, i < 7 → Fits (X i) := by
  have hC : Tryd.prog.cellsOf 29 = 7 := by kernel_rfl
  have hC1 : Tryd.prog.cellsOf 3 = 1 := by kernel_rfl
  obtain ⟨xs, m, _, _, hlen, hxl, hg⟩ := DataW.trod_array Tryd.underlying29 hf
  rw [hC] at hlen
  match cs, hlen with
  | [c0, c1, c2, c3, c4, c5, c6], _ =>
    have key : ∀ i, i < 7 → ∃ n, ([c0, c1, c2, c3, c4, c5, c6].drop i).take 1 = [.int .i64 n] ∧ (Lit.int .i64 n).wf = true := fun i hi => by
      have h1 := hg i hi
      rw [hC1, Nat.mul_one] at h1
      have : ∃ y, xs[i]? = some y := ⟨xs[i]'(by omega), List.getElem?_eq_getElem (by omega)⟩
      obtain ⟨y, hy⟩ := this
      obtain ⟨n, e1, _, e2⟩ := DataW.trod_int Tryd.underlying3 (h1.trans hy)
      exact ⟨n, by simpa using e1, e2⟩
    obtain ⟨n0, e0, w0⟩ := key 0 (by omega)
    obtain ⟨n1, e1, w1⟩ := key 1 (by omega)
    obtain ⟨n2, e2, w2⟩ := key 2 (by omega)
    obtain ⟨n3, e3, w3⟩ := key 3 (by omega)
    obtain ⟨n4, e4, w4⟩ := key 4 (by omega)
    obtain ⟨n5, e5, w5⟩ := key 5 (by omega)
    obtain ⟨n6, e6, w6⟩ := key 6 (by omega)
    simp at e0 e1 e2 e3 e4 e5 e6
    subst e0 e1 e2 e3 e4 e5 e6
    refine ⟨fun i => [n0, n1, n2, n3, n4, n5, n6].getD i 0, rfl, fun i hi => ?_⟩
    match i, hi with
    | 0, _ => exact fits_of w0
    | 1, _ => exact fits_of w1
    | 2, _ => exact fits_of w2
    | 3, _ => exact fits_of w3
    | 4, _ => exact fits_of w4
    | 5, _ => exact fits_of w5
    | 6, _ => exact fits_of w6
end
end Go.Proofs.YtahajjfbkdocaaaDoor
/- What comes in as Call. Printed by types.py. -/
namespace Go.Proofs.YtahajjfbkdocaaaDoor
open Go.ChangeShapes Go.WideShapes Go.ChangeAt Go.RowKit Go.WideMaps Go.WideElems Go.Joins
open Go.ChangeMaps (open_string)
set_option linter.unusedVariables false
structure CallFits (x : Call) : Prop where
  deed : DeedFits x.deed
  deps : ∀ i, i < 7 → Fits (x.deps i)
  seq : Fits x.seq
section
variable {H : Type} {enc : TypeId × Value → H} {w : World} {base : Nat} {sp : Nat → Bool} {held : Bool} {r : Reach} {b0 : Nat} {v : Value} {d : DataW H} {p : List MemPlace}
theorem trod_Call {fuel : Nat} {cs : List Value} {x : DataW H × List MemPlace} (h : DataW.trod enc Tryd.prog w base sp held fuel 31 cs = some x) (hw : ∀ n ∈ x.1.weights Tryd.prog 31, n ≤ reachBytes) :
    ∃ X : Call, cs = (CV X).toList ∧ CallFits X := by
  obtain ⟨xs, n, _, hx, hlen, hxl, hg⟩ := DataW.trod_struct Tryd.underlying31 h
  have hC : Tryd.prog.cellsOf 31 = 14 := by kernel_rfl
  rw [hC] at hlen
  match xs, hxl with
  | [y0, y1, y2], _ =>
    subst hx
    have c0 : Tryd.prog.cellsOf 27 = 6 := by kernel_rfl
    have g0 : DataW.trod enc Tryd.prog w base sp held n 27 ((cs.drop 0).take (Tryd.prog.cellsOf 27)) = some y0 := hg 0 _ rfl
    rw [c0] at g0
    obtain ⟨n0, e0, w0⟩ := trod_deed g0 (fun m hm => hw m (by simp [DataW.weights, Tryd.underlying31, DataW.weightsEach]; simp_all))
    have c1 : Tryd.prog.cellsOf 29 = 7 := by kernel_rfl
    have g1 : DataW.trod enc Tryd.prog w base sp held n 29 ((cs.drop 6).take (Tryd.prog.cellsOf 29)) = some y1 := hg 1 _ rfl
    rw [c1] at g1
    obtain ⟨n1, e1, w1⟩ := trod_Deps g1
    have c2 : Tryd.prog.cellsOf 3 = 1 := by kernel_rfl
    have g2 : DataW.trod enc Tryd.prog w base sp held n 3 ((cs.drop 13).take (Tryd.prog.cellsOf 3)) = some y2 := hg 2 _ rfl
    rw [c2] at g2
    obtain ⟨n2, e2, f2, w2⟩ := DataW.trod_int Tryd.underlying3 g2
    have ee : cs = (cs.drop 0).take 6 ++ ((cs.drop 6).take 7 ++ ((cs.drop 13).take 1 ++ cs.drop 14)) := by
      exact (List.drop_zero (l := cs)).symm.trans ((seg cs 0 6).trans (congrArg (_ ++ ·) ((seg cs 6 7).trans (congrArg (_ ++ ·) (seg cs 13 1)))))
    rw [e0, e1, e2, List.drop_eq_nil_of_le (by omega)] at ee
    exact ⟨⟨n0, n1, n2⟩, ee, ⟨w0, w1, fits_of w2⟩⟩
theorem open_Call (hv : Value.okWide Tryd.prog w r b0 31 v) (h : DataW.Trod enc Tryd.prog w base sp held 31 v d p) (hw : ∀ n ∈ d.weights Tryd.prog 31, n ≤ reachBytes) :
    ∃ X : Call, v = .agg (CV X) ∧ CallFits X := by
  obtain ⟨cs, rfl, _⟩ := okWide_struct Tryd.underlying31 hv
  obtain ⟨fuel, hf⟩ := h
  obtain ⟨X, e, hX⟩ := trod_Call hf hw
  refine ⟨X, ?_, hX⟩
  obtain ⟨l⟩ := cs
  simp only [Value.cells] at e
  have e' : l = (CV X).toList := e
  subst e'
  rfl
end
end Go.Proofs.YtahajjfbkdocaaaDoor
/- What comes in as Msg. Printed by types.py. -/
namespace Go.Proofs.YtahajjfbkdocaaaDoor
open Go.ChangeShapes Go.WideShapes Go.ChangeAt Go.RowKit Go.WideMaps Go.WideElems Go.Joins
open Go.ChangeMaps (open_string)
set_option linter.unusedVariables false
structure MsgFits (x : Msg) : Prop where
  kind : Fits x.kind
  frm : Fits x.frm
  to : Fits x.to
  item : ItemFits x.item
  bal : BallotFits x.bal
  vote : BallotFits x.vote
  status : Fits x.status
  call : CallFits x.call
section
variable {H : Type} {enc : TypeId × Value → H} {w : World} {base : Nat} {sp : Nat → Bool} {held : Bool} {r : Reach} {b0 : Nat} {v : Value} {d : DataW H} {p : List MemPlace}
theorem trod_Msg {fuel : Nat} {cs : List Value} {x : DataW H × List MemPlace} (h : DataW.trod enc Tryd.prog w base sp held fuel 33 cs = some x) (hw : ∀ n ∈ x.1.weights Tryd.prog 33, n ≤ reachBytes) :
    ∃ X : Msg, cs = (MV X).toList ∧ MsgFits X := by
  obtain ⟨xs, n, _, hx, hlen, hxl, hg⟩ := DataW.trod_struct Tryd.underlying33 h
  have hC : Tryd.prog.cellsOf 33 = 25 := by kernel_rfl
  rw [hC] at hlen
  match xs, hxl with
  | [y0, y1, y2, y3, y4, y5, y6, y7, y8], _ =>
    subst hx
    have c0 : Tryd.prog.cellsOf 3 = 1 := by kernel_rfl
    have g0 : DataW.trod enc Tryd.prog w base sp held n 3 ((cs.drop 0).take (Tryd.prog.cellsOf 3)) = some y0 := hg 0 _ rfl
    rw [c0] at g0
    obtain ⟨n0, e0, f0, w0⟩ := DataW.trod_int Tryd.underlying3 g0
    have c1 : Tryd.prog.cellsOf 3 = 1 := by kernel_rfl
    have g1 : DataW.trod enc Tryd.prog w base sp held n 3 ((cs.drop 1).take (Tryd.prog.cellsOf 3)) = some y1 := hg 1 _ rfl
    rw [c1] at g1
    obtain ⟨n1, e1, f1, w1⟩ := DataW.trod_int Tryd.underlying3 g1
    have c2 : Tryd.prog.cellsOf 3 = 1 := by kernel_rfl
    have g2 : DataW.trod enc Tryd.prog w base sp held n 3 ((cs.drop 2).take (Tryd.prog.cellsOf 3)) = some y2 := hg 2 _ rfl
    rw [c2] at g2
    obtain ⟨n2, e2, f2, w2⟩ := DataW.trod_int Tryd.underlying3 g2
    have c3 : Tryd.prog.cellsOf 23 = 2 := by kernel_rfl
    have g3 : DataW.trod enc Tryd.prog w base sp held n 23 ((cs.drop 3).take (Tryd.prog.cellsOf 23)) = some y3 := hg 3 _ rfl
    rw [c3] at g3
    obtain ⟨n3, e3, w3⟩ := trod_Item g3
    have c4 : Tryd.prog.cellsOf 25 = 2 := by kernel_rfl
    have g4 : DataW.trod enc Tryd.prog w base sp held n 25 ((cs.drop 5).take (Tryd.prog.cellsOf 25)) = some y4 := hg 4 _ rfl
    rw [c4] at g4
    obtain ⟨n4, e4, w4⟩ := trod_Ballot g4
    have c5 : Tryd.prog.cellsOf 25 = 2 := by kernel_rfl
    have g5 : DataW.trod enc Tryd.prog w base sp held n 25 ((cs.drop 7).take (Tryd.prog.cellsOf 25)) = some y5 := hg 5 _ rfl
    rw [c5] at g5
    obtain ⟨n5, e5, w5⟩ := trod_Ballot g5
    have c6 : Tryd.prog.cellsOf 3 = 1 := by kernel_rfl
    have g6 : DataW.trod enc Tryd.prog w base sp held n 3 ((cs.drop 9).take (Tryd.prog.cellsOf 3)) = some y6 := hg 6 _ rfl
    rw [c6] at g6
    obtain ⟨n6, e6, f6, w6⟩ := DataW.trod_int Tryd.underlying3 g6
    have c7 : Tryd.prog.cellsOf 4 = 1 := by kernel_rfl
    have g7 : DataW.trod enc Tryd.prog w base sp held n 4 ((cs.drop 10).take (Tryd.prog.cellsOf 4)) = some y7 := hg 7 _ rfl
    rw [c7] at g7
    obtain ⟨n7, e7, f7⟩ := DataW.trod_bool Tryd.underlying4 g7
    have c8 : Tryd.prog.cellsOf 31 = 14 := by kernel_rfl
    have g8 : DataW.trod enc Tryd.prog w base sp held n 31 ((cs.drop 11).take (Tryd.prog.cellsOf 31)) = some y8 := hg 8 _ rfl
    rw [c8] at g8
    obtain ⟨n8, e8, w8⟩ := trod_Call g8 (fun m hm => hw m (by simp [DataW.weights, Tryd.underlying33, DataW.weightsEach]; simp_all))
    have ee : cs = (cs.drop 0).take 1 ++ ((cs.drop 1).take 1 ++ ((cs.drop 2).take 1 ++ ((cs.drop 3).take 2 ++ ((cs.drop 5).take 2 ++ ((cs.drop 7).take 2 ++ ((cs.drop 9).take 1 ++ ((cs.drop 10).take 1 ++ ((cs.drop 11).take 14 ++ cs.drop 25)))))))) := by
      exact (List.drop_zero (l := cs)).symm.trans ((seg cs 0 1).trans (congrArg (_ ++ ·) ((seg cs 1 1).trans (congrArg (_ ++ ·) ((seg cs 2 1).trans (congrArg (_ ++ ·) ((seg cs 3 2).trans (congrArg (_ ++ ·) ((seg cs 5 2).trans (congrArg (_ ++ ·) ((seg cs 7 2).trans (congrArg (_ ++ ·) ((seg cs 9 1).trans (congrArg (_ ++ ·) ((seg cs 10 1).trans (congrArg (_ ++ ·) (seg cs 11 14)))))))))))))))))
    rw [e0, e1, e2, e3, e4, e5, e6, e7, e8, List.drop_eq_nil_of_le (by omega)] at ee
    exact ⟨⟨n0, n1, n2, n3, n4, n5, n6, n7, n8⟩, ee, ⟨fits_of w0, fits_of w1, fits_of w2, w3, w4, w5, fits_of w6, w8⟩⟩
theorem open_Msg (hv : Value.okWide Tryd.prog w r b0 33 v) (h : DataW.Trod enc Tryd.prog w base sp held 33 v d p) (hw : ∀ n ∈ d.weights Tryd.prog 33, n ≤ reachBytes) :
    ∃ X : Msg, v = .agg (MV X) ∧ MsgFits X := by
  obtain ⟨cs, rfl, _⟩ := okWide_struct Tryd.underlying33 hv
  obtain ⟨fuel, hf⟩ := h
  obtain ⟨X, e, hX⟩ := trod_Msg hf hw
  refine ⟨X, ?_, hX⟩
  obtain ⟨l⟩ := cs
  simp only [Value.cells] at e
  have e' : l = (MV X).toList := e
  subst e'
  rfl
end
end Go.Proofs.YtahajjfbkdocaaaDoor
/- Layer 1, reading: a source in memory, and what each call takes from it. -/
namespace Go.Proofs.YtahajjfbkdocaaaDoor
open Go.RowKit
set_option linter.unusedVariables false
attribute [local go_sem] row_alloc row_drew row_drewN row_ext row_setCell row_setRow size_ext setRow_alloc setRow_drew
attribute [local go_sem high] cell_alloc frozen_alloc setCell_alloc cell_ext frozen_ext
def strL (l : List UInt8) : ByteArray := ⟨l.toArray⟩
theorem strL_add (l : List UInt8) (s : ByteArray) : strL l ++ s = strL (l ++ s.data.toList) := by
  cases s; simp [strL, ByteArray.ext_iff]
theorem strL_size (l : List UInt8) : (strL l).size = l.length := by simp [strL, ByteArray.size]
theorem strL_take (l : List UInt8) (n : Nat) : (strL l).extract 0 n = strL (l.take n) := by
  apply ByteArray.ext; simp [strL, ByteArray.data_extract]
theorem strL_drop (l : List UInt8) (n : Nat) : (strL l).extract n l.length = strL (l.drop n) := by
  apply ByteArray.ext
  simp only [strL, ByteArray.data_extract]
  apply Array.ext'
  simp
  exact List.take_of_length_le (by rw [List.length_drop]; exact Nat.le_refl _)
/-- What a source still has, and whether something was missing. -/
structure Src where
  left : List UInt8
  dry : Bool
def dryS : Src := ⟨[], true⟩
def SV (s : Src) : Array Value := #[.string (strL s.left), .bool s.dry]
/-- So many bytes. -/
def rawS (s : Src) (n : Int) : List UInt8 × Src :=
  if s.dry = true ∨ n < 0 ∨ (s.left.length : Int) < n then ([], dryS) else (s.left.take n.toNat, ⟨s.left.drop n.toNat, false⟩)
section
variable {W : World} {g : Nat} {s : Src}
set_option maxHeartbeats 1000000 in
theorem from_any (W : World) (l : List UInt8) : Calls Tryd.prog 26 #[.string (strL l)] W fun e w' => e = .returned (.pointer (some ⟨W.heap.size, 0, none⟩)) ∧ row? w' W.heap.size = some (SV ⟨l, false⟩) ∧ Below W.heap.size W w' ∧ w'.heap.size = W.heap.size + 1 := by
  go_enter Tryd.func26, Tryd.ntmps26
  go_wp2
  go_ret
  refine ⟨rfl, ?_, (Below.refl _ _).alloc (Nat.le_refl _) _, by simp⟩
  rw [row_alloc, if_pos rfl]; rfl
set_option maxHeartbeats 1000000 in
theorem stop_any (h : row? W g = some (SV s)) : Calls Tryd.prog 58 #[.pointer (some ⟨g, 0, none⟩)] W fun e w' => e = .returned (.tuple #[]) ∧ row? w' g = some (SV dryS) ∧ Touch W w' g none ∧ w'.heap.size = W.heap.size := by
  have hc := row_cell h
  have hf := row_frozen h
  have Hr := Lib.hid h; clear h
  unfold SV at hc
  go_enter Tryd.func58, Tryd.ntmps58
  go_wp2
  go_end0
  refine ⟨rfl, ?_, (grown_cell _ _ _ _).trans (Fresh.refl _ _) (grown_cell _ _ _ _), by simp [World.setCell]⟩
  rw [row_setCell, if_pos rfl, row_setCell, if_pos rfl, Hr.out]; rfl
theorem Touch.refl' (W : World) (g : Nat) : Touch W W g none := Touch.refl W g none
set_option maxHeartbeats 1000000 in
theorem raw_any (h : row? W g = some (SV s)) (n : Int) (hn : -9223372036854775808 ≤ n ∧ n ≤ 9223372036854775807) :
    Calls Tryd.prog 47 #[.pointer (some ⟨g, 0, none⟩), .int .i64 n] W fun e w' => e = .returned (.string (strL (rawS s n).1)) ∧ row? w' g = some (SV (rawS s n).2) ∧ Touch W w' g none ∧ w'.heap.size = W.heap.size := by
  have hc := row_cell h
  have hf := row_frozen h
  have Hr := Lib.hid h
  have hz := strL_size s.left
  unfold SV at hc
  by_cases hs : s.dry = true ∨ n < 0 ∨ (s.left.length : Int) < n
  · have Hs := Lib.hid hs
    have hra : rawS s n = ([], dryS) := by unfold rawS; rw [if_pos hs]
    rw [hra]
    clear hra
    have hg : (s.dry || decide (n < 0) || decide ((s.left.length : Int) < n)) = true := by
      simp only [Bool.or_eq_true, decide_eq_true_eq, or_assoc]; exact hs
    clear hs
    go_enter Tryd.func47, Tryd.ntmps47
    clear h hn
    cases hsd : s.dry
    · rw [hsd] at hc hg
      rw [Bool.false_or] at hg
      go_wp2_with fail
      all_goals first
        | (refine (stop_any Hr.out).mono ?_; rintro e w' ⟨rfl, hr, hT, hzz⟩
           go_wp2
           go_ret
           exact ⟨rfl, hr, hT, hzz⟩)
        | (exfalso; simp only [Bool.or_eq_true, decide_eq_true_eq] at hg; omega)
    · rw [hsd] at hc
      go_wp2_with fail
      refine (stop_any Hr.out).mono ?_; rintro e w' ⟨rfl, hr, hT, hzz⟩
      go_wp2
      go_ret
      exact ⟨rfl, hr, hT, hzz⟩
  · have hra : rawS s n = (s.left.take n.toNat, ⟨s.left.drop n.toNat, false⟩) := by unfold rawS; rw [if_neg hs]
    rw [hra]
    clear hra h
    obtain ⟨m, rfl⟩ : ∃ m : Nat, n = m := ⟨n.toNat, by omega⟩
    have hd : s.dry = false := by cases hsd : s.dry <;> simp_all
    have hl : m ≤ s.left.length := by omega
    have hl2 : (m : Int) ≤ (s.left.length : Int) := by omega
    clear hs
    rw [hd] at hc
    rw [Int.toNat_natCast]
    have e1 := strL_take s.left m
    have e2 := strL_drop s.left m
    generalize strL s.left = B at *
    generalize strL (s.left.take m) = X at *
    go_enter Tryd.func47, Tryd.ntmps47
    go_wp2
    go_ret
    refine ⟨rfl, ?_, grown_cell _ _ _ _, by simp [World.setCell]⟩
    rw [row_setCell, if_pos rfl, Hr.out]
    show some _ = _
    simp [SV, hd]
end
end Go.Proofs.YtahajjfbkdocaaaDoor
