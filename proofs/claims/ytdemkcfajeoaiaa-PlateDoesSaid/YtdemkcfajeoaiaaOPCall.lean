/- What comes in as PCall. Printed by types.py. -/
import Derived.Test.YtdemkcfajeoaiaaOpenBase
import Derived.Test.YtdemkcfajeoaiaaTPCall
namespace Go.Proofs.Ytdemkcfajeoaiaa
open Go.ChangeShapes Go.WideShapes Go.ChangeAt Go.RowKit Go.WideMaps Go.WideElems Go.Joins
open Go.ChangeMaps (open_string)
set_option linter.unusedVariables false
structure PCallFits (x : PCall) : Prop where
  kind : Fits x.kind
  text : x.text.size ≤ 140737488351232
  n : Fits x.n
  spoil : 0 ≤ x.spoil ∧ x.spoil ≤ 255
section
variable {H : Type} {enc : TypeId × Value → H} {w : World} {base : Nat} {sp : Nat → Bool} {held : Bool} {r : Reach} {b0 : Nat} {v : Value} {d : DataW H} {p : List MemPlace}
theorem trod_PCall {fuel : Nat} {cs : List Value} {x : DataW H × List MemPlace} (h : DataW.trod enc Try.prog w base sp held fuel 42 cs = some x) (hw : ∀ n ∈ x.1.weights Try.prog 42, n ≤ reachBytes) :
    ∃ X : PCall, cs = (PCV X).toList ∧ PCallFits X := by
  obtain ⟨xs, n, _, hx, hlen, hxl, hg⟩ := DataW.trod_struct Try.underlying42 h
  have hC : Try.prog.cellsOf 42 = 4 := by kernel_rfl
  rw [hC] at hlen
  match xs, hxl with
  | [y0, y1, y2, y3], _ =>
    subst hx
    have c0 : Try.prog.cellsOf 3 = 1 := by kernel_rfl
    have g0 : DataW.trod enc Try.prog w base sp held n 3 ((cs.drop 0).take (Try.prog.cellsOf 3)) = some y0 := hg 0 _ rfl
    rw [c0] at g0
    obtain ⟨n0, e0, f0, w0⟩ := DataW.trod_int Try.underlying3 g0
    have c1 : Try.prog.cellsOf 9 = 1 := by kernel_rfl
    have g1 : DataW.trod enc Try.prog w base sp held n 9 ((cs.drop 1).take (Try.prog.cellsOf 9)) = some y1 := hg 1 _ rfl
    rw [c1] at g1
    obtain ⟨n1, e1, f1, w1⟩ := DataW.trod_string Try.underlying9 g1
    have k1 := hw n1.data.toList.length (by simp [DataW.weights, Try.underlying42, DataW.weightsEach, f1])
    rw [show reachBytes = 140737488351232 from rfl, Array.length_toList] at k1
    have c2 : Try.prog.cellsOf 3 = 1 := by kernel_rfl
    have g2 : DataW.trod enc Try.prog w base sp held n 3 ((cs.drop 2).take (Try.prog.cellsOf 3)) = some y2 := hg 2 _ rfl
    rw [c2] at g2
    obtain ⟨n2, e2, f2, w2⟩ := DataW.trod_int Try.underlying3 g2
    have c3 : Try.prog.cellsOf 5 = 1 := by kernel_rfl
    have g3 : DataW.trod enc Try.prog w base sp held n 5 ((cs.drop 3).take (Try.prog.cellsOf 5)) = some y3 := hg 3 _ rfl
    rw [c3] at g3
    obtain ⟨n3, e3, f3, w3⟩ := DataW.trod_int Try.underlying5 g3
    have ee : cs = (cs.drop 0).take 1 ++ ((cs.drop 1).take 1 ++ ((cs.drop 2).take 1 ++ ((cs.drop 3).take 1 ++ cs.drop 4))) := by
      exact (List.drop_zero (l := cs)).symm.trans ((seg cs 0 1).trans (congrArg (_ ++ ·) ((seg cs 1 1).trans (congrArg (_ ++ ·) ((seg cs 2 1).trans (congrArg (_ ++ ·) (seg cs 3 1)))))))
    rw [e0, e1, e2, e3, List.drop_eq_nil_of_le (by omega)] at ee
    exact ⟨⟨n0, n1, n2, n3⟩, ee, ⟨fits_of w0, k1, fits_of w2, fits8_of w3⟩⟩
theorem open_PCall (hv : Value.okWide Try.prog w r b0 42 v) (h : DataW.Trod enc Try.prog w base sp held 42 v d p) (hw : ∀ n ∈ d.weights Try.prog 42, n ≤ reachBytes) :
    ∃ X : PCall, v = .agg (PCV X) ∧ PCallFits X := by
  obtain ⟨cs, rfl, _⟩ := okWide_struct Try.underlying42 hv
  obtain ⟨fuel, hf⟩ := h
  obtain ⟨X, e, hX⟩ := trod_PCall hf hw
  refine ⟨X, ?_, hX⟩
  obtain ⟨l⟩ := cs
  simp only [Value.cells] at e
  have e' : l = (PCV X).toList := e
  subst e'
  rfl
end
end Go.Proofs.Ytdemkcfajeoaiaa
