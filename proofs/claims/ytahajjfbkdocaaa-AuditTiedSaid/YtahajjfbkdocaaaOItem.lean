/- What comes in as Item. Printed by types.py. -/
import Derived.Test.YtahajjfbkdocaaaOpenBase
import Derived.Test.YtahajjfbkdocaaaTItem
namespace Go.Proofs.Ytahajjfbkdocaaa
open Go.ChangeShapes Go.WideShapes Go.ChangeAt Go.RowKit Go.WideMaps Go.WideElems Go.Joins
open Go.ChangeMaps (open_string)
set_option linter.unusedVariables false
structure ItemFits (x : Item) : Prop where
  rep : Fits x.rep
  num : Fits x.num
section
variable {H : Type} {enc : TypeId × Value → H} {w : World} {base : Nat} {sp : Nat → Bool} {held : Bool} {r : Reach} {b0 : Nat} {v : Value} {d : DataW H} {p : List MemPlace}
theorem trod_Item {fuel : Nat} {cs : List Value} {x : DataW H × List MemPlace} (h : DataW.trod enc Try.prog w base sp held fuel 28 cs = some x) :
    ∃ X : Item, cs = (IV X).toList ∧ ItemFits X := by
  obtain ⟨xs, n, _, hx, hlen, hxl, hg⟩ := DataW.trod_struct Try.underlying28 h
  have hC : Try.prog.cellsOf 28 = 2 := by kernel_rfl
  rw [hC] at hlen
  match xs, hxl with
  | [y0, y1], _ =>
    subst hx
    have c0 : Try.prog.cellsOf 3 = 1 := by kernel_rfl
    have g0 : DataW.trod enc Try.prog w base sp held n 3 ((cs.drop 0).take (Try.prog.cellsOf 3)) = some y0 := hg 0 _ rfl
    rw [c0] at g0
    obtain ⟨n0, e0, f0, w0⟩ := DataW.trod_int Try.underlying3 g0
    have c1 : Try.prog.cellsOf 3 = 1 := by kernel_rfl
    have g1 : DataW.trod enc Try.prog w base sp held n 3 ((cs.drop 1).take (Try.prog.cellsOf 3)) = some y1 := hg 1 _ rfl
    rw [c1] at g1
    obtain ⟨n1, e1, f1, w1⟩ := DataW.trod_int Try.underlying3 g1
    have ee : cs = (cs.drop 0).take 1 ++ ((cs.drop 1).take 1 ++ cs.drop 2) := by
      exact (List.drop_zero (l := cs)).symm.trans ((seg cs 0 1).trans (congrArg (_ ++ ·) (seg cs 1 1)))
    rw [e0, e1, List.drop_eq_nil_of_le (by omega)] at ee
    exact ⟨⟨n0, n1⟩, ee, ⟨fits_of w0, fits_of w1⟩⟩
theorem open_Item (hv : Value.okWide Try.prog w r b0 28 v) (h : DataW.Trod enc Try.prog w base sp held 28 v d p) :
    ∃ X : Item, v = .agg (IV X) ∧ ItemFits X := by
  obtain ⟨cs, rfl, _⟩ := okWide_struct Try.underlying28 hv
  obtain ⟨fuel, hf⟩ := h
  obtain ⟨X, e, hX⟩ := trod_Item hf
  refine ⟨X, ?_, hX⟩
  obtain ⟨l⟩ := cs
  simp only [Value.cells] at e
  have e' : l = (IV X).toList := e
  subst e'
  rfl
end
end Go.Proofs.Ytahajjfbkdocaaa
