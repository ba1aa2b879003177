/- What comes in as a row of numbers. -/
import Derived.Test.YtahajjfbkdocaaaOpenBase
import Derived.Test.YtahajjfbkdocaaaDeps
namespace Go.Proofs.Ytahajjfbkdocaaa
open Go.ChangeShapes Go.WideShapes Go.ChangeAt Go.RowKit Go.WideMaps Go.WideElems Go.Joins
set_option linter.unusedVariables false
section
variable {H : Type} {enc : TypeId × Value → H} {w : World} {base : Nat} {sp : Nat → Bool} {held : Bool} {r : Reach} {b0 : Nat} {v : Value} {d : DataW H} {p : List MemPlace}
theorem trod_Deps {fuel : Nat} {cs : List Value} {x : DataW H × List MemPlace} (hf : DataW.trod enc Try.prog w base sp held fuel 34 cs = some x) :
    ∃ X : Nat → Int, cs = (DV X).toList ∧ ∀ i, i < 7 → Fits (X i) := by
  have hC : Try.prog.cellsOf 34 = 7 := by kernel_rfl
  have hC1 : Try.prog.cellsOf 3 = 1 := by kernel_rfl
  obtain ⟨xs, m, _, _, hlen, hxl, hg⟩ := DataW.trod_array Try.underlying34 hf
  rw [hC] at hlen
  match cs, hlen with
  | [c0, c1, c2, c3, c4, c5, c6], _ =>
    have key : ∀ i, i < 7 → ∃ n, ([c0, c1, c2, c3, c4, c5, c6].drop i).take 1 = [.int .i64 n] ∧ (Lit.int .i64 n).wf = true := fun i hi => by
      have h1 := hg i hi
      rw [hC1, Nat.mul_one] at h1
      have : ∃ y, xs[i]? = some y := ⟨xs[i]'(by omega), List.getElem?_eq_getElem (by omega)⟩
      obtain ⟨y, hy⟩ := this
      obtain ⟨n, e1, _, e2⟩ := DataW.trod_int Try.underlying3 (h1.trans hy)
      exact ⟨n, by simpa using e1, e2⟩
    obtain ⟨n0, e0, w0⟩ := key 0 (by omega)
    obtain ⟨n1, e1, w1⟩ := key 1 (by omega)
    obtain ⟨n2, e2, w2⟩ := key 2 (by omega)
    obtain ⟨n3, e3, w3⟩ := key 3 (by omega)
    obtain ⟨n4, e4, w4⟩ := key 4 (by omega)
    obtain ⟨n5, e5, w5⟩ := key 5 (by omega)
    obtain ⟨n6, e6, w6⟩ := key 6 (by omega)
    simp at e0 e1 e2 e3 e4 e5 e6
    subst e0 e1 e2 e3 e4 e5 e6
    refine ⟨fun i => [n0, n1, n2, n3, n4, n5, n6].getD i 0, rfl, fun i hi => ?_⟩
    match i, hi with
    | 0, _ => exact fits_of w0
    | 1, _ => exact fits_of w1
    | 2, _ => exact fits_of w2
    | 3, _ => exact fits_of w3
    | 4, _ => exact fits_of w4
    | 5, _ => exact fits_of w5
    | 6, _ => exact fits_of w6
end
end Go.Proofs.Ytahajjfbkdocaaa
