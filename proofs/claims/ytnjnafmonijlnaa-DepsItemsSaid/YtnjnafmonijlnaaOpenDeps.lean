/- What comes in as a row, as an item. -/
import Derived.Test.YtnjnafmonijlnaaOpenBase
import Derived.Test.YtnjnafmonijlnaaDeps
namespace Go.Proofs.Ytnjnafmonijlnaa
open Go.ChangeShapes Go.WideShapes Go.ChangeAt Go.RowKit Go.WideMaps Go.WideElems Go.Joins
section
variable {H : Type} {enc : TypeId × Value → H} {w : World} {base : Nat} {sp : Nat → Bool} {held : Bool} {r : Reach} {b0 : Nat} {v : Value} {d : DataW H} {p : List MemPlace}
theorem open_deps (hv : Value.okWide Try.prog w r b0 23 v) (h : DataW.Trod enc Try.prog w base sp held 23 v d p) :
    ∃ x : Nat → Int, v = .agg (DV x) ∧ ∀ i, i < 7 → Fits (x i) := by
  obtain ⟨cs, rfl, hsz⟩ := okWide_arr Try.underlying23 hv
  have hC : Try.prog.cellsOf 23 = 7 := by kernel_rfl
  have hC1 : Try.prog.cellsOf 3 = 1 := by kernel_rfl
  obtain ⟨fuel, hf⟩ := h
  obtain ⟨xs, m, _, _, hlen, hxl, hg⟩ := DataW.trod_array Try.underlying23 hf
  rw [hC] at hsz
  obtain ⟨l⟩ := cs
  match l, hsz with
  | [c0, c1, c2, c3, c4, c5, c6], _ =>
    have key : ∀ i, i < 7 → ∃ n, ([c0, c1, c2, c3, c4, c5, c6].drop i).take 1 = [.int .i64 n] ∧ (Lit.int .i64 n).wf = true := fun i hi => by
      have h1 := hg i hi
      rw [hC1, Nat.mul_one] at h1
      have : ∃ y, xs[i]? = some y := ⟨xs[i]'(by omega), List.getElem?_eq_getElem (by omega)⟩
      obtain ⟨y, hy⟩ := this
      obtain ⟨n, e1, _, e2⟩ := DataW.trod_int Try.underlying3 (h1.trans hy)
      exact ⟨n, by simpa [Value.cells] using e1, e2⟩
    obtain ⟨n0, e0, w0⟩ := key 0 (by omega)
    obtain ⟨n1, e1, w1⟩ := key 1 (by omega)
    obtain ⟨n2, e2, w2⟩ := key 2 (by omega)
    obtain ⟨n3, e3, w3⟩ := key 3 (by omega)
    obtain ⟨n4, e4, w4⟩ := key 4 (by omega)
    obtain ⟨n5, e5, w5⟩ := key 5 (by omega)
    obtain ⟨n6, e6, w6⟩ := key 6 (by omega)
    simp at e0 e1 e2 e3 e4 e5 e6
    subst e0 e1 e2 e3 e4 e5 e6
    refine ⟨fun i => [n0, n1, n2, n3, n4, n5, n6].getD i 0, rfl, fun i hi => ?_⟩
    match i, hi with
    | 0, _ => exact fits_of w0
    | 1, _ => exact fits_of w1
    | 2, _ => exact fits_of w2
    | 3, _ => exact fits_of w3
    | 4, _ => exact fits_of w4
    | 5, _ => exact fits_of w5
    | 6, _ => exact fits_of w6
theorem open_item (hv : Value.okWide Try.prog w r b0 25 v) (h : DataW.Trod enc Try.prog w base sp held 25 v d p) :
    ∃ a b : Int, v = .agg #[.int .i64 a, .int .i64 b] ∧ Fits a ∧ Fits b := by
  obtain ⟨c0, c1, y0, y1, m, rfl, _, _, hy0, hy1⟩ := open_agg2 Try.underlying25 (by kernel_rfl) (by kernel_rfl) hv h
  obtain ⟨a, e0, _, wa⟩ := DataW.trod_int Try.underlying3 hy0
  obtain ⟨b, e1, _, wb⟩ := DataW.trod_int Try.underlying3 hy1
  simp at e0 e1
  subst e0 e1
  exact ⟨a, b, rfl, fits_of wa, fits_of wb⟩
end
end Go.Proofs.Ytnjnafmonijlnaa
