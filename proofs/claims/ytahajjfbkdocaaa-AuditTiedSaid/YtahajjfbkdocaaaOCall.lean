/- What comes in as Call. Printed by types.py. -/
import Derived.Test.YtahajjfbkdocaaaOpenBase
import Derived.Test.YtahajjfbkdocaaaTCall
import Derived.Test.YtahajjfbkdocaaaOpenDeed
import Derived.Test.YtahajjfbkdocaaaODeps
namespace Go.Proofs.Ytahajjfbkdocaaa
open Go.ChangeShapes Go.WideShapes Go.ChangeAt Go.RowKit Go.WideMaps Go.WideElems Go.Joins
open Go.ChangeMaps (open_string)
set_option linter.unusedVariables false
structure CallFits (x : Call) : Prop where
  deed : DeedFits x.deed
  deps : ∀ i, i < 7 → Fits (x.deps i)
  seq : Fits x.seq
section
variable {H : Type} {enc : TypeId × Value → H} {w : World} {base : Nat} {sp : Nat → Bool} {held : Bool} {r : Reach} {b0 : Nat} {v : Value} {d : DataW H} {p : List MemPlace}
theorem trod_Call {fuel : Nat} {cs : List Value} {x : DataW H × List MemPlace} (h : DataW.trod enc Try.prog w base sp held fuel 36 cs = some x) (hw : ∀ n ∈ x.1.weights Try.prog 36, n ≤ reachBytes) :
    ∃ X : Call, cs = (CV X).toList ∧ CallFits X := by
  obtain ⟨xs, n, _, hx, hlen, hxl, hg⟩ := DataW.trod_struct Try.underlying36 h
  have hC : Try.prog.cellsOf 36 = 14 := by kernel_rfl
  rw [hC] at hlen
  match xs, hxl with
  | [y0, y1, y2], _ =>
    subst hx
    have c0 : Try.prog.cellsOf 32 = 6 := by kernel_rfl
    have g0 : DataW.trod enc Try.prog w base sp held n 32 ((cs.drop 0).take (Try.prog.cellsOf 32)) = some y0 := hg 0 _ rfl
    rw [c0] at g0
    obtain ⟨n0, e0, w0⟩ := trod_deed g0 (fun m hm => hw m (by simp [DataW.weights, Try.underlying36, DataW.weightsEach]; simp_all))
    have c1 : Try.prog.cellsOf 34 = 7 := by kernel_rfl
    have g1 : DataW.trod enc Try.prog w base sp held n 34 ((cs.drop 6).take (Try.prog.cellsOf 34)) = some y1 := hg 1 _ rfl
    rw [c1] at g1
    obtain ⟨n1, e1, w1⟩ := trod_Deps g1
    have c2 : Try.prog.cellsOf 3 = 1 := by kernel_rfl
    have g2 : DataW.trod enc Try.prog w base sp held n 3 ((cs.drop 13).take (Try.prog.cellsOf 3)) = some y2 := hg 2 _ rfl
    rw [c2] at g2
    obtain ⟨n2, e2, f2, w2⟩ := DataW.trod_int Try.underlying3 g2
    have ee : cs = (cs.drop 0).take 6 ++ ((cs.drop 6).take 7 ++ ((cs.drop 13).take 1 ++ cs.drop 14)) := by
      exact (List.drop_zero (l := cs)).symm.trans ((seg cs 0 6).trans (congrArg (_ ++ ·) ((seg cs 6 7).trans (congrArg (_ ++ ·) (seg cs 13 1)))))
    rw [e0, e1, e2, List.drop_eq_nil_of_le (by omega)] at ee
    exact ⟨⟨n0, n1, n2⟩, ee, ⟨w0, w1, fits_of w2⟩⟩
theorem open_Call (hv : Value.okWide Try.prog w r b0 36 v) (h : DataW.Trod enc Try.prog w base sp held 36 v d p) (hw : ∀ n ∈ d.weights Try.prog 36, n ≤ reachBytes) :
    ∃ X : Call, v = .agg (CV X) ∧ CallFits X := by
  obtain ⟨cs, rfl, _⟩ := okWide_struct Try.underlying36 hv
  obtain ⟨fuel, hf⟩ := h
  obtain ⟨X, e, hX⟩ := trod_Call hf hw
  refine ⟨X, ?_, hX⟩
  obtain ⟨l⟩ := cs
  simp only [Value.cells] at e
  have e' : l = (CV X).toList := e
  subst e'
  rfl
end
end Go.Proofs.Ytahajjfbkdocaaa
