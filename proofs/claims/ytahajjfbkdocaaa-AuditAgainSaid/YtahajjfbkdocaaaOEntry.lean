/- What comes in as Entry. Printed by types.py. -/
import Derived.Test.YtahajjfbkdocaaaOpenBase
import Derived.Test.YtahajjfbkdocaaaTEntry
import Derived.Test.YtahajjfbkdocaaaOItem
import Derived.Test.YtahajjfbkdocaaaOInst
namespace Go.Proofs.Ytahajjfbkdocaaa
open Go.ChangeShapes Go.WideShapes Go.ChangeAt Go.RowKit Go.WideMaps Go.WideElems Go.Joins
open Go.ChangeMaps (open_string)
set_option linter.unusedVariables false
structure EntryFits (x : Entry) : Prop where
  item : ItemFits x.item
  inst : InstFits x.inst
section
variable {H : Type} {enc : TypeId × Value → H} {w : World} {base : Nat} {sp : Nat → Bool} {held : Bool} {r : Reach} {b0 : Nat} {v : Value} {d : DataW H} {p : List MemPlace}
theorem trod_Entry {fuel : Nat} {cs : List Value} {x : DataW H × List MemPlace} (h : DataW.trod enc Try.prog w base sp held fuel 40 cs = some x) (hw : ∀ n ∈ x.1.weights Try.prog 40, n ≤ reachBytes) :
    ∃ X : Entry, cs = (AV X).toList ∧ EntryFits X := by
  obtain ⟨xs, n, _, hx, hlen, hxl, hg⟩ := DataW.trod_struct Try.underlying40 h
  have hC : Try.prog.cellsOf 40 = 22 := by kernel_rfl
  rw [hC] at hlen
  match xs, hxl with
  | [y0, y1], _ =>
    subst hx
    have c0 : Try.prog.cellsOf 28 = 2 := by kernel_rfl
    have g0 : DataW.trod enc Try.prog w base sp held n 28 ((cs.drop 0).take (Try.prog.cellsOf 28)) = some y0 := hg 0 _ rfl
    rw [c0] at g0
    obtain ⟨n0, e0, w0⟩ := trod_Item g0
    have c1 : Try.prog.cellsOf 38 = 20 := by kernel_rfl
    have g1 : DataW.trod enc Try.prog w base sp held n 38 ((cs.drop 2).take (Try.prog.cellsOf 38)) = some y1 := hg 1 _ rfl
    rw [c1] at g1
    obtain ⟨n1, e1, w1⟩ := trod_Inst g1 (fun m hm => hw m (by simp [DataW.weights, Try.underlying40, DataW.weightsEach]; simp_all))
    have ee : cs = (cs.drop 0).take 2 ++ ((cs.drop 2).take 20 ++ cs.drop 22) := by
      exact (List.drop_zero (l := cs)).symm.trans ((seg cs 0 2).trans (congrArg (_ ++ ·) (seg cs 2 20)))
    rw [e0, e1, List.drop_eq_nil_of_le (by omega)] at ee
    exact ⟨⟨n0, n1⟩, ee, ⟨w0, w1⟩⟩
theorem open_Entry (hv : Value.okWide Try.prog w r b0 40 v) (h : DataW.Trod enc Try.prog w base sp held 40 v d p) (hw : ∀ n ∈ d.weights Try.prog 40, n ≤ reachBytes) :
    ∃ X : Entry, v = .agg (AV X) ∧ EntryFits X := by
  obtain ⟨cs, rfl, _⟩ := okWide_struct Try.underlying40 hv
  obtain ⟨fuel, hf⟩ := h
  obtain ⟨X, e, hX⟩ := trod_Entry hf hw
  refine ⟨X, ?_, hX⟩
  obtain ⟨l⟩ := cs
  simp only [Value.cells] at e
  have e' : l = (AV X).toList := e
  subst e'
  rfl
end
end Go.Proofs.Ytahajjfbkdocaaa
