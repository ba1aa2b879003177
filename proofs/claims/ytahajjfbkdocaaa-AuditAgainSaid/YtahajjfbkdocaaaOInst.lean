/- What comes in as Inst. Printed by types.py. -/
import Derived.Test.YtahajjfbkdocaaaOpenBase
import Derived.Test.YtahajjfbkdocaaaTInst
import Derived.Test.YtahajjfbkdocaaaOBallot
import Derived.Test.YtahajjfbkdocaaaOCall
namespace Go.Proofs.Ytahajjfbkdocaaa
open Go.ChangeShapes Go.WideShapes Go.ChangeAt Go.RowKit Go.WideMaps Go.WideElems Go.Joins
open Go.ChangeMaps (open_string)
set_option linter.unusedVariables false
structure InstFits (x : Inst) : Prop where
  prom : BallotFits x.prom
  vote : BallotFits x.vote
  status : Fits x.status
  call : CallFits x.call
section
variable {H : Type} {enc : TypeId × Value → H} {w : World} {base : Nat} {sp : Nat → Bool} {held : Bool} {r : Reach} {b0 : Nat} {v : Value} {d : DataW H} {p : List MemPlace}
theorem trod_Inst {fuel : Nat} {cs : List Value} {x : DataW H × List MemPlace} (h : DataW.trod enc Try.prog w base sp held fuel 38 cs = some x) (hw : ∀ n ∈ x.1.weights Try.prog 38, n ≤ reachBytes) :
    ∃ X : Inst, cs = (NV X).toList ∧ InstFits X := by
  obtain ⟨xs, n, _, hx, hlen, hxl, hg⟩ := DataW.trod_struct Try.underlying38 h
  have hC : Try.prog.cellsOf 38 = 20 := by kernel_rfl
  rw [hC] at hlen
  match xs, hxl with
  | [y0, y1, y2, y3, y4], _ =>
    subst hx
    have c0 : Try.prog.cellsOf 30 = 2 := by kernel_rfl
    have g0 : DataW.trod enc Try.prog w base sp held n 30 ((cs.drop 0).take (Try.prog.cellsOf 30)) = some y0 := hg 0 _ rfl
    rw [c0] at g0
    obtain ⟨n0, e0, w0⟩ := trod_Ballot g0
    have c1 : Try.prog.cellsOf 30 = 2 := by kernel_rfl
    have g1 : DataW.trod enc Try.prog w base sp held n 30 ((cs.drop 2).take (Try.prog.cellsOf 30)) = some y1 := hg 1 _ rfl
    rw [c1] at g1
    obtain ⟨n1, e1, w1⟩ := trod_Ballot g1
    have c2 : Try.prog.cellsOf 3 = 1 := by kernel_rfl
    have g2 : DataW.trod enc Try.prog w base sp held n 3 ((cs.drop 4).take (Try.prog.cellsOf 3)) = some y2 := hg 2 _ rfl
    rw [c2] at g2
    obtain ⟨n2, e2, f2, w2⟩ := DataW.trod_int Try.underlying3 g2
    have c3 : Try.prog.cellsOf 36 = 14 := by kernel_rfl
    have g3 : DataW.trod enc Try.prog w base sp held n 36 ((cs.drop 5).take (Try.prog.cellsOf 36)) = some y3 := hg 3 _ rfl
    rw [c3] at g3
    obtain ⟨n3, e3, w3⟩ := trod_Call g3 (fun m hm => hw m (by simp [DataW.weights, Try.underlying38, DataW.weightsEach]; simp_all))
    have c4 : Try.prog.cellsOf 4 = 1 := by kernel_rfl
    have g4 : DataW.trod enc Try.prog w base sp held n 4 ((cs.drop 19).take (Try.prog.cellsOf 4)) = some y4 := hg 4 _ rfl
    rw [c4] at g4
    obtain ⟨n4, e4, f4⟩ := DataW.trod_bool Try.underlying4 g4
    have ee : cs = (cs.drop 0).take 2 ++ ((cs.drop 2).take 2 ++ ((cs.drop 4).take 1 ++ ((cs.drop 5).take 14 ++ ((cs.drop 19).take 1 ++ cs.drop 20)))) := by
      exact (List.drop_zero (l := cs)).symm.trans ((seg cs 0 2).trans (congrArg (_ ++ ·) ((seg cs 2 2).trans (congrArg (_ ++ ·) ((seg cs 4 1).trans (congrArg (_ ++ ·) ((seg cs 5 14).trans (congrArg (_ ++ ·) (seg cs 19 1)))))))))
    rw [e0, e1, e2, e3, e4, List.drop_eq_nil_of_le (by omega)] at ee
    exact ⟨⟨n0, n1, n2, n3, n4⟩, ee, ⟨w0, w1, fits_of w2, w3⟩⟩
theorem open_Inst (hv : Value.okWide Try.prog w r b0 38 v) (h : DataW.Trod enc Try.prog w base sp held 38 v d p) (hw : ∀ n ∈ d.weights Try.prog 38, n ≤ reachBytes) :
    ∃ X : Inst, v = .agg (NV X) ∧ InstFits X := by
  obtain ⟨cs, rfl, _⟩ := okWide_struct Try.underlying38 hv
  obtain ⟨fuel, hf⟩ := h
  obtain ⟨X, e, hX⟩ := trod_Inst hf hw
  refine ⟨X, ?_, hX⟩
  obtain ⟨l⟩ := cs
  simp only [Value.cells] at e
  have e' : l = (NV X).toList := e
  subst e'
  rfl
end
end Go.Proofs.Ytahajjfbkdocaaa
