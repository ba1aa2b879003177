/- A row of numbers as a value: equality, loads, stores, building. -/
import Derived.Test.YtahajjfbkdocaaaStruct
import Derived.Test.YtahajjfbkdocaaaDeps
namespace Go.Proofs.Ytahajjfbkdocaaa
open Go.RowKit
set_option linter.unusedVariables false
theorem TDeps_ext (x y : Nat → Int) : DV x = DV y ↔ ∀ i, i < 7 → x i = y i := ⟨DV_inj, DV_congr⟩
theorem TDeps_eq (d : Nat) (a b : Nat → Int) (w : World) : (Op.equalIn (d + 2) 34 (.agg (DV a)) (.agg (DV b))).run Try.prog w = .ok (eqA (DV a) (DV b)) w := by
  obtain ⟨i, hi, hz⟩ : ∃ i, Try.prog.info? 3 = some i ∧ i.size = 1 := by
    have h : (Try.prog.info? 3).map (·.size) = some 1 := by kernel_rfl
    cases hq : Try.prog.info? 3 with
    | none => rw [hq] at h; cases h
    | some i => rw [hq] at h; exact ⟨i, rfl, by simpa using h⟩
  have hC : Try.prog.cellsOf 3 = 1 := by kernel_rfl
  rw [run_equalIn_array w (d + 1) (DV a) (DV b) Try.underlying34 hi, hC]
  have key : ∀ is : List Nat, (∀ i ∈ is, i < 7) → (Op.eqItems (d + 1) 3 1 (DV a) (DV b) is).run Try.prog w = .ok (is.all fun i => a i == b i) w := by
    intro is
    induction is with
    | nil => intro _; rfl
    | cons i is ih =>
      intro h
      have hi7 := h i (by simp)
      have ha : (isAgg 3).run Try.prog w = .ok false w := by
        unfold isAgg
        simp only [Sem.run_bind, run_underlying Try.underlying3, Result.andThen_ok]
        rfl
      have p1 : ∀ d : Nat → Int, (part 3 (DV d) (i * 1)).run Try.prog w = .ok (.int .i64 (d i)) w := fun d => by
        simp [part, ha, DV_get d i hi7]
      have e1 : (Op.equalIn (d + 1) 3 (.int .i64 (a i)) (.int .i64 (b i))).run Try.prog w = .ok (a i == b i) w := run_equalIn_int w d _ .i64 .i64 _ _ Try.underlying3
      simp only [Op.eqItems, Sem.run_bind, p1, e1, Result.andThen_ok, List.all_cons]
      cases hb : (a i == b i)
      · simp
      · simp only [Bool.not_true, Bool.false_eq_true, if_false, Bool.true_and]
        exact ih fun j hj => h j (by simp [hj])
  rw [key _ (fun i hi => by simpa using hi)]
  congr 1
  refine eqA_of ?_
  rw [TDeps_ext]
  simp [List.all_eq_true]
theorem TDeps_eql (x y : Nat → Int) (w : World) : (binOp .eql 34 (.agg (DV x)) (.agg (DV y))).run Try.prog w = .ok (.bool (eqA (DV x) (DV y))) w := eql_of (TDeps_eq 9998 x y) w
theorem TDeps_neq (x y : Nat → Int) (w : World) : (binOp .neq 34 (.agg (DV x)) (.agg (DV y))).run Try.prog w = .ok (.bool (!eqA (DV x) (DV y))) w := neq_of (TDeps_eq 9998 x y) w
end Go.Proofs.Ytahajjfbkdocaaa
