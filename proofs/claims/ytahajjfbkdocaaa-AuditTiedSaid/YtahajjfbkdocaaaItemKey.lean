/- Items as keys of maps. -/
import Derived.Test.YtahajjfbkdocaaaMap
import Derived.Test.YtahajjfbkdocaaaTItem
import Derived.Test.YtahajjfbkdocaaaLaw
import Derived.DeepKeys4
namespace Go.Proofs.Ytahajjfbkdocaaa
open Go.RowKit
open Go.Maps (Keyed)
set_option linter.unusedVariables false
def InI (x : Item) : Prop := (-9223372036854775808 ≤ x.rep ∧ x.rep ≤ 9223372036854775807) ∧ (-9223372036854775808 ≤ x.num ∧ x.num ≤ 9223372036854775807)
theorem wide_item : (match Try.prog.underlying 28 with | some (.array _ _) | some (.struct _) => true | _ => false) = true := by rw [Try.underlying28]
theorem row_item : (28 : TypeId) < Try.prog.types.size := of_decide_eq_true (by kernel_rfl)
theorem wf_int {n : Int} (h : -9223372036854775808 ≤ n ∧ n ≤ 9223372036854775807) : (Lit.int .i64 n).wf = true := by
  simp [Lit.wf, IntKind.min, IntKind.max, IntKind.signed, IntKind.bits]; omega
theorem keyLits_int {d : Nat} {n : Int} (h : -9223372036854775808 ≤ n ∧ n ≤ 9223372036854775807) : Try.prog.keyLits (d + 1) 3 [.int .i64 n] = some [.int .i64 n] := by
  simp [Program.keyLits, Try.underlying3, wf_int h]
theorem keyLits_item {x : Item} (h : InI x) (d : Nat) : Try.prog.keyLits (d + 2) 28 (IV x).toList = some [.int .i64 x.rep, .int .i64 x.num] := by
  have c1 : Try.prog.cellsOf 3 = 1 := by kernel_rfl
  have c2 : Try.prog.cellsOf 28 = 2 := by kernel_rfl
  have k1 := keyLits_int (d := d) h.1
  have k2 := keyLits_int (d := d) h.2
  unfold Program.keyLits
  simp only [Try.underlying28, c2]
  rw [if_pos ⟨rfl, by kernel_rfl⟩]
  simp only [List.mapM_cons, List.mapM_nil, c1, IV, List.drop_zero, List.drop_succ_cons, List.take_succ_cons, List.take_zero]
  simp [k1, k2]
theorem itemOk : KeyOk Try.prog 28 (fun x : Item => Value.agg (IV x)) InI where
  lit x hx := by
    refine ⟨.string (keyBytes [.int .i64 x.rep, .int .i64 x.num]), ?_⟩
    unfold keyOf
    rw [Try.underlying28]
    simp only
    rw [if_pos]
    · obtain ⟨d, hd⟩ : ∃ d, Try.prog.types.size + 1 = d + 2 := ⟨Try.prog.types.size - 1, by have : 0 < Try.prog.types.size := of_decide_eq_true (by kernel_rfl); omega⟩
      rw [hd]
      show Option.map _ (Try.prog.keyLits (d + 2) 28 (IV x).toList) = _
      rw [keyLits_item hx d]
      rfl
    · rw [Bool.and_eq_true]
      refine ⟨by kernel_rfl, ?_⟩
      have c2 : Try.prog.cellsOf 28 = 2 := by kernel_rfl
      simp [Value.formed, Try.underlying28, c2, IV]
  inj x y l hx hy h1 h2 := by
    have := keyOf_inj_deep (P := Try.prog) (m := 2) (tiled_of_laidOut laidOut 2 28 (by
      simp only [isVar, Bool.and_eq_true, decide_eq_true_eq]
      exact ⟨row_item, by rw [Try.underlying28]; rfl⟩) (by kernel_rfl)) wide_item h1 h2
    injection this with e
    obtain ⟨a, b⟩ := (TItem_ext x y).1 e
    cases x; cases y; simp_all
  keyed := Keyed.of_law (deep_law_laid laidOut (m := 2) (by omega) row_item (by kernel_rfl) wide_item)
end Go.Proofs.Ytahajjfbkdocaaa
