import Derived.Test.YtahajjfbkdocaaaDeed
namespace Go.Proofs.Ytahajjfbkdocaaa
open Go.RowKit
attribute [local go_sem] row_alloc row_drew row_drewN row_ext row_setCell row_setRow size_ext setRow_alloc setRow_drew loadOf storeOf piece_lit loadVal_at storeVal_at allOne_lit EV_size EV_one EV_piece EV_0 EV_1 EV_2 EV_3 EV_4 EV_5
attribute [local go_sem high] cell_alloc frozen_alloc setCell_alloc cell_ext frozen_ext
attribute [local go_sem ↓] load_deed0 store_deed0
attribute [local go_sem] load_deed store_deed
theorem tl_nil (s : ByteArray) : s.toList = [] ↔ s.size = 0 := by
  rw [ByteArray.toList_eq, ← List.length_eq_zero_iff, Array.length_toList]; exact Iff.rfl
theorem bbT (a b : Int) : ((!(a == 0) == (b == 0)) = true) ↔ (a = 0 ↔ ¬ b = 0) := by
  by_cases h1 : a = 0
  · by_cases h2 : b = 0
    · simp [h1, h2]
    · have e2 : (b == 0) = false := by simpa using h2
      simp [h1, e2, h2]
  · have e1 : (a == 0) = false := by simpa using h1
    by_cases h2 : b = 0
    · simp [e1, h1, h2]
    · have e2 : (b == 0) = false := by simpa using h2
      simp [e1, e2, h1, h2]
theorem bbF (a b : Int) : ((!(a == 0) == (b == 0)) = false) ↔ (a = 0 ↔ b = 0) := by
  rw [← Bool.not_eq_true, bbT]
  constructor <;> intro h <;> omega
def Kinds (d : Deed) : Prop := (d.kind = 0 ∧ d.val.size = 0 ∧ d.ver = 0 ∧ d.key.size = 0 ∧ d.ses = 0) ∨ ((d.kind = 1 ∨ d.kind = 4) ∧ d.val.size = 0 ∧ d.ver = 0 ∧ ¬ d.key.size = 0) ∨
  (d.kind = 2 ∧ ¬ d.key.size = 0 ∧ d.ver = 0) ∨ (d.kind = 3 ∧ ¬ d.key.size = 0) ∨ (d.kind = 5 ∧ d.val.size = 0 ∧ d.ver = 0)
instance (d : Deed) : Decidable (Kinds d) := by unfold Kinds; exact inferInstance
def goodB (d : Deed) : Bool := decide (0 ≤ d.ses ∧ d.ses ≤ 1099511627776 ∧ 0 ≤ d.num ∧ d.num ≤ 1099511627776 ∧ (d.ses = 0 ↔ d.num = 0) ∧ d.key.size ≤ 16 ∧ d.val.size ≤ 32 ∧ 0 ≤ d.ver ∧ d.ver ≤ 1099511627776 ∧ Kinds d)
set_option maxHeartbeats 2000000 in
theorem good4_any (d : Deed) : Ans Try.prog 39 #[.agg (EV d)] (.bool (goodB d)) := by
  intro w
  go_enter Try.func39, Try.ntmps39
  go_wp2
  all_goals go_ret
  all_goals refine ⟨congrArg (fun b => Ending.returned (.bool b)) ?_, (Below.refl _ _).alloc (Nat.le_refl _) _⟩
  all_goals unfold goodB Kinds
  all_goals (try simp only [tl_nil, bbT, bbF, beq_iff_eq, beq_eq_false_iff_ne, ne_eq] at *)
  all_goals first
    | exact (decide_eq_false (by omega)).symm
    | exact (decide_eq_true (by omega)).symm
    | (rw [Bool.eq_iff_iff, decide_eq_true_eq]; simp only [Bool.and_eq_true, Bool.not_eq_true', List.isEmpty_eq_false_iff, ne_eq, tl_nil, beq_iff_eq]; constructor <;> intro h <;> omega)
end Go.Proofs.Ytahajjfbkdocaaa
