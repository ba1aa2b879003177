import Derived.Test.YtahajjfbkdocaaaDeedB
namespace Go.Proofs.Ytahajjfbkdocaaa
open Go.RowKit
attribute [local go_sem] row_alloc row_drew row_drewN row_ext row_setCell row_setRow size_ext setRow_alloc setRow_drew loadOf storeOf piece_lit loadVal_at storeVal_at allOne_lit EV_size EV_one EV_piece EV_0 EV_1 EV_2 EV_3 EV_4 EV_5
attribute [local go_sem high] cell_alloc frozen_alloc setCell_alloc cell_ext frozen_ext
attribute [local go_sem ↓] load_deed0 store_deed0
attribute [local go_sem] load_deed store_deed
def writes (d : Deed) : Bool := decide (2 ≤ d.kind ∧ d.kind ≤ 4)
set_option maxHeartbeats 1000000 in
theorem writes_any (d : Deed) : Ans Try.prog 37 #[.agg (EV d)] (.bool (writes d)) := by
  intro w
  go_enter Try.func37, Try.ntmps37
  go_wp2
  all_goals
    go_ret
    refine ⟨congrArg (fun b => Ending.returned (.bool b)) ?_, (Below.refl _ _).alloc (Nat.le_refl _) _⟩
    unfold writes
    first
      | exact (decide_eq_true (by omega)).symm
      | (rw [Bool.eq_iff_iff, decide_eq_true_eq]; simp only [Bool.or_eq_true, beq_iff_eq]; constructor <;> intro h <;> omega)
set_option maxHeartbeats 1000000 in
theorem rwrites_any (d : Deed) : Ans Try.prog 19 #[.agg (EV d)] (.bool (writes d)) := by
  intro w
  go_enter Try.func19, Try.ntmps19
  go_wp2
  all_goals
    go_ret
    refine ⟨congrArg (fun b => Ending.returned (.bool b)) ?_, (Below.refl _ _).alloc (Nat.le_refl _) _⟩
    unfold writes
    first
      | exact (decide_eq_false (by omega)).symm
      | (rw [Bool.eq_iff_iff, decide_eq_true_eq, decide_eq_true_eq]; constructor <;> intro h <;> omega)
end Go.Proofs.Ytahajjfbkdocaaa
