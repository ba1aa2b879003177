/- Layer 8: 'alive'. -/
import Derived.Test.YtdemkcfajeoaiaaPlateD
namespace Go.Proofs.Ytdemkcfajeoaiaa
open Go.RowKit
set_option linter.unusedVariables false
attribute [local go_sem] row_alloc row_drew row_drewN row_ext row_setCell row_setRow size_ext setRow_alloc setRow_drew
attribute [local go_sem high] cell_alloc frozen_alloc setCell_alloc cell_ext frozen_ext
theorem lost_ab : lost [97, 98] 0 1 0 = [97] := by decide
set_option maxHeartbeats 2000000 in
theorem alive_any : Ans Try.prog 7 #[] (.bool true) := by
  intro w
  go_enter Try.func7, Try.ntmps7
  go_wp2_with fail
  refine (new_ps (Below.refl _ _)).mono ?_; rintro e w1 ⟨rfl, hp⟩
  go_wp2_with fail
  refine (append_lit hp [⟨#[97]⟩, ⟨#[98]⟩] 9 (by simp) (by simp) (by decide)).mono ?_
  rintro e w2 ⟨d2, r2, rfl, hp2, hc⟩
  rw [if_pos (by decide)] at hc
  obtain ⟨rfl, rfl⟩ := hc
  go_wp2_with fail
  refine (len_ps hp2).mono ?_; rintro e w3 ⟨rfl, rfl⟩
  go_wp2_with fail
  refine (safe_ps hp2).mono ?_; rintro e w3 ⟨rfl, rfl⟩
  go_wp2_with fail
  refine (lose_ps hp2 (by decide) 1 (by decide) 0).mono ?_; rintro e w3 ⟨rfl, hp3⟩
  go_wp2_with fail
  refine (read_ps hp3).mono ?_; rintro e w4 ⟨rfl, rfl⟩
  go_wp2
  go_ret
  exact ⟨rfl, hp3.1⟩
end Go.Proofs.Ytdemkcfajeoaiaa
