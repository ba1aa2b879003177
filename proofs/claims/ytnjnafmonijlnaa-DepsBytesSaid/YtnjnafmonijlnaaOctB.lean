/- Layer 1, reading: texts; whether something was missing; how much is left. -/
import Derived.Test.YtnjnafmonijlnaaOctA
namespace Go.Proofs.Ytnjnafmonijlnaa
open Go.RowKit
set_option linter.unusedVariables false
attribute [local go_sem] row_alloc row_drew row_drewN row_ext row_setCell row_setRow size_ext setRow_alloc setRow_drew
attribute [local go_sem high] cell_alloc frozen_alloc setCell_alloc cell_ext frozen_ext
/-- A text of at most so many bytes. -/
def textS (s : Src) (most : Nat) : List UInt8 × Src := rawS (natS s most).2 (natS s most).1
theorem natS_le (s : Src) (most : Nat) : (natS s most).1 ≤ most := by
  unfold natS; split
  · exact Nat.zero_le _
  · split
    · exact Nat.zero_le _
    · rename_i v r h
      obtain ⟨n, _, hm, _⟩ := dec_some most _ _ _ _ _ h
      exact hm
section
variable {W : World} {g : Nat} {s : Src}
set_option maxHeartbeats 1000000 in
theorem text_any (h : row? W g = some (SV s)) (most : Nat) (hm : most ≤ 1099511627776) :
    Calls Try.prog 48 #[.pointer (some ⟨g, 0, none⟩), .int .i64 most] W fun e w' => e = .returned (.string (strL (textS s most).1)) ∧ row? w' g = some (SV (textS s most).2) ∧ Touch W w' g none ∧ w'.heap.size = W.heap.size := by
  go_enter Try.func48, Try.ntmps48
  go_wp2_with fail
  refine (nat_any h most hm).mono ?_; rintro e w1 ⟨rfl, h1, T1, z1⟩
  have hl := natS_le s most
  go_wp2_with fail
  refine (raw_any h1 _ (by omega)).mono ?_; rintro e w2 ⟨rfl, h2, T2, z2⟩
  have H2 := Lib.hid h2; clear h2 h1 h
  go_wp2
  go_ret
  exact ⟨rfl, H2.out, T1.trans (Fresh.refl _ _) T2, z2.trans z1⟩
set_option maxHeartbeats 1000000 in
theorem dry_any (h : row? W g = some (SV s)) : Calls Try.prog 35 #[.pointer (some ⟨g, 0, none⟩)] W fun e w' => e = .returned (.bool s.dry) ∧ W = w' := by
  have hc := row_cell h
  unfold SV at hc
  clear h
  go_enter Try.func35, Try.ntmps35
  go_wp2
  go_ret
  exact ⟨rfl, rfl⟩
set_option maxHeartbeats 1000000 in
theorem left_any (h : row? W g = some (SV s)) : Calls Try.prog 37 #[.pointer (some ⟨g, 0, none⟩)] W fun e w' => e = .returned (.int .i64 s.left.length) ∧ W = w' := by
  have hc := row_cell h
  have hz := strL_size s.left
  unfold SV at hc
  clear h
  go_enter Try.func37, Try.ntmps37
  go_wp2
  go_ret
  exact ⟨rfl, rfl⟩
end
end Go.Proofs.Ytnjnafmonijlnaa
