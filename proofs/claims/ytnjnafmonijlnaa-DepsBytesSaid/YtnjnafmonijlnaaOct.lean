/- Layer 1, reading: a source in memory, and what each call takes from it. -/
import Derived.Test.YtnjnafmonijlnaaOwn
namespace Go.Proofs.Ytnjnafmonijlnaa
open Go.RowKit
set_option linter.unusedVariables false
attribute [local go_sem] row_alloc row_drew row_drewN row_ext row_setCell row_setRow size_ext setRow_alloc setRow_drew
attribute [local go_sem high] cell_alloc frozen_alloc setCell_alloc cell_ext frozen_ext
def strL (l : List UInt8) : ByteArray := ⟨l.toArray⟩
theorem strL_add (l : List UInt8) (s : ByteArray) : strL l ++ s = strL (l ++ s.data.toList) := by
  cases s; simp [strL, ByteArray.ext_iff]
theorem strL_size (l : List UInt8) : (strL l).size = l.length := by simp [strL, ByteArray.size]
theorem strL_take (l : List UInt8) (n : Nat) : (strL l).extract 0 n = strL (l.take n) := by
  apply ByteArray.ext; simp [strL, ByteArray.data_extract]
theorem strL_drop (l : List UInt8) (n : Nat) : (strL l).extract n l.length = strL (l.drop n) := by
  apply ByteArray.ext
  simp only [strL, ByteArray.data_extract]
  apply Array.ext'
  simp
  exact List.take_of_length_le (by rw [List.length_drop]; exact Nat.le_refl _)
/-- What a source still has, and whether something was missing. -/
structure Src where
  left : List UInt8
  dry : Bool
def dryS : Src := ⟨[], true⟩
def SV (s : Src) : Array Value := #[.string (strL s.left), .bool s.dry]
/-- So many bytes. -/
def rawS (s : Src) (n : Int) : List UInt8 × Src :=
  if s.dry = true ∨ n < 0 ∨ (s.left.length : Int) < n then ([], dryS) else (s.left.take n.toNat, ⟨s.left.drop n.toNat, false⟩)
section
variable {W : World} {g : Nat} {s : Src}
set_option maxHeartbeats 1000000 in
theorem from_any (W : World) (l : List UInt8) : Calls Try.prog 33 #[.string (strL l)] W fun e w' => e = .returned (.pointer (some ⟨W.heap.size, 0, none⟩)) ∧ row? w' W.heap.size = some (SV ⟨l, false⟩) ∧ Below W.heap.size W w' ∧ w'.heap.size = W.heap.size + 1 := by
  go_enter Try.func33, Try.ntmps33
  go_wp2
  go_ret
  refine ⟨rfl, ?_, (Below.refl _ _).alloc (Nat.le_refl _) _, by simp⟩
  rw [row_alloc, if_pos rfl]; rfl
set_option maxHeartbeats 1000000 in
theorem stop_any (h : row? W g = some (SV s)) : Calls Try.prog 49 #[.pointer (some ⟨g, 0, none⟩)] W fun e w' => e = .returned (.tuple #[]) ∧ row? w' g = some (SV dryS) ∧ Touch W w' g none ∧ w'.heap.size = W.heap.size := by
  have hc := row_cell h
  have hf := row_frozen h
  have Hr := Lib.hid h; clear h
  unfold SV at hc
  go_enter Try.func49, Try.ntmps49
  go_wp2
  go_end0
  refine ⟨rfl, ?_, (grown_cell _ _ _ _).trans (Fresh.refl _ _) (grown_cell _ _ _ _), by simp [World.setCell]⟩
  rw [row_setCell, if_pos rfl, row_setCell, if_pos rfl, Hr.out]; rfl
theorem Touch.refl' (W : World) (g : Nat) : Touch W W g none := Touch.refl W g none
set_option maxHeartbeats 1000000 in
theorem raw_any (h : row? W g = some (SV s)) (n : Int) (hn : -9223372036854775808 ≤ n ∧ n ≤ 9223372036854775807) :
    Calls Try.prog 55 #[.pointer (some ⟨g, 0, none⟩), .int .i64 n] W fun e w' => e = .returned (.string (strL (rawS s n).1)) ∧ row? w' g = some (SV (rawS s n).2) ∧ Touch W w' g none ∧ w'.heap.size = W.heap.size := by
  have hc := row_cell h
  have hf := row_frozen h
  have Hr := Lib.hid h
  have hz := strL_size s.left
  unfold SV at hc
  by_cases hs : s.dry = true ∨ n < 0 ∨ (s.left.length : Int) < n
  · have Hs := Lib.hid hs
    have hra : rawS s n = ([], dryS) := by unfold rawS; rw [if_pos hs]
    rw [hra]
    clear hra
    have hg : (s.dry || decide (n < 0) || decide ((s.left.length : Int) < n)) = true := by
      simp only [Bool.or_eq_true, decide_eq_true_eq, or_assoc]; exact hs
    clear hs
    go_enter Try.func55, Try.ntmps55
    clear h hn
    cases hsd : s.dry
    · rw [hsd] at hc hg
      rw [Bool.false_or] at hg
      go_wp2_with fail
      all_goals first
        | (refine (stop_any Hr.out).mono ?_; rintro e w' ⟨rfl, hr, hT, hzz⟩
           go_wp2
           go_ret
           exact ⟨rfl, hr, hT, hzz⟩)
        | (exfalso; simp only [Bool.or_eq_true, decide_eq_true_eq] at hg; omega)
    · rw [hsd] at hc
      go_wp2_with fail
      refine (stop_any Hr.out).mono ?_; rintro e w' ⟨rfl, hr, hT, hzz⟩
      go_wp2
      go_ret
      exact ⟨rfl, hr, hT, hzz⟩
  · have hra : rawS s n = (s.left.take n.toNat, ⟨s.left.drop n.toNat, false⟩) := by unfold rawS; rw [if_neg hs]
    rw [hra]
    clear hra h
    obtain ⟨m, rfl⟩ : ∃ m : Nat, n = m := ⟨n.toNat, by omega⟩
    have hd : s.dry = false := by cases hsd : s.dry <;> simp_all
    have hl : m ≤ s.left.length := by omega
    have hl2 : (m : Int) ≤ (s.left.length : Int) := by omega
    clear hs
    rw [hd] at hc
    rw [Int.toNat_natCast]
    have e1 := strL_take s.left m
    have e2 := strL_drop s.left m
    generalize strL s.left = B at *
    generalize strL (s.left.take m) = X at *
    go_enter Try.func55, Try.ntmps55
    go_wp2
    go_ret
    refine ⟨rfl, ?_, grown_cell _ _ _ _, by simp [World.setCell]⟩
    rw [row_setCell, if_pos rfl, Hr.out]
    show some _ = _
    simp [SV, hd]
end
end Go.Proofs.Ytnjnafmonijlnaa
