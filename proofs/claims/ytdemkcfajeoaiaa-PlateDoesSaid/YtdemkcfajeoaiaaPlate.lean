/- Layer 8: a plate in memory, and what each call does to it. -/
import Derived.Test.YtdemkcfajeoaiaaOwn
namespace Go.Proofs.Ytdemkcfajeoaiaa
open Go.RowKit
/-- Block g is a plate: these bytes, so many safe; b: the block of its bytes. -/
def PL (W : World) (g : Nat) (b : Option Nat) (data : List UInt8) (safe : Nat) : Prop :=
  ∃ v, v.ownBlock = b ∧ row? W g = some #[v, .int .i64 safe] ∧ OwnR W (g + 1) 5 v data.length (bytesV data) ∧ safe ≤ data.length
theorem plate_info : (Try.prog.info? 5).map (fun i => (i.zero, i.size, i.bytes)) = some (some (.int .u8 0), 1, 1) := by kernel_rfl
set_option maxHeartbeats 1000000 in
theorem new_any (w : World) : Calls Try.prog 8 #[] w fun e w' => e = .returned (.pointer (some ⟨w.heap.size, 0, none⟩)) ∧ PL w' w.heap.size none [] 0 ∧ Below w.heap.size w w' ∧ w'.heap.size = w.heap.size + 1 := by
  go_enter Try.func8, Try.ntmps8
  go_wp2
  go_ret
  refine ⟨rfl, ⟨.slice none 0 0, rfl, ?_, ?_, Nat.le_refl _⟩, (Below.refl _ _).alloc (Nat.le_refl _) _, by simp⟩
  · rw [row_alloc, if_pos rfl]; rfl
  · exact OwnR.nil _ _ _
section
variable {W : World} {g : Nat} {b : Option Nat} {data : List UInt8} {safe : Nat}
set_option maxHeartbeats 1000000 in
theorem len_any (h : PL W g b data safe) : Calls Try.prog 10 #[.pointer (some ⟨g, 0, none⟩)] W fun e w' => e = .returned (.int .i64 data.length) ∧ W = w' := by
  obtain ⟨v, hv, hr, ho, hs⟩ := h
  have hc := row_cell hr
  have hf : ∃ A c, v = .slice A data.length c := by
    rcases ho.2 with ⟨rfl, h0⟩ | ⟨g', cap, cur, fz, rfl, _⟩
    · exact ⟨none, 0, by rw [h0]⟩
    · exact ⟨_, _, rfl⟩
  obtain ⟨A, c, rfl⟩ := hf
  clear ho hr hv
  go_enter Try.func10, Try.ntmps10
  go_wp2
  go_ret
  exact ⟨rfl, rfl⟩
set_option maxHeartbeats 1000000 in
theorem safe_any (h : PL W g b data safe) : Calls Try.prog 11 #[.pointer (some ⟨g, 0, none⟩)] W fun e w' => e = .returned (.int .i64 safe) ∧ W = w' := by
  obtain ⟨v, hv, hr, ho, hs⟩ := h
  have hc := row_cell hr
  clear ho hr hv
  go_enter Try.func11, Try.ntmps11
  go_wp2
  go_ret
  exact ⟨rfl, rfl⟩
end
end Go.Proofs.Ytdemkcfajeoaiaa
