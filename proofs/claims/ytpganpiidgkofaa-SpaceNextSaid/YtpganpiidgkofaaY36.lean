/- Several texts in one. -/
import Derived.Test.YtpganpiidgkofaaY3
import Derived.Test.YtpganpiidgkofaaY30

namespace Go.Proofs.Ytpganpiidgkofaa
open Go.RowKit
attribute [local go_sem] row_alloc row_drew row_drewN row_ext row_setCell row_setRow size_ext setRow_alloc setRow_drew loadOf storeOf piece_lit DV_piece loadVal_at storeVal_at allOne_lit DV_size DV_one
attribute [local go_sem high] cell_alloc frozen_alloc setCell_alloc cell_ext frozen_ext
attribute [local go_sem ↓] index_deps0 load_deps0 store_deps0
attribute [local go_sem] index_deps load_deps store_deps
set_option maxHeartbeats 400000 in
theorem with_yes (d : Nat → Int) (r n : Int) (hr0 : 0 ≤ r) (hr : r < 7) : 
    Ans Try.prog 72 #[.agg (DV d), .agg #[.int .i64 r, .int .i64 n]] (.agg (DV (upd d r.toNat (max (d r.toNat) n)))) := by
  intro w
  have hD := DV_get d r.toNat (by omega)
  have hset := DV_set d r.toNat 
  generalize d r.toNat = v at *
  go_enter Try.func72, Try.ntmps72
  go_wp2
  go_region
  all_goals go_wp2
  · refine ret_deps (upd d r.toNat n) rfl rfl rfl (by go_simp) ⟨?_, ?_⟩
    · rw [Int.max_eq_right (by omega)]
    · exact ((((Below.refl _ _).alloc (Nat.le_refl _) _).alloc (by simp) _).alloc (by simp; omega) _).drew
  · refine ret_deps (upd d r.toNat v) rfl rfl rfl (by go_simp) ⟨?_, ?_⟩
    · rw [Int.max_eq_left (by omega)]
    · exact ((((Below.refl _ _).alloc (Nat.le_refl _) _).alloc (by simp) _).alloc (by simp; omega) _).drew
set_option maxHeartbeats 400000 in
theorem with_no (d : Nat → Int) (r n : Int) (h : ¬ (0 ≤ r ∧ r < 7)) : Ans Try.prog 72 #[.agg (DV d), .agg #[.int .i64 r, .int .i64 n]] (.agg (DV d)) := by
  intro w
  by_cases hr0 : 0 ≤ r
  · have hr : ¬ r < 7 := by omega
    clear h
    go_enter Try.func72, Try.ntmps72
    go_wp2
    refine ret_deps d rfl rfl rfl (by go_simp) ⟨rfl, ?_⟩
    exact ((((Below.refl _ _).alloc (Nat.le_refl _) _).alloc (by simp) _).alloc (by simp; omega) _)
  · clear h
    go_enter Try.func72, Try.ntmps72
    go_wp2
    refine ret_deps d rfl rfl rfl (by go_simp) ⟨rfl, ?_⟩
    exact ((((Below.refl _ _).alloc (Nat.le_refl _) _).alloc (by simp) _).alloc (by simp; omega) _)
def withD (d : Nat → Int) (r n : Int) : Nat → Int := if 0 ≤ r ∧ r < 7 then upd d r.toNat (max (d r.toNat) n) else d
theorem with_any (d : Nat → Int) (r n : Int) : Ans Try.prog 72 #[.agg (DV d), .agg #[.int .i64 r, .int .i64 n]] (.agg (DV (withD d r n))) := by
  by_cases h : 0 ≤ r ∧ r < 7
  · rw [show withD d r n = upd d r.toNat (max (d r.toNat) n) from if_pos h]; exact with_yes d r n h.1 h.2
  · rw [show withD d r n = d from if_neg h]; exact with_no d r n h

end Go.Proofs.Ytpganpiidgkofaa
