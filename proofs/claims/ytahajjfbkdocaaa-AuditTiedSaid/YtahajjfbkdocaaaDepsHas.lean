import Derived.Test.YtahajjfbkdocaaaDeps
namespace Go.Proofs.Ytahajjfbkdocaaa
open Go.RowKit
attribute [local go_sem] row_alloc row_drew row_drewN row_ext row_setCell row_setRow size_ext setRow_alloc setRow_drew loadOf storeOf piece_lit DV_piece loadVal_at storeVal_at allOne_lit DV_size DV_one
attribute [local go_sem high] cell_alloc frozen_alloc setCell_alloc cell_ext frozen_ext
attribute [local go_sem ↓] index_deps0 load_deps0 store_deps0
attribute [local go_sem] index_deps load_deps store_deps
def hasD (d : Nat → Int) (r n : Int) : Bool := decide (0 ≤ r ∧ r < 7 ∧ 1 ≤ n ∧ n ≤ d r.toNat)
set_option maxHeartbeats 400000 in
theorem has_yes (d : Nat → Int) (r n : Int) (hr0 : 0 ≤ r) (hr : r < 7) (hn : 1 ≤ n) : 
    Ans Try.prog 25 #[.agg (DV d), .agg #[.int .i64 r, .int .i64 n]] (.bool (decide (n ≤ d r.toNat))) := by
  intro w
  have hD := DV_get d r.toNat (by omega)
  generalize d r.toNat = v at *
  go_enter Try.func25, Try.ntmps25
  go_wp2
  go_quiet (fail)
  go_wp2
  go_ret
  exact ⟨rfl, below_drewN (((Below.refl _ _).alloc (Nat.le_refl _) _).alloc (by simp) _) _⟩
set_option maxHeartbeats 400000 in
theorem has_no (d : Nat → Int) (r n : Int) (h : ¬ (0 ≤ r ∧ r < 7 ∧ 1 ≤ n)) : 
    Ans Try.prog 25 #[.agg (DV d), .agg #[.int .i64 r, .int .i64 n]] (.bool false) := by
  intro w
  by_cases hr0 : 0 ≤ r
  · by_cases hr : r < 7
    · have hn : ¬ 1 ≤ n := by omega
      have hn' : decide (1 ≤ n) = false := by simpa using hn
      clear h
      go_enter Try.func25, Try.ntmps25
      go_wp2
      go_quiet (fail)
      go_wp2
      go_ret
      exact ⟨rfl, below_drewN (((Below.refl _ _).alloc (Nat.le_refl _) _).alloc (by simp) _) _⟩
    · clear h
      have hr' : decide (r < 7) = false := by simpa using hr
      go_enter Try.func25, Try.ntmps25
      go_wp2
      go_quiet (fail)
      go_wp2
      go_ret
      exact ⟨rfl, below_drewN (((Below.refl _ _).alloc (Nat.le_refl _) _).alloc (by simp) _) _⟩
  · clear h
    have hr' : decide (0 ≤ r) = false := by simpa using hr0
    go_enter Try.func25, Try.ntmps25
    go_wp2
    go_quiet (fail)
    go_wp2
    go_ret
    exact ⟨rfl, below_drewN (((Below.refl _ _).alloc (Nat.le_refl _) _).alloc (by simp) _) _⟩
theorem has_any (d : Nat → Int) (r n : Int) : Ans Try.prog 25 #[.agg (DV d), .agg #[.int .i64 r, .int .i64 n]] (.bool (hasD d r n)) := by
  by_cases h : 0 ≤ r ∧ r < 7 ∧ 1 ≤ n
  · have := has_yes d r n h.1 h.2.1 h.2.2
    rw [show hasD d r n = decide (n ≤ d r.toNat) by unfold hasD; simp [h.1, h.2.1, h.2.2]]; exact this
  · have := has_no d r n h
    rw [show hasD d r n = false by unfold hasD; rw [decide_eq_false_iff_not]; omega]; exact this

/-! The document's Has: the same, by a loop. -/
set_option maxHeartbeats 400000 in
theorem rhas_yes (d : Nat → Int) (r n : Int) (hr0 : 0 ≤ r) (hr : r < 7) (hn : 0 < n) : 
    Ans Try.prog 18 #[.agg (DV d), .agg #[.int .i64 r, .int .i64 n]] (.bool (decide (n ≤ d r.toNat))) := by
  intro w
  obtain ⟨k, rfl⟩ := Int.eq_ofNat_of_zero_le hr0
  rw [Int.toNat_natCast]
  have hD := DV_get d k (by omega)
  generalize d k = v at *
  go_enter Try.func18, Try.ntmps18
  go_wp2
  go_loop [5] (fun i => ∃ j : Nat, j ≤ k ∧ i = .int .i64 j) (fun i => 7 - (intOf i).toNat)
  case atStart => exact ⟨0, by omega, rfl⟩
  case round =>
    obtain ⟨j, hj, rfl⟩ := hrel
    by_cases hjk : j < k
    · have hne : ((j : Int) == (k : Int)) = false := by rw [beq_eq_false_iff_ne]; omega
      go_wp2
      go_round
      case rel => exact ⟨j + 1, by omega, by go_num⟩
      case measure => simp [intOf]; omega
    · obtain rfl : j = k := by omega
      go_wp2
      go_quiet (fail)
      go_wp2
      go_ret
      exact ⟨rfl, below_drewN (((Below.refl _ _).alloc (Nat.le_refl _) _).alloc (by simp) _) _⟩
set_option maxHeartbeats 400000 in
theorem rhas_np (d : Nat → Int) (r n : Int) (hr0 : 0 ≤ r) (hr : r < 7) (hn : ¬ 0 < n) : 
    Ans Try.prog 18 #[.agg (DV d), .agg #[.int .i64 r, .int .i64 n]] (.bool false) := by
  intro w
  obtain ⟨k, rfl⟩ := Int.eq_ofNat_of_zero_le hr0
  have hn' : decide (0 < n) = false := by simpa using hn
  go_enter Try.func18, Try.ntmps18
  go_wp2
  go_loop [5] (fun i => ∃ j : Nat, j ≤ k ∧ i = .int .i64 j) (fun i => 7 - (intOf i).toNat)
  case atStart => exact ⟨0, by omega, rfl⟩
  case round =>
    obtain ⟨j, hj, rfl⟩ := hrel
    by_cases hjk : j < k
    · have hne : ((j : Int) == (k : Int)) = false := by rw [beq_eq_false_iff_ne]; omega
      go_wp2
      go_round
      case rel => exact ⟨j + 1, by omega, by go_num⟩
      case measure => simp [intOf]; omega
    · obtain rfl : j = k := by omega
      go_wp2
      go_quiet (fail)
      go_wp2
      go_ret
      exact ⟨rfl, below_drewN (((Below.refl _ _).alloc (Nat.le_refl _) _).alloc (by simp) _) _⟩
set_option maxHeartbeats 400000 in
theorem rhas_out (d : Nat → Int) (r n : Int) (hr0 : ¬ (0 ≤ r ∧ r < 7)) : 
    Ans Try.prog 18 #[.agg (DV d), .agg #[.int .i64 r, .int .i64 n]] (.bool false) := by
  intro w
  go_enter Try.func18, Try.ntmps18
  go_wp2
  go_loop [5] (fun i => ∃ j : Nat, j ≤ 7 ∧ i = .int .i64 j) (fun i => 7 - (intOf i).toNat)
  case atStart => exact ⟨0, by omega, rfl⟩
  case round =>
    obtain ⟨j, hj, rfl⟩ := hrel
    by_cases hjk : j < 7
    · have hne : ((j : Int) == r) = false := by rw [beq_eq_false_iff_ne]; omega
      go_wp2
      go_round
      case rel => exact ⟨j + 1, by omega, by go_num⟩
      case measure => simp [intOf]; omega
    · obtain rfl : j = 7 := by omega
      go_wp2
      go_ret
      exact ⟨rfl, (((Below.refl _ _).alloc (Nat.le_refl _) _).alloc (by simp) _)⟩
theorem rhas_any (d : Nat → Int) (r n : Int) : Ans Try.prog 18 #[.agg (DV d), .agg #[.int .i64 r, .int .i64 n]] (.bool (hasD d r n)) := by
  by_cases h : 0 ≤ r ∧ r < 7
  · by_cases hn : 0 < n
    · have := rhas_yes d r n h.1 h.2 hn
      rw [show hasD d r n = decide (n ≤ d r.toNat) by unfold hasD; simp [h.1, h.2]; omega]; exact this
    · have := rhas_np d r n h.1 h.2 hn
      rw [show hasD d r n = false by unfold hasD; rw [decide_eq_false_iff_not]; omega]; exact this
  · have := rhas_out d r n h
    rw [show hasD d r n = false by unfold hasD; rw [decide_eq_false_iff_not]; omega]; exact this
end Go.Proofs.Ytahajjfbkdocaaa
