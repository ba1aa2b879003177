import Derived.Test.YtnjnafmonijlnaaDepsA
namespace Go.Proofs.Ytnjnafmonijlnaa
open Go.RowKit
attribute [local go_sem] row_alloc row_drew row_drewN row_ext row_setCell row_setRow size_ext setRow_alloc setRow_drew loadOf storeOf piece_lit DV_piece loadVal_at storeVal_at allOne_lit DV_size DV_one
attribute [local go_sem high] cell_alloc frozen_alloc setCell_alloc cell_ext frozen_ext
attribute [local go_sem ↓] index_deps0 load_deps0 store_deps0
attribute [local go_sem] index_deps load_deps store_deps
set_option maxHeartbeats 400000 in
theorem alive5 : Ans Try.prog 15 #[] (.bool true) := by
  intro w
  have h1 : Ans Try.prog 16 #[.agg #[.int .i64 0, .int .i64 0, .int .i64 0, .int .i64 0, .int .i64 0, .int .i64 0, .int .i64 0], .agg #[.int .i64 1, .int .i64 3]] (.agg (DV (withD (fun _ => 0) 1 3))) := with_any (fun _ => 0) 1 3
  have h2 := has_any (withD (fun _ => 0) 1 3) 1 2
  have h3 := has_any (withD (fun _ => 0) 1 3) 1 4
  rw [show hasD (withD (fun _ => 0) 1 3) 1 2 = true from by decide] at h2
  rw [show hasD (withD (fun _ => 0) 1 3) 1 4 = false from by decide] at h3
  have h4 : (DV (withD (fun _ => 0) 1 3))[1]? = some (.int .i64 3) := by rfl
  generalize withD (fun _ => 0) 1 3 = d at *
  have H1 := Lib.hid h1; clear h1
  have H2 := Lib.hid h2; clear h2
  have H3 := Lib.hid h3; clear h3
  go_enter Try.func15, Try.ntmps15
  go_wp2_with fail
  refine (Ans.go H1.out _).mono ?_
  rintro e w' ⟨rfl, x1, rfl⟩
  go_wp2_with fail
  refine (Ans.go H2.out _).mono ?_
  rintro e w' ⟨rfl, x2, rfl⟩
  go_wp2_with fail
  refine (Ans.go H3.out _).mono ?_
  rintro e w' ⟨rfl, x3, rfl⟩
  go_wp2_with fail
  go_ret
  exact ⟨rfl, below_ext (below_ext ((below_ext (Below.refl _ _) (Nat.le_refl _) _).alloc (ext_size _ _) _) (by have := ext_size w x1; simp; omega) _) (by have := ext_size w x1; have := ext_size ((ext w x1).alloc (.cells (DV d) 23)) x2; simp at this; omega) _⟩

/-! the laws -/
theorem withD_at (d : Nat → Int) (r n : Int) (k : Nat) (hk : k < 7) : withD d r n k = if (k : Int) = r ∧ d k < n then n else d k := by
  unfold withD
  by_cases h : 0 ≤ r ∧ r < 7
  · rw [if_pos h]
    unfold upd
    by_cases e : (k : Int) = r
    · rw [if_pos (by omega), show r.toNat = k by omega]
      by_cases hn : d k < n
      · rw [if_pos ⟨e, hn⟩]; omega
      · rw [if_neg (fun h => hn h.2)]; omega
    · rw [if_neg (by omega), if_neg (fun h => e h.1)]
  · rw [if_neg h, if_neg (fun e => h ⟨by omega, by omega⟩)]
set_option maxHeartbeats 1000000 in
theorem law_has (d : Nat → Int) (r n q m : Int) : Ans Try.prog 3 #[.agg (DV d), .agg #[.int .i64 r, .int .i64 n], .agg #[.int .i64 q, .int .i64 m]] (.bool true) := by
  intro w
  have h1 := with_any d r n
  have h2 := has_any d q m
  have h3 := rhas_any d q m
  generalize hasD d q m = b at *
  have H1 := Lib.hid h1; clear h1
  have H2 := Lib.hid h2; clear h2
  have H3 := Lib.hid h3; clear h3
  go_enter Try.func3, Try.ntmps3
  go_wp2_with fail
  refine (Ans.go alive5 _).mono ?_
  rintro e w' ⟨rfl, x1, rfl⟩
  go_wp2_with fail
  refine (Ans.go H1.out _).mono ?_
  rintro e w' ⟨rfl, x2, rfl⟩
  go_wp2_with fail
  go_outline
  refine wp_region_ext (by kernel_rfl) (by kernel_rfl) ?_
  repeat (go_big_quiet_step (first | (go_at_call 17; exact H2.out.quiet) | (go_at_call 18; exact H3.out.quiet)))
  refine wpQuiet_nil ?_
  rintro _ ⟨x3, rfl⟩
  have hb : (b != b) = false := by simp
  go_wp2_with fail
  go_loop [22] (fun i => ∃ k : Nat, k ≤ 7 ∧ i = .int .i64 k) (fun i => 7 - (intOf i).toNat)
  case atStart => exact ⟨0, by omega, rfl⟩
  case round =>
    obtain ⟨k, hk, rfl⟩ := hrel
    by_cases hlt : k < 7
    · have hD := DV_get d k hlt
      have hW := DV_get (withD d r n) k hlt
      have hw := withD_at d r n k hlt
      generalize withD d r n k = u at *
      generalize d k = v at *
      by_cases hkr : (k : Int) = r
      · have hkr' : ((k : Int) == r) = true := by rw [beq_iff_eq]; exact hkr
        by_cases hnv : v < n
        · obtain rfl : u = n := by rw [hw, if_pos ⟨hkr, hnv⟩]
          clear hw hkr
          go_wp2
          go_round
          case rel => exact ⟨k + 1, by omega, by go_num⟩
          case measure => simp [intOf]; omega
        · obtain rfl : u = v := by rw [hw, if_neg (fun h => hnv h.2)]
          clear hw hkr
          go_wp2
          go_round
          case rel => exact ⟨k + 1, by omega, by go_num⟩
          case measure => simp [intOf]; omega
      · have hkr' : ((k : Int) == r) = false := by rw [beq_eq_false_iff_ne]; exact hkr
        obtain rfl : u = v := by rw [hw, if_neg (fun h => hkr h.1)]
        clear hw hkr
        go_wp2
        go_round
        case rel => exact ⟨k + 1, by omega, by go_num⟩
        case measure => simp [intOf]; omega
    · obtain rfl : k = 7 := by omega
      go_wp2
      go_ret
      refine ⟨rfl, below_ext ((below_ext (below_ext ((((Below.refl _ _).alloc (Nat.le_refl _) _).alloc (by simp) _).alloc (by simp; omega) _) (by simp; omega) _) (by simp [size_ext]; omega) _).alloc (by simp [size_ext]; omega) _) (by simp [size_ext]; omega) _⟩
end Go.Proofs.Ytnjnafmonijlnaa
