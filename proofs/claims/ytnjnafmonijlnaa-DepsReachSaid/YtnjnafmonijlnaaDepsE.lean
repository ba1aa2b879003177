import Derived.Test.YtnjnafmonijlnaaDepsD
import Derived.Test.YtnjnafmonijlnaaDepsB
namespace Go.Proofs.Ytnjnafmonijlnaa
open Go.RowKit
attribute [local go_sem] row_alloc row_drew row_drewN row_ext row_setCell row_setRow size_ext setRow_alloc setRow_drew loadOf storeOf piece_lit DV_piece loadVal_at storeVal_at allOne_lit DV_size DV_one
attribute [local go_sem high] cell_alloc frozen_alloc setCell_alloc cell_ext frozen_ext
attribute [local go_sem ↓] index_deps0 load_deps0 store_deps0 slice_deps0
attribute [local go_sem] index_deps load_deps store_deps slice_deps2 slice_deps3 LV_size


attribute [local go_sem high] run_eql_deps
/-- Join of two, whatever the world that bears the row. -/
theorem join_two (a b : Nat → Int) (W : World) (g cap : Nat) (hg : row? W g = some (LV [a, b])) : Calls Try.prog 19 #[.slice (some ⟨g, 0, none⟩) 2 cap] W fun e w' => e = .returned (.agg (DV (rjoin a b))) ∧ ∃ x, w' = ext W x :=
  (join_any [a, b] W g cap (by simp) hg).mono fun _ _ ⟨he, hb⟩ => ⟨he, ext_of hb⟩
theorem join_three (a b c : Nat → Int) (W : World) (g cap : Nat) (hg : row? W g = some (LV [a, b, c])) : Calls Try.prog 19 #[.slice (some ⟨g, 0, none⟩) 3 cap] W fun e w' => e = .returned (.agg (DV (joinL [a, b, c]))) ∧ ∃ x, w' = ext W x :=
  (join_any [a, b, c] W g cap (by simp) hg).mono fun _ _ ⟨he, hb⟩ => ⟨he, ext_of hb⟩
set_option maxHeartbeats 2000000 in
theorem reach_1 (a b : Nat → Int) (r n q m : Int) (b3 : Bool) (j wd : Nat → Int) (hj : j = rjoin a b) (hw : wd = withD a r n) (h1 : hasD j q m = true) (h2 : hasD a q m = true) (h3 : hasD b q m = b3) (cx1 : 0 ≤ r) (cx2 : r < 7) (cx3 : 0 < n) (h4 : hasD wd r n = true) (h5 : hasD wd q m = true) : Ans Try.prog 4 #[.agg (DV a), .agg (DV b), .agg #[.int .i64 r, .int .i64 n], .agg #[.int .i64 q, .int .i64 m]] (.bool true) := by
  intro w
  have c1 := fun (g cap : Nat) (W : World) => join_two a b W g cap
  have c2 := with_any a r n
  have c3 := has_any j q m
  have c4 := rhas_any a q m
  have c5 := rhas_any b q m
  have c6 := has_any wd r n
  have c7 := has_any wd q m
  rw [← hj] at c1
  rw [← hw] at c2
  rw [h1] at c3; rw [h2] at c4; rw [h3] at c5; rw [h4] at c6; rw [h5] at c7
  have C1 := Lib.hid c1; have C2 := Lib.hid c2; have C3 := Lib.hid c3; have C4 := Lib.hid c4; have C5 := Lib.hid c5; have C6 := Lib.hid c6; have C7 := Lib.hid c7
  clear c1 c2 c3 c4 c5 c6 c7 h1 h2 h3 h4 h5 hj hw
  go_enter Try.func4, Try.ntmps4
  go_wp2_with fail
  refine (Ans.go alive5 _).mono ?_
  rintro e w' ⟨rfl, x1, rfl⟩
  go_wp2_with fail
  refine (C1.out _ _ _ (by go_simp)).mono ?_
  rintro e w' ⟨rfl, x2, rfl⟩
  go_wp2_with fail
  refine (Ans.go C2.out _).mono ?_
  rintro e w' ⟨rfl, x3, rfl⟩
  go_wp2_with fail
  refine wp_region_ext (by kernel_rfl) (by kernel_rfl) ?_
  repeat (go_big_quiet_step (first | (go_at_call 17; with_reducible exact C3.out.quiet) | (go_at_call 17; with_reducible exact C6.out.quiet) | (go_at_call 17; with_reducible exact C7.out.quiet) | (go_at_call 18; with_reducible exact C4.out.quiet) | (go_at_call 18; with_reducible exact C5.out.quiet)))
  refine wpQuiet_nil ?_
  rintro _ ⟨x9, rfl⟩
  go_wp2_with fail
  go_ret
  refine ⟨rfl, ?_⟩
  repeat' first | exact Below.refl _ _ | refine below_ext ?_ ?_ _ | refine Below.alloc ?_ ?_ _ | refine Below.drew ?_
  all_goals (simp [size_ext]; try omega)
set_option maxHeartbeats 2000000 in
theorem reach_2 (a b : Nat → Int) (r n q m : Int) (b3 : Bool) (j wd : Nat → Int) (hj : j = rjoin a b) (hw : wd = withD a r n) (h1 : hasD j q m = b3) (h2 : hasD a q m = false) (h3 : hasD b q m = b3) (cx1 : 0 ≤ r) (cx2 : r < 7) (cx3 : 0 < n) (hqr : ¬ q = r) (h4 : hasD wd r n = true) (h5 : hasD wd q m = false) : Ans Try.prog 4 #[.agg (DV a), .agg (DV b), .agg #[.int .i64 r, .int .i64 n], .agg #[.int .i64 q, .int .i64 m]] (.bool true) := by
  intro w
  have f1 : (q == r) = false := by rw [beq_eq_false_iff_ne]; exact hqr
  clear hqr
  have c1 := fun (g cap : Nat) (W : World) => join_two a b W g cap
  have c2 := with_any a r n
  have c3 := has_any j q m
  have c4 := rhas_any a q m
  have c5 := rhas_any b q m
  have c6 := has_any wd r n
  have c7 := has_any wd q m
  rw [← hj] at c1
  rw [← hw] at c2
  rw [h1] at c3; rw [h2] at c4; rw [h3] at c5; rw [h4] at c6; rw [h5] at c7
  have C1 := Lib.hid c1; have C2 := Lib.hid c2; have C3 := Lib.hid c3; have C4 := Lib.hid c4; have C5 := Lib.hid c5; have C6 := Lib.hid c6; have C7 := Lib.hid c7
  clear c1 c2 c3 c4 c5 c6 c7 h1 h2 h3 h4 h5 hj hw
  go_enter Try.func4, Try.ntmps4
  go_wp2_with fail
  refine (Ans.go alive5 _).mono ?_
  rintro e w' ⟨rfl, x1, rfl⟩
  go_wp2_with fail
  refine (C1.out _ _ _ (by go_simp)).mono ?_
  rintro e w' ⟨rfl, x2, rfl⟩
  go_wp2_with fail
  refine (Ans.go C2.out _).mono ?_
  rintro e w' ⟨rfl, x3, rfl⟩
  go_wp2_with fail
  refine wp_region_ext (by kernel_rfl) (by kernel_rfl) ?_
  repeat (go_big_quiet_step (first | (go_at_call 17; with_reducible exact C3.out.quiet) | (go_at_call 17; with_reducible exact C6.out.quiet) | (go_at_call 17; with_reducible exact C7.out.quiet) | (go_at_call 18; with_reducible exact C4.out.quiet) | (go_at_call 18; with_reducible exact C5.out.quiet)))
  refine wpQuiet_nil ?_
  rintro _ ⟨x9, rfl⟩
  go_wp2_with fail
  go_ret
  refine ⟨rfl, ?_⟩
  repeat' first | exact Below.refl _ _ | refine below_ext ?_ ?_ _ | refine Below.alloc ?_ ?_ _ | refine Below.drew ?_
  all_goals (simp [size_ext]; try omega)
set_option maxHeartbeats 2000000 in
theorem reach_3 (a b : Nat → Int) (r n q m : Int) (b3 : Bool) (j wd : Nat → Int) (hj : j = rjoin a b) (hw : wd = withD a r n) (h1 : hasD j q m = b3) (h2 : hasD a q m = false) (h3 : hasD b q m = b3) (cx1 : 0 ≤ r) (cx2 : r < 7) (cx3 : 0 < n) (hqr : q = r) (hm : ¬ 0 < m) (h4 : hasD wd r n = true) (h5 : hasD wd q m = false) : Ans Try.prog 4 #[.agg (DV a), .agg (DV b), .agg #[.int .i64 r, .int .i64 n], .agg #[.int .i64 q, .int .i64 m]] (.bool true) := by
  intro w
  have f1 : (q == r) = true := by rw [beq_iff_eq]; exact hqr
  have f2 : decide (0 < m) = false := by simpa using hm
  clear hqr
  have c1 := fun (g cap : Nat) (W : World) => join_two a b W g cap
  have c2 := with_any a r n
  have c3 := has_any j q m
  have c4 := rhas_any a q m
  have c5 := rhas_any b q m
  have c6 := has_any wd r n
  have c7 := has_any wd q m
  rw [← hj] at c1
  rw [← hw] at c2
  rw [h1] at c3; rw [h2] at c4; rw [h3] at c5; rw [h4] at c6; rw [h5] at c7
  have C1 := Lib.hid c1; have C2 := Lib.hid c2; have C3 := Lib.hid c3; have C4 := Lib.hid c4; have C5 := Lib.hid c5; have C6 := Lib.hid c6; have C7 := Lib.hid c7
  clear c1 c2 c3 c4 c5 c6 c7 h1 h2 h3 h4 h5 hj hw
  go_enter Try.func4, Try.ntmps4
  go_wp2_with fail
  refine (Ans.go alive5 _).mono ?_
  rintro e w' ⟨rfl, x1, rfl⟩
  go_wp2_with fail
  refine (C1.out _ _ _ (by go_simp)).mono ?_
  rintro e w' ⟨rfl, x2, rfl⟩
  go_wp2_with fail
  refine (Ans.go C2.out _).mono ?_
  rintro e w' ⟨rfl, x3, rfl⟩
  go_wp2_with fail
  refine wp_region_ext (by kernel_rfl) (by kernel_rfl) ?_
  repeat (go_big_quiet_step (first | (go_at_call 17; with_reducible exact C3.out.quiet) | (go_at_call 17; with_reducible exact C6.out.quiet) | (go_at_call 17; with_reducible exact C7.out.quiet) | (go_at_call 18; with_reducible exact C4.out.quiet) | (go_at_call 18; with_reducible exact C5.out.quiet)))
  refine wpQuiet_nil ?_
  rintro _ ⟨x9, rfl⟩
  go_wp2_with fail
  go_ret
  refine ⟨rfl, ?_⟩
  repeat' first | exact Below.refl _ _ | refine below_ext ?_ ?_ _ | refine Below.alloc ?_ ?_ _ | refine Below.drew ?_
  all_goals (simp [size_ext]; try omega)
set_option maxHeartbeats 2000000 in
theorem reach_4 (a b : Nat → Int) (r n q m : Int) (b3 : Bool) (j wd : Nat → Int) (hj : j = rjoin a b) (hw : wd = withD a r n) (h1 : hasD j q m = b3) (h2 : hasD a q m = false) (h3 : hasD b q m = b3) (cx1 : 0 ≤ r) (cx2 : r < 7) (cx3 : 0 < n) (hqr : q = r) (hm : 0 < m) (hmn : ¬ m ≤ n) (h4 : hasD wd r n = true) (h5 : hasD wd q m = false) : Ans Try.prog 4 #[.agg (DV a), .agg (DV b), .agg #[.int .i64 r, .int .i64 n], .agg #[.int .i64 q, .int .i64 m]] (.bool true) := by
  intro w
  have f1 : (q == r) = true := by rw [beq_iff_eq]; exact hqr
  have f2 : decide (m ≤ n) = false := by simpa using hmn
  clear hqr
  have c1 := fun (g cap : Nat) (W : World) => join_two a b W g cap
  have c2 := with_any a r n
  have c3 := has_any j q m
  have c4 := rhas_any a q m
  have c5 := rhas_any b q m
  have c6 := has_any wd r n
  have c7 := has_any wd q m
  rw [← hj] at c1
  rw [← hw] at c2
  rw [h1] at c3; rw [h2] at c4; rw [h3] at c5; rw [h4] at c6; rw [h5] at c7
  have C1 := Lib.hid c1; have C2 := Lib.hid c2; have C3 := Lib.hid c3; have C4 := Lib.hid c4; have C5 := Lib.hid c5; have C6 := Lib.hid c6; have C7 := Lib.hid c7
  clear c1 c2 c3 c4 c5 c6 c7 h1 h2 h3 h4 h5 hj hw
  go_enter Try.func4, Try.ntmps4
  go_wp2_with fail
  refine (Ans.go alive5 _).mono ?_
  rintro e w' ⟨rfl, x1, rfl⟩
  go_wp2_with fail
  refine (C1.out _ _ _ (by go_simp)).mono ?_
  rintro e w' ⟨rfl, x2, rfl⟩
  go_wp2_with fail
  refine (Ans.go C2.out _).mono ?_
  rintro e w' ⟨rfl, x3, rfl⟩
  go_wp2_with fail
  refine wp_region_ext (by kernel_rfl) (by kernel_rfl) ?_
  repeat (go_big_quiet_step (first | (go_at_call 17; with_reducible exact C3.out.quiet) | (go_at_call 17; with_reducible exact C6.out.quiet) | (go_at_call 17; with_reducible exact C7.out.quiet) | (go_at_call 18; with_reducible exact C4.out.quiet) | (go_at_call 18; with_reducible exact C5.out.quiet)))
  refine wpQuiet_nil ?_
  rintro _ ⟨x9, rfl⟩
  go_wp2_with fail
  go_ret
  refine ⟨rfl, ?_⟩
  repeat' first | exact Below.refl _ _ | refine below_ext ?_ ?_ _ | refine Below.alloc ?_ ?_ _ | refine Below.drew ?_
  all_goals (simp [size_ext]; try omega)
set_option maxHeartbeats 2000000 in
theorem reach_5 (a b : Nat → Int) (r n q m : Int) (b3 : Bool) (j wd : Nat → Int) (hj : j = rjoin a b) (hw : wd = withD a r n) (h1 : hasD j q m = b3) (h2 : hasD a q m = false) (h3 : hasD b q m = b3) (cx1 : 0 ≤ r) (cx2 : r < 7) (cx3 : 0 < n) (hqr : q = r) (hm : 0 < m) (hmn : m ≤ n) (h4 : hasD wd r n = true) (h5 : hasD wd q m = true) : Ans Try.prog 4 #[.agg (DV a), .agg (DV b), .agg #[.int .i64 r, .int .i64 n], .agg #[.int .i64 q, .int .i64 m]] (.bool true) := by
  intro w
  have f1 : (q == r) = true := by rw [beq_iff_eq]; exact hqr
  clear hqr
  have c1 := fun (g cap : Nat) (W : World) => join_two a b W g cap
  have c2 := with_any a r n
  have c3 := has_any j q m
  have c4 := rhas_any a q m
  have c5 := rhas_any b q m
  have c6 := has_any wd r n
  have c7 := has_any wd q m
  rw [← hj] at c1
  rw [← hw] at c2
  rw [h1] at c3; rw [h2] at c4; rw [h3] at c5; rw [h4] at c6; rw [h5] at c7
  have C1 := Lib.hid c1; have C2 := Lib.hid c2; have C3 := Lib.hid c3; have C4 := Lib.hid c4; have C5 := Lib.hid c5; have C6 := Lib.hid c6; have C7 := Lib.hid c7
  clear c1 c2 c3 c4 c5 c6 c7 h1 h2 h3 h4 h5 hj hw
  go_enter Try.func4, Try.ntmps4
  go_wp2_with fail
  refine (Ans.go alive5 _).mono ?_
  rintro e w' ⟨rfl, x1, rfl⟩
  go_wp2_with fail
  refine (C1.out _ _ _ (by go_simp)).mono ?_
  rintro e w' ⟨rfl, x2, rfl⟩
  go_wp2_with fail
  refine (Ans.go C2.out _).mono ?_
  rintro e w' ⟨rfl, x3, rfl⟩
  go_wp2_with fail
  refine wp_region_ext (by kernel_rfl) (by kernel_rfl) ?_
  repeat (go_big_quiet_step (first | (go_at_call 17; with_reducible exact C3.out.quiet) | (go_at_call 17; with_reducible exact C6.out.quiet) | (go_at_call 17; with_reducible exact C7.out.quiet) | (go_at_call 18; with_reducible exact C4.out.quiet) | (go_at_call 18; with_reducible exact C5.out.quiet)))
  refine wpQuiet_nil ?_
  rintro _ ⟨x9, rfl⟩
  go_wp2_with fail
  go_ret
  refine ⟨rfl, ?_⟩
  repeat' first | exact Below.refl _ _ | refine below_ext ?_ ?_ _ | refine Below.alloc ?_ ?_ _ | refine Below.drew ?_
  all_goals (simp [size_ext]; try omega)
set_option maxHeartbeats 2000000 in
theorem reach_6 (a b : Nat → Int) (r n q m : Int) (b3 : Bool) (j wd : Nat → Int) (hj : j = rjoin a b) (hw : wd = withD a r n) (h1 : hasD j q m = true) (h2 : hasD a q m = true) (h3 : hasD b q m = b3) (cx1 : ¬ 0 ≤ r) (h4 : hasD wd r n = false) (h5 : hasD wd q m = true) : Ans Try.prog 4 #[.agg (DV a), .agg (DV b), .agg #[.int .i64 r, .int .i64 n], .agg #[.int .i64 q, .int .i64 m]] (.bool true) := by
  intro w
  have f0 : decide (0 ≤ r) = false := by simpa using cx1
  have c1 := fun (g cap : Nat) (W : World) => join_two a b W g cap
  have c2 := with_any a r n
  have c3 := has_any j q m
  have c4 := rhas_any a q m
  have c5 := rhas_any b q m
  have c6 := has_any wd r n
  have c7 := has_any wd q m
  rw [← hj] at c1
  rw [← hw] at c2
  rw [h1] at c3; rw [h2] at c4; rw [h3] at c5; rw [h4] at c6; rw [h5] at c7
  have C1 := Lib.hid c1; have C2 := Lib.hid c2; have C3 := Lib.hid c3; have C4 := Lib.hid c4; have C5 := Lib.hid c5; have C6 := Lib.hid c6; have C7 := Lib.hid c7
  clear c1 c2 c3 c4 c5 c6 c7 h1 h2 h3 h4 h5 hj hw
  go_enter Try.func4, Try.ntmps4
  go_wp2_with fail
  refine (Ans.go alive5 _).mono ?_
  rintro e w' ⟨rfl, x1, rfl⟩
  go_wp2_with fail
  refine (C1.out _ _ _ (by go_simp)).mono ?_
  rintro e w' ⟨rfl, x2, rfl⟩
  go_wp2_with fail
  refine (Ans.go C2.out _).mono ?_
  rintro e w' ⟨rfl, x3, rfl⟩
  go_wp2_with fail
  refine wp_region_ext (by kernel_rfl) (by kernel_rfl) ?_
  repeat (go_big_quiet_step (first | (go_at_call 17; with_reducible exact C3.out.quiet) | (go_at_call 17; with_reducible exact C6.out.quiet) | (go_at_call 17; with_reducible exact C7.out.quiet) | (go_at_call 18; with_reducible exact C4.out.quiet) | (go_at_call 18; with_reducible exact C5.out.quiet)))
  refine wpQuiet_nil ?_
  rintro _ ⟨x9, rfl⟩
  go_wp2_with fail
  go_ret
  refine ⟨rfl, ?_⟩
  repeat' first | exact Below.refl _ _ | refine below_ext ?_ ?_ _ | refine Below.alloc ?_ ?_ _ | refine Below.drew ?_
  all_goals (simp [size_ext]; try omega)
end Go.Proofs.Ytnjnafmonijlnaa
