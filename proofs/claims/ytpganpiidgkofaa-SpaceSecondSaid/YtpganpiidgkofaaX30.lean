/- Several texts in one. -/
import Derived.Test.YtpganpiidgkofaaX29

namespace Go.Proofs.Ytpganpiidgkofaa
open Go.RowKit
set_option linter.unusedVariables false
attribute [local go_sem] row_alloc row_drew row_drewN row_ext row_setCell row_setRow size_ext setRow_alloc setRow_drew loadOf storeOf piece_lit loadVal_at storeVal_at allOne_lit EV_size EV_one EV_piece EV_0 EV_1 EV_2 EV_3 EV_4 EV_5
attribute [local go_sem high] cell_alloc frozen_alloc setCell_alloc cell_ext frozen_ext
attribute [local go_sem ↓] load_deed0 store_deed0
attribute [local go_sem] load_deed store_deed

attribute [local go_sem high] run_eql_deed
attribute [local go_sem] zero_deed


set_option maxHeartbeats 1000000 in
theorem rclash_1 (a b : Deed) (ha : a.key.size ≤ maxLen) (hb : b.key.size ≤ maxLen) (ha0 : (a.kind == 0) = true) : Ans Try.prog 41 #[.agg (EV a), .agg (EV b)] (.bool (clashB a b)) := by
  intro w
  have e : clashB a b = false := by simp [clashB, ha0]
  have E := Lib.hid e; clear e
  have T := ((St.start w).new (EV a) 33).new (EV b) 33
  simp only [World.size_alloc] at T
  clear ha hb
  go_enter Try.func41, Try.ntmps41
  go_wp2_with fail
  go_ret
  exact ⟨congrArg (fun b => Ending.returned (.bool b)) E.out.symm, T.below⟩
set_option maxHeartbeats 1000000 in
theorem rclash_2 (a b : Deed) (ha : a.key.size ≤ maxLen) (hb : b.key.size ≤ maxLen) (ha0 : (a.kind == 0) = false) (hb0 : (b.kind == 0) = true) : Ans Try.prog 41 #[.agg (EV a), .agg (EV b)] (.bool (clashB a b)) := by
  intro w
  have e : clashB a b = false := by simp [clashB, hb0]
  have E := Lib.hid e; clear e
  have T := ((St.start w).new (EV a) 33).new (EV b) 33
  simp only [World.size_alloc] at T
  clear ha hb
  go_enter Try.func41, Try.ntmps41
  go_wp2_with fail
  go_ret
  exact ⟨congrArg (fun b => Ending.returned (.bool b)) E.out.symm, T.below⟩
set_option maxHeartbeats 1000000 in
theorem rclash_3 (a b : Deed) (ha : a.key.size ≤ maxLen) (hb : b.key.size ≤ maxLen) (ha0 : (a.kind == 0) = false) (hb0 : (b.kind == 0) = false) (hss : (a.ses == b.ses) = true) (hs0 : (a.ses == 0) = false) : Ans Try.prog 41 #[.agg (EV a), .agg (EV b)] (.bool (clashB a b)) := by
  intro w
  have hn0 : (a.ses != 0) = true := by simp [bne, hs0]
  have e : clashB a b = true := by simp [clashB, ha0, hb0, hss, hs0]
  have E := Lib.hid e; clear e
  have T := ((St.start w).new (EV a) 33).new (EV b) 33
  simp only [World.size_alloc] at T
  clear ha hb
  go_enter Try.func41, Try.ntmps41
  go_wp2_with fail
  go_ret
  exact ⟨congrArg (fun b => Ending.returned (.bool b)) E.out.symm, T.below⟩
set_option maxHeartbeats 1000000 in
theorem rclash_4 (a b : Deed) (ha : a.key.size ≤ maxLen) (hb : b.key.size ≤ maxLen) (ha0 : (a.kind == 0) = false) (hb0 : (b.kind == 0) = false) (hss : (a.ses == b.ses) = false) (hwa : writes a = true) (hba : aboutB b a.key = true) : Ans Try.prog 41 #[.agg (EV a), .agg (EV b)] (.bool (clashB a b)) := by
  intro w
  have e : clashB a b = true := by simp [clashB, touchB, ha0, hb0, hss, hwa, hba]
  have E := Lib.hid e; clear e
  have T := ((St.start w).new (EV a) 33).new (EV b) 33
  simp only [World.size_alloc] at T
  have c1 := rwrites_any a
  rw [hwa] at c1
  have C1 := Lib.hid c1; clear c1
  have c2 := about_any b a.key hb ha
  rw [hba] at c2
  have C2 := Lib.hid c2; clear c2
  clear hwa hba
  clear ha hb
  go_enter Try.func41, Try.ntmps41
  go_wp2_with fail
  refine (Ans.call C1.out _).mono ?_
  rintro e w1 ⟨rfl, hb⟩
  replace T := T.call hb; clear hb
  have k := T.2; simp only [Knows] at k
  have q1 := row_cell k.2.1.1
  have q2 := row_cell k.1.1
  go_wp2_with fail
  refine (Ans.call C2.out _).mono ?_
  rintro e w2 ⟨rfl, hb⟩
  replace T := T.call hb; clear hb k q1 q2
  have k := T.2; simp only [Knows] at k
  have q1 := row_cell k.2.1.1
  have q2 := row_cell k.1.1
  go_wp2_with fail
  go_ret
  exact ⟨congrArg (fun b => Ending.returned (.bool b)) E.out.symm, T.below⟩
set_option maxHeartbeats 1000000 in
theorem rclash_5 (a b : Deed) (ha : a.key.size ≤ maxLen) (hb : b.key.size ≤ maxLen) (ha0 : (a.kind == 0) = false) (hb0 : (b.kind == 0) = false) (hss : (a.ses == b.ses) = false) (hwa : writes a = true) (hba : aboutB b a.key = false) (hwb : writes b = true) : Ans Try.prog 41 #[.agg (EV a), .agg (EV b)] (.bool (clashB a b)) := by
  intro w
  have e : clashB a b = aboutB a b.key := by simp [clashB, touchB, ha0, hb0, hss, hwa, hba, hwb]
  have E := Lib.hid e; clear e
  have T := ((St.start w).new (EV a) 33).new (EV b) 33
  simp only [World.size_alloc] at T
  have c1 := rwrites_any a
  rw [hwa] at c1
  have C1 := Lib.hid c1; clear c1
  have c2 := about_any b a.key hb ha
  rw [hba] at c2
  have C2 := Lib.hid c2; clear c2
  have c3 := rwrites_any b
  rw [hwb] at c3
  have C3 := Lib.hid c3; clear c3
  have c4 := about_any a b.key ha hb
  have C4 := Lib.hid c4; clear c4
  clear hwa hba hwb
  clear ha hb
  go_enter Try.func41, Try.ntmps41
  go_wp2_with fail
  refine (Ans.call C1.out _).mono ?_
  rintro e w1 ⟨rfl, hb⟩
  replace T := T.call hb; clear hb
  have k := T.2; simp only [Knows] at k
  have q1 := row_cell k.2.1.1
  have q2 := row_cell k.1.1
  go_wp2_with fail
  refine (Ans.call C2.out _).mono ?_
  rintro e w2 ⟨rfl, hb⟩
  replace T := T.call hb; clear hb k q1 q2
  have k := T.2; simp only [Knows] at k
  have q1 := row_cell k.2.1.1
  have q2 := row_cell k.1.1
  go_wp2_with fail
  refine (Ans.call C3.out _).mono ?_
  rintro e w3 ⟨rfl, hb⟩
  replace T := T.call hb; clear hb k q1 q2
  have k := T.2; simp only [Knows] at k
  have q1 := row_cell k.2.1.1
  have q2 := row_cell k.1.1
  go_wp2_with fail
  refine (Ans.call C4.out _).mono ?_
  rintro e w4 ⟨rfl, hb⟩
  replace T := T.call hb; clear hb k q1 q2
  have k := T.2; simp only [Knows] at k
  have q1 := row_cell k.2.1.1
  have q2 := row_cell k.1.1
  go_wp2_with fail
  go_ret
  exact ⟨congrArg (fun b => Ending.returned (.bool b)) E.out.symm, T.below⟩
set_option maxHeartbeats 1000000 in
theorem rclash_6 (a b : Deed) (ha : a.key.size ≤ maxLen) (hb : b.key.size ≤ maxLen) (ha0 : (a.kind == 0) = false) (hb0 : (b.kind == 0) = false) (hss : (a.ses == b.ses) = false) (hwa : writes a = true) (hba : aboutB b a.key = false) (hwb : writes b = false) : Ans Try.prog 41 #[.agg (EV a), .agg (EV b)] (.bool (clashB a b)) := by
  intro w
  have e : clashB a b = false := by simp [clashB, touchB, ha0, hb0, hss, hwa, hba, hwb]
  have E := Lib.hid e; clear e
  have T := ((St.start w).new (EV a) 33).new (EV b) 33
  simp only [World.size_alloc] at T
  have c1 := rwrites_any a
  rw [hwa] at c1
  have C1 := Lib.hid c1; clear c1
  have c2 := about_any b a.key hb ha
  rw [hba] at c2
  have C2 := Lib.hid c2; clear c2
  have c3 := rwrites_any b
  rw [hwb] at c3
  have C3 := Lib.hid c3; clear c3
  clear hwa hba hwb
  clear ha hb
  go_enter Try.func41, Try.ntmps41
  go_wp2_with fail
  refine (Ans.call C1.out _).mono ?_
  rintro e w1 ⟨rfl, hb⟩
  replace T := T.call hb; clear hb
  have k := T.2; simp only [Knows] at k
  have q1 := row_cell k.2.1.1
  have q2 := row_cell k.1.1
  go_wp2_with fail
  refine (Ans.call C2.out _).mono ?_
  rintro e w2 ⟨rfl, hb⟩
  replace T := T.call hb; clear hb k q1 q2
  have k := T.2; simp only [Knows] at k
  have q1 := row_cell k.2.1.1
  have q2 := row_cell k.1.1
  go_wp2_with fail
  refine (Ans.call C3.out _).mono ?_
  rintro e w3 ⟨rfl, hb⟩
  replace T := T.call hb; clear hb k q1 q2
  have k := T.2; simp only [Knows] at k
  have q1 := row_cell k.2.1.1
  have q2 := row_cell k.1.1
  go_wp2_with fail
  go_ret
  exact ⟨congrArg (fun b => Ending.returned (.bool b)) E.out.symm, T.below⟩
set_option maxHeartbeats 1000000 in
theorem rclash_7 (a b : Deed) (ha : a.key.size ≤ maxLen) (hb : b.key.size ≤ maxLen) (ha0 : (a.kind == 0) = false) (hb0 : (b.kind == 0) = false) (hss : (a.ses == b.ses) = false) (hwa : writes a = false) (hwb : writes b = true) : Ans Try.prog 41 #[.agg (EV a), .agg (EV b)] (.bool (clashB a b)) := by
  intro w
  have e : clashB a b = aboutB a b.key := by simp [clashB, touchB, ha0, hb0, hss, hwa, hwb]
  have E := Lib.hid e; clear e
  have T := ((St.start w).new (EV a) 33).new (EV b) 33
  simp only [World.size_alloc] at T
  have c1 := rwrites_any a
  rw [hwa] at c1
  have C1 := Lib.hid c1; clear c1
  have c3 := rwrites_any b
  rw [hwb] at c3
  have C3 := Lib.hid c3; clear c3
  have c4 := about_any a b.key ha hb
  have C4 := Lib.hid c4; clear c4
  clear hwa hwb
  clear ha hb
  go_enter Try.func41, Try.ntmps41
  go_wp2_with fail
  refine (Ans.call C1.out _).mono ?_
  rintro e w1 ⟨rfl, hb⟩
  replace T := T.call hb; clear hb
  have k := T.2; simp only [Knows] at k
  have q1 := row_cell k.2.1.1
  have q2 := row_cell k.1.1
  go_wp2_with fail
  refine (Ans.call C3.out _).mono ?_
  rintro e w2 ⟨rfl, hb⟩
  replace T := T.call hb; clear hb k q1 q2
  have k := T.2; simp only [Knows] at k
  have q1 := row_cell k.2.1.1
  have q2 := row_cell k.1.1
  go_wp2_with fail
  refine (Ans.call C4.out _).mono ?_
  rintro e w3 ⟨rfl, hb⟩
  replace T := T.call hb; clear hb k q1 q2
  have k := T.2; simp only [Knows] at k
  have q1 := row_cell k.2.1.1
  have q2 := row_cell k.1.1
  go_wp2_with fail
  go_ret
  exact ⟨congrArg (fun b => Ending.returned (.bool b)) E.out.symm, T.below⟩
set_option maxHeartbeats 1000000 in
theorem rclash_8 (a b : Deed) (ha : a.key.size ≤ maxLen) (hb : b.key.size ≤ maxLen) (ha0 : (a.kind == 0) = false) (hb0 : (b.kind == 0) = false) (hss : (a.ses == b.ses) = false) (hwa : writes a = false) (hwb : writes b = false) : Ans Try.prog 41 #[.agg (EV a), .agg (EV b)] (.bool (clashB a b)) := by
  intro w
  have e : clashB a b = false := by simp [clashB, touchB, ha0, hb0, hss, hwa, hwb]
  have E := Lib.hid e; clear e
  have T := ((St.start w).new (EV a) 33).new (EV b) 33
  simp only [World.size_alloc] at T
  have c1 := rwrites_any a
  rw [hwa] at c1
  have C1 := Lib.hid c1; clear c1
  have c3 := rwrites_any b
  rw [hwb] at c3
  have C3 := Lib.hid c3; clear c3
  clear hwa hwb
  clear ha hb
  go_enter Try.func41, Try.ntmps41
  go_wp2_with fail
  refine (Ans.call C1.out _).mono ?_
  rintro e w1 ⟨rfl, hb⟩
  replace T := T.call hb; clear hb
  have k := T.2; simp only [Knows] at k
  have q1 := row_cell k.2.1.1
  have q2 := row_cell k.1.1
  go_wp2_with fail
  refine (Ans.call C3.out _).mono ?_
  rintro e w2 ⟨rfl, hb⟩
  replace T := T.call hb; clear hb k q1 q2
  have k := T.2; simp only [Knows] at k
  have q1 := row_cell k.2.1.1
  have q2 := row_cell k.1.1
  go_wp2_with fail
  go_ret
  exact ⟨congrArg (fun b => Ending.returned (.bool b)) E.out.symm, T.below⟩
set_option maxHeartbeats 1000000 in
theorem rclash_9 (a b : Deed) (ha : a.key.size ≤ maxLen) (hb : b.key.size ≤ maxLen) (ha0 : (a.kind == 0) = false) (hb0 : (b.kind == 0) = false) (hss : (a.ses == b.ses) = true) (hs0 : (a.ses == 0) = true) (hwa : writes a = true) (hba : aboutB b a.key = true) : Ans Try.prog 41 #[.agg (EV a), .agg (EV b)] (.bool (clashB a b)) := by
  intro w
  have hn0 : (a.ses != 0) = false := by simp [bne, hs0]
  have e : clashB a b = true := by simp [clashB, touchB, ha0, hb0, hss, hs0, hwa, hba]
  have E := Lib.hid e; clear e
  have T := ((St.start w).new (EV a) 33).new (EV b) 33
  simp only [World.size_alloc] at T
  have c1 := rwrites_any a
  rw [hwa] at c1
  have C1 := Lib.hid c1; clear c1
  have c2 := about_any b a.key hb ha
  rw [hba] at c2
  have C2 := Lib.hid c2; clear c2
  clear hwa hba
  clear ha hb
  go_enter Try.func41, Try.ntmps41
  go_wp2_with fail
  refine (Ans.call C1.out _).mono ?_
  rintro e w1 ⟨rfl, hb⟩
  replace T := T.call hb; clear hb
  have k := T.2; simp only [Knows] at k
  have q1 := row_cell k.2.1.1
  have q2 := row_cell k.1.1
  go_wp2_with fail
  refine (Ans.call C2.out _).mono ?_
  rintro e w2 ⟨rfl, hb⟩
  replace T := T.call hb; clear hb k q1 q2
  have k := T.2; simp only [Knows] at k
  have q1 := row_cell k.2.1.1
  have q2 := row_cell k.1.1
  go_wp2_with fail
  go_ret
  exact ⟨congrArg (fun b => Ending.returned (.bool b)) E.out.symm, T.below⟩
set_option maxHeartbeats 1000000 in
theorem rclash_10 (a b : Deed) (ha : a.key.size ≤ maxLen) (hb : b.key.size ≤ maxLen) (ha0 : (a.kind == 0) = false) (hb0 : (b.kind == 0) = false) (hss : (a.ses == b.ses) = true) (hs0 : (a.ses == 0) = true) (hwa : writes a = true) (hba : aboutB b a.key = false) (hwb : writes b = true) : Ans Try.prog 41 #[.agg (EV a), .agg (EV b)] (.bool (clashB a b)) := by
  intro w
  have hn0 : (a.ses != 0) = false := by simp [bne, hs0]
  have e : clashB a b = aboutB a b.key := by simp [clashB, touchB, ha0, hb0, hss, hs0, hwa, hba, hwb]
  have E := Lib.hid e; clear e
  have T := ((St.start w).new (EV a) 33).new (EV b) 33
  simp only [World.size_alloc] at T
  have c1 := rwrites_any a
  rw [hwa] at c1
  have C1 := Lib.hid c1; clear c1
  have c2 := about_any b a.key hb ha
  rw [hba] at c2
  have C2 := Lib.hid c2; clear c2
  have c3 := rwrites_any b
  rw [hwb] at c3
  have C3 := Lib.hid c3; clear c3
  have c4 := about_any a b.key ha hb
  have C4 := Lib.hid c4; clear c4
  clear hwa hba hwb
  clear ha hb
  go_enter Try.func41, Try.ntmps41
  go_wp2_with fail
  refine (Ans.call C1.out _).mono ?_
  rintro e w1 ⟨rfl, hb⟩
  replace T := T.call hb; clear hb
  have k := T.2; simp only [Knows] at k
  have q1 := row_cell k.2.1.1
  have q2 := row_cell k.1.1
  go_wp2_with fail
  refine (Ans.call C2.out _).mono ?_
  rintro e w2 ⟨rfl, hb⟩
  replace T := T.call hb; clear hb k q1 q2
  have k := T.2; simp only [Knows] at k
  have q1 := row_cell k.2.1.1
  have q2 := row_cell k.1.1
  go_wp2_with fail
  refine (Ans.call C3.out _).mono ?_
  rintro e w3 ⟨rfl, hb⟩
  replace T := T.call hb; clear hb k q1 q2
  have k := T.2; simp only [Knows] at k
  have q1 := row_cell k.2.1.1
  have q2 := row_cell k.1.1
  go_wp2_with fail
  refine (Ans.call C4.out _).mono ?_
  rintro e w4 ⟨rfl, hb⟩
  replace T := T.call hb; clear hb k q1 q2
  have k := T.2; simp only [Knows] at k
  have q1 := row_cell k.2.1.1
  have q2 := row_cell k.1.1
  go_wp2_with fail
  go_ret
  exact ⟨congrArg (fun b => Ending.returned (.bool b)) E.out.symm, T.below⟩
set_option maxHeartbeats 1000000 in
theorem rclash_11 (a b : Deed) (ha : a.key.size ≤ maxLen) (hb : b.key.size ≤ maxLen) (ha0 : (a.kind == 0) = false) (hb0 : (b.kind == 0) = false) (hss : (a.ses == b.ses) = true) (hs0 : (a.ses == 0) = true) (hwa : writes a = true) (hba : aboutB b a.key = false) (hwb : writes b = false) : Ans Try.prog 41 #[.agg (EV a), .agg (EV b)] (.bool (clashB a b)) := by
  intro w
  have hn0 : (a.ses != 0) = false := by simp [bne, hs0]
  have e : clashB a b = false := by simp [clashB, touchB, ha0, hb0, hss, hs0, hwa, hba, hwb]
  have E := Lib.hid e; clear e
  have T := ((St.start w).new (EV a) 33).new (EV b) 33
  simp only [World.size_alloc] at T
  have c1 := rwrites_any a
  rw [hwa] at c1
  have C1 := Lib.hid c1; clear c1
  have c2 := about_any b a.key hb ha
  rw [hba] at c2
  have C2 := Lib.hid c2; clear c2
  have c3 := rwrites_any b
  rw [hwb] at c3
  have C3 := Lib.hid c3; clear c3
  clear hwa hba hwb
  clear ha hb
  go_enter Try.func41, Try.ntmps41
  go_wp2_with fail
  refine (Ans.call C1.out _).mono ?_
  rintro e w1 ⟨rfl, hb⟩
  replace T := T.call hb; clear hb
  have k := T.2; simp only [Knows] at k
  have q1 := row_cell k.2.1.1
  have q2 := row_cell k.1.1
  go_wp2_with fail
  refine (Ans.call C2.out _).mono ?_
  rintro e w2 ⟨rfl, hb⟩
  replace T := T.call hb; clear hb k q1 q2
  have k := T.2; simp only [Knows] at k
  have q1 := row_cell k.2.1.1
  have q2 := row_cell k.1.1
  go_wp2_with fail
  refine (Ans.call C3.out _).mono ?_
  rintro e w3 ⟨rfl, hb⟩
  replace T := T.call hb; clear hb k q1 q2
  have k := T.2; simp only [Knows] at k
  have q1 := row_cell k.2.1.1
  have q2 := row_cell k.1.1
  go_wp2_with fail
  go_ret
  exact ⟨congrArg (fun b => Ending.returned (.bool b)) E.out.symm, T.below⟩
set_option maxHeartbeats 1000000 in
theorem rclash_12 (a b : Deed) (ha : a.key.size ≤ maxLen) (hb : b.key.size ≤ maxLen) (ha0 : (a.kind == 0) = false) (hb0 : (b.kind == 0) = false) (hss : (a.ses == b.ses) = true) (hs0 : (a.ses == 0) = true) (hwa : writes a = false) (hwb : writes b = true) : Ans Try.prog 41 #[.agg (EV a), .agg (EV b)] (.bool (clashB a b)) := by
  intro w
  have hn0 : (a.ses != 0) = false := by simp [bne, hs0]
  have e : clashB a b = aboutB a b.key := by simp [clashB, touchB, ha0, hb0, hss, hs0, hwa, hwb]
  have E := Lib.hid e; clear e
  have T := ((St.start w).new (EV a) 33).new (EV b) 33
  simp only [World.size_alloc] at T
  have c1 := rwrites_any a
  rw [hwa] at c1
  have C1 := Lib.hid c1; clear c1
  have c3 := rwrites_any b
  rw [hwb] at c3
  have C3 := Lib.hid c3; clear c3
  have c4 := about_any a b.key ha hb
  have C4 := Lib.hid c4; clear c4
  clear hwa hwb
  clear ha hb
  go_enter Try.func41, Try.ntmps41
  go_wp2_with fail
  refine (Ans.call C1.out _).mono ?_
  rintro e w1 ⟨rfl, hb⟩
  replace T := T.call hb; clear hb
  have k := T.2; simp only [Knows] at k
  have q1 := row_cell k.2.1.1
  have q2 := row_cell k.1.1
  go_wp2_with fail
  refine (Ans.call C3.out _).mono ?_
  rintro e w2 ⟨rfl, hb⟩
  replace T := T.call hb; clear hb k q1 q2
  have k := T.2; simp only [Knows] at k
  have q1 := row_cell k.2.1.1
  have q2 := row_cell k.1.1
  go_wp2_with fail
  refine (Ans.call C4.out _).mono ?_
  rintro e w3 ⟨rfl, hb⟩
  replace T := T.call hb; clear hb k q1 q2
  have k := T.2; simp only [Knows] at k
  have q1 := row_cell k.2.1.1
  have q2 := row_cell k.1.1
  go_wp2_with fail
  go_ret
  exact ⟨congrArg (fun b => Ending.returned (.bool b)) E.out.symm, T.below⟩
set_option maxHeartbeats 1000000 in
theorem rclash_13 (a b : Deed) (ha : a.key.size ≤ maxLen) (hb : b.key.size ≤ maxLen) (ha0 : (a.kind == 0) = false) (hb0 : (b.kind == 0) = false) (hss : (a.ses == b.ses) = true) (hs0 : (a.ses == 0) = true) (hwa : writes a = false) (hwb : writes b = false) : Ans Try.prog 41 #[.agg (EV a), .agg (EV b)] (.bool (clashB a b)) := by
  intro w
  have hn0 : (a.ses != 0) = false := by simp [bne, hs0]
  have e : clashB a b = false := by simp [clashB, touchB, ha0, hb0, hss, hs0, hwa, hwb]
  have E := Lib.hid e; clear e
  have T := ((St.start w).new (EV a) 33).new (EV b) 33
  simp only [World.size_alloc] at T
  have c1 := rwrites_any a
  rw [hwa] at c1
  have C1 := Lib.hid c1; clear c1
  have c3 := rwrites_any b
  rw [hwb] at c3
  have C3 := Lib.hid c3; clear c3
  clear hwa hwb
  clear ha hb
  go_enter Try.func41, Try.ntmps41
  go_wp2_with fail
  refine (Ans.call C1.out _).mono ?_
  rintro e w1 ⟨rfl, hb⟩
  replace T := T.call hb; clear hb
  have k := T.2; simp only [Knows] at k
  have q1 := row_cell k.2.1.1
  have q2 := row_cell k.1.1
  go_wp2_with fail
  refine (Ans.call C3.out _).mono ?_
  rintro e w2 ⟨rfl, hb⟩
  replace T := T.call hb; clear hb k q1 q2
  have k := T.2; simp only [Knows] at k
  have q1 := row_cell k.2.1.1
  have q2 := row_cell k.1.1
  go_wp2_with fail
  go_ret
  exact ⟨congrArg (fun b => Ending.returned (.bool b)) E.out.symm, T.below⟩
theorem rclash_any (a b : Deed) (ha : a.key.size ≤ maxLen) (hb : b.key.size ≤ maxLen) : Ans Try.prog 41 #[.agg (EV a), .agg (EV b)] (.bool (clashB a b)) := by
  cases h1 : (a.kind == 0)
  · cases h2 : (b.kind == 0)
    · cases h4 : (a.ses == b.ses)
      · cases h5 : writes a
        · cases h7 : writes b
          · exact rclash_8 a b ha hb h1 h2 h4 h5 h7
          · exact rclash_7 a b ha hb h1 h2 h4 h5 h7
        · cases h6 : aboutB b a.key
          · cases h7 : writes b
            · exact rclash_6 a b ha hb h1 h2 h4 h5 h6 h7
            · exact rclash_5 a b ha hb h1 h2 h4 h5 h6 h7
          · exact rclash_4 a b ha hb h1 h2 h4 h5 h6
      · cases h3 : (a.ses == 0)
        · exact rclash_3 a b ha hb h1 h2 h4 h3
        · cases h5 : writes a
          · cases h7 : writes b
            · exact rclash_13 a b ha hb h1 h2 h4 h3 h5 h7
            · exact rclash_12 a b ha hb h1 h2 h4 h3 h5 h7
          · cases h6 : aboutB b a.key
            · cases h7 : writes b
              · exact rclash_11 a b ha hb h1 h2 h4 h3 h5 h6 h7
              · exact rclash_10 a b ha hb h1 h2 h4 h3 h5 h6 h7
            · exact rclash_9 a b ha hb h1 h2 h4 h3 h5 h6
    · exact rclash_2 a b ha hb h1 h2
  · exact rclash_1 a b ha hb h1
end Go.Proofs.Ytpganpiidgkofaa
