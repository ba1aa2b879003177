/- Several texts in one. -/
import Derived.Test.YtpganpiidgkofaaY30
import Derived.Deep.DeepCutAuto
import Derived.Deep.RegionHeld3

namespace Go.Proofs.Ytpganpiidgkofaa
open Go.RowKit
set_option linter.unusedVariables false
attribute [local go_sem] row_alloc row_drew row_drewN row_ext row_setCell row_setRow size_ext setRow_alloc setRow_drew loadOf storeOf piece_lit loadVal_at storeVal_at allOne_lit EV_size EV_one EV_piece EV_0 EV_1 EV_2 EV_3 EV_4 EV_5
attribute [local go_sem high] cell_alloc frozen_alloc setCell_alloc cell_ext frozen_ext
attribute [local go_sem ↓] load_deed0 store_deed0
attribute [local go_sem] load_deed store_deed

attribute [local go_sem high] run_eql_deed
attribute [local go_sem] zero_deed


set_option maxHeartbeats 1000000 in
theorem rclash_1 (a b : Deed) (ha : a.key.size ≤ maxLen) (hb : b.key.size ≤ maxLen) (ha0 : (a.kind == 0) = true) : Ans Try.prog 41 #[.agg (EV a), .agg (EV b)] (.bool (clashB a b)) := by
  intro w
  have e : clashB a b = false := by simp [clashB, ha0]
  have E := Lib.hid e; clear e
  have T := ((St.start w).new (EV a) 33).new (EV b) 33
  simp only [World.size_alloc] at T
  clear ha hb
  go_enter Try.func41, Try.ntmps41
  go_wp2_with fail
  go_ret
  exact ⟨congrArg (fun b => Ending.returned (.bool b)) E.out.symm, T.below⟩
set_option maxHeartbeats 1000000 in
theorem rclash_2 (a b : Deed) (ha : a.key.size ≤ maxLen) (hb : b.key.size ≤ maxLen) (ha0 : (a.kind == 0) = false) (hb0 : (b.kind == 0) = true) : Ans Try.prog 41 #[.agg (EV a), .agg (EV b)] (.bool (clashB a b)) := by
  intro w
  have e : clashB a b = false := by simp [clashB, hb0]
  have E := Lib.hid e; clear e
  have T := ((St.start w).new (EV a) 33).new (EV b) 33
  simp only [World.size_alloc] at T
  clear ha hb
  go_enter Try.func41, Try.ntmps41
  go_wp2_with fail
  go_ret
  exact ⟨congrArg (fun b => Ending.returned (.bool b)) E.out.symm, T.below⟩
set_option maxHeartbeats 1000000 in
theorem rclash_3 (a b : Deed) (ha : a.key.size ≤ maxLen) (hb : b.key.size ≤ maxLen) (ha0 : (a.kind == 0) = false) (hb0 : (b.kind == 0) = false) (hss : (a.ses == b.ses) = true) (hs0 : (a.ses == 0) = false) : Ans Try.prog 41 #[.agg (EV a), .agg (EV b)] (.bool (clashB a b)) := by
  intro w
  have hn0 : (a.ses != 0) = true := by simp [bne, hs0]
  have e : clashB a b = true := by simp [clashB, ha0, hb0, hss, hs0]
  have E := Lib.hid e; clear e
  have T := ((St.start w).new (EV a) 33).new (EV b) 33
  simp only [World.size_alloc] at T
  clear ha hb
  go_enter Try.func41, Try.ntmps41
  go_wp2_with fail
  go_ret
  exact ⟨congrArg (fun b => Ending.returned (.bool b)) E.out.symm, T.below⟩
set_option maxHeartbeats 1000000 in
theorem rclash_4 (a b : Deed) (ha : a.key.size ≤ maxLen) (hb : b.key.size ≤ maxLen) (ha0 : (a.kind == 0) = false) (hb0 : (b.kind == 0) = false) (hss : (a.ses == b.ses) = false) (hwa : writes a = true) (hba : aboutB b a.key = true) : Ans Try.prog 41 #[.agg (EV a), .agg (EV b)] (.bool (clashB a b)) := by
  intro w
  have e : clashB a b = true := by simp [clashB, touchB, ha0, hb0, hss, hwa, hba]
  have E := Lib.hid e; clear e
  have T := ((St.start w).new (EV a) 33).new (EV b) 33
  simp only [World.size_alloc] at T
  have c1 := rwrites_any a
  rw [hwa] at c1
  have C1 := Lib.hid c1; clear c1
  have c2 := about_any b a.key hb ha
  rw [hba] at c2
  have C2 := Lib.hid c2; clear c2
  clear hwa hba
  clear ha hb
  go_enter Try.func41, Try.ntmps41
  go_wp2_with fail
  refine (Ans.call C1.out _).mono ?_
  rintro e w1 ⟨rfl, hb⟩
  replace T := T.call hb; clear hb
  have k := T.2; simp only [Knows] at k
  have q1 := row_cell k.2.1.1
  have q2 := row_cell k.1.1
  go_wp2_with fail
  refine (Ans.call C2.out _).mono ?_
  rintro e w2 ⟨rfl, hb⟩
  replace T := T.call hb; clear hb k q1 q2
  have k := T.2; simp only [Knows] at k
  have q1 := row_cell k.2.1.1
  have q2 := row_cell k.1.1
  go_wp2_with fail
  go_ret
  exact ⟨congrArg (fun b => Ending.returned (.bool b)) E.out.symm, T.below⟩
set_option maxHeartbeats 1000000 in
theorem rclash_5 (a b : Deed) (ha : a.key.size ≤ maxLen) (hb : b.key.size ≤ maxLen) (ha0 : (a.kind == 0) = false) (hb0 : (b.kind == 0) = false) (hss : (a.ses == b.ses) = false) (hwa : writes a = true) (hba : aboutB b a.key = false) (hwb : writes b = true) : Ans Try.prog 41 #[.agg (EV a), .agg (EV b)] (.bool (clashB a b)) := by
  intro w
  have e : clashB a b = aboutB a b.key := by simp [clashB, touchB, ha0, hb0, hss, hwa, hba, hwb]
  have E := Lib.hid e; clear e
  have T := ((St.start w).new (EV a) 33).new (EV b) 33
  simp only [World.size_alloc] at T
  have c1 := rwrites_any a
  rw [hwa] at c1
  have C1 := Lib.hid c1; clear c1
  have c2 := about_any b a.key hb ha
  rw [hba] at c2
  have C2 := Lib.hid c2; clear c2
  have c3 := rwrites_any b
  rw [hwb] at c3
  have C3 := Lib.hid c3; clear c3
  have c4 := about_any a b.key ha hb
  have C4 := Lib.hid c4; clear c4
  clear hwa hba hwb
  clear ha hb
  go_enter Try.func41, Try.ntmps41
  go_wp2_with fail
  refine (Ans.call C1.out _).mono ?_
  rintro e w1 ⟨rfl, hb⟩
  replace T := T.call hb; clear hb
  have k := T.2; simp only [Knows] at k
  have q1 := row_cell k.2.1.1
  have q2 := row_cell k.1.1
  go_wp2_with fail
  refine (Ans.call C2.out _).mono ?_
  rintro e w2 ⟨rfl, hb⟩
  replace T := T.call hb; clear hb k q1 q2
  have k := T.2; simp only [Knows] at k
  have q1 := row_cell k.2.1.1
  have q2 := row_cell k.1.1
  go_wp2_with fail
  refine (Ans.call C3.out _).mono ?_
  rintro e w3 ⟨rfl, hb⟩
  replace T := T.call hb; clear hb k q1 q2
  have k := T.2; simp only [Knows] at k
  have q1 := row_cell k.2.1.1
  have q2 := row_cell k.1.1
  go_wp2_with fail
  refine (Ans.call C4.out _).mono ?_
  rintro e w4 ⟨rfl, hb⟩
  replace T := T.call hb; clear hb k q1 q2
  have k := T.2; simp only [Knows] at k
  have q1 := row_cell k.2.1.1
  have q2 := row_cell k.1.1
  go_wp2_with fail
  go_ret
  exact ⟨congrArg (fun b => Ending.returned (.bool b)) E.out.symm, T.below⟩
set_option maxHeartbeats 1000000 in
theorem rclash_6 (a b : Deed) (ha : a.key.size ≤ maxLen) (hb : b.key.size ≤ maxLen) (ha0 : (a.kind == 0) = false) (hb0 : (b.kind == 0) = false) (hss : (a.ses == b.ses) = false) (hwa : writes a = true) (hba : aboutB b a.key = false) (hwb : writes b = false) : Ans Try.prog 41 #[.agg (EV a), .agg (EV b)] (.bool (clashB a b)) := by
  intro w
  have e : clashB a b = false := by simp [clashB, touchB, ha0, hb0, hss, hwa, hba, hwb]
  have E := Lib.hid e; clear e
  have T := ((St.start w).new (EV a) 33).new (EV b) 33
  simp only [World.size_alloc] at T
  have c1 := rwrites_any a
  rw [hwa] at c1
  have C1 := Lib.hid c1; clear c1
  have c2 := about_any b a.key hb ha
  rw [hba] at c2
  have C2 := Lib.hid c2; clear c2
  have c3 := rwrites_any b
  rw [hwb] at c3
  have C3 := Lib.hid c3; clear c3
  clear hwa hba hwb
  clear ha hb
  go_enter Try.func41, Try.ntmps41
  go_wp2_with fail
  refine (Ans.call C1.out _).mono ?_
  rintro e w1 ⟨rfl, hb⟩
  replace T := T.call hb; clear hb
  have k := T.2; simp only [Knows] at k
  have q1 := row_cell k.2.1.1
  have q2 := row_cell k.1.1
  go_wp2_with fail
  refine (Ans.call C2.out _).mono ?_
  rintro e w2 ⟨rfl, hb⟩
  replace T := T.call hb; clear hb k q1 q2
  have k := T.2; simp only [Knows] at k
  have q1 := row_cell k.2.1.1
  have q2 := row_cell k.1.1
  go_wp2_with fail
  refine (Ans.call C3.out _).mono ?_
  rintro e w3 ⟨rfl, hb⟩
  replace T := T.call hb; clear hb k q1 q2
  have k := T.2; simp only [Knows] at k
  have q1 := row_cell k.2.1.1
  have q2 := row_cell k.1.1
  go_wp2_with fail
  go_ret
  exact ⟨congrArg (fun b => Ending.returned (.bool b)) E.out.symm, T.below⟩
set_option maxHeartbeats 1000000 in
theorem rclash_7 (a b : Deed) (ha : a.key.size ≤ maxLen) (hb : b.key.size ≤ maxLen) (ha0 : (a.kind == 0) = false) (hb0 : (b.kind == 0) = false) (hss : (a.ses == b.ses) = false) (hwa : writes a = false) (hwb : writes b = true) : Ans Try.prog 41 #[.agg (EV a), .agg (EV b)] (.bool (clashB a b)) := by
  intro w
  have e : clashB a b = aboutB a b.key := by simp [clashB, touchB, ha0, hb0, hss, hwa, hwb]
  have E := Lib.hid e; clear e
  have T := ((St.start w).new (EV a) 33).new (EV b) 33
  simp only [World.size_alloc] at T
  have c1 := rwrites_any a
  rw [hwa] at c1
  have C1 := Lib.hid c1; clear c1
  have c3 := rwrites_any b
  rw [hwb] at c3
  have C3 := Lib.hid c3; clear c3
  have c4 := about_any a b.key ha hb
  have C4 := Lib.hid c4; clear c4
  clear hwa hwb
  clear ha hb
  go_enter Try.func41, Try.ntmps41
  go_wp2_with fail
  refine (Ans.call C1.out _).mono ?_
  rintro e w1 ⟨rfl, hb⟩
  replace T := T.call hb; clear hb
  have k := T.2; simp only [Knows] at k
  have q1 := row_cell k.2.1.1
  have q2 := row_cell k.1.1
  go_wp2_with fail
  refine (Ans.call C3.out _).mono ?_
  rintro e w2 ⟨rfl, hb⟩
  replace T := T.call hb; clear hb k q1 q2
  have k := T.2; simp only [Knows] at k
  have q1 := row_cell k.2.1.1
  have q2 := row_cell k.1.1
  go_wp2_with fail
  refine (Ans.call C4.out _).mono ?_
  rintro e w3 ⟨rfl, hb⟩
  replace T := T.call hb; clear hb k q1 q2
  have k := T.2; simp only [Knows] at k
  have q1 := row_cell k.2.1.1
  have q2 := row_cell k.1.1
  go_wp2_with fail
  go_ret
  exact ⟨congrArg (fun b => Ending.returned (.bool b)) E.out.symm, T.below⟩
set_option maxHeartbeats 1000000 in
theorem rclash_8 (a b : Deed) (ha : a.key.size ≤ maxLen) (hb : b.key.size ≤ maxLen) (ha0 : (a.kind == 0) = false) (hb0 : (b.kind == 0) = false) (hss : (a.ses == b.ses) = false) (hwa : writes a = false) (hwb : writes b = false) : Ans Try.prog 41 #[.agg (EV a), .agg (EV b)] (.bool (clashB a b)) := by
  intro w
  have e : clashB a b = false := by simp [clashB, touchB, ha0, hb0, hss, hwa, hwb]
  have E := Lib.hid e; clear e
  have T := ((St.start w).new (EV a) 33).new (EV b) 33
  simp only [World.size_alloc] at T
  have c1 := rwrites_any a
  rw [hwa] at c1
  have C1 := Lib.hid c1; clear c1
  have c3 := rwrites_any b
  rw [hwb] at c3
  have C3 := Lib.hid c3; clear c3
  clear hwa hwb
  clear ha hb
  go_enter Try.func41, Try.ntmps41
  go_wp2_with fail
  refine (Ans.call C1.out _).mono ?_
  rintro e w1 ⟨rfl, hb⟩
  replace T := T.call hb; clear hb
  have k := T.2; simp only [Knows] at k
  have q1 := row_cell k.2.1.1
  have q2 := row_cell k.1.1
  go_wp2_with fail
  refine (Ans.call C3.out _).mono ?_
  rintro e w2 ⟨rfl, hb⟩
  replace T := T.call hb; clear hb k q1 q2
  have k := T.2; simp only [Knows] at k
  have q1 := row_cell k.2.1.1
  have q2 := row_cell k.1.1
  go_wp2_with fail
  go_ret
  exact ⟨congrArg (fun b => Ending.returned (.bool b)) E.out.symm, T.below⟩
set_option maxHeartbeats 1000000 in
theorem rclash_9 (a b : Deed) (ha : a.key.size ≤ maxLen) (hb : b.key.size ≤ maxLen) (ha0 : (a.kind == 0) = false) (hb0 : (b.kind == 0) = false) (hss : (a.ses == b.ses) = true) (hs0 : (a.ses == 0) = true) (hwa : writes a = true) (hba : aboutB b a.key = true) : Ans Try.prog 41 #[.agg (EV a), .agg (EV b)] (.bool (clashB a b)) := by
  intro w
  have hn0 : (a.ses != 0) = false := by simp [bne, hs0]
  have e : clashB a b = true := by simp [clashB, touchB, ha0, hb0, hss, hs0, hwa, hba]
  have E := Lib.hid e; clear e
  have T := ((St.start w).new (EV a) 33).new (EV b) 33
  simp only [World.size_alloc] at T
  have c1 := rwrites_any a
  rw [hwa] at c1
  have C1 := Lib.hid c1; clear c1
  have c2 := about_any b a.key hb ha
  rw [hba] at c2
  have C2 := Lib.hid c2; clear c2
  clear hwa hba
  clear ha hb
  go_enter Try.func41, Try.ntmps41
  go_wp2_with fail
  refine (Ans.call C1.out _).mono ?_
  rintro e w1 ⟨rfl, hb⟩
  replace T := T.call hb; clear hb
  have k := T.2; simp only [Knows] at k
  have q1 := row_cell k.2.1.1
  have q2 := row_cell k.1.1
  go_wp2_with fail
  refine (Ans.call C2.out _).mono ?_
  rintro e w2 ⟨rfl, hb⟩
  replace T := T.call hb; clear hb k q1 q2
  have k := T.2; simp only [Knows] at k
  have q1 := row_cell k.2.1.1
  have q2 := row_cell k.1.1
  go_wp2_with fail
  go_ret
  exact ⟨congrArg (fun b => Ending.returned (.bool b)) E.out.symm, T.below⟩
set_option maxHeartbeats 1000000 in
theorem rclash_10 (a b : Deed) (ha : a.key.size ≤ maxLen) (hb : b.key.size ≤ maxLen) (ha0 : (a.kind == 0) = false) (hb0 : (b.kind == 0) = false) (hss : (a.ses == b.ses) = true) (hs0 : (a.ses == 0) = true) (hwa : writes a = true) (hba : aboutB b a.key = false) (hwb : writes b = true) : Ans Try.prog 41 #[.agg (EV a), .agg (EV b)] (.bool (clashB a b)) := by
  intro w
  have hn0 : (a.ses != 0) = false := by simp [bne, hs0]
  have e : clashB a b = aboutB a b.key := by simp [clashB, touchB, ha0, hb0, hss, hs0, hwa, hba, hwb]
  have E := Lib.hid e; clear e
  have T := ((St.start w).new (EV a) 33).new (EV b) 33
  simp only [World.size_alloc] at T
  have c1 := rwrites_any a
  rw [hwa] at c1
  have C1 := Lib.hid c1; clear c1
  have c2 := about_any b a.key hb ha
  rw [hba] at c2
  have C2 := Lib.hid c2; clear c2
  have c3 := rwrites_any b
  rw [hwb] at c3
  have C3 := Lib.hid c3; clear c3
  have c4 := about_any a b.key ha hb
  have C4 := Lib.hid c4; clear c4
  clear hwa hba hwb
  clear ha hb
  go_enter Try.func41, Try.ntmps41
  go_wp2_with fail
  refine (Ans.call C1.out _).mono ?_
  rintro e w1 ⟨rfl, hb⟩
  replace T := T.call hb; clear hb
  have k := T.2; simp only [Knows] at k
  have q1 := row_cell k.2.1.1
  have q2 := row_cell k.1.1
  go_wp2_with fail
  refine (Ans.call C2.out _).mono ?_
  rintro e w2 ⟨rfl, hb⟩
  replace T := T.call hb; clear hb k q1 q2
  have k := T.2; simp only [Knows] at k
  have q1 := row_cell k.2.1.1
  have q2 := row_cell k.1.1
  go_wp2_with fail
  refine (Ans.call C3.out _).mono ?_
  rintro e w3 ⟨rfl, hb⟩
  replace T := T.call hb; clear hb k q1 q2
  have k := T.2; simp only [Knows] at k
  have q1 := row_cell k.2.1.1
  have q2 := row_cell k.1.1
  go_wp2_with fail
  refine (Ans.call C4.out _).mono ?_
  rintro e w4 ⟨rfl, hb⟩
  replace T := T.call hb; clear hb k q1 q2
  have k := T.2; simp only [Knows] at k
  have q1 := row_cell k.2.1.1
  have q2 := row_cell k.1.1
  go_wp2_with fail
  go_ret
  exact ⟨congrArg (fun b => Ending.returned (.bool b)) E.out.symm, T.below⟩
set_option maxHeartbeats 1000000 in
theorem rclash_11 (a b : Deed) (ha : a.key.size ≤ maxLen) (hb : b.key.size ≤ maxLen) (ha0 : (a.kind == 0) = false) (hb0 : (b.kind == 0) = false) (hss : (a.ses == b.ses) = true) (hs0 : (a.ses == 0) = true) (hwa : writes a = true) (hba : aboutB b a.key = false) (hwb : writes b = false) : Ans Try.prog 41 #[.agg (EV a), .agg (EV b)] (.bool (clashB a b)) := by
  intro w
  have hn0 : (a.ses != 0) = false := by simp [bne, hs0]
  have e : clashB a b = false := by simp [clashB, touchB, ha0, hb0, hss, hs0, hwa, hba, hwb]
  have E := Lib.hid e; clear e
  have T := ((St.start w).new (EV a) 33).new (EV b) 33
  simp only [World.size_alloc] at T
  have c1 := rwrites_any a
  rw [hwa] at c1
  have C1 := Lib.hid c1; clear c1
  have c2 := about_any b a.key hb ha
  rw [hba] at c2
  have C2 := Lib.hid c2; clear c2
  have c3 := rwrites_any b
  rw [hwb] at c3
  have C3 := Lib.hid c3; clear c3
  clear hwa hba hwb
  clear ha hb
  go_enter Try.func41, Try.ntmps41
  go_wp2_with fail
  refine (Ans.call C1.out _).mono ?_
  rintro e w1 ⟨rfl, hb⟩
  replace T := T.call hb; clear hb
  have k := T.2; simp only [Knows] at k
  have q1 := row_cell k.2.1.1
  have q2 := row_cell k.1.1
  go_wp2_with fail
  refine (Ans.call C2.out _).mono ?_
  rintro e w2 ⟨rfl, hb⟩
  replace T := T.call hb; clear hb k q1 q2
  have k := T.2; simp only [Knows] at k
  have q1 := row_cell k.2.1.1
  have q2 := row_cell k.1.1
  go_wp2_with fail
  refine (Ans.call C3.out _).mono ?_
  rintro e w3 ⟨rfl, hb⟩
  replace T := T.call hb; clear hb k q1 q2
  have k := T.2; simp only [Knows] at k
  have q1 := row_cell k.2.1.1
  have q2 := row_cell k.1.1
  go_wp2_with fail
  go_ret
  exact ⟨congrArg (fun b => Ending.returned (.bool b)) E.out.symm, T.below⟩
set_option maxHeartbeats 1000000 in
theorem rclash_12 (a b : Deed) (ha : a.key.size ≤ maxLen) (hb : b.key.size ≤ maxLen) (ha0 : (a.kind == 0) = false) (hb0 : (b.kind == 0) = false) (hss : (a.ses == b.ses) = true) (hs0 : (a.ses == 0) = true) (hwa : writes a = false) (hwb : writes b = true) : Ans Try.prog 41 #[.agg (EV a), .agg (EV b)] (.bool (clashB a b)) := by
  intro w
  have hn0 : (a.ses != 0) = false := by simp [bne, hs0]
  have e : clashB a b = aboutB a b.key := by simp [clashB, touchB, ha0, hb0, hss, hs0, hwa, hwb]
  have E := Lib.hid e; clear e
  have T := ((St.start w).new (EV a) 33).new (EV b) 33
  simp only [World.size_alloc] at T
  have c1 := rwrites_any a
  rw [hwa] at c1
  have C1 := Lib.hid c1; clear c1
  have c3 := rwrites_any b
  rw [hwb] at c3
  have C3 := Lib.hid c3; clear c3
  have c4 := about_any a b.key ha hb
  have C4 := Lib.hid c4; clear c4
  clear hwa hwb
  clear ha hb
  go_enter Try.func41, Try.ntmps41
  go_wp2_with fail
  refine (Ans.call C1.out _).mono ?_
  rintro e w1 ⟨rfl, hb⟩
  replace T := T.call hb; clear hb
  have k := T.2; simp only [Knows] at k
  have q1 := row_cell k.2.1.1
  have q2 := row_cell k.1.1
  go_wp2_with fail
  refine (Ans.call C3.out _).mono ?_
  rintro e w2 ⟨rfl, hb⟩
  replace T := T.call hb; clear hb k q1 q2
  have k := T.2; simp only [Knows] at k
  have q1 := row_cell k.2.1.1
  have q2 := row_cell k.1.1
  go_wp2_with fail
  refine (Ans.call C4.out _).mono ?_
  rintro e w3 ⟨rfl, hb⟩
  replace T := T.call hb; clear hb k q1 q2
  have k := T.2; simp only [Knows] at k
  have q1 := row_cell k.2.1.1
  have q2 := row_cell k.1.1
  go_wp2_with fail
  go_ret
  exact ⟨congrArg (fun b => Ending.returned (.bool b)) E.out.symm, T.below⟩
set_option maxHeartbeats 1000000 in
theorem rclash_13 (a b : Deed) (ha : a.key.size ≤ maxLen) (hb : b.key.size ≤ maxLen) (ha0 : (a.kind == 0) = false) (hb0 : (b.kind == 0) = false) (hss : (a.ses == b.ses) = true) (hs0 : (a.ses == 0) = true) (hwa : writes a = false) (hwb : writes b = false) : Ans Try.prog 41 #[.agg (EV a), .agg (EV b)] (.bool (clashB a b)) := by
  intro w
  have hn0 : (a.ses != 0) = false := by simp [bne, hs0]
  have e : clashB a b = false := by simp [clashB, touchB, ha0, hb0, hss, hs0, hwa, hwb]
  have E := Lib.hid e; clear e
  have T := ((St.start w).new (EV a) 33).new (EV b) 33
  simp only [World.size_alloc] at T
  have c1 := rwrites_any a
  rw [hwa] at c1
  have C1 := Lib.hid c1; clear c1
  have c3 := rwrites_any b
  rw [hwb] at c3
  have C3 := Lib.hid c3; clear c3
  clear hwa hwb
  clear ha hb
  go_enter Try.func41, Try.ntmps41
  go_wp2_with fail
  refine (Ans.call C1.out _).mono ?_
  rintro e w1 ⟨rfl, hb⟩
  replace T := T.call hb; clear hb
  have k := T.2; simp only [Knows] at k
  have q1 := row_cell k.2.1.1
  have q2 := row_cell k.1.1
  go_wp2_with fail
  refine (Ans.call C3.out _).mono ?_
  rintro e w2 ⟨rfl, hb⟩
  replace T := T.call hb; clear hb k q1 q2
  have k := T.2; simp only [Knows] at k
  have q1 := row_cell k.2.1.1
  have q2 := row_cell k.1.1
  go_wp2_with fail
  go_ret
  exact ⟨congrArg (fun b => Ending.returned (.bool b)) E.out.symm, T.below⟩
theorem rclash_any (a b : Deed) (ha : a.key.size ≤ maxLen) (hb : b.key.size ≤ maxLen) : Ans Try.prog 41 #[.agg (EV a), .agg (EV b)] (.bool (clashB a b)) := by
  cases h1 : (a.kind == 0)
  · cases h2 : (b.kind == 0)
    · cases h4 : (a.ses == b.ses)
      · cases h5 : writes a
        · cases h7 : writes b
          · exact rclash_8 a b ha hb h1 h2 h4 h5 h7
          · exact rclash_7 a b ha hb h1 h2 h4 h5 h7
        · cases h6 : aboutB b a.key
          · cases h7 : writes b
            · exact rclash_6 a b ha hb h1 h2 h4 h5 h6 h7
            · exact rclash_5 a b ha hb h1 h2 h4 h5 h6 h7
          · exact rclash_4 a b ha hb h1 h2 h4 h5 h6
      · cases h3 : (a.ses == 0)
        · exact rclash_3 a b ha hb h1 h2 h4 h3
        · cases h5 : writes a
          · cases h7 : writes b
            · exact rclash_13 a b ha hb h1 h2 h4 h3 h5 h7
            · exact rclash_12 a b ha hb h1 h2 h4 h3 h5 h7
          · cases h6 : aboutB b a.key
            · cases h7 : writes b
              · exact rclash_11 a b ha hb h1 h2 h4 h3 h5 h6 h7
              · exact rclash_10 a b ha hb h1 h2 h4 h3 h5 h6 h7
            · exact rclash_9 a b ha hb h1 h2 h4 h3 h5 h6
    · exact rclash_2 a b ha hb h1 h2
  · exact rclash_1 a b ha hb h1
end Go.Proofs.Ytpganpiidgkofaa
/- Layer 24: of all that clash one waits for the other one. -/
namespace Go.Proofs.Ytpganpiidgkofaa
open Go.RowKit
set_option linter.unusedVariables false
attribute [local go_sem] row_alloc row_drew row_drewN row_ext row_setCell row_setRow size_ext setRow_alloc setRow_drew loadOf storeOf piece_lit loadVal_at storeVal_at allOne_lit buildOf buildRes_some
attribute [local go_sem high] cell_alloc frozen_alloc setCell_alloc cell_ext frozen_ext cell_setRow frozen_setRow
attribute [local go_sem ↓] TDeed_ld0 TDeed_st0 TDeed_fd0 TDeed_bd0
attribute [local go_sem] TDeed_size TDeed_one TDeed_piece TDeed_c0 TDeed_c1 TDeed_c2 TDeed_c3 TDeed_c4 TDeed_c5 TDeed_set_kind TDeed_set_key TDeed_set_val TDeed_set_ver TDeed_set_ses TDeed_set_num TDeed_ld TDeed_st TDeed_f_kind TDeed_f_key TDeed_f_val TDeed_f_ver TDeed_f_ses TDeed_f_num TDeed_bd TDeed_fl TDeed_fl_kind TDeed_fl_key TDeed_fl_val TDeed_fl_ver TDeed_fl_ses TDeed_fl_num
attribute [local go_sem high] TDeed_eql TDeed_neq
attribute [local go_sem ↓] index_deps0 load_deps0 store_deps0
attribute [local go_sem] DV_piece DV_size DV_one index_deps load_deps store_deps
attribute [local go_sem high] TDeps_eql TDeps_neq
attribute [local go_sem ↓] TCall_ld0 TCall_st0 TCall_fd0 TCall_bd0
attribute [local go_sem] TCall_size TCall_one TCall_piece TCall_c0 TCall_c1 TCall_c2 TCall_c3 TCall_c4 TCall_c5 TCall_c6 TCall_c7 TCall_c8 TCall_c9 TCall_c10 TCall_c11 TCall_c12 TCall_c13 TCall_p_deed TCall_put_deed TCall_p_deps TCall_put_deps TCall_set_seq TCall_ld TCall_st TCall_f_deed TCall_f_deps TCall_f_seq TCall_bd TCall_fl TCall_fl_deed TCall_fl_deps TCall_fl_seq
attribute [local go_sem high] TCall_eql TCall_neq
attribute [local go_sem ↓] TItem_ld0 TItem_st0 TItem_fd0 TItem_bd0
attribute [local go_sem] TItem_size TItem_one TItem_piece TItem_c0 TItem_c1 TItem_set_rep TItem_set_num TItem_ld TItem_st TItem_f_rep TItem_f_num TItem_bd TItem_fl TItem_fl_rep TItem_fl_num
attribute [local go_sem high] TItem_eql TItem_neq
attribute [local go_sem ↓] TFinding_ld0 TFinding_st0 TFinding_fd0 TFinding_bd0
attribute [local go_sem] TFinding_size TFinding_one TFinding_piece TFinding_c0 TFinding_c1 TFinding_c2 TFinding_c3 TFinding_set_kind TFinding_set_rep TFinding_p_item TFinding_put_item TFinding_ld TFinding_st TFinding_f_kind TFinding_f_rep TFinding_f_item TFinding_bd TFinding_fl TFinding_fl_kind TFinding_fl_rep TFinding_fl_item
attribute [local go_sem high] TFinding_eql TFinding_neq
attribute [local go_sem] cellsR_0 cellsR_1 cellsR_2 cellsR_3
def callOf (f : Item → Option Call) (x : Item) : Call := match f x with | none => noCall | some c => c
def tieB (f : Item → Option Call) (x y : Item) : Bool := clashB (callOf f x).deed (callOf f y).deed && !hasD (callOf f x).deps y.rep y.num && !hasD (callOf f y).deps x.rep x.num
def tieS (f : Item → Option Call) (x : Item) (s : Rep) (y : Item) : Rep := if tieB f x y = true then tellM s 5 y.rep y else s
def tieRow (f : Item → Option Call) (o : List Item) (s : Rep) (k : Nat) : Rep := match o[k]? with | none => s | some x => (o.take k).foldl (tieS f x) s
def sameRr (a b : Rep) : Prop := a.n = b.n ∧ a.order = b.order ∧ a.calls = b.calls ∧ a.cnt = b.cnt
def tiesM (s : Rep) : Rep := (List.range s.order.length).foldl (tieRow s.calls s.order) s
theorem lookCall (s : Rep) (m : Nat) {w W : World} {F : Nat → Prop} {R : List Res} (T : Sts w F W (callsR s m :: R)) (x : Item) (hx : InI x) :
    (Instr.lookup 170 (.map (some m)) (.agg (IV x)) false).run Try.prog W = .ok (.agg (CV (callOf s.calls x))) W := by
  have h := T.map.look1 itemOk Try.underlying170 zeroC x hx
  rw [h]
  unfold callOf
  cases s.calls x <;> rfl
theorem tie_len (f : Item → Option Call) (x : Item) : ∀ (l : List Item) (s : Rep), (l.foldl (tieS f x) s).list.length ≤ s.list.length + l.length
  | [], s => by simp
  | y :: l, s => by
    rw [List.foldl_cons]
    refine Nat.le_trans (tie_len f x l _) ?_
    unfold tieS
    split
    · show (s.list ++ _).length + _ ≤ _
      rw [List.length_append]; simp; omega
    · simp
theorem call_key {f : Item → Option Call} (hk : ∀ x c, f x = some c → c.deed.key.size ≤ 1000) (x : Item) : (callOf f x).deed.key.size ≤ maxLen := by
  unfold callOf
  split
  · unfold maxLen; decide
  · rename_i c hc
    have := hk x c hc
    unfold maxLen; omega
set_option maxHeartbeats 8000000 in
set_option maxRecDepth 10000 in
theorem tiesT (r : Nat) (s : Rep) (w W : World) (R : List Res) (hs : ∀ x ∈ s.order, InI x) (hk : ∀ x c, s.calls x = some c → c.deed.key.size ≤ 1000) (hm : s.list.length ≤ 1000) (ho : s.order.length ≤ 400)
    (T : Sts w (fun _ => False) W (repR r s :: R)) :
    Calls Try.prog 104 #[.pointer (some ⟨r, 0, none⟩)] W fun e W' => e = .returned (.tuple #[]) ∧ Sts w (fun _ => False) W' (repR r (tiesM s) :: R) := by
  obtain ⟨v2, m, T⟩ := T.headOpen
  obtain ⟨A, c, rfl, -, hlc, hA⟩ := vec_rows TItem_size T.drop (by omega) (by omega)
  obtain ⟨v1, TO⟩ := T.open
  have TO := TO.split
  have hcr := row_cell TO.row; have hlr := row_lt TO.row
  go_enter Try.func104, Try.ntmps104
  go_wp2_with fail
  clear TO hcr hlr
  go_loopw [13] (fun i wr => ∃ (k : Nat) (s0 : Rep), k ≤ s.order.length ∧ i = .int .i64 k ∧ s0 = (List.range k).foldl (tieRow s.calls s.order) s ∧ sameRr s0 s ∧ s0.list.length ≤ 1000 + k * 400 ∧ Sts w (fun _ => False) wr (headR r s0 (.slice A s.order.length c) m :: orderR s (.slice A s.order.length c) :: callsR s m :: R)) (fun i _ => s.order.length - (intOf i).toNat)
  case atStart => exact ⟨0, s, by omega, rfl, rfl, ⟨rfl, rfl, rfl, rfl⟩, by omega, T⟩
  case round =>
    clear T
    obtain ⟨k, s0, hk0, rfl, hq, hsn, hm0, T⟩ := hrel
    by_cases hkl : k < s.order.length
    · obtain ⟨A', c', hv, hrow, -, -⟩ := vec_rows TItem_size T.drop (by omega) (by omega)
      obtain ⟨rfl, -, rfl⟩ := Value.slice.inj hv
      cases A with
      | none => have := hrow.nil rfl; rw [this] at hkl; simp at hkl
      | some a =>
        obtain ⟨g, rfl⟩ := hA a rfl
        have hld := hrow.load (P := Try.prog) (T := 42) TItem_size TItem_und rfl (by kernel_rfl) (Below.refl _ _) rfl hkl
        have hi := hs s.order[k] (List.getElem_mem hkl)
        rw [add_none, Nat.zero_add] at hld
        have hox : s.order[k]? = some s.order[k] := List.getElem?_eq_getElem hkl
        generalize s.order[k] = x at *
        have T := (T.new (IV x) 42).swap
        obtain ⟨v1', TO⟩ := T.open
        have TO := TO.split
        have hcr := row_cell TO.row; have hlr := row_lt TO.row
        generalize hp : wr.heap.size = p at *
        go_upto_region 4 with fail
        clear TO hcr hlr hld
        go_loopw [25] (fun i wi => ∃ (j : Nat) (s1 : Rep), j ≤ k ∧ i = .int .i64 j ∧ s1 = (s.order.take j).foldl (tieS s.calls x) s0 ∧ sameRr s1 s ∧ s1.list.length ≤ 1000 + k * 400 + j ∧ Sts w (fun _ => False) wi (headR r s1 (.slice (some ⟨g, 0, none⟩) s.order.length c) m :: rowR p (IV x) :: orderR s (.slice (some ⟨g, 0, none⟩) s.order.length c) :: callsR s m :: R)) (fun i _ => k - (intOf i).toNat)
        case atStart => exact ⟨0, s0, by omega, rfl, rfl, hsn, by omega, T⟩
        case round =>
          clear T
          obtain ⟨j, s1, hj0, rfl, hq1, hsn1, hm1, T⟩ := hrel
          by_cases hjk : j < k
          · have hjl : j < s.order.length := by omega
            obtain ⟨A', c', hv, hrow, -, -⟩ := vec_rows TItem_size T.rot2 (by omega) (by omega)
            obtain ⟨rfl, -, rfl⟩ := Value.slice.inj hv
            have hld := hrow.load (P := Try.prog) (T := 42) TItem_size TItem_und rfl (by kernel_rfl) (Below.refl _ _) rfl hjl
            have hiy := hs s.order[j] (List.getElem_mem hjl)
            rw [add_none, Nat.zero_add] at hld
            have hoy : s.order[j]? = some s.order[j] := List.getElem?_eq_getElem hjl
            generalize s.order[j] = y at *
            have T := (T.new (IV y) 42).swap
            -- rows: head, y, x, order, calls
            generalize hpy : wr.heap.size = py at *
            go_upto_region 6 with fail
            have HQ1 := Lib.hid hq1
            clear hrow hld hq1 hq
            generalize wr.alloc _ = w5 at *
            obtain ⟨v1', TO⟩ := T.open
            have TO := TO.split
            have hcr := row_cell TO.row; have hlr := row_lt TO.row
            have hrx := T.row2; have hry := T.row1; have hlx := row_lt hrx; have hly := row_lt hry
            have hka : (callOf s.calls x).deed.key.size ≤ maxLen := call_key hk x
            have hkb : (callOf s.calls y).deed.key.size ≤ maxLen := call_key hk y
            have ht : tieB s.calls x y = (clashB (callOf s.calls x).deed (callOf s.calls y).deed && !hasD (callOf s.calls x).deps y.rep y.num && !hasD (callOf s.calls y).deps x.rep x.num) := rfl
            have cc := clash_any _ _ hka hkb
            have c1 := has_any (callOf s.calls x).deps y.rep y.num
            have c2 := has_any (callOf s.calls y).deps x.rep x.num
            have TA := ((T.new (CV (callOf s.calls x)) 37).new (CV (callOf s.calls y)) 37).swap.drew
            have TB := ((T.new (CV (callOf s.calls y)) 37).new (CV (callOf s.calls x)) 37).drew
            simp only [World.size_alloc] at TA TB
            have TA := Lib.hid TA; have TB := Lib.hid TB; have HC := Lib.hid cc; have H1 := Lib.hid c1; have H2 := Lib.hid c2; have HT := Lib.hid ht
            clear cc c1 c2 ht hka hkb
            go_cut [5, 6, 7] (fun u5 u6 u7 wx => u5 = .pointer (some ⟨py, 0, none⟩) ∧ ∃ p6 p7, u6 = .pointer (some ⟨p6, 0, none⟩) ∧ u7 = .pointer (some ⟨p7, 0, none⟩) ∧ Sts w (fun _ => False) wx (rowR p6 (CV (callOf s.calls x)) :: rowR p7 (CV (callOf s.calls y)) :: headR r s1 (.slice (some ⟨g, 0, none⟩) s.order.length c) m :: rowR py (IV y) :: rowR p (IV x) :: orderR s (.slice (some ⟨g, 0, none⟩) s.order.length c) :: callsR s m :: R))
            case first =>
              have lk : ∀ W', Sts w (fun _ => False) W' (callsR s m :: R) → ∀ z, InI z → (Instr.lookup 170 (.map (some m)) (.agg (IV z)) false).run Try.prog W' = .ok (.agg (CV (callOf s.calls z))) W' := fun W' T z hz => lookCall s m T z hz
              have TC := T.drop.drop.drop.drop
              obtain ⟨L0, hL0⟩ : ∃ L0 : Array Value, L0 = #[.int .i64 0, .string { data := #[] }, .string { data := #[] }, .int .i64 0, .int .i64 0, .int .i64 0, .int .i64 0, .int .i64 0, .int .i64 0, .int .i64 0, .int .i64 0, .int .i64 0, .int .i64 0, .int .i64 0] := ⟨_, rfl⟩
              have l1 := lk _ TC.drew x hi; have l2 := lk _ TC.drew y hiy
              have lk1 := fun C z hz => lk _ (TC.keep (.cells C 37)).drew z hz
              have lk2 := fun C D z hz => lk _ ((TC.keep (.cells C 37)).keep (.cells D 37)).drew z hz
              have hCa : ∃ Ca, Ca = CV (callOf s.calls x) := ⟨_, rfl⟩
              obtain ⟨Ca, hCa⟩ := hCa
              obtain ⟨Cb, hCb⟩ : ∃ Cb, Cb = CV (callOf s.calls y) := ⟨_, rfl⟩
              have k0 := lk1 L0 x hi
              have k1 := lk1 Cb x hi
              have k2 := lk2 L0 L0 x hi
              have k3 := lk2 L0 Cb x hi
              have k4 := lk2 Cb L0 x hi
              have k5 := lk1 L0 y hiy
              have k6 := lk1 Ca y hiy
              have k7 := lk2 L0 L0 y hiy
              have k8 := lk2 L0 Ca y hiy
              have k9 := lk2 Ca L0 y hiy
              subst hCa; subst hCb
              clear lk1 lk2
              subst hL0
              clear lk TC TO
              generalize callOf s.calls x = a at *
              generalize callOf s.calls y = b at *
              go_region
              all_goals
                simp only [Exit.then]
                go_step
                go_meet
                case rel => first | exact ⟨rfl, _, _, rfl, rfl, TA.out⟩ | exact ⟨rfl, _, _, rfl, rfl, TB.out⟩
            case rest =>
              obtain ⟨rfl, p6, p7, rfl, rfl, TN⟩ := hcut
              generalize callOf s.calls x = a at *
              generalize callOf s.calls y = b at *
              clear TA TB
              have T := TN; clear TN
              have h6 := T.row; have h7 := T.row1; have h8 := T.row3; have h9 := T.row4; have g6 := row_cell h6; have g7 := row_cell h7; have g8 := row_cell h8
              go_wp2_with fail
              refine (Ans.at HC.out T).mono ?_; clear T h6 h7 h8 h9 g6 g7 g8 HC; rintro e2 w7 ⟨rfl, T⟩
              have h6 := T.row; have h7 := T.row1; have h8 := T.row3; have h9 := T.row4; have g6 := row_cell h6; have g7 := row_cell h7; have g8 := row_cell h8
              cases hcb : clashB a.deed b.deed
              case false =>
                have HQ2 : tieS s.calls x s1 y = s1 := by unfold tieS; rw [HT.out]; simp [hcb]
                have HQ3 : (s.order.take (j + 1)).foldl (tieS s.calls x) s0 = s1 := by rw [List.take_add_one, hoy, List.foldl_append]; show tieS s.calls x _ y = _; rw [← HQ1.out]; exact HQ2
                have HQ := Lib.hid HQ3; clear HQ2 HQ3
                go_wp2
                go_roundw
                case rel => exact ⟨j + 1, s1, by omega, by go_num, HQ.out.symm, hsn1, by omega, T.drop.drop.swap.drop⟩
                case measure => simp [intOf]; omega
              case true =>
                go_wp2_with fail
                refine (Ans.at H1.out T).mono ?_; clear T h6 h7 h8 h9 g6 g7 g8 H1; rintro e2 w7 ⟨rfl, T⟩
                have h6 := T.row; have h7 := T.row1; have h8 := T.row3; have h9 := T.row4; have g6 := row_cell h6; have g7 := row_cell h7; have g8 := row_cell h8
                cases hh1 : hasD a.deps y.rep y.num
                case true =>
                  have HQ2 : tieS s.calls x s1 y = s1 := by unfold tieS; rw [HT.out]; simp [hcb, hh1]
                  have HQ3 : (s.order.take (j + 1)).foldl (tieS s.calls x) s0 = s1 := by rw [List.take_add_one, hoy, List.foldl_append]; show tieS s.calls x _ y = _; rw [← HQ1.out]; exact HQ2
                  have HQ := Lib.hid HQ3; clear HQ2 HQ3
                  go_wp2
                  go_roundw
                  case rel => exact ⟨j + 1, s1, by omega, by go_num, HQ.out.symm, hsn1, by omega, T.drop.drop.swap.drop⟩
                  case measure => simp [intOf]; omega
                case false =>
                  go_wp2_with fail
                  refine (Ans.at H2.out T).mono ?_; clear T h6 h7 h8 h9 g6 g7 g8 H2; rintro e2 w7 ⟨rfl, T⟩
                  have h6 := T.row; have h7 := T.row1; have h8 := T.row3; have h9 := T.row4; have g6 := row_cell h6; have g7 := row_cell h7; have g8 := row_cell h8
                  cases hh2 : hasD b.deps x.rep x.num
                  case true =>
                    have HQ2 : tieS s.calls x s1 y = s1 := by unfold tieS; rw [HT.out]; simp [hcb, hh1, hh2]
                    have HQ3 : (s.order.take (j + 1)).foldl (tieS s.calls x) s0 = s1 := by rw [List.take_add_one, hoy, List.foldl_append]; show tieS s.calls x _ y = _; rw [← HQ1.out]; exact HQ2
                    have HQ := Lib.hid HQ3; clear HQ2 HQ3
                    go_wp2
                    go_roundw
                    case rel => exact ⟨j + 1, s1, by omega, by go_num, HQ.out.symm, hsn1, by omega, T.drop.drop.swap.drop⟩
                    case measure => simp [intOf]; omega
                  case false =>
                    have HQ2 : tieS s.calls x s1 y = tellM s1 5 y.rep y := by unfold tieS; rw [HT.out]; simp [hcb, hh1, hh2]
                    have HQ3 : (s.order.take (j + 1)).foldl (tieS s.calls x) s0 = tellM s1 5 y.rep y := by rw [List.take_add_one, hoy, List.foldl_append]; show tieS s.calls x _ y = _; rw [← HQ1.out]; exact HQ2
                    have HQ := Lib.hid HQ3; clear HQ2 HQ3
                    go_wp2_with fail
                    refine (Does.at1 (tellH r s1 (.slice (some ⟨g, 0, none⟩) s.order.length c) m 5 y.rep y (by omega)) T.rot2).mono ?_; clear T h6 h7 h8 h9 g6 g7 g8; rintro e3 w8 ⟨rfl, T⟩
                    go_wp2
                    go_roundw
                    case rel => exact ⟨j + 1, tellM s1 5 y.rep y, by omega, by go_num, HQ.out.symm, hsn1, by show (s1.list ++ _).length ≤ _; rw [List.length_append]; simp; omega, T.swap.drop.swap.drop.swap.drop⟩
                    case measure => simp [intOf]; omega
          · obtain rfl : j = k := by omega
            have hq3 : s1 = (List.range (j + 1)).foldl (tieRow s.calls s.order) s := by
              rw [List.range_succ, List.foldl_append, ← hq]
              show s1 = tieRow s.calls s.order s0 j
              unfold tieRow
              rw [hox]
              exact hq1
            have HQ := Lib.hid hq3; clear hq3 hq1 hq hox
            go_wp2
            go_roundw
            case rel => exact ⟨j + 1, s1, by omega, by go_num, HQ.out, hsn1, by omega, T.swap.drop⟩
            case measure => simp [intOf]; omega
    · obtain rfl : k = s.order.length := by omega
      have hqq : tiesM s = s0 := hq.symm
      have HQ := Lib.hid hqq; clear hqq hq
      go_wp2
      try simp only [Exit.inBlock, Exit.then]
      first | refine bodyPost_ret (results_none rfl _ _ _) rfl ?_ | refine bodyPost_end (results_none rfl _ _ _) rfl ?_
      refine ⟨rfl, ?_⟩
      rw [HQ.out]
      refine Sts.headShut (v2 := .slice A s.order.length c) (m := m) ?_
      obtain ⟨e1, e2, e3, e4⟩ := hsn
      unfold orderR callsR
      rw [e2, e3, e4]
      exact T
end Go.Proofs.Ytpganpiidgkofaa
