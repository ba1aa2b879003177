import Derived.Test.YtnjnafmonijlnaaDeedF
namespace Go.Proofs.Ytnjnafmonijlnaa
open Go.RowKit
set_option linter.unusedVariables false
attribute [local go_sem] row_alloc row_drew row_drewN row_ext row_setCell row_setRow size_ext setRow_alloc setRow_drew loadOf storeOf piece_lit loadVal_at storeVal_at allOne_lit EV_size EV_one EV_piece EV_0 EV_1 EV_2 EV_3 EV_4 EV_5
attribute [local go_sem high] cell_alloc frozen_alloc setCell_alloc cell_ext frozen_ext
attribute [local go_sem ↓] load_deed0 store_deed0
attribute [local go_sem] load_deed store_deed

attribute [local go_sem high] run_eql_deed
attribute [local go_sem] zero_deed



theorem calm_no {a b : Deed} (h1 : writes a = false) (h2 : writes b = false) (h3 : (a.ses != b.ses) = true) : clashB a b = false := by
  have e : (a.ses == b.ses) = false := by simpa [bne] using h3
  simp [clashB, touchB, h1, h2, e]
set_option maxHeartbeats 1000000 in
theorem lclash_1 (a b : Deed) (hka : a.key.size ≤ 140737488351232) (hva : a.val.size ≤ 140737488351232) (hkb : b.key.size ≤ 140737488351232) (hvb : b.val.size ≤ 140737488351232) (hga : greatB a = true) : Ans Try.prog 9 #[.agg (EV a), .agg (EV b)] (.bool true) := by
  intro w
  have ma : a.key.size ≤ maxLen := by unfold maxLen; omega
  have mb : b.key.size ≤ maxLen := by unfold maxLen; omega
  have T := ((St.start w).new (EV a) 41).new (EV b) 41
  simp only [World.size_alloc] at T
  have c0 := alive4
  have C0 := Lib.hid c0; clear c0
  have c1 := great_any a hka hva
  rw [hga] at c1
  have C1 := Lib.hid c1; clear c1
  clear hka hva hkb hvb ma mb
  go_enter Try.func9, Try.ntmps9
  go_wp2_with fail
  refine (Ans.call C0.out _).mono ?_
  rintro e w1 ⟨rfl, hb⟩
  replace T := T.call hb; clear hb
  have k := T.2; simp only [Knows] at k
  have q1 := row_cell k.2.1.1
  have q2 := row_cell k.1.1
  go_wp2_with fail
  refine (Ans.call C1.out _).mono ?_
  rintro e w2 ⟨rfl, hb⟩
  replace T := T.call hb; clear hb k q1 q2
  have k := T.2; simp only [Knows] at k
  have q1 := row_cell k.2.1.1
  have q2 := row_cell k.1.1
  go_wp2_with fail
  go_ret
  exact ⟨rfl, T.below⟩
set_option maxHeartbeats 1000000 in
theorem lclash_2 (a b : Deed) (hka : a.key.size ≤ 140737488351232) (hva : a.val.size ≤ 140737488351232) (hkb : b.key.size ≤ 140737488351232) (hvb : b.val.size ≤ 140737488351232) (hga : greatB a = false) (hgb : greatB b = true) : Ans Try.prog 9 #[.agg (EV a), .agg (EV b)] (.bool true) := by
  intro w
  have ma : a.key.size ≤ maxLen := by unfold maxLen; omega
  have mb : b.key.size ≤ maxLen := by unfold maxLen; omega
  have T := ((St.start w).new (EV a) 41).new (EV b) 41
  simp only [World.size_alloc] at T
  have c0 := alive4
  have C0 := Lib.hid c0; clear c0
  have c1 := great_any a hka hva
  rw [hga] at c1
  have C1 := Lib.hid c1; clear c1
  have c2 := great_any b hkb hvb
  rw [hgb] at c2
  have C2 := Lib.hid c2; clear c2
  clear hka hva hkb hvb ma mb
  go_enter Try.func9, Try.ntmps9
  go_wp2_with fail
  refine (Ans.call C0.out _).mono ?_
  rintro e w1 ⟨rfl, hb⟩
  replace T := T.call hb; clear hb
  have k := T.2; simp only [Knows] at k
  have q1 := row_cell k.2.1.1
  have q2 := row_cell k.1.1
  go_wp2_with fail
  refine (Ans.call C1.out _).mono ?_
  rintro e w2 ⟨rfl, hb⟩
  replace T := T.call hb; clear hb k q1 q2
  have k := T.2; simp only [Knows] at k
  have q1 := row_cell k.2.1.1
  have q2 := row_cell k.1.1
  go_wp2_with fail
  refine (Ans.call C2.out _).mono ?_
  rintro e w3 ⟨rfl, hb⟩
  replace T := T.call hb; clear hb k q1 q2
  have k := T.2; simp only [Knows] at k
  have q1 := row_cell k.2.1.1
  have q2 := row_cell k.1.1
  go_wp2_with fail
  go_ret
  exact ⟨rfl, T.below⟩
set_option maxHeartbeats 1000000 in
theorem lclash_3 (a b : Deed) (hka : a.key.size ≤ 140737488351232) (hva : a.val.size ≤ 140737488351232) (hkb : b.key.size ≤ 140737488351232) (hvb : b.val.size ≤ 140737488351232) (hga : greatB a = false) (hgb : greatB b = false) (hwa : writes a = true) : Ans Try.prog 9 #[.agg (EV a), .agg (EV b)] (.bool true) := by
  intro w
  have ma : a.key.size ≤ maxLen := by unfold maxLen; omega
  have mb : b.key.size ≤ maxLen := by unfold maxLen; omega
  obtain ⟨c, hc⟩ : ∃ c, clashB a b = c := ⟨_, rfl⟩
  have hcc : (c == c) = true := by simp
  have T := ((St.start w).new (EV a) 41).new (EV b) 41
  simp only [World.size_alloc] at T
  have c0 := alive4
  have C0 := Lib.hid c0; clear c0
  have c1 := great_any a hka hva
  rw [hga] at c1
  have C1 := Lib.hid c1; clear c1
  have c2 := great_any b hkb hvb
  rw [hgb] at c2
  have C2 := Lib.hid c2; clear c2
  have c3 := clash_any a b ma mb
  rw [hc] at c3
  have C3 := Lib.hid c3; clear c3
  have c4 := rwrites_any a
  rw [hwa] at c4
  have C4 := Lib.hid c4; clear c4
  have c6 := rclash_any a b ma mb
  rw [hc] at c6
  have C6 := Lib.hid c6; clear c6
  have c7 := clash_any b a mb ma
  rw [clashB_comm] at c7
  rw [hc] at c7
  have C7 := Lib.hid c7; clear c7
  clear hc
  clear hka hva hkb hvb ma mb
  go_enter Try.func9, Try.ntmps9
  go_wp2_with fail
  refine (Ans.call C0.out _).mono ?_
  rintro e w1 ⟨rfl, hb⟩
  replace T := T.call hb; clear hb
  have k := T.2; simp only [Knows] at k
  have q1 := row_cell k.2.1.1
  have q2 := row_cell k.1.1
  go_wp2_with fail
  refine (Ans.call C1.out _).mono ?_
  rintro e w2 ⟨rfl, hb⟩
  replace T := T.call hb; clear hb k q1 q2
  have k := T.2; simp only [Knows] at k
  have q1 := row_cell k.2.1.1
  have q2 := row_cell k.1.1
  go_wp2_with fail
  refine (Ans.call C2.out _).mono ?_
  rintro e w3 ⟨rfl, hb⟩
  replace T := T.call hb; clear hb k q1 q2
  have k := T.2; simp only [Knows] at k
  have q1 := row_cell k.2.1.1
  have q2 := row_cell k.1.1
  go_wp2_with fail
  refine (Ans.call C3.out _).mono ?_
  rintro e w4 ⟨rfl, hb⟩
  replace T := T.call hb; clear hb k q1 q2
  have k := T.2; simp only [Knows] at k
  have q1 := row_cell k.2.1.1
  have q2 := row_cell k.1.1
  go_wp2_with fail
  refine (Ans.call C4.out _).mono ?_
  rintro e w5 ⟨rfl, hb⟩
  replace T := T.call hb; clear hb k q1 q2
  have k := T.2; simp only [Knows] at k
  have q1 := row_cell k.2.1.1
  have q2 := row_cell k.1.1
  go_wp2_with fail
  refine (Ans.call C6.out _).mono ?_
  rintro e w6 ⟨rfl, hb⟩
  replace T := T.call hb; clear hb k q1 q2
  have k := T.2; simp only [Knows] at k
  have q1 := row_cell k.2.1.1
  have q2 := row_cell k.1.1
  go_wp2_with fail
  refine (Ans.call C7.out _).mono ?_
  rintro e w7 ⟨rfl, hb⟩
  replace T := T.call hb; clear hb k q1 q2
  have k := T.2; simp only [Knows] at k
  have q1 := row_cell k.2.1.1
  have q2 := row_cell k.1.1
  go_wp2_with fail
  go_ret
  exact ⟨rfl, T.below⟩
set_option maxHeartbeats 1000000 in
theorem lclash_4 (a b : Deed) (hka : a.key.size ≤ 140737488351232) (hva : a.val.size ≤ 140737488351232) (hkb : b.key.size ≤ 140737488351232) (hvb : b.val.size ≤ 140737488351232) (hga : greatB a = false) (hgb : greatB b = false) (hwa : writes a = false) (hwb : writes b = true) : Ans Try.prog 9 #[.agg (EV a), .agg (EV b)] (.bool true) := by
  intro w
  have ma : a.key.size ≤ maxLen := by unfold maxLen; omega
  have mb : b.key.size ≤ maxLen := by unfold maxLen; omega
  obtain ⟨c, hc⟩ : ∃ c, clashB a b = c := ⟨_, rfl⟩
  have hcc : (c == c) = true := by simp
  have T := ((St.start w).new (EV a) 41).new (EV b) 41
  simp only [World.size_alloc] at T
  have c0 := alive4
  have C0 := Lib.hid c0; clear c0
  have c1 := great_any a hka hva
  rw [hga] at c1
  have C1 := Lib.hid c1; clear c1
  have c2 := great_any b hkb hvb
  rw [hgb] at c2
  have C2 := Lib.hid c2; clear c2
  have c3 := clash_any a b ma mb
  rw [hc] at c3
  have C3 := Lib.hid c3; clear c3
  have c4 := rwrites_any a
  rw [hwa] at c4
  have C4 := Lib.hid c4; clear c4
  have c6 := rclash_any a b ma mb
  rw [hc] at c6
  have C6 := Lib.hid c6; clear c6
  have c7 := clash_any b a mb ma
  rw [clashB_comm] at c7
  rw [hc] at c7
  have C7 := Lib.hid c7; clear c7
  have c5 := rwrites_any b
  rw [hwb] at c5
  have C5 := Lib.hid c5; clear c5
  clear hc
  clear hka hva hkb hvb ma mb
  go_enter Try.func9, Try.ntmps9
  go_wp2_with fail
  refine (Ans.call C0.out _).mono ?_
  rintro e w1 ⟨rfl, hb⟩
  replace T := T.call hb; clear hb
  have k := T.2; simp only [Knows] at k
  have q1 := row_cell k.2.1.1
  have q2 := row_cell k.1.1
  go_wp2_with fail
  refine (Ans.call C1.out _).mono ?_
  rintro e w2 ⟨rfl, hb⟩
  replace T := T.call hb; clear hb k q1 q2
  have k := T.2; simp only [Knows] at k
  have q1 := row_cell k.2.1.1
  have q2 := row_cell k.1.1
  go_wp2_with fail
  refine (Ans.call C2.out _).mono ?_
  rintro e w3 ⟨rfl, hb⟩
  replace T := T.call hb; clear hb k q1 q2
  have k := T.2; simp only [Knows] at k
  have q1 := row_cell k.2.1.1
  have q2 := row_cell k.1.1
  go_wp2_with fail
  refine (Ans.call C3.out _).mono ?_
  rintro e w4 ⟨rfl, hb⟩
  replace T := T.call hb; clear hb k q1 q2
  have k := T.2; simp only [Knows] at k
  have q1 := row_cell k.2.1.1
  have q2 := row_cell k.1.1
  go_wp2_with fail
  refine (Ans.call C4.out _).mono ?_
  rintro e w5 ⟨rfl, hb⟩
  replace T := T.call hb; clear hb k q1 q2
  have k := T.2; simp only [Knows] at k
  have q1 := row_cell k.2.1.1
  have q2 := row_cell k.1.1
  go_wp2_with fail
  refine (Ans.call C5.out _).mono ?_
  rintro e w6 ⟨rfl, hb⟩
  replace T := T.call hb; clear hb k q1 q2
  have k := T.2; simp only [Knows] at k
  have q1 := row_cell k.2.1.1
  have q2 := row_cell k.1.1
  go_wp2_with fail
  refine (Ans.call C6.out _).mono ?_
  rintro e w7 ⟨rfl, hb⟩
  replace T := T.call hb; clear hb k q1 q2
  have k := T.2; simp only [Knows] at k
  have q1 := row_cell k.2.1.1
  have q2 := row_cell k.1.1
  go_wp2_with fail
  refine (Ans.call C7.out _).mono ?_
  rintro e w8 ⟨rfl, hb⟩
  replace T := T.call hb; clear hb k q1 q2
  have k := T.2; simp only [Knows] at k
  have q1 := row_cell k.2.1.1
  have q2 := row_cell k.1.1
  go_wp2_with fail
  go_ret
  exact ⟨rfl, T.below⟩
set_option maxHeartbeats 1000000 in
theorem lclash_5 (a b : Deed) (hka : a.key.size ≤ 140737488351232) (hva : a.val.size ≤ 140737488351232) (hkb : b.key.size ≤ 140737488351232) (hvb : b.val.size ≤ 140737488351232) (hga : greatB a = false) (hgb : greatB b = false) (hwa : writes a = false) (hwb : writes b = false) (hs : (a.ses != b.ses) = false) : Ans Try.prog 9 #[.agg (EV a), .agg (EV b)] (.bool true) := by
  intro w
  have ma : a.key.size ≤ maxLen := by unfold maxLen; omega
  have mb : b.key.size ≤ maxLen := by unfold maxLen; omega
  obtain ⟨c, hc⟩ : ∃ c, clashB a b = c := ⟨_, rfl⟩
  have hcc : (c == c) = true := by simp
  have T := ((St.start w).new (EV a) 41).new (EV b) 41
  simp only [World.size_alloc] at T
  have c0 := alive4
  have C0 := Lib.hid c0; clear c0
  have c1 := great_any a hka hva
  rw [hga] at c1
  have C1 := Lib.hid c1; clear c1
  have c2 := great_any b hkb hvb
  rw [hgb] at c2
  have C2 := Lib.hid c2; clear c2
  have c3 := clash_any a b ma mb
  rw [hc] at c3
  have C3 := Lib.hid c3; clear c3
  have c4 := rwrites_any a
  rw [hwa] at c4
  have C4 := Lib.hid c4; clear c4
  have c6 := rclash_any a b ma mb
  rw [hc] at c6
  have C6 := Lib.hid c6; clear c6
  have c7 := clash_any b a mb ma
  rw [clashB_comm] at c7
  rw [hc] at c7
  have C7 := Lib.hid c7; clear c7
  have c5 := rwrites_any b
  rw [hwb] at c5
  have C5 := Lib.hid c5; clear c5
  clear hc
  clear hka hva hkb hvb ma mb
  go_enter Try.func9, Try.ntmps9
  go_wp2_with fail
  refine (Ans.call C0.out _).mono ?_
  rintro e w1 ⟨rfl, hb⟩
  replace T := T.call hb; clear hb
  have k := T.2; simp only [Knows] at k
  have q1 := row_cell k.2.1.1
  have q2 := row_cell k.1.1
  go_wp2_with fail
  refine (Ans.call C1.out _).mono ?_
  rintro e w2 ⟨rfl, hb⟩
  replace T := T.call hb; clear hb k q1 q2
  have k := T.2; simp only [Knows] at k
  have q1 := row_cell k.2.1.1
  have q2 := row_cell k.1.1
  go_wp2_with fail
  refine (Ans.call C2.out _).mono ?_
  rintro e w3 ⟨rfl, hb⟩
  replace T := T.call hb; clear hb k q1 q2
  have k := T.2; simp only [Knows] at k
  have q1 := row_cell k.2.1.1
  have q2 := row_cell k.1.1
  go_wp2_with fail
  refine (Ans.call C3.out _).mono ?_
  rintro e w4 ⟨rfl, hb⟩
  replace T := T.call hb; clear hb k q1 q2
  have k := T.2; simp only [Knows] at k
  have q1 := row_cell k.2.1.1
  have q2 := row_cell k.1.1
  go_wp2_with fail
  refine (Ans.call C4.out _).mono ?_
  rintro e w5 ⟨rfl, hb⟩
  replace T := T.call hb; clear hb k q1 q2
  have k := T.2; simp only [Knows] at k
  have q1 := row_cell k.2.1.1
  have q2 := row_cell k.1.1
  go_wp2_with fail
  refine (Ans.call C5.out _).mono ?_
  rintro e w6 ⟨rfl, hb⟩
  replace T := T.call hb; clear hb k q1 q2
  have k := T.2; simp only [Knows] at k
  have q1 := row_cell k.2.1.1
  have q2 := row_cell k.1.1
  go_wp2_with fail
  refine (Ans.call C6.out _).mono ?_
  rintro e w7 ⟨rfl, hb⟩
  replace T := T.call hb; clear hb k q1 q2
  have k := T.2; simp only [Knows] at k
  have q1 := row_cell k.2.1.1
  have q2 := row_cell k.1.1
  go_wp2_with fail
  refine (Ans.call C7.out _).mono ?_
  rintro e w8 ⟨rfl, hb⟩
  replace T := T.call hb; clear hb k q1 q2
  have k := T.2; simp only [Knows] at k
  have q1 := row_cell k.2.1.1
  have q2 := row_cell k.1.1
  go_wp2_with fail
  go_ret
  exact ⟨rfl, T.below⟩
set_option maxHeartbeats 1000000 in
theorem lclash_6 (a b : Deed) (hka : a.key.size ≤ 140737488351232) (hva : a.val.size ≤ 140737488351232) (hkb : b.key.size ≤ 140737488351232) (hvb : b.val.size ≤ 140737488351232) (hga : greatB a = false) (hgb : greatB b = false) (hwa : writes a = false) (hwb : writes b = false) (hs : (a.ses != b.ses) = true) : Ans Try.prog 9 #[.agg (EV a), .agg (EV b)] (.bool true) := by
  intro w
  have ma : a.key.size ≤ maxLen := by unfold maxLen; omega
  have mb : b.key.size ≤ maxLen := by unfold maxLen; omega
  have hc := calm_no hwa hwb hs
  have T := ((St.start w).new (EV a) 41).new (EV b) 41
  simp only [World.size_alloc] at T
  have c0 := alive4
  have C0 := Lib.hid c0; clear c0
  have c1 := great_any a hka hva
  rw [hga] at c1
  have C1 := Lib.hid c1; clear c1
  have c2 := great_any b hkb hvb
  rw [hgb] at c2
  have C2 := Lib.hid c2; clear c2
  have c3 := clash_any a b ma mb
  rw [hc] at c3
  have C3 := Lib.hid c3; clear c3
  have c4 := rwrites_any a
  rw [hwa] at c4
  have C4 := Lib.hid c4; clear c4
  have c6 := rclash_any a b ma mb
  rw [hc] at c6
  have C6 := Lib.hid c6; clear c6
  have c7 := clash_any b a mb ma
  rw [clashB_comm] at c7
  rw [hc] at c7
  have C7 := Lib.hid c7; clear c7
  have c5 := rwrites_any b
  rw [hwb] at c5
  have C5 := Lib.hid c5; clear c5
  clear hc
  clear hka hva hkb hvb ma mb
  go_enter Try.func9, Try.ntmps9
  go_wp2_with fail
  refine (Ans.call C0.out _).mono ?_
  rintro e w1 ⟨rfl, hb⟩
  replace T := T.call hb; clear hb
  have k := T.2; simp only [Knows] at k
  have q1 := row_cell k.2.1.1
  have q2 := row_cell k.1.1
  go_wp2_with fail
  refine (Ans.call C1.out _).mono ?_
  rintro e w2 ⟨rfl, hb⟩
  replace T := T.call hb; clear hb k q1 q2
  have k := T.2; simp only [Knows] at k
  have q1 := row_cell k.2.1.1
  have q2 := row_cell k.1.1
  go_wp2_with fail
  refine (Ans.call C2.out _).mono ?_
  rintro e w3 ⟨rfl, hb⟩
  replace T := T.call hb; clear hb k q1 q2
  have k := T.2; simp only [Knows] at k
  have q1 := row_cell k.2.1.1
  have q2 := row_cell k.1.1
  go_wp2_with fail
  refine (Ans.call C3.out _).mono ?_
  rintro e w4 ⟨rfl, hb⟩
  replace T := T.call hb; clear hb k q1 q2
  have k := T.2; simp only [Knows] at k
  have q1 := row_cell k.2.1.1
  have q2 := row_cell k.1.1
  go_wp2_with fail
  refine (Ans.call C4.out _).mono ?_
  rintro e w5 ⟨rfl, hb⟩
  replace T := T.call hb; clear hb k q1 q2
  have k := T.2; simp only [Knows] at k
  have q1 := row_cell k.2.1.1
  have q2 := row_cell k.1.1
  go_wp2_with fail
  refine (Ans.call C5.out _).mono ?_
  rintro e w6 ⟨rfl, hb⟩
  replace T := T.call hb; clear hb k q1 q2
  have k := T.2; simp only [Knows] at k
  have q1 := row_cell k.2.1.1
  have q2 := row_cell k.1.1
  go_wp2_with fail
  refine (Ans.call C6.out _).mono ?_
  rintro e w7 ⟨rfl, hb⟩
  replace T := T.call hb; clear hb k q1 q2
  have k := T.2; simp only [Knows] at k
  have q1 := row_cell k.2.1.1
  have q2 := row_cell k.1.1
  go_wp2_with fail
  refine (Ans.call C7.out _).mono ?_
  rintro e w8 ⟨rfl, hb⟩
  replace T := T.call hb; clear hb k q1 q2
  have k := T.2; simp only [Knows] at k
  have q1 := row_cell k.2.1.1
  have q2 := row_cell k.1.1
  go_wp2_with fail
  go_ret
  exact ⟨rfl, T.below⟩
theorem law_clash (a b : Deed) (hka : a.key.size ≤ 140737488351232) (hva : a.val.size ≤ 140737488351232) (hkb : b.key.size ≤ 140737488351232) (hvb : b.val.size ≤ 140737488351232) : Ans Try.prog 9 #[.agg (EV a), .agg (EV b)] (.bool true) := by
  cases h1 : greatB a
  · cases h2 : greatB b
    · cases h3 : writes a
      · cases h4 : writes b
        · cases h5 : (a.ses != b.ses)
          · exact lclash_5 a b hka hva hkb hvb h1 h2 h3 h4 h5
          · exact lclash_6 a b hka hva hkb hvb h1 h2 h3 h4 h5
        · exact lclash_4 a b hka hva hkb hvb h1 h2 h3 h4
      · exact lclash_3 a b hka hva hkb hvb h1 h2 h3
    · exact lclash_2 a b hka hva hkb hvb h1 h2
  · exact lclash_1 a b hka hva hkb hvb h1
end Go.Proofs.Ytnjnafmonijlnaa
