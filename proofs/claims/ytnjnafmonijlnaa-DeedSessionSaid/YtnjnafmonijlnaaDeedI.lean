import Derived.Test.YtnjnafmonijlnaaDeedH
namespace Go.Proofs.Ytnjnafmonijlnaa
open Go.RowKit
set_option linter.unusedVariables false
attribute [local go_sem] row_alloc row_drew row_drewN row_ext row_setCell row_setRow size_ext setRow_alloc setRow_drew loadOf storeOf piece_lit loadVal_at storeVal_at allOne_lit EV_size EV_one EV_piece EV_0 EV_1 EV_2 EV_3 EV_4 EV_5 EV_set_ses
attribute [local go_sem high] cell_alloc frozen_alloc setCell_alloc cell_ext frozen_ext
attribute [local go_sem ↓] load_deed0 store_deed0
attribute [local go_sem] load_deed store_deed

attribute [local go_sem high] run_eql_deed
attribute [local go_sem] zero_deed





theorem sess_yes (a b : Deed) (n : Int) (ha : (a.kind == 0) = false) (hb : (b.kind == 0) = false) (hn : (n == 0) = false) : clashB { a with ses := n } { b with ses := n } = true := by
  unfold clashB
  simp only [ha, hb, hn]
  simp
theorem sess_no (a b : Deed) (n : Int) (ha : (a.kind == 5) = false) (hb : (b.kind == 5) = false) (hk : (a.key.toList == b.key.toList) = false) (hn : (n == 0) = false) : clashB { a with ses := n } { b with ses := 0 } = false := by
  have e1 : aboutB a b.key = false := by unfold aboutB; rw [if_neg (by simpa using ha)]; exact hk
  have e2 : aboutB b a.key = false := by
    unfold aboutB; rw [if_neg (by simpa using hb)]
    rw [beq_eq_false_iff_ne] at hk ⊢
    exact fun h => hk h.symm
  unfold clashB touchB
  simp only [ses0, e1, e2, hn]
  simp
set_option maxHeartbeats 1000000 in
theorem lsess_1 (a b : Deed) (id : Int) (hka : a.key.size ≤ 140737488351232) (hva : a.val.size ≤ 140737488351232) (hkb : b.key.size ≤ 140737488351232) (hvb : b.val.size ≤ 140737488351232) (h1 : greatB a = true) : Ans Try.prog 11 #[.agg (EV a), .agg (EV b), .int .i64 id] (.bool true) := by
  intro w
  have ma : a.key.size ≤ maxLen := by unfold maxLen; omega
  have mb : b.key.size ≤ maxLen := by unfold maxLen; omega
  have T := ((St.start w).new (EV a) 41).new (EV b) 41
  simp only [World.size_alloc] at T
  have c0 := alive4
  have C0 := Lib.hid c0; clear c0
  have c1 := great_any a hka hva
  rw [h1] at c1
  have C1 := Lib.hid c1; clear c1
  clear hka hva hkb hvb ma mb
  go_enter Try.func11, Try.ntmps11
  go_wp2_with fail
  refine (Ans.call C0.out _).mono ?_
  rintro e w1 ⟨rfl, hb⟩
  replace T := T.call hb; clear hb
  have k := T.2; simp only [Knows] at k
  have q1 := row_cell k.1.1
  have q2 := row_cell k.2.1.1
  go_wp2_with fail
  refine (Ans.call C1.out _).mono ?_
  rintro e w2 ⟨rfl, hb⟩
  replace T := T.call hb; clear hb k q1 q2
  have k := T.2; simp only [Knows] at k
  have q1 := row_cell k.1.1
  have q2 := row_cell k.2.1.1
  go_wp2_with fail
  go_ret
  exact ⟨rfl, T.below⟩
set_option maxHeartbeats 1000000 in
theorem lsess_2 (a b : Deed) (id : Int) (hka : a.key.size ≤ 140737488351232) (hva : a.val.size ≤ 140737488351232) (hkb : b.key.size ≤ 140737488351232) (hvb : b.val.size ≤ 140737488351232) (h1 : greatB a = false) (h2 : greatB b = true) : Ans Try.prog 11 #[.agg (EV a), .agg (EV b), .int .i64 id] (.bool true) := by
  intro w
  have ma : a.key.size ≤ maxLen := by unfold maxLen; omega
  have mb : b.key.size ≤ maxLen := by unfold maxLen; omega
  have T := ((St.start w).new (EV a) 41).new (EV b) 41
  simp only [World.size_alloc] at T
  have c0 := alive4
  have C0 := Lib.hid c0; clear c0
  have c1 := great_any a hka hva
  rw [h1] at c1
  have C1 := Lib.hid c1; clear c1
  have c2 := great_any b hkb hvb
  rw [h2] at c2
  have C2 := Lib.hid c2; clear c2
  clear hka hva hkb hvb ma mb
  go_enter Try.func11, Try.ntmps11
  go_wp2_with fail
  refine (Ans.call C0.out _).mono ?_
  rintro e w1 ⟨rfl, hb⟩
  replace T := T.call hb; clear hb
  have k := T.2; simp only [Knows] at k
  have q1 := row_cell k.1.1
  have q2 := row_cell k.2.1.1
  go_wp2_with fail
  refine (Ans.call C1.out _).mono ?_
  rintro e w2 ⟨rfl, hb⟩
  replace T := T.call hb; clear hb k q1 q2
  have k := T.2; simp only [Knows] at k
  have q1 := row_cell k.1.1
  have q2 := row_cell k.2.1.1
  go_wp2_with fail
  refine (Ans.call C2.out _).mono ?_
  rintro e w3 ⟨rfl, hb⟩
  replace T := T.call hb; clear hb k q1 q2
  have k := T.2; simp only [Knows] at k
  have q1 := row_cell k.1.1
  have q2 := row_cell k.2.1.1
  go_wp2_with fail
  go_ret
  exact ⟨rfl, T.below⟩
set_option maxHeartbeats 1000000 in
theorem lsess_3 (a b : Deed) (id : Int) (hka : a.key.size ≤ 140737488351232) (hva : a.val.size ≤ 140737488351232) (hkb : b.key.size ≤ 140737488351232) (hvb : b.val.size ≤ 140737488351232) (h1 : greatB a = false) (h2 : greatB b = false) (h3 : (a.kind == 0) = true) : Ans Try.prog 11 #[.agg (EV a), .agg (EV b), .int .i64 id] (.bool true) := by
  intro w
  have ma : a.key.size ≤ maxLen := by unfold maxLen; omega
  have mb : b.key.size ≤ maxLen := by unfold maxLen; omega
  have T := ((St.start w).new (EV a) 41).new (EV b) 41
  simp only [World.size_alloc] at T
  have c0 := alive4
  have C0 := Lib.hid c0; clear c0
  have c1 := great_any a hka hva
  rw [h1] at c1
  have C1 := Lib.hid c1; clear c1
  have c2 := great_any b hkb hvb
  rw [h2] at c2
  have C2 := Lib.hid c2; clear c2
  clear hka hva hkb hvb ma mb
  go_enter Try.func11, Try.ntmps11
  go_wp2_with fail
  refine (Ans.call C0.out _).mono ?_
  rintro e w1 ⟨rfl, hb⟩
  replace T := T.call hb; clear hb
  have k := T.2; simp only [Knows] at k
  have q1 := row_cell k.1.1
  have q2 := row_cell k.2.1.1
  go_wp2_with fail
  refine (Ans.call C1.out _).mono ?_
  rintro e w2 ⟨rfl, hb⟩
  replace T := T.call hb; clear hb k q1 q2
  have k := T.2; simp only [Knows] at k
  have q1 := row_cell k.1.1
  have q2 := row_cell k.2.1.1
  go_wp2_with fail
  refine (Ans.call C2.out _).mono ?_
  rintro e w3 ⟨rfl, hb⟩
  replace T := T.call hb; clear hb k q1 q2
  have k := T.2; simp only [Knows] at k
  have q1 := row_cell k.1.1
  have q2 := row_cell k.2.1.1
  go_wp2_with fail
  go_ret
  exact ⟨rfl, T.below⟩
set_option maxHeartbeats 1000000 in
theorem lsess_4 (a b : Deed) (id : Int) (hka : a.key.size ≤ 140737488351232) (hva : a.val.size ≤ 140737488351232) (hkb : b.key.size ≤ 140737488351232) (hvb : b.val.size ≤ 140737488351232) (h1 : greatB a = false) (h2 : greatB b = false) (h3 : (a.kind == 0) = false) (h4 : (b.kind == 0) = true) : Ans Try.prog 11 #[.agg (EV a), .agg (EV b), .int .i64 id] (.bool true) := by
  intro w
  have ma : a.key.size ≤ maxLen := by unfold maxLen; omega
  have mb : b.key.size ≤ maxLen := by unfold maxLen; omega
  have T := ((St.start w).new (EV a) 41).new (EV b) 41
  simp only [World.size_alloc] at T
  have c0 := alive4
  have C0 := Lib.hid c0; clear c0
  have c1 := great_any a hka hva
  rw [h1] at c1
  have C1 := Lib.hid c1; clear c1
  have c2 := great_any b hkb hvb
  rw [h2] at c2
  have C2 := Lib.hid c2; clear c2
  clear hka hva hkb hvb ma mb
  go_enter Try.func11, Try.ntmps11
  go_wp2_with fail
  refine (Ans.call C0.out _).mono ?_
  rintro e w1 ⟨rfl, hb⟩
  replace T := T.call hb; clear hb
  have k := T.2; simp only [Knows] at k
  have q1 := row_cell k.1.1
  have q2 := row_cell k.2.1.1
  go_wp2_with fail
  refine (Ans.call C1.out _).mono ?_
  rintro e w2 ⟨rfl, hb⟩
  replace T := T.call hb; clear hb k q1 q2
  have k := T.2; simp only [Knows] at k
  have q1 := row_cell k.1.1
  have q2 := row_cell k.2.1.1
  go_wp2_with fail
  refine (Ans.call C2.out _).mono ?_
  rintro e w3 ⟨rfl, hb⟩
  replace T := T.call hb; clear hb k q1 q2
  have k := T.2; simp only [Knows] at k
  have q1 := row_cell k.1.1
  have q2 := row_cell k.2.1.1
  go_wp2_with fail
  go_ret
  exact ⟨rfl, T.below⟩
set_option maxHeartbeats 1000000 in
theorem lsess_5 (a b : Deed) (id : Int) (hka : a.key.size ≤ 140737488351232) (hva : a.val.size ≤ 140737488351232) (hkb : b.key.size ≤ 140737488351232) (hvb : b.val.size ≤ 140737488351232) (h1 : greatB a = false) (h2 : greatB b = false) (h3 : (a.kind == 0) = false) (h4 : (b.kind == 0) = false) (h5 : (id == 0) = true) : Ans Try.prog 11 #[.agg (EV a), .agg (EV b), .int .i64 id] (.bool true) := by
  intro w
  have ma : a.key.size ≤ maxLen := by unfold maxLen; omega
  have mb : b.key.size ≤ maxLen := by unfold maxLen; omega
  have T := ((St.start w).new (EV a) 41).new (EV b) 41
  simp only [World.size_alloc] at T
  have c0 := alive4
  have C0 := Lib.hid c0; clear c0
  have c1 := great_any a hka hva
  rw [h1] at c1
  have C1 := Lib.hid c1; clear c1
  have c2 := great_any b hkb hvb
  rw [h2] at c2
  have C2 := Lib.hid c2; clear c2
  clear hka hva hkb hvb ma mb
  go_enter Try.func11, Try.ntmps11
  go_wp2_with fail
  refine (Ans.call C0.out _).mono ?_
  rintro e w1 ⟨rfl, hb⟩
  replace T := T.call hb; clear hb
  have k := T.2; simp only [Knows] at k
  have q1 := row_cell k.1.1
  have q2 := row_cell k.2.1.1
  go_wp2_with fail
  refine (Ans.call C1.out _).mono ?_
  rintro e w2 ⟨rfl, hb⟩
  replace T := T.call hb; clear hb k q1 q2
  have k := T.2; simp only [Knows] at k
  have q1 := row_cell k.1.1
  have q2 := row_cell k.2.1.1
  go_wp2_with fail
  refine (Ans.call C2.out _).mono ?_
  rintro e w3 ⟨rfl, hb⟩
  replace T := T.call hb; clear hb k q1 q2
  have k := T.2; simp only [Knows] at k
  have q1 := row_cell k.1.1
  have q2 := row_cell k.2.1.1
  go_wp2_with fail
  go_ret
  exact ⟨rfl, T.below⟩
set_option maxHeartbeats 1000000 in
theorem lsess_6 (a b : Deed) (id : Int) (hka : a.key.size ≤ 140737488351232) (hva : a.val.size ≤ 140737488351232) (hkb : b.key.size ≤ 140737488351232) (hvb : b.val.size ≤ 140737488351232) (h1 : greatB a = false) (h2 : greatB b = false) (h3 : (a.kind == 0) = false) (h4 : (b.kind == 0) = false) (h5 : (id == 0) = false) (h6 : (a.kind == 5) = true) : Ans Try.prog 11 #[.agg (EV a), .agg (EV b), .int .i64 id] (.bool true) := by
  intro w
  have ma : a.key.size ≤ maxLen := by unfold maxLen; omega
  have mb : b.key.size ≤ maxLen := by unfold maxLen; omega
  have T := ((St.start w).new (EV a) 41).new (EV b) 41
  simp only [World.size_alloc] at T
  have c0 := alive4
  have C0 := Lib.hid c0; clear c0
  have c1 := great_any a hka hva
  rw [h1] at c1
  have C1 := Lib.hid c1; clear c1
  have c2 := great_any b hkb hvb
  rw [h2] at c2
  have C2 := Lib.hid c2; clear c2
  have c6 := clash_any { a with ses := id } { b with ses := id } ma mb
  rw [sess_yes a b id h3 h4 h5] at c6
  have C6 := Lib.hid c6; clear c6
  clear hka hva hkb hvb ma mb
  go_enter Try.func11, Try.ntmps11
  go_wp2_with fail
  refine (Ans.call C0.out _).mono ?_
  rintro e w1 ⟨rfl, hb⟩
  replace T := T.call hb; clear hb
  have k := T.2; simp only [Knows] at k
  have q1 := row_cell k.1.1
  have q2 := row_cell k.2.1.1
  go_wp2_with fail
  refine (Ans.call C1.out _).mono ?_
  rintro e w2 ⟨rfl, hb⟩
  replace T := T.call hb; clear hb k q1 q2
  have k := T.2; simp only [Knows] at k
  have q1 := row_cell k.1.1
  have q2 := row_cell k.2.1.1
  go_wp2_with fail
  refine (Ans.call C2.out _).mono ?_
  rintro e w3 ⟨rfl, hb⟩
  replace T := T.call hb; clear hb k q1 q2
  have k := T.2; simp only [Knows] at k
  have q1 := row_cell k.1.1
  have q2 := row_cell k.2.1.1
  have f1 := row_frozen k.1.1
  have f2 := row_frozen k.2.1.1
  go_wp2_with fail
  go_region
  all_goals
    go_wp2_with fail
    refine (Ans.call C6.out _).mono ?_
    rintro e w4 ⟨rfl, hb⟩
    have T4 := (((T.new _ _).new _ _).drew).call hb
    clear hb k q1 q2 f1 f2
    have k := T4.2; simp only [Knows, World.size_alloc] at k
    have q1 := row_cell k.1.1
    have q2 := row_cell k.2.1.1
    have q3 := row_cell k.2.2.1.1
    have q4 := row_cell k.2.2.2.1.1
    have f1 := row_frozen k.1.1
    have f2 := row_frozen k.2.1.1
    have hz := T.below.size
    go_wp2_with fail
    go_ret
    exact ⟨rfl, T4.below.setCell (by simp <;> omega) _⟩
set_option maxHeartbeats 1000000 in
theorem lsess_7 (a b : Deed) (id : Int) (hka : a.key.size ≤ 140737488351232) (hva : a.val.size ≤ 140737488351232) (hkb : b.key.size ≤ 140737488351232) (hvb : b.val.size ≤ 140737488351232) (h1 : greatB a = false) (h2 : greatB b = false) (h3 : (a.kind == 0) = false) (h4 : (b.kind == 0) = false) (h5 : (id == 0) = false) (h6 : (a.kind == 5) = false) (h7 : (b.kind == 5) = true) : Ans Try.prog 11 #[.agg (EV a), .agg (EV b), .int .i64 id] (.bool true) := by
  intro w
  have ma : a.key.size ≤ maxLen := by unfold maxLen; omega
  have mb : b.key.size ≤ maxLen := by unfold maxLen; omega
  have T := ((St.start w).new (EV a) 41).new (EV b) 41
  simp only [World.size_alloc] at T
  have c0 := alive4
  have C0 := Lib.hid c0; clear c0
  have c1 := great_any a hka hva
  rw [h1] at c1
  have C1 := Lib.hid c1; clear c1
  have c2 := great_any b hkb hvb
  rw [h2] at c2
  have C2 := Lib.hid c2; clear c2
  have c6 := clash_any { a with ses := id } { b with ses := id } ma mb
  rw [sess_yes a b id h3 h4 h5] at c6
  have C6 := Lib.hid c6; clear c6
  clear hka hva hkb hvb ma mb
  go_enter Try.func11, Try.ntmps11
  go_wp2_with fail
  refine (Ans.call C0.out _).mono ?_
  rintro e w1 ⟨rfl, hb⟩
  replace T := T.call hb; clear hb
  have k := T.2; simp only [Knows] at k
  have q1 := row_cell k.1.1
  have q2 := row_cell k.2.1.1
  go_wp2_with fail
  refine (Ans.call C1.out _).mono ?_
  rintro e w2 ⟨rfl, hb⟩
  replace T := T.call hb; clear hb k q1 q2
  have k := T.2; simp only [Knows] at k
  have q1 := row_cell k.1.1
  have q2 := row_cell k.2.1.1
  go_wp2_with fail
  refine (Ans.call C2.out _).mono ?_
  rintro e w3 ⟨rfl, hb⟩
  replace T := T.call hb; clear hb k q1 q2
  have k := T.2; simp only [Knows] at k
  have q1 := row_cell k.1.1
  have q2 := row_cell k.2.1.1
  have f1 := row_frozen k.1.1
  have f2 := row_frozen k.2.1.1
  go_wp2_with fail
  go_region
  all_goals
    go_wp2_with fail
    refine (Ans.call C6.out _).mono ?_
    rintro e w4 ⟨rfl, hb⟩
    have T4 := (((T.new _ _).new _ _).drew).call hb
    clear hb k q1 q2 f1 f2
    have k := T4.2; simp only [Knows, World.size_alloc] at k
    have q1 := row_cell k.1.1
    have q2 := row_cell k.2.1.1
    have q3 := row_cell k.2.2.1.1
    have q4 := row_cell k.2.2.2.1.1
    have f1 := row_frozen k.1.1
    have f2 := row_frozen k.2.1.1
    have hz := T.below.size
    go_wp2_with fail
    go_ret
    exact ⟨rfl, T4.below.setCell (by simp <;> omega) _⟩
set_option maxHeartbeats 1000000 in
theorem lsess_8 (a b : Deed) (id : Int) (hka : a.key.size ≤ 140737488351232) (hva : a.val.size ≤ 140737488351232) (hkb : b.key.size ≤ 140737488351232) (hvb : b.val.size ≤ 140737488351232) (h1 : greatB a = false) (h2 : greatB b = false) (h3 : (a.kind == 0) = false) (h4 : (b.kind == 0) = false) (h5 : (id == 0) = false) (h6 : (a.kind == 5) = false) (h7 : (b.kind == 5) = false) (h8 : (a.key.toList == b.key.toList) = true) : Ans Try.prog 11 #[.agg (EV a), .agg (EV b), .int .i64 id] (.bool true) := by
  intro w
  have ma : a.key.size ≤ maxLen := by unfold maxLen; omega
  have mb : b.key.size ≤ maxLen := by unfold maxLen; omega
  have T := ((St.start w).new (EV a) 41).new (EV b) 41
  simp only [World.size_alloc] at T
  have c0 := alive4
  have C0 := Lib.hid c0; clear c0
  have c1 := great_any a hka hva
  rw [h1] at c1
  have C1 := Lib.hid c1; clear c1
  have c2 := great_any b hkb hvb
  rw [h2] at c2
  have C2 := Lib.hid c2; clear c2
  have c6 := clash_any { a with ses := id } { b with ses := id } ma mb
  rw [sess_yes a b id h3 h4 h5] at c6
  have C6 := Lib.hid c6; clear c6
  clear hka hva hkb hvb ma mb
  go_enter Try.func11, Try.ntmps11
  go_wp2_with fail
  refine (Ans.call C0.out _).mono ?_
  rintro e w1 ⟨rfl, hb⟩
  replace T := T.call hb; clear hb
  have k := T.2; simp only [Knows] at k
  have q1 := row_cell k.1.1
  have q2 := row_cell k.2.1.1
  go_wp2_with fail
  refine (Ans.call C1.out _).mono ?_
  rintro e w2 ⟨rfl, hb⟩
  replace T := T.call hb; clear hb k q1 q2
  have k := T.2; simp only [Knows] at k
  have q1 := row_cell k.1.1
  have q2 := row_cell k.2.1.1
  go_wp2_with fail
  refine (Ans.call C2.out _).mono ?_
  rintro e w3 ⟨rfl, hb⟩
  replace T := T.call hb; clear hb k q1 q2
  have k := T.2; simp only [Knows] at k
  have q1 := row_cell k.1.1
  have q2 := row_cell k.2.1.1
  have f1 := row_frozen k.1.1
  have f2 := row_frozen k.2.1.1
  go_wp2_with fail
  go_region
  all_goals
    go_wp2_with fail
    refine (Ans.call C6.out _).mono ?_
    rintro e w4 ⟨rfl, hb⟩
    have T4 := (((T.new _ _).new _ _).drew).call hb
    clear hb k q1 q2 f1 f2
    have k := T4.2; simp only [Knows, World.size_alloc] at k
    have q1 := row_cell k.1.1
    have q2 := row_cell k.2.1.1
    have q3 := row_cell k.2.2.1.1
    have q4 := row_cell k.2.2.2.1.1
    have f1 := row_frozen k.1.1
    have f2 := row_frozen k.2.1.1
    have hz := T.below.size
    go_wp2_with fail
    go_ret
    exact ⟨rfl, T4.below.setCell (by simp <;> omega) _⟩
set_option maxHeartbeats 1000000 in
theorem lsess_9 (a b : Deed) (id : Int) (hka : a.key.size ≤ 140737488351232) (hva : a.val.size ≤ 140737488351232) (hkb : b.key.size ≤ 140737488351232) (hvb : b.val.size ≤ 140737488351232) (h1 : greatB a = false) (h2 : greatB b = false) (h3 : (a.kind == 0) = false) (h4 : (b.kind == 0) = false) (h5 : (id == 0) = false) (h6 : (a.kind == 5) = false) (h7 : (b.kind == 5) = false) (h8 : (a.key.toList == b.key.toList) = false) : Ans Try.prog 11 #[.agg (EV a), .agg (EV b), .int .i64 id] (.bool true) := by
  intro w
  have ma : a.key.size ≤ maxLen := by unfold maxLen; omega
  have mb : b.key.size ≤ maxLen := by unfold maxLen; omega
  have T := ((St.start w).new (EV a) 41).new (EV b) 41
  simp only [World.size_alloc] at T
  have c0 := alive4
  have C0 := Lib.hid c0; clear c0
  have c1 := great_any a hka hva
  rw [h1] at c1
  have C1 := Lib.hid c1; clear c1
  have c2 := great_any b hkb hvb
  rw [h2] at c2
  have C2 := Lib.hid c2; clear c2
  have c6 := clash_any { a with ses := id } { b with ses := id } ma mb
  rw [sess_yes a b id h3 h4 h5] at c6
  have C6 := Lib.hid c6; clear c6
  have c7 := clash_any { a with ses := id } { b with ses := 0 } ma mb
  rw [sess_no a b id h6 h7 h8 h5] at c7
  have C7 := Lib.hid c7; clear c7
  clear hka hva hkb hvb ma mb
  go_enter Try.func11, Try.ntmps11
  go_wp2_with fail
  refine (Ans.call C0.out _).mono ?_
  rintro e w1 ⟨rfl, hb⟩
  replace T := T.call hb; clear hb
  have k := T.2; simp only [Knows] at k
  have q1 := row_cell k.1.1
  have q2 := row_cell k.2.1.1
  go_wp2_with fail
  refine (Ans.call C1.out _).mono ?_
  rintro e w2 ⟨rfl, hb⟩
  replace T := T.call hb; clear hb k q1 q2
  have k := T.2; simp only [Knows] at k
  have q1 := row_cell k.1.1
  have q2 := row_cell k.2.1.1
  go_wp2_with fail
  refine (Ans.call C2.out _).mono ?_
  rintro e w3 ⟨rfl, hb⟩
  replace T := T.call hb; clear hb k q1 q2
  have k := T.2; simp only [Knows] at k
  have q1 := row_cell k.1.1
  have q2 := row_cell k.2.1.1
  have f1 := row_frozen k.1.1
  have f2 := row_frozen k.2.1.1
  go_wp2_with fail
  go_region
  all_goals
    go_wp2_with fail
    refine (Ans.call C6.out _).mono ?_
    rintro e w4 ⟨rfl, hb⟩
    have T4 := (((T.new _ _).new _ _).drew).call hb
    clear hb k q1 q2 f1 f2
    have k := T4.2; simp only [Knows, World.size_alloc] at k
    have q1 := row_cell k.1.1
    have q2 := row_cell k.2.1.1
    have q3 := row_cell k.2.2.1.1
    have q4 := row_cell k.2.2.2.1.1
    have f1 := row_frozen k.1.1
    have f2 := row_frozen k.2.1.1
    have hz := T.below.size
    go_wp2_with fail
    refine (Ans.call C7.out _).mono ?_
    rintro e w5 ⟨rfl, hb⟩
    go_wp2_with fail
    go_ret
    exact ⟨rfl, (T4.below.setCell (by simp <;> omega) _).trans (hb.mono (by simp [World.setCell]; exact T4.below.size))⟩
theorem law_session (a b : Deed) (id : Int) (hka : a.key.size ≤ 140737488351232) (hva : a.val.size ≤ 140737488351232) (hkb : b.key.size ≤ 140737488351232) (hvb : b.val.size ≤ 140737488351232) : Ans Try.prog 11 #[.agg (EV a), .agg (EV b), .int .i64 id] (.bool true) := by
  cases h1 : greatB a
  · cases h2 : greatB b
    · cases h3 : (a.kind == 0)
      · cases h4 : (b.kind == 0)
        · cases h5 : (id == 0)
          · cases h6 : (a.kind == 5)
            · cases h7 : (b.kind == 5)
              · cases h8 : (a.key.toList == b.key.toList)
                · exact lsess_9 a b id hka hva hkb hvb h1 h2 h3 h4 h5 h6 h7 h8
                · exact lsess_8 a b id hka hva hkb hvb h1 h2 h3 h4 h5 h6 h7 h8
              · exact lsess_7 a b id hka hva hkb hvb h1 h2 h3 h4 h5 h6 h7
            · exact lsess_6 a b id hka hva hkb hvb h1 h2 h3 h4 h5 h6
          · exact lsess_5 a b id hka hva hkb hvb h1 h2 h3 h4 h5
        · exact lsess_4 a b id hka hva hkb hvb h1 h2 h3 h4
      · exact lsess_3 a b id hka hva hkb hvb h1 h2 h3
    · exact lsess_2 a b id hka hva hkb hvb h1 h2
  · exact lsess_1 a b id hka hva hkb hvb h1
end Go.Proofs.Ytnjnafmonijlnaa
