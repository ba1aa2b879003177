import Derived.Test.YtnjnafmonijlnaaDeedF
namespace Go.Proofs.Ytnjnafmonijlnaa
open Go.RowKit
set_option linter.unusedVariables false
attribute [local go_sem] row_alloc row_drew row_drewN row_ext row_setCell row_setRow size_ext setRow_alloc setRow_drew loadOf storeOf piece_lit loadVal_at storeVal_at allOne_lit EV_size EV_one EV_piece EV_0 EV_1 EV_2 EV_3 EV_4 EV_5 EV_set_ses
attribute [local go_sem high] cell_alloc frozen_alloc setCell_alloc cell_ext frozen_ext
attribute [local go_sem ↓] load_deed0 store_deed0
attribute [local go_sem] load_deed store_deed

attribute [local go_sem high] run_eql_deed
attribute [local go_sem] zero_deed




theorem ses0 (d : Deed) (n : Int) : aboutB { d with ses := n } = aboutB d := rfl
theorem writes_ses (d : Deed) (n : Int) : writes { d with ses := n } = writes d := rfl
theorem about_wr {d : Deed} (h : writes d = true) (k : ByteArray) : aboutB d k = (d.key.toList == k.toList) := by
  unfold writes at h
  rw [decide_eq_true_eq] at h
  exact if_neg (by omega)
theorem kind_wr {d : Deed} (h : writes d = true) : (d.kind == 0) = false := by
  unfold writes at h
  rw [decide_eq_true_eq] at h
  rw [beq_eq_false_iff_ne]; omega
theorem reads_eq (a x v : Deed) (hx : writes x = true) (hv : writes v = true) (hk : (x.key.toList == v.key.toList) = true) :
    clashB { a with ses := 0 } { x with ses := 0 } = clashB { a with ses := 0 } { v with ses := 0 } := by
  have e : x.key = v.key := toList_inj (by simpa using hk)
  unfold clashB touchB
  simp only [ses0, writes_ses, kind_wr hx, kind_wr hv, hx, hv, about_wr hx, about_wr hv]
  rw [e]
theorem reads_yes (x v : Deed) (hx : writes x = true) (hv : writes v = true) (hk : (x.key.toList == v.key.toList) = true) :
    clashB { x with ses := 0 } { v with ses := 0 } = true := by
  have e : x.key = v.key := toList_inj (by simpa using hk)
  unfold clashB touchB
  simp only [ses0, writes_ses, kind_wr hx, kind_wr hv, hx, hv, about_wr hx, about_wr hv]
  rw [e]
  simp
set_option maxHeartbeats 1000000 in
theorem lreads_1 (a x v : Deed) (hka : a.key.size ≤ 140737488351232) (hva : a.val.size ≤ 140737488351232) (hkx : x.key.size ≤ 140737488351232) (hvx : x.val.size ≤ 140737488351232) (hkv : v.key.size ≤ 140737488351232) (hvv : v.val.size ≤ 140737488351232) (h1 : greatB a = true) : Ans Try.prog 10 #[.agg (EV a), .agg (EV x), .agg (EV v)] (.bool true) := by
  intro w
  have ma : a.key.size ≤ maxLen := by unfold maxLen; omega
  have mx : x.key.size ≤ maxLen := by unfold maxLen; omega
  have mv : v.key.size ≤ maxLen := by unfold maxLen; omega
  have T := ((St.start w).new (EV a) 41).new (EV x) 41 |>.new (EV v) 41
  simp only [World.size_alloc] at T
  have c0 := alive4
  have C0 := Lib.hid c0; clear c0
  have c1 := great_any a hka hva
  rw [h1] at c1
  have C1 := Lib.hid c1; clear c1
  clear hka hva hkx hvx hkv hvv ma mx mv
  go_enter Try.func10, Try.ntmps10
  go_wp2_with fail
  refine (Ans.call C0.out _).mono ?_
  rintro e w1 ⟨rfl, hb⟩
  replace T := T.call hb; clear hb
  have k := T.2; simp only [Knows] at k
  have q1 := row_cell k.1.1
  have q2 := row_cell k.2.1.1
  have q3 := row_cell k.2.2.1.1
  go_wp2_with fail
  refine (Ans.call C1.out _).mono ?_
  rintro e w2 ⟨rfl, hb⟩
  replace T := T.call hb; clear hb k q1 q2 q3
  have k := T.2; simp only [Knows] at k
  have q1 := row_cell k.1.1
  have q2 := row_cell k.2.1.1
  have q3 := row_cell k.2.2.1.1
  go_wp2_with fail
  go_ret
  exact ⟨rfl, T.below⟩
set_option maxHeartbeats 1000000 in
theorem lreads_2 (a x v : Deed) (hka : a.key.size ≤ 140737488351232) (hva : a.val.size ≤ 140737488351232) (hkx : x.key.size ≤ 140737488351232) (hvx : x.val.size ≤ 140737488351232) (hkv : v.key.size ≤ 140737488351232) (hvv : v.val.size ≤ 140737488351232) (h1 : greatB a = false) (h2 : greatB x = true) : Ans Try.prog 10 #[.agg (EV a), .agg (EV x), .agg (EV v)] (.bool true) := by
  intro w
  have ma : a.key.size ≤ maxLen := by unfold maxLen; omega
  have mx : x.key.size ≤ maxLen := by unfold maxLen; omega
  have mv : v.key.size ≤ maxLen := by unfold maxLen; omega
  have T := ((St.start w).new (EV a) 41).new (EV x) 41 |>.new (EV v) 41
  simp only [World.size_alloc] at T
  have c0 := alive4
  have C0 := Lib.hid c0; clear c0
  have c1 := great_any a hka hva
  rw [h1] at c1
  have C1 := Lib.hid c1; clear c1
  have c2 := great_any x hkx hvx
  rw [h2] at c2
  have C2 := Lib.hid c2; clear c2
  clear hka hva hkx hvx hkv hvv ma mx mv
  go_enter Try.func10, Try.ntmps10
  go_wp2_with fail
  refine (Ans.call C0.out _).mono ?_
  rintro e w1 ⟨rfl, hb⟩
  replace T := T.call hb; clear hb
  have k := T.2; simp only [Knows] at k
  have q1 := row_cell k.1.1
  have q2 := row_cell k.2.1.1
  have q3 := row_cell k.2.2.1.1
  go_wp2_with fail
  refine (Ans.call C1.out _).mono ?_
  rintro e w2 ⟨rfl, hb⟩
  replace T := T.call hb; clear hb k q1 q2 q3
  have k := T.2; simp only [Knows] at k
  have q1 := row_cell k.1.1
  have q2 := row_cell k.2.1.1
  have q3 := row_cell k.2.2.1.1
  go_wp2_with fail
  refine (Ans.call C2.out _).mono ?_
  rintro e w3 ⟨rfl, hb⟩
  replace T := T.call hb; clear hb k q1 q2 q3
  have k := T.2; simp only [Knows] at k
  have q1 := row_cell k.1.1
  have q2 := row_cell k.2.1.1
  have q3 := row_cell k.2.2.1.1
  go_wp2_with fail
  go_ret
  exact ⟨rfl, T.below⟩
set_option maxHeartbeats 1000000 in
theorem lreads_3 (a x v : Deed) (hka : a.key.size ≤ 140737488351232) (hva : a.val.size ≤ 140737488351232) (hkx : x.key.size ≤ 140737488351232) (hvx : x.val.size ≤ 140737488351232) (hkv : v.key.size ≤ 140737488351232) (hvv : v.val.size ≤ 140737488351232) (h1 : greatB a = false) (h2 : greatB x = false) (h3 : greatB v = true) : Ans Try.prog 10 #[.agg (EV a), .agg (EV x), .agg (EV v)] (.bool true) := by
  intro w
  have ma : a.key.size ≤ maxLen := by unfold maxLen; omega
  have mx : x.key.size ≤ maxLen := by unfold maxLen; omega
  have mv : v.key.size ≤ maxLen := by unfold maxLen; omega
  have T := ((St.start w).new (EV a) 41).new (EV x) 41 |>.new (EV v) 41
  simp only [World.size_alloc] at T
  have c0 := alive4
  have C0 := Lib.hid c0; clear c0
  have c1 := great_any a hka hva
  rw [h1] at c1
  have C1 := Lib.hid c1; clear c1
  have c2 := great_any x hkx hvx
  rw [h2] at c2
  have C2 := Lib.hid c2; clear c2
  have c3 := great_any v hkv hvv
  rw [h3] at c3
  have C3 := Lib.hid c3; clear c3
  clear hka hva hkx hvx hkv hvv ma mx mv
  go_enter Try.func10, Try.ntmps10
  go_wp2_with fail
  refine (Ans.call C0.out _).mono ?_
  rintro e w1 ⟨rfl, hb⟩
  replace T := T.call hb; clear hb
  have k := T.2; simp only [Knows] at k
  have q1 := row_cell k.1.1
  have q2 := row_cell k.2.1.1
  have q3 := row_cell k.2.2.1.1
  go_wp2_with fail
  refine (Ans.call C1.out _).mono ?_
  rintro e w2 ⟨rfl, hb⟩
  replace T := T.call hb; clear hb k q1 q2 q3
  have k := T.2; simp only [Knows] at k
  have q1 := row_cell k.1.1
  have q2 := row_cell k.2.1.1
  have q3 := row_cell k.2.2.1.1
  go_wp2_with fail
  refine (Ans.call C2.out _).mono ?_
  rintro e w3 ⟨rfl, hb⟩
  replace T := T.call hb; clear hb k q1 q2 q3
  have k := T.2; simp only [Knows] at k
  have q1 := row_cell k.1.1
  have q2 := row_cell k.2.1.1
  have q3 := row_cell k.2.2.1.1
  go_wp2_with fail
  refine (Ans.call C3.out _).mono ?_
  rintro e w4 ⟨rfl, hb⟩
  replace T := T.call hb; clear hb k q1 q2 q3
  have k := T.2; simp only [Knows] at k
  have q1 := row_cell k.1.1
  have q2 := row_cell k.2.1.1
  have q3 := row_cell k.2.2.1.1
  go_wp2_with fail
  go_ret
  exact ⟨rfl, T.below⟩
set_option maxHeartbeats 1000000 in
theorem lreads_4 (a x v : Deed) (hka : a.key.size ≤ 140737488351232) (hva : a.val.size ≤ 140737488351232) (hkx : x.key.size ≤ 140737488351232) (hvx : x.val.size ≤ 140737488351232) (hkv : v.key.size ≤ 140737488351232) (hvv : v.val.size ≤ 140737488351232) (h1 : greatB a = false) (h2 : greatB x = false) (h3 : greatB v = false) (h4 : writes x = false) : Ans Try.prog 10 #[.agg (EV a), .agg (EV x), .agg (EV v)] (.bool true) := by
  intro w
  have ma : a.key.size ≤ maxLen := by unfold maxLen; omega
  have mx : x.key.size ≤ maxLen := by unfold maxLen; omega
  have mv : v.key.size ≤ maxLen := by unfold maxLen; omega
  have T := ((St.start w).new (EV a) 41).new (EV x) 41 |>.new (EV v) 41
  simp only [World.size_alloc] at T
  have c0 := alive4
  have C0 := Lib.hid c0; clear c0
  have c1 := great_any a hka hva
  rw [h1] at c1
  have C1 := Lib.hid c1; clear c1
  have c2 := great_any x hkx hvx
  rw [h2] at c2
  have C2 := Lib.hid c2; clear c2
  have c3 := great_any v hkv hvv
  rw [h3] at c3
  have C3 := Lib.hid c3; clear c3
  have c4 := rwrites_any x
  rw [h4] at c4
  have C4 := Lib.hid c4; clear c4
  clear hka hva hkx hvx hkv hvv ma mx mv
  go_enter Try.func10, Try.ntmps10
  go_wp2_with fail
  refine (Ans.call C0.out _).mono ?_
  rintro e w1 ⟨rfl, hb⟩
  replace T := T.call hb; clear hb
  have k := T.2; simp only [Knows] at k
  have q1 := row_cell k.1.1
  have q2 := row_cell k.2.1.1
  have q3 := row_cell k.2.2.1.1
  go_wp2_with fail
  refine (Ans.call C1.out _).mono ?_
  rintro e w2 ⟨rfl, hb⟩
  replace T := T.call hb; clear hb k q1 q2 q3
  have k := T.2; simp only [Knows] at k
  have q1 := row_cell k.1.1
  have q2 := row_cell k.2.1.1
  have q3 := row_cell k.2.2.1.1
  go_wp2_with fail
  refine (Ans.call C2.out _).mono ?_
  rintro e w3 ⟨rfl, hb⟩
  replace T := T.call hb; clear hb k q1 q2 q3
  have k := T.2; simp only [Knows] at k
  have q1 := row_cell k.1.1
  have q2 := row_cell k.2.1.1
  have q3 := row_cell k.2.2.1.1
  go_wp2_with fail
  refine (Ans.call C3.out _).mono ?_
  rintro e w4 ⟨rfl, hb⟩
  replace T := T.call hb; clear hb k q1 q2 q3
  have k := T.2; simp only [Knows] at k
  have q1 := row_cell k.1.1
  have q2 := row_cell k.2.1.1
  have q3 := row_cell k.2.2.1.1
  go_wp2_with fail
  refine (Ans.call C4.out _).mono ?_
  rintro e w5 ⟨rfl, hb⟩
  replace T := T.call hb; clear hb k q1 q2 q3
  have k := T.2; simp only [Knows] at k
  have q1 := row_cell k.1.1
  have q2 := row_cell k.2.1.1
  have q3 := row_cell k.2.2.1.1
  go_wp2_with fail
  go_ret
  exact ⟨rfl, T.below⟩
set_option maxHeartbeats 1000000 in
theorem lreads_5 (a x v : Deed) (hka : a.key.size ≤ 140737488351232) (hva : a.val.size ≤ 140737488351232) (hkx : x.key.size ≤ 140737488351232) (hvx : x.val.size ≤ 140737488351232) (hkv : v.key.size ≤ 140737488351232) (hvv : v.val.size ≤ 140737488351232) (h1 : greatB a = false) (h2 : greatB x = false) (h3 : greatB v = false) (h4 : writes x = true) (h5 : writes v = false) : Ans Try.prog 10 #[.agg (EV a), .agg (EV x), .agg (EV v)] (.bool true) := by
  intro w
  have ma : a.key.size ≤ maxLen := by unfold maxLen; omega
  have mx : x.key.size ≤ maxLen := by unfold maxLen; omega
  have mv : v.key.size ≤ maxLen := by unfold maxLen; omega
  have T := ((St.start w).new (EV a) 41).new (EV x) 41 |>.new (EV v) 41
  simp only [World.size_alloc] at T
  have c0 := alive4
  have C0 := Lib.hid c0; clear c0
  have c1 := great_any a hka hva
  rw [h1] at c1
  have C1 := Lib.hid c1; clear c1
  have c2 := great_any x hkx hvx
  rw [h2] at c2
  have C2 := Lib.hid c2; clear c2
  have c3 := great_any v hkv hvv
  rw [h3] at c3
  have C3 := Lib.hid c3; clear c3
  have c4 := rwrites_any x
  rw [h4] at c4
  have C4 := Lib.hid c4; clear c4
  have c5 := rwrites_any v
  rw [h5] at c5
  have C5 := Lib.hid c5; clear c5
  clear hka hva hkx hvx hkv hvv ma mx mv
  go_enter Try.func10, Try.ntmps10
  go_wp2_with fail
  refine (Ans.call C0.out _).mono ?_
  rintro e w1 ⟨rfl, hb⟩
  replace T := T.call hb; clear hb
  have k := T.2; simp only [Knows] at k
  have q1 := row_cell k.1.1
  have q2 := row_cell k.2.1.1
  have q3 := row_cell k.2.2.1.1
  go_wp2_with fail
  refine (Ans.call C1.out _).mono ?_
  rintro e w2 ⟨rfl, hb⟩
  replace T := T.call hb; clear hb k q1 q2 q3
  have k := T.2; simp only [Knows] at k
  have q1 := row_cell k.1.1
  have q2 := row_cell k.2.1.1
  have q3 := row_cell k.2.2.1.1
  go_wp2_with fail
  refine (Ans.call C2.out _).mono ?_
  rintro e w3 ⟨rfl, hb⟩
  replace T := T.call hb; clear hb k q1 q2 q3
  have k := T.2; simp only [Knows] at k
  have q1 := row_cell k.1.1
  have q2 := row_cell k.2.1.1
  have q3 := row_cell k.2.2.1.1
  go_wp2_with fail
  refine (Ans.call C3.out _).mono ?_
  rintro e w4 ⟨rfl, hb⟩
  replace T := T.call hb; clear hb k q1 q2 q3
  have k := T.2; simp only [Knows] at k
  have q1 := row_cell k.1.1
  have q2 := row_cell k.2.1.1
  have q3 := row_cell k.2.2.1.1
  go_wp2_with fail
  refine (Ans.call C4.out _).mono ?_
  rintro e w5 ⟨rfl, hb⟩
  replace T := T.call hb; clear hb k q1 q2 q3
  have k := T.2; simp only [Knows] at k
  have q1 := row_cell k.1.1
  have q2 := row_cell k.2.1.1
  have q3 := row_cell k.2.2.1.1
  go_wp2_with fail
  refine (Ans.call C5.out _).mono ?_
  rintro e w6 ⟨rfl, hb⟩
  replace T := T.call hb; clear hb k q1 q2 q3
  have k := T.2; simp only [Knows] at k
  have q1 := row_cell k.1.1
  have q2 := row_cell k.2.1.1
  have q3 := row_cell k.2.2.1.1
  go_wp2_with fail
  go_ret
  exact ⟨rfl, T.below⟩
set_option maxHeartbeats 1000000 in
theorem lreads_6 (a x v : Deed) (hka : a.key.size ≤ 140737488351232) (hva : a.val.size ≤ 140737488351232) (hkx : x.key.size ≤ 140737488351232) (hvx : x.val.size ≤ 140737488351232) (hkv : v.key.size ≤ 140737488351232) (hvv : v.val.size ≤ 140737488351232) (h1 : greatB a = false) (h2 : greatB x = false) (h3 : greatB v = false) (h4 : writes x = true) (h5 : writes v = true) (h6 : (x.key.toList == v.key.toList) = false) : Ans Try.prog 10 #[.agg (EV a), .agg (EV x), .agg (EV v)] (.bool true) := by
  intro w
  have ma : a.key.size ≤ maxLen := by unfold maxLen; omega
  have mx : x.key.size ≤ maxLen := by unfold maxLen; omega
  have mv : v.key.size ≤ maxLen := by unfold maxLen; omega
  have T := ((St.start w).new (EV a) 41).new (EV x) 41 |>.new (EV v) 41
  simp only [World.size_alloc] at T
  have c0 := alive4
  have C0 := Lib.hid c0; clear c0
  have c1 := great_any a hka hva
  rw [h1] at c1
  have C1 := Lib.hid c1; clear c1
  have c2 := great_any x hkx hvx
  rw [h2] at c2
  have C2 := Lib.hid c2; clear c2
  have c3 := great_any v hkv hvv
  rw [h3] at c3
  have C3 := Lib.hid c3; clear c3
  have c4 := rwrites_any x
  rw [h4] at c4
  have C4 := Lib.hid c4; clear c4
  have c5 := rwrites_any v
  rw [h5] at c5
  have C5 := Lib.hid c5; clear c5
  clear hka hva hkx hvx hkv hvv ma mx mv
  go_enter Try.func10, Try.ntmps10
  go_wp2_with fail
  refine (Ans.call C0.out _).mono ?_
  rintro e w1 ⟨rfl, hb⟩
  replace T := T.call hb; clear hb
  have k := T.2; simp only [Knows] at k
  have q1 := row_cell k.1.1
  have q2 := row_cell k.2.1.1
  have q3 := row_cell k.2.2.1.1
  go_wp2_with fail
  refine (Ans.call C1.out _).mono ?_
  rintro e w2 ⟨rfl, hb⟩
  replace T := T.call hb; clear hb k q1 q2 q3
  have k := T.2; simp only [Knows] at k
  have q1 := row_cell k.1.1
  have q2 := row_cell k.2.1.1
  have q3 := row_cell k.2.2.1.1
  go_wp2_with fail
  refine (Ans.call C2.out _).mono ?_
  rintro e w3 ⟨rfl, hb⟩
  replace T := T.call hb; clear hb k q1 q2 q3
  have k := T.2; simp only [Knows] at k
  have q1 := row_cell k.1.1
  have q2 := row_cell k.2.1.1
  have q3 := row_cell k.2.2.1.1
  go_wp2_with fail
  refine (Ans.call C3.out _).mono ?_
  rintro e w4 ⟨rfl, hb⟩
  replace T := T.call hb; clear hb k q1 q2 q3
  have k := T.2; simp only [Knows] at k
  have q1 := row_cell k.1.1
  have q2 := row_cell k.2.1.1
  have q3 := row_cell k.2.2.1.1
  go_wp2_with fail
  refine (Ans.call C4.out _).mono ?_
  rintro e w5 ⟨rfl, hb⟩
  replace T := T.call hb; clear hb k q1 q2 q3
  have k := T.2; simp only [Knows] at k
  have q1 := row_cell k.1.1
  have q2 := row_cell k.2.1.1
  have q3 := row_cell k.2.2.1.1
  go_wp2_with fail
  refine (Ans.call C5.out _).mono ?_
  rintro e w6 ⟨rfl, hb⟩
  replace T := T.call hb; clear hb k q1 q2 q3
  have k := T.2; simp only [Knows] at k
  have q1 := row_cell k.1.1
  have q2 := row_cell k.2.1.1
  have q3 := row_cell k.2.2.1.1
  go_wp2_with fail
  go_ret
  exact ⟨rfl, T.below⟩
set_option maxHeartbeats 1000000 in
theorem lreads_7 (a x v : Deed) (hka : a.key.size ≤ 140737488351232) (hva : a.val.size ≤ 140737488351232) (hkx : x.key.size ≤ 140737488351232) (hvx : x.val.size ≤ 140737488351232) (hkv : v.key.size ≤ 140737488351232) (hvv : v.val.size ≤ 140737488351232) (h1 : greatB a = false) (h2 : greatB x = false) (h3 : greatB v = false) (h4 : writes x = true) (h5 : writes v = true) (h6 : (x.key.toList == v.key.toList) = true) : Ans Try.prog 10 #[.agg (EV a), .agg (EV x), .agg (EV v)] (.bool true) := by
  intro w
  have ma : a.key.size ≤ maxLen := by unfold maxLen; omega
  have mx : x.key.size ≤ maxLen := by unfold maxLen; omega
  have mv : v.key.size ≤ maxLen := by unfold maxLen; omega
  have T := ((St.start w).new (EV a) 41).new (EV x) 41 |>.new (EV v) 41
  simp only [World.size_alloc] at T
  have c0 := alive4
  have C0 := Lib.hid c0; clear c0
  have c1 := great_any a hka hva
  rw [h1] at c1
  have C1 := Lib.hid c1; clear c1
  have c2 := great_any x hkx hvx
  rw [h2] at c2
  have C2 := Lib.hid c2; clear c2
  have c3 := great_any v hkv hvv
  rw [h3] at c3
  have C3 := Lib.hid c3; clear c3
  have c4 := rwrites_any x
  rw [h4] at c4
  have C4 := Lib.hid c4; clear c4
  have c5 := rwrites_any v
  rw [h5] at c5
  have C5 := Lib.hid c5; clear c5
  have c6 := clash_any { a with ses := 0 } { x with ses := 0 } ma mx
  have C6 := Lib.hid c6; clear c6
  have c7 := clash_any { a with ses := 0 } { v with ses := 0 } ma mv
  rw [← reads_eq a x v h4 h5 h6] at c7
  have C7 := Lib.hid c7; clear c7
  have c8 := clash_any { x with ses := 0 } { v with ses := 0 } mx mv
  rw [reads_yes x v h4 h5 h6] at c8
  have C8 := Lib.hid c8; clear c8
  generalize clashB { a with ses := 0 } { x with ses := 0 } = c at *
  have hcc : (c == c) = true := by simp
  clear hka hva hkx hvx hkv hvv ma mx mv
  go_enter Try.func10, Try.ntmps10
  go_wp2_with fail
  refine (Ans.call C0.out _).mono ?_
  rintro e w1 ⟨rfl, hb⟩
  replace T := T.call hb; clear hb
  have k := T.2; simp only [Knows] at k
  have q1 := row_cell k.1.1
  have q2 := row_cell k.2.1.1
  have q3 := row_cell k.2.2.1.1
  go_wp2_with fail
  refine (Ans.call C1.out _).mono ?_
  rintro e w2 ⟨rfl, hb⟩
  replace T := T.call hb; clear hb k q1 q2 q3
  have k := T.2; simp only [Knows] at k
  have q1 := row_cell k.1.1
  have q2 := row_cell k.2.1.1
  have q3 := row_cell k.2.2.1.1
  go_wp2_with fail
  refine (Ans.call C2.out _).mono ?_
  rintro e w3 ⟨rfl, hb⟩
  replace T := T.call hb; clear hb k q1 q2 q3
  have k := T.2; simp only [Knows] at k
  have q1 := row_cell k.1.1
  have q2 := row_cell k.2.1.1
  have q3 := row_cell k.2.2.1.1
  go_wp2_with fail
  refine (Ans.call C3.out _).mono ?_
  rintro e w4 ⟨rfl, hb⟩
  replace T := T.call hb; clear hb k q1 q2 q3
  have k := T.2; simp only [Knows] at k
  have q1 := row_cell k.1.1
  have q2 := row_cell k.2.1.1
  have q3 := row_cell k.2.2.1.1
  go_wp2_with fail
  refine (Ans.call C4.out _).mono ?_
  rintro e w5 ⟨rfl, hb⟩
  replace T := T.call hb; clear hb k q1 q2 q3
  have k := T.2; simp only [Knows] at k
  have q1 := row_cell k.1.1
  have q2 := row_cell k.2.1.1
  have q3 := row_cell k.2.2.1.1
  go_wp2_with fail
  refine (Ans.call C5.out _).mono ?_
  rintro e w6 ⟨rfl, hb⟩
  replace T := T.call hb; clear hb k q1 q2 q3
  have k := T.2; simp only [Knows] at k
  have q1 := row_cell k.1.1
  have q2 := row_cell k.2.1.1
  have q3 := row_cell k.2.2.1.1
  have f1 := row_frozen k.1.1
  have f2 := row_frozen k.2.1.1
  have f3 := row_frozen k.2.2.1.1
  go_wp2_with fail
  refine wp_region_st (by kernel_rfl) (by kernel_rfl) ?_
  repeat (go_big_quiet_step (first | (go_at_call 31; with_reducible exact C6.out.quiet) | (go_at_call 31; with_reducible exact C7.out.quiet) | (go_at_call 31; with_reducible exact C8.out.quiet)))
  refine wpQuiet_nil ?_
  rintro _ ⟨x9, rfl⟩
  go_wp2_with fail
  go_ret
  exact ⟨rfl, below_ext (((T.below.setCell (by simp) _).setCell (by simp <;> omega) _).setCell (by simp <;> omega) _) (by simp [World.setCell]; exact T.below.size) _⟩
theorem law_reads (a x v : Deed) (hka : a.key.size ≤ 140737488351232) (hva : a.val.size ≤ 140737488351232) (hkx : x.key.size ≤ 140737488351232) (hvx : x.val.size ≤ 140737488351232) (hkv : v.key.size ≤ 140737488351232) (hvv : v.val.size ≤ 140737488351232) : Ans Try.prog 10 #[.agg (EV a), .agg (EV x), .agg (EV v)] (.bool true) := by
  cases h1 : greatB a
  · cases h2 : greatB x
    · cases h3 : greatB v
      · cases h4 : writes x
        · exact lreads_4 a x v hka hva hkx hvx hkv hvv h1 h2 h3 h4
        · cases h5 : writes v
          · exact lreads_5 a x v hka hva hkx hvx hkv hvv h1 h2 h3 h4 h5
          · cases h6 : (x.key.toList == v.key.toList)
            · exact lreads_6 a x v hka hva hkx hvx hkv hvv h1 h2 h3 h4 h5 h6
            · exact lreads_7 a x v hka hva hkx hvx hkv hvv h1 h2 h3 h4 h5 h6
      · exact lreads_3 a x v hka hva hkx hvx hkv hvv h1 h2 h3
    · exact lreads_2 a x v hka hva hkx hvx hkv hvv h1 h2
  · exact lreads_1 a x v hka hva hkx hvx hkv hvv h1
end Go.Proofs.Ytnjnafmonijlnaa
