/- Several texts in one. -/
import Derived.Test.YtfgacjglfdehbaaDoorZ25

namespace Go.Proofs.YtfgacjglfdehbaaDoor
open Go.RowKit
set_option linter.unusedVariables false
attribute [local go_sem] row_alloc row_drew row_drewN row_ext row_setCell row_setRow size_ext setRow_alloc setRow_drew loadOf storeOf piece_lit loadVal_at storeVal_at allOne_lit EV_size EV_one EV_piece EV_0 EV_1 EV_2 EV_3 EV_4 EV_5
attribute [local go_sem high] cell_alloc frozen_alloc setCell_alloc cell_ext frozen_ext
attribute [local go_sem ↓] load_deed0 store_deed0
attribute [local go_sem] load_deed store_deed

attribute [local go_sem high] run_eql_deed
attribute [local go_sem] zero_deed


def clashB (a b : Deed) : Bool := !(a.kind == 0) && !(b.kind == 0) && ((!(a.ses == 0) && (a.ses == b.ses)) || touchB a b || touchB b a)
set_option maxHeartbeats 1000000 in
theorem clash_1 (a b : Deed) (ha : a.key.size ≤ maxLen) (hb : b.key.size ≤ maxLen) (ha0 : (a.kind == 0) = true) : Ans Tryd.prog 76 #[.agg (EV a), .agg (EV b)] (.bool (clashB a b)) := by
  intro w
  have e : clashB a b = false := by simp [clashB, ha0]
  have E := Lib.hid e; clear e
  have T := ((St.start w).new (EV a) 28).new (EV b) 28
  simp only [World.size_alloc] at T
  clear ha hb
  go_enter Tryd.func76, Tryd.ntmps76
  go_wp2_with fail
  go_ret
  exact ⟨congrArg (fun b => Ending.returned (.bool b)) E.out.symm, T.below⟩
set_option maxHeartbeats 1000000 in
theorem clash_2 (a b : Deed) (ha : a.key.size ≤ maxLen) (hb : b.key.size ≤ maxLen) (ha0 : (a.kind == 0) = false) (hb0 : (b.kind == 0) = true) : Ans Tryd.prog 76 #[.agg (EV a), .agg (EV b)] (.bool (clashB a b)) := by
  intro w
  have e : clashB a b = false := by simp [clashB, hb0]
  have E := Lib.hid e; clear e
  have T := ((St.start w).new (EV a) 28).new (EV b) 28
  simp only [World.size_alloc] at T
  clear ha hb
  go_enter Tryd.func76, Tryd.ntmps76
  go_wp2_with fail
  go_ret
  exact ⟨congrArg (fun b => Ending.returned (.bool b)) E.out.symm, T.below⟩
set_option maxHeartbeats 1000000 in
theorem clash_3 (a b : Deed) (ha : a.key.size ≤ maxLen) (hb : b.key.size ≤ maxLen) (ha0 : (a.kind == 0) = false) (hb0 : (b.kind == 0) = false) (hs0 : (a.ses == 0) = false) (hss : (a.ses == b.ses) = true) : Ans Tryd.prog 76 #[.agg (EV a), .agg (EV b)] (.bool (clashB a b)) := by
  intro w
  have hn0 : (a.ses != 0) = true := by simp [bne, hs0]
  have e : clashB a b = true := by simp [clashB, ha0, hb0, hs0, hss]
  have E := Lib.hid e; clear e
  have T := ((St.start w).new (EV a) 28).new (EV b) 28
  simp only [World.size_alloc] at T
  clear ha hb
  go_enter Tryd.func76, Tryd.ntmps76
  go_wp2_with fail
  go_ret
  exact ⟨congrArg (fun b => Ending.returned (.bool b)) E.out.symm, T.below⟩
set_option maxHeartbeats 1000000 in
theorem clash_4 (a b : Deed) (ha : a.key.size ≤ maxLen) (hb : b.key.size ≤ maxLen) (ha0 : (a.kind == 0) = false) (hb0 : (b.kind == 0) = false) (hs0 : (a.ses == 0) = true) (htab : touchB a b = true) : Ans Tryd.prog 76 #[.agg (EV a), .agg (EV b)] (.bool (clashB a b)) := by
  intro w
  have hn0 : (a.ses != 0) = false := by simp [bne, hs0]
  have e : clashB a b = true := by simp [clashB, ha0, hb0, hs0, htab]
  have E := Lib.hid e; clear e
  have T := ((St.start w).new (EV a) 28).new (EV b) 28
  simp only [World.size_alloc] at T
  have c1 := touches_any a b ha hb
  rw [htab] at c1
  have C1 := Lib.hid c1; clear c1
  clear htab
  clear ha hb
  go_enter Tryd.func76, Tryd.ntmps76
  go_wp2_with fail
  refine (Ans.call C1.out _).mono ?_
  rintro e w1 ⟨rfl, hb⟩
  replace T := T.call hb; clear hb
  have k := T.2; simp only [Knows] at k
  have q1 := row_cell k.2.1.1
  have q2 := row_cell k.1.1
  go_wp2_with fail
  go_ret
  exact ⟨congrArg (fun b => Ending.returned (.bool b)) E.out.symm, T.below⟩
set_option maxHeartbeats 1000000 in
theorem clash_5 (a b : Deed) (ha : a.key.size ≤ maxLen) (hb : b.key.size ≤ maxLen) (ha0 : (a.kind == 0) = false) (hb0 : (b.kind == 0) = false) (hs0 : (a.ses == 0) = true) (htab : touchB a b = false) : Ans Tryd.prog 76 #[.agg (EV a), .agg (EV b)] (.bool (clashB a b)) := by
  intro w
  have hn0 : (a.ses != 0) = false := by simp [bne, hs0]
  have e : clashB a b = touchB b a := by simp [clashB, ha0, hb0, hs0, htab]
  have E := Lib.hid e; clear e
  have T := ((St.start w).new (EV a) 28).new (EV b) 28
  simp only [World.size_alloc] at T
  have c1 := touches_any a b ha hb
  rw [htab] at c1
  have C1 := Lib.hid c1; clear c1
  have c2 := touches_any b a hb ha
  have C2 := Lib.hid c2; clear c2
  clear htab
  clear ha hb
  go_enter Tryd.func76, Tryd.ntmps76
  go_wp2_with fail
  refine (Ans.call C1.out _).mono ?_
  rintro e w1 ⟨rfl, hb⟩
  replace T := T.call hb; clear hb
  have k := T.2; simp only [Knows] at k
  have q1 := row_cell k.2.1.1
  have q2 := row_cell k.1.1
  go_wp2_with fail
  refine (Ans.call C2.out _).mono ?_
  rintro e w2 ⟨rfl, hb⟩
  replace T := T.call hb; clear hb k q1 q2
  have k := T.2; simp only [Knows] at k
  have q1 := row_cell k.2.1.1
  have q2 := row_cell k.1.1
  go_wp2_with fail
  go_ret
  exact ⟨congrArg (fun b => Ending.returned (.bool b)) E.out.symm, T.below⟩
set_option maxHeartbeats 1000000 in
theorem clash_6 (a b : Deed) (ha : a.key.size ≤ maxLen) (hb : b.key.size ≤ maxLen) (ha0 : (a.kind == 0) = false) (hb0 : (b.kind == 0) = false) (hs0 : (a.ses == 0) = false) (hss : (a.ses == b.ses) = false) (htab : touchB a b = true) : Ans Tryd.prog 76 #[.agg (EV a), .agg (EV b)] (.bool (clashB a b)) := by
  intro w
  have hn0 : (a.ses != 0) = true := by simp [bne, hs0]
  have e : clashB a b = true := by simp [clashB, ha0, hb0, hs0, hss, htab]
  have E := Lib.hid e; clear e
  have T := ((St.start w).new (EV a) 28).new (EV b) 28
  simp only [World.size_alloc] at T
  have c1 := touches_any a b ha hb
  rw [htab] at c1
  have C1 := Lib.hid c1; clear c1
  clear htab
  clear ha hb
  go_enter Tryd.func76, Tryd.ntmps76
  go_wp2_with fail
  refine (Ans.call C1.out _).mono ?_
  rintro e w1 ⟨rfl, hb⟩
  replace T := T.call hb; clear hb
  have k := T.2; simp only [Knows] at k
  have q1 := row_cell k.2.1.1
  have q2 := row_cell k.1.1
  go_wp2_with fail
  go_ret
  exact ⟨congrArg (fun b => Ending.returned (.bool b)) E.out.symm, T.below⟩
set_option maxHeartbeats 1000000 in
theorem clash_7 (a b : Deed) (ha : a.key.size ≤ maxLen) (hb : b.key.size ≤ maxLen) (ha0 : (a.kind == 0) = false) (hb0 : (b.kind == 0) = false) (hs0 : (a.ses == 0) = false) (hss : (a.ses == b.ses) = false) (htab : touchB a b = false) : Ans Tryd.prog 76 #[.agg (EV a), .agg (EV b)] (.bool (clashB a b)) := by
  intro w
  have hn0 : (a.ses != 0) = true := by simp [bne, hs0]
  have e : clashB a b = touchB b a := by simp [clashB, ha0, hb0, hs0, hss, htab]
  have E := Lib.hid e; clear e
  have T := ((St.start w).new (EV a) 28).new (EV b) 28
  simp only [World.size_alloc] at T
  have c1 := touches_any a b ha hb
  rw [htab] at c1
  have C1 := Lib.hid c1; clear c1
  have c2 := touches_any b a hb ha
  have C2 := Lib.hid c2; clear c2
  clear htab
  clear ha hb
  go_enter Tryd.func76, Tryd.ntmps76
  go_wp2_with fail
  refine (Ans.call C1.out _).mono ?_
  rintro e w1 ⟨rfl, hb⟩
  replace T := T.call hb; clear hb
  have k := T.2; simp only [Knows] at k
  have q1 := row_cell k.2.1.1
  have q2 := row_cell k.1.1
  go_wp2_with fail
  refine (Ans.call C2.out _).mono ?_
  rintro e w2 ⟨rfl, hb⟩
  replace T := T.call hb; clear hb k q1 q2
  have k := T.2; simp only [Knows] at k
  have q1 := row_cell k.2.1.1
  have q2 := row_cell k.1.1
  go_wp2_with fail
  go_ret
  exact ⟨congrArg (fun b => Ending.returned (.bool b)) E.out.symm, T.below⟩
theorem clash_any (a b : Deed) (ha : a.key.size ≤ maxLen) (hb : b.key.size ≤ maxLen) : Ans Tryd.prog 76 #[.agg (EV a), .agg (EV b)] (.bool (clashB a b)) := by
  cases h1 : (a.kind == 0)
  · cases h2 : (b.kind == 0)
    · cases h3 : (a.ses == 0)
      · cases h4 : (a.ses == b.ses)
        · cases h5 : touchB a b
          · exact clash_7 a b ha hb h1 h2 h3 h4 h5
          · exact clash_6 a b ha hb h1 h2 h3 h4 h5
        · exact clash_3 a b ha hb h1 h2 h3 h4
      · cases h5 : touchB a b
        · exact clash_5 a b ha hb h1 h2 h3 h5
        · exact clash_4 a b ha hb h1 h2 h3 h5
    · exact clash_2 a b ha hb h1 h2
  · exact clash_1 a b ha hb h1
end Go.Proofs.YtfgacjglfdehbaaDoor

namespace Go.Proofs.YtfgacjglfdehbaaDoor
open Go.RowKit
set_option linter.unusedVariables false
attribute [local go_sem] row_alloc row_drew row_drewN row_ext row_setCell row_setRow size_ext setRow_alloc setRow_drew loadOf storeOf piece_lit loadVal_at storeVal_at allOne_lit EV_size EV_one EV_piece EV_0 EV_1 EV_2 EV_3 EV_4 EV_5
attribute [local go_sem high] cell_alloc frozen_alloc setCell_alloc cell_ext frozen_ext
attribute [local go_sem ↓] load_deed0 store_deed0
attribute [local go_sem] load_deed store_deed

attribute [local go_sem high] run_eql_deed
attribute [local go_sem] zero_deed


end Go.Proofs.YtfgacjglfdehbaaDoor
