/- Several texts in one. -/
import Derived.Test.YtfgacjglfdehbaaGreatDoorZ3
import Derived.Test.YtfgacjglfdehbaaGreatDoorZ24

namespace Go.Proofs.YtfgacjglfdehbaaGreatDoor
open Go.RowKit
attribute [local go_sem] row_alloc row_drew row_drewN row_ext row_setCell row_setRow size_ext setRow_alloc setRow_drew loadOf storeOf piece_lit DV_piece loadVal_at storeVal_at allOne_lit DV_size DV_one
attribute [local go_sem high] cell_alloc frozen_alloc setCell_alloc cell_ext frozen_ext
attribute [local go_sem ↓] index_deps0 load_deps0 store_deps0
attribute [local go_sem] index_deps load_deps store_deps
set_option maxHeartbeats 400000 in
theorem with_yes (d : Nat → Int) (r n : Int) (hr0 : 0 ≤ r) (hr : r < 7) : 
    Ans Tryz.prog 72 #[.agg (DV d), .agg #[.int .i64 r, .int .i64 n]] (.agg (DV (upd d r.toNat (max (d r.toNat) n)))) := by
  intro w
  have hD := DV_get d r.toNat (by omega)
  have hset := DV_set d r.toNat 
  generalize d r.toNat = v at *
  go_enter Tryz.func72, Tryz.ntmps72
  go_wp2
  go_region
  all_goals go_wp2
  · refine ret_deps (upd d r.toNat n) rfl rfl rfl (by go_simp) ⟨?_, ?_⟩
    · rw [Int.max_eq_right (by omega)]
    · exact ((((Below.refl _ _).alloc (Nat.le_refl _) _).alloc (by simp) _).alloc (by simp; omega) _).drew
  · refine ret_deps (upd d r.toNat v) rfl rfl rfl (by go_simp) ⟨?_, ?_⟩
    · rw [Int.max_eq_left (by omega)]
    · exact ((((Below.refl _ _).alloc (Nat.le_refl _) _).alloc (by simp) _).alloc (by simp; omega) _).drew
set_option maxHeartbeats 400000 in
theorem with_no (d : Nat → Int) (r n : Int) (h : ¬ (0 ≤ r ∧ r < 7)) : Ans Tryz.prog 72 #[.agg (DV d), .agg #[.int .i64 r, .int .i64 n]] (.agg (DV d)) := by
  intro w
  by_cases hr0 : 0 ≤ r
  · have hr : ¬ r < 7 := by omega
    clear h
    go_enter Tryz.func72, Tryz.ntmps72
    go_wp2
    refine ret_deps d rfl rfl rfl (by go_simp) ⟨rfl, ?_⟩
    exact ((((Below.refl _ _).alloc (Nat.le_refl _) _).alloc (by simp) _).alloc (by simp; omega) _)
  · clear h
    go_enter Tryz.func72, Tryz.ntmps72
    go_wp2
    refine ret_deps d rfl rfl rfl (by go_simp) ⟨rfl, ?_⟩
    exact ((((Below.refl _ _).alloc (Nat.le_refl _) _).alloc (by simp) _).alloc (by simp; omega) _)
def withD (d : Nat → Int) (r n : Int) : Nat → Int := if 0 ≤ r ∧ r < 7 then upd d r.toNat (max (d r.toNat) n) else d
theorem with_any (d : Nat → Int) (r n : Int) : Ans Tryz.prog 72 #[.agg (DV d), .agg #[.int .i64 r, .int .i64 n]] (.agg (DV (withD d r n))) := by
  by_cases h : 0 ≤ r ∧ r < 7
  · rw [show withD d r n = upd d r.toNat (max (d r.toNat) n) from if_pos h]; exact with_yes d r n h.1 h.2
  · rw [show withD d r n = d from if_neg h]; exact with_no d r n h

end Go.Proofs.YtfgacjglfdehbaaGreatDoor

namespace Go.Proofs.YtfgacjglfdehbaaGreatDoor
open Go.RowKit
attribute [local go_sem] row_alloc row_drew row_drewN row_ext row_setCell row_setRow size_ext setRow_alloc setRow_drew loadOf storeOf piece_lit loadVal_at storeVal_at allOne_lit EV_size EV_one EV_piece EV_0 EV_1 EV_2 EV_3 EV_4 EV_5
attribute [local go_sem high] cell_alloc frozen_alloc setCell_alloc cell_ext frozen_ext
attribute [local go_sem ↓] load_deed0 store_deed0
attribute [local go_sem] load_deed store_deed
def writes (d : Deed) : Bool := decide (2 ≤ d.kind ∧ d.kind ≤ 4)
set_option maxHeartbeats 1000000 in
theorem writes_any (d : Deed) : Ans Tryz.prog 98 #[.agg (EV d)] (.bool (writes d)) := by
  intro w
  go_enter Tryz.func98, Tryz.ntmps98
  go_wp2
  all_goals
    go_ret
    refine ⟨congrArg (fun b => Ending.returned (.bool b)) ?_, (Below.refl _ _).alloc (Nat.le_refl _) _⟩
    unfold writes
    first
      | exact (decide_eq_true (by omega)).symm
      | (rw [Bool.eq_iff_iff, decide_eq_true_eq]; simp only [Bool.or_eq_true, beq_iff_eq]; constructor <;> intro h <;> omega)
end Go.Proofs.YtfgacjglfdehbaaGreatDoor

namespace Go.Proofs.YtfgacjglfdehbaaGreatDoor
open Go.RowKit
attribute [local go_sem] row_alloc row_drew row_drewN row_ext row_setCell row_setRow size_ext setRow_alloc setRow_drew loadOf storeOf piece_lit loadVal_at storeVal_at allOne_lit EV_size EV_one EV_piece EV_0 EV_1 EV_2 EV_3 EV_4 EV_5
attribute [local go_sem high] cell_alloc frozen_alloc setCell_alloc cell_ext frozen_ext
attribute [local go_sem ↓] load_deed0 store_deed0
attribute [local go_sem] load_deed store_deed

attribute [local go_sem high] run_eql_deed
attribute [local go_sem] zero_deed

def preB (s p : ByteArray) : Bool := decide (p.size ≤ s.size) && ((s.extract 0 p.size).toList == p.toList)
set_option maxHeartbeats 1000000 in
set_option linter.unusedVariables false in
theorem pre_any (s p : ByteArray) (hs : s.size ≤ maxLen) (hp : p.size ≤ maxLen) : Ans Tryz.prog 87 #[.string s, .string p] (.bool (preB s p)) := by
  intro w
  unfold maxLen at hs hp
  by_cases h : p.size ≤ s.size
  · have h' : decide ((p.size : Int) ≤ (s.size : Int)) = true := by simpa using h
    go_enter Tryz.func87, Tryz.ntmps87
    go_wp2
    all_goals go_ret
    all_goals exact ⟨congrArg (fun b => Ending.returned (.bool b)) (by simp [preB, h]), Below.refl _ _⟩
  · have h' : decide ((p.size : Int) ≤ (s.size : Int)) = false := by simpa using h
    go_enter Tryz.func87, Tryz.ntmps87
    go_wp2
    all_goals go_ret
    all_goals exact ⟨congrArg (fun b => Ending.returned (.bool b)) (by simp [preB, h]), Below.refl _ _⟩
def aboutB (d : Deed) (k : ByteArray) : Bool := if d.kind = 5 then preB k d.key else d.key.toList == k.toList
def touchB (r x : Deed) : Bool := writes x && !(r.kind == 0) && aboutB r x.key
set_option maxHeartbeats 1000000 in
theorem touches_any (r x : Deed) (hs : r.key.size ≤ maxLen) (hp : x.key.size ≤ maxLen) : Ans Tryz.prog 88 #[.agg (EV r), .agg (EV x)] (.bool (touchB r x)) := by
  intro w
  have c1 := writes_any x
  have c2 := pre_any x.key r.key hp hs
  have C2 := Lib.hid c2; clear c2
  have T := ((St.start w).new (EV r) 36).new (EV x) 36
  cases hw : writes x
  all_goals rw [hw] at c1
  all_goals have C1 := Lib.hid c1; clear c1
  · have e : touchB r x = false := by simp [touchB, hw]
    have E := Lib.hid e; clear e hw
    go_enter Tryz.func88, Tryz.ntmps88
    go_wp2_with fail
    refine (Ans.call C1.out _).mono ?_
    rintro e w1 ⟨rfl, hb⟩
    replace T := T.call hb; clear hb
    have k := T.2; simp only [Knows, World.size_alloc] at k T
    go_wp2
    go_ret
    exact ⟨congrArg (fun b => Ending.returned (.bool b)) E.out.symm, T.below⟩
  · by_cases h0 : r.kind = 0
    · have h0' : (r.kind == 0) = true := by simpa using h0
      have e : touchB r x = false := by simp [touchB, h0']
      have E := Lib.hid e; clear e hw h0
      go_enter Tryz.func88, Tryz.ntmps88
      go_wp2_with fail
      refine (Ans.call C1.out _).mono ?_
      rintro e w1 ⟨rfl, hb⟩
      replace T := T.call hb; clear hb
      have k := T.2; simp only [Knows, World.size_alloc] at k T
      have hc := row_cell k.2.1.1
      go_wp2
      go_ret
      exact ⟨congrArg (fun b => Ending.returned (.bool b)) E.out.symm, T.below⟩
    · have h0' : (r.kind == 0) = false := by simpa using h0
      by_cases h5 : r.kind = 5
      · have h5' : (r.kind == 5) = true := by simpa using h5
        have e : touchB r x = preB x.key r.key := by simp [touchB, hw, aboutB, h5]
        have E := Lib.hid e; clear e hw h0 h5
        go_enter Tryz.func88, Tryz.ntmps88
        go_wp2_with fail
        refine (Ans.call C1.out _).mono ?_
        rintro e w1 ⟨rfl, hb⟩
        replace T := T.call hb; clear hb
        have k := T.2; simp only [Knows, World.size_alloc] at k T
        have hc := row_cell k.2.1.1
        have hc2 := row_cell k.1.1
        go_wp2_with fail
        refine (Ans.call C2.out _).mono ?_
        rintro e w2 ⟨rfl, hb⟩
        replace T := T.call hb; clear hb
        go_wp2_with fail
        go_ret
        exact ⟨congrArg (fun b => Ending.returned (.bool b)) E.out.symm, T.below⟩
      · have h5' : (r.kind == 5) = false := by simpa using h5
        have e : touchB r x = (r.key.toList == x.key.toList) := by simp [touchB, h0', hw, aboutB, h5]
        have E := Lib.hid e; clear e hw h0 h5
        go_enter Tryz.func88, Tryz.ntmps88
        go_wp2_with fail
        refine (Ans.call C1.out _).mono ?_
        rintro e w1 ⟨rfl, hb⟩
        replace T := T.call hb; clear hb
        have k := T.2; simp only [Knows, World.size_alloc] at k T
        have hc := row_cell k.2.1.1
        have hc2 := row_cell k.1.1
        go_wp2_with fail
        go_ret
        exact ⟨congrArg (fun b => Ending.returned (.bool b)) E.out.symm, T.below⟩
end Go.Proofs.YtfgacjglfdehbaaGreatDoor

namespace Go.Proofs.YtfgacjglfdehbaaGreatDoor
open Go.RowKit
set_option linter.unusedVariables false
attribute [local go_sem] row_alloc row_drew row_drewN row_ext row_setCell row_setRow size_ext setRow_alloc setRow_drew loadOf storeOf piece_lit loadVal_at storeVal_at allOne_lit EV_size EV_one EV_piece EV_0 EV_1 EV_2 EV_3 EV_4 EV_5
attribute [local go_sem high] cell_alloc frozen_alloc setCell_alloc cell_ext frozen_ext
attribute [local go_sem ↓] load_deed0 store_deed0
attribute [local go_sem] load_deed store_deed

attribute [local go_sem high] run_eql_deed
attribute [local go_sem] zero_deed


def clashB (a b : Deed) : Bool := !(a.kind == 0) && !(b.kind == 0) && ((!(a.ses == 0) && (a.ses == b.ses)) || touchB a b || touchB b a)
set_option maxHeartbeats 1000000 in
theorem clash_1 (a b : Deed) (ha : a.key.size ≤ maxLen) (hb : b.key.size ≤ maxLen) (ha0 : (a.kind == 0) = true) : Ans Tryz.prog 71 #[.agg (EV a), .agg (EV b)] (.bool (clashB a b)) := by
  intro w
  have e : clashB a b = false := by simp [clashB, ha0]
  have E := Lib.hid e; clear e
  have T := ((St.start w).new (EV a) 36).new (EV b) 36
  simp only [World.size_alloc] at T
  clear ha hb
  go_enter Tryz.func71, Tryz.ntmps71
  go_wp2_with fail
  go_ret
  exact ⟨congrArg (fun b => Ending.returned (.bool b)) E.out.symm, T.below⟩
set_option maxHeartbeats 1000000 in
theorem clash_2 (a b : Deed) (ha : a.key.size ≤ maxLen) (hb : b.key.size ≤ maxLen) (ha0 : (a.kind == 0) = false) (hb0 : (b.kind == 0) = true) : Ans Tryz.prog 71 #[.agg (EV a), .agg (EV b)] (.bool (clashB a b)) := by
  intro w
  have e : clashB a b = false := by simp [clashB, hb0]
  have E := Lib.hid e; clear e
  have T := ((St.start w).new (EV a) 36).new (EV b) 36
  simp only [World.size_alloc] at T
  clear ha hb
  go_enter Tryz.func71, Tryz.ntmps71
  go_wp2_with fail
  go_ret
  exact ⟨congrArg (fun b => Ending.returned (.bool b)) E.out.symm, T.below⟩
set_option maxHeartbeats 1000000 in
theorem clash_3 (a b : Deed) (ha : a.key.size ≤ maxLen) (hb : b.key.size ≤ maxLen) (ha0 : (a.kind == 0) = false) (hb0 : (b.kind == 0) = false) (hs0 : (a.ses == 0) = false) (hss : (a.ses == b.ses) = true) : Ans Tryz.prog 71 #[.agg (EV a), .agg (EV b)] (.bool (clashB a b)) := by
  intro w
  have hn0 : (a.ses != 0) = true := by simp [bne, hs0]
  have e : clashB a b = true := by simp [clashB, ha0, hb0, hs0, hss]
  have E := Lib.hid e; clear e
  have T := ((St.start w).new (EV a) 36).new (EV b) 36
  simp only [World.size_alloc] at T
  clear ha hb
  go_enter Tryz.func71, Tryz.ntmps71
  go_wp2_with fail
  go_ret
  exact ⟨congrArg (fun b => Ending.returned (.bool b)) E.out.symm, T.below⟩
set_option maxHeartbeats 1000000 in
theorem clash_4 (a b : Deed) (ha : a.key.size ≤ maxLen) (hb : b.key.size ≤ maxLen) (ha0 : (a.kind == 0) = false) (hb0 : (b.kind == 0) = false) (hs0 : (a.ses == 0) = true) (htab : touchB a b = true) : Ans Tryz.prog 71 #[.agg (EV a), .agg (EV b)] (.bool (clashB a b)) := by
  intro w
  have hn0 : (a.ses != 0) = false := by simp [bne, hs0]
  have e : clashB a b = true := by simp [clashB, ha0, hb0, hs0, htab]
  have E := Lib.hid e; clear e
  have T := ((St.start w).new (EV a) 36).new (EV b) 36
  simp only [World.size_alloc] at T
  have c1 := touches_any a b ha hb
  rw [htab] at c1
  have C1 := Lib.hid c1; clear c1
  clear htab
  clear ha hb
  go_enter Tryz.func71, Tryz.ntmps71
  go_wp2_with fail
  refine (Ans.call C1.out _).mono ?_
  rintro e w1 ⟨rfl, hb⟩
  replace T := T.call hb; clear hb
  have k := T.2; simp only [Knows] at k
  have q1 := row_cell k.2.1.1
  have q2 := row_cell k.1.1
  go_wp2_with fail
  go_ret
  exact ⟨congrArg (fun b => Ending.returned (.bool b)) E.out.symm, T.below⟩
set_option maxHeartbeats 1000000 in
theorem clash_5 (a b : Deed) (ha : a.key.size ≤ maxLen) (hb : b.key.size ≤ maxLen) (ha0 : (a.kind == 0) = false) (hb0 : (b.kind == 0) = false) (hs0 : (a.ses == 0) = true) (htab : touchB a b = false) : Ans Tryz.prog 71 #[.agg (EV a), .agg (EV b)] (.bool (clashB a b)) := by
  intro w
  have hn0 : (a.ses != 0) = false := by simp [bne, hs0]
  have e : clashB a b = touchB b a := by simp [clashB, ha0, hb0, hs0, htab]
  have E := Lib.hid e; clear e
  have T := ((St.start w).new (EV a) 36).new (EV b) 36
  simp only [World.size_alloc] at T
  have c1 := touches_any a b ha hb
  rw [htab] at c1
  have C1 := Lib.hid c1; clear c1
  have c2 := touches_any b a hb ha
  have C2 := Lib.hid c2; clear c2
  clear htab
  clear ha hb
  go_enter Tryz.func71, Tryz.ntmps71
  go_wp2_with fail
  refine (Ans.call C1.out _).mono ?_
  rintro e w1 ⟨rfl, hb⟩
  replace T := T.call hb; clear hb
  have k := T.2; simp only [Knows] at k
  have q1 := row_cell k.2.1.1
  have q2 := row_cell k.1.1
  go_wp2_with fail
  refine (Ans.call C2.out _).mono ?_
  rintro e w2 ⟨rfl, hb⟩
  replace T := T.call hb; clear hb k q1 q2
  have k := T.2; simp only [Knows] at k
  have q1 := row_cell k.2.1.1
  have q2 := row_cell k.1.1
  go_wp2_with fail
  go_ret
  exact ⟨congrArg (fun b => Ending.returned (.bool b)) E.out.symm, T.below⟩
set_option maxHeartbeats 1000000 in
theorem clash_6 (a b : Deed) (ha : a.key.size ≤ maxLen) (hb : b.key.size ≤ maxLen) (ha0 : (a.kind == 0) = false) (hb0 : (b.kind == 0) = false) (hs0 : (a.ses == 0) = false) (hss : (a.ses == b.ses) = false) (htab : touchB a b = true) : Ans Tryz.prog 71 #[.agg (EV a), .agg (EV b)] (.bool (clashB a b)) := by
  intro w
  have hn0 : (a.ses != 0) = true := by simp [bne, hs0]
  have e : clashB a b = true := by simp [clashB, ha0, hb0, hs0, hss, htab]
  have E := Lib.hid e; clear e
  have T := ((St.start w).new (EV a) 36).new (EV b) 36
  simp only [World.size_alloc] at T
  have c1 := touches_any a b ha hb
  rw [htab] at c1
  have C1 := Lib.hid c1; clear c1
  clear htab
  clear ha hb
  go_enter Tryz.func71, Tryz.ntmps71
  go_wp2_with fail
  refine (Ans.call C1.out _).mono ?_
  rintro e w1 ⟨rfl, hb⟩
  replace T := T.call hb; clear hb
  have k := T.2; simp only [Knows] at k
  have q1 := row_cell k.2.1.1
  have q2 := row_cell k.1.1
  go_wp2_with fail
  go_ret
  exact ⟨congrArg (fun b => Ending.returned (.bool b)) E.out.symm, T.below⟩
set_option maxHeartbeats 1000000 in
theorem clash_7 (a b : Deed) (ha : a.key.size ≤ maxLen) (hb : b.key.size ≤ maxLen) (ha0 : (a.kind == 0) = false) (hb0 : (b.kind == 0) = false) (hs0 : (a.ses == 0) = false) (hss : (a.ses == b.ses) = false) (htab : touchB a b = false) : Ans Tryz.prog 71 #[.agg (EV a), .agg (EV b)] (.bool (clashB a b)) := by
  intro w
  have hn0 : (a.ses != 0) = true := by simp [bne, hs0]
  have e : clashB a b = touchB b a := by simp [clashB, ha0, hb0, hs0, hss, htab]
  have E := Lib.hid e; clear e
  have T := ((St.start w).new (EV a) 36).new (EV b) 36
  simp only [World.size_alloc] at T
  have c1 := touches_any a b ha hb
  rw [htab] at c1
  have C1 := Lib.hid c1; clear c1
  have c2 := touches_any b a hb ha
  have C2 := Lib.hid c2; clear c2
  clear htab
  clear ha hb
  go_enter Tryz.func71, Tryz.ntmps71
  go_wp2_with fail
  refine (Ans.call C1.out _).mono ?_
  rintro e w1 ⟨rfl, hb⟩
  replace T := T.call hb; clear hb
  have k := T.2; simp only [Knows] at k
  have q1 := row_cell k.2.1.1
  have q2 := row_cell k.1.1
  go_wp2_with fail
  refine (Ans.call C2.out _).mono ?_
  rintro e w2 ⟨rfl, hb⟩
  replace T := T.call hb; clear hb k q1 q2
  have k := T.2; simp only [Knows] at k
  have q1 := row_cell k.2.1.1
  have q2 := row_cell k.1.1
  go_wp2_with fail
  go_ret
  exact ⟨congrArg (fun b => Ending.returned (.bool b)) E.out.symm, T.below⟩
theorem clash_any (a b : Deed) (ha : a.key.size ≤ maxLen) (hb : b.key.size ≤ maxLen) : Ans Tryz.prog 71 #[.agg (EV a), .agg (EV b)] (.bool (clashB a b)) := by
  cases h1 : (a.kind == 0)
  · cases h2 : (b.kind == 0)
    · cases h3 : (a.ses == 0)
      · cases h4 : (a.ses == b.ses)
        · cases h5 : touchB a b
          · exact clash_7 a b ha hb h1 h2 h3 h4 h5
          · exact clash_6 a b ha hb h1 h2 h3 h4 h5
        · exact clash_3 a b ha hb h1 h2 h3 h4
      · cases h5 : touchB a b
        · exact clash_5 a b ha hb h1 h2 h3 h5
        · exact clash_4 a b ha hb h1 h2 h3 h5
    · exact clash_2 a b ha hb h1 h2
  · exact clash_1 a b ha hb h1
end Go.Proofs.YtfgacjglfdehbaaGreatDoor

namespace Go.Proofs.YtfgacjglfdehbaaGreatDoor
open Go.RowKit
set_option linter.unusedVariables false
attribute [local go_sem] row_alloc row_drew row_drewN row_ext row_setCell row_setRow size_ext setRow_alloc setRow_drew loadOf storeOf piece_lit loadVal_at storeVal_at allOne_lit EV_size EV_one EV_piece EV_0 EV_1 EV_2 EV_3 EV_4 EV_5
attribute [local go_sem high] cell_alloc frozen_alloc setCell_alloc cell_ext frozen_ext
attribute [local go_sem ↓] load_deed0 store_deed0
attribute [local go_sem] load_deed store_deed

attribute [local go_sem high] run_eql_deed
attribute [local go_sem] zero_deed


end Go.Proofs.YtfgacjglfdehbaaGreatDoor
