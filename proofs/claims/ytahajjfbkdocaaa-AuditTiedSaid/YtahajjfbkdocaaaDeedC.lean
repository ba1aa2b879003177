import Derived.Test.YtahajjfbkdocaaaDeedA
namespace Go.Proofs.Ytahajjfbkdocaaa
open Go.RowKit
attribute [local go_sem] row_alloc row_drew row_drewN row_ext row_setCell row_setRow size_ext setRow_alloc setRow_drew loadOf storeOf piece_lit loadVal_at storeVal_at allOne_lit EV_size EV_one EV_piece EV_0 EV_1 EV_2 EV_3 EV_4 EV_5
attribute [local go_sem high] cell_alloc frozen_alloc setCell_alloc cell_ext frozen_ext
attribute [local go_sem ↓] load_deed0 store_deed0
attribute [local go_sem] load_deed store_deed

attribute [local go_sem high] run_eql_deed
attribute [local go_sem] zero_deed

def preB (s p : ByteArray) : Bool := decide (p.size ≤ s.size) && ((s.extract 0 p.size).toList == p.toList)
set_option maxHeartbeats 1000000 in
set_option linter.unusedVariables false in
theorem pre_any (s p : ByteArray) (hs : s.size ≤ maxLen) (hp : p.size ≤ maxLen) : Ans Try.prog 38 #[.string s, .string p] (.bool (preB s p)) := by
  intro w
  unfold maxLen at hs hp
  by_cases h : p.size ≤ s.size
  · have h' : decide ((p.size : Int) ≤ (s.size : Int)) = true := by simpa using h
    go_enter Try.func38, Try.ntmps38
    go_wp2
    all_goals go_ret
    all_goals exact ⟨congrArg (fun b => Ending.returned (.bool b)) (by simp [preB, h]), Below.refl _ _⟩
  · have h' : decide ((p.size : Int) ≤ (s.size : Int)) = false := by simpa using h
    go_enter Try.func38, Try.ntmps38
    go_wp2
    all_goals go_ret
    all_goals exact ⟨congrArg (fun b => Ending.returned (.bool b)) (by simp [preB, h]), Below.refl _ _⟩
def aboutB (d : Deed) (k : ByteArray) : Bool := if d.kind = 5 then preB k d.key else d.key.toList == k.toList
set_option maxHeartbeats 1000000 in
set_option linter.unusedVariables false in
theorem about_any (d : Deed) (k : ByteArray) (hs : d.key.size ≤ maxLen) (hp : k.size ≤ maxLen) : Ans Try.prog 20 #[.agg (EV d), .string k] (.bool (aboutB d k)) := by
  intro w
  unfold maxLen at hs hp
  by_cases h5 : d.kind = 5
  · have h5' : (d.kind == 5) = true := by simpa using h5
    have e : aboutB d k = preB k d.key := if_pos h5
    have E := Lib.hid e; clear e h5
    by_cases h : d.key.size ≤ k.size
    · have e : preB k d.key = ((k.extract 0 d.key.size).toList == d.key.toList) := by simp [preB, h]
      have E2 := Lib.hid e; clear e
      go_enter Try.func20, Try.ntmps20
      go_wp2
      go_quiet (fail)
      go_wp2
      go_ret
      exact ⟨congrArg (fun b => Ending.returned (.bool b)) (by rw [E.out, E2.out]), below_drewN ((Below.refl _ _).alloc (Nat.le_refl _) _) _⟩
    · have e : preB k d.key = false := by simp [preB, h]
      have E2 := Lib.hid e; clear e
      have h' : decide ((d.key.size : Int) ≤ (k.size : Int)) = false := by simpa using h
      go_enter Try.func20, Try.ntmps20
      go_wp2
      go_quiet (fail)
      go_wp2
      go_ret
      exact ⟨congrArg (fun b => Ending.returned (.bool b)) (by rw [E.out, E2.out]), below_drewN ((Below.refl _ _).alloc (Nat.le_refl _) _) _⟩
  · have h5' : (d.kind == 5) = false := by simpa using h5
    have e : aboutB d k = (d.key.toList == k.toList) := if_neg h5
    have E := Lib.hid e; clear e h5
    go_enter Try.func20, Try.ntmps20
    go_wp2
    go_ret
    exact ⟨congrArg (fun b => Ending.returned (.bool b)) (by rw [E.out]), ((Below.refl _ _).alloc (Nat.le_refl _) _)⟩
def touchB (r x : Deed) : Bool := writes x && !(r.kind == 0) && aboutB r x.key
set_option maxHeartbeats 1000000 in
theorem touches_any (r x : Deed) (hs : r.key.size ≤ maxLen) (hp : x.key.size ≤ maxLen) : Ans Try.prog 31 #[.agg (EV r), .agg (EV x)] (.bool (touchB r x)) := by
  intro w
  have c1 := writes_any x
  have c2 := pre_any x.key r.key hp hs
  have C2 := Lib.hid c2; clear c2
  have T := ((St.start w).new (EV r) 32).new (EV x) 32
  cases hw : writes x
  all_goals rw [hw] at c1
  all_goals have C1 := Lib.hid c1; clear c1
  · have e : touchB r x = false := by simp [touchB, hw]
    have E := Lib.hid e; clear e hw
    go_enter Try.func31, Try.ntmps31
    go_wp2_with fail
    refine (Ans.call C1.out _).mono ?_
    rintro e w1 ⟨rfl, hb⟩
    replace T := T.call hb; clear hb
    have k := T.2; simp only [Knows, World.size_alloc] at k T
    go_wp2
    go_ret
    exact ⟨congrArg (fun b => Ending.returned (.bool b)) E.out.symm, T.below⟩
  · by_cases h0 : r.kind = 0
    · have h0' : (r.kind == 0) = true := by simpa using h0
      have e : touchB r x = false := by simp [touchB, h0']
      have E := Lib.hid e; clear e hw h0
      go_enter Try.func31, Try.ntmps31
      go_wp2_with fail
      refine (Ans.call C1.out _).mono ?_
      rintro e w1 ⟨rfl, hb⟩
      replace T := T.call hb; clear hb
      have k := T.2; simp only [Knows, World.size_alloc] at k T
      have hc := row_cell k.2.1.1
      go_wp2
      go_ret
      exact ⟨congrArg (fun b => Ending.returned (.bool b)) E.out.symm, T.below⟩
    · have h0' : (r.kind == 0) = false := by simpa using h0
      by_cases h5 : r.kind = 5
      · have h5' : (r.kind == 5) = true := by simpa using h5
        have e : touchB r x = preB x.key r.key := by simp [touchB, hw, aboutB, h5]
        have E := Lib.hid e; clear e hw h0 h5
        go_enter Try.func31, Try.ntmps31
        go_wp2_with fail
        refine (Ans.call C1.out _).mono ?_
        rintro e w1 ⟨rfl, hb⟩
        replace T := T.call hb; clear hb
        have k := T.2; simp only [Knows, World.size_alloc] at k T
        have hc := row_cell k.2.1.1
        have hc2 := row_cell k.1.1
        go_wp2_with fail
        refine (Ans.call C2.out _).mono ?_
        rintro e w2 ⟨rfl, hb⟩
        replace T := T.call hb; clear hb
        go_wp2_with fail
        go_ret
        exact ⟨congrArg (fun b => Ending.returned (.bool b)) E.out.symm, T.below⟩
      · have h5' : (r.kind == 5) = false := by simpa using h5
        have e : touchB r x = (r.key.toList == x.key.toList) := by simp [touchB, h0', hw, aboutB, h5]
        have E := Lib.hid e; clear e hw h0 h5
        go_enter Try.func31, Try.ntmps31
        go_wp2_with fail
        refine (Ans.call C1.out _).mono ?_
        rintro e w1 ⟨rfl, hb⟩
        replace T := T.call hb; clear hb
        have k := T.2; simp only [Knows, World.size_alloc] at k T
        have hc := row_cell k.2.1.1
        have hc2 := row_cell k.1.1
        go_wp2_with fail
        go_ret
        exact ⟨congrArg (fun b => Ending.returned (.bool b)) E.out.symm, T.below⟩
end Go.Proofs.Ytahajjfbkdocaaa
