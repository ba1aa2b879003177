/- Several texts in one. -/
import Derived.Test.YtpganpiidgkofaaY29
import Derived.Test.YtpganpiidgkofaaY6
import Derived.Test.YtpganpiidgkofaaY3
/- Layer 24: one finding more, the order and the calls left where they lie; rows of a slice of the call's own. -/
namespace Go.Proofs.Ytpganpiidgkofaa
open Go.RowKit
set_option linter.unusedVariables false
attribute [local go_sem] row_alloc row_drew row_drewN row_ext row_setCell row_setRow size_ext setRow_alloc setRow_drew loadOf storeOf piece_lit loadVal_at storeVal_at allOne_lit buildOf buildRes_some
attribute [local go_sem high] cell_alloc frozen_alloc setCell_alloc cell_ext frozen_ext cell_setRow frozen_setRow
attribute [local go_sem ↓] TDeed_ld0 TDeed_st0 TDeed_fd0 TDeed_bd0
attribute [local go_sem] TDeed_size TDeed_one TDeed_piece TDeed_c0 TDeed_c1 TDeed_c2 TDeed_c3 TDeed_c4 TDeed_c5 TDeed_set_kind TDeed_set_key TDeed_set_val TDeed_set_ver TDeed_set_ses TDeed_set_num TDeed_ld TDeed_st TDeed_f_kind TDeed_f_key TDeed_f_val TDeed_f_ver TDeed_f_ses TDeed_f_num TDeed_bd TDeed_fl TDeed_fl_kind TDeed_fl_key TDeed_fl_val TDeed_fl_ver TDeed_fl_ses TDeed_fl_num
attribute [local go_sem high] TDeed_eql TDeed_neq
attribute [local go_sem ↓] index_deps0 load_deps0 store_deps0
attribute [local go_sem] DV_piece DV_size DV_one index_deps load_deps store_deps
attribute [local go_sem high] TDeps_eql TDeps_neq
attribute [local go_sem ↓] TCall_ld0 TCall_st0 TCall_fd0 TCall_bd0
attribute [local go_sem] TCall_size TCall_one TCall_piece TCall_c0 TCall_c1 TCall_c2 TCall_c3 TCall_c4 TCall_c5 TCall_c6 TCall_c7 TCall_c8 TCall_c9 TCall_c10 TCall_c11 TCall_c12 TCall_c13 TCall_p_deed TCall_put_deed TCall_p_deps TCall_put_deps TCall_set_seq TCall_ld TCall_st TCall_f_deed TCall_f_deps TCall_f_seq TCall_bd TCall_fl TCall_fl_deed TCall_fl_deps TCall_fl_seq
attribute [local go_sem high] TCall_eql TCall_neq
attribute [local go_sem ↓] TItem_ld0 TItem_st0 TItem_fd0 TItem_bd0
attribute [local go_sem] TItem_size TItem_one TItem_piece TItem_c0 TItem_c1 TItem_set_rep TItem_set_num TItem_ld TItem_st TItem_f_rep TItem_f_num TItem_bd TItem_fl TItem_fl_rep TItem_fl_num
attribute [local go_sem high] TItem_eql TItem_neq
attribute [local go_sem ↓] TFinding_ld0 TFinding_st0 TFinding_fd0 TFinding_bd0
attribute [local go_sem] TFinding_size TFinding_one TFinding_piece TFinding_c0 TFinding_c1 TFinding_c2 TFinding_c3 TFinding_set_kind TFinding_set_rep TFinding_p_item TFinding_put_item TFinding_ld TFinding_st TFinding_f_kind TFinding_f_rep TFinding_f_item TFinding_bd TFinding_fl TFinding_fl_kind TFinding_fl_rep TFinding_fl_item
attribute [local go_sem high] TFinding_eql TFinding_neq
attribute [local go_sem] cellsR_0 cellsR_1 cellsR_2 cellsR_3
attribute [local go_sem ↓] find_slice0
attribute [local go_sem] find_slice1
/-- The report's head: its block and its list. -/
def headR (r : Nat) (s : Rep) (v2 : Value) (m : Nat) : Res := exR fun v1 : Value => starR (rowR r (cellsR s v1 v2 m)) (listR s v1)
section
variable {w W : World} {F : Nat → Prop} {R : List Res} {r : Nat} {s : Rep}
theorem Sts.headOpen (T : Sts w F W (repR r s :: R)) : ∃ v2 m, Sts w F W (headR r s v2 m :: orderR s v2 :: callsR s m :: R) := by
  obtain ⟨v1, v2, m, T⟩ := T.repOpen
  exact ⟨v2, m, Sts.close v1 T.join⟩
theorem Sts.headShut {v2 : Value} {m : Nat} (T : Sts w F W (headR r s v2 m :: orderR s v2 :: callsR s m :: R)) : Sts w F W (repR r s :: R) := by
  obtain ⟨v1, T⟩ := T.open
  exact T.split.repShut
end
set_option maxHeartbeats 4000000 in
theorem tellH (r : Nat) (s : Rep) (v2 : Value) (m : Nat) (k rep : Int) (x : Item) (hn : s.list.length < 1000000) :
    Does Try.prog 120 #[.pointer (some ⟨r, 0, none⟩), .int .i64 k, .int .i64 rep, .agg (IV x)] [headR r s v2 m] (.tuple #[]) [headR r (tellM s k rep x) v2 m] := by
  intro W G hS
  obtain ⟨v1, T⟩ := (Sts.start hS).open
  have T := T.split.swap
  have T := T.swap
  clear hS
  have T := (T.new (IV x) 42).swap
  -- rows: report, item, list, order, calls
  obtain ⟨i0, hi, hz0, hz1, hz2⟩ := find_i
  have hS0 : SR W.heap.size (IV x) (W.alloc (.cells (IV x) 42)) := T.row1
  have hq2 : ∀ W0, SR W.heap.size (IV x) W0 → row? W0 W.heap.size = some (IV x) := fun W0 h => h
  have hcr := row_cell T.row
  have hlr := row_lt T.row
  have hlr0 : r < W.heap.size + 1 := by have := hlr; rw [World.size_alloc] at this; exact this
  have hlr2 : ¬ r = W.heap.size + 1 := by omega
  have hner : W.heap.size ≠ r := fun e => T.ne e.symm
  have hT1 : Sts W G ((W.alloc (.cells (IV x) 42)).alloc (.cells (FV ⟨k, rep, x⟩) 137)).drew [vecR 137 4 v1 s.list.length (vl FV s.list), rowR (W.heap.size + 1) (FV ⟨k, rep, x⟩), rowR r (cellsR s v1 v2 m), rowR W.heap.size (IV x)] := by
    have := (T.new (FV ⟨k, rep, x⟩) 137).rot3.drew
    simp only [World.size_alloc] at this
    exact this
  have hnews : ∀ j u, (FV ⟨k, rep, x⟩).toList[j]? = some u → ((W.alloc (.cells (IV x) 42)).alloc (.cells (FV ⟨k, rep, x⟩) 137)).drew.cell? ((⟨W.heap.size + 1, 0, none⟩ : Addr).add j) = some u := by
    intro j u hu
    have hadd : (⟨W.heap.size + 1, 0, none⟩ : Addr).add j = ⟨W.heap.size + 1, j, none⟩ := by unfold Addr.add; split <;> simp_all
    rw [hadd, row_cell hT1.row1]; simpa using hu
  have h1 : ∀ u ∈ (FV ⟨k, rep, x⟩).toList, u.oneCell' = true := by simp [FV, Value.oneCell']
  have h63 : s.list.length + 1 ≤ maxLen := by unfold maxLen; omega
  have hby : (s.list.length + 1) * 32 ≤ 140737488355328 := by omega
  have HT := Lib.hid hT1; clear hT1 T
  go_enter Try.func120, Try.ntmps120
  go_wp2_with fail
  go_region_law
    ((refine step_append_vec (by rfl) _ _ _ (by rfl) 137 i0 _ 4 32 Try.underlying133 hi hz0 hz1 hz2 rfl (by omega) v1 s.list.length (vl FV s.list) (by rfl) HT.out ⟨W.heap.size + 1, 0, none⟩ 1 1 (FV ⟨k, rep, x⟩).toList (by rfl) (by rfl) hnews h1 (by omega) h63 hby ?_; intro g cap w1 T1; have hc1 := row_cell T1.row2; have hf1 := row_frozen T1.row2; have hl1 := row_lt T1.row2))
  all_goals
    have T2 := (T1.swap.drop.swap).setCell 1 (.slice (some ⟨g, 0, none⟩) (s.list.length + 1) cap)
    rw [cellsR_set1] at T2
    have T3 := T2.rot2.drop
    have HT3 := Lib.hid T3; clear T1 T2 T3
    go_end0
    refine ⟨rfl, Sts.close (.slice (some ⟨g, 0, none⟩) (s.list.length + 1) cap) (Sts.join ?_)⟩
    unfold listR
    have e1 : (tellM s k rep x).list = s.list ++ [⟨k, rep, x⟩] := rfl
    rw [e1, vl_snoc, List.length_append]
    exact HT3.out
end Go.Proofs.Ytpganpiidgkofaa

namespace Go.Proofs.Ytpganpiidgkofaa
open Go.RowKit
attribute [local go_sem] row_alloc row_drew row_drewN row_ext row_setCell row_setRow size_ext setRow_alloc setRow_drew loadOf storeOf piece_lit DV_piece loadVal_at storeVal_at allOne_lit DV_size DV_one
attribute [local go_sem high] cell_alloc frozen_alloc setCell_alloc cell_ext frozen_ext
attribute [local go_sem ↓] index_deps0 load_deps0 store_deps0
attribute [local go_sem] index_deps load_deps store_deps
def hasD (d : Nat → Int) (r n : Int) : Bool := decide (0 ≤ r ∧ r < 7 ∧ 1 ≤ n ∧ n ≤ d r.toNat)
set_option maxHeartbeats 400000 in
theorem has_yes (d : Nat → Int) (r n : Int) (hr0 : 0 ≤ r) (hr : r < 7) (hn : 1 ≤ n) : 
    Ans Try.prog 122 #[.agg (DV d), .agg #[.int .i64 r, .int .i64 n]] (.bool (decide (n ≤ d r.toNat))) := by
  intro w
  have hD := DV_get d r.toNat (by omega)
  generalize d r.toNat = v at *
  go_enter Try.func122, Try.ntmps122
  go_wp2
  go_quiet (fail)
  go_wp2
  go_ret
  exact ⟨rfl, below_drewN (((Below.refl _ _).alloc (Nat.le_refl _) _).alloc (by simp) _) _⟩
set_option maxHeartbeats 400000 in
theorem has_no (d : Nat → Int) (r n : Int) (h : ¬ (0 ≤ r ∧ r < 7 ∧ 1 ≤ n)) : 
    Ans Try.prog 122 #[.agg (DV d), .agg #[.int .i64 r, .int .i64 n]] (.bool false) := by
  intro w
  by_cases hr0 : 0 ≤ r
  · by_cases hr : r < 7
    · have hn : ¬ 1 ≤ n := by omega
      have hn' : decide (1 ≤ n) = false := by simpa using hn
      clear h
      go_enter Try.func122, Try.ntmps122
      go_wp2
      go_quiet (fail)
      go_wp2
      go_ret
      exact ⟨rfl, below_drewN (((Below.refl _ _).alloc (Nat.le_refl _) _).alloc (by simp) _) _⟩
    · clear h
      have hr' : decide (r < 7) = false := by simpa using hr
      go_enter Try.func122, Try.ntmps122
      go_wp2
      go_quiet (fail)
      go_wp2
      go_ret
      exact ⟨rfl, below_drewN (((Below.refl _ _).alloc (Nat.le_refl _) _).alloc (by simp) _) _⟩
  · clear h
    have hr' : decide (0 ≤ r) = false := by simpa using hr0
    go_enter Try.func122, Try.ntmps122
    go_wp2
    go_quiet (fail)
    go_wp2
    go_ret
    exact ⟨rfl, below_drewN (((Below.refl _ _).alloc (Nat.le_refl _) _).alloc (by simp) _) _⟩
theorem has_any (d : Nat → Int) (r n : Int) : Ans Try.prog 122 #[.agg (DV d), .agg #[.int .i64 r, .int .i64 n]] (.bool (hasD d r n)) := by
  by_cases h : 0 ≤ r ∧ r < 7 ∧ 1 ≤ n
  · have := has_yes d r n h.1 h.2.1 h.2.2
    rw [show hasD d r n = decide (n ≤ d r.toNat) by unfold hasD; simp [h.1, h.2.1, h.2.2]]; exact this
  · have := has_no d r n h
    rw [show hasD d r n = false by unfold hasD; rw [decide_eq_false_iff_not]; omega]; exact this

/-! The document's Has: the same, by a loop. -/
end Go.Proofs.Ytpganpiidgkofaa

namespace Go.Proofs.Ytpganpiidgkofaa
open Go.RowKit
attribute [local go_sem] row_alloc row_drew row_drewN row_ext row_setCell row_setRow size_ext setRow_alloc setRow_drew loadOf storeOf piece_lit loadVal_at storeVal_at allOne_lit EV_size EV_one EV_piece EV_0 EV_1 EV_2 EV_3 EV_4 EV_5
attribute [local go_sem high] cell_alloc frozen_alloc setCell_alloc cell_ext frozen_ext
attribute [local go_sem ↓] load_deed0 store_deed0
attribute [local go_sem] load_deed store_deed
def writes (d : Deed) : Bool := decide (2 ≤ d.kind ∧ d.kind ≤ 4)
set_option maxHeartbeats 1000000 in
theorem writes_any (d : Deed) : Ans Try.prog 119 #[.agg (EV d)] (.bool (writes d)) := by
  intro w
  go_enter Try.func119, Try.ntmps119
  go_wp2
  all_goals
    go_ret
    refine ⟨congrArg (fun b => Ending.returned (.bool b)) ?_, (Below.refl _ _).alloc (Nat.le_refl _) _⟩
    unfold writes
    first
      | exact (decide_eq_true (by omega)).symm
      | (rw [Bool.eq_iff_iff, decide_eq_true_eq]; simp only [Bool.or_eq_true, beq_iff_eq]; constructor <;> intro h <;> omega)
set_option maxHeartbeats 1000000 in
theorem rwrites_any (d : Deed) : Ans Try.prog 74 #[.agg (EV d)] (.bool (writes d)) := by
  intro w
  go_enter Try.func74, Try.ntmps74
  go_wp2
  all_goals
    go_ret
    refine ⟨congrArg (fun b => Ending.returned (.bool b)) ?_, (Below.refl _ _).alloc (Nat.le_refl _) _⟩
    unfold writes
    first
      | exact (decide_eq_false (by omega)).symm
      | (rw [Bool.eq_iff_iff, decide_eq_true_eq, decide_eq_true_eq]; constructor <;> intro h <;> omega)
end Go.Proofs.Ytpganpiidgkofaa

namespace Go.Proofs.Ytpganpiidgkofaa
open Go.RowKit
attribute [local go_sem] row_alloc row_drew row_drewN row_ext row_setCell row_setRow size_ext setRow_alloc setRow_drew loadOf storeOf piece_lit loadVal_at storeVal_at allOne_lit EV_size EV_one EV_piece EV_0 EV_1 EV_2 EV_3 EV_4 EV_5
attribute [local go_sem high] cell_alloc frozen_alloc setCell_alloc cell_ext frozen_ext
attribute [local go_sem ↓] load_deed0 store_deed0
attribute [local go_sem] load_deed store_deed

attribute [local go_sem high] run_eql_deed
attribute [local go_sem] zero_deed

def preB (s p : ByteArray) : Bool := decide (p.size ≤ s.size) && ((s.extract 0 p.size).toList == p.toList)
set_option maxHeartbeats 1000000 in
set_option linter.unusedVariables false in
theorem pre_any (s p : ByteArray) (hs : s.size ≤ maxLen) (hp : p.size ≤ maxLen) : Ans Try.prog 101 #[.string s, .string p] (.bool (preB s p)) := by
  intro w
  unfold maxLen at hs hp
  by_cases h : p.size ≤ s.size
  · have h' : decide ((p.size : Int) ≤ (s.size : Int)) = true := by simpa using h
    go_enter Try.func101, Try.ntmps101
    go_wp2
    all_goals go_ret
    all_goals exact ⟨congrArg (fun b => Ending.returned (.bool b)) (by simp [preB, h]), Below.refl _ _⟩
  · have h' : decide ((p.size : Int) ≤ (s.size : Int)) = false := by simpa using h
    go_enter Try.func101, Try.ntmps101
    go_wp2
    all_goals go_ret
    all_goals exact ⟨congrArg (fun b => Ending.returned (.bool b)) (by simp [preB, h]), Below.refl _ _⟩
def aboutB (d : Deed) (k : ByteArray) : Bool := if d.kind = 5 then preB k d.key else d.key.toList == k.toList
set_option maxHeartbeats 1000000 in
set_option linter.unusedVariables false in
theorem about_any (d : Deed) (k : ByteArray) (hs : d.key.size ≤ maxLen) (hp : k.size ≤ maxLen) : Ans Try.prog 75 #[.agg (EV d), .string k] (.bool (aboutB d k)) := by
  intro w
  unfold maxLen at hs hp
  by_cases h5 : d.kind = 5
  · have h5' : (d.kind == 5) = true := by simpa using h5
    have e : aboutB d k = preB k d.key := if_pos h5
    have E := Lib.hid e; clear e h5
    by_cases h : d.key.size ≤ k.size
    · have e : preB k d.key = ((k.extract 0 d.key.size).toList == d.key.toList) := by simp [preB, h]
      have E2 := Lib.hid e; clear e
      go_enter Try.func75, Try.ntmps75
      go_wp2
      go_quiet (fail)
      go_wp2
      go_ret
      exact ⟨congrArg (fun b => Ending.returned (.bool b)) (by rw [E.out, E2.out]), below_drewN ((Below.refl _ _).alloc (Nat.le_refl _) _) _⟩
    · have e : preB k d.key = false := by simp [preB, h]
      have E2 := Lib.hid e; clear e
      have h' : decide ((d.key.size : Int) ≤ (k.size : Int)) = false := by simpa using h
      go_enter Try.func75, Try.ntmps75
      go_wp2
      go_quiet (fail)
      go_wp2
      go_ret
      exact ⟨congrArg (fun b => Ending.returned (.bool b)) (by rw [E.out, E2.out]), below_drewN ((Below.refl _ _).alloc (Nat.le_refl _) _) _⟩
  · have h5' : (d.kind == 5) = false := by simpa using h5
    have e : aboutB d k = (d.key.toList == k.toList) := if_neg h5
    have E := Lib.hid e; clear e h5
    go_enter Try.func75, Try.ntmps75
    go_wp2
    go_ret
    exact ⟨congrArg (fun b => Ending.returned (.bool b)) (by rw [E.out]), ((Below.refl _ _).alloc (Nat.le_refl _) _)⟩
def touchB (r x : Deed) : Bool := writes x && !(r.kind == 0) && aboutB r x.key
set_option maxHeartbeats 1000000 in
theorem touches_any (r x : Deed) (hs : r.key.size ≤ maxLen) (hp : x.key.size ≤ maxLen) : Ans Try.prog 102 #[.agg (EV r), .agg (EV x)] (.bool (touchB r x)) := by
  intro w
  have c1 := writes_any x
  have c2 := pre_any x.key r.key hp hs
  have C2 := Lib.hid c2; clear c2
  have T := ((St.start w).new (EV r) 33).new (EV x) 33
  cases hw : writes x
  all_goals rw [hw] at c1
  all_goals have C1 := Lib.hid c1; clear c1
  · have e : touchB r x = false := by simp [touchB, hw]
    have E := Lib.hid e; clear e hw
    go_enter Try.func102, Try.ntmps102
    go_wp2_with fail
    refine (Ans.call C1.out _).mono ?_
    rintro e w1 ⟨rfl, hb⟩
    replace T := T.call hb; clear hb
    have k := T.2; simp only [Knows, World.size_alloc] at k T
    go_wp2
    go_ret
    exact ⟨congrArg (fun b => Ending.returned (.bool b)) E.out.symm, T.below⟩
  · by_cases h0 : r.kind = 0
    · have h0' : (r.kind == 0) = true := by simpa using h0
      have e : touchB r x = false := by simp [touchB, h0']
      have E := Lib.hid e; clear e hw h0
      go_enter Try.func102, Try.ntmps102
      go_wp2_with fail
      refine (Ans.call C1.out _).mono ?_
      rintro e w1 ⟨rfl, hb⟩
      replace T := T.call hb; clear hb
      have k := T.2; simp only [Knows, World.size_alloc] at k T
      have hc := row_cell k.2.1.1
      go_wp2
      go_ret
      exact ⟨congrArg (fun b => Ending.returned (.bool b)) E.out.symm, T.below⟩
    · have h0' : (r.kind == 0) = false := by simpa using h0
      by_cases h5 : r.kind = 5
      · have h5' : (r.kind == 5) = true := by simpa using h5
        have e : touchB r x = preB x.key r.key := by simp [touchB, hw, aboutB, h5]
        have E := Lib.hid e; clear e hw h0 h5
        go_enter Try.func102, Try.ntmps102
        go_wp2_with fail
        refine (Ans.call C1.out _).mono ?_
        rintro e w1 ⟨rfl, hb⟩
        replace T := T.call hb; clear hb
        have k := T.2; simp only [Knows, World.size_alloc] at k T
        have hc := row_cell k.2.1.1
        have hc2 := row_cell k.1.1
        go_wp2_with fail
        refine (Ans.call C2.out _).mono ?_
        rintro e w2 ⟨rfl, hb⟩
        replace T := T.call hb; clear hb
        go_wp2_with fail
        go_ret
        exact ⟨congrArg (fun b => Ending.returned (.bool b)) E.out.symm, T.below⟩
      · have h5' : (r.kind == 5) = false := by simpa using h5
        have e : touchB r x = (r.key.toList == x.key.toList) := by simp [touchB, h0', hw, aboutB, h5]
        have E := Lib.hid e; clear e hw h0 h5
        go_enter Try.func102, Try.ntmps102
        go_wp2_with fail
        refine (Ans.call C1.out _).mono ?_
        rintro e w1 ⟨rfl, hb⟩
        replace T := T.call hb; clear hb
        have k := T.2; simp only [Knows, World.size_alloc] at k T
        have hc := row_cell k.2.1.1
        have hc2 := row_cell k.1.1
        go_wp2_with fail
        go_ret
        exact ⟨congrArg (fun b => Ending.returned (.bool b)) E.out.symm, T.below⟩
end Go.Proofs.Ytpganpiidgkofaa

namespace Go.Proofs.Ytpganpiidgkofaa
open Go.RowKit
set_option linter.unusedVariables false
attribute [local go_sem] row_alloc row_drew row_drewN row_ext row_setCell row_setRow size_ext setRow_alloc setRow_drew loadOf storeOf piece_lit loadVal_at storeVal_at allOne_lit EV_size EV_one EV_piece EV_0 EV_1 EV_2 EV_3 EV_4 EV_5
attribute [local go_sem high] cell_alloc frozen_alloc setCell_alloc cell_ext frozen_ext
attribute [local go_sem ↓] load_deed0 store_deed0
attribute [local go_sem] load_deed store_deed

attribute [local go_sem high] run_eql_deed
attribute [local go_sem] zero_deed


def clashB (a b : Deed) : Bool := !(a.kind == 0) && !(b.kind == 0) && ((!(a.ses == 0) && (a.ses == b.ses)) || touchB a b || touchB b a)
theorem clashB_comm (a b : Deed) : clashB a b = clashB b a := by
  unfold clashB
  by_cases h : a.ses = b.ses
  · rw [h]
    cases (a.kind == 0) <;> cases (b.kind == 0) <;> cases touchB a b <;> cases touchB b a <;> simp
  · have e1 : (a.ses == b.ses) = false := by simpa using h
    have e2 : (b.ses == a.ses) = false := by simpa using (fun e => h e.symm)
    rw [e1, e2]
    cases (a.kind == 0) <;> cases (b.kind == 0) <;> cases touchB a b <;> cases touchB b a <;> simp
set_option maxHeartbeats 1000000 in
theorem clash_1 (a b : Deed) (ha : a.key.size ≤ maxLen) (hb : b.key.size ≤ maxLen) (ha0 : (a.kind == 0) = true) : Ans Try.prog 71 #[.agg (EV a), .agg (EV b)] (.bool (clashB a b)) := by
  intro w
  have e : clashB a b = false := by simp [clashB, ha0]
  have E := Lib.hid e; clear e
  have T := ((St.start w).new (EV a) 33).new (EV b) 33
  simp only [World.size_alloc] at T
  clear ha hb
  go_enter Try.func71, Try.ntmps71
  go_wp2_with fail
  go_ret
  exact ⟨congrArg (fun b => Ending.returned (.bool b)) E.out.symm, T.below⟩
set_option maxHeartbeats 1000000 in
theorem clash_2 (a b : Deed) (ha : a.key.size ≤ maxLen) (hb : b.key.size ≤ maxLen) (ha0 : (a.kind == 0) = false) (hb0 : (b.kind == 0) = true) : Ans Try.prog 71 #[.agg (EV a), .agg (EV b)] (.bool (clashB a b)) := by
  intro w
  have e : clashB a b = false := by simp [clashB, hb0]
  have E := Lib.hid e; clear e
  have T := ((St.start w).new (EV a) 33).new (EV b) 33
  simp only [World.size_alloc] at T
  clear ha hb
  go_enter Try.func71, Try.ntmps71
  go_wp2_with fail
  go_ret
  exact ⟨congrArg (fun b => Ending.returned (.bool b)) E.out.symm, T.below⟩
set_option maxHeartbeats 1000000 in
theorem clash_3 (a b : Deed) (ha : a.key.size ≤ maxLen) (hb : b.key.size ≤ maxLen) (ha0 : (a.kind == 0) = false) (hb0 : (b.kind == 0) = false) (hs0 : (a.ses == 0) = false) (hss : (a.ses == b.ses) = true) : Ans Try.prog 71 #[.agg (EV a), .agg (EV b)] (.bool (clashB a b)) := by
  intro w
  have hn0 : (a.ses != 0) = true := by simp [bne, hs0]
  have e : clashB a b = true := by simp [clashB, ha0, hb0, hs0, hss]
  have E := Lib.hid e; clear e
  have T := ((St.start w).new (EV a) 33).new (EV b) 33
  simp only [World.size_alloc] at T
  clear ha hb
  go_enter Try.func71, Try.ntmps71
  go_wp2_with fail
  go_ret
  exact ⟨congrArg (fun b => Ending.returned (.bool b)) E.out.symm, T.below⟩
set_option maxHeartbeats 1000000 in
theorem clash_4 (a b : Deed) (ha : a.key.size ≤ maxLen) (hb : b.key.size ≤ maxLen) (ha0 : (a.kind == 0) = false) (hb0 : (b.kind == 0) = false) (hs0 : (a.ses == 0) = true) (htab : touchB a b = true) : Ans Try.prog 71 #[.agg (EV a), .agg (EV b)] (.bool (clashB a b)) := by
  intro w
  have hn0 : (a.ses != 0) = false := by simp [bne, hs0]
  have e : clashB a b = true := by simp [clashB, ha0, hb0, hs0, htab]
  have E := Lib.hid e; clear e
  have T := ((St.start w).new (EV a) 33).new (EV b) 33
  simp only [World.size_alloc] at T
  have c1 := touches_any a b ha hb
  rw [htab] at c1
  have C1 := Lib.hid c1; clear c1
  clear htab
  clear ha hb
  go_enter Try.func71, Try.ntmps71
  go_wp2_with fail
  refine (Ans.call C1.out _).mono ?_
  rintro e w1 ⟨rfl, hb⟩
  replace T := T.call hb; clear hb
  have k := T.2; simp only [Knows] at k
  have q1 := row_cell k.2.1.1
  have q2 := row_cell k.1.1
  go_wp2_with fail
  go_ret
  exact ⟨congrArg (fun b => Ending.returned (.bool b)) E.out.symm, T.below⟩
set_option maxHeartbeats 1000000 in
theorem clash_5 (a b : Deed) (ha : a.key.size ≤ maxLen) (hb : b.key.size ≤ maxLen) (ha0 : (a.kind == 0) = false) (hb0 : (b.kind == 0) = false) (hs0 : (a.ses == 0) = true) (htab : touchB a b = false) : Ans Try.prog 71 #[.agg (EV a), .agg (EV b)] (.bool (clashB a b)) := by
  intro w
  have hn0 : (a.ses != 0) = false := by simp [bne, hs0]
  have e : clashB a b = touchB b a := by simp [clashB, ha0, hb0, hs0, htab]
  have E := Lib.hid e; clear e
  have T := ((St.start w).new (EV a) 33).new (EV b) 33
  simp only [World.size_alloc] at T
  have c1 := touches_any a b ha hb
  rw [htab] at c1
  have C1 := Lib.hid c1; clear c1
  have c2 := touches_any b a hb ha
  have C2 := Lib.hid c2; clear c2
  clear htab
  clear ha hb
  go_enter Try.func71, Try.ntmps71
  go_wp2_with fail
  refine (Ans.call C1.out _).mono ?_
  rintro e w1 ⟨rfl, hb⟩
  replace T := T.call hb; clear hb
  have k := T.2; simp only [Knows] at k
  have q1 := row_cell k.2.1.1
  have q2 := row_cell k.1.1
  go_wp2_with fail
  refine (Ans.call C2.out _).mono ?_
  rintro e w2 ⟨rfl, hb⟩
  replace T := T.call hb; clear hb k q1 q2
  have k := T.2; simp only [Knows] at k
  have q1 := row_cell k.2.1.1
  have q2 := row_cell k.1.1
  go_wp2_with fail
  go_ret
  exact ⟨congrArg (fun b => Ending.returned (.bool b)) E.out.symm, T.below⟩
set_option maxHeartbeats 1000000 in
theorem clash_6 (a b : Deed) (ha : a.key.size ≤ maxLen) (hb : b.key.size ≤ maxLen) (ha0 : (a.kind == 0) = false) (hb0 : (b.kind == 0) = false) (hs0 : (a.ses == 0) = false) (hss : (a.ses == b.ses) = false) (htab : touchB a b = true) : Ans Try.prog 71 #[.agg (EV a), .agg (EV b)] (.bool (clashB a b)) := by
  intro w
  have hn0 : (a.ses != 0) = true := by simp [bne, hs0]
  have e : clashB a b = true := by simp [clashB, ha0, hb0, hs0, hss, htab]
  have E := Lib.hid e; clear e
  have T := ((St.start w).new (EV a) 33).new (EV b) 33
  simp only [World.size_alloc] at T
  have c1 := touches_any a b ha hb
  rw [htab] at c1
  have C1 := Lib.hid c1; clear c1
  clear htab
  clear ha hb
  go_enter Try.func71, Try.ntmps71
  go_wp2_with fail
  refine (Ans.call C1.out _).mono ?_
  rintro e w1 ⟨rfl, hb⟩
  replace T := T.call hb; clear hb
  have k := T.2; simp only [Knows] at k
  have q1 := row_cell k.2.1.1
  have q2 := row_cell k.1.1
  go_wp2_with fail
  go_ret
  exact ⟨congrArg (fun b => Ending.returned (.bool b)) E.out.symm, T.below⟩
set_option maxHeartbeats 1000000 in
theorem clash_7 (a b : Deed) (ha : a.key.size ≤ maxLen) (hb : b.key.size ≤ maxLen) (ha0 : (a.kind == 0) = false) (hb0 : (b.kind == 0) = false) (hs0 : (a.ses == 0) = false) (hss : (a.ses == b.ses) = false) (htab : touchB a b = false) : Ans Try.prog 71 #[.agg (EV a), .agg (EV b)] (.bool (clashB a b)) := by
  intro w
  have hn0 : (a.ses != 0) = true := by simp [bne, hs0]
  have e : clashB a b = touchB b a := by simp [clashB, ha0, hb0, hs0, hss, htab]
  have E := Lib.hid e; clear e
  have T := ((St.start w).new (EV a) 33).new (EV b) 33
  simp only [World.size_alloc] at T
  have c1 := touches_any a b ha hb
  rw [htab] at c1
  have C1 := Lib.hid c1; clear c1
  have c2 := touches_any b a hb ha
  have C2 := Lib.hid c2; clear c2
  clear htab
  clear ha hb
  go_enter Try.func71, Try.ntmps71
  go_wp2_with fail
  refine (Ans.call C1.out _).mono ?_
  rintro e w1 ⟨rfl, hb⟩
  replace T := T.call hb; clear hb
  have k := T.2; simp only [Knows] at k
  have q1 := row_cell k.2.1.1
  have q2 := row_cell k.1.1
  go_wp2_with fail
  refine (Ans.call C2.out _).mono ?_
  rintro e w2 ⟨rfl, hb⟩
  replace T := T.call hb; clear hb k q1 q2
  have k := T.2; simp only [Knows] at k
  have q1 := row_cell k.2.1.1
  have q2 := row_cell k.1.1
  go_wp2_with fail
  go_ret
  exact ⟨congrArg (fun b => Ending.returned (.bool b)) E.out.symm, T.below⟩
theorem clash_any (a b : Deed) (ha : a.key.size ≤ maxLen) (hb : b.key.size ≤ maxLen) : Ans Try.prog 71 #[.agg (EV a), .agg (EV b)] (.bool (clashB a b)) := by
  cases h1 : (a.kind == 0)
  · cases h2 : (b.kind == 0)
    · cases h3 : (a.ses == 0)
      · cases h4 : (a.ses == b.ses)
        · cases h5 : touchB a b
          · exact clash_7 a b ha hb h1 h2 h3 h4 h5
          · exact clash_6 a b ha hb h1 h2 h3 h4 h5
        · exact clash_3 a b ha hb h1 h2 h3 h4
      · cases h5 : touchB a b
        · exact clash_5 a b ha hb h1 h2 h3 h5
        · exact clash_4 a b ha hb h1 h2 h3 h5
    · exact clash_2 a b ha hb h1 h2
  · exact clash_1 a b ha hb h1
end Go.Proofs.Ytpganpiidgkofaa
