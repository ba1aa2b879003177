/- Several texts in one. -/
import Derived.Test.YtomlilkobhkoiaaGreatDoorQ9
/- Layers 2, 9: ballots compared; whether what is known of an item can be. Printed by instgood.py. -/
namespace Go.Proofs.YtomlilkobhkoiaaGreatDoor
open Go.RowKit
set_option linter.unusedVariables false
attribute [local go_sem] row_alloc row_drew row_drewN row_ext row_setCell row_setRow size_ext setRow_alloc setRow_drew loadOf storeOf piece_lit loadVal_at storeVal_at allOne_lit buildOf buildRes_some
attribute [local go_sem high] cell_alloc frozen_alloc setCell_alloc cell_ext frozen_ext cell_setRow frozen_setRow
attribute [local go_sem ↓] TDeed_ld0 TDeed_st0 TDeed_fd0 TDeed_bd0
attribute [local go_sem] TDeed_size TDeed_one TDeed_piece TDeed_c0 TDeed_c1 TDeed_c2 TDeed_c3 TDeed_c4 TDeed_c5 TDeed_set_kind TDeed_set_key TDeed_set_val TDeed_set_ver TDeed_set_ses TDeed_set_num TDeed_ld TDeed_st TDeed_f_kind TDeed_f_key TDeed_f_val TDeed_f_ver TDeed_f_ses TDeed_f_num TDeed_bd TDeed_fl TDeed_fl_kind TDeed_fl_key TDeed_fl_val TDeed_fl_ver TDeed_fl_ses TDeed_fl_num
attribute [local go_sem high] TDeed_eql TDeed_neq
attribute [local go_sem ↓] index_deps0 load_deps0 store_deps0
attribute [local go_sem] DV_piece DV_size DV_one index_deps load_deps store_deps
attribute [local go_sem high] TDeps_eql TDeps_neq
attribute [local go_sem ↓] TCall_ld0 TCall_st0 TCall_fd0 TCall_bd0
attribute [local go_sem] TCall_size TCall_one TCall_piece TCall_c0 TCall_c1 TCall_c2 TCall_c3 TCall_c4 TCall_c5 TCall_c6 TCall_c7 TCall_c8 TCall_c9 TCall_c10 TCall_c11 TCall_c12 TCall_c13 TCall_p_deed TCall_put_deed TCall_p_deps TCall_put_deps TCall_set_seq TCall_ld TCall_st TCall_f_deed TCall_f_deps TCall_f_seq TCall_bd TCall_fl TCall_fl_deed TCall_fl_deps TCall_fl_seq
attribute [local go_sem high] TCall_eql TCall_neq
attribute [local go_sem ↓] TItem_ld0 TItem_st0 TItem_fd0 TItem_bd0
attribute [local go_sem] TItem_size TItem_one TItem_piece TItem_c0 TItem_c1 TItem_set_rep TItem_set_num TItem_ld TItem_st TItem_f_rep TItem_f_num TItem_bd TItem_fl TItem_fl_rep TItem_fl_num
attribute [local go_sem high] TItem_eql TItem_neq
attribute [local go_sem ↓] TBallot_ld0 TBallot_st0 TBallot_fd0 TBallot_bd0
attribute [local go_sem] TBallot_size TBallot_one TBallot_piece TBallot_c0 TBallot_c1 TBallot_set_round TBallot_set_rep TBallot_ld TBallot_st TBallot_f_round TBallot_f_rep TBallot_bd TBallot_fl TBallot_fl_round TBallot_fl_rep
attribute [local go_sem high] TBallot_eql TBallot_neq
attribute [local go_sem ↓] TInst_ld0 TInst_st0 TInst_fd0 TInst_bd0
attribute [local go_sem] TInst_size TInst_one TInst_piece TInst_c0 TInst_c1 TInst_c2 TInst_c3 TInst_c4 TInst_c5 TInst_c6 TInst_c7 TInst_c8 TInst_c9 TInst_c10 TInst_c11 TInst_c12 TInst_c13 TInst_c14 TInst_c15 TInst_c16 TInst_c17 TInst_c18 TInst_c19 TInst_p_prom TInst_put_prom TInst_p_vote TInst_put_vote TInst_set_status TInst_p_call TInst_put_call TInst_set_same TInst_ld TInst_st TInst_f_prom TInst_f_vote TInst_f_status TInst_f_call TInst_f_same TInst_bd TInst_fl TInst_fl_prom TInst_fl_vote TInst_fl_status TInst_fl_call TInst_fl_same
attribute [local go_sem high] TInst_eql TInst_neq
attribute [local simp] size_ext
theorem below_alloc' {B : Nat} {a w : World} (h : Below B a w) (o : Obj) (hB : B ≤ w.heap.size) : Below B a (w.alloc o) := h.alloc hB o
theorem below_ext' {B : Nat} {a w : World} (h : Below B a w) (hB : B ≤ w.heap.size) (x : World) : Below B a (ext w x) := below_ext h hB x
def lessBal (a b : Ballot) : Bool := decide (a.round < b.round ∨ a.round = b.round ∧ a.rep < b.rep)
set_option maxHeartbeats 1000000 in
theorem compare_any (a b : Ballot) : Ans Tryz.prog 189 #[.agg (BV a), .agg (BV b)] (.int .i64 (if eqA (BV a) (BV b) = true then 0 else if lessBal a b = true then -1 else 1)) := by
 intro w
 cases he : eqA (BV a) (BV b)
 ·cases hl : lessBal a b
  ·have h := hl
   simp only [lessBal, decide_eq_false_iff_not, not_or, not_and] at h
   go_enter Tryz.func189, Tryz.ntmps189
   go_wp2
   all_goals first | (exfalso; omega) | (go_ret; exact ⟨rfl, ((Below.refl _ _).alloc (Nat.le_refl _) _).alloc (by simp) _⟩)
  ·have h := hl
   simp only [lessBal, decide_eq_true_eq] at h
   go_enter Tryz.func189, Tryz.ntmps189
   go_wp2
   all_goals first | (exfalso; omega) | (go_ret; exact ⟨rfl, ((Below.refl _ _).alloc (Nat.le_refl _) _).alloc (by simp) _⟩)
 ·go_enter Tryz.func189, Tryz.ntmps189
  go_wp2
  go_ret
  exact ⟨rfl, ((Below.refl _ _).alloc (Nat.le_refl _) _).alloc (by simp) _⟩
theorem lessBal_irr {a b : Ballot} (h : eqA (BV a) (BV b) = true) : lessBal a b = false := by
 obtain ⟨h1, h2⟩ := (TBallot_ext _ _).1 (eqA_iff.1 h)
 simp only [lessBal, decide_eq_false_iff_not]; omega
set_option maxHeartbeats 1000000 in
theorem less_any (a b : Ballot) : Ans Tryz.prog 154 #[.agg (BV a), .agg (BV b)] (.bool (lessBal a b)) := by
 refine Ans.of_sts fun w => ?_
 have T := ((Sts.start0 w).new (BV a) 64).new (BV b) 64
 simp only [World.size_alloc] at T
 have hr := T.row; have hr1 := T.row1
 have c := compare_any a b
 have hlt : decide ((if eqA (BV a) (BV b) = true then (0 : Int) else if lessBal a b = true then -1 else 1) < 0) = lessBal a b := by
  cases he : eqA (BV a) (BV b)
  ·cases hl : lessBal a b <;> simp
  ·rw [lessBal_irr he]; simp
 generalize (if eqA (BV a) (BV b) = true then (0 : Int) else if lessBal a b = true then -1 else 1) = v at *
 have C := Lib.hid c; clear c
 have HL := Lib.hid hlt; clear hlt
 go_enter Tryz.func154, Tryz.ntmps154
 go_wp2_with fail
 refine (Ans.at C.out T).mono ?_; clear T hr hr1; rintro e w1 ⟨rfl, T⟩
 go_wp2
 go_ret
 exact ⟨by rw [← HL.out]; rfl, T.nil⟩
/-- what is known, bare but for the promise -/
def bareI (i : Inst) : Inst := { noInst with prom := i.prom }
noncomputable def goodN (i : Inst) (n : Int) : Bool := goodBal i.prom n && goodBal i.vote n && decide (0 ≤ i.status ∧ i.status ≤ 3) && goodC i.call n && (i.status != 0 || eqA (NV i) (NV (bareI i)))
theorem bare_eq (i : Inst) (h : i.status = 0) : eqA (NV i) (NV (bareI i)) = (eqA (BV i.vote) (BV noBallot) && eqA (CV i.call) (CV noCall) && !i.same) := by
 rw [Bool.eq_iff_iff, eqA_iff, TInst_ext]
 simp [bareI, noInst, eqA_iff, h, and_assoc]
set_option maxHeartbeats 40000000 in
set_option maxRecDepth 100000 in
theorem goodN_any (i : Inst) (n : Int) : Ans Tryz.prog 108 #[.agg (NV i), .int .i64 n] (.bool (goodN i n)) := by
 intro W
 cases hP : goodBal i.prom n
 case false =>
  have hg : goodN i n = false := by unfold goodN; simp [*]
  rw [hg]; clear hg
  go_enter Tryz.func108, Tryz.ntmps108
  go_wp2_with (first | (go_at_call 136; refine ((balGood_any _ _).go _).mono ?_; rintro e w1 ⟨rfl, x1, rfl⟩) | (go_at_call 137; refine ((goodCall_any _ _).go _).mono ?_; rintro e w1 ⟨rfl, x1, rfl⟩))
  all_goals first | (exfalso; omega) | (go_ret; exact ⟨rfl, by repeat (first | exact Below.refl _ _ | refine below_ext' ?_ (by simp; try omega) _ | refine below_alloc' ?_ _ (by simp; try omega))⟩)
 case true =>
  cases hV : goodBal i.vote n
  case false =>
   have hg : goodN i n = false := by unfold goodN; simp [*]
   rw [hg]; clear hg
   go_enter Tryz.func108, Tryz.ntmps108
   go_wp2_with (first | (go_at_call 136; refine ((balGood_any _ _).go _).mono ?_; rintro e w1 ⟨rfl, x1, rfl⟩) | (go_at_call 137; refine ((goodCall_any _ _).go _).mono ?_; rintro e w1 ⟨rfl, x1, rfl⟩))
   all_goals first | (exfalso; omega) | (go_ret; exact ⟨rfl, by repeat (first | exact Below.refl _ _ | refine below_ext' ?_ (by simp; try omega) _ | refine below_alloc' ?_ _ (by simp; try omega))⟩)
  case true =>
   by_cases hs : 0 ≤ i.status ∧ i.status ≤ 3
   case pos =>
    obtain ⟨s1, s2⟩ := id hs
    have hsd := decide_eq_true hs
    cases hC : goodC i.call n
    case false =>
     have hg : goodN i n = false := by unfold goodN; simp [*]
     rw [hg]; clear hg
     go_enter Tryz.func108, Tryz.ntmps108
     go_wp2_with (first | (go_at_call 136; refine ((balGood_any _ _).go _).mono ?_; rintro e w1 ⟨rfl, x1, rfl⟩) | (go_at_call 137; refine ((goodCall_any _ _).go _).mono ?_; rintro e w1 ⟨rfl, x1, rfl⟩))
     all_goals first | (exfalso; omega) | (go_ret; exact ⟨rfl, by repeat (first | exact Below.refl _ _ | refine below_ext' ?_ (by simp; try omega) _ | refine below_alloc' ?_ _ (by simp; try omega))⟩)
    case true =>
     cases hst : i.status == 0
     case false =>
      have hst2 : (i.status != 0) = true := by simp [bne, hst]
      have hg : goodN i n = true := by unfold goodN; simp [*]
      rw [hg]; clear hg
      go_enter Tryz.func108, Tryz.ntmps108
      go_wp2_with (first | (go_at_call 136; refine ((balGood_any _ _).go _).mono ?_; rintro e w1 ⟨rfl, x1, rfl⟩) | (go_at_call 137; refine ((goodCall_any _ _).go _).mono ?_; rintro e w1 ⟨rfl, x1, rfl⟩))
      all_goals first | (exfalso; omega) | (go_ret; exact ⟨rfl, by repeat (first | exact Below.refl _ _ | refine below_ext' ?_ (by simp; try omega) _ | refine below_alloc' ?_ _ (by simp; try omega))⟩)
     case true =>
      have hst2 : (i.status != 0) = false := by simp [bne, hst]
      have he0 := fun b (h : eqA (NV i) (NV (bareI i)) = b) => h
      cases he : eqA (NV i) (NV (bareI i))
      case false =>
       have he2 := he; unfold bareI at he2
       have hg : goodN i n = false := by unfold goodN; simp [*]
       rw [hg]; clear hg
       go_enter Tryz.func108, Tryz.ntmps108
       go_wp2_with (first | (go_at_call 136; refine ((balGood_any _ _).go _).mono ?_; rintro e w1 ⟨rfl, x1, rfl⟩) | (go_at_call 137; refine ((goodCall_any _ _).go _).mono ?_; rintro e w1 ⟨rfl, x1, rfl⟩))
       all_goals first | (exfalso; omega) | (go_ret; exact ⟨rfl, by repeat (first | exact Below.refl _ _ | refine below_ext' ?_ (by simp; try omega) _ | refine below_alloc' ?_ _ (by simp; try omega))⟩)
      case true =>
       have he2 := he; unfold bareI at he2
       have hg : goodN i n = true := by unfold goodN; simp [*]
       rw [hg]; clear hg
       go_enter Tryz.func108, Tryz.ntmps108
       go_wp2_with (first | (go_at_call 136; refine ((balGood_any _ _).go _).mono ?_; rintro e w1 ⟨rfl, x1, rfl⟩) | (go_at_call 137; refine ((goodCall_any _ _).go _).mono ?_; rintro e w1 ⟨rfl, x1, rfl⟩))
       all_goals first | (exfalso; omega) | (go_ret; exact ⟨rfl, by repeat (first | exact Below.refl _ _ | refine below_ext' ?_ (by simp; try omega) _ | refine below_alloc' ?_ _ (by simp; try omega))⟩)
   case neg =>
    have hsd := decide_eq_false hs
    by_cases s1 : 0 ≤ i.status
    case pos =>
     have s2 : ¬ i.status ≤ 3 := fun h => hs ⟨s1, h⟩
     have hg : goodN i n = false := by unfold goodN; simp [*]
     rw [hg]; clear hg
     go_enter Tryz.func108, Tryz.ntmps108
     go_wp2_with (first | (go_at_call 136; refine ((balGood_any _ _).go _).mono ?_; rintro e w1 ⟨rfl, x1, rfl⟩) | (go_at_call 137; refine ((goodCall_any _ _).go _).mono ?_; rintro e w1 ⟨rfl, x1, rfl⟩))
     all_goals first | (exfalso; omega) | (go_ret; exact ⟨rfl, by repeat (first | exact Below.refl _ _ | refine below_ext' ?_ (by simp; try omega) _ | refine below_alloc' ?_ _ (by simp; try omega))⟩)
    case neg =>
     have hg : goodN i n = false := by unfold goodN; simp [*]
     rw [hg]; clear hg
     go_enter Tryz.func108, Tryz.ntmps108
     go_wp2_with (first | (go_at_call 136; refine ((balGood_any _ _).go _).mono ?_; rintro e w1 ⟨rfl, x1, rfl⟩) | (go_at_call 137; refine ((goodCall_any _ _).go _).mono ?_; rintro e w1 ⟨rfl, x1, rfl⟩))
     all_goals first | (exfalso; omega) | (go_ret; exact ⟨rfl, by repeat (first | exact Below.refl _ _ | refine below_ext' ?_ (by simp; try omega) _ | refine below_alloc' ?_ _ (by simp; try omega))⟩)
end Go.Proofs.YtomlilkobhkoiaaGreatDoor
