/- Several texts in one. -/
import Derived.Test.YtfgacjglfdehbaaGreatDoorZ38
import Derived.Test.YtfgacjglfdehbaaGreatDoorZ15
/- Layer 7: the document's bytes of a message. -/
namespace Go.Proofs.YtfgacjglfdehbaaGreatDoor
open Go.RowKit
set_option linter.unusedVariables false
attribute [local go_sem] row_alloc row_drew row_drewN row_ext row_setCell row_setRow size_ext setRow_alloc setRow_drew loadOf storeOf piece_lit loadVal_at storeVal_at allOne_lit buildOf buildRes_some
attribute [local go_sem high] cell_alloc frozen_alloc setCell_alloc cell_ext frozen_ext cell_setRow frozen_setRow
attribute [local go_sem ↓] TDeed_ld0 TDeed_st0 TDeed_fd0 TDeed_bd0
attribute [local go_sem] TDeed_size TDeed_one TDeed_piece TDeed_c0 TDeed_c1 TDeed_c2 TDeed_c3 TDeed_c4 TDeed_c5 TDeed_set_kind TDeed_set_key TDeed_set_val TDeed_set_ver TDeed_set_ses TDeed_set_num TDeed_ld TDeed_st TDeed_f_kind TDeed_f_key TDeed_f_val TDeed_f_ver TDeed_f_ses TDeed_f_num TDeed_bd TDeed_fl TDeed_fl_kind TDeed_fl_key TDeed_fl_val TDeed_fl_ver TDeed_fl_ses TDeed_fl_num
attribute [local go_sem high] TDeed_eql TDeed_neq
attribute [local go_sem ↓] index_deps0 load_deps0 store_deps0
attribute [local go_sem] DV_piece DV_size DV_one index_deps load_deps store_deps
attribute [local go_sem high] TDeps_eql TDeps_neq
attribute [local go_sem ↓] TCall_ld0 TCall_st0 TCall_fd0 TCall_bd0
attribute [local go_sem] TCall_size TCall_one TCall_piece TCall_c0 TCall_c1 TCall_c2 TCall_c3 TCall_c4 TCall_c5 TCall_c6 TCall_c7 TCall_c8 TCall_c9 TCall_c10 TCall_c11 TCall_c12 TCall_c13 TCall_p_deed TCall_put_deed TCall_p_deps TCall_put_deps TCall_set_seq TCall_ld TCall_st TCall_f_deed TCall_f_deps TCall_f_seq TCall_bd TCall_fl TCall_fl_deed TCall_fl_deps TCall_fl_seq
attribute [local go_sem high] TCall_eql TCall_neq
attribute [local go_sem ↓] TItem_ld0 TItem_st0 TItem_fd0 TItem_bd0
attribute [local go_sem] TItem_size TItem_one TItem_piece TItem_c0 TItem_c1 TItem_set_rep TItem_set_num TItem_ld TItem_st TItem_f_rep TItem_f_num TItem_bd TItem_fl TItem_fl_rep TItem_fl_num
attribute [local go_sem high] TItem_eql TItem_neq
attribute [local go_sem ↓] TBallot_ld0 TBallot_st0 TBallot_fd0 TBallot_bd0
attribute [local go_sem] TBallot_size TBallot_one TBallot_piece TBallot_c0 TBallot_c1 TBallot_set_round TBallot_set_rep TBallot_ld TBallot_st TBallot_f_round TBallot_f_rep TBallot_bd TBallot_fl TBallot_fl_round TBallot_fl_rep
attribute [local go_sem high] TBallot_eql TBallot_neq
attribute [local go_sem ↓] TMsg_ld0 TMsg_st0 TMsg_fd0 TMsg_bd0
attribute [local go_sem] TMsg_size TMsg_one TMsg_piece TMsg_c0 TMsg_c1 TMsg_c2 TMsg_c3 TMsg_c4 TMsg_c5 TMsg_c6 TMsg_c7 TMsg_c8 TMsg_c9 TMsg_c10 TMsg_c11 TMsg_c12 TMsg_c13 TMsg_c14 TMsg_c15 TMsg_c16 TMsg_c17 TMsg_c18 TMsg_c19 TMsg_c20 TMsg_c21 TMsg_c22 TMsg_c23 TMsg_c24 TMsg_set_kind TMsg_set_frm TMsg_set_to TMsg_p_item TMsg_put_item TMsg_p_bal TMsg_put_bal TMsg_p_vote TMsg_put_vote TMsg_set_status TMsg_set_same TMsg_p_call TMsg_put_call TMsg_ld TMsg_st TMsg_f_kind TMsg_f_frm TMsg_f_to TMsg_f_item TMsg_f_bal TMsg_f_vote TMsg_f_status TMsg_f_same TMsg_f_call TMsg_bd TMsg_fl TMsg_fl_kind TMsg_fl_frm TMsg_fl_to TMsg_fl_item TMsg_fl_bal TMsg_fl_vote TMsg_fl_status TMsg_fl_same TMsg_fl_call
attribute [local go_sem high] TMsg_eql TMsg_neq
set_option maxHeartbeats 1000000 in
theorem rcalls_any (k : Int) : Ans Tryz.prog 30 #[.int .i64 k] (.bool (callsB k)) := by
  intro w
  go_enter Tryz.func30, Tryz.ntmps30
  go_wp2
  all_goals
    go_ret
    refine ⟨congrArg (fun b => Ending.returned (.bool b)) ?_, Below.refl _ _⟩
    rw [Bool.eq_iff_iff]; simp [callsB]; omega
end Go.Proofs.YtfgacjglfdehbaaGreatDoor
/- Layer 7: whether a message can be, in the document's words: the cases. Printed by rmailgood.py. -/
namespace Go.Proofs.YtfgacjglfdehbaaGreatDoor
open Go.RowKit
set_option linter.unusedVariables false
attribute [local go_sem] row_alloc row_drew row_drewN row_ext row_setCell row_setRow size_ext setRow_alloc setRow_drew loadOf storeOf piece_lit loadVal_at storeVal_at allOne_lit buildOf buildRes_some
attribute [local go_sem high] cell_alloc frozen_alloc setCell_alloc cell_ext frozen_ext cell_setRow frozen_setRow
attribute [local go_sem ↓] TDeed_ld0 TDeed_st0 TDeed_fd0 TDeed_bd0
attribute [local go_sem] TDeed_size TDeed_one TDeed_piece TDeed_c0 TDeed_c1 TDeed_c2 TDeed_c3 TDeed_c4 TDeed_c5 TDeed_set_kind TDeed_set_key TDeed_set_val TDeed_set_ver TDeed_set_ses TDeed_set_num TDeed_ld TDeed_st TDeed_f_kind TDeed_f_key TDeed_f_val TDeed_f_ver TDeed_f_ses TDeed_f_num TDeed_bd TDeed_fl TDeed_fl_kind TDeed_fl_key TDeed_fl_val TDeed_fl_ver TDeed_fl_ses TDeed_fl_num
attribute [local go_sem high] TDeed_eql TDeed_neq
attribute [local go_sem ↓] index_deps0 load_deps0 store_deps0
attribute [local go_sem] DV_piece DV_size DV_one index_deps load_deps store_deps
attribute [local go_sem high] TDeps_eql TDeps_neq
attribute [local go_sem ↓] TCall_ld0 TCall_st0 TCall_fd0 TCall_bd0
attribute [local go_sem] TCall_size TCall_one TCall_piece TCall_c0 TCall_c1 TCall_c2 TCall_c3 TCall_c4 TCall_c5 TCall_c6 TCall_c7 TCall_c8 TCall_c9 TCall_c10 TCall_c11 TCall_c12 TCall_c13 TCall_p_deed TCall_put_deed TCall_p_deps TCall_put_deps TCall_set_seq TCall_ld TCall_st TCall_f_deed TCall_f_deps TCall_f_seq TCall_bd TCall_fl TCall_fl_deed TCall_fl_deps TCall_fl_seq
attribute [local go_sem high] TCall_eql TCall_neq
attribute [local go_sem ↓] TItem_ld0 TItem_st0 TItem_fd0 TItem_bd0
attribute [local go_sem] TItem_size TItem_one TItem_piece TItem_c0 TItem_c1 TItem_set_rep TItem_set_num TItem_ld TItem_st TItem_f_rep TItem_f_num TItem_bd TItem_fl TItem_fl_rep TItem_fl_num
attribute [local go_sem high] TItem_eql TItem_neq
attribute [local go_sem ↓] TBallot_ld0 TBallot_st0 TBallot_fd0 TBallot_bd0
attribute [local go_sem] TBallot_size TBallot_one TBallot_piece TBallot_c0 TBallot_c1 TBallot_set_round TBallot_set_rep TBallot_ld TBallot_st TBallot_f_round TBallot_f_rep TBallot_bd TBallot_fl TBallot_fl_round TBallot_fl_rep
attribute [local go_sem high] TBallot_eql TBallot_neq
attribute [local go_sem ↓] TMsg_ld0 TMsg_st0 TMsg_fd0 TMsg_bd0
attribute [local go_sem] TMsg_size TMsg_one TMsg_piece TMsg_c0 TMsg_c1 TMsg_c2 TMsg_c3 TMsg_c4 TMsg_c5 TMsg_c6 TMsg_c7 TMsg_c8 TMsg_c9 TMsg_c10 TMsg_c11 TMsg_c12 TMsg_c13 TMsg_c14 TMsg_c15 TMsg_c16 TMsg_c17 TMsg_c18 TMsg_c19 TMsg_c20 TMsg_c21 TMsg_c22 TMsg_c23 TMsg_c24 TMsg_set_kind TMsg_set_frm TMsg_set_to TMsg_p_item TMsg_put_item TMsg_p_bal TMsg_put_bal TMsg_p_vote TMsg_put_vote TMsg_set_status TMsg_set_same TMsg_p_call TMsg_put_call TMsg_ld TMsg_st TMsg_f_kind TMsg_f_frm TMsg_f_to TMsg_f_item TMsg_f_bal TMsg_f_vote TMsg_f_status TMsg_f_same TMsg_f_call TMsg_bd TMsg_fl TMsg_fl_kind TMsg_fl_frm TMsg_fl_to TMsg_fl_item TMsg_fl_bal TMsg_fl_vote TMsg_fl_status TMsg_fl_same TMsg_fl_call
attribute [local go_sem high] TMsg_eql TMsg_neq
attribute [local simp] size_ext
set_option maxHeartbeats 40000000 in
set_option maxRecDepth 100000 in
theorem rmailGood0 (m : Msg) (n : Int) (h0 : 1 ≤ m.kind ∧ m.kind ≤ 8 ∧ 0 ≤ m.frm ∧ m.frm < n ∧ 0 ≤ m.to ∧ m.to < n) (hx : goodI m.item n = false ∨ goodI m.item n = true ∧ goodBal m.bal n = false) : Ans Tryz.prog 10 #[.agg (MV m), .int .i64 n] (.bool (goodM m n)) := by
  intro W
  obtain ⟨q1, q2, q3, q4, q5, q6⟩ := id h0
  have h0d := decide_eq_true h0
  rcases hx with hI | ⟨hI, hB⟩
  case inl =>
    have hg : goodM m n = false := by unfold goodM noVote noC; simp [*]
    rw [hg]; clear hg h0 h0d
    go_enter Tryz.func10, Tryz.ntmps10
    go_wp2_with (first | (go_at_call 28; refine ((ritemGood_any _ _).go _).mono ?_; rintro e w1 ⟨rfl, x1, rfl⟩) | (go_at_call 29; refine ((rbalGood_any _ _).go _).mono ?_; rintro e w1 ⟨rfl, x1, rfl⟩) | (go_at_call 31; refine ((rgoodC_any _ _).go _).mono ?_; rintro e w1 ⟨rfl, x1, rfl⟩) | (go_at_call 30; refine ((rcalls_any _).go _).mono ?_; rintro e w1 ⟨rfl, x1, rfl⟩))
    all_goals first | (exfalso; omega) | (go_ret; exact ⟨rfl, by repeat (first | exact Below.refl _ _ | refine below_extM ?_ (by simp; try omega) _ | refine below_allocM ?_ _ (by simp; try omega))⟩)
  case inr =>
    have hg : goodM m n = false := by unfold goodM noVote noC; simp [*]
    rw [hg]; clear hg h0 h0d
    go_enter Tryz.func10, Tryz.ntmps10
    go_wp2_with (first | (go_at_call 28; refine ((ritemGood_any _ _).go _).mono ?_; rintro e w1 ⟨rfl, x1, rfl⟩) | (go_at_call 29; refine ((rbalGood_any _ _).go _).mono ?_; rintro e w1 ⟨rfl, x1, rfl⟩) | (go_at_call 31; refine ((rgoodC_any _ _).go _).mono ?_; rintro e w1 ⟨rfl, x1, rfl⟩) | (go_at_call 30; refine ((rcalls_any _).go _).mono ?_; rintro e w1 ⟨rfl, x1, rfl⟩))
    all_goals first | (exfalso; omega) | (go_ret; exact ⟨rfl, by repeat (first | exact Below.refl _ _ | refine below_extM ?_ (by simp; try omega) _ | refine below_allocM ?_ _ (by simp; try omega))⟩)
set_option maxHeartbeats 40000000 in
set_option maxRecDepth 100000 in
theorem rmailGood1 (m : Msg) (n : Int) (h0 : 1 ≤ m.kind ∧ m.kind ≤ 8 ∧ 0 ≤ m.frm ∧ m.frm < n ∧ 0 ≤ m.to ∧ m.to < n) (hI : goodI m.item n = true) (hB : goodBal m.bal n = true) (hcb : callsB m.kind = false) : Ans Tryz.prog 10 #[.agg (MV m), .int .i64 n] (.bool (goodM m n)) := by
  intro W
  obtain ⟨q1, q2, q3, q4, q5, q6⟩ := id h0
  have h0d := decide_eq_true h0
  have hkb : knownB m.kind = false := by
    cases hk : knownB m.kind
    · rfl
    · simp [knownB] at hk; simp [callsB, hk] at hcb
  have hk7 : (m.kind == 7) = false := by have h := hkb; unfold knownB at h; rw [Bool.eq_iff_iff] at h ⊢; simpa using h
  have hk77 : (m.kind != 7) = true := by simp [bne, hk7]
  have hk2 : (m.kind == 2) = false := by rw [beq_eq_false_iff_ne]; intro e; rw [e] at hcb; simp [callsB] at hcb
  have hk22 : (m.kind != 2) = true := by simp [bne, hk2]
  cases hnc : eqA (CV m.call) (CV noCall)
  case false =>
    have hg : goodM m n = false := by unfold goodM noVote noC; simp [*]
    rw [hg]; clear hg h0 h0d
    go_enter Tryz.func10, Tryz.ntmps10
    go_wp2_with (first | (go_at_call 28; refine ((ritemGood_any _ _).go _).mono ?_; rintro e w1 ⟨rfl, x1, rfl⟩) | (go_at_call 29; refine ((rbalGood_any _ _).go _).mono ?_; rintro e w1 ⟨rfl, x1, rfl⟩) | (go_at_call 31; refine ((rgoodC_any _ _).go _).mono ?_; rintro e w1 ⟨rfl, x1, rfl⟩) | (go_at_call 30; refine ((rcalls_any _).go _).mono ?_; rintro e w1 ⟨rfl, x1, rfl⟩))
    all_goals first | (exfalso; omega) | (go_ret; exact ⟨rfl, by repeat (first | exact Below.refl _ _ | refine below_extM ?_ (by simp; try omega) _ | refine below_allocM ?_ _ (by simp; try omega))⟩)
  case true =>
    cases hsm : m.same
    case false =>
      cases hv : eqA (BV m.vote) (BV noBallot)
      case false =>
        have hg : goodM m n = false := by unfold goodM noVote noC; simp [*]
        rw [hg]; clear hg h0 h0d
        go_enter Tryz.func10, Tryz.ntmps10
        go_wp2_with (first | (go_at_call 28; refine ((ritemGood_any _ _).go _).mono ?_; rintro e w1 ⟨rfl, x1, rfl⟩) | (go_at_call 29; refine ((rbalGood_any _ _).go _).mono ?_; rintro e w1 ⟨rfl, x1, rfl⟩) | (go_at_call 31; refine ((rgoodC_any _ _).go _).mono ?_; rintro e w1 ⟨rfl, x1, rfl⟩) | (go_at_call 30; refine ((rcalls_any _).go _).mono ?_; rintro e w1 ⟨rfl, x1, rfl⟩))
        all_goals first | (exfalso; omega) | (go_ret; exact ⟨rfl, by repeat (first | exact Below.refl _ _ | refine below_extM ?_ (by simp; try omega) _ | refine below_allocM ?_ _ (by simp; try omega))⟩)
      case true =>
        cases hst : m.status == 0
        case false =>
          have hst2 : (m.status != 0) = true := by simp [bne, hst]
          have hg : goodM m n = false := by unfold goodM noVote noC; simp [*]
          rw [hg]; clear hg h0 h0d
          go_enter Tryz.func10, Tryz.ntmps10
          go_wp2_with (first | (go_at_call 28; refine ((ritemGood_any _ _).go _).mono ?_; rintro e w1 ⟨rfl, x1, rfl⟩) | (go_at_call 29; refine ((rbalGood_any _ _).go _).mono ?_; rintro e w1 ⟨rfl, x1, rfl⟩) | (go_at_call 31; refine ((rgoodC_any _ _).go _).mono ?_; rintro e w1 ⟨rfl, x1, rfl⟩) | (go_at_call 30; refine ((rcalls_any _).go _).mono ?_; rintro e w1 ⟨rfl, x1, rfl⟩))
          all_goals first | (exfalso; omega) | (go_ret; exact ⟨rfl, by repeat (first | exact Below.refl _ _ | refine below_extM ?_ (by simp; try omega) _ | refine below_allocM ?_ _ (by simp; try omega))⟩)
        case true =>
          have hst2 : (m.status != 0) = false := by simp [bne, hst]
          have hg : goodM m n = true := by unfold goodM noVote noC; simp [*]
          rw [hg]; clear hg h0 h0d
          go_enter Tryz.func10, Tryz.ntmps10
          go_wp2_with (first | (go_at_call 28; refine ((ritemGood_any _ _).go _).mono ?_; rintro e w1 ⟨rfl, x1, rfl⟩) | (go_at_call 29; refine ((rbalGood_any _ _).go _).mono ?_; rintro e w1 ⟨rfl, x1, rfl⟩) | (go_at_call 31; refine ((rgoodC_any _ _).go _).mono ?_; rintro e w1 ⟨rfl, x1, rfl⟩) | (go_at_call 30; refine ((rcalls_any _).go _).mono ?_; rintro e w1 ⟨rfl, x1, rfl⟩))
          all_goals first | (exfalso; omega) | (go_ret; exact ⟨rfl, by repeat (first | exact Below.refl _ _ | refine below_extM ?_ (by simp; try omega) _ | refine below_allocM ?_ _ (by simp; try omega))⟩)
    case true =>
      have hg : goodM m n = false := by unfold goodM noVote noC; simp [*]
      rw [hg]; clear hg h0 h0d
      go_enter Tryz.func10, Tryz.ntmps10
      go_wp2_with (first | (go_at_call 28; refine ((ritemGood_any _ _).go _).mono ?_; rintro e w1 ⟨rfl, x1, rfl⟩) | (go_at_call 29; refine ((rbalGood_any _ _).go _).mono ?_; rintro e w1 ⟨rfl, x1, rfl⟩) | (go_at_call 31; refine ((rgoodC_any _ _).go _).mono ?_; rintro e w1 ⟨rfl, x1, rfl⟩) | (go_at_call 30; refine ((rcalls_any _).go _).mono ?_; rintro e w1 ⟨rfl, x1, rfl⟩))
      all_goals first | (exfalso; omega) | (go_ret; exact ⟨rfl, by repeat (first | exact Below.refl _ _ | refine below_extM ?_ (by simp; try omega) _ | refine below_allocM ?_ _ (by simp; try omega))⟩)
set_option maxHeartbeats 40000000 in
set_option maxRecDepth 100000 in
theorem rmailGood2 (m : Msg) (n : Int) (h0 : 1 ≤ m.kind ∧ m.kind ≤ 8 ∧ 0 ≤ m.frm ∧ m.frm < n ∧ 0 ≤ m.to ∧ m.to < n) (hI : goodI m.item n = true) (hB : goodBal m.bal n = true) (hcb : callsB m.kind = true) (hgc : goodC m.call n = true) (hkb : knownB m.kind = false) : Ans Tryz.prog 10 #[.agg (MV m), .int .i64 n] (.bool (goodM m n)) := by
  intro W
  obtain ⟨q1, q2, q3, q4, q5, q6⟩ := id h0
  have h0d := decide_eq_true h0
  have hk7 : (m.kind == 7) = false := by have h := hkb; unfold knownB at h; rw [Bool.eq_iff_iff] at h ⊢; simpa using h
  have hk77 : (m.kind != 7) = true := by simp [bne, hk7]
  cases hsm : m.same
  case false =>
    cases hv : eqA (BV m.vote) (BV noBallot)
    case false =>
      have hg : goodM m n = false := by unfold goodM noVote noC; simp [*]
      rw [hg]; clear hg h0 h0d
      go_enter Tryz.func10, Tryz.ntmps10
      go_wp2_with (first | (go_at_call 28; refine ((ritemGood_any _ _).go _).mono ?_; rintro e w1 ⟨rfl, x1, rfl⟩) | (go_at_call 29; refine ((rbalGood_any _ _).go _).mono ?_; rintro e w1 ⟨rfl, x1, rfl⟩) | (go_at_call 31; refine ((rgoodC_any _ _).go _).mono ?_; rintro e w1 ⟨rfl, x1, rfl⟩) | (go_at_call 30; refine ((rcalls_any _).go _).mono ?_; rintro e w1 ⟨rfl, x1, rfl⟩))
      all_goals first | (exfalso; omega) | (go_ret; exact ⟨rfl, by repeat (first | exact Below.refl _ _ | refine below_extM ?_ (by simp; try omega) _ | refine below_allocM ?_ _ (by simp; try omega))⟩)
    case true =>
      cases hst : m.status == 0
      case false =>
        have hst2 : (m.status != 0) = true := by simp [bne, hst]
        have hg : goodM m n = false := by unfold goodM noVote noC; simp [*]
        rw [hg]; clear hg h0 h0d
        go_enter Tryz.func10, Tryz.ntmps10
        go_wp2_with (first | (go_at_call 28; refine ((ritemGood_any _ _).go _).mono ?_; rintro e w1 ⟨rfl, x1, rfl⟩) | (go_at_call 29; refine ((rbalGood_any _ _).go _).mono ?_; rintro e w1 ⟨rfl, x1, rfl⟩) | (go_at_call 31; refine ((rgoodC_any _ _).go _).mono ?_; rintro e w1 ⟨rfl, x1, rfl⟩) | (go_at_call 30; refine ((rcalls_any _).go _).mono ?_; rintro e w1 ⟨rfl, x1, rfl⟩))
        all_goals first | (exfalso; omega) | (go_ret; exact ⟨rfl, by repeat (first | exact Below.refl _ _ | refine below_extM ?_ (by simp; try omega) _ | refine below_allocM ?_ _ (by simp; try omega))⟩)
      case true =>
        have hst2 : (m.status != 0) = false := by simp [bne, hst]
        have hg : goodM m n = true := by unfold goodM noVote noC; simp [*]
        rw [hg]; clear hg h0 h0d
        go_enter Tryz.func10, Tryz.ntmps10
        go_wp2_with (first | (go_at_call 28; refine ((ritemGood_any _ _).go _).mono ?_; rintro e w1 ⟨rfl, x1, rfl⟩) | (go_at_call 29; refine ((rbalGood_any _ _).go _).mono ?_; rintro e w1 ⟨rfl, x1, rfl⟩) | (go_at_call 31; refine ((rgoodC_any _ _).go _).mono ?_; rintro e w1 ⟨rfl, x1, rfl⟩) | (go_at_call 30; refine ((rcalls_any _).go _).mono ?_; rintro e w1 ⟨rfl, x1, rfl⟩))
        all_goals first | (exfalso; omega) | (go_ret; exact ⟨rfl, by repeat (first | exact Below.refl _ _ | refine below_extM ?_ (by simp; try omega) _ | refine below_allocM ?_ _ (by simp; try omega))⟩)
  case true =>
    cases hk2 : m.kind == 2
    case false =>
      have hk22 : (m.kind != 2) = true := by simp [bne, hk2]
      have hg : goodM m n = false := by unfold goodM noVote noC; simp [*]
      rw [hg]; clear hg h0 h0d
      go_enter Tryz.func10, Tryz.ntmps10
      go_wp2_with (first | (go_at_call 28; refine ((ritemGood_any _ _).go _).mono ?_; rintro e w1 ⟨rfl, x1, rfl⟩) | (go_at_call 29; refine ((rbalGood_any _ _).go _).mono ?_; rintro e w1 ⟨rfl, x1, rfl⟩) | (go_at_call 31; refine ((rgoodC_any _ _).go _).mono ?_; rintro e w1 ⟨rfl, x1, rfl⟩) | (go_at_call 30; refine ((rcalls_any _).go _).mono ?_; rintro e w1 ⟨rfl, x1, rfl⟩))
      all_goals first | (exfalso; omega) | (go_ret; exact ⟨rfl, by repeat (first | exact Below.refl _ _ | refine below_extM ?_ (by simp; try omega) _ | refine below_allocM ?_ _ (by simp; try omega))⟩)
    case true =>
      have hk22 : (m.kind != 2) = false := by simp [bne, hk2]
      cases hv : eqA (BV m.vote) (BV noBallot)
      case false =>
        have hg : goodM m n = false := by unfold goodM noVote noC; simp [*]
        rw [hg]; clear hg h0 h0d
        go_enter Tryz.func10, Tryz.ntmps10
        go_wp2_with (first | (go_at_call 28; refine ((ritemGood_any _ _).go _).mono ?_; rintro e w1 ⟨rfl, x1, rfl⟩) | (go_at_call 29; refine ((rbalGood_any _ _).go _).mono ?_; rintro e w1 ⟨rfl, x1, rfl⟩) | (go_at_call 31; refine ((rgoodC_any _ _).go _).mono ?_; rintro e w1 ⟨rfl, x1, rfl⟩) | (go_at_call 30; refine ((rcalls_any _).go _).mono ?_; rintro e w1 ⟨rfl, x1, rfl⟩))
        all_goals first | (exfalso; omega) | (go_ret; exact ⟨rfl, by repeat (first | exact Below.refl _ _ | refine below_extM ?_ (by simp; try omega) _ | refine below_allocM ?_ _ (by simp; try omega))⟩)
      case true =>
        cases hst : m.status == 0
        case false =>
          have hst2 : (m.status != 0) = true := by simp [bne, hst]
          have hg : goodM m n = false := by unfold goodM noVote noC; simp [*]
          rw [hg]; clear hg h0 h0d
          go_enter Tryz.func10, Tryz.ntmps10
          go_wp2_with (first | (go_at_call 28; refine ((ritemGood_any _ _).go _).mono ?_; rintro e w1 ⟨rfl, x1, rfl⟩) | (go_at_call 29; refine ((rbalGood_any _ _).go _).mono ?_; rintro e w1 ⟨rfl, x1, rfl⟩) | (go_at_call 31; refine ((rgoodC_any _ _).go _).mono ?_; rintro e w1 ⟨rfl, x1, rfl⟩) | (go_at_call 30; refine ((rcalls_any _).go _).mono ?_; rintro e w1 ⟨rfl, x1, rfl⟩))
          all_goals first | (exfalso; omega) | (go_ret; exact ⟨rfl, by repeat (first | exact Below.refl _ _ | refine below_extM ?_ (by simp; try omega) _ | refine below_allocM ?_ _ (by simp; try omega))⟩)
        case true =>
          have hst2 : (m.status != 0) = false := by simp [bne, hst]
          have hg : goodM m n = true := by unfold goodM noVote noC; simp [*]
          rw [hg]; clear hg h0 h0d
          go_enter Tryz.func10, Tryz.ntmps10
          go_wp2_with (first | (go_at_call 28; refine ((ritemGood_any _ _).go _).mono ?_; rintro e w1 ⟨rfl, x1, rfl⟩) | (go_at_call 29; refine ((rbalGood_any _ _).go _).mono ?_; rintro e w1 ⟨rfl, x1, rfl⟩) | (go_at_call 31; refine ((rgoodC_any _ _).go _).mono ?_; rintro e w1 ⟨rfl, x1, rfl⟩) | (go_at_call 30; refine ((rcalls_any _).go _).mono ?_; rintro e w1 ⟨rfl, x1, rfl⟩))
          all_goals first | (exfalso; omega) | (go_ret; exact ⟨rfl, by repeat (first | exact Below.refl _ _ | refine below_extM ?_ (by simp; try omega) _ | refine below_allocM ?_ _ (by simp; try omega))⟩)
end Go.Proofs.YtfgacjglfdehbaaGreatDoor
/- Layer 7: whether a message can be, in the document's words: the cases. Printed by rmailgood.py. -/
namespace Go.Proofs.YtfgacjglfdehbaaGreatDoor
open Go.RowKit
set_option linter.unusedVariables false
attribute [local go_sem] row_alloc row_drew row_drewN row_ext row_setCell row_setRow size_ext setRow_alloc setRow_drew loadOf storeOf piece_lit loadVal_at storeVal_at allOne_lit buildOf buildRes_some
attribute [local go_sem high] cell_alloc frozen_alloc setCell_alloc cell_ext frozen_ext cell_setRow frozen_setRow
attribute [local go_sem ↓] TDeed_ld0 TDeed_st0 TDeed_fd0 TDeed_bd0
attribute [local go_sem] TDeed_size TDeed_one TDeed_piece TDeed_c0 TDeed_c1 TDeed_c2 TDeed_c3 TDeed_c4 TDeed_c5 TDeed_set_kind TDeed_set_key TDeed_set_val TDeed_set_ver TDeed_set_ses TDeed_set_num TDeed_ld TDeed_st TDeed_f_kind TDeed_f_key TDeed_f_val TDeed_f_ver TDeed_f_ses TDeed_f_num TDeed_bd TDeed_fl TDeed_fl_kind TDeed_fl_key TDeed_fl_val TDeed_fl_ver TDeed_fl_ses TDeed_fl_num
attribute [local go_sem high] TDeed_eql TDeed_neq
attribute [local go_sem ↓] index_deps0 load_deps0 store_deps0
attribute [local go_sem] DV_piece DV_size DV_one index_deps load_deps store_deps
attribute [local go_sem high] TDeps_eql TDeps_neq
attribute [local go_sem ↓] TCall_ld0 TCall_st0 TCall_fd0 TCall_bd0
attribute [local go_sem] TCall_size TCall_one TCall_piece TCall_c0 TCall_c1 TCall_c2 TCall_c3 TCall_c4 TCall_c5 TCall_c6 TCall_c7 TCall_c8 TCall_c9 TCall_c10 TCall_c11 TCall_c12 TCall_c13 TCall_p_deed TCall_put_deed TCall_p_deps TCall_put_deps TCall_set_seq TCall_ld TCall_st TCall_f_deed TCall_f_deps TCall_f_seq TCall_bd TCall_fl TCall_fl_deed TCall_fl_deps TCall_fl_seq
attribute [local go_sem high] TCall_eql TCall_neq
attribute [local go_sem ↓] TItem_ld0 TItem_st0 TItem_fd0 TItem_bd0
attribute [local go_sem] TItem_size TItem_one TItem_piece TItem_c0 TItem_c1 TItem_set_rep TItem_set_num TItem_ld TItem_st TItem_f_rep TItem_f_num TItem_bd TItem_fl TItem_fl_rep TItem_fl_num
attribute [local go_sem high] TItem_eql TItem_neq
attribute [local go_sem ↓] TBallot_ld0 TBallot_st0 TBallot_fd0 TBallot_bd0
attribute [local go_sem] TBallot_size TBallot_one TBallot_piece TBallot_c0 TBallot_c1 TBallot_set_round TBallot_set_rep TBallot_ld TBallot_st TBallot_f_round TBallot_f_rep TBallot_bd TBallot_fl TBallot_fl_round TBallot_fl_rep
attribute [local go_sem high] TBallot_eql TBallot_neq
attribute [local go_sem ↓] TMsg_ld0 TMsg_st0 TMsg_fd0 TMsg_bd0
attribute [local go_sem] TMsg_size TMsg_one TMsg_piece TMsg_c0 TMsg_c1 TMsg_c2 TMsg_c3 TMsg_c4 TMsg_c5 TMsg_c6 TMsg_c7 TMsg_c8 TMsg_c9 TMsg_c10 TMsg_c11 TMsg_c12 TMsg_c13 TMsg_c14 TMsg_c15 TMsg_c16 TMsg_c17 TMsg_c18 TMsg_c19 TMsg_c20 TMsg_c21 TMsg_c22 TMsg_c23 TMsg_c24 TMsg_set_kind TMsg_set_frm TMsg_set_to TMsg_p_item TMsg_put_item TMsg_p_bal TMsg_put_bal TMsg_p_vote TMsg_put_vote TMsg_set_status TMsg_set_same TMsg_p_call TMsg_put_call TMsg_ld TMsg_st TMsg_f_kind TMsg_f_frm TMsg_f_to TMsg_f_item TMsg_f_bal TMsg_f_vote TMsg_f_status TMsg_f_same TMsg_f_call TMsg_bd TMsg_fl TMsg_fl_kind TMsg_fl_frm TMsg_fl_to TMsg_fl_item TMsg_fl_bal TMsg_fl_vote TMsg_fl_status TMsg_fl_same TMsg_fl_call
attribute [local go_sem high] TMsg_eql TMsg_neq
attribute [local simp] size_ext
set_option maxHeartbeats 40000000 in
set_option maxRecDepth 100000 in
theorem rmailGood3 (m : Msg) (n : Int) (h0 : 1 ≤ m.kind ∧ m.kind ≤ 8 ∧ 0 ≤ m.frm ∧ m.frm < n ∧ 0 ≤ m.to ∧ m.to < n) (hI : goodI m.item n = true) (hB : goodBal m.bal n = true) (hcb : callsB m.kind = true) (hgc : goodC m.call n = true) (hkb : knownB m.kind = true) (hst : (m.status == 0) = false) : Ans Tryz.prog 10 #[.agg (MV m), .int .i64 n] (.bool (goodM m n)) := by
  intro W
  obtain ⟨q1, q2, q3, q4, q5, q6⟩ := id h0
  have h0d := decide_eq_true h0
  have hk7 : (m.kind == 7) = true := by have h := hkb; unfold knownB at h; rw [Bool.eq_iff_iff] at h ⊢; simpa using h
  have hk77 : (m.kind != 7) = false := by simp [bne, hk7]
  have hst2 : (m.status != 0) = true := by simp [bne, hst]
  have hk2 : (m.kind == 2) = false := by rw [beq_eq_false_iff_ne]; intro e; rw [e] at hk7; simp at hk7
  have hk22 : (m.kind != 2) = true := by simp [bne, hk2]
  cases hsm : m.same
  case false =>
    by_cases hs : 0 ≤ m.status ∧ m.status ≤ 3
    case neg =>
      have hsd := decide_eq_false hs
      by_cases hs1 : 0 ≤ m.status
      case neg =>
        have hg : goodM m n = false := by unfold goodM noVote noC; simp [*]
        rw [hg]; clear hg h0 h0d
        go_enter Tryz.func10, Tryz.ntmps10
        go_wp2_with (first | (go_at_call 28; refine ((ritemGood_any _ _).go _).mono ?_; rintro e w1 ⟨rfl, x1, rfl⟩) | (go_at_call 29; refine ((rbalGood_any _ _).go _).mono ?_; rintro e w1 ⟨rfl, x1, rfl⟩) | (go_at_call 31; refine ((rgoodC_any _ _).go _).mono ?_; rintro e w1 ⟨rfl, x1, rfl⟩) | (go_at_call 30; refine ((rcalls_any _).go _).mono ?_; rintro e w1 ⟨rfl, x1, rfl⟩))
        all_goals first | (exfalso; omega) | (go_ret; exact ⟨rfl, by repeat (first | exact Below.refl _ _ | refine below_extM ?_ (by simp; try omega) _ | refine below_allocM ?_ _ (by simp; try omega))⟩)
      case pos =>
        have hs2 : ¬ m.status ≤ 3 := fun h => hs ⟨hs1, h⟩
        have hg : goodM m n = false := by unfold goodM noVote noC; simp [*]
        rw [hg]; clear hg h0 h0d
        go_enter Tryz.func10, Tryz.ntmps10
        go_wp2_with (first | (go_at_call 28; refine ((ritemGood_any _ _).go _).mono ?_; rintro e w1 ⟨rfl, x1, rfl⟩) | (go_at_call 29; refine ((rbalGood_any _ _).go _).mono ?_; rintro e w1 ⟨rfl, x1, rfl⟩) | (go_at_call 31; refine ((rgoodC_any _ _).go _).mono ?_; rintro e w1 ⟨rfl, x1, rfl⟩) | (go_at_call 30; refine ((rcalls_any _).go _).mono ?_; rintro e w1 ⟨rfl, x1, rfl⟩))
        all_goals first | (exfalso; omega) | (go_ret; exact ⟨rfl, by repeat (first | exact Below.refl _ _ | refine below_extM ?_ (by simp; try omega) _ | refine below_allocM ?_ _ (by simp; try omega))⟩)
    case pos =>
      obtain ⟨s1, s2⟩ := id hs
      have hsd := decide_eq_true hs
      cases hgv : goodBal m.vote n
      case false =>
        have hg : goodM m n = false := by unfold goodM noVote noC; simp [*]
        rw [hg]; clear hg h0 h0d
        go_enter Tryz.func10, Tryz.ntmps10
        go_wp2_with (first | (go_at_call 28; refine ((ritemGood_any _ _).go _).mono ?_; rintro e w1 ⟨rfl, x1, rfl⟩) | (go_at_call 29; refine ((rbalGood_any _ _).go _).mono ?_; rintro e w1 ⟨rfl, x1, rfl⟩) | (go_at_call 31; refine ((rgoodC_any _ _).go _).mono ?_; rintro e w1 ⟨rfl, x1, rfl⟩) | (go_at_call 30; refine ((rcalls_any _).go _).mono ?_; rintro e w1 ⟨rfl, x1, rfl⟩))
        all_goals first | (exfalso; omega) | (go_ret; exact ⟨rfl, by repeat (first | exact Below.refl _ _ | refine below_extM ?_ (by simp; try omega) _ | refine below_allocM ?_ _ (by simp; try omega))⟩)
      case true =>
        have hg : goodM m n = true := by unfold goodM noVote noC; simp [*]
        rw [hg]; clear hg h0 h0d
        go_enter Tryz.func10, Tryz.ntmps10
        go_wp2_with (first | (go_at_call 28; refine ((ritemGood_any _ _).go _).mono ?_; rintro e w1 ⟨rfl, x1, rfl⟩) | (go_at_call 29; refine ((rbalGood_any _ _).go _).mono ?_; rintro e w1 ⟨rfl, x1, rfl⟩) | (go_at_call 31; refine ((rgoodC_any _ _).go _).mono ?_; rintro e w1 ⟨rfl, x1, rfl⟩) | (go_at_call 30; refine ((rcalls_any _).go _).mono ?_; rintro e w1 ⟨rfl, x1, rfl⟩))
        all_goals first | (exfalso; omega) | (go_ret; exact ⟨rfl, by repeat (first | exact Below.refl _ _ | refine below_extM ?_ (by simp; try omega) _ | refine below_allocM ?_ _ (by simp; try omega))⟩)
  case true =>
    by_cases hs : 0 ≤ m.status ∧ m.status ≤ 3
    case neg =>
      have hsd := decide_eq_false hs
      by_cases hs1 : 0 ≤ m.status
      case neg =>
        have hg : goodM m n = false := by unfold goodM noVote noC; simp [*]
        rw [hg]; clear hg h0 h0d
        go_enter Tryz.func10, Tryz.ntmps10
        go_wp2_with (first | (go_at_call 28; refine ((ritemGood_any _ _).go _).mono ?_; rintro e w1 ⟨rfl, x1, rfl⟩) | (go_at_call 29; refine ((rbalGood_any _ _).go _).mono ?_; rintro e w1 ⟨rfl, x1, rfl⟩) | (go_at_call 31; refine ((rgoodC_any _ _).go _).mono ?_; rintro e w1 ⟨rfl, x1, rfl⟩) | (go_at_call 30; refine ((rcalls_any _).go _).mono ?_; rintro e w1 ⟨rfl, x1, rfl⟩))
        all_goals first | (exfalso; omega) | (go_ret; exact ⟨rfl, by repeat (first | exact Below.refl _ _ | refine below_extM ?_ (by simp; try omega) _ | refine below_allocM ?_ _ (by simp; try omega))⟩)
      case pos =>
        have hs2 : ¬ m.status ≤ 3 := fun h => hs ⟨hs1, h⟩
        have hg : goodM m n = false := by unfold goodM noVote noC; simp [*]
        rw [hg]; clear hg h0 h0d
        go_enter Tryz.func10, Tryz.ntmps10
        go_wp2_with (first | (go_at_call 28; refine ((ritemGood_any _ _).go _).mono ?_; rintro e w1 ⟨rfl, x1, rfl⟩) | (go_at_call 29; refine ((rbalGood_any _ _).go _).mono ?_; rintro e w1 ⟨rfl, x1, rfl⟩) | (go_at_call 31; refine ((rgoodC_any _ _).go _).mono ?_; rintro e w1 ⟨rfl, x1, rfl⟩) | (go_at_call 30; refine ((rcalls_any _).go _).mono ?_; rintro e w1 ⟨rfl, x1, rfl⟩))
        all_goals first | (exfalso; omega) | (go_ret; exact ⟨rfl, by repeat (first | exact Below.refl _ _ | refine below_extM ?_ (by simp; try omega) _ | refine below_allocM ?_ _ (by simp; try omega))⟩)
    case pos =>
      obtain ⟨s1, s2⟩ := id hs
      have hsd := decide_eq_true hs
      cases hgv : goodBal m.vote n
      case false =>
        have hg : goodM m n = false := by unfold goodM noVote noC; simp [*]
        rw [hg]; clear hg h0 h0d
        go_enter Tryz.func10, Tryz.ntmps10
        go_wp2_with (first | (go_at_call 28; refine ((ritemGood_any _ _).go _).mono ?_; rintro e w1 ⟨rfl, x1, rfl⟩) | (go_at_call 29; refine ((rbalGood_any _ _).go _).mono ?_; rintro e w1 ⟨rfl, x1, rfl⟩) | (go_at_call 31; refine ((rgoodC_any _ _).go _).mono ?_; rintro e w1 ⟨rfl, x1, rfl⟩) | (go_at_call 30; refine ((rcalls_any _).go _).mono ?_; rintro e w1 ⟨rfl, x1, rfl⟩))
        all_goals first | (exfalso; omega) | (go_ret; exact ⟨rfl, by repeat (first | exact Below.refl _ _ | refine below_extM ?_ (by simp; try omega) _ | refine below_allocM ?_ _ (by simp; try omega))⟩)
      case true =>
        have hg : goodM m n = true := by unfold goodM noVote noC; simp [*]
        rw [hg]; clear hg h0 h0d
        go_enter Tryz.func10, Tryz.ntmps10
        go_wp2_with (first | (go_at_call 28; refine ((ritemGood_any _ _).go _).mono ?_; rintro e w1 ⟨rfl, x1, rfl⟩) | (go_at_call 29; refine ((rbalGood_any _ _).go _).mono ?_; rintro e w1 ⟨rfl, x1, rfl⟩) | (go_at_call 31; refine ((rgoodC_any _ _).go _).mono ?_; rintro e w1 ⟨rfl, x1, rfl⟩) | (go_at_call 30; refine ((rcalls_any _).go _).mono ?_; rintro e w1 ⟨rfl, x1, rfl⟩))
        all_goals first | (exfalso; omega) | (go_ret; exact ⟨rfl, by repeat (first | exact Below.refl _ _ | refine below_extM ?_ (by simp; try omega) _ | refine below_allocM ?_ _ (by simp; try omega))⟩)
set_option maxHeartbeats 40000000 in
set_option maxRecDepth 100000 in
theorem rmailGood4 (m : Msg) (n : Int) (h0 : 1 ≤ m.kind ∧ m.kind ≤ 8 ∧ 0 ≤ m.frm ∧ m.frm < n ∧ 0 ≤ m.to ∧ m.to < n) (hI : goodI m.item n = true) (hB : goodBal m.bal n = true) (hcb : callsB m.kind = true) (hgc : goodC m.call n = true) (hkb : knownB m.kind = true) (hst : (m.status == 0) = true) : Ans Tryz.prog 10 #[.agg (MV m), .int .i64 n] (.bool (goodM m n)) := by
  intro W
  obtain ⟨q1, q2, q3, q4, q5, q6⟩ := id h0
  have h0d := decide_eq_true h0
  have hk7 : (m.kind == 7) = true := by have h := hkb; unfold knownB at h; rw [Bool.eq_iff_iff] at h ⊢; simpa using h
  have hk77 : (m.kind != 7) = false := by simp [bne, hk7]
  have hst2 : (m.status != 0) = false := by simp [bne, hst]
  have hk2 : (m.kind == 2) = false := by rw [beq_eq_false_iff_ne]; intro e; rw [e] at hk7; simp at hk7
  have hk22 : (m.kind != 2) = true := by simp [bne, hk2]
  have s0 : m.status = 0 := by simpa using hst
  have s1 : 0 ≤ m.status := by omega
  have s2 : m.status ≤ 3 := by omega
  have hsd := decide_eq_true (And.intro s1 s2)
  clear s0
  cases hsm : m.same
  case true =>
    cases hv : eqA (BV m.vote) (BV noBallot)
    case false =>
      have hg : goodM m n = false := by unfold goodM noVote noC; simp [*]
      rw [hg]; clear hg h0 h0d
      go_enter Tryz.func10, Tryz.ntmps10
      go_wp2_with (first | (go_at_call 28; refine ((ritemGood_any _ _).go _).mono ?_; rintro e w1 ⟨rfl, x1, rfl⟩) | (go_at_call 29; refine ((rbalGood_any _ _).go _).mono ?_; rintro e w1 ⟨rfl, x1, rfl⟩) | (go_at_call 31; refine ((rgoodC_any _ _).go _).mono ?_; rintro e w1 ⟨rfl, x1, rfl⟩) | (go_at_call 30; refine ((rcalls_any _).go _).mono ?_; rintro e w1 ⟨rfl, x1, rfl⟩))
      all_goals first | (exfalso; omega) | (go_ret; exact ⟨rfl, by repeat (first | exact Below.refl _ _ | refine below_extM ?_ (by simp; try omega) _ | refine below_allocM ?_ _ (by simp; try omega))⟩)
    case true =>
      cases hnc : eqA (CV m.call) (CV noCall)
      case false =>
        have hg : goodM m n = false := by unfold goodM noVote noC; simp [*]
        rw [hg]; clear hg h0 h0d
        go_enter Tryz.func10, Tryz.ntmps10
        go_wp2_with (first | (go_at_call 28; refine ((ritemGood_any _ _).go _).mono ?_; rintro e w1 ⟨rfl, x1, rfl⟩) | (go_at_call 29; refine ((rbalGood_any _ _).go _).mono ?_; rintro e w1 ⟨rfl, x1, rfl⟩) | (go_at_call 31; refine ((rgoodC_any _ _).go _).mono ?_; rintro e w1 ⟨rfl, x1, rfl⟩) | (go_at_call 30; refine ((rcalls_any _).go _).mono ?_; rintro e w1 ⟨rfl, x1, rfl⟩))
        all_goals first | (exfalso; omega) | (go_ret; exact ⟨rfl, by repeat (first | exact Below.refl _ _ | refine below_extM ?_ (by simp; try omega) _ | refine below_allocM ?_ _ (by simp; try omega))⟩)
      case true =>
        have hg : goodM m n = false := by unfold goodM noVote noC; simp [*]
        rw [hg]; clear hg h0 h0d
        go_enter Tryz.func10, Tryz.ntmps10
        go_wp2_with (first | (go_at_call 28; refine ((ritemGood_any _ _).go _).mono ?_; rintro e w1 ⟨rfl, x1, rfl⟩) | (go_at_call 29; refine ((rbalGood_any _ _).go _).mono ?_; rintro e w1 ⟨rfl, x1, rfl⟩) | (go_at_call 31; refine ((rgoodC_any _ _).go _).mono ?_; rintro e w1 ⟨rfl, x1, rfl⟩) | (go_at_call 30; refine ((rcalls_any _).go _).mono ?_; rintro e w1 ⟨rfl, x1, rfl⟩))
        all_goals first | (exfalso; omega) | (go_ret; exact ⟨rfl, by repeat (first | exact Below.refl _ _ | refine below_extM ?_ (by simp; try omega) _ | refine below_allocM ?_ _ (by simp; try omega))⟩)
  case false =>
    cases hv : eqA (BV m.vote) (BV noBallot)
    case false =>
      have hg : goodM m n = false := by unfold goodM noVote noC; simp [*]
      rw [hg]; clear hg h0 h0d
      go_enter Tryz.func10, Tryz.ntmps10
      go_wp2_with (first | (go_at_call 28; refine ((ritemGood_any _ _).go _).mono ?_; rintro e w1 ⟨rfl, x1, rfl⟩) | (go_at_call 29; refine ((rbalGood_any _ _).go _).mono ?_; rintro e w1 ⟨rfl, x1, rfl⟩) | (go_at_call 31; refine ((rgoodC_any _ _).go _).mono ?_; rintro e w1 ⟨rfl, x1, rfl⟩) | (go_at_call 30; refine ((rcalls_any _).go _).mono ?_; rintro e w1 ⟨rfl, x1, rfl⟩))
      all_goals first | (exfalso; omega) | (go_ret; exact ⟨rfl, by repeat (first | exact Below.refl _ _ | refine below_extM ?_ (by simp; try omega) _ | refine below_allocM ?_ _ (by simp; try omega))⟩)
    case true =>
      cases hnc : eqA (CV m.call) (CV noCall)
      case false =>
        have hg : goodM m n = false := by unfold goodM noVote noC; simp [*]
        rw [hg]; clear hg h0 h0d
        go_enter Tryz.func10, Tryz.ntmps10
        go_wp2_with (first | (go_at_call 28; refine ((ritemGood_any _ _).go _).mono ?_; rintro e w1 ⟨rfl, x1, rfl⟩) | (go_at_call 29; refine ((rbalGood_any _ _).go _).mono ?_; rintro e w1 ⟨rfl, x1, rfl⟩) | (go_at_call 31; refine ((rgoodC_any _ _).go _).mono ?_; rintro e w1 ⟨rfl, x1, rfl⟩) | (go_at_call 30; refine ((rcalls_any _).go _).mono ?_; rintro e w1 ⟨rfl, x1, rfl⟩))
        all_goals first | (exfalso; omega) | (go_ret; exact ⟨rfl, by repeat (first | exact Below.refl _ _ | refine below_extM ?_ (by simp; try omega) _ | refine below_allocM ?_ _ (by simp; try omega))⟩)
      case true =>
        cases hgv : goodBal m.vote n
        case false =>
          have hg : goodM m n = false := by unfold goodM noVote noC; simp [*]
          rw [hg]; clear hg h0 h0d
          go_enter Tryz.func10, Tryz.ntmps10
          go_wp2_with (first | (go_at_call 28; refine ((ritemGood_any _ _).go _).mono ?_; rintro e w1 ⟨rfl, x1, rfl⟩) | (go_at_call 29; refine ((rbalGood_any _ _).go _).mono ?_; rintro e w1 ⟨rfl, x1, rfl⟩) | (go_at_call 31; refine ((rgoodC_any _ _).go _).mono ?_; rintro e w1 ⟨rfl, x1, rfl⟩) | (go_at_call 30; refine ((rcalls_any _).go _).mono ?_; rintro e w1 ⟨rfl, x1, rfl⟩))
          all_goals first | (exfalso; omega) | (go_ret; exact ⟨rfl, by repeat (first | exact Below.refl _ _ | refine below_extM ?_ (by simp; try omega) _ | refine below_allocM ?_ _ (by simp; try omega))⟩)
        case true =>
          have hg : goodM m n = true := by unfold goodM noVote noC; simp [*]
          rw [hg]; clear hg h0 h0d
          go_enter Tryz.func10, Tryz.ntmps10
          go_wp2_with (first | (go_at_call 28; refine ((ritemGood_any _ _).go _).mono ?_; rintro e w1 ⟨rfl, x1, rfl⟩) | (go_at_call 29; refine ((rbalGood_any _ _).go _).mono ?_; rintro e w1 ⟨rfl, x1, rfl⟩) | (go_at_call 31; refine ((rgoodC_any _ _).go _).mono ?_; rintro e w1 ⟨rfl, x1, rfl⟩) | (go_at_call 30; refine ((rcalls_any _).go _).mono ?_; rintro e w1 ⟨rfl, x1, rfl⟩))
          all_goals first | (exfalso; omega) | (go_ret; exact ⟨rfl, by repeat (first | exact Below.refl _ _ | refine below_extM ?_ (by simp; try omega) _ | refine below_allocM ?_ _ (by simp; try omega))⟩)
end Go.Proofs.YtfgacjglfdehbaaGreatDoor
