/- Several texts in one. -/
import Derived.Test.YtomlilkobhkoiaaGreatDoorQ28
/- Layer 7: whether a message can be: the cases. Printed by mailgood.py. -/
namespace Go.Proofs.YtomlilkobhkoiaaGreatDoor
open Go.RowKit
set_option linter.unusedVariables false
attribute [local go_sem] row_alloc row_drew row_drewN row_ext row_setCell row_setRow size_ext setRow_alloc setRow_drew loadOf storeOf piece_lit loadVal_at storeVal_at allOne_lit buildOf buildRes_some
attribute [local go_sem high] cell_alloc frozen_alloc setCell_alloc cell_ext frozen_ext cell_setRow frozen_setRow
attribute [local go_sem ↓] TDeed_ld0 TDeed_st0 TDeed_fd0 TDeed_bd0
attribute [local go_sem] TDeed_size TDeed_one TDeed_piece TDeed_c0 TDeed_c1 TDeed_c2 TDeed_c3 TDeed_c4 TDeed_c5 TDeed_set_kind TDeed_set_key TDeed_set_val TDeed_set_ver TDeed_set_ses TDeed_set_num TDeed_ld TDeed_st TDeed_f_kind TDeed_f_key TDeed_f_val TDeed_f_ver TDeed_f_ses TDeed_f_num TDeed_bd TDeed_fl TDeed_fl_kind TDeed_fl_key TDeed_fl_val TDeed_fl_ver TDeed_fl_ses TDeed_fl_num
attribute [local go_sem high] TDeed_eql TDeed_neq
attribute [local go_sem ↓] index_deps0 load_deps0 store_deps0
attribute [local go_sem] DV_piece DV_size DV_one index_deps load_deps store_deps
attribute [local go_sem high] TDeps_eql TDeps_neq
attribute [local go_sem ↓] TCall_ld0 TCall_st0 TCall_fd0 TCall_bd0
attribute [local go_sem] TCall_size TCall_one TCall_piece TCall_c0 TCall_c1 TCall_c2 TCall_c3 TCall_c4 TCall_c5 TCall_c6 TCall_c7 TCall_c8 TCall_c9 TCall_c10 TCall_c11 TCall_c12 TCall_c13 TCall_p_deed TCall_put_deed TCall_p_deps TCall_put_deps TCall_set_seq TCall_ld TCall_st TCall_f_deed TCall_f_deps TCall_f_seq TCall_bd TCall_fl TCall_fl_deed TCall_fl_deps TCall_fl_seq
attribute [local go_sem high] TCall_eql TCall_neq
attribute [local go_sem ↓] TItem_ld0 TItem_st0 TItem_fd0 TItem_bd0
attribute [local go_sem] TItem_size TItem_one TItem_piece TItem_c0 TItem_c1 TItem_set_rep TItem_set_num TItem_ld TItem_st TItem_f_rep TItem_f_num TItem_bd TItem_fl TItem_fl_rep TItem_fl_num
attribute [local go_sem high] TItem_eql TItem_neq
attribute [local go_sem ↓] TBallot_ld0 TBallot_st0 TBallot_fd0 TBallot_bd0
attribute [local go_sem] TBallot_size TBallot_one TBallot_piece TBallot_c0 TBallot_c1 TBallot_set_round TBallot_set_rep TBallot_ld TBallot_st TBallot_f_round TBallot_f_rep TBallot_bd TBallot_fl TBallot_fl_round TBallot_fl_rep
attribute [local go_sem high] TBallot_eql TBallot_neq
attribute [local go_sem ↓] TMsg_ld0 TMsg_st0 TMsg_fd0 TMsg_bd0
attribute [local go_sem] TMsg_size TMsg_one TMsg_piece TMsg_c0 TMsg_c1 TMsg_c2 TMsg_c3 TMsg_c4 TMsg_c5 TMsg_c6 TMsg_c7 TMsg_c8 TMsg_c9 TMsg_c10 TMsg_c11 TMsg_c12 TMsg_c13 TMsg_c14 TMsg_c15 TMsg_c16 TMsg_c17 TMsg_c18 TMsg_c19 TMsg_c20 TMsg_c21 TMsg_c22 TMsg_c23 TMsg_c24 TMsg_set_kind TMsg_set_frm TMsg_set_to TMsg_p_item TMsg_put_item TMsg_p_bal TMsg_put_bal TMsg_p_vote TMsg_put_vote TMsg_set_status TMsg_set_same TMsg_p_call TMsg_put_call TMsg_ld TMsg_st TMsg_f_kind TMsg_f_frm TMsg_f_to TMsg_f_item TMsg_f_bal TMsg_f_vote TMsg_f_status TMsg_f_same TMsg_f_call TMsg_bd TMsg_fl TMsg_fl_kind TMsg_fl_frm TMsg_fl_to TMsg_fl_item TMsg_fl_bal TMsg_fl_vote TMsg_fl_status TMsg_fl_same TMsg_fl_call
attribute [local go_sem high] TMsg_eql TMsg_neq
attribute [local go_sem ↓] TCarries_ld0 TCarries_st0 TCarries_fd0 TCarries_bd0
attribute [local go_sem] TCarries_size TCarries_one TCarries_piece TCarries_c0 TCarries_c1 TCarries_set_call TCarries_set_known TCarries_ld TCarries_st TCarries_f_call TCarries_f_known TCarries_bd TCarries_fl TCarries_fl_call TCarries_fl_known
attribute [local go_sem high] TCarries_eql TCarries_neq
attribute [local go_sem] KndV_size
set_option maxHeartbeats 40000000 in
set_option maxRecDepth 100000 in
theorem mailGood_in0 (m : Msg) (n : Int) (h0 : 1 ≤ m.kind ∧ m.kind ≤ 8 ∧ 0 ≤ m.frm ∧ m.frm < n ∧ 0 ≤ m.to ∧ m.to < n) (hx : goodI m.item n = false ∨ goodBal m.bal n = false ∨ (goodI m.item n = true ∧ goodBal m.bal n = true ∧ callsB m.kind = true ∧ goodC m.call n = false)) : AnsK 90 #[.agg (MV m), .int .i64 n] (.bool (goodM m n)) := by
 intro W hK
 have hlt := row_lt hK
 obtain ⟨q1, q2, q3, q4, q5, q6⟩ := id h0
 have hp := KndV_piece m.kind.toNat (by omega)
 have hs : m.kind.toNat * 2 + 2 ≤ 18 := by omega
 rw [show ((m.kind.toNat : Nat) : Int) = m.kind by omega] at hp
 cases hI : goodI m.item n
 case false =>
  have hg : goodM m n = false := by unfold goodM; simp only [decide_eq_true h0, hI]; simp
  rw [hg]; clear hg h0
  go_enter Tryz.func90, Tryz.ntmps90
  go_wp2_with (first | (go_at_call 107; refine ((itemGood_any _ _).go _).mono ?_; rintro e w1 ⟨rfl, x1, rfl⟩) | (go_at_call 136; refine ((balGood_any _ _).go _).mono ?_; rintro e w1 ⟨rfl, x1, rfl⟩) | (go_at_call 137; refine ((goodCall_any _ _).go _).mono ?_; rintro e w1 ⟨rfl, x1, rfl⟩))
  all_goals first | (exfalso; omega) | (go_ret; exact ⟨rfl, by repeat (first | exact Below.refl _ _ | refine below_extM ?_ (by simp; try omega) _ | refine below_allocM ?_ _ (by simp; try omega))⟩)
 cases hB : goodBal m.bal n
 case false =>
  have hg : goodM m n = false := by unfold goodM; simp only [decide_eq_true h0, hI, hB]; simp
  rw [hg]; clear hg h0
  go_enter Tryz.func90, Tryz.ntmps90
  go_wp2_with (first | (go_at_call 107; refine ((itemGood_any _ _).go _).mono ?_; rintro e w1 ⟨rfl, x1, rfl⟩) | (go_at_call 136; refine ((balGood_any _ _).go _).mono ?_; rintro e w1 ⟨rfl, x1, rfl⟩) | (go_at_call 137; refine ((goodCall_any _ _).go _).mono ?_; rintro e w1 ⟨rfl, x1, rfl⟩))
  all_goals first | (exfalso; omega) | (go_ret; exact ⟨rfl, by repeat (first | exact Below.refl _ _ | refine below_extM ?_ (by simp [size_ext]; try omega) _ | refine below_allocM ?_ _ (by simp ; try omega))⟩)
 obtain ⟨_, _, hcb, hgc⟩ := hx.resolve_left (by simp [hI]) |>.resolve_left (by simp [hB])
 rw [hcb] at hp
 have hg : goodM m n = false := by unfold goodM; simp only [decide_eq_true h0, hI, hB, hcb, hgc, if_true]; simp
 rw [hg]; clear hg h0
 go_enter Tryz.func90, Tryz.ntmps90
 go_wp2_with (first | (go_at_call 107; refine ((itemGood_any _ _).go _).mono ?_; rintro e w1 ⟨rfl, x1, rfl⟩) | (go_at_call 136; refine ((balGood_any _ _).go _).mono ?_; rintro e w1 ⟨rfl, x1, rfl⟩) | (go_at_call 137; refine ((goodCall_any _ _).go _).mono ?_; rintro e w1 ⟨rfl, x1, rfl⟩))
 all_goals first | (exfalso; omega) | (go_ret; exact ⟨rfl, by repeat (first | exact Below.refl _ _ | refine below_extM ?_ (by simp [size_ext]; try omega) _ | refine below_allocM ?_ _ (by simp [size_ext]; try omega))⟩)
end Go.Proofs.YtomlilkobhkoiaaGreatDoor
/- Layer 7: whether a message can be: the cases. Printed by mailgood.py. -/
namespace Go.Proofs.YtomlilkobhkoiaaGreatDoor
open Go.RowKit
set_option linter.unusedVariables false
attribute [local go_sem] row_alloc row_drew row_drewN row_ext row_setCell row_setRow size_ext setRow_alloc setRow_drew loadOf storeOf piece_lit loadVal_at storeVal_at allOne_lit buildOf buildRes_some
attribute [local go_sem high] cell_alloc frozen_alloc setCell_alloc cell_ext frozen_ext cell_setRow frozen_setRow
attribute [local go_sem ↓] TDeed_ld0 TDeed_st0 TDeed_fd0 TDeed_bd0
attribute [local go_sem] TDeed_size TDeed_one TDeed_piece TDeed_c0 TDeed_c1 TDeed_c2 TDeed_c3 TDeed_c4 TDeed_c5 TDeed_set_kind TDeed_set_key TDeed_set_val TDeed_set_ver TDeed_set_ses TDeed_set_num TDeed_ld TDeed_st TDeed_f_kind TDeed_f_key TDeed_f_val TDeed_f_ver TDeed_f_ses TDeed_f_num TDeed_bd TDeed_fl TDeed_fl_kind TDeed_fl_key TDeed_fl_val TDeed_fl_ver TDeed_fl_ses TDeed_fl_num
attribute [local go_sem high] TDeed_eql TDeed_neq
attribute [local go_sem ↓] index_deps0 load_deps0 store_deps0
attribute [local go_sem] DV_piece DV_size DV_one index_deps load_deps store_deps
attribute [local go_sem high] TDeps_eql TDeps_neq
attribute [local go_sem ↓] TCall_ld0 TCall_st0 TCall_fd0 TCall_bd0
attribute [local go_sem] TCall_size TCall_one TCall_piece TCall_c0 TCall_c1 TCall_c2 TCall_c3 TCall_c4 TCall_c5 TCall_c6 TCall_c7 TCall_c8 TCall_c9 TCall_c10 TCall_c11 TCall_c12 TCall_c13 TCall_p_deed TCall_put_deed TCall_p_deps TCall_put_deps TCall_set_seq TCall_ld TCall_st TCall_f_deed TCall_f_deps TCall_f_seq TCall_bd TCall_fl TCall_fl_deed TCall_fl_deps TCall_fl_seq
attribute [local go_sem high] TCall_eql TCall_neq
attribute [local go_sem ↓] TItem_ld0 TItem_st0 TItem_fd0 TItem_bd0
attribute [local go_sem] TItem_size TItem_one TItem_piece TItem_c0 TItem_c1 TItem_set_rep TItem_set_num TItem_ld TItem_st TItem_f_rep TItem_f_num TItem_bd TItem_fl TItem_fl_rep TItem_fl_num
attribute [local go_sem high] TItem_eql TItem_neq
attribute [local go_sem ↓] TBallot_ld0 TBallot_st0 TBallot_fd0 TBallot_bd0
attribute [local go_sem] TBallot_size TBallot_one TBallot_piece TBallot_c0 TBallot_c1 TBallot_set_round TBallot_set_rep TBallot_ld TBallot_st TBallot_f_round TBallot_f_rep TBallot_bd TBallot_fl TBallot_fl_round TBallot_fl_rep
attribute [local go_sem high] TBallot_eql TBallot_neq
attribute [local go_sem ↓] TMsg_ld0 TMsg_st0 TMsg_fd0 TMsg_bd0
attribute [local go_sem] TMsg_size TMsg_one TMsg_piece TMsg_c0 TMsg_c1 TMsg_c2 TMsg_c3 TMsg_c4 TMsg_c5 TMsg_c6 TMsg_c7 TMsg_c8 TMsg_c9 TMsg_c10 TMsg_c11 TMsg_c12 TMsg_c13 TMsg_c14 TMsg_c15 TMsg_c16 TMsg_c17 TMsg_c18 TMsg_c19 TMsg_c20 TMsg_c21 TMsg_c22 TMsg_c23 TMsg_c24 TMsg_set_kind TMsg_set_frm TMsg_set_to TMsg_p_item TMsg_put_item TMsg_p_bal TMsg_put_bal TMsg_p_vote TMsg_put_vote TMsg_set_status TMsg_set_same TMsg_p_call TMsg_put_call TMsg_ld TMsg_st TMsg_f_kind TMsg_f_frm TMsg_f_to TMsg_f_item TMsg_f_bal TMsg_f_vote TMsg_f_status TMsg_f_same TMsg_f_call TMsg_bd TMsg_fl TMsg_fl_kind TMsg_fl_frm TMsg_fl_to TMsg_fl_item TMsg_fl_bal TMsg_fl_vote TMsg_fl_status TMsg_fl_same TMsg_fl_call
attribute [local go_sem high] TMsg_eql TMsg_neq
attribute [local go_sem ↓] TCarries_ld0 TCarries_st0 TCarries_fd0 TCarries_bd0
attribute [local go_sem] TCarries_size TCarries_one TCarries_piece TCarries_c0 TCarries_c1 TCarries_set_call TCarries_set_known TCarries_ld TCarries_st TCarries_f_call TCarries_f_known TCarries_bd TCarries_fl TCarries_fl_call TCarries_fl_known
attribute [local go_sem high] TCarries_eql TCarries_neq
attribute [local go_sem] KndV_size
set_option maxHeartbeats 40000000 in
set_option maxRecDepth 100000 in
theorem mailGood_in1 (m : Msg) (n : Int) (h0 : 1 ≤ m.kind ∧ m.kind ≤ 8 ∧ 0 ≤ m.frm ∧ m.frm < n ∧ 0 ≤ m.to ∧ m.to < n) (hI : goodI m.item n = true) (hB : goodBal m.bal n = true) (hcb : callsB m.kind = false) : AnsK 90 #[.agg (MV m), .int .i64 n] (.bool (goodM m n)) := by
 intro W hK
 have hlt := row_lt hK
 obtain ⟨q1, q2, q3, q4, q5, q6⟩ := id h0
 have hp := KndV_piece m.kind.toNat (by omega)
 have hs : m.kind.toNat * 2 + 2 ≤ 18 := by omega
 rw [show ((m.kind.toNat : Nat) : Int) = m.kind by omega] at hp
 rw [hcb] at hp
 have hkb : knownB m.kind = false := by
  cases hk : knownB m.kind
  ·rfl
  ·simp [knownB] at hk; simp [callsB, hk] at hcb
 rw [hkb] at hp
 cases hnc : eqA (CV m.call) (CV noCall)
 case false =>
  have hg : goodM m n = false := by unfold goodM; simp only [decide_eq_true h0, hI, hB, hcb, noC, hnc, if_neg (show ¬ (false = true) by simp)]; simp
  rw [hg]; clear hg h0
  go_enter Tryz.func90, Tryz.ntmps90
  go_wp2_with (first | (go_at_call 107; refine ((itemGood_any _ _).go _).mono ?_; rintro e w1 ⟨rfl, x1, rfl⟩) | (go_at_call 136; refine ((balGood_any _ _).go _).mono ?_; rintro e w1 ⟨rfl, x1, rfl⟩) | (go_at_call 137; refine ((goodCall_any _ _).go _).mono ?_; rintro e w1 ⟨rfl, x1, rfl⟩))
  all_goals first | (exfalso; omega) | (go_ret; exact ⟨rfl, by repeat (first | exact Below.refl _ _ | refine below_extM ?_ (by simp [size_ext]; try omega) _ | refine below_allocM ?_ _ (by simp [size_ext]; try omega))⟩)
 case true =>
  cases hv : eqA (BV m.vote) (BV noBallot)
  case false =>
   have hg : goodM m n = false := by unfold goodM; simp only [decide_eq_true h0, hI, hB, hcb, noC, hnc, hkb, noVote, hv]; simp
   rw [hg]; clear hg h0
   go_enter Tryz.func90, Tryz.ntmps90
   go_wp2_with (first | (go_at_call 107; refine ((itemGood_any _ _).go _).mono ?_; rintro e w1 ⟨rfl, x1, rfl⟩) | (go_at_call 136; refine ((balGood_any _ _).go _).mono ?_; rintro e w1 ⟨rfl, x1, rfl⟩) | (go_at_call 137; refine ((goodCall_any _ _).go _).mono ?_; rintro e w1 ⟨rfl, x1, rfl⟩))
   all_goals first | (exfalso; omega) | (go_ret; exact ⟨rfl, by repeat (first | exact Below.refl _ _ | refine below_extM ?_ (by simp [size_ext]; try omega) _ | refine below_allocM ?_ _ (by simp [size_ext]; try omega))⟩)
  case true =>
   cases hst : m.status == 0
   case false =>
    have hst2 : (m.status != 0) = true := by simp [bne, hst]
    have hg : goodM m n = false := by unfold goodM; simp only [decide_eq_true h0, hI, hB, hcb, noC, hnc, hkb, noVote, hv, hst]; simp
    rw [hg]; clear hg h0
    go_enter Tryz.func90, Tryz.ntmps90
    go_wp2_with (first | (go_at_call 107; refine ((itemGood_any _ _).go _).mono ?_; rintro e w1 ⟨rfl, x1, rfl⟩) | (go_at_call 136; refine ((balGood_any _ _).go _).mono ?_; rintro e w1 ⟨rfl, x1, rfl⟩) | (go_at_call 137; refine ((goodCall_any _ _).go _).mono ?_; rintro e w1 ⟨rfl, x1, rfl⟩))
    all_goals first | (exfalso; omega) | (go_ret; exact ⟨rfl, by repeat (first | exact Below.refl _ _ | refine below_extM ?_ (by simp [size_ext]; try omega) _ | refine below_allocM ?_ _ (by simp [size_ext]; try omega))⟩)
   case true =>
    have hst2 : (m.status != 0) = false := by simp [bne, hst]
    cases hsm : m.same
    case false =>
     have hg : goodM m n = true := by unfold goodM; simp only [decide_eq_true h0, hI, hB, hcb, noC, hnc, hkb, noVote, hv, hst, hsm]; simp
     rw [hg]; clear hg h0
     go_enter Tryz.func90, Tryz.ntmps90
     go_wp2_with (first | (go_at_call 107; refine ((itemGood_any _ _).go _).mono ?_; rintro e w1 ⟨rfl, x1, rfl⟩) | (go_at_call 136; refine ((balGood_any _ _).go _).mono ?_; rintro e w1 ⟨rfl, x1, rfl⟩) | (go_at_call 137; refine ((goodCall_any _ _).go _).mono ?_; rintro e w1 ⟨rfl, x1, rfl⟩))
     all_goals first | (exfalso; omega) | (go_ret; exact ⟨rfl, by repeat (first | exact Below.refl _ _ | refine below_extM ?_ (by simp [size_ext]; try omega) _ | refine below_allocM ?_ _ (by simp [size_ext]; try omega))⟩)
    case true =>
     cases hk2 : m.kind == 2
     case false =>
      have hk22 : (m.kind != 2) = true := by simp [bne, hk2]
      have hg : goodM m n = false := by unfold goodM; simp only [decide_eq_true h0, hI, hB, hcb, noC, hnc, hkb, noVote, hv, hst, hsm, hk2]; simp
      rw [hg]; clear hg h0
      go_enter Tryz.func90, Tryz.ntmps90
      go_wp2_with (first | (go_at_call 107; refine ((itemGood_any _ _).go _).mono ?_; rintro e w1 ⟨rfl, x1, rfl⟩) | (go_at_call 136; refine ((balGood_any _ _).go _).mono ?_; rintro e w1 ⟨rfl, x1, rfl⟩) | (go_at_call 137; refine ((goodCall_any _ _).go _).mono ?_; rintro e w1 ⟨rfl, x1, rfl⟩))
      all_goals first | (exfalso; omega) | (go_ret; exact ⟨rfl, by repeat (first | exact Below.refl _ _ | refine below_extM ?_ (by simp [size_ext]; try omega) _ | refine below_allocM ?_ _ (by simp [size_ext]; try omega))⟩)
     case true =>
      have hk22 : (m.kind != 2) = false := by simp [bne, hk2]
      have hg : goodM m n = true := by unfold goodM; simp only [decide_eq_true h0, hI, hB, hcb, noC, hnc, hkb, noVote, hv, hst, hsm, hk2]; simp
      rw [hg]; clear hg h0
      go_enter Tryz.func90, Tryz.ntmps90
      go_wp2_with (first | (go_at_call 107; refine ((itemGood_any _ _).go _).mono ?_; rintro e w1 ⟨rfl, x1, rfl⟩) | (go_at_call 136; refine ((balGood_any _ _).go _).mono ?_; rintro e w1 ⟨rfl, x1, rfl⟩) | (go_at_call 137; refine ((goodCall_any _ _).go _).mono ?_; rintro e w1 ⟨rfl, x1, rfl⟩))
      all_goals first | (exfalso; omega) | (go_ret; exact ⟨rfl, by repeat (first | exact Below.refl _ _ | refine below_extM ?_ (by simp [size_ext]; try omega) _ | refine below_allocM ?_ _ (by simp [size_ext]; try omega))⟩)
end Go.Proofs.YtomlilkobhkoiaaGreatDoor
/- Layer 7: whether a message can be: the cases. Printed by mailgood.py. -/
namespace Go.Proofs.YtomlilkobhkoiaaGreatDoor
open Go.RowKit
set_option linter.unusedVariables false
attribute [local go_sem] row_alloc row_drew row_drewN row_ext row_setCell row_setRow size_ext setRow_alloc setRow_drew loadOf storeOf piece_lit loadVal_at storeVal_at allOne_lit buildOf buildRes_some
attribute [local go_sem high] cell_alloc frozen_alloc setCell_alloc cell_ext frozen_ext cell_setRow frozen_setRow
attribute [local go_sem ↓] TDeed_ld0 TDeed_st0 TDeed_fd0 TDeed_bd0
attribute [local go_sem] TDeed_size TDeed_one TDeed_piece TDeed_c0 TDeed_c1 TDeed_c2 TDeed_c3 TDeed_c4 TDeed_c5 TDeed_set_kind TDeed_set_key TDeed_set_val TDeed_set_ver TDeed_set_ses TDeed_set_num TDeed_ld TDeed_st TDeed_f_kind TDeed_f_key TDeed_f_val TDeed_f_ver TDeed_f_ses TDeed_f_num TDeed_bd TDeed_fl TDeed_fl_kind TDeed_fl_key TDeed_fl_val TDeed_fl_ver TDeed_fl_ses TDeed_fl_num
attribute [local go_sem high] TDeed_eql TDeed_neq
attribute [local go_sem ↓] index_deps0 load_deps0 store_deps0
attribute [local go_sem] DV_piece DV_size DV_one index_deps load_deps store_deps
attribute [local go_sem high] TDeps_eql TDeps_neq
attribute [local go_sem ↓] TCall_ld0 TCall_st0 TCall_fd0 TCall_bd0
attribute [local go_sem] TCall_size TCall_one TCall_piece TCall_c0 TCall_c1 TCall_c2 TCall_c3 TCall_c4 TCall_c5 TCall_c6 TCall_c7 TCall_c8 TCall_c9 TCall_c10 TCall_c11 TCall_c12 TCall_c13 TCall_p_deed TCall_put_deed TCall_p_deps TCall_put_deps TCall_set_seq TCall_ld TCall_st TCall_f_deed TCall_f_deps TCall_f_seq TCall_bd TCall_fl TCall_fl_deed TCall_fl_deps TCall_fl_seq
attribute [local go_sem high] TCall_eql TCall_neq
attribute [local go_sem ↓] TItem_ld0 TItem_st0 TItem_fd0 TItem_bd0
attribute [local go_sem] TItem_size TItem_one TItem_piece TItem_c0 TItem_c1 TItem_set_rep TItem_set_num TItem_ld TItem_st TItem_f_rep TItem_f_num TItem_bd TItem_fl TItem_fl_rep TItem_fl_num
attribute [local go_sem high] TItem_eql TItem_neq
attribute [local go_sem ↓] TBallot_ld0 TBallot_st0 TBallot_fd0 TBallot_bd0
attribute [local go_sem] TBallot_size TBallot_one TBallot_piece TBallot_c0 TBallot_c1 TBallot_set_round TBallot_set_rep TBallot_ld TBallot_st TBallot_f_round TBallot_f_rep TBallot_bd TBallot_fl TBallot_fl_round TBallot_fl_rep
attribute [local go_sem high] TBallot_eql TBallot_neq
attribute [local go_sem ↓] TMsg_ld0 TMsg_st0 TMsg_fd0 TMsg_bd0
attribute [local go_sem] TMsg_size TMsg_one TMsg_piece TMsg_c0 TMsg_c1 TMsg_c2 TMsg_c3 TMsg_c4 TMsg_c5 TMsg_c6 TMsg_c7 TMsg_c8 TMsg_c9 TMsg_c10 TMsg_c11 TMsg_c12 TMsg_c13 TMsg_c14 TMsg_c15 TMsg_c16 TMsg_c17 TMsg_c18 TMsg_c19 TMsg_c20 TMsg_c21 TMsg_c22 TMsg_c23 TMsg_c24 TMsg_set_kind TMsg_set_frm TMsg_set_to TMsg_p_item TMsg_put_item TMsg_p_bal TMsg_put_bal TMsg_p_vote TMsg_put_vote TMsg_set_status TMsg_set_same TMsg_p_call TMsg_put_call TMsg_ld TMsg_st TMsg_f_kind TMsg_f_frm TMsg_f_to TMsg_f_item TMsg_f_bal TMsg_f_vote TMsg_f_status TMsg_f_same TMsg_f_call TMsg_bd TMsg_fl TMsg_fl_kind TMsg_fl_frm TMsg_fl_to TMsg_fl_item TMsg_fl_bal TMsg_fl_vote TMsg_fl_status TMsg_fl_same TMsg_fl_call
attribute [local go_sem high] TMsg_eql TMsg_neq
attribute [local go_sem ↓] TCarries_ld0 TCarries_st0 TCarries_fd0 TCarries_bd0
attribute [local go_sem] TCarries_size TCarries_one TCarries_piece TCarries_c0 TCarries_c1 TCarries_set_call TCarries_set_known TCarries_ld TCarries_st TCarries_f_call TCarries_f_known TCarries_bd TCarries_fl TCarries_fl_call TCarries_fl_known
attribute [local go_sem high] TCarries_eql TCarries_neq
attribute [local go_sem] KndV_size
set_option maxHeartbeats 40000000 in
set_option maxRecDepth 100000 in
theorem mailGood_in2 (m : Msg) (n : Int) (h0 : 1 ≤ m.kind ∧ m.kind ≤ 8 ∧ 0 ≤ m.frm ∧ m.frm < n ∧ 0 ≤ m.to ∧ m.to < n) (hI : goodI m.item n = true) (hB : goodBal m.bal n = true) (hcb : callsB m.kind = true) (hgc : goodC m.call n = true) (hkb : knownB m.kind = false) : AnsK 90 #[.agg (MV m), .int .i64 n] (.bool (goodM m n)) := by
 intro W hK
 have hlt := row_lt hK
 obtain ⟨q1, q2, q3, q4, q5, q6⟩ := id h0
 have hp := KndV_piece m.kind.toNat (by omega)
 have hs : m.kind.toNat * 2 + 2 ≤ 18 := by omega
 rw [show ((m.kind.toNat : Nat) : Int) = m.kind by omega] at hp
 rw [hcb, hkb] at hp
 cases hv : eqA (BV m.vote) (BV noBallot)
 case false =>
  have hg : goodM m n = false := by unfold goodM; simp only [decide_eq_true h0, hI, hB, hcb, hgc, hkb, if_true, noVote, hv]; simp
  rw [hg]; clear hg h0
  go_enter Tryz.func90, Tryz.ntmps90
  go_wp2_with (first | (go_at_call 107; refine ((itemGood_any _ _).go _).mono ?_; rintro e w1 ⟨rfl, x1, rfl⟩) | (go_at_call 136; refine ((balGood_any _ _).go _).mono ?_; rintro e w1 ⟨rfl, x1, rfl⟩) | (go_at_call 137; refine ((goodCall_any _ _).go _).mono ?_; rintro e w1 ⟨rfl, x1, rfl⟩))
  all_goals first | (exfalso; omega) | (go_ret; exact ⟨rfl, by repeat (first | exact Below.refl _ _ | refine below_extM ?_ (by simp [size_ext]; try omega) _ | refine below_allocM ?_ _ (by simp [size_ext]; try omega))⟩)
 case true =>
  cases hst : m.status == 0
  case false =>
   have hst2 : (m.status != 0) = true := by simp [bne, hst]
   have hg : goodM m n = false := by unfold goodM; simp only [decide_eq_true h0, hI, hB, hcb, hgc, hkb, if_true, noVote, hv, hst]; simp
   rw [hg]; clear hg h0
   go_enter Tryz.func90, Tryz.ntmps90
   go_wp2_with (first | (go_at_call 107; refine ((itemGood_any _ _).go _).mono ?_; rintro e w1 ⟨rfl, x1, rfl⟩) | (go_at_call 136; refine ((balGood_any _ _).go _).mono ?_; rintro e w1 ⟨rfl, x1, rfl⟩) | (go_at_call 137; refine ((goodCall_any _ _).go _).mono ?_; rintro e w1 ⟨rfl, x1, rfl⟩))
   all_goals first | (exfalso; omega) | (go_ret; exact ⟨rfl, by repeat (first | exact Below.refl _ _ | refine below_extM ?_ (by simp [size_ext]; try omega) _ | refine below_allocM ?_ _ (by simp [size_ext]; try omega))⟩)
  case true =>
   have hst2 : (m.status != 0) = false := by simp [bne, hst]
   cases hsm : m.same
   case false =>
    have hg : goodM m n = true := by unfold goodM; simp only [decide_eq_true h0, hI, hB, hcb, hgc, hkb, if_true, noVote, hv, hst, hsm]; simp
    rw [hg]; clear hg h0
    go_enter Tryz.func90, Tryz.ntmps90
    go_wp2_with (first | (go_at_call 107; refine ((itemGood_any _ _).go _).mono ?_; rintro e w1 ⟨rfl, x1, rfl⟩) | (go_at_call 136; refine ((balGood_any _ _).go _).mono ?_; rintro e w1 ⟨rfl, x1, rfl⟩) | (go_at_call 137; refine ((goodCall_any _ _).go _).mono ?_; rintro e w1 ⟨rfl, x1, rfl⟩))
    all_goals first | (exfalso; omega) | (go_ret; exact ⟨rfl, by repeat (first | exact Below.refl _ _ | refine below_extM ?_ (by simp [size_ext]; try omega) _ | refine below_allocM ?_ _ (by simp [size_ext]; try omega))⟩)
   case true =>
    cases hk2 : m.kind == 2
    case false =>
     have hk22 : (m.kind != 2) = true := by simp [bne, hk2]
     have hg : goodM m n = false := by unfold goodM; simp only [decide_eq_true h0, hI, hB, hcb, hgc, hkb, if_true, noVote, hv, hst, hsm, hk2]; simp
     rw [hg]; clear hg h0
     go_enter Tryz.func90, Tryz.ntmps90
     go_wp2_with (first | (go_at_call 107; refine ((itemGood_any _ _).go _).mono ?_; rintro e w1 ⟨rfl, x1, rfl⟩) | (go_at_call 136; refine ((balGood_any _ _).go _).mono ?_; rintro e w1 ⟨rfl, x1, rfl⟩) | (go_at_call 137; refine ((goodCall_any _ _).go _).mono ?_; rintro e w1 ⟨rfl, x1, rfl⟩))
     all_goals first | (exfalso; omega) | (go_ret; exact ⟨rfl, by repeat (first | exact Below.refl _ _ | refine below_extM ?_ (by simp [size_ext]; try omega) _ | refine below_allocM ?_ _ (by simp [size_ext]; try omega))⟩)
    case true =>
     have hk22 : (m.kind != 2) = false := by simp [bne, hk2]
     have hg : goodM m n = true := by unfold goodM; simp only [decide_eq_true h0, hI, hB, hcb, hgc, hkb, if_true, noVote, hv, hst, hsm, hk2]; simp
     rw [hg]; clear hg h0
     go_enter Tryz.func90, Tryz.ntmps90
     go_wp2_with (first | (go_at_call 107; refine ((itemGood_any _ _).go _).mono ?_; rintro e w1 ⟨rfl, x1, rfl⟩) | (go_at_call 136; refine ((balGood_any _ _).go _).mono ?_; rintro e w1 ⟨rfl, x1, rfl⟩) | (go_at_call 137; refine ((goodCall_any _ _).go _).mono ?_; rintro e w1 ⟨rfl, x1, rfl⟩))
     all_goals first | (exfalso; omega) | (go_ret; exact ⟨rfl, by repeat (first | exact Below.refl _ _ | refine below_extM ?_ (by simp [size_ext]; try omega) _ | refine below_allocM ?_ _ (by simp [size_ext]; try omega))⟩)
end Go.Proofs.YtomlilkobhkoiaaGreatDoor
/- Layer 7: whether a message can be: the cases. Printed by mailgood.py. -/
namespace Go.Proofs.YtomlilkobhkoiaaGreatDoor
open Go.RowKit
set_option linter.unusedVariables false
attribute [local go_sem] row_alloc row_drew row_drewN row_ext row_setCell row_setRow size_ext setRow_alloc setRow_drew loadOf storeOf piece_lit loadVal_at storeVal_at allOne_lit buildOf buildRes_some
attribute [local go_sem high] cell_alloc frozen_alloc setCell_alloc cell_ext frozen_ext cell_setRow frozen_setRow
attribute [local go_sem ↓] TDeed_ld0 TDeed_st0 TDeed_fd0 TDeed_bd0
attribute [local go_sem] TDeed_size TDeed_one TDeed_piece TDeed_c0 TDeed_c1 TDeed_c2 TDeed_c3 TDeed_c4 TDeed_c5 TDeed_set_kind TDeed_set_key TDeed_set_val TDeed_set_ver TDeed_set_ses TDeed_set_num TDeed_ld TDeed_st TDeed_f_kind TDeed_f_key TDeed_f_val TDeed_f_ver TDeed_f_ses TDeed_f_num TDeed_bd TDeed_fl TDeed_fl_kind TDeed_fl_key TDeed_fl_val TDeed_fl_ver TDeed_fl_ses TDeed_fl_num
attribute [local go_sem high] TDeed_eql TDeed_neq
attribute [local go_sem ↓] index_deps0 load_deps0 store_deps0
attribute [local go_sem] DV_piece DV_size DV_one index_deps load_deps store_deps
attribute [local go_sem high] TDeps_eql TDeps_neq
attribute [local go_sem ↓] TCall_ld0 TCall_st0 TCall_fd0 TCall_bd0
attribute [local go_sem] TCall_size TCall_one TCall_piece TCall_c0 TCall_c1 TCall_c2 TCall_c3 TCall_c4 TCall_c5 TCall_c6 TCall_c7 TCall_c8 TCall_c9 TCall_c10 TCall_c11 TCall_c12 TCall_c13 TCall_p_deed TCall_put_deed TCall_p_deps TCall_put_deps TCall_set_seq TCall_ld TCall_st TCall_f_deed TCall_f_deps TCall_f_seq TCall_bd TCall_fl TCall_fl_deed TCall_fl_deps TCall_fl_seq
attribute [local go_sem high] TCall_eql TCall_neq
attribute [local go_sem ↓] TItem_ld0 TItem_st0 TItem_fd0 TItem_bd0
attribute [local go_sem] TItem_size TItem_one TItem_piece TItem_c0 TItem_c1 TItem_set_rep TItem_set_num TItem_ld TItem_st TItem_f_rep TItem_f_num TItem_bd TItem_fl TItem_fl_rep TItem_fl_num
attribute [local go_sem high] TItem_eql TItem_neq
attribute [local go_sem ↓] TBallot_ld0 TBallot_st0 TBallot_fd0 TBallot_bd0
attribute [local go_sem] TBallot_size TBallot_one TBallot_piece TBallot_c0 TBallot_c1 TBallot_set_round TBallot_set_rep TBallot_ld TBallot_st TBallot_f_round TBallot_f_rep TBallot_bd TBallot_fl TBallot_fl_round TBallot_fl_rep
attribute [local go_sem high] TBallot_eql TBallot_neq
attribute [local go_sem ↓] TMsg_ld0 TMsg_st0 TMsg_fd0 TMsg_bd0
attribute [local go_sem] TMsg_size TMsg_one TMsg_piece TMsg_c0 TMsg_c1 TMsg_c2 TMsg_c3 TMsg_c4 TMsg_c5 TMsg_c6 TMsg_c7 TMsg_c8 TMsg_c9 TMsg_c10 TMsg_c11 TMsg_c12 TMsg_c13 TMsg_c14 TMsg_c15 TMsg_c16 TMsg_c17 TMsg_c18 TMsg_c19 TMsg_c20 TMsg_c21 TMsg_c22 TMsg_c23 TMsg_c24 TMsg_set_kind TMsg_set_frm TMsg_set_to TMsg_p_item TMsg_put_item TMsg_p_bal TMsg_put_bal TMsg_p_vote TMsg_put_vote TMsg_set_status TMsg_set_same TMsg_p_call TMsg_put_call TMsg_ld TMsg_st TMsg_f_kind TMsg_f_frm TMsg_f_to TMsg_f_item TMsg_f_bal TMsg_f_vote TMsg_f_status TMsg_f_same TMsg_f_call TMsg_bd TMsg_fl TMsg_fl_kind TMsg_fl_frm TMsg_fl_to TMsg_fl_item TMsg_fl_bal TMsg_fl_vote TMsg_fl_status TMsg_fl_same TMsg_fl_call
attribute [local go_sem high] TMsg_eql TMsg_neq
attribute [local go_sem ↓] TCarries_ld0 TCarries_st0 TCarries_fd0 TCarries_bd0
attribute [local go_sem] TCarries_size TCarries_one TCarries_piece TCarries_c0 TCarries_c1 TCarries_set_call TCarries_set_known TCarries_ld TCarries_st TCarries_f_call TCarries_f_known TCarries_bd TCarries_fl TCarries_fl_call TCarries_fl_known
attribute [local go_sem high] TCarries_eql TCarries_neq
attribute [local go_sem] KndV_size
set_option maxHeartbeats 40000000 in
set_option maxRecDepth 100000 in
theorem mailGood_in3 (m : Msg) (n : Int) (h0 : 1 ≤ m.kind ∧ m.kind ≤ 8 ∧ 0 ≤ m.frm ∧ m.frm < n ∧ 0 ≤ m.to ∧ m.to < n) (hI : goodI m.item n = true) (hB : goodBal m.bal n = true) (hcb : callsB m.kind = true) (hgc : goodC m.call n = true) (hkb : knownB m.kind = true) (hgv : goodBal m.vote n = false) : AnsK 90 #[.agg (MV m), .int .i64 n] (.bool (goodM m n)) := by
 intro W hK
 have hlt := row_lt hK
 obtain ⟨q1, q2, q3, q4, q5, q6⟩ := id h0
 have hp := KndV_piece m.kind.toNat (by omega)
 have hs : m.kind.toNat * 2 + 2 ≤ 18 := by omega
 rw [show ((m.kind.toNat : Nat) : Int) = m.kind by omega] at hp
 rw [hcb, hkb] at hp
 cases hv : eqA (BV m.vote) (BV noBallot)
 case false =>
  have hg : goodM m n = false := by unfold goodM; simp only [decide_eq_true h0, hI, hB, hcb, hgc, hkb, if_true, hgv]; simp
  rw [hg]; clear hg h0
  go_enter Tryz.func90, Tryz.ntmps90
  go_wp2_with (first | (go_at_call 107; refine ((itemGood_any _ _).go _).mono ?_; rintro e w1 ⟨rfl, x1, rfl⟩) | (go_at_call 136; refine ((balGood_any _ _).go _).mono ?_; rintro e w1 ⟨rfl, x1, rfl⟩) | (go_at_call 137; refine ((goodCall_any _ _).go _).mono ?_; rintro e w1 ⟨rfl, x1, rfl⟩))
  all_goals first | (exfalso; omega) | (go_ret; exact ⟨rfl, by repeat (first | exact Below.refl _ _ | refine below_extM ?_ (by simp [size_ext]; try omega) _ | refine below_allocM ?_ _ (by simp [size_ext]; try omega))⟩)
 case true =>
  cases hnc : eqA (CV m.call) (CV noCall)
  case false =>
   have hg : goodM m n = false := by unfold goodM; simp only [decide_eq_true h0, hI, hB, hcb, hgc, hkb, if_true, hgv]; simp
   rw [hg]; clear hg h0
   go_enter Tryz.func90, Tryz.ntmps90
   go_wp2_with (first | (go_at_call 107; refine ((itemGood_any _ _).go _).mono ?_; rintro e w1 ⟨rfl, x1, rfl⟩) | (go_at_call 136; refine ((balGood_any _ _).go _).mono ?_; rintro e w1 ⟨rfl, x1, rfl⟩) | (go_at_call 137; refine ((goodCall_any _ _).go _).mono ?_; rintro e w1 ⟨rfl, x1, rfl⟩))
   all_goals first | (exfalso; omega) | (go_ret; exact ⟨rfl, by repeat (first | exact Below.refl _ _ | refine below_extM ?_ (by simp [size_ext]; try omega) _ | refine below_allocM ?_ _ (by simp [size_ext]; try omega))⟩)
  case true =>
   cases hsm : m.same
   case false =>
    have hg : goodM m n = false := by unfold goodM; simp only [decide_eq_true h0, hI, hB, hcb, hgc, hkb, if_true, hgv]; simp
    rw [hg]; clear hg h0
    go_enter Tryz.func90, Tryz.ntmps90
    go_wp2_with (first | (go_at_call 107; refine ((itemGood_any _ _).go _).mono ?_; rintro e w1 ⟨rfl, x1, rfl⟩) | (go_at_call 136; refine ((balGood_any _ _).go _).mono ?_; rintro e w1 ⟨rfl, x1, rfl⟩) | (go_at_call 137; refine ((goodCall_any _ _).go _).mono ?_; rintro e w1 ⟨rfl, x1, rfl⟩))
    all_goals first | (exfalso; omega) | (go_ret; exact ⟨rfl, by repeat (first | exact Below.refl _ _ | refine below_extM ?_ (by simp [size_ext]; try omega) _ | refine below_allocM ?_ _ (by simp [size_ext]; try omega))⟩)
   case true =>
    have hg : goodM m n = false := by unfold goodM; simp only [decide_eq_true h0, hI, hB, hcb, hgc, hkb, if_true, hgv]; simp
    rw [hg]; clear hg h0
    go_enter Tryz.func90, Tryz.ntmps90
    go_wp2_with (first | (go_at_call 107; refine ((itemGood_any _ _).go _).mono ?_; rintro e w1 ⟨rfl, x1, rfl⟩) | (go_at_call 136; refine ((balGood_any _ _).go _).mono ?_; rintro e w1 ⟨rfl, x1, rfl⟩) | (go_at_call 137; refine ((goodCall_any _ _).go _).mono ?_; rintro e w1 ⟨rfl, x1, rfl⟩))
    all_goals first | (exfalso; omega) | (go_ret; exact ⟨rfl, by repeat (first | exact Below.refl _ _ | refine below_extM ?_ (by simp [size_ext]; try omega) _ | refine below_allocM ?_ _ (by simp [size_ext]; try omega))⟩)
end Go.Proofs.YtomlilkobhkoiaaGreatDoor
/- Layer 7: whether a message can be: the cases. Printed by mailgood.py. -/
namespace Go.Proofs.YtomlilkobhkoiaaGreatDoor
open Go.RowKit
set_option linter.unusedVariables false
attribute [local go_sem] row_alloc row_drew row_drewN row_ext row_setCell row_setRow size_ext setRow_alloc setRow_drew loadOf storeOf piece_lit loadVal_at storeVal_at allOne_lit buildOf buildRes_some
attribute [local go_sem high] cell_alloc frozen_alloc setCell_alloc cell_ext frozen_ext cell_setRow frozen_setRow
attribute [local go_sem ↓] TDeed_ld0 TDeed_st0 TDeed_fd0 TDeed_bd0
attribute [local go_sem] TDeed_size TDeed_one TDeed_piece TDeed_c0 TDeed_c1 TDeed_c2 TDeed_c3 TDeed_c4 TDeed_c5 TDeed_set_kind TDeed_set_key TDeed_set_val TDeed_set_ver TDeed_set_ses TDeed_set_num TDeed_ld TDeed_st TDeed_f_kind TDeed_f_key TDeed_f_val TDeed_f_ver TDeed_f_ses TDeed_f_num TDeed_bd TDeed_fl TDeed_fl_kind TDeed_fl_key TDeed_fl_val TDeed_fl_ver TDeed_fl_ses TDeed_fl_num
attribute [local go_sem high] TDeed_eql TDeed_neq
attribute [local go_sem ↓] index_deps0 load_deps0 store_deps0
attribute [local go_sem] DV_piece DV_size DV_one index_deps load_deps store_deps
attribute [local go_sem high] TDeps_eql TDeps_neq
attribute [local go_sem ↓] TCall_ld0 TCall_st0 TCall_fd0 TCall_bd0
attribute [local go_sem] TCall_size TCall_one TCall_piece TCall_c0 TCall_c1 TCall_c2 TCall_c3 TCall_c4 TCall_c5 TCall_c6 TCall_c7 TCall_c8 TCall_c9 TCall_c10 TCall_c11 TCall_c12 TCall_c13 TCall_p_deed TCall_put_deed TCall_p_deps TCall_put_deps TCall_set_seq TCall_ld TCall_st TCall_f_deed TCall_f_deps TCall_f_seq TCall_bd TCall_fl TCall_fl_deed TCall_fl_deps TCall_fl_seq
attribute [local go_sem high] TCall_eql TCall_neq
attribute [local go_sem ↓] TItem_ld0 TItem_st0 TItem_fd0 TItem_bd0
attribute [local go_sem] TItem_size TItem_one TItem_piece TItem_c0 TItem_c1 TItem_set_rep TItem_set_num TItem_ld TItem_st TItem_f_rep TItem_f_num TItem_bd TItem_fl TItem_fl_rep TItem_fl_num
attribute [local go_sem high] TItem_eql TItem_neq
attribute [local go_sem ↓] TBallot_ld0 TBallot_st0 TBallot_fd0 TBallot_bd0
attribute [local go_sem] TBallot_size TBallot_one TBallot_piece TBallot_c0 TBallot_c1 TBallot_set_round TBallot_set_rep TBallot_ld TBallot_st TBallot_f_round TBallot_f_rep TBallot_bd TBallot_fl TBallot_fl_round TBallot_fl_rep
attribute [local go_sem high] TBallot_eql TBallot_neq
attribute [local go_sem ↓] TMsg_ld0 TMsg_st0 TMsg_fd0 TMsg_bd0
attribute [local go_sem] TMsg_size TMsg_one TMsg_piece TMsg_c0 TMsg_c1 TMsg_c2 TMsg_c3 TMsg_c4 TMsg_c5 TMsg_c6 TMsg_c7 TMsg_c8 TMsg_c9 TMsg_c10 TMsg_c11 TMsg_c12 TMsg_c13 TMsg_c14 TMsg_c15 TMsg_c16 TMsg_c17 TMsg_c18 TMsg_c19 TMsg_c20 TMsg_c21 TMsg_c22 TMsg_c23 TMsg_c24 TMsg_set_kind TMsg_set_frm TMsg_set_to TMsg_p_item TMsg_put_item TMsg_p_bal TMsg_put_bal TMsg_p_vote TMsg_put_vote TMsg_set_status TMsg_set_same TMsg_p_call TMsg_put_call TMsg_ld TMsg_st TMsg_f_kind TMsg_f_frm TMsg_f_to TMsg_f_item TMsg_f_bal TMsg_f_vote TMsg_f_status TMsg_f_same TMsg_f_call TMsg_bd TMsg_fl TMsg_fl_kind TMsg_fl_frm TMsg_fl_to TMsg_fl_item TMsg_fl_bal TMsg_fl_vote TMsg_fl_status TMsg_fl_same TMsg_fl_call
attribute [local go_sem high] TMsg_eql TMsg_neq
attribute [local go_sem ↓] TCarries_ld0 TCarries_st0 TCarries_fd0 TCarries_bd0
attribute [local go_sem] TCarries_size TCarries_one TCarries_piece TCarries_c0 TCarries_c1 TCarries_set_call TCarries_set_known TCarries_ld TCarries_st TCarries_f_call TCarries_f_known TCarries_bd TCarries_fl TCarries_fl_call TCarries_fl_known
attribute [local go_sem high] TCarries_eql TCarries_neq
attribute [local go_sem] KndV_size
set_option maxHeartbeats 40000000 in
set_option maxRecDepth 100000 in
theorem mailGood_in4 (m : Msg) (n : Int) (h0 : 1 ≤ m.kind ∧ m.kind ≤ 8 ∧ 0 ≤ m.frm ∧ m.frm < n ∧ 0 ≤ m.to ∧ m.to < n) (hI : goodI m.item n = true) (hB : goodBal m.bal n = true) (hcb : callsB m.kind = true) (hgc : goodC m.call n = true) (hkb : knownB m.kind = true) (hgv : goodBal m.vote n = true) (hs3 : ¬ (0 ≤ m.status ∧ m.status ≤ 3)) : AnsK 90 #[.agg (MV m), .int .i64 n] (.bool (goodM m n)) := by
 intro W hK
 have hlt := row_lt hK
 obtain ⟨q1, q2, q3, q4, q5, q6⟩ := id h0
 have hp := KndV_piece m.kind.toNat (by omega)
 have hs : m.kind.toNat * 2 + 2 ≤ 18 := by omega
 rw [show ((m.kind.toNat : Nat) : Int) = m.kind by omega] at hp
 rw [hcb, hkb] at hp
 cases hv : eqA (BV m.vote) (BV noBallot)
 case false =>
  have hg : goodM m n = false := by unfold goodM; simp only [decide_eq_true h0, hI, hB, hcb, hgc, hkb, if_true, hgv, decide_eq_false hs3]; simp
  rw [hg]; clear hg h0
  go_enter Tryz.func90, Tryz.ntmps90
  go_wp2_with (first | (go_at_call 107; refine ((itemGood_any _ _).go _).mono ?_; rintro e w1 ⟨rfl, x1, rfl⟩) | (go_at_call 136; refine ((balGood_any _ _).go _).mono ?_; rintro e w1 ⟨rfl, x1, rfl⟩) | (go_at_call 137; refine ((goodCall_any _ _).go _).mono ?_; rintro e w1 ⟨rfl, x1, rfl⟩))
  all_goals first | (exfalso; omega) | (go_ret; exact ⟨rfl, by repeat (first | exact Below.refl _ _ | refine below_extM ?_ (by simp [size_ext]; try omega) _ | refine below_allocM ?_ _ (by simp [size_ext]; try omega))⟩)
 case true =>
  cases hnc : eqA (CV m.call) (CV noCall)
  case false =>
   have hg : goodM m n = false := by unfold goodM; simp only [decide_eq_true h0, hI, hB, hcb, hgc, hkb, if_true, hgv, decide_eq_false hs3]; simp
   rw [hg]; clear hg h0
   go_enter Tryz.func90, Tryz.ntmps90
   go_wp2_with (first | (go_at_call 107; refine ((itemGood_any _ _).go _).mono ?_; rintro e w1 ⟨rfl, x1, rfl⟩) | (go_at_call 136; refine ((balGood_any _ _).go _).mono ?_; rintro e w1 ⟨rfl, x1, rfl⟩) | (go_at_call 137; refine ((goodCall_any _ _).go _).mono ?_; rintro e w1 ⟨rfl, x1, rfl⟩))
   all_goals first | (exfalso; omega) | (go_ret; exact ⟨rfl, by repeat (first | exact Below.refl _ _ | refine below_extM ?_ (by simp [size_ext]; try omega) _ | refine below_allocM ?_ _ (by simp [size_ext]; try omega))⟩)
  case true =>
   cases hsm : m.same
   case false =>
    have hg : goodM m n = false := by unfold goodM; simp only [decide_eq_true h0, hI, hB, hcb, hgc, hkb, if_true, hgv, decide_eq_false hs3]; simp
    rw [hg]; clear hg h0
    go_enter Tryz.func90, Tryz.ntmps90
    go_wp2_with (first | (go_at_call 107; refine ((itemGood_any _ _).go _).mono ?_; rintro e w1 ⟨rfl, x1, rfl⟩) | (go_at_call 136; refine ((balGood_any _ _).go _).mono ?_; rintro e w1 ⟨rfl, x1, rfl⟩) | (go_at_call 137; refine ((goodCall_any _ _).go _).mono ?_; rintro e w1 ⟨rfl, x1, rfl⟩))
    all_goals first | (exfalso; omega) | (go_ret; exact ⟨rfl, by repeat (first | exact Below.refl _ _ | refine below_extM ?_ (by simp [size_ext]; try omega) _ | refine below_allocM ?_ _ (by simp [size_ext]; try omega))⟩)
   case true =>
    have hg : goodM m n = false := by unfold goodM; simp only [decide_eq_true h0, hI, hB, hcb, hgc, hkb, if_true, hgv, decide_eq_false hs3]; simp
    rw [hg]; clear hg h0
    go_enter Tryz.func90, Tryz.ntmps90
    go_wp2_with (first | (go_at_call 107; refine ((itemGood_any _ _).go _).mono ?_; rintro e w1 ⟨rfl, x1, rfl⟩) | (go_at_call 136; refine ((balGood_any _ _).go _).mono ?_; rintro e w1 ⟨rfl, x1, rfl⟩) | (go_at_call 137; refine ((goodCall_any _ _).go _).mono ?_; rintro e w1 ⟨rfl, x1, rfl⟩))
    all_goals first | (exfalso; omega) | (go_ret; exact ⟨rfl, by repeat (first | exact Below.refl _ _ | refine below_extM ?_ (by simp [size_ext]; try omega) _ | refine below_allocM ?_ _ (by simp [size_ext]; try omega))⟩)
end Go.Proofs.YtomlilkobhkoiaaGreatDoor
