/- Several texts in one. -/
import Derived.Test.YtomlilkobhkoiaaGreatDoorQ28
import Derived.Test.YtomlilkobhkoiaaGreatDoorQ29
import Derived.Test.YtomlilkobhkoiaaGreatDoorQ1
import Derived.LaidLaws
import Derived.ChangeArms
import Derived.OpenShut
import Derived.ChangeSame
import Derived.Test.YtomlilkobhkoiaaGreatDoorQ16
/- Layer 7: whether a message can be: the cases. Printed by mailgood.py. -/
namespace Go.Proofs.YtomlilkobhkoiaaGreatDoor
open Go.RowKit
set_option linter.unusedVariables false
attribute [local go_sem] row_alloc row_drew row_drewN row_ext row_setCell row_setRow size_ext setRow_alloc setRow_drew loadOf storeOf piece_lit loadVal_at storeVal_at allOne_lit buildOf buildRes_some
attribute [local go_sem high] cell_alloc frozen_alloc setCell_alloc cell_ext frozen_ext cell_setRow frozen_setRow
attribute [local go_sem ↓] TDeed_ld0 TDeed_st0 TDeed_fd0 TDeed_bd0
attribute [local go_sem] TDeed_size TDeed_one TDeed_piece TDeed_c0 TDeed_c1 TDeed_c2 TDeed_c3 TDeed_c4 TDeed_c5 TDeed_set_kind TDeed_set_key TDeed_set_val TDeed_set_ver TDeed_set_ses TDeed_set_num TDeed_ld TDeed_st TDeed_f_kind TDeed_f_key TDeed_f_val TDeed_f_ver TDeed_f_ses TDeed_f_num TDeed_bd TDeed_fl TDeed_fl_kind TDeed_fl_key TDeed_fl_val TDeed_fl_ver TDeed_fl_ses TDeed_fl_num
attribute [local go_sem high] TDeed_eql TDeed_neq
attribute [local go_sem ↓] index_deps0 load_deps0 store_deps0
attribute [local go_sem] DV_piece DV_size DV_one index_deps load_deps store_deps
attribute [local go_sem high] TDeps_eql TDeps_neq
attribute [local go_sem ↓] TCall_ld0 TCall_st0 TCall_fd0 TCall_bd0
attribute [local go_sem] TCall_size TCall_one TCall_piece TCall_c0 TCall_c1 TCall_c2 TCall_c3 TCall_c4 TCall_c5 TCall_c6 TCall_c7 TCall_c8 TCall_c9 TCall_c10 TCall_c11 TCall_c12 TCall_c13 TCall_p_deed TCall_put_deed TCall_p_deps TCall_put_deps TCall_set_seq TCall_ld TCall_st TCall_f_deed TCall_f_deps TCall_f_seq TCall_bd TCall_fl TCall_fl_deed TCall_fl_deps TCall_fl_seq
attribute [local go_sem high] TCall_eql TCall_neq
attribute [local go_sem ↓] TItem_ld0 TItem_st0 TItem_fd0 TItem_bd0
attribute [local go_sem] TItem_size TItem_one TItem_piece TItem_c0 TItem_c1 TItem_set_rep TItem_set_num TItem_ld TItem_st TItem_f_rep TItem_f_num TItem_bd TItem_fl TItem_fl_rep TItem_fl_num
attribute [local go_sem high] TItem_eql TItem_neq
attribute [local go_sem ↓] TBallot_ld0 TBallot_st0 TBallot_fd0 TBallot_bd0
attribute [local go_sem] TBallot_size TBallot_one TBallot_piece TBallot_c0 TBallot_c1 TBallot_set_round TBallot_set_rep TBallot_ld TBallot_st TBallot_f_round TBallot_f_rep TBallot_bd TBallot_fl TBallot_fl_round TBallot_fl_rep
attribute [local go_sem high] TBallot_eql TBallot_neq
attribute [local go_sem ↓] TMsg_ld0 TMsg_st0 TMsg_fd0 TMsg_bd0
attribute [local go_sem] TMsg_size TMsg_one TMsg_piece TMsg_c0 TMsg_c1 TMsg_c2 TMsg_c3 TMsg_c4 TMsg_c5 TMsg_c6 TMsg_c7 TMsg_c8 TMsg_c9 TMsg_c10 TMsg_c11 TMsg_c12 TMsg_c13 TMsg_c14 TMsg_c15 TMsg_c16 TMsg_c17 TMsg_c18 TMsg_c19 TMsg_c20 TMsg_c21 TMsg_c22 TMsg_c23 TMsg_c24 TMsg_set_kind TMsg_set_frm TMsg_set_to TMsg_p_item TMsg_put_item TMsg_p_bal TMsg_put_bal TMsg_p_vote TMsg_put_vote TMsg_set_status TMsg_set_same TMsg_p_call TMsg_put_call TMsg_ld TMsg_st TMsg_f_kind TMsg_f_frm TMsg_f_to TMsg_f_item TMsg_f_bal TMsg_f_vote TMsg_f_status TMsg_f_same TMsg_f_call TMsg_bd TMsg_fl TMsg_fl_kind TMsg_fl_frm TMsg_fl_to TMsg_fl_item TMsg_fl_bal TMsg_fl_vote TMsg_fl_status TMsg_fl_same TMsg_fl_call
attribute [local go_sem high] TMsg_eql TMsg_neq
attribute [local go_sem ↓] TCarries_ld0 TCarries_st0 TCarries_fd0 TCarries_bd0
attribute [local go_sem] TCarries_size TCarries_one TCarries_piece TCarries_c0 TCarries_c1 TCarries_set_call TCarries_set_known TCarries_ld TCarries_st TCarries_f_call TCarries_f_known TCarries_bd TCarries_fl TCarries_fl_call TCarries_fl_known
attribute [local go_sem high] TCarries_eql TCarries_neq
attribute [local go_sem] KndV_size
set_option maxHeartbeats 40000000 in
set_option maxRecDepth 100000 in
theorem mailGood_in5 (m : Msg) (n : Int) (h0 : 1 ≤ m.kind ∧ m.kind ≤ 8 ∧ 0 ≤ m.frm ∧ m.frm < n ∧ 0 ≤ m.to ∧ m.to < n) (hI : goodI m.item n = true) (hB : goodBal m.bal n = true) (hcb : callsB m.kind = true) (hgc : goodC m.call n = true) (hkb : knownB m.kind = true) (hgv : goodBal m.vote n = true) (hs3 : 0 ≤ m.status ∧ m.status ≤ 3) (hst : (m.status == 0) = false) : AnsK 90 #[.agg (MV m), .int .i64 n] (.bool (goodM m n)) := by
 intro W hK
 have hlt := row_lt hK
 obtain ⟨q1, q2, q3, q4, q5, q6⟩ := id h0
 have hp := KndV_piece m.kind.toNat (by omega)
 have hs : m.kind.toNat * 2 + 2 ≤ 18 := by omega
 rw [show ((m.kind.toNat : Nat) : Int) = m.kind by omega] at hp
 rw [hcb, hkb] at hp
 obtain ⟨s1, s2⟩ := id hs3
 have hst2 : (m.status != 0) = true := by simp [bne, hst]
 cases hv : eqA (BV m.vote) (BV noBallot)
 case false =>
  have hg : goodM m n = true := by unfold goodM; simp only [decide_eq_true h0, hI, hB, hcb, hgc, hkb, if_true, hgv, decide_eq_true hs3, bne, hst]; simp
  rw [hg]; clear hg h0
  go_enter Tryz.func90, Tryz.ntmps90
  go_wp2_with (first | (go_at_call 107; refine ((itemGood_any _ _).go _).mono ?_; rintro e w1 ⟨rfl, x1, rfl⟩) | (go_at_call 136; refine ((balGood_any _ _).go _).mono ?_; rintro e w1 ⟨rfl, x1, rfl⟩) | (go_at_call 137; refine ((goodCall_any _ _).go _).mono ?_; rintro e w1 ⟨rfl, x1, rfl⟩))
  all_goals first | (exfalso; omega) | (go_ret; exact ⟨rfl, by repeat (first | exact Below.refl _ _ | refine below_extM ?_ (by simp [size_ext]; try omega) _ | refine below_allocM ?_ _ (by simp [size_ext]; try omega))⟩)
 case true =>
  cases hnc : eqA (CV m.call) (CV noCall)
  case false =>
   have hg : goodM m n = true := by unfold goodM; simp only [decide_eq_true h0, hI, hB, hcb, hgc, hkb, if_true, hgv, decide_eq_true hs3, bne, hst]; simp
   rw [hg]; clear hg h0
   go_enter Tryz.func90, Tryz.ntmps90
   go_wp2_with (first | (go_at_call 107; refine ((itemGood_any _ _).go _).mono ?_; rintro e w1 ⟨rfl, x1, rfl⟩) | (go_at_call 136; refine ((balGood_any _ _).go _).mono ?_; rintro e w1 ⟨rfl, x1, rfl⟩) | (go_at_call 137; refine ((goodCall_any _ _).go _).mono ?_; rintro e w1 ⟨rfl, x1, rfl⟩))
   all_goals first | (exfalso; omega) | (go_ret; exact ⟨rfl, by repeat (first | exact Below.refl _ _ | refine below_extM ?_ (by simp [size_ext]; try omega) _ | refine below_allocM ?_ _ (by simp [size_ext]; try omega))⟩)
  case true =>
   cases hsm : m.same
   case false =>
    have hg : goodM m n = true := by unfold goodM; simp only [decide_eq_true h0, hI, hB, hcb, hgc, hkb, if_true, hgv, decide_eq_true hs3, bne, hst]; simp
    rw [hg]; clear hg h0
    go_enter Tryz.func90, Tryz.ntmps90
    go_wp2_with (first | (go_at_call 107; refine ((itemGood_any _ _).go _).mono ?_; rintro e w1 ⟨rfl, x1, rfl⟩) | (go_at_call 136; refine ((balGood_any _ _).go _).mono ?_; rintro e w1 ⟨rfl, x1, rfl⟩) | (go_at_call 137; refine ((goodCall_any _ _).go _).mono ?_; rintro e w1 ⟨rfl, x1, rfl⟩))
    all_goals first | (exfalso; omega) | (go_ret; exact ⟨rfl, by repeat (first | exact Below.refl _ _ | refine below_extM ?_ (by simp [size_ext]; try omega) _ | refine below_allocM ?_ _ (by simp [size_ext]; try omega))⟩)
   case true =>
    have hg : goodM m n = true := by unfold goodM; simp only [decide_eq_true h0, hI, hB, hcb, hgc, hkb, if_true, hgv, decide_eq_true hs3, bne, hst]; simp
    rw [hg]; clear hg h0
    go_enter Tryz.func90, Tryz.ntmps90
    go_wp2_with (first | (go_at_call 107; refine ((itemGood_any _ _).go _).mono ?_; rintro e w1 ⟨rfl, x1, rfl⟩) | (go_at_call 136; refine ((balGood_any _ _).go _).mono ?_; rintro e w1 ⟨rfl, x1, rfl⟩) | (go_at_call 137; refine ((goodCall_any _ _).go _).mono ?_; rintro e w1 ⟨rfl, x1, rfl⟩))
    all_goals first | (exfalso; omega) | (go_ret; exact ⟨rfl, by repeat (first | exact Below.refl _ _ | refine below_extM ?_ (by simp [size_ext]; try omega) _ | refine below_allocM ?_ _ (by simp [size_ext]; try omega))⟩)
end Go.Proofs.YtomlilkobhkoiaaGreatDoor
/- Layer 7: whether a message can be: the cases. Printed by mailgood.py. -/
namespace Go.Proofs.YtomlilkobhkoiaaGreatDoor
open Go.RowKit
set_option linter.unusedVariables false
attribute [local go_sem] row_alloc row_drew row_drewN row_ext row_setCell row_setRow size_ext setRow_alloc setRow_drew loadOf storeOf piece_lit loadVal_at storeVal_at allOne_lit buildOf buildRes_some
attribute [local go_sem high] cell_alloc frozen_alloc setCell_alloc cell_ext frozen_ext cell_setRow frozen_setRow
attribute [local go_sem ↓] TDeed_ld0 TDeed_st0 TDeed_fd0 TDeed_bd0
attribute [local go_sem] TDeed_size TDeed_one TDeed_piece TDeed_c0 TDeed_c1 TDeed_c2 TDeed_c3 TDeed_c4 TDeed_c5 TDeed_set_kind TDeed_set_key TDeed_set_val TDeed_set_ver TDeed_set_ses TDeed_set_num TDeed_ld TDeed_st TDeed_f_kind TDeed_f_key TDeed_f_val TDeed_f_ver TDeed_f_ses TDeed_f_num TDeed_bd TDeed_fl TDeed_fl_kind TDeed_fl_key TDeed_fl_val TDeed_fl_ver TDeed_fl_ses TDeed_fl_num
attribute [local go_sem high] TDeed_eql TDeed_neq
attribute [local go_sem ↓] index_deps0 load_deps0 store_deps0
attribute [local go_sem] DV_piece DV_size DV_one index_deps load_deps store_deps
attribute [local go_sem high] TDeps_eql TDeps_neq
attribute [local go_sem ↓] TCall_ld0 TCall_st0 TCall_fd0 TCall_bd0
attribute [local go_sem] TCall_size TCall_one TCall_piece TCall_c0 TCall_c1 TCall_c2 TCall_c3 TCall_c4 TCall_c5 TCall_c6 TCall_c7 TCall_c8 TCall_c9 TCall_c10 TCall_c11 TCall_c12 TCall_c13 TCall_p_deed TCall_put_deed TCall_p_deps TCall_put_deps TCall_set_seq TCall_ld TCall_st TCall_f_deed TCall_f_deps TCall_f_seq TCall_bd TCall_fl TCall_fl_deed TCall_fl_deps TCall_fl_seq
attribute [local go_sem high] TCall_eql TCall_neq
attribute [local go_sem ↓] TItem_ld0 TItem_st0 TItem_fd0 TItem_bd0
attribute [local go_sem] TItem_size TItem_one TItem_piece TItem_c0 TItem_c1 TItem_set_rep TItem_set_num TItem_ld TItem_st TItem_f_rep TItem_f_num TItem_bd TItem_fl TItem_fl_rep TItem_fl_num
attribute [local go_sem high] TItem_eql TItem_neq
attribute [local go_sem ↓] TBallot_ld0 TBallot_st0 TBallot_fd0 TBallot_bd0
attribute [local go_sem] TBallot_size TBallot_one TBallot_piece TBallot_c0 TBallot_c1 TBallot_set_round TBallot_set_rep TBallot_ld TBallot_st TBallot_f_round TBallot_f_rep TBallot_bd TBallot_fl TBallot_fl_round TBallot_fl_rep
attribute [local go_sem high] TBallot_eql TBallot_neq
attribute [local go_sem ↓] TMsg_ld0 TMsg_st0 TMsg_fd0 TMsg_bd0
attribute [local go_sem] TMsg_size TMsg_one TMsg_piece TMsg_c0 TMsg_c1 TMsg_c2 TMsg_c3 TMsg_c4 TMsg_c5 TMsg_c6 TMsg_c7 TMsg_c8 TMsg_c9 TMsg_c10 TMsg_c11 TMsg_c12 TMsg_c13 TMsg_c14 TMsg_c15 TMsg_c16 TMsg_c17 TMsg_c18 TMsg_c19 TMsg_c20 TMsg_c21 TMsg_c22 TMsg_c23 TMsg_c24 TMsg_set_kind TMsg_set_frm TMsg_set_to TMsg_p_item TMsg_put_item TMsg_p_bal TMsg_put_bal TMsg_p_vote TMsg_put_vote TMsg_set_status TMsg_set_same TMsg_p_call TMsg_put_call TMsg_ld TMsg_st TMsg_f_kind TMsg_f_frm TMsg_f_to TMsg_f_item TMsg_f_bal TMsg_f_vote TMsg_f_status TMsg_f_same TMsg_f_call TMsg_bd TMsg_fl TMsg_fl_kind TMsg_fl_frm TMsg_fl_to TMsg_fl_item TMsg_fl_bal TMsg_fl_vote TMsg_fl_status TMsg_fl_same TMsg_fl_call
attribute [local go_sem high] TMsg_eql TMsg_neq
attribute [local go_sem ↓] TCarries_ld0 TCarries_st0 TCarries_fd0 TCarries_bd0
attribute [local go_sem] TCarries_size TCarries_one TCarries_piece TCarries_c0 TCarries_c1 TCarries_set_call TCarries_set_known TCarries_ld TCarries_st TCarries_f_call TCarries_f_known TCarries_bd TCarries_fl TCarries_fl_call TCarries_fl_known
attribute [local go_sem high] TCarries_eql TCarries_neq
attribute [local go_sem] KndV_size
set_option maxHeartbeats 40000000 in
set_option maxRecDepth 100000 in
theorem mailGood_in6 (m : Msg) (n : Int) (h0 : 1 ≤ m.kind ∧ m.kind ≤ 8 ∧ 0 ≤ m.frm ∧ m.frm < n ∧ 0 ≤ m.to ∧ m.to < n) (hI : goodI m.item n = true) (hB : goodBal m.bal n = true) (hcb : callsB m.kind = true) (hgc : goodC m.call n = true) (hkb : knownB m.kind = true) (hgv : goodBal m.vote n = true) (hs3 : 0 ≤ m.status ∧ m.status ≤ 3) (hst : (m.status == 0) = true) : AnsK 90 #[.agg (MV m), .int .i64 n] (.bool (goodM m n)) := by
 intro W hK
 have hlt := row_lt hK
 obtain ⟨q1, q2, q3, q4, q5, q6⟩ := id h0
 have hp := KndV_piece m.kind.toNat (by omega)
 have hs : m.kind.toNat * 2 + 2 ≤ 18 := by omega
 rw [show ((m.kind.toNat : Nat) : Int) = m.kind by omega] at hp
 rw [hcb, hkb] at hp
 obtain ⟨s1, s2⟩ := id hs3
 have hst2 : (m.status != 0) = false := by simp [bne, hst]
 cases hv : eqA (BV m.vote) (BV noBallot)
 case false =>
  have hg : goodM m n = false := by unfold goodM; simp only [decide_eq_true h0, hI, hB, hcb, hgc, hkb, if_true, hgv, decide_eq_true hs3, bne, hst, noVote, hv]; simp
  rw [hg]; clear hg h0
  go_enter Tryz.func90, Tryz.ntmps90
  go_wp2_with (first | (go_at_call 107; refine ((itemGood_any _ _).go _).mono ?_; rintro e w1 ⟨rfl, x1, rfl⟩) | (go_at_call 136; refine ((balGood_any _ _).go _).mono ?_; rintro e w1 ⟨rfl, x1, rfl⟩) | (go_at_call 137; refine ((goodCall_any _ _).go _).mono ?_; rintro e w1 ⟨rfl, x1, rfl⟩))
  all_goals first | (exfalso; omega) | (go_ret; exact ⟨rfl, by repeat (first | exact Below.refl _ _ | refine below_extM ?_ (by simp [size_ext]; try omega) _ | refine below_allocM ?_ _ (by simp [size_ext]; try omega))⟩)
 case true =>
  cases hnc : eqA (CV m.call) (CV noCall)
  case false =>
   have hg : goodM m n = false := by unfold goodM; simp only [decide_eq_true h0, hI, hB, hcb, hgc, hkb, if_true, hgv, decide_eq_true hs3, bne, hst, noVote, hv, noC, hnc]; simp
   rw [hg]; clear hg h0
   go_enter Tryz.func90, Tryz.ntmps90
   go_wp2_with (first | (go_at_call 107; refine ((itemGood_any _ _).go _).mono ?_; rintro e w1 ⟨rfl, x1, rfl⟩) | (go_at_call 136; refine ((balGood_any _ _).go _).mono ?_; rintro e w1 ⟨rfl, x1, rfl⟩) | (go_at_call 137; refine ((goodCall_any _ _).go _).mono ?_; rintro e w1 ⟨rfl, x1, rfl⟩))
   all_goals first | (exfalso; omega) | (go_ret; exact ⟨rfl, by repeat (first | exact Below.refl _ _ | refine below_extM ?_ (by simp [size_ext]; try omega) _ | refine below_allocM ?_ _ (by simp [size_ext]; try omega))⟩)
  case true =>
   cases hsm : m.same
   case false =>
    have hg : goodM m n = true := by unfold goodM; simp only [decide_eq_true h0, hI, hB, hcb, hgc, hkb, if_true, hgv, decide_eq_true hs3, bne, hst, noVote, hv, noC, hnc, hsm]; simp
    rw [hg]; clear hg h0
    go_enter Tryz.func90, Tryz.ntmps90
    go_wp2_with (first | (go_at_call 107; refine ((itemGood_any _ _).go _).mono ?_; rintro e w1 ⟨rfl, x1, rfl⟩) | (go_at_call 136; refine ((balGood_any _ _).go _).mono ?_; rintro e w1 ⟨rfl, x1, rfl⟩) | (go_at_call 137; refine ((goodCall_any _ _).go _).mono ?_; rintro e w1 ⟨rfl, x1, rfl⟩))
    all_goals first | (exfalso; omega) | (go_ret; exact ⟨rfl, by repeat (first | exact Below.refl _ _ | refine below_extM ?_ (by simp [size_ext]; try omega) _ | refine below_allocM ?_ _ (by simp [size_ext]; try omega))⟩)
   case true =>
    have hg : goodM m n = false := by unfold goodM; simp only [decide_eq_true h0, hI, hB, hcb, hgc, hkb, if_true, hgv, decide_eq_true hs3, bne, hst, noVote, hv, noC, hnc, hsm]; simp
    rw [hg]; clear hg h0
    go_enter Tryz.func90, Tryz.ntmps90
    go_wp2_with (first | (go_at_call 107; refine ((itemGood_any _ _).go _).mono ?_; rintro e w1 ⟨rfl, x1, rfl⟩) | (go_at_call 136; refine ((balGood_any _ _).go _).mono ?_; rintro e w1 ⟨rfl, x1, rfl⟩) | (go_at_call 137; refine ((goodCall_any _ _).go _).mono ?_; rintro e w1 ⟨rfl, x1, rfl⟩))
    all_goals first | (exfalso; omega) | (go_ret; exact ⟨rfl, by repeat (first | exact Below.refl _ _ | refine below_extM ?_ (by simp [size_ext]; try omega) _ | refine below_allocM ?_ _ (by simp [size_ext]; try omega))⟩)
end Go.Proofs.YtomlilkobhkoiaaGreatDoor
/- Layer 7: whether a message can be: the cases. Printed by mailgood.py. -/
namespace Go.Proofs.YtomlilkobhkoiaaGreatDoor
open Go.RowKit
set_option linter.unusedVariables false
attribute [local go_sem] row_alloc row_drew row_drewN row_ext row_setCell row_setRow size_ext setRow_alloc setRow_drew loadOf storeOf piece_lit loadVal_at storeVal_at allOne_lit buildOf buildRes_some
attribute [local go_sem high] cell_alloc frozen_alloc setCell_alloc cell_ext frozen_ext cell_setRow frozen_setRow
attribute [local go_sem ↓] TDeed_ld0 TDeed_st0 TDeed_fd0 TDeed_bd0
attribute [local go_sem] TDeed_size TDeed_one TDeed_piece TDeed_c0 TDeed_c1 TDeed_c2 TDeed_c3 TDeed_c4 TDeed_c5 TDeed_set_kind TDeed_set_key TDeed_set_val TDeed_set_ver TDeed_set_ses TDeed_set_num TDeed_ld TDeed_st TDeed_f_kind TDeed_f_key TDeed_f_val TDeed_f_ver TDeed_f_ses TDeed_f_num TDeed_bd TDeed_fl TDeed_fl_kind TDeed_fl_key TDeed_fl_val TDeed_fl_ver TDeed_fl_ses TDeed_fl_num
attribute [local go_sem high] TDeed_eql TDeed_neq
attribute [local go_sem ↓] index_deps0 load_deps0 store_deps0
attribute [local go_sem] DV_piece DV_size DV_one index_deps load_deps store_deps
attribute [local go_sem high] TDeps_eql TDeps_neq
attribute [local go_sem ↓] TCall_ld0 TCall_st0 TCall_fd0 TCall_bd0
attribute [local go_sem] TCall_size TCall_one TCall_piece TCall_c0 TCall_c1 TCall_c2 TCall_c3 TCall_c4 TCall_c5 TCall_c6 TCall_c7 TCall_c8 TCall_c9 TCall_c10 TCall_c11 TCall_c12 TCall_c13 TCall_p_deed TCall_put_deed TCall_p_deps TCall_put_deps TCall_set_seq TCall_ld TCall_st TCall_f_deed TCall_f_deps TCall_f_seq TCall_bd TCall_fl TCall_fl_deed TCall_fl_deps TCall_fl_seq
attribute [local go_sem high] TCall_eql TCall_neq
attribute [local go_sem ↓] TItem_ld0 TItem_st0 TItem_fd0 TItem_bd0
attribute [local go_sem] TItem_size TItem_one TItem_piece TItem_c0 TItem_c1 TItem_set_rep TItem_set_num TItem_ld TItem_st TItem_f_rep TItem_f_num TItem_bd TItem_fl TItem_fl_rep TItem_fl_num
attribute [local go_sem high] TItem_eql TItem_neq
attribute [local go_sem ↓] TBallot_ld0 TBallot_st0 TBallot_fd0 TBallot_bd0
attribute [local go_sem] TBallot_size TBallot_one TBallot_piece TBallot_c0 TBallot_c1 TBallot_set_round TBallot_set_rep TBallot_ld TBallot_st TBallot_f_round TBallot_f_rep TBallot_bd TBallot_fl TBallot_fl_round TBallot_fl_rep
attribute [local go_sem high] TBallot_eql TBallot_neq
attribute [local go_sem ↓] TMsg_ld0 TMsg_st0 TMsg_fd0 TMsg_bd0
attribute [local go_sem] TMsg_size TMsg_one TMsg_piece TMsg_c0 TMsg_c1 TMsg_c2 TMsg_c3 TMsg_c4 TMsg_c5 TMsg_c6 TMsg_c7 TMsg_c8 TMsg_c9 TMsg_c10 TMsg_c11 TMsg_c12 TMsg_c13 TMsg_c14 TMsg_c15 TMsg_c16 TMsg_c17 TMsg_c18 TMsg_c19 TMsg_c20 TMsg_c21 TMsg_c22 TMsg_c23 TMsg_c24 TMsg_set_kind TMsg_set_frm TMsg_set_to TMsg_p_item TMsg_put_item TMsg_p_bal TMsg_put_bal TMsg_p_vote TMsg_put_vote TMsg_set_status TMsg_set_same TMsg_p_call TMsg_put_call TMsg_ld TMsg_st TMsg_f_kind TMsg_f_frm TMsg_f_to TMsg_f_item TMsg_f_bal TMsg_f_vote TMsg_f_status TMsg_f_same TMsg_f_call TMsg_bd TMsg_fl TMsg_fl_kind TMsg_fl_frm TMsg_fl_to TMsg_fl_item TMsg_fl_bal TMsg_fl_vote TMsg_fl_status TMsg_fl_same TMsg_fl_call
attribute [local go_sem high] TMsg_eql TMsg_neq
attribute [local go_sem ↓] TCarries_ld0 TCarries_st0 TCarries_fd0 TCarries_bd0
attribute [local go_sem] TCarries_size TCarries_one TCarries_piece TCarries_c0 TCarries_c1 TCarries_set_call TCarries_set_known TCarries_ld TCarries_st TCarries_f_call TCarries_f_known TCarries_bd TCarries_fl TCarries_fl_call TCarries_fl_known
attribute [local go_sem high] TCarries_eql TCarries_neq
attribute [local go_sem] KndV_size
set_option maxHeartbeats 40000000 in
set_option maxRecDepth 100000 in
theorem mailGood_in (m : Msg) (n : Int) (h0 : 1 ≤ m.kind ∧ m.kind ≤ 8 ∧ 0 ≤ m.frm ∧ m.frm < n ∧ 0 ≤ m.to ∧ m.to < n) : AnsK 90 #[.agg (MV m), .int .i64 n] (.bool (goodM m n)) := by
 cases hI : goodI m.item n
 case false => exact mailGood_in0 m n h0 (.inl hI)
 cases hB : goodBal m.bal n
 case false => exact mailGood_in0 m n h0 (.inr (.inl hB))
 cases hcb : callsB m.kind
 case false => exact mailGood_in1 m n h0 hI hB hcb
 cases hgc : goodC m.call n
 case false => exact mailGood_in0 m n h0 (.inr (.inr ⟨hI, hB, hcb, hgc⟩))
 cases hkb : knownB m.kind
 case false => exact mailGood_in2 m n h0 hI hB hcb hgc hkb
 cases hgv : goodBal m.vote n
 case false => exact mailGood_in3 m n h0 hI hB hcb hgc hkb hgv
 by_cases hs3 : 0 ≤ m.status ∧ m.status ≤ 3
 case neg => exact mailGood_in4 m n h0 hI hB hcb hgc hkb hgv hs3
 cases hst : m.status == 0
 case false => exact mailGood_in5 m n h0 hI hB hcb hgc hkb hgv hs3 hst
 case true => exact mailGood_in6 m n h0 hI hB hcb hgc hkb hgv hs3 hst
theorem mailGood_any (m : Msg) (n : Int) : AnsK 90 #[.agg (MV m), .int .i64 n] (.bool (goodM m n)) := by
 by_cases h0 : 1 ≤ m.kind ∧ m.kind ≤ 8 ∧ 0 ≤ m.frm ∧ m.frm < n ∧ 0 ≤ m.to ∧ m.to < n
 ·exact mailGood_in m n h0
 ·exact mailGood_out m n h0
end Go.Proofs.YtomlilkobhkoiaaGreatDoor
/- A listed table of pairs of bools, opened. Nothing of the program stands here. -/
namespace Go.Proofs.YtomlilkobhkoiaaGreatDoor
open Go.RowKit Go.ChangeShapes
theorem pairs_of {H : Type} {enc : TypeId × Value → H} {P : Program} {w : World} {base : Nat} {sp : Nat → Bool} {held : Bool} {fuel : Nat} {t e tb : TypeId} {n : Nat} {f0 f1 : Field} {cs : List Value} {zs : List (Bool × Bool)} {p : List MemPlace}
  (ht : P.underlying t = some (.array n e)) (he : P.underlying e = some (.struct #[f0, f1])) (hb : P.underlying tb = some .bool) (h0 : f0.type = tb) (h1 : f1.type = tb) (o0 : f0.offset = 0) (o1 : f1.offset = 1) (cb : P.cellsOf tb = 1) (ce : P.cellsOf e = 2) (ct : P.cellsOf t = 2 * n)
  (h : DataW.trod enc P w base sp held fuel t cs = some (.agg (zs.map fun z => .agg [.lit (.bool z.1), .lit (.bool z.2)]), p)) : cs = zs.flatMap fun z => [.bool z.1, .bool z.2] := by
 obtain ⟨xs, m, -, hx, hlen, hn, hel⟩ := DataW.trod_array ht h
 have hxs : xs.map (·.1) = zs.map fun z => (DataW.agg [.lit (.bool z.1), .lit (.bool z.2)] : DataW H) := by
  have := congrArg Prod.fst hx
  simpa using this.symm
 have hzl : zs.length = n := by
  have := congrArg List.length hxs
  simp at this; omega
 rw [ct] at hlen
 have step : ∀ i, i < n → ∃ z, zs[i]? = some z ∧ (cs.drop (2 * i)).take 2 = [.bool z.1, .bool z.2] := by
  intro i hi
  have hz : i < zs.length := by omega
  have hi2 : i < xs.length := by omega
  have h2 := hel i hi
  rw [List.getElem?_eq_getElem hi2, ce, Nat.mul_comm] at h2
  obtain ⟨y0, y1, k, hy, hl2, hy0, hy1⟩ := trod_struct2 he h2
  rw [h0, o0, cb] at hy0
  rw [h1, o1, cb] at hy1
  obtain ⟨b0, e0, rfl⟩ := DataW.trod_bool hb hy0
  obtain ⟨b1, e1, rfl⟩ := DataW.trod_bool hb hy1
  refine ⟨zs[i], List.getElem?_eq_getElem hz, ?_⟩
  have h3 : (xs[i]).1 = DataW.agg [.lit (.bool zs[i].1), .lit (.bool zs[i].2)] := by
   have := congrArg (·[i]?) hxs
   simpa [List.getElem?_map, List.getElem?_eq_getElem hi2, List.getElem?_eq_getElem hz] using this
  rw [hy] at h3
  simp at h3
  rw [← h3.1, ← h3.2]
  rw [ce] at hl2
  match hc : (cs.drop (2 * i)).take 2, hl2 with
  | [a, b], _ =>
   rw [hc] at e0 e1
   simp at e0 e1
   rw [e0, e1]
 have all : ∀ i, i ≤ n → cs.take (2 * i) = (zs.take i).flatMap fun z => [.bool z.1, .bool z.2] := by
  intro i
  induction i with
  | zero => simp
  | succ i ih =>
   intro hi
   obtain ⟨z, hz, hd⟩ := step i (by omega)
   rw [Nat.mul_succ, List.take_add, ih (by omega), hd]
   rw [show zs.take (i + 1) = zs.take i ++ [z] by rw [List.take_add_one, hz]; rfl]
   simp
 have := all n (Nat.le_refl n)
 rwa [List.take_of_length_le (by omega), List.take_of_length_le (by omega)] at this
/-- The listed table stands first on the list. -/
theorem pairs_var {P : Program} {W : World} {name : String} {zs : List (Bool × Bool)} {rest : List (String × DataW Unit)} {g : Nat} {t e tb : TypeId} {n : Nat} {f0 f1 : Field}
  (hg : P.globalNamed name = some g) (hty : (P.globals[g]?).map (·.type) = some t) (ht : P.underlying t = some (.array n e)) (he : P.underlying e = some (.struct #[f0, f1])) (hb : P.underlying tb = some .bool) (h0 : f0.type = tb) (h1 : f1.type = tb) (o0 : f0.offset = 0) (o1 : f1.offset = 1) (cb : P.cellsOf tb = 1) (ce : P.cellsOf e = 2) (ct : P.cellsOf t = 2 * n)
  (h : laidMet P ((name, .agg (zs.map fun z => .agg [.lit (.bool z.1), .lit (.bool z.2)])) :: rest) W) : W.var? P name = some (zs.flatMap fun z => [Value.bool z.1, .bool z.2]).toArray := by
 obtain ⟨ps, ⟨g', t', cs, fuel, p, q, hg', ht', hvar, hd, _, _⟩, _⟩ := h
 obtain rfl := Option.some.inj (hg.symm.trans hg')
 obtain rfl := Option.some.inj (hty.symm.trans ht')
 rw [hvar, ← pairs_of ht he hb h0 h1 o0 o1 cb ce ct hd]
end Go.Proofs.YtomlilkobhkoiaaGreatDoor
/- Layer 7: the block that holds the kinds, as a thing that stays. -/
namespace Go.Proofs.YtomlilkobhkoiaaGreatDoor
open Go.RowKit
set_option linter.unusedVariables false
/-- The kinds, in block 0, whole. -/
def kndR (t : TypeId) : Res where
 sat F W := (∀ k, F k ↔ k = 0) ∧ W.heap[0]? = some (.cells KndV t (0, 0))
 stay h hs := ⟨hs.1, by rw [h 0 ((hs.1 0).2 rfl)]; exact hs.2⟩
 lt hs k hk := by rw [(hs.1 k).1 hk]; exact (Array.getElem?_eq_some_iff.1 hs.2).1
theorem row_knd {W : World} {t : TypeId} (h : W.heap[0]? = some (.cells KndV t (0, 0))) : row? W 0 = some KndV := by
 unfold row?; rw [h]; rfl
section
variable {w W : World} {F : Nat → Prop} {R : List Res} {r s u : Res} {t : TypeId}
theorem Sts.knd (h : Sts w F W (kndR t :: R)) : row? W 0 = some KndV := let ⟨_, ha⟩ := h.at0; row_knd ha.2
theorem Sts.knd2 (h : Sts w F W (r :: s :: kndR t :: R)) : row? W 0 = some KndV := h.drop.drop.knd
end
theorem Sts.startK {W : World} {t : TypeId} (h : W.heap[0]? = some (.cells KndV t (0, 0))) : Sts W (fun k => k = 0) W [kndR t] := Sts.start (Sat.one ⟨fun _ => Iff.rfl, h⟩)
theorem Sts.belowK {W W' : World} {t : TypeId} (h0 : W.heap[0]? = some (.cells KndV t (0, 0))) (h : Sts W (fun k => k = 0) W' [kndR t]) : Below W.heap.size W W' := by
 obtain ⟨_, ha⟩ := h.at0
 have m := h.mod
 refine ⟨m.os, m.tape, m.output, m.size, fun k hk => ?_⟩
 by_cases h : k = 0
 ·subst h; rw [ha.2, h0]
 ·exact m.block k hk h
end Go.Proofs.YtomlilkobhkoiaaGreatDoor
/- Layer 7: a message's bytes. -/
namespace Go.Proofs.YtomlilkobhkoiaaGreatDoor
open Go.RowKit
set_option linter.unusedVariables false
attribute [local go_sem] row_alloc row_drew row_drewN row_ext row_setCell row_setRow size_ext setRow_alloc setRow_drew loadOf storeOf piece_lit loadVal_at storeVal_at allOne_lit buildOf buildRes_some
attribute [local go_sem high] cell_alloc frozen_alloc setCell_alloc cell_ext frozen_ext cell_setRow frozen_setRow
attribute [local go_sem ↓] TDeed_ld0 TDeed_st0 TDeed_fd0 TDeed_bd0
attribute [local go_sem] TDeed_size TDeed_one TDeed_piece TDeed_c0 TDeed_c1 TDeed_c2 TDeed_c3 TDeed_c4 TDeed_c5 TDeed_set_kind TDeed_set_key TDeed_set_val TDeed_set_ver TDeed_set_ses TDeed_set_num TDeed_ld TDeed_st TDeed_f_kind TDeed_f_key TDeed_f_val TDeed_f_ver TDeed_f_ses TDeed_f_num TDeed_bd TDeed_fl TDeed_fl_kind TDeed_fl_key TDeed_fl_val TDeed_fl_ver TDeed_fl_ses TDeed_fl_num
attribute [local go_sem high] TDeed_eql TDeed_neq
attribute [local go_sem ↓] index_deps0 load_deps0 store_deps0
attribute [local go_sem] DV_piece DV_size DV_one index_deps load_deps store_deps
attribute [local go_sem high] TDeps_eql TDeps_neq
attribute [local go_sem ↓] TCall_ld0 TCall_st0 TCall_fd0 TCall_bd0
attribute [local go_sem] TCall_size TCall_one TCall_piece TCall_c0 TCall_c1 TCall_c2 TCall_c3 TCall_c4 TCall_c5 TCall_c6 TCall_c7 TCall_c8 TCall_c9 TCall_c10 TCall_c11 TCall_c12 TCall_c13 TCall_p_deed TCall_put_deed TCall_p_deps TCall_put_deps TCall_set_seq TCall_ld TCall_st TCall_f_deed TCall_f_deps TCall_f_seq TCall_bd TCall_fl TCall_fl_deed TCall_fl_deps TCall_fl_seq
attribute [local go_sem high] TCall_eql TCall_neq
attribute [local go_sem ↓] TItem_ld0 TItem_st0 TItem_fd0 TItem_bd0
attribute [local go_sem] TItem_size TItem_one TItem_piece TItem_c0 TItem_c1 TItem_set_rep TItem_set_num TItem_ld TItem_st TItem_f_rep TItem_f_num TItem_bd TItem_fl TItem_fl_rep TItem_fl_num
attribute [local go_sem high] TItem_eql TItem_neq
attribute [local go_sem ↓] TBallot_ld0 TBallot_st0 TBallot_fd0 TBallot_bd0
attribute [local go_sem] TBallot_size TBallot_one TBallot_piece TBallot_c0 TBallot_c1 TBallot_set_round TBallot_set_rep TBallot_ld TBallot_st TBallot_f_round TBallot_f_rep TBallot_bd TBallot_fl TBallot_fl_round TBallot_fl_rep
attribute [local go_sem high] TBallot_eql TBallot_neq
attribute [local go_sem ↓] TMsg_ld0 TMsg_st0 TMsg_fd0 TMsg_bd0
attribute [local go_sem] TMsg_size TMsg_one TMsg_piece TMsg_c0 TMsg_c1 TMsg_c2 TMsg_c3 TMsg_c4 TMsg_c5 TMsg_c6 TMsg_c7 TMsg_c8 TMsg_c9 TMsg_c10 TMsg_c11 TMsg_c12 TMsg_c13 TMsg_c14 TMsg_c15 TMsg_c16 TMsg_c17 TMsg_c18 TMsg_c19 TMsg_c20 TMsg_c21 TMsg_c22 TMsg_c23 TMsg_c24 TMsg_set_kind TMsg_set_frm TMsg_set_to TMsg_p_item TMsg_put_item TMsg_p_bal TMsg_put_bal TMsg_p_vote TMsg_put_vote TMsg_set_status TMsg_set_same TMsg_p_call TMsg_put_call TMsg_ld TMsg_st TMsg_f_kind TMsg_f_frm TMsg_f_to TMsg_f_item TMsg_f_bal TMsg_f_vote TMsg_f_status TMsg_f_same TMsg_f_call TMsg_bd TMsg_fl TMsg_fl_kind TMsg_fl_frm TMsg_fl_to TMsg_fl_item TMsg_fl_bal TMsg_fl_vote TMsg_fl_status TMsg_fl_same TMsg_fl_call
attribute [local go_sem high] TMsg_eql TMsg_neq
attribute [local go_sem ↓] TCarries_ld0 TCarries_st0 TCarries_fd0 TCarries_bd0
attribute [local go_sem] TCarries_size TCarries_one TCarries_piece TCarries_c0 TCarries_c1 TCarries_set_call TCarries_set_known TCarries_ld TCarries_st TCarries_f_call TCarries_f_known TCarries_bd TCarries_fl TCarries_fl_call TCarries_fl_known
attribute [local go_sem high] TCarries_eql TCarries_neq
attribute [local go_sem] KndV_size
structure MsgIn (m : Msg) (N : Nat) : Prop where
 kind : In64 m.kind
 frm : In64 m.frm
 «to» : In64 m.to
 rep : In64 m.item.rep
 num : In64 m.item.num
 round : In64 m.bal.round
 brep : In64 m.bal.rep
 vround : In64 m.vote.round
 vrep : In64 m.vote.rep
 status : In64 m.status
 call : CallIn m.call N
/-- A message's bytes, not sealed. -/
def mailB (m : Msg) : List UInt8 := encs [m.kind, m.frm, m.to] ++ encs [m.item.rep, m.item.num] ++ encs [m.bal.round, m.bal.rep] ++ (if knownB m.kind then encs [m.vote.round, m.vote.rep] ++ enc m.status.toNat else []) ++ (if knownB m.kind || m.kind == 2 then bitB m.same else []) ++ (if callsB m.kind then callB m.call else [])
theorem encs_le {ns : List Int} (h : ∀ n ∈ ns, -9223372036854775808 ≤ n ∧ n < 9223372036854775808) : (encs ns).length ≤ 9 * ns.length := encs_len fun n hn => (h n hn).2
theorem three_in {a b c : Int} (ha : In64 a) (hb : In64 b) (hc : In64 c) : ∀ n ∈ [a, b, c], -9223372036854775808 ≤ n ∧ n < 9223372036854775808 := by
 intro n hn; simp at hn; rcases hn with rfl | rfl | rfl
 ·exact ha
 ·exact hb
 ·exact hc
theorem one_in {a : Int} (ha : In64 a) : ∀ n ∈ [a], -9223372036854775808 ≤ n ∧ n < 9223372036854775808 := by
 intro n hn; simp at hn; subst hn; exact ha
set_option maxHeartbeats 8000000 in
set_option maxRecDepth 10000 in
theorem mailPutD (t : TypeId) (g : Nat) (l : List UInt8) (m : Msg) (N : Nat) (h : MsgIn m N) (hN : N ≤ 1000) (hk : 0 ≤ m.kind ∧ m.kind ≤ 8) (hb : l.length ≤ 10000) :
  Does Tryz.prog 91 #[.pointer (some ⟨g, 0, none⟩), .agg (MV m)] [snkR g l, kndR t] (.tuple #[]) [snkR g (l ++ mailB m), kndR t] := by
 intro W G hS
 have T := ((Sts.start hS).new (MV m) 136).new #[.int .i64 m.kind, .int .i64 m.frm, .int .i64 m.to] 3
 clear hS
 have e1 := encs_le (three_in h.kind h.frm h.to)
 have e2 := encs_le (two_in h.rep h.num)
 have e3 := encs_le (two_in h.round h.brep)
 have e4 := encs_le (two_in h.vround h.vrep)
 have e5 := enc_len9 (n := m.status.toNat) (by have := h.status; unfold In64 at this; omega)
 have hp := KndV_piece m.kind.toNat (by omega)
 have hs : m.kind.toNat * 2 + 2 ≤ 18 := by omega
 rw [show ((m.kind.toNat : Nat) : Int) = m.kind by omega] at hp
 obtain ⟨q1, q2⟩ := hk
 have hm : mailB m = encs [m.kind, m.frm, m.to] ++ encs [m.item.rep, m.item.num] ++ encs [m.bal.round, m.bal.rep] ++ (if knownB m.kind then encs [m.vote.round, m.vote.rep] ++ enc m.status.toNat else []) ++ (if knownB m.kind || m.kind == 2 then bitB m.same else []) ++ (if callsB m.kind then callB m.call else []) := rfl
 simp only [List.length_cons, List.length_nil] at e1 e2 e3 e4
 simp only [World.size_alloc] at T
 -- the rows: ints, message, sink, kinds
 go_enter Tryz.func91, Tryz.ntmps91
 go_wp2_with fail
 refine (Does.at2 (sinkNatD g l (W.heap.size + 1) 0 3 _ [m.kind, m.frm, m.to] ?_ (three_in h.kind h.frm h.to) (by simp; omega)) T.rot2.swap2.swap2).mono ?_; clear T
 ·intro j hj
  match j, hj with
  | 0, _ => rfl
  | 1, _ => rfl
  | 2, _ => rfl
 rintro e w1 ⟨rfl, T⟩
 have T := T.swap.drop
 have hr := T.row1
 have hlt := row_lt hr
 go_wp2_with fail
 refine (Does.at1 (itemPutD g _ m.item h.rep h.num (by rw [List.length_append]; omega)) T).mono ?_; clear T hr hlt; rintro e w2 ⟨rfl, T⟩
 have hr := T.row1
 have hlt := row_lt hr
 go_wp2_with fail
 refine (Does.at1 (balPutD g _ m.bal h.round h.brep (by simp only [List.length_append]; omega)) T).mono ?_; clear T hr hlt; rintro e w3 ⟨rfl, T⟩
 have hr := T.row1
 have hlt := row_lt hr
 have hc := row_cell hr
 have hrk := T.knd2
 have hlk := row_lt hrk
 cases hkb : knownB m.kind
 all_goals cases hcb : callsB m.kind
 case false.false =>
  rw [hkb, hcb] at hp
  rw [hkb, hcb] at hm
  have hk2 : (m.kind == 2) = false := by
   rw [beq_eq_false_iff_ne]; intro e; rw [e] at hcb; simp [callsB] at hcb
  rw [hk2] at hm
  have HM := Lib.hid hm; clear hm hkb hcb
  go_wp2
  go_end0
  exact ⟨rfl, by rw [HM.out]; simpa using (T.keep _).swap.drop⟩
 case false.true =>
  rw [hkb, hcb] at hp
  rw [hkb, hcb] at hm
  cases hk2 : (m.kind == 2)
  ·rw [hk2] at hm
   have HM := Lib.hid hm; clear hm hkb hcb
   have T := (T.keep (.cells (KRV ⟨true, false⟩) 265))
   go_wp2_with fail
   refine (Does.at1 (callPutD g _ m.call N h.call (by omega) (by simp only [List.length_append]; omega)) T).mono ?_; clear T hr hlt hc hrk hlk; rintro e w4 ⟨rfl, T⟩
   go_wp2
   go_end0
   exact ⟨rfl, by rw [HM.out]; simpa using T.swap.drop⟩
  ·rw [hk2] at hm
   have HM := Lib.hid hm; clear hm hkb hcb
   have T := (T.new (KRV ⟨true, false⟩) 265)
   go_wp2_with fail
   refine (Does.at1 (sinkBitD g _ m.same (by simp only [List.length_append]; omega)) T.swap).mono ?_; clear T hr hlt hc hrk hlk; rintro e w4 ⟨rfl, T⟩
   have hr := T.row2
   have hlt := row_lt hr
   have hkc := row_cell T.row1
   have hbl : (bitB m.same).length = 1 := rfl
   go_wp2_with fail
   refine (Does.at1 (callPutD g _ m.call N h.call (by omega) (by simp only [List.length_append]; omega)) T).mono ?_; clear T hr hlt hkc; rintro e w5 ⟨rfl, T⟩
   go_wp2
   go_end0
   exact ⟨rfl, by rw [HM.out]; simpa using T.swap.drop.swap.drop⟩
 case true.false =>
  exfalso
  simp [knownB] at hkb
  simp [callsB, hkb] at hcb
 case true.true =>
  rw [hkb, hcb] at hp
  rw [hkb, hcb] at hm
  have HM := Lib.hid hm; clear hm hkb hcb
  have T := (T.new (KRV ⟨true, true⟩) 265)
  go_wp2_with fail
  refine (Does.at1 (balPutD g _ m.vote h.vround h.vrep (by simp only [List.length_append]; omega)) T.swap).mono ?_; clear T hr hlt hc hrk hlk; rintro e w4 ⟨rfl, T⟩
  have hr := T.row2
  have hlt := row_lt hr
  have hc := row_cell hr
  have T := T.new #[.int .i64 m.status] 3
  go_wp2_with fail
  refine (Does.at2 (sinkNatD g _ w4.heap.size 0 1 _ [m.status] (by intro j hj; simp at hj; subst hj; rfl) (one_in h.status) (by simp only [List.length_append, List.length_cons, List.length_nil]; omega)) T.swap).mono ?_; clear T hr hlt hc; rintro e w5 ⟨rfl, T⟩
  have T := T.swap.drop
  have hkc := row_cell T.row1
  have hr := T.row2
  have hlt := row_lt hr
  have hc := row_cell hr
  have hes : (encs [m.status]).length = (enc m.status.toNat).length := by simp [encs]
  go_wp2_with fail
  refine (Does.at1 (sinkBitD g _ m.same (by simp only [List.length_append]; omega)) T).mono ?_; clear T hr hlt hc hkc; rintro e w6 ⟨rfl, T⟩
  have hkc := row_cell T.row1
  have hr := T.row2
  have hlt := row_lt hr
  have hbl : (bitB m.same).length = 1 := rfl
  go_wp2_with fail
  refine (Does.at1 (callPutD g _ m.call N h.call (by omega) (by simp only [List.length_append]; omega)) T).mono ?_; clear T hr hlt hkc; rintro e w7 ⟨rfl, T⟩
  go_wp2
  go_end0
  exact ⟨rfl, by rw [HM.out]; simpa [encs] using T.swap.drop.swap.drop⟩
end Go.Proofs.YtomlilkobhkoiaaGreatDoor
/- Layer 7: the document's bytes of a message. -/
namespace Go.Proofs.YtomlilkobhkoiaaGreatDoor
open Go.RowKit
set_option linter.unusedVariables false
attribute [local go_sem] row_alloc row_drew row_drewN row_ext row_setCell row_setRow size_ext setRow_alloc setRow_drew loadOf storeOf piece_lit loadVal_at storeVal_at allOne_lit buildOf buildRes_some
attribute [local go_sem high] cell_alloc frozen_alloc setCell_alloc cell_ext frozen_ext cell_setRow frozen_setRow
attribute [local go_sem ↓] TDeed_ld0 TDeed_st0 TDeed_fd0 TDeed_bd0
attribute [local go_sem] TDeed_size TDeed_one TDeed_piece TDeed_c0 TDeed_c1 TDeed_c2 TDeed_c3 TDeed_c4 TDeed_c5 TDeed_set_kind TDeed_set_key TDeed_set_val TDeed_set_ver TDeed_set_ses TDeed_set_num TDeed_ld TDeed_st TDeed_f_kind TDeed_f_key TDeed_f_val TDeed_f_ver TDeed_f_ses TDeed_f_num TDeed_bd TDeed_fl TDeed_fl_kind TDeed_fl_key TDeed_fl_val TDeed_fl_ver TDeed_fl_ses TDeed_fl_num
attribute [local go_sem high] TDeed_eql TDeed_neq
attribute [local go_sem ↓] index_deps0 load_deps0 store_deps0
attribute [local go_sem] DV_piece DV_size DV_one index_deps load_deps store_deps
attribute [local go_sem high] TDeps_eql TDeps_neq
attribute [local go_sem ↓] TCall_ld0 TCall_st0 TCall_fd0 TCall_bd0
attribute [local go_sem] TCall_size TCall_one TCall_piece TCall_c0 TCall_c1 TCall_c2 TCall_c3 TCall_c4 TCall_c5 TCall_c6 TCall_c7 TCall_c8 TCall_c9 TCall_c10 TCall_c11 TCall_c12 TCall_c13 TCall_p_deed TCall_put_deed TCall_p_deps TCall_put_deps TCall_set_seq TCall_ld TCall_st TCall_f_deed TCall_f_deps TCall_f_seq TCall_bd TCall_fl TCall_fl_deed TCall_fl_deps TCall_fl_seq
attribute [local go_sem high] TCall_eql TCall_neq
attribute [local go_sem ↓] TItem_ld0 TItem_st0 TItem_fd0 TItem_bd0
attribute [local go_sem] TItem_size TItem_one TItem_piece TItem_c0 TItem_c1 TItem_set_rep TItem_set_num TItem_ld TItem_st TItem_f_rep TItem_f_num TItem_bd TItem_fl TItem_fl_rep TItem_fl_num
attribute [local go_sem high] TItem_eql TItem_neq
attribute [local go_sem ↓] TBallot_ld0 TBallot_st0 TBallot_fd0 TBallot_bd0
attribute [local go_sem] TBallot_size TBallot_one TBallot_piece TBallot_c0 TBallot_c1 TBallot_set_round TBallot_set_rep TBallot_ld TBallot_st TBallot_f_round TBallot_f_rep TBallot_bd TBallot_fl TBallot_fl_round TBallot_fl_rep
attribute [local go_sem high] TBallot_eql TBallot_neq
attribute [local go_sem ↓] TMsg_ld0 TMsg_st0 TMsg_fd0 TMsg_bd0
attribute [local go_sem] TMsg_size TMsg_one TMsg_piece TMsg_c0 TMsg_c1 TMsg_c2 TMsg_c3 TMsg_c4 TMsg_c5 TMsg_c6 TMsg_c7 TMsg_c8 TMsg_c9 TMsg_c10 TMsg_c11 TMsg_c12 TMsg_c13 TMsg_c14 TMsg_c15 TMsg_c16 TMsg_c17 TMsg_c18 TMsg_c19 TMsg_c20 TMsg_c21 TMsg_c22 TMsg_c23 TMsg_c24 TMsg_set_kind TMsg_set_frm TMsg_set_to TMsg_p_item TMsg_put_item TMsg_p_bal TMsg_put_bal TMsg_p_vote TMsg_put_vote TMsg_set_status TMsg_set_same TMsg_p_call TMsg_put_call TMsg_ld TMsg_st TMsg_f_kind TMsg_f_frm TMsg_f_to TMsg_f_item TMsg_f_bal TMsg_f_vote TMsg_f_status TMsg_f_same TMsg_f_call TMsg_bd TMsg_fl TMsg_fl_kind TMsg_fl_frm TMsg_fl_to TMsg_fl_item TMsg_fl_bal TMsg_fl_vote TMsg_fl_status TMsg_fl_same TMsg_fl_call
attribute [local go_sem high] TMsg_eql TMsg_neq
end Go.Proofs.YtomlilkobhkoiaaGreatDoor
