/- Several texts in one. -/
import Derived.Test.YtomlilkobhkoiaaGreatDoorQ34
import Derived.Test.YtomlilkobhkoiaaGreatDoorQ27
import Derived.Test.YtomlilkobhkoiaaGreatDoorQ6
import Derived.Test.YtomlilkobhkoiaaGreatDoorQ4
/- Layer 15, plain: the laws of answers. No walk stands here. -/
namespace Go.Proofs.YtomlilkobhkoiaaGreatDoor
open Go.RowKit
set_option linter.unusedVariables false
attribute [local instance 10] Classical.propDecidable
theorem lessBal_self (b : Ballot) : lessBal b b = false := lessBal_irr (eqA_refl _)
theorem lessBal_trans {a b c : Ballot} (h1 : lessBal b a = false) (h2 : lessBal c b = false) : lessBal c a = false := by
 unfold lessBal at *
 rw [decide_eq_false_iff_not] at *
 omega
theorem afterM_cases (m : RowsM) (self : Int) (x : Msg) : (eqA (NV (atM m x.item)) (NV (ansM m self x).now) = true ∧ afterM m self x = m) ∨ (eqA (NV (atM m x.item)) (NV (ansM m self x).now) = false ∧ afterM m self x = setM m x.item (ansM m self x).now) := by
 unfold afterM nowR
 split
 ·rename_i h; exact .inl ⟨h, rfl⟩
 ·rename_i h; exact .inr ⟨by simpa using h, rfl⟩
theorem ans_bad {m : RowsM} {self : Int} {x : Msg} (h : x.to ≠ self ∨ goodM x m.n = false) : ansM m self x = noAns (atM m x.item) := if_pos h
theorem refM_cases (x : Msg) (i : Inst) : (lessBal x.bal i.prom = true ∧ refM x i = ⟨⟨8, x.to, x.frm, x.item, i.prom, noBallot, 0, false, noCall⟩, true, i⟩) ∨ (lessBal x.bal i.prom = false ∧ refM x i = noAns i) := by
 unfold refM
 split
 ·rename_i h; exact .inl ⟨h, rfl⟩
 ·rename_i h; exact .inr ⟨by simpa using h, rfl⟩
theorem voteM_cases (i : Inst) (b : Ballot) (st : Int) (c : Call) (same : Bool) :
  ((lessBal b i.prom = true ∨ i.status = 3) ∧ voteM i b st c same = (i, false)) ∨
  (lessBal b i.prom = false ∧ i.status ≠ 3 ∧ eqA (BV i.vote) (BV b) = true ∧ i.status ≥ st ∧ voteM i b st c same = (⟨b, i.vote, i.status, i.call, i.same⟩, i.status == st)) ∨
  (lessBal b i.prom = false ∧ i.status ≠ 3 ∧ (eqA (BV i.vote) (BV b) = false ∨ i.status < st) ∧ voteM i b st c same = (⟨b, b, st, c, same⟩, true)) := by
 unfold voteM
 by_cases h : lessBal b i.prom = true ∨ i.status = 3
 ·rw [if_pos h]; exact .inl ⟨h, rfl⟩
 ·rw [if_neg h]
  have h1 : lessBal b i.prom = false := by
   cases hq : lessBal b i.prom with
   | false => rfl
   | true => exact absurd (.inl hq) h
  have h2 : i.status ≠ 3 := fun e => h (.inr e)
  by_cases hv : votedB i b st = true
  ·rw [if_pos hv]
   unfold votedB at hv
   simp only [Bool.and_eq_true, decide_eq_true_eq] at hv
   exact .inr (.inl ⟨h1, h2, hv.1, hv.2, rfl⟩)
  ·rw [if_neg hv]
   refine .inr (.inr ⟨h1, h2, ?_, rfl⟩)
   unfold votedB at hv
   simp only [Bool.and_eq_true, decide_eq_true_eq, not_and] at hv
   cases hq : eqA (BV i.vote) (BV b) with
   | false => exact .inl rfl
   | true => exact .inr (by have := hv hq; omega)
/-- How an answer comes about. -/
inductive AnsBy (m : RowsM) (self : Int) (x : Msg) : AnsM → Prop where
 | bad (h : x.to ≠ self ∨ goodM x m.n = false) : AnsBy m self x (noAns (atM m x.item))
 | done (hg : goodM x m.n = true) (ht : x.to = self) (hk : x.kind = 1 ∨ x.kind = 3 ∨ x.kind = 6) (hs : (atM m x.item).status = 3) : AnsBy m self x ⟨⟨5, x.to, x.frm, x.item, x.bal, noBallot, 0, false, (atM m x.item).call⟩, true, atM m x.item⟩
 | nack (hg : goodM x m.n = true) (ht : x.to = self) (hk : x.kind = 1 ∨ x.kind = 3 ∨ x.kind = 6) (hs : (atM m x.item).status ≠ 3) (hl : lessBal x.bal (atM m x.item).prom = true) : AnsBy m self x ⟨⟨8, x.to, x.frm, x.item, (atM m x.item).prom, noBallot, 0, false, noCall⟩, true, atM m x.item⟩
 | none (hg : goodM x m.n = true) (ht : x.to = self) (hk : x.kind = 1 ∨ x.kind = 3) (hs : (atM m x.item).status ≠ 3) (hl : lessBal x.bal (atM m x.item).prom = false) (hv : eqA (BV (atM m x.item).vote) (BV x.bal) = true) (hst : x.kind = 1 ∧ (atM m x.item).status > 1 ∨ x.kind = 3 ∧ (atM m x.item).status > 2) : AnsBy m self x (noAns (atM m x.item))
 | preOld (hg : goodM x m.n = true) (ht : x.to = self) (hk : x.kind = 1) (hs : (atM m x.item).status = 1) (hl : lessBal x.bal (atM m x.item).prom = false) (hv : eqA (BV (atM m x.item).vote) (BV x.bal) = true) :
   AnsBy m self x ⟨⟨2, x.to, x.frm, x.item, x.bal, noBallot, 0, (atM m x.item).same, (atM m x.item).call⟩, true, ⟨x.bal, (atM m x.item).vote, (atM m x.item).status, (atM m x.item).call, (atM m x.item).same⟩⟩
 | preNew (hg : goodM x m.n = true) (ht : x.to = self) (hk : x.kind = 1) (hs : (atM m x.item).status ≠ 3) (hl : lessBal x.bal (atM m x.item).prom = false) (hv : eqA (BV (atM m x.item).vote) (BV x.bal) = false ∨ (atM m x.item).status < 1) :
   AnsBy m self x ⟨⟨2, x.to, x.frm, x.item, x.bal, noBallot, 0, sameC (mergeC x.call (wayK m x.call.deed x.item)) x, mergeC x.call (wayK m x.call.deed x.item)⟩, true, ⟨x.bal, x.bal, 1, mergeC x.call (wayK m x.call.deed x.item), sameC (mergeC x.call (wayK m x.call.deed x.item)) x⟩⟩
 | accOld (hg : goodM x m.n = true) (ht : x.to = self) (hk : x.kind = 3) (hs : (atM m x.item).status = 2) (hl : lessBal x.bal (atM m x.item).prom = false) (hv : eqA (BV (atM m x.item).vote) (BV x.bal) = true) :
   AnsBy m self x ⟨backM x 4, true, ⟨x.bal, (atM m x.item).vote, (atM m x.item).status, (atM m x.item).call, (atM m x.item).same⟩⟩
 | accNew (hg : goodM x m.n = true) (ht : x.to = self) (hk : x.kind = 3) (hs : (atM m x.item).status ≠ 3) (hl : lessBal x.bal (atM m x.item).prom = false) (hv : eqA (BV (atM m x.item).vote) (BV x.bal) = false ∨ (atM m x.item).status < 2) :
   AnsBy m self x ⟨backM x 4, true, ⟨x.bal, x.bal, 2, x.call, false⟩⟩
 | prom (hg : goodM x m.n = true) (ht : x.to = self) (hk : x.kind = 6) (hs : (atM m x.item).status ≠ 3) (hl : lessBal x.bal (atM m x.item).prom = false) :
   AnsBy m self x ⟨⟨7, x.to, x.frm, x.item, x.bal, (atM m x.item).vote, (atM m x.item).status, (atM m x.item).same, (atM m x.item).call⟩, true, ⟨x.bal, (atM m x.item).vote, (atM m x.item).status, (atM m x.item).call, (atM m x.item).same⟩⟩
 | comOld (hg : goodM x m.n = true) (ht : x.to = self) (hk : x.kind = 5) (hs : (atM m x.item).status = 3) : AnsBy m self x (noAns (atM m x.item))
 | comNew (hg : goodM x m.n = true) (ht : x.to = self) (hk : x.kind = 5) (hs : (atM m x.item).status ≠ 3) : AnsBy m self x ⟨noMsg, false, ⟨(atM m x.item).prom, (atM m x.item).vote, 3, x.call, false⟩⟩
 | other (hg : goodM x m.n = true) (ht : x.to = self) (hk : x.kind ≠ 1 ∧ x.kind ≠ 3 ∧ x.kind ≠ 5 ∧ x.kind ≠ 6) : AnsBy m self x (noAns (atM m x.item))
theorem ans_by (m : RowsM) (self : Int) (x : Msg) : AnsBy m self x (ansM m self x) := by
 by_cases hb : x.to ≠ self ∨ goodM x m.n = false
 ·rw [ans_bad hb]; exact .bad hb
 have ht : x.to = self := by
  by_cases h : x.to = self
  ·exact h
  ·exact absurd (.inl h) hb
 have hg : goodM x m.n = true := by
  cases hq : goodM x m.n with
  | true => rfl
  | false => exact absurd (.inr hq) hb
 unfold ansM
 rw [if_neg hb]
 by_cases h3 : (x.kind = 1 ∨ x.kind = 3 ∨ x.kind = 6) ∧ (atM m x.item).status = 3
 ·rw [if_pos h3]; exact .done hg ht h3.1 h3.2
 rw [if_neg h3]
 by_cases k1 : x.kind = 1
 ·have hs : (atM m x.item).status ≠ 3 := fun e => h3 ⟨.inl k1, e⟩
  rw [if_pos k1]
  unfold preM
  rcases voteM_cases (atM m x.item) x.bal 1 (mergeC x.call (wayK m x.call.deed x.item)) (sameC (mergeC x.call (wayK m x.call.deed x.item)) x) with ⟨h, e⟩ | ⟨hl, _, hv, hst, e⟩ | ⟨hl, _, hv, e⟩
  ·rw [e]
   rw [if_neg (by simp)]
   rcases refM_cases x (atM m x.item) with ⟨hl, e2⟩ | ⟨hl, e2⟩
   ·rw [e2]; exact .nack hg ht (.inl k1) hs hl
   ·rcases h with h | h
    ·rw [hl] at h; cases h
    ·exact absurd h hs
  ·rw [e]
   by_cases h1 : (atM m x.item).status = 1
   ·rw [if_pos (by simp [h1])]
    exact .preOld hg ht k1 h1 hl hv
   ·rw [if_neg (by simp [h1])]
    rcases refM_cases x (atM m x.item) with ⟨hl2, e2⟩ | ⟨hl2, e2⟩
    ·rw [hl] at hl2; cases hl2
    ·rw [e2]; exact .none hg ht (.inl k1) hs hl hv (.inl ⟨k1, by omega⟩)
  ·rw [e, if_pos rfl]
   exact .preNew hg ht k1 hs hl hv
 rw [if_neg k1]
 by_cases k3 : x.kind = 3
 ·have hs : (atM m x.item).status ≠ 3 := fun e => h3 ⟨.inr (.inl k3), e⟩
  rw [if_pos k3]
  unfold accM
  rcases voteM_cases (atM m x.item) x.bal 2 x.call false with ⟨h, e⟩ | ⟨hl, _, hv, hst, e⟩ | ⟨hl, _, hv, e⟩
  ·rw [e]
   rw [if_neg (by simp)]
   rcases refM_cases x (atM m x.item) with ⟨hl, e2⟩ | ⟨hl, e2⟩
   ·rw [e2]; exact .nack hg ht (.inr (.inl k3)) hs hl
   ·rcases h with h | h
    ·rw [hl] at h; cases h
    ·exact absurd h hs
  ·rw [e]
   by_cases h1 : (atM m x.item).status = 2
   ·rw [if_pos (by simp [h1])]
    exact .accOld hg ht k3 h1 hl hv
   ·rw [if_neg (by simp [h1])]
    rcases refM_cases x (atM m x.item) with ⟨hl2, e2⟩ | ⟨hl2, e2⟩
    ·rw [hl] at hl2; cases hl2
    ·rw [e2]; exact .none hg ht (.inr k3) hs hl hv (.inr ⟨k3, by omega⟩)
  ·rw [e, if_pos rfl]
   exact .accNew hg ht k3 hs hl hv
 rw [if_neg k3]
 by_cases k6 : x.kind = 6
 ·have hs : (atM m x.item).status ≠ 3 := fun e => h3 ⟨.inr (.inr k6), e⟩
  rw [if_pos k6]
  unfold prmM promM
  by_cases hl : lessBal x.bal (atM m x.item).prom = true
  ·rw [if_pos hl, if_neg (by simp)]
   rcases refM_cases x (atM m x.item) with ⟨_, e2⟩ | ⟨hl2, e2⟩
   ·rw [e2]; exact .nack hg ht (.inr (.inr k6)) hs hl
   ·rw [hl] at hl2; cases hl2
  ·rw [if_neg hl, if_pos rfl]
   exact .prom hg ht k6 hs (by simpa using hl)
 rw [if_neg k6]
 by_cases k5 : x.kind = 5
 ·rw [if_pos k5]
  unfold commitM
  by_cases hs : (atM m x.item).status = 3
  ·rw [if_pos hs]; exact .comOld hg ht k5 hs
  ·rw [if_neg hs]; exact .comNew hg ht k5 hs
 rw [if_neg k5]
 exact .other hg ht ⟨k1, k3, k5, k6⟩
/-! refusals -/
/-! what is committed -/
end Go.Proofs.YtomlilkobhkoiaaGreatDoor
/- Layers 13, 15, plain: what is known only goes on; what is pre-accepted reaches to all that clashes. No walk stands here. -/
namespace Go.Proofs.YtomlilkobhkoiaaGreatDoor
open Go.RowKit
set_option linter.unusedVariables false
attribute [local instance 10] Classical.propDecidable
/-- No vote is greater than what is promised. -/
def VoteLe (m : RowsM) : Prop := ∀ x i, getM m x = some i → lessBal i.prom i.vote = false
theorem VoteLe.new (n : Int) : VoteLe ⟨n, fun _ => []⟩ := fun x i h => by rw [getM_new] at h; cases h
theorem VoteLe.at {m : RowsM} (h : VoteLe m) (x : Item) : lessBal (atM m x).prom (atM m x).vote = false := by
 unfold atM
 cases hg : getM m x with
 | none => exact lessBal_self noBallot
 | some t => exact h x t hg
theorem VoteLe.after {m : RowsM} (h : VoteLe m) (self : Int) (x : Msg) : VoteLe (afterM m self x) := by
 rcases afterM_cases m self x with ⟨_, e⟩ | ⟨hne, e⟩
 ·rw [e]; exact h
 ·rw [e]
  intro y i hy
  by_cases hg : goodI x.item m.n = true
  ·by_cases hxy : x.item = y
   ·subst hxy
    rw [getM_set_same _ hg] at hy
    injection hy with hy
    subst hy
    have h0 := h.at x.item
    have hby := ans_by m self x
    generalize ansM m self x = a at *
    cases hby with
    | bad => exact h0
    | done => exact h0
    | nack => exact h0
    | none => exact h0
    | preOld _ _ _ _ hl => exact lessBal_trans h0 hl
    | preNew => exact lessBal_self _
    | accOld _ _ _ _ hl => exact lessBal_trans h0 hl
    | accNew => exact lessBal_self _
    | prom _ _ _ _ hl => exact lessBal_trans h0 hl
    | comOld => exact h0
    | comNew => exact h0
    | other => exact h0
   ·rw [getM_set_other _ hg hxy] at hy
    exact h y i hy
  ·unfold setM at hy
   rw [if_neg hg] at hy
   exact h y i hy
end Go.Proofs.YtomlilkobhkoiaaGreatDoor
/- Layer 15: answers of a kind, refusals; what is known of an item now. -/
namespace Go.Proofs.YtomlilkobhkoiaaGreatDoor
open Go.RowKit
set_option linter.unusedVariables false
set_option maxRecDepth 20000
attribute [local go_sem] row_alloc row_drew row_drewN row_ext row_setCell row_setRow size_ext setRow_alloc setRow_drew loadOf storeOf piece_lit loadVal_at storeVal_at allOne_lit buildOf buildRes_some
attribute [local go_sem high] cell_alloc frozen_alloc setCell_alloc cell_ext frozen_ext cell_setRow frozen_setRow
attribute [local go_sem ↓] TDeed_ld0 TDeed_st0 TDeed_fd0 TDeed_bd0
attribute [local go_sem] TDeed_size TDeed_one TDeed_piece TDeed_c0 TDeed_c1 TDeed_c2 TDeed_c3 TDeed_c4 TDeed_c5 TDeed_set_kind TDeed_set_key TDeed_set_val TDeed_set_ver TDeed_set_ses TDeed_set_num TDeed_ld TDeed_st TDeed_f_kind TDeed_f_key TDeed_f_val TDeed_f_ver TDeed_f_ses TDeed_f_num TDeed_bd TDeed_fl TDeed_fl_kind TDeed_fl_key TDeed_fl_val TDeed_fl_ver TDeed_fl_ses TDeed_fl_num
attribute [local go_sem high] TDeed_eql TDeed_neq
attribute [local go_sem ↓] index_deps0 load_deps0 store_deps0
attribute [local go_sem] DV_piece DV_size DV_one index_deps load_deps store_deps
attribute [local go_sem high] TDeps_eql TDeps_neq
attribute [local go_sem ↓] TCall_ld0 TCall_st0 TCall_fd0 TCall_bd0
attribute [local go_sem] TCall_size TCall_one TCall_piece TCall_c0 TCall_c1 TCall_c2 TCall_c3 TCall_c4 TCall_c5 TCall_c6 TCall_c7 TCall_c8 TCall_c9 TCall_c10 TCall_c11 TCall_c12 TCall_c13 TCall_p_deed TCall_put_deed TCall_p_deps TCall_put_deps TCall_set_seq TCall_ld TCall_st TCall_f_deed TCall_f_deps TCall_f_seq TCall_bd TCall_fl TCall_fl_deed TCall_fl_deps TCall_fl_seq
attribute [local go_sem high] TCall_eql TCall_neq
attribute [local go_sem ↓] TItem_ld0 TItem_st0 TItem_fd0 TItem_bd0
attribute [local go_sem] TItem_size TItem_one TItem_piece TItem_c0 TItem_c1 TItem_set_rep TItem_set_num TItem_ld TItem_st TItem_f_rep TItem_f_num TItem_bd TItem_fl TItem_fl_rep TItem_fl_num
attribute [local go_sem high] TItem_eql TItem_neq
attribute [local go_sem ↓] TBallot_ld0 TBallot_st0 TBallot_fd0 TBallot_bd0
attribute [local go_sem] TBallot_size TBallot_one TBallot_piece TBallot_c0 TBallot_c1 TBallot_set_round TBallot_set_rep TBallot_ld TBallot_st TBallot_f_round TBallot_f_rep TBallot_bd TBallot_fl TBallot_fl_round TBallot_fl_rep
attribute [local go_sem high] TBallot_eql TBallot_neq
attribute [local go_sem ↓] TInst_ld0 TInst_st0 TInst_fd0 TInst_bd0
attribute [local go_sem] TInst_size TInst_one TInst_piece TInst_c0 TInst_c1 TInst_c2 TInst_c3 TInst_c4 TInst_c5 TInst_c6 TInst_c7 TInst_c8 TInst_c9 TInst_c10 TInst_c11 TInst_c12 TInst_c13 TInst_c14 TInst_c15 TInst_c16 TInst_c17 TInst_c18 TInst_c19 TInst_p_prom TInst_put_prom TInst_p_vote TInst_put_vote TInst_set_status TInst_p_call TInst_put_call TInst_set_same TInst_ld TInst_st TInst_f_prom TInst_f_vote TInst_f_status TInst_f_call TInst_f_same TInst_bd TInst_fl TInst_fl_prom TInst_fl_vote TInst_fl_status TInst_fl_call TInst_fl_same
attribute [local go_sem high] TInst_eql TInst_neq
attribute [local go_sem ↓] TMsg_ld0 TMsg_st0 TMsg_fd0 TMsg_bd0
attribute [local go_sem] TMsg_size TMsg_one TMsg_piece TMsg_c0 TMsg_c1 TMsg_c2 TMsg_c3 TMsg_c4 TMsg_c5 TMsg_c6 TMsg_c7 TMsg_c8 TMsg_c9 TMsg_c10 TMsg_c11 TMsg_c12 TMsg_c13 TMsg_c14 TMsg_c15 TMsg_c16 TMsg_c17 TMsg_c18 TMsg_c19 TMsg_c20 TMsg_c21 TMsg_c22 TMsg_c23 TMsg_c24 TMsg_set_kind TMsg_set_frm TMsg_set_to TMsg_p_item TMsg_put_item TMsg_p_bal TMsg_put_bal TMsg_p_vote TMsg_put_vote TMsg_set_status TMsg_set_same TMsg_p_call TMsg_put_call TMsg_ld TMsg_st TMsg_f_kind TMsg_f_frm TMsg_f_to TMsg_f_item TMsg_f_bal TMsg_f_vote TMsg_f_status TMsg_f_same TMsg_f_call TMsg_bd TMsg_fl TMsg_fl_kind TMsg_fl_frm TMsg_fl_to TMsg_fl_item TMsg_fl_bal TMsg_fl_vote TMsg_fl_status TMsg_fl_same TMsg_fl_call
attribute [local go_sem high] TMsg_eql TMsg_neq
set_option maxHeartbeats 4000000 in
theorem back_any (m : Msg) (k : Int) : Ans Tryz.prog 147 #[.agg (MV m), .int .i64 k] (.agg (MV (backM m k))) := by
 refine Ans.of_sts fun W => ?_
 have T := ((Sts.start0 W).new (MV m) 136).new (MV (backM m k)) 136
 simp only [World.size_alloc] at T
 have r2 := T.row1; have l2 := row_lt r2; have c2 := row_cell r2
 have HT := Lib.hid T; clear T
 go_enter Tryz.func147, Tryz.ntmps147
 go_wp2
 refine ret_row (MV (backM m k)) TMsg_und rfl (by kernel_rfl) rfl rfl rfl (TMsg_size _) HT.out.row ?_
 exact ⟨rfl, HT.out.nil⟩
set_option maxHeartbeats 4000000 in
theorem first_bal (rep : Int) : Ans Tryz.prog 24 #[.int .i64 rep] (.agg (BV ⟨0, rep⟩)) := by
 refine Ans.of_sts fun W => ?_
 have T := (Sts.start0 W).new (BV ⟨0, rep⟩) 64
 have HT := Lib.hid T; clear T
 go_enter Tryz.func24, Tryz.ntmps24
 go_wp2
 refine ret_row (BV ⟨0, rep⟩) TBallot_und rfl (by kernel_rfl) rfl rfl rfl (TBallot_size _) HT.out.row ?_
 exact ⟨rfl, HT.out.nil⟩
set_option maxHeartbeats 4000000 in
theorem refuse_any (m : Msg) (i : Inst) : Ans Tryz.prog 185 #[.agg (MV m), .agg (NV i)] (.tuple #[.agg (MV (refM m i).out), .bool (refM m i).ok]) := by
 refine Ans.of_sts fun W => ?_
 have T := (((Sts.start0 W).new (MV m) 136).new (NV i) 70).new (MV noMsg) 136
 simp only [World.size_alloc] at T
 have r2 := T.row2; have l2 := row_lt r2
 have r3 := T.row1; have l3 := row_lt r3
 have HL := Lib.hid (Ans.at (less_any m.bal i.prom) T)
 clear T
 rcases refM_cases m i with ⟨hl, e0⟩ | ⟨hl, e0⟩
 ·rw [hl] at HL
  go_enter Tryz.func185, Tryz.ntmps185
  go_wp2_with fail
  refine HL.out.mono ?_
  clear HL r2 l2 r3 l3
  rintro e w1 ⟨rfl, T⟩
  generalize W.heap.size + 1 + 1 = g4 at *
  generalize W.heap.size + 1 = g3 at *
  generalize W.heap.size = g2 at *
  have r2 := T.row2; have l2 := row_lt r2
  have HB := Lib.hid (Ans.at (back_any m 8) T); clear T
  go_wp2_with fail
  refine HB.out.mono ?_
  clear HB r2 l2
  rintro e w2 ⟨rfl, T⟩
  have r3 := T.row1; have l3 := row_lt r3
  have r4 := T.row; have l4 := row_lt r4
  have T2 := (T.setRow (MV ⟨8, m.to, m.frm, m.item, i.prom, noBallot, 0, false, noCall⟩)).new (MV ⟨8, m.to, m.frm, m.item, i.prom, noBallot, 0, false, noCall⟩) 136
  have HT := Lib.hid T2; have E := Lib.hid e0; clear T T2 e0
  go_wp2
  refine ret_row_tmp (MV ⟨8, m.to, m.frm, m.item, i.prom, noBallot, 0, false, noCall⟩) (.bool true) TMsg_und rfl (by kernel_rfl) rfl rfl rfl rfl (TMsg_size _) HT.out.drop.row ⟨by rw [E.out], HT.out.nil⟩
 ·rw [hl] at HL
  go_enter Tryz.func185, Tryz.ntmps185
  go_wp2_with fail
  refine HL.out.mono ?_
  clear HL r2 l2 r3 l3
  rintro e w1 ⟨rfl, T⟩
  have r4 := T.row; have l4 := row_lt r4
  have T2 := T.setRow (MV noMsg)
  have HT := Lib.hid T2; have E := Lib.hid e0; clear T T2 e0
  go_wp2
  refine ret_row_tmp (MV noMsg) (.bool false) TMsg_und rfl (by kernel_rfl) rfl rfl rfl rfl (TMsg_size _) HT.out.row ⟨by rw [E.out]; rfl, HT.out.nil⟩
end Go.Proofs.YtomlilkobhkoiaaGreatDoor
/- Layer 15: what is known of an item goes into the space; the deps of a call, merged with a way. -/
namespace Go.Proofs.YtomlilkobhkoiaaGreatDoor
open Go.RowKit
set_option linter.unusedVariables false
set_option maxRecDepth 20000
attribute [local go_sem] row_alloc row_drew row_drewN row_ext row_setCell row_setRow size_ext setRow_alloc setRow_drew loadOf storeOf piece_lit loadVal_at storeVal_at allOne_lit buildOf buildRes_some
attribute [local go_sem high] cell_alloc frozen_alloc setCell_alloc cell_ext frozen_ext cell_setRow frozen_setRow
attribute [local go_sem ↓] TDeed_ld0 TDeed_st0 TDeed_fd0 TDeed_bd0
attribute [local go_sem] TDeed_size TDeed_one TDeed_piece TDeed_c0 TDeed_c1 TDeed_c2 TDeed_c3 TDeed_c4 TDeed_c5 TDeed_set_kind TDeed_set_key TDeed_set_val TDeed_set_ver TDeed_set_ses TDeed_set_num TDeed_ld TDeed_st TDeed_f_kind TDeed_f_key TDeed_f_val TDeed_f_ver TDeed_f_ses TDeed_f_num TDeed_bd TDeed_fl TDeed_fl_kind TDeed_fl_key TDeed_fl_val TDeed_fl_ver TDeed_fl_ses TDeed_fl_num
attribute [local go_sem high] TDeed_eql TDeed_neq
attribute [local go_sem ↓] index_deps0 load_deps0 store_deps0
attribute [local go_sem] DV_piece DV_size DV_one index_deps load_deps store_deps
attribute [local go_sem high] TDeps_eql TDeps_neq
attribute [local go_sem ↓] TCall_ld0 TCall_st0 TCall_fd0 TCall_bd0
attribute [local go_sem] TCall_size TCall_one TCall_piece TCall_c0 TCall_c1 TCall_c2 TCall_c3 TCall_c4 TCall_c5 TCall_c6 TCall_c7 TCall_c8 TCall_c9 TCall_c10 TCall_c11 TCall_c12 TCall_c13 TCall_p_deed TCall_put_deed TCall_p_deps TCall_put_deps TCall_set_seq TCall_ld TCall_st TCall_f_deed TCall_f_deps TCall_f_seq TCall_bd TCall_fl TCall_fl_deed TCall_fl_deps TCall_fl_seq
attribute [local go_sem high] TCall_eql TCall_neq
attribute [local go_sem ↓] TItem_ld0 TItem_st0 TItem_fd0 TItem_bd0
attribute [local go_sem] TItem_size TItem_one TItem_piece TItem_c0 TItem_c1 TItem_set_rep TItem_set_num TItem_ld TItem_st TItem_f_rep TItem_f_num TItem_bd TItem_fl TItem_fl_rep TItem_fl_num
attribute [local go_sem high] TItem_eql TItem_neq
attribute [local go_sem ↓] TBallot_ld0 TBallot_st0 TBallot_fd0 TBallot_bd0
attribute [local go_sem] TBallot_size TBallot_one TBallot_piece TBallot_c0 TBallot_c1 TBallot_set_round TBallot_set_rep TBallot_ld TBallot_st TBallot_f_round TBallot_f_rep TBallot_bd TBallot_fl TBallot_fl_round TBallot_fl_rep
attribute [local go_sem high] TBallot_eql TBallot_neq
attribute [local go_sem ↓] TInst_ld0 TInst_st0 TInst_fd0 TInst_bd0
attribute [local go_sem] TInst_size TInst_one TInst_piece TInst_c0 TInst_c1 TInst_c2 TInst_c3 TInst_c4 TInst_c5 TInst_c6 TInst_c7 TInst_c8 TInst_c9 TInst_c10 TInst_c11 TInst_c12 TInst_c13 TInst_c14 TInst_c15 TInst_c16 TInst_c17 TInst_c18 TInst_c19 TInst_p_prom TInst_put_prom TInst_p_vote TInst_put_vote TInst_set_status TInst_p_call TInst_put_call TInst_set_same TInst_ld TInst_st TInst_f_prom TInst_f_vote TInst_f_status TInst_f_call TInst_f_same TInst_bd TInst_fl TInst_fl_prom TInst_fl_vote TInst_fl_status TInst_fl_call TInst_fl_same
attribute [local go_sem high] TInst_eql TInst_neq
/-- By how much the room may be used. -/
noncomputable def growV (m : RowsM) (y : Item) (i : Inst) : Nat := if eqA (NV (atM m y)) (NV i) = true then 0 else 1
theorem growV_same {m : RowsM} {y : Item} {i : Inst} (h : atM m y = i) : growV m y i = 0 := by
 unfold growV; rw [h, if_pos (eqA_refl _)]
theorem growV_le (m : RowsM) (y : Item) (i : Inst) : growV m y i ≤ 1 := by unfold growV; split <;> omega
theorem VotI.same {n : Int} {k : Nat} {I : Idx} {D : List UInt8} {m : RowsM} (h : VotI n k I D m) {y : Item} {i : Inst} (e : atM m y = i) : VotI n (k + growV m y i) I D m := by
 rw [growV_same e]; exact h
theorem VotI.up {n : Int} {k j : Nat} {I : Idx} {D : List UInt8} {m : RowsM} (h : VotI n k I D m) (hj : k ≤ j) : VotI n j I D m := by
 obtain ⟨d, rfl⟩ := Nat.exists_eq_add_of_le hj
 clear hj
 induction d with
 | zero => exact h
 | succ d ih => exact ih.mono
set_option maxHeartbeats 4000000 in
theorem vknow {n : Int} {k : Nat} {I : Idx} {D : List UInt8} {m : RowsM} (hv : VotI n k I D m) (hk : k ≤ 100) {safe s lg p g bk bs : Nat} (x : Item) (was now : Inst) (hw : atM m x = was) (hx : goodI x n = true) (hi : goodN now n = true) {w W : World} {F : Nat → Prop} {R : List Res} (T : Sts w F W (spL s lg p g bk bs I D safe m ++ R)) :
  Calls Tryz.prog 152 #[.pointer (some ⟨s, 0, none⟩), .agg (IV x), .agg (NV was), .agg (NV now)] W fun e W' => e = .returned (.bool true) ∧ ∃ I' D' safe', VotI n (k + growV m x now) I' D' (nowR m x now) ∧ Sts w F W' (spL s lg p g bk bs I' D' safe' (nowR m x now) ++ R) := by
 have hsp := hv.sp
 have hkn := spKnowD s lg p g bk bs I hsp.idx (by have := hsp.N; omega) D safe m hsp.ok hsp.good hsp.len x now
 obtain ⟨e1, e2, e3⟩ := hv.know hk safe hx hi
 rw [e1, e2] at hkn
 have en : nowR m x now = if eqA (NV was) (NV now) = true then m else setM m x now := by unfold nowR; rw [hw]
 have T1 : Sts w F W (idxR s lg bk bs I :: rowR lg (ledCells p g m.n) :: plR p D safe :: rowsIR g m :: R) := T
 have T2 := (((T1.new (IV x) 33).new (NV was) 70).new (NV now) 70).ord [3, 4, 5, 6, 0, 1, 2]
 simp only [World.size_alloc] at T2
 have r3 := (T2.ord [4, 0, 1, 2, 3, 5, 6]).row; have l3 := row_lt r3
 have r2 := (T2.ord [5, 0, 1, 2, 3, 4, 6]).row; have l2 := row_lt r2
 have r1 := (T2.ord [6, 0, 1, 2, 3, 4, 5]).row; have l1 := row_lt r1
 have HV := Lib.hid hv; have HT := Lib.hid T2; have HKN := Lib.hid hkn; have HE := Lib.hid en; have H3 := Lib.hid e3; have HW := Lib.hid hw
 clear hv T T1 T2 hkn en e3 e1 e2 hsp hw hx hi
 cases hq : eqA (NV was) (NV now)
 case true =>
  go_enter Tryz.func152, Tryz.ntmps152
  go_wp2
  go_ret
  have en : nowR m x now = m := by rw [HE.out, if_pos hq]
  rw [en]
  have T9 := (HT.out.ord [4, 5, 6, 0, 1, 2, 3]).drop.drop.drop
  have eg : growV m x now = 0 := by unfold growV; rw [HW.out, if_pos hq]
  rw [eg]
  exact ⟨rfl, I, D, safe, HV.out, T9⟩
 case false =>
  go_enter Tryz.func152, Tryz.ntmps152
  go_wp2_with fail
  refine (Does.at (R := _ :: _ :: _ :: R) HKN.out HT.out).mono ?_
  clear HKN HT r3 l3 r2 l2 r1 l1
  rintro e w4 ⟨rfl, T⟩
  have T : Sts w F w4 (idxR s lg bk bs (knowI I D safe m x now) :: rowR lg (ledCells p g (setM m x now).n) :: plR p (addM D safe m x now).1 (addM D safe m x now).2.1 :: rowsIR g (setM m x now) :: rowR (W.heap.size + 1 + 1) (NV now) :: rowR (W.heap.size + 1) (NV was) :: rowR W.heap.size (IV x) :: R) := T
  have HT := Lib.hid T; clear T
  go_wp2
  go_ret
  have en : nowR m x now = setM m x now := by rw [HE.out, if_neg (by simp [hq])]
  rw [en]
  have T9 := (HT.out.ord [4, 5, 6, 0, 1, 2, 3]).drop.drop.drop
  have eg : growV m x now = 1 := by unfold growV; rw [HW.out, if_neg (by simp [hq])]
  rw [eg]
  exact ⟨rfl, _, _, _, H3.out, T9⟩
end Go.Proofs.YtomlilkobhkoiaaGreatDoor
/- Layer 14: a lead, new. -/
namespace Go.Proofs.YtomlilkobhkoiaaGreatDoor
open Go.RowKit
set_option linter.unusedVariables false
set_option maxRecDepth 20000
attribute [local go_sem] row_alloc row_drew row_drewN row_ext row_setCell row_setRow size_ext setRow_alloc setRow_drew loadOf storeOf piece_lit loadVal_at storeVal_at allOne_lit buildOf buildRes_some
attribute [local go_sem high] cell_alloc frozen_alloc setCell_alloc cell_ext frozen_ext cell_setRow frozen_setRow
attribute [local go_sem ↓] TItem_ld0 TItem_st0 TItem_fd0 TItem_bd0
attribute [local go_sem] TItem_size TItem_one TItem_piece TItem_c0 TItem_c1 TItem_set_rep TItem_set_num TItem_ld TItem_st TItem_f_rep TItem_f_num TItem_bd TItem_fl TItem_fl_rep TItem_fl_num
attribute [local go_sem high] TItem_eql TItem_neq
attribute [local go_sem ↓] TBallot_ld0 TBallot_st0 TBallot_fd0 TBallot_bd0
attribute [local go_sem] TBallot_size TBallot_one TBallot_piece TBallot_c0 TBallot_c1 TBallot_set_round TBallot_set_rep TBallot_ld TBallot_st TBallot_f_round TBallot_f_rep TBallot_bd TBallot_fl TBallot_fl_round TBallot_fl_rep
attribute [local go_sem high] TBallot_eql TBallot_neq
attribute [local go_sem ↓] TCall_ld0 TCall_st0 TCall_fd0 TCall_bd0
attribute [local go_sem] TCall_size TCall_one TCall_piece TCall_c0 TCall_c1 TCall_c2 TCall_c3 TCall_c4 TCall_c5 TCall_c6 TCall_c7 TCall_c8 TCall_c9 TCall_c10 TCall_c11 TCall_c12 TCall_c13 TCall_p_deed TCall_put_deed TCall_p_deps TCall_put_deps TCall_set_seq TCall_ld TCall_st TCall_f_deed TCall_f_deps TCall_f_seq TCall_bd TCall_fl TCall_fl_deed TCall_fl_deps TCall_fl_seq
attribute [local go_sem high] TCall_eql TCall_neq
attribute [local go_sem ↓] TDeed_ld0 TDeed_st0 TDeed_fd0 TDeed_bd0
attribute [local go_sem] TDeed_size TDeed_one TDeed_piece TDeed_c0 TDeed_c1 TDeed_c2 TDeed_c3 TDeed_c4 TDeed_c5 TDeed_set_kind TDeed_set_key TDeed_set_val TDeed_set_ver TDeed_set_ses TDeed_set_num TDeed_ld TDeed_st TDeed_f_kind TDeed_f_key TDeed_f_val TDeed_f_ver TDeed_f_ses TDeed_f_num TDeed_bd TDeed_fl TDeed_fl_kind TDeed_fl_key TDeed_fl_val TDeed_fl_ver TDeed_fl_ses TDeed_fl_num
attribute [local go_sem high] TDeed_eql TDeed_neq
attribute [local go_sem ↓] index_deps0 load_deps0 store_deps0
attribute [local go_sem] DV_piece DV_size DV_one index_deps load_deps store_deps
attribute [local go_sem high] TDeps_eql TDeps_neq
attribute [local go_sem ↓] TMsg_ld0 TMsg_st0 TMsg_fd0 TMsg_bd0
attribute [local go_sem] TMsg_size TMsg_one TMsg_piece TMsg_c0 TMsg_c1 TMsg_c2 TMsg_c3 TMsg_c4 TMsg_c5 TMsg_c6 TMsg_c7 TMsg_c8 TMsg_c9 TMsg_c10 TMsg_c11 TMsg_c12 TMsg_c13 TMsg_c14 TMsg_c15 TMsg_c16 TMsg_c17 TMsg_c18 TMsg_c19 TMsg_c20 TMsg_c21 TMsg_c22 TMsg_c23 TMsg_c24 TMsg_set_kind TMsg_set_frm TMsg_set_to TMsg_p_item TMsg_put_item TMsg_p_bal TMsg_put_bal TMsg_p_vote TMsg_put_vote TMsg_set_status TMsg_set_same TMsg_p_call TMsg_put_call TMsg_ld TMsg_st TMsg_f_kind TMsg_f_frm TMsg_f_to TMsg_f_item TMsg_f_bal TMsg_f_vote TMsg_f_status TMsg_f_same TMsg_f_call TMsg_bd TMsg_fl TMsg_fl_kind TMsg_fl_frm TMsg_fl_to TMsg_fl_item TMsg_fl_bal TMsg_fl_vote TMsg_fl_status TMsg_fl_same TMsg_fl_call
attribute [local go_sem high] TMsg_eql TMsg_neq
/-- What nobody has said. -/
def noVotes : Array Value := (List.replicate 7 (MV noMsg)).foldl (· ++ ·) #[] ++ Array.replicate 7 (.bool false) ++ #[.int .i64 0] ++ Array.replicate 14 (.bool false) ++ #[.int .i64 0]
def ldH (n self : Int) (x : Item) (b : Ballot) (c : Call) (ph : Int) : Array Value := #[.int .i64 n, .int .i64 self, .int .i64 x.rep, .int .i64 x.num, .int .i64 b.round, .int .i64 b.rep, .int .i64 c.deed.kind, .string c.deed.key, .string c.deed.val, .int .i64 c.deed.ver, .int .i64 c.deed.ses, .int .i64 c.deed.num, .int .i64 (c.deps 0), .int .i64 (c.deps 1), .int .i64 (c.deps 2), .int .i64 (c.deps 3), .int .i64 (c.deps 4), .int .i64 (c.deps 5), .int .i64 (c.deps 6), .int .i64 c.seq, .int .i64 ph]
theorem ldH_size (n self : Int) (x : Item) (b : Ballot) (c : Call) (ph : Int) : (ldH n self x b c ph).size = 21 := rfl
def ldC (n self : Int) (x : Item) (b : Ballot) (c : Call) (ph : Int) (V : Array Value) : Array Value := ldH n self x b c ph ++ V
def ldS (p : Array (Nat × Value)) : Sem Value := Instr.build 144 p
theorem ld_bd0 (p : Array (Nat × Value)) : Instr.build 144 p = ldS p := rfl
set_option maxHeartbeats 4000000 in
theorem ld_bd (n self : Int) (x : Item) (b : Ballot) (c : Call) (w : World) : (ldS #[(0, .int .i64 n), (1, .int .i64 self), (2, .agg (IV x)), (3, .agg (BV b)), (4, .agg (CV c)), (5, .int .i64 1)]).run Tryz.prog w = .ok (.agg (ldC n self x b c 1 noVotes)) w := by kernel_rfl
theorem ld_size (n self : Int) (x : Item) (b : Ballot) (c : Call) (ph : Int) (V : Array Value) : (ldC n self x b c ph V).size = 21 + V.size := by
 unfold ldC
 rw [Array.size_append, ldH_size]
attribute [local go_sem ↓] ld_bd0
attribute [local go_sem] ld_bd
section
variable {w W : World} {F : Nat → Prop} {R : List Res}
set_option maxHeartbeats 4000000 in
theorem ldNewT (n self : Int) (x : Item) (b : Ballot) (c : Call) (T : Sts w F W R) :
  Calls Tryz.prog 23 #[.int .i64 n, .int .i64 self, .agg (IV x), .agg (BV b), .agg (CV c), .int .i64 1] W fun e W' => ∃ g, e = .returned (.pointer (some ⟨g, 0, none⟩)) ∧ Sts w F W' (rowR g (ldC n self x b c 1 noVotes) :: R) := by
 have T3 := ((T.new (IV x) 33).new (BV b) 64).new (CV c) 68
 simp only [World.size_alloc] at T3
 have r2 := T3.row; have l2 := row_lt r2; have r1 := T3.row1; have l1 := row_lt r1; have r0 := T3.row2; have l0 := row_lt r0
 have HT := Lib.hid T3.drop.drop.drop; clear T T3
 go_enter Tryz.func23, Tryz.ntmps23
 go_wp2
 go_ret
 have T4 := HT.out.new (ldC n self x b c 1 noVotes) 144
 simp only [World.size_alloc] at T4
 exact ⟨_, rfl, T4⟩
/-! its cells -/
variable (n self : Int) (x : Item) (b : Ballot) (c : Call) (ph : Int) (V : Array Value)
theorem ld_c0 : (ldC n self x b c ph V)[0]? = some (.int .i64 n) := by unfold ldC; rw [Array.getElem?_append_left (by rw [ldH_size]; omega)]; rfl
theorem ld_c1 : (ldC n self x b c ph V)[1]? = some (.int .i64 self) := by unfold ldC; rw [Array.getElem?_append_left (by rw [ldH_size]; omega)]; rfl
theorem ld_c2 : (ldC n self x b c ph V)[2]? = some (.int .i64 x.rep) := by unfold ldC; rw [Array.getElem?_append_left (by rw [ldH_size]; omega)]; rfl
theorem ld_c20 : (ldC n self x b c ph V)[20]? = some (.int .i64 ph) := by unfold ldC; rw [Array.getElem?_append_left (by rw [ldH_size]; omega)]; rfl
theorem ld_item : piece (ldC n self x b c ph V) 2 2 = IV x := by
 unfold ldC ldH piece
 simp [IV]
theorem ld_bal : piece (ldC n self x b c ph V) 4 2 = BV b := by
 unfold ldC ldH piece
 simp [BV]
theorem ld_call : piece (ldC n self x b c ph V) 6 14 = CV c := by
 unfold ldC ldH piece
 simp [CV]
theorem ld_v (j : Nat) : (ldC n self x b c ph V)[21 + j]? = V[j]? := by
 unfold ldC
 rw [Array.getElem?_append_right (by rw [ldH_size]; omega), ldH_size, Nat.add_sub_cancel_left]
end
end Go.Proofs.YtomlilkobhkoiaaGreatDoor
