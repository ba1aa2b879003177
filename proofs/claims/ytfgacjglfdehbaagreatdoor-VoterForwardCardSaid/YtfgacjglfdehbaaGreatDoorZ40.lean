/- Several texts in one. -/
import Derived.Test.YtfgacjglfdehbaaGreatDoorZ39
import Derived.Test.YtfgacjglfdehbaaGreatDoorZ24
import Derived.Test.YtfgacjglfdehbaaGreatDoorZ5
import Derived.Deep.LoopGhost
/- Layer 7: whether a message can be, in the document's words: the cases. Printed by rmailgood.py. -/
namespace Go.Proofs.YtfgacjglfdehbaaGreatDoor
open Go.RowKit
set_option linter.unusedVariables false
attribute [local go_sem] row_alloc row_drew row_drewN row_ext row_setCell row_setRow size_ext setRow_alloc setRow_drew loadOf storeOf piece_lit loadVal_at storeVal_at allOne_lit buildOf buildRes_some
attribute [local go_sem high] cell_alloc frozen_alloc setCell_alloc cell_ext frozen_ext cell_setRow frozen_setRow
attribute [local go_sem ↓] TDeed_ld0 TDeed_st0 TDeed_fd0 TDeed_bd0
attribute [local go_sem] TDeed_size TDeed_one TDeed_piece TDeed_c0 TDeed_c1 TDeed_c2 TDeed_c3 TDeed_c4 TDeed_c5 TDeed_set_kind TDeed_set_key TDeed_set_val TDeed_set_ver TDeed_set_ses TDeed_set_num TDeed_ld TDeed_st TDeed_f_kind TDeed_f_key TDeed_f_val TDeed_f_ver TDeed_f_ses TDeed_f_num TDeed_bd TDeed_fl TDeed_fl_kind TDeed_fl_key TDeed_fl_val TDeed_fl_ver TDeed_fl_ses TDeed_fl_num
attribute [local go_sem high] TDeed_eql TDeed_neq
attribute [local go_sem ↓] index_deps0 load_deps0 store_deps0
attribute [local go_sem] DV_piece DV_size DV_one index_deps load_deps store_deps
attribute [local go_sem high] TDeps_eql TDeps_neq
attribute [local go_sem ↓] TCall_ld0 TCall_st0 TCall_fd0 TCall_bd0
attribute [local go_sem] TCall_size TCall_one TCall_piece TCall_c0 TCall_c1 TCall_c2 TCall_c3 TCall_c4 TCall_c5 TCall_c6 TCall_c7 TCall_c8 TCall_c9 TCall_c10 TCall_c11 TCall_c12 TCall_c13 TCall_p_deed TCall_put_deed TCall_p_deps TCall_put_deps TCall_set_seq TCall_ld TCall_st TCall_f_deed TCall_f_deps TCall_f_seq TCall_bd TCall_fl TCall_fl_deed TCall_fl_deps TCall_fl_seq
attribute [local go_sem high] TCall_eql TCall_neq
attribute [local go_sem ↓] TItem_ld0 TItem_st0 TItem_fd0 TItem_bd0
attribute [local go_sem] TItem_size TItem_one TItem_piece TItem_c0 TItem_c1 TItem_set_rep TItem_set_num TItem_ld TItem_st TItem_f_rep TItem_f_num TItem_bd TItem_fl TItem_fl_rep TItem_fl_num
attribute [local go_sem high] TItem_eql TItem_neq
attribute [local go_sem ↓] TBallot_ld0 TBallot_st0 TBallot_fd0 TBallot_bd0
attribute [local go_sem] TBallot_size TBallot_one TBallot_piece TBallot_c0 TBallot_c1 TBallot_set_round TBallot_set_rep TBallot_ld TBallot_st TBallot_f_round TBallot_f_rep TBallot_bd TBallot_fl TBallot_fl_round TBallot_fl_rep
attribute [local go_sem high] TBallot_eql TBallot_neq
attribute [local go_sem ↓] TMsg_ld0 TMsg_st0 TMsg_fd0 TMsg_bd0
attribute [local go_sem] TMsg_size TMsg_one TMsg_piece TMsg_c0 TMsg_c1 TMsg_c2 TMsg_c3 TMsg_c4 TMsg_c5 TMsg_c6 TMsg_c7 TMsg_c8 TMsg_c9 TMsg_c10 TMsg_c11 TMsg_c12 TMsg_c13 TMsg_c14 TMsg_c15 TMsg_c16 TMsg_c17 TMsg_c18 TMsg_c19 TMsg_c20 TMsg_c21 TMsg_c22 TMsg_c23 TMsg_c24 TMsg_set_kind TMsg_set_frm TMsg_set_to TMsg_p_item TMsg_put_item TMsg_p_bal TMsg_put_bal TMsg_p_vote TMsg_put_vote TMsg_set_status TMsg_set_same TMsg_p_call TMsg_put_call TMsg_ld TMsg_st TMsg_f_kind TMsg_f_frm TMsg_f_to TMsg_f_item TMsg_f_bal TMsg_f_vote TMsg_f_status TMsg_f_same TMsg_f_call TMsg_bd TMsg_fl TMsg_fl_kind TMsg_fl_frm TMsg_fl_to TMsg_fl_item TMsg_fl_bal TMsg_fl_vote TMsg_fl_status TMsg_fl_same TMsg_fl_call
attribute [local go_sem high] TMsg_eql TMsg_neq
attribute [local simp] size_ext
set_option maxHeartbeats 40000000 in
set_option maxRecDepth 100000 in
theorem rmailGood5 (m : Msg) (n : Int) (h0 : 1 ≤ m.kind ∧ m.kind ≤ 8 ∧ 0 ≤ m.frm ∧ m.frm < n ∧ 0 ≤ m.to ∧ m.to < n) (hI : goodI m.item n = true) (hB : goodBal m.bal n = true) (hcb : callsB m.kind = true) (hgc : goodC m.call n = false) : Ans Tryz.prog 10 #[.agg (MV m), .int .i64 n] (.bool (goodM m n)) := by
  intro W
  obtain ⟨q1, q2, q3, q4, q5, q6⟩ := id h0
  have h0d := decide_eq_true h0
  have hg : goodM m n = false := by unfold goodM noVote noC; simp [*]
  rw [hg]; clear hg h0 h0d
  go_enter Tryz.func10, Tryz.ntmps10
  go_wp2_with (first | (go_at_call 28; refine ((ritemGood_any _ _).go _).mono ?_; rintro e w1 ⟨rfl, x1, rfl⟩) | (go_at_call 29; refine ((rbalGood_any _ _).go _).mono ?_; rintro e w1 ⟨rfl, x1, rfl⟩) | (go_at_call 31; refine ((rgoodC_any _ _).go _).mono ?_; rintro e w1 ⟨rfl, x1, rfl⟩) | (go_at_call 30; refine ((rcalls_any _).go _).mono ?_; rintro e w1 ⟨rfl, x1, rfl⟩))
  all_goals first | (exfalso; omega) | (go_ret; exact ⟨rfl, by repeat (first | exact Below.refl _ _ | refine below_extM ?_ (by simp; try omega) _ | refine below_allocM ?_ _ (by simp; try omega))⟩)
set_option maxHeartbeats 4000000 in
set_option maxRecDepth 100000 in
theorem rmailGood_out (m : Msg) (n : Int) (h0 : ¬ (1 ≤ m.kind ∧ m.kind ≤ 8 ∧ 0 ≤ m.frm ∧ m.frm < n ∧ 0 ≤ m.to ∧ m.to < n)) : Ans Tryz.prog 10 #[.agg (MV m), .int .i64 n] (.bool (goodM m n)) := by
  intro W
  have hg : goodM m n = false := by unfold goodM; rw [decide_eq_false h0]; simp
  rw [hg]
  clear hg
  go_enter Tryz.func10, Tryz.ntmps10
  go_wp2_with fail
  all_goals first
    | (go_ret
       exact ⟨rfl, (Below.refl _ _).alloc (Nat.le_refl _) _⟩)
    | (exfalso; omega)
theorem rmailGood_any (m : Msg) (n : Int) : Ans Tryz.prog 10 #[.agg (MV m), .int .i64 n] (.bool (goodM m n)) := by
  by_cases h0 : 1 ≤ m.kind ∧ m.kind ≤ 8 ∧ 0 ≤ m.frm ∧ m.frm < n ∧ 0 ≤ m.to ∧ m.to < n
  case neg => exact rmailGood_out m n h0
  cases hI : goodI m.item n
  case false => exact rmailGood0 m n h0 (.inl hI)
  cases hB : goodBal m.bal n
  case false => exact rmailGood0 m n h0 (.inr ⟨hI, hB⟩)
  cases hcb : callsB m.kind
  case false => exact rmailGood1 m n h0 hI hB hcb
  cases hgc : goodC m.call n
  case false => exact rmailGood5 m n h0 hI hB hcb hgc
  cases hkb : knownB m.kind
  case false => exact rmailGood2 m n h0 hI hB hcb hgc hkb
  cases hst : m.status == 0
  case false => exact rmailGood3 m n h0 hI hB hcb hgc hkb hst
  case true => exact rmailGood4 m n h0 hI hB hcb hgc hkb hst
end Go.Proofs.YtfgacjglfdehbaaGreatDoor
/- A return behind many loops over iterators. Nothing of the program stands here. -/
namespace Go.Proofs.YtfgacjglfdehbaaGreatDoor
open Go.RowKit Go.Shelf
set_option linter.unusedVariables false
def collD (D : Nat) : Deferred := { target := .collected D, args := #[] }
def markR (D : Nat) : Res := objR D (.deferred (some []))
/-- The marks that loops over iterators have left. -/
def marksR (Ds : List Nat) : Res := packR (Ds.map markR)
section
variable {P : Program} {fn : Func} {n : Nat} {w W : World} {F : Nat → Prop} {R : List Res}
theorem Sts.marksNil (T : Sts w F W R) : Sts w F W (marksR [] :: R) := Sts.pack (L := []) T
theorem Sts.marksCons {D : Nat} {Ds : List Nat} (T : Sts w F W (objR D (.deferred (some [])) :: marksR Ds :: R)) : Sts w F W (marksR (D :: Ds) :: R) := by
  have T2 := (T.perm (List.Perm.swap _ _ _)).unpack
  refine Sts.pack (L := (D :: Ds).map markR) ?_
  exact T2.perm List.perm_middle
theorem leavesMs {tmps : Array Value} {Q : Ending → World → Prop} {v : Value} (hr : ∀ W', Sts w F W' R → (results fn tmps).run P W' = .ok v W' ∧ Q (.returned v) W') : ∀ (Ds : List Nat) (W : World), Sts w F W (Ds.map markR ++ R) → LeavesInM Fence.wide n P fn tmps Q (Ds.map collD) .returning W
  | [], W, T => by
    obtain ⟨h1, h2⟩ := hr W T
    exact ⟨v, h1, h2⟩
  | D :: Ds, W, T => by
    have T : Sts w F W (objR D (.deferred (some [])) :: (Ds.map markR ++ R)) := T
    have hD := T.obj
    exact ⟨by simp, .inl ⟨D, W.putObj D (.deferred none), rfl, run_takeDeferred hD, leavesMs hr Ds _ (T.putObj (.deferred none)).drop⟩⟩
/-- A return behind many marks. -/
theorem retMs {a : Act} {Q : Ending → World → Prop} {v : Value} {Ds : List Nat} (T : Sts w F W (marksR Ds :: R)) (hr : ∀ W', Sts w F W' R → (results fn a.tmps).run P W' = .ok v W' ∧ Q (.returned v) W') (hd : a.defers = Ds.map collD) : bodyPostM Fence.wide n P fn Q .ret a W := by
  show LeavesInM _ _ _ _ _ _ a.defers _ _
  rw [hd]
  exact leavesMs hr Ds W T.unpack
end
end Go.Proofs.YtfgacjglfdehbaaGreatDoor
