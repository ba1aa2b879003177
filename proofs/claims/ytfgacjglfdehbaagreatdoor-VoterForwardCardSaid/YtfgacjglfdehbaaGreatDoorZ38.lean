/- Several texts in one. -/
import Derived.Test.YtfgacjglfdehbaaGreatDoorZ37
import Derived.Test.YtfgacjglfdehbaaGreatDoorZ28
import Derived.Test.YtfgacjglfdehbaaGreatDoorZ31
import Derived.Test.YtfgacjglfdehbaaGreatDoorZ30
import Derived.Test.YtfgacjglfdehbaaGreatDoorZ22
import Derived.Test.YtfgacjglfdehbaaGreatDoorZ15
import Derived.Test.YtfgacjglfdehbaaGreatDoorZ27
/- Layer 15: what the document tells. -/
namespace Go.Proofs.YtfgacjglfdehbaaGreatDoor
open Go.RowKit
set_option linter.unusedVariables false
set_option maxRecDepth 20000
attribute [local go_sem] row_alloc row_drew row_drewN row_ext row_setCell row_setRow size_ext setRow_alloc setRow_drew loadOf storeOf piece_lit loadVal_at storeVal_at allOne_lit buildOf buildRes_some
attribute [local go_sem high] cell_alloc frozen_alloc setCell_alloc cell_ext frozen_ext cell_setRow frozen_setRow
attribute [local go_sem ↓] TDeed_ld0 TDeed_st0 TDeed_fd0 TDeed_bd0
attribute [local go_sem] TDeed_size TDeed_one TDeed_piece TDeed_c0 TDeed_c1 TDeed_c2 TDeed_c3 TDeed_c4 TDeed_c5 TDeed_set_kind TDeed_set_key TDeed_set_val TDeed_set_ver TDeed_set_ses TDeed_set_num TDeed_ld TDeed_st TDeed_f_kind TDeed_f_key TDeed_f_val TDeed_f_ver TDeed_f_ses TDeed_f_num TDeed_bd TDeed_fl TDeed_fl_kind TDeed_fl_key TDeed_fl_val TDeed_fl_ver TDeed_fl_ses TDeed_fl_num
attribute [local go_sem high] TDeed_eql TDeed_neq
attribute [local go_sem ↓] index_deps0 load_deps0 store_deps0
attribute [local go_sem] DV_piece DV_size DV_one index_deps load_deps store_deps
attribute [local go_sem high] TDeps_eql TDeps_neq
attribute [local go_sem ↓] TCall_ld0 TCall_st0 TCall_fd0 TCall_bd0
attribute [local go_sem] TCall_size TCall_one TCall_piece TCall_c0 TCall_c1 TCall_c2 TCall_c3 TCall_c4 TCall_c5 TCall_c6 TCall_c7 TCall_c8 TCall_c9 TCall_c10 TCall_c11 TCall_c12 TCall_c13 TCall_p_deed TCall_put_deed TCall_p_deps TCall_put_deps TCall_set_seq TCall_ld TCall_st TCall_f_deed TCall_f_deps TCall_f_seq TCall_bd TCall_fl TCall_fl_deed TCall_fl_deps TCall_fl_seq
attribute [local go_sem high] TCall_eql TCall_neq
attribute [local go_sem ↓] TItem_ld0 TItem_st0 TItem_fd0 TItem_bd0
attribute [local go_sem] TItem_size TItem_one TItem_piece TItem_c0 TItem_c1 TItem_set_rep TItem_set_num TItem_ld TItem_st TItem_f_rep TItem_f_num TItem_bd TItem_fl TItem_fl_rep TItem_fl_num
attribute [local go_sem high] TItem_eql TItem_neq
attribute [local go_sem ↓] TBallot_ld0 TBallot_st0 TBallot_fd0 TBallot_bd0
attribute [local go_sem] TBallot_size TBallot_one TBallot_piece TBallot_c0 TBallot_c1 TBallot_set_round TBallot_set_rep TBallot_ld TBallot_st TBallot_f_round TBallot_f_rep TBallot_bd TBallot_fl TBallot_fl_round TBallot_fl_rep
attribute [local go_sem high] TBallot_eql TBallot_neq
attribute [local go_sem ↓] TInst_ld0 TInst_st0 TInst_fd0 TInst_bd0
attribute [local go_sem] TInst_size TInst_one TInst_piece TInst_c0 TInst_c1 TInst_c2 TInst_c3 TInst_c4 TInst_c5 TInst_c6 TInst_c7 TInst_c8 TInst_c9 TInst_c10 TInst_c11 TInst_c12 TInst_c13 TInst_c14 TInst_c15 TInst_c16 TInst_c17 TInst_c18 TInst_c19 TInst_p_prom TInst_put_prom TInst_p_vote TInst_put_vote TInst_set_status TInst_p_call TInst_put_call TInst_set_same TInst_ld TInst_st TInst_f_prom TInst_f_vote TInst_f_status TInst_f_call TInst_f_same TInst_bd TInst_fl TInst_fl_prom TInst_fl_vote TInst_fl_status TInst_fl_call TInst_fl_same
attribute [local go_sem high] TInst_eql TInst_neq
attribute [local go_sem ↓] TMsg_ld0 TMsg_st0 TMsg_fd0 TMsg_bd0
attribute [local go_sem] TMsg_size TMsg_one TMsg_piece TMsg_c0 TMsg_c1 TMsg_c2 TMsg_c3 TMsg_c4 TMsg_c5 TMsg_c6 TMsg_c7 TMsg_c8 TMsg_c9 TMsg_c10 TMsg_c11 TMsg_c12 TMsg_c13 TMsg_c14 TMsg_c15 TMsg_c16 TMsg_c17 TMsg_c18 TMsg_c19 TMsg_c20 TMsg_c21 TMsg_c22 TMsg_c23 TMsg_c24 TMsg_set_kind TMsg_set_frm TMsg_set_to TMsg_p_item TMsg_put_item TMsg_p_bal TMsg_put_bal TMsg_p_vote TMsg_put_vote TMsg_set_status TMsg_set_same TMsg_p_call TMsg_put_call TMsg_ld TMsg_st TMsg_f_kind TMsg_f_frm TMsg_f_to TMsg_f_item TMsg_f_bal TMsg_f_vote TMsg_f_status TMsg_f_same TMsg_f_call TMsg_bd TMsg_fl TMsg_fl_kind TMsg_fl_frm TMsg_fl_to TMsg_fl_item TMsg_fl_bal TMsg_fl_vote TMsg_fl_status TMsg_fl_same TMsg_fl_call
attribute [local go_sem high] TMsg_eql TMsg_neq
def aliveM : Msg := ⟨6, 0, 1, ⟨0, 1⟩, ⟨1, 0⟩, noBallot, 0, false, noCall⟩
theorem VotI.open {n : Int} (hs : sizeB n = true) : VotI n 0 (idxF (ents (mK n (goT n [])))) (openD n []) (mK n (goT n [])) := by
  refine ⟨SpI.open (sizeB_n hs) (by simp) 0, ?_, ?_⟩
  · simp [openD, goT_nil]
  · unfold sizeB at hs; simp at hs; omega
theorem alive_good : goodM aliveM 3 = true := by
  have h1 : noC aliveM = true := by unfold noC; exact eqA_refl _
  have h2 : noVote aliveM = true := by unfold noVote; exact eqA_refl _
  have h3 : knownB aliveM.kind = false := by decide
  have h4 : callsB aliveM.kind = false := by decide
  unfold goodM
  rw [h1, h2, h3, h4]
  decide
theorem alive_ans : ansM ⟨3, fun _ => []⟩ 1 aliveM = ⟨⟨7, 1, 0, ⟨0, 1⟩, ⟨1, 0⟩, noBallot, 0, false, noCall⟩, true, ⟨⟨1, 0⟩, noBallot, 0, noCall, false⟩⟩ := by
  have ha : atM ⟨3, fun _ => []⟩ aliveM.item = noInst := rfl
  unfold ansM
  rw [if_neg (by rintro (h | h) <;> first | exact h rfl | (rw [show goodM aliveM (RowsM.mk 3 fun _ => []).n = true from alive_good] at h; cases h)), ha]
  rfl
set_option maxHeartbeats 4000000 in
theorem alive15 {t : TypeId} {w W : World} {F : Nat → Prop} {R : List Res} (T : Sts w F W (kndR t :: R)) : Calls Tryz.prog 4 #[] W fun e W' => e = .returned (.bool true) ∧ Sts w F W' (kndR t :: R) := by
  go_enter Tryz.func4, Tryz.ntmps4
  go_wp2_with fail
  refine (newT T).mono ?_
  clear T
  rintro e w1 ⟨rfl, T⟩
  go_wp2_with fail
  refine (spOpenT T (by simp) 3 rfl).mono ?_
  clear T
  rintro e w2 ⟨s, lg, g, bk, bs, rfl, T⟩
  rw [goT_nil] at T
  generalize W.heap.size = p at *
  have T : Sts w F w2 (spL s lg p g bk bs idx0 [] 0 ⟨3, fun _ => []⟩ ++ kndR t :: R) := by
    have h : ents ⟨3, fun _ => []⟩ = [] := ents_nil (by omega)
    have T := T
    rw [show mK 3 [] = ⟨3, fun _ => []⟩ from rfl, h] at T
    exact T
  have hv : VotI 3 0 idx0 [] ⟨3, fun _ => []⟩ := by
    have h := VotI.open (n := 3) rfl
    rw [goT_nil, show mK 3 [] = ⟨3, fun _ => []⟩ from rfl, show ents ⟨3, fun _ => []⟩ = [] from ents_nil (by omega), show openD 3 [] = [] by simp [openD, goT_nil]] at h
    exact h
  have HA := Lib.hid (vans hv (by omega) 1 aliveM T); clear T hv
  go_wp2_with fail
  refine HA.out.mono ?_
  clear HA
  rintro e w3 ⟨rfl, I', D', safe', -, T⟩
  rw [alive_ans] at T ⊢
  have T1 := T.drop.drop.drop.drop
  have HT := Lib.hid (T1.new (MV ⟨7, 1, 0, ⟨0, 1⟩, ⟨1, 0⟩, noBallot, 0, false, noCall⟩) 42).drop; clear T T1
  go_wp2
  go_ret
  exact ⟨rfl, HT.out⟩
end Go.Proofs.YtfgacjglfdehbaaGreatDoor
/- Layer 7: calls that answer in each world that bears the kinds. -/
namespace Go.Proofs.YtfgacjglfdehbaaGreatDoor
open Go.RowKit
set_option linter.unusedVariables false
/-- A call that answers in each world that bears the kinds. -/
def AnsL (f : FuncId) (args : Array Value) (v : Value) : Prop := ∀ (t : TypeId) (W : World), W.heap[0]? = some (.cells KndV t (0, 0)) → Calls Tryz.prog f args W fun e W' => e = .returned v ∧ Below W.heap.size W W'
theorem AnsL.of_sts {f : FuncId} {args : Array Value} {v : Value} (h : ∀ (t : TypeId) (w : World), w.heap[0]? = some (.cells KndV t (0, 0)) → Calls Tryz.prog f args w fun e W' => e = .returned v ∧ Sts w (fun k => k = 0) W' [kndR t]) : AnsL f args v := fun t W h0 => (h t W h0).mono fun e W' ⟨he, hS⟩ => ⟨he, hS.belowK h0⟩
theorem AnsL.at {t : TypeId} {f : FuncId} {args : Array Value} {v : Value} {w W : World} {F : Nat → Prop} {L : List Res} (h : AnsL f args v) (T : Sts w F W (kndR t :: L)) : Calls Tryz.prog f args W fun e W' => e = .returned v ∧ Sts w F W' (kndR t :: L) := by
  obtain ⟨_, ha⟩ := T.at0
  exact (h t W ha.2).mono fun _ _ ⟨he, hb⟩ => ⟨he, T.pure hb⟩
end Go.Proofs.YtfgacjglfdehbaaGreatDoor
/- VoterNacks: a refusal tells of a greater ballot than the one that was asked for, the one that is promised, and changes nothing. -/
namespace Go.Proofs.YtfgacjglfdehbaaGreatDoor
open Go.RowKit
set_option linter.unusedVariables false
set_option maxRecDepth 20000
attribute [local go_sem] row_alloc row_drew row_drewN row_ext row_setCell row_setRow size_ext setRow_alloc setRow_drew loadOf storeOf piece_lit loadVal_at storeVal_at allOne_lit buildOf buildRes_some
attribute [local go_sem high] cell_alloc frozen_alloc setCell_alloc cell_ext frozen_ext cell_setRow frozen_setRow
attribute [local go_sem ↓] TDeed_ld0 TDeed_st0 TDeed_fd0 TDeed_bd0
attribute [local go_sem] TDeed_size TDeed_one TDeed_piece TDeed_c0 TDeed_c1 TDeed_c2 TDeed_c3 TDeed_c4 TDeed_c5 TDeed_set_kind TDeed_set_key TDeed_set_val TDeed_set_ver TDeed_set_ses TDeed_set_num TDeed_ld TDeed_st TDeed_f_kind TDeed_f_key TDeed_f_val TDeed_f_ver TDeed_f_ses TDeed_f_num TDeed_bd TDeed_fl TDeed_fl_kind TDeed_fl_key TDeed_fl_val TDeed_fl_ver TDeed_fl_ses TDeed_fl_num
attribute [local go_sem high] TDeed_eql TDeed_neq
attribute [local go_sem ↓] index_deps0 load_deps0 store_deps0
attribute [local go_sem] DV_piece DV_size DV_one index_deps load_deps store_deps
attribute [local go_sem high] TDeps_eql TDeps_neq
attribute [local go_sem ↓] TCall_ld0 TCall_st0 TCall_fd0 TCall_bd0
attribute [local go_sem] TCall_size TCall_one TCall_piece TCall_c0 TCall_c1 TCall_c2 TCall_c3 TCall_c4 TCall_c5 TCall_c6 TCall_c7 TCall_c8 TCall_c9 TCall_c10 TCall_c11 TCall_c12 TCall_c13 TCall_p_deed TCall_put_deed TCall_p_deps TCall_put_deps TCall_set_seq TCall_ld TCall_st TCall_f_deed TCall_f_deps TCall_f_seq TCall_bd TCall_fl TCall_fl_deed TCall_fl_deps TCall_fl_seq
attribute [local go_sem high] TCall_eql TCall_neq
attribute [local go_sem ↓] TItem_ld0 TItem_st0 TItem_fd0 TItem_bd0
attribute [local go_sem] TItem_size TItem_one TItem_piece TItem_c0 TItem_c1 TItem_set_rep TItem_set_num TItem_ld TItem_st TItem_f_rep TItem_f_num TItem_bd TItem_fl TItem_fl_rep TItem_fl_num
attribute [local go_sem high] TItem_eql TItem_neq
attribute [local go_sem ↓] TBallot_ld0 TBallot_st0 TBallot_fd0 TBallot_bd0
attribute [local go_sem] TBallot_size TBallot_one TBallot_piece TBallot_c0 TBallot_c1 TBallot_set_round TBallot_set_rep TBallot_ld TBallot_st TBallot_f_round TBallot_f_rep TBallot_bd TBallot_fl TBallot_fl_round TBallot_fl_rep
attribute [local go_sem high] TBallot_eql TBallot_neq
attribute [local go_sem ↓] TInst_ld0 TInst_st0 TInst_fd0 TInst_bd0
attribute [local go_sem] TInst_size TInst_one TInst_piece TInst_c0 TInst_c1 TInst_c2 TInst_c3 TInst_c4 TInst_c5 TInst_c6 TInst_c7 TInst_c8 TInst_c9 TInst_c10 TInst_c11 TInst_c12 TInst_c13 TInst_c14 TInst_c15 TInst_c16 TInst_c17 TInst_c18 TInst_c19 TInst_p_prom TInst_put_prom TInst_p_vote TInst_put_vote TInst_set_status TInst_p_call TInst_put_call TInst_set_same TInst_ld TInst_st TInst_f_prom TInst_f_vote TInst_f_status TInst_f_call TInst_f_same TInst_bd TInst_fl TInst_fl_prom TInst_fl_vote TInst_fl_status TInst_fl_call TInst_fl_same
attribute [local go_sem high] TInst_eql TInst_neq
attribute [local go_sem ↓] TMsg_ld0 TMsg_st0 TMsg_fd0 TMsg_bd0
attribute [local go_sem] TMsg_size TMsg_one TMsg_piece TMsg_c0 TMsg_c1 TMsg_c2 TMsg_c3 TMsg_c4 TMsg_c5 TMsg_c6 TMsg_c7 TMsg_c8 TMsg_c9 TMsg_c10 TMsg_c11 TMsg_c12 TMsg_c13 TMsg_c14 TMsg_c15 TMsg_c16 TMsg_c17 TMsg_c18 TMsg_c19 TMsg_c20 TMsg_c21 TMsg_c22 TMsg_c23 TMsg_c24 TMsg_set_kind TMsg_set_frm TMsg_set_to TMsg_p_item TMsg_put_item TMsg_p_bal TMsg_put_bal TMsg_p_vote TMsg_put_vote TMsg_set_status TMsg_set_same TMsg_p_call TMsg_put_call TMsg_ld TMsg_st TMsg_f_kind TMsg_f_frm TMsg_f_to TMsg_f_item TMsg_f_bal TMsg_f_vote TMsg_f_status TMsg_f_same TMsg_f_call TMsg_bd TMsg_fl TMsg_fl_kind TMsg_fl_frm TMsg_fl_to TMsg_fl_item TMsg_fl_bal TMsg_fl_vote TMsg_fl_status TMsg_fl_same TMsg_fl_call
attribute [local go_sem high] TMsg_eql TMsg_neq
theorem great_V {n : Int} {l : List Msg} (h : greatV n l = false) : sizeB n = true ∧ l.length ≤ 80 := by
  unfold greatV at h
  rw [Bool.or_eq_false_iff] at h
  have h2 := h.2
  unfold sizeB
  simp at h2 ⊢
  omega
theorem Sts.dropL {w W : World} {F : Nat → Prop} {R : List Res} : ∀ {L : List Res}, Sts w F W (L ++ R) → Sts w F W R
  | [], h => h
  | _ :: L, h => Sts.dropL (L := L) (Sts.drop h)
theorem Sts.only1 {w W : World} {F : Nat → Prop} {R : List Res} {r : Res} (h : Sts w F W (r :: R)) : Sts w F W [r] :=
  Sts.dropL (L := R) (h.perm (List.perm_append_comm (l₁ := [r]) (l₂ := R)))
end Go.Proofs.YtfgacjglfdehbaaGreatDoor
/- The document's layers 9, 13: what a book tells of an item; does one follow another one? -/
namespace Go.Proofs.YtfgacjglfdehbaaGreatDoor
open Go.RowKit Go.Shelf
set_option linter.unusedVariables false
set_option maxRecDepth 20000
attribute [local go_sem] row_alloc row_drew row_drewN row_ext row_setCell row_setRow size_ext setRow_alloc setRow_drew loadOf storeOf piece_lit loadVal_at storeVal_at allOne_lit buildOf buildRes_some
attribute [local go_sem high] cell_alloc frozen_alloc setCell_alloc cell_ext frozen_ext cell_setRow frozen_setRow
attribute [local go_sem ↓] TDeed_ld0 TDeed_st0 TDeed_fd0 TDeed_bd0
attribute [local go_sem] TDeed_size TDeed_one TDeed_piece TDeed_c0 TDeed_c1 TDeed_c2 TDeed_c3 TDeed_c4 TDeed_c5 TDeed_set_kind TDeed_set_key TDeed_set_val TDeed_set_ver TDeed_set_ses TDeed_set_num TDeed_ld TDeed_st TDeed_f_kind TDeed_f_key TDeed_f_val TDeed_f_ver TDeed_f_ses TDeed_f_num TDeed_bd TDeed_fl TDeed_fl_kind TDeed_fl_key TDeed_fl_val TDeed_fl_ver TDeed_fl_ses TDeed_fl_num
attribute [local go_sem high] TDeed_eql TDeed_neq
attribute [local go_sem ↓] index_deps0 load_deps0 store_deps0
attribute [local go_sem] DV_piece DV_size DV_one index_deps load_deps store_deps
attribute [local go_sem high] TDeps_eql TDeps_neq
attribute [local go_sem ↓] TCall_ld0 TCall_st0 TCall_fd0 TCall_bd0
attribute [local go_sem] TCall_size TCall_one TCall_piece TCall_c0 TCall_c1 TCall_c2 TCall_c3 TCall_c4 TCall_c5 TCall_c6 TCall_c7 TCall_c8 TCall_c9 TCall_c10 TCall_c11 TCall_c12 TCall_c13 TCall_p_deed TCall_put_deed TCall_p_deps TCall_put_deps TCall_set_seq TCall_ld TCall_st TCall_f_deed TCall_f_deps TCall_f_seq TCall_bd TCall_fl TCall_fl_deed TCall_fl_deps TCall_fl_seq
attribute [local go_sem high] TCall_eql TCall_neq
attribute [local go_sem ↓] TItem_ld0 TItem_st0 TItem_fd0 TItem_bd0
attribute [local go_sem] TItem_size TItem_one TItem_piece TItem_c0 TItem_c1 TItem_set_rep TItem_set_num TItem_ld TItem_st TItem_f_rep TItem_f_num TItem_bd TItem_fl TItem_fl_rep TItem_fl_num
attribute [local go_sem high] TItem_eql TItem_neq
attribute [local go_sem ↓] TBallot_ld0 TBallot_st0 TBallot_fd0 TBallot_bd0
attribute [local go_sem] TBallot_size TBallot_one TBallot_piece TBallot_c0 TBallot_c1 TBallot_set_round TBallot_set_rep TBallot_ld TBallot_st TBallot_f_round TBallot_f_rep TBallot_bd TBallot_fl TBallot_fl_round TBallot_fl_rep
attribute [local go_sem high] TBallot_eql TBallot_neq
attribute [local go_sem ↓] TInst_ld0 TInst_st0 TInst_fd0 TInst_bd0
attribute [local go_sem] TInst_size TInst_one TInst_piece TInst_c0 TInst_c1 TInst_c2 TInst_c3 TInst_c4 TInst_c5 TInst_c6 TInst_c7 TInst_c8 TInst_c9 TInst_c10 TInst_c11 TInst_c12 TInst_c13 TInst_c14 TInst_c15 TInst_c16 TInst_c17 TInst_c18 TInst_c19 TInst_p_prom TInst_put_prom TInst_p_vote TInst_put_vote TInst_set_status TInst_p_call TInst_put_call TInst_set_same TInst_ld TInst_st TInst_f_prom TInst_f_vote TInst_f_status TInst_f_call TInst_f_same TInst_bd TInst_fl TInst_fl_prom TInst_fl_vote TInst_fl_status TInst_fl_call TInst_fl_same
attribute [local go_sem high] TInst_eql TInst_neq
theorem getB_ents {m : RowsM} (hm : RowsOk m) (x : Item) : getB (ents m) x = getM m x := by
  have hk := ents_keys hm
  cases hg : getM m x with
  | some t => exact mem_getB hk (ents_has hm hg)
  | none =>
    cases hb : getB (ents m) x with
    | none => rfl
    | some t =>
      have := ents_mem (getB_mem hb)
      rw [hg] at this; cases this
theorem atB_ents {m : RowsM} (hm : RowsOk m) (x : Item) : atB (ents m) x = atM m x := by
  have hat : ∀ L : List Ent, atB L x = (getB L x).getD noInst := fun L => by
    induction L with
    | nil => rfl
    | cons e t ih =>
      show (if eqA (IV x) (IV e.1) = true then e.2 else atB t x) = (if eqA (IV x) (IV e.1) = true then some e.2 else getB t x).getD noInst
      split
      · rfl
      · exact ih
  rw [hat]
  unfold atM
  rw [getB_ents hm]
set_option maxHeartbeats 4000000 in
theorem rbookAtR (b : Nat) (L : List Ent) (hL : L.length ≤ 1000000) (x : Item) : Reads Tryz.prog 13 #[.pointer (some ⟨b, 0, none⟩), .agg (IV x)] [bookR b L] (.agg (NV (atB L x))) := by
  intro W G hS
  obtain ⟨A, c, B, d, T0⟩ := (Sts.start hS).bookOpen
  obtain ⟨_, _, hv, hA, -, hAa⟩ := vec_rows KV_size T0.drop (by omega) (by omega)
  obtain ⟨rfl, -, rfl⟩ := Value.slice.inj hv; clear hv
  have hpk : 0 < L.length → ∃ gb cs, B = some ⟨gb, 0, none⟩ ∧ gb < W.heap.size ∧ (∀ W', Below W.heap.size W W' → row? W' gb = some cs) ∧ ∀ j (hj : j < L.length), j * 20 + 20 ≤ cs.size ∧ piece cs (j * 20) 20 = NV L[j].2 := fun h => by
    obtain ⟨gb, c1, cs, hv, hr, hlt, hp⟩ := vec_piece WV_size T0.drop.drop (by omega) h
    injection hv with hv
    exact ⟨gb, cs, hv, hlt, fun W' hb => (row_below hb hlt).trans hr, hp⟩
  have rb := T0.row
  have hrb : ∀ W', Below W.heap.size W W' → (W'.cell? ⟨b, 0, none⟩ = some (.slice A L.length c) ∧ W'.cell? ⟨b, 1, none⟩ = some (.slice B L.length d) ∧ b < W'.heap.size) := fun W' hb => by
    have r := (row_below hb (row_lt rb)).trans rb
    exact ⟨row_cell r 0, row_cell r 1, row_lt r⟩
  have HPK := Lib.hid hpk; have HRB := Lib.hid hrb
  clear hpk hrb rb T0 hS
  obtain ⟨w3, hw3⟩ : ∃ w3, w3 = (W.alloc (.cells (IV x) 32)).alloc (.cells (NV noInst) 52) := ⟨_, rfl⟩
  have T := ((Sts.start0 W).new (IV x) 32).new (NV noInst) 52
  simp only [World.size_alloc] at T
  rw [← hw3] at T
  rw [noInst_lit] at hw3
  obtain ⟨b0, b1, lb⟩ := HRB.out _ T.below
  go_enter Tryz.func13, Tryz.ntmps13
  go_upto_region 1 with fail
  rw [← hw3]
  clear hw3
  generalize hg2 : W.heap.size + 1 = g2 at *
  generalize hg1 : W.heap.size = g1 at *
  have HT := Lib.hid T; clear T
  go_wp2_with fail
  go_loopw [12] (fun s wr => ∃ k : Nat, k ≤ L.length ∧ s = .int .i64 k ∧ atB L x = atB (L.drop k) x ∧ Sts W (fun _ => False) wr [rowR g2 (NV noInst), rowR g1 (IV x)]) (fun s _ => L.length - (intOf s).toNat)
  case atStart => exact ⟨0, Nat.zero_le _, rfl, rfl, HT.out⟩
  case round =>
    clear HT b0 b1 lb
    obtain ⟨k, hk, rfl, hat, T⟩ := hrel
    have HAT := Lib.hid hat; clear hat
    by_cases hk2 : k < L.length
    · cases A with
      | none => rw [hA.nil rfl] at hk2; simp at hk2
      | some a1 =>
        obtain ⟨ga, rfl⟩ := hAa a1 rfl
        obtain ⟨gb, cs, rfl, lgb, hrow, hpc⟩ := HPK.out (by omega)
        obtain ⟨hp1, hp2⟩ := hpc k hk2
        clear hpc
        have hld := hA.load (P := Tryz.prog) (T := 32) KV_size TItem_und rfl (by kernel_rfl) (by rw [hg1]; first | exact T.below | exact hg1 ▸ T.below) rfl hk2
        rw [add_none, Nat.zero_add] at hld
        replace hld : loadVal Tryz.prog 32 2 wr (.pointer (some ⟨ga, k * 2, none⟩)) = .ok (.agg (IV L[k].1)) wr := hld
        have hk3 : (k : Int) < (L.length : Int) := by omega
        have hk0 : (0 : Int) ≤ (k : Int) := by omega
        have hdr : L.drop k = L[k] :: L.drop (k + 1) := List.drop_eq_getElem_cons hk2
        have he0 := HAT.out
        rw [hdr] at he0
        have T2 := T.new (IV L[k].1) 32
        have r6 := T2.row; have l6 := row_lt r6
        have r1 := T2.row2; have l1 := row_lt r1
        have r2 := T2.row1; have l2 := row_lt r2
        obtain ⟨b0, b1, lb⟩ := HRB.out _ (by first | exact T2.below | exact hg1 ▸ T2.below)
        have hrow2 := hrow _ (by first | exact T2.below | exact hg1 ▸ T2.below)
        generalize L[k] = e at *
        cases he : eqA (IV x) (IV e.1)
        case false =>
          have hz : atB (e :: L.drop (k + 1)) x = atB (L.drop (k + 1)) x := by
            show (if eqA (IV x) (IV e.1) = true then e.2 else _) = _
            rw [he]; rfl
          rw [hz] at he0
          have HE := Lib.hid he0; have HT2 := Lib.hid T2.drop
          clear T T2 he0 hz hdr HAT
          go_wp2
          go_roundw
          case rel => exact ⟨k + 1, by omega, by go_num, HE.out, HT2.out⟩
          case measure => simp [intOf]; omega
        case true =>
          have hz : atB (e :: L.drop (k + 1)) x = e.2 := by
            show (if eqA (IV x) (IV e.1) = true then e.2 else _) = _
            rw [he]; rfl
          rw [hz] at he0
          have T3 := T2.drop.setRow (NV e.2)
          have HE := Lib.hid he0
          have HT3 := Lib.hid T3
          clear T T2 T3 he0 hz hdr HAT
          go_upto_region 5 with fail
          generalize wr.alloc _ = w4 at *
          generalize wr.heap.size = g6 at *
          go_wp2
          refine ret_row (NV e.2) TInst_und rfl (by kernel_rfl) rfl rfl rfl (TInst_size _) HT3.out.row ?_
          exact ⟨by rw [HE.out], by first | exact HT3.out.below | exact hg1 ▸ HT3.out.below⟩
    · obtain rfl : k = L.length := by omega
      have he0 := HAT.out
      rw [List.drop_length] at he0
      have T3 := T.setRow (NV noInst)
      have r2 := T.row; have l2 := row_lt r2
      have hz : (#[.int .i64 0, .int .i64 0, .int .i64 0, .int .i64 0, .int .i64 0, .int .i64 0, .string { data := #[] }, .string { data := #[] }, .int .i64 0, .int .i64 0, .int .i64 0, .int .i64 0, .int .i64 0, .int .i64 0, .int .i64 0, .int .i64 0, .int .i64 0, .int .i64 0, .int .i64 0, .bool false] : Array Value) = NV noInst := noInst_lit.symm
      have HT3 := Lib.hid T3; have HE := Lib.hid he0
      clear T T3 HAT he0
      go_wp2
      refine ret_row (NV noInst) TInst_und rfl (by kernel_rfl) rfl rfl rfl (TInst_size _) HT3.out.row ?_
      exact ⟨by rw [HE.out]; rfl, by first | exact HT3.out.below | exact hg1 ▸ HT3.out.below⟩
set_option maxHeartbeats 4000000 in
theorem rfollows_any (i j : Inst) : Ans Tryz.prog 12 #[.agg (NV i), .agg (NV j)] (.bool (followsB i j)) := by
  refine Ans.of_sts fun W => ?_
  have T := ((Sts.start0 W).new (NV i) 52).new (NV j) 52
  simp only [World.size_alloc] at T
  have r2 := T.row; have l2 := row_lt r2; have c2 := row_cell r2
  have r1 := T.row1; have l1 := row_lt r1; have c1 := row_cell r1
  have hl1 := rless_any j.prom i.prom
  have hl2 := rless_any j.vote i.vote
  have HF := Lib.hid (show followsB i j = followsB i j from rfl)
  cases b1 : lessBal j.prom i.prom
  case true =>
    have hv : followsB i j = false := by unfold followsB; rw [b1, if_pos (.inl rfl)]
    rw [hv]
    rw [b1] at hl1
    have HL1 := Lib.hid hl1; have HT := Lib.hid T
    clear hl1 hl2 HF hv T
    go_enter Tryz.func12, Tryz.ntmps12
    go_wp2_with fail
    refine (Ans.at HL1.out HT.out).mono ?_
    clear HT HL1 r1 l1 c1 r2 l2 c2
    rintro e w1 ⟨rfl, T⟩
    have HT := Lib.hid T.nil; clear T
    go_wp2
    go_ret
    exact ⟨rfl, HT.out⟩
  case false =>
    rw [b1] at hl1
    have HL1 := Lib.hid hl1; have HL2 := Lib.hid hl2; have HT := Lib.hid T
    clear hl1 hl2 HF T
    go_enter Tryz.func12, Tryz.ntmps12
    go_wp2_with fail
    refine (Ans.at HL1.out HT.out).mono ?_
    clear HT HL1 r1 l1 c1 r2 l2 c2
    rintro e w1 ⟨rfl, T⟩
    have r2 := T.row; have l2 := row_lt r2; have c2 := row_cell r2
    have r1 := T.row1; have l1 := row_lt r1; have c1 := row_cell r1
    have HT := Lib.hid T; clear T
    go_wp2_with fail
    refine (Ans.at HL2.out HT.out).mono ?_
    clear HT HL2 r1 l1 c1 r2 l2 c2
    rintro e w2 ⟨rfl, T⟩
    have r2 := T.row; have l2 := row_lt r2; have c2 := row_cell r2
    have r1 := T.row1; have l1 := row_lt r1; have c1 := row_cell r1
    have HT := Lib.hid T.nil; clear T
    generalize W.heap.size + 1 = g2 at *
    generalize W.heap.size = g1 at *
    cases b2 : lessBal j.vote i.vote
    case true =>
      have hv : followsB i j = false := by unfold followsB; simp_all
      have HV := Lib.hid hv
      clear hv
      go_wp2
      go_ret
      exact ⟨by rw [HV.out]; rfl, HT.out⟩
    case false =>
      cases s3 : (i.status == 3)
      case true =>
        cases q1 : (j.status == 3)
        case false =>
          have hv : followsB i j = false := by unfold followsB; simp_all
          have HV := Lib.hid hv
          clear hv
          go_wp2
          go_ret
          exact ⟨by rw [HV.out]; rfl, HT.out⟩
        case true =>
          cases q2 : eqA (CV i.call) (CV j.call)
          case false =>
            have hv : followsB i j = false := by unfold followsB; simp_all
            have HV := Lib.hid hv
            clear hv
            go_wp2
            go_ret
            exact ⟨by rw [HV.out]; rfl, HT.out⟩
          case true =>
            cases q3 : eqA (BV i.vote) (BV j.vote)
            case false =>
              have hv : followsB i j = false := by unfold followsB; simp_all
              have HV := Lib.hid hv
              clear hv
              go_wp2
              go_ret
              exact ⟨by rw [HV.out]; rfl, HT.out⟩
            case true =>
              have hv : followsB i j = true := by unfold followsB; simp_all
              have HV := Lib.hid hv
              clear hv
              go_wp2
              go_ret
              exact ⟨by rw [HV.out]; rfl, HT.out⟩
      case false =>
        cases q3 : eqA (BV i.vote) (BV j.vote)
        case false =>
          have hv : followsB i j = true := by unfold followsB; simp_all
          have HV := Lib.hid hv
          clear hv
          go_wp2
          go_ret
          exact ⟨by rw [HV.out]; rfl, HT.out⟩
        case true =>
          cases q1 : (j.status == 3)
          case true =>
            have hv : followsB i j = true := by unfold followsB; simp_all
            have HV := Lib.hid hv
            clear hv
            go_wp2
            go_ret
            exact ⟨by rw [HV.out]; rfl, HT.out⟩
          case false =>
            cases s4 : (i.status == j.status)
            case true =>
              cases q2 : eqA (CV i.call) (CV j.call)
              case false =>
                have hv : followsB i j = false := by unfold followsB; simp_all
                have HV := Lib.hid hv
                clear hv
                go_wp2
                go_ret
                exact ⟨by rw [HV.out]; rfl, HT.out⟩
              case true =>
                cases q4 : (i.same == j.same)
                case false =>
                  have hv : followsB i j = false := by unfold followsB; simp_all
                  have HV := Lib.hid hv
                  clear hv
                  go_wp2
                  go_ret
                  exact ⟨by rw [HV.out]; rfl, HT.out⟩
                case true =>
                  have hv : followsB i j = true := by unfold followsB; simp_all
                  have HV := Lib.hid hv
                  clear hv
                  go_wp2
                  go_ret
                  exact ⟨by rw [HV.out]; rfl, HT.out⟩
            case false =>
              have hv : followsB i j = decide (i.status < j.status) := by unfold followsB; simp_all
              have HV := Lib.hid hv
              clear hv
              go_wp2
              go_ret
              exact ⟨by rw [HV.out]; rfl, HT.out⟩
end Go.Proofs.YtfgacjglfdehbaaGreatDoor
/- Layer 15: what a space knows, as a book. -/
namespace Go.Proofs.YtfgacjglfdehbaaGreatDoor
open Go.RowKit Go.Shelf
set_option linter.unusedVariables false
set_option maxRecDepth 20000
attribute [local go_sem] Oper.semAt_some
attribute [local go_sem] row_alloc row_drew row_drewN row_ext row_setCell row_setRow size_ext setRow_alloc setRow_drew loadOf storeOf piece_lit loadVal_at storeVal_at allOne_lit buildOf buildRes_some
attribute [local go_sem high] cell_alloc frozen_alloc setCell_alloc cell_ext frozen_ext cell_setRow frozen_setRow
attribute [local go_sem ↓] TDeed_ld0 TDeed_st0 TDeed_fd0 TDeed_bd0
attribute [local go_sem] TDeed_size TDeed_one TDeed_piece TDeed_c0 TDeed_c1 TDeed_c2 TDeed_c3 TDeed_c4 TDeed_c5 TDeed_set_kind TDeed_set_key TDeed_set_val TDeed_set_ver TDeed_set_ses TDeed_set_num TDeed_ld TDeed_st TDeed_f_kind TDeed_f_key TDeed_f_val TDeed_f_ver TDeed_f_ses TDeed_f_num TDeed_bd TDeed_fl TDeed_fl_kind TDeed_fl_key TDeed_fl_val TDeed_fl_ver TDeed_fl_ses TDeed_fl_num
attribute [local go_sem high] TDeed_eql TDeed_neq
attribute [local go_sem ↓] index_deps0 load_deps0 store_deps0
attribute [local go_sem] DV_piece DV_size DV_one index_deps load_deps store_deps
attribute [local go_sem high] TDeps_eql TDeps_neq
attribute [local go_sem ↓] TCall_ld0 TCall_st0 TCall_fd0 TCall_bd0
attribute [local go_sem] TCall_size TCall_one TCall_piece TCall_c0 TCall_c1 TCall_c2 TCall_c3 TCall_c4 TCall_c5 TCall_c6 TCall_c7 TCall_c8 TCall_c9 TCall_c10 TCall_c11 TCall_c12 TCall_c13 TCall_p_deed TCall_put_deed TCall_p_deps TCall_put_deps TCall_set_seq TCall_ld TCall_st TCall_f_deed TCall_f_deps TCall_f_seq TCall_bd TCall_fl TCall_fl_deed TCall_fl_deps TCall_fl_seq
attribute [local go_sem high] TCall_eql TCall_neq
attribute [local go_sem ↓] TItem_ld0 TItem_st0 TItem_fd0 TItem_bd0
attribute [local go_sem] TItem_size TItem_one TItem_piece TItem_c0 TItem_c1 TItem_set_rep TItem_set_num TItem_ld TItem_st TItem_f_rep TItem_f_num TItem_bd TItem_fl TItem_fl_rep TItem_fl_num
attribute [local go_sem high] TItem_eql TItem_neq
attribute [local go_sem ↓] TBallot_ld0 TBallot_st0 TBallot_fd0 TBallot_bd0
attribute [local go_sem] TBallot_size TBallot_one TBallot_piece TBallot_c0 TBallot_c1 TBallot_set_round TBallot_set_rep TBallot_ld TBallot_st TBallot_f_round TBallot_f_rep TBallot_bd TBallot_fl TBallot_fl_round TBallot_fl_rep
attribute [local go_sem high] TBallot_eql TBallot_neq
attribute [local go_sem ↓] TInst_ld0 TInst_st0 TInst_fd0 TInst_bd0
attribute [local go_sem] TInst_size TInst_one TInst_piece TInst_c0 TInst_c1 TInst_c2 TInst_c3 TInst_c4 TInst_c5 TInst_c6 TInst_c7 TInst_c8 TInst_c9 TInst_c10 TInst_c11 TInst_c12 TInst_c13 TInst_c14 TInst_c15 TInst_c16 TInst_c17 TInst_c18 TInst_c19 TInst_p_prom TInst_put_prom TInst_p_vote TInst_put_vote TInst_set_status TInst_p_call TInst_put_call TInst_set_same TInst_ld TInst_st TInst_f_prom TInst_f_vote TInst_f_status TInst_f_call TInst_f_same TInst_bd TInst_fl TInst_fl_prom TInst_fl_vote TInst_fl_status TInst_fl_call TInst_fl_same
attribute [local go_sem high] TInst_eql TInst_neq
section
variable {w W : World} {F : Nat → Prop} {R : List Res} {s lg p g bk bs : Nat} {I : Idx} {D : List UInt8} {safe : Nat} {m : RowsM}
def BookPostV (w : World) (F : Nat → Prop) (R : List Res) (s lg p g bk bs : Nat) (I : Idx) (D : List UInt8) (safe : Nat) (m : RowsM) (e : Ending) (W' : World) : Prop := ∃ b, e = .returned (.pointer (some ⟨b, 0, none⟩)) ∧ Sts w F W' (bookR b (ents m) :: (spL s lg p g bk bs I D safe m ++ R))
set_option maxHeartbeats 4000000 in
theorem bookV (hm : RowsOk m) (T : Sts w F W (spL s lg p g bk bs I D safe m ++ R)) :
    Calls Tryz.prog 8 #[.pointer (some ⟨s, 0, none⟩)] W (BookPostV w F R s lg p g bk bs I D safe m) := by
  refine (callsIn_wide (n := 4)).1 ?_
  refine callsIn_of_wp_marks Tryz.func8 rfl trivial ?_ rfl
  simp only [Tryz.ntmps8, List.size_toArray, List.length_cons, List.length_nil, Nat.reduceAdd, Nat.reduceSub, Array.replicate_succ, Array.replicate_zero, List.push_toArray, List.append_toArray, List.nil_append, List.cons_append]
  refine wpIn_wide.2 ?_
  have T1 := T.bookNew.new #[.pointer (some ⟨W.heap.size, 0, none⟩)] 43
  rw [World.size_alloc] at T1
  have T1 : Sts w F _ (rowR (W.heap.size + 1) #[.pointer (some ⟨W.heap.size, 0, none⟩)] :: bookR W.heap.size [] :: idxR s lg bk bs I :: rowR lg (ledCells p g m.n) :: plR p D safe :: rowsIR g m :: R) := T1
  have T1 := T1.ord [2, 3, 4, 5, 0, 1]
  have HT1 := Lib.hid T1
  clear T1 T
  go_wp2_with fail
  refine (spAllT (R := rowR (W.heap.size + 1) #[.pointer (some ⟨W.heap.size, 0, none⟩)] :: bookR W.heap.size [] :: R) HT1.out).mono ?_
  clear HT1
  rintro e w1 ⟨c, rfl, T⟩
  have HT := Lib.hid T; clear T
  go_wp2_with fail
  have T := HT.out; clear HT
  try simp only [World.size_alloc] at T ⊢
  generalize hb : W.heap.size + 1 = b at *
  generalize hb0 : W.heap.size = b0 at *
  clear hb hb0
  have T0 : Sts w F w1 ([bookR b0 ((ents m).take 0)] ++ (iterIR c g m ++ rowR b #[.pointer (some ⟨b0, 0, none⟩)] :: idxR s lg bk bs I :: rowR lg (ledCells p g m.n) :: plR p D safe :: R)) := by
    have T : Sts w F w1 (rowR c #[.pointer (some ⟨g, 0, none⟩)] :: rowsIR g m :: idxR s lg bk bs I :: rowR lg (ledCells p g m.n) :: plR p D safe :: rowR b #[.pointer (some ⟨b0, 0, none⟩)] :: bookR b0 [] :: R) := T
    have := T.ord [6, 0, 1, 5, 2, 3, 4]
    exact this
  clear T
  refine (wpIn_wide (n := 4)).1 ?_
  refine wp_rangeSts (gf := 65) (lb := #[.pointer (some ⟨c, 0, none⟩)]) (enc := fun x : Item × Inst => #[.agg (IV x.1), .agg (NV x.2)]) (xs := ents m)
    (fun k => [bookR b0 ((ents m).take k)]) (fun _ _ => [noR]) (iterIR c g m ++ rowR b #[.pointer (some ⟨b0, 0, none⟩)] :: idxR s lg bk bs I :: rowR lg (ledCells p g m.n) :: plR p D safe :: R)
    (fun k x a' own' => ∃ b1 b2, own' = [rowR b2 (NV x.2), rowR b1 (IV x.1), bookR b0 ((ents m).take k)] ∧ a' = { tmps := #[.pointer (some ⟨s, 0, none⟩), undef, .pointer none, .pointer (some ⟨b, 0, none⟩), .pointer (some ⟨b1, 0, none⟩), .pointer (some ⟨b2, 0, none⟩), .agg #[.slice none 0 0, .slice none 0 0], .pointer (some ⟨b0, 0, none⟩), .pointer (some ⟨s, 0, none⟩), .func (.func 65) #[] #[.pointer (some ⟨c, 0, none⟩)], .agg (IV x.1), .agg (NV x.2), undef, undef, undef, undef, undef], defers := [] })
    rfl (enters_of Tryz.func65 (by kernel_rfl) rfl) (fun _ => rfl) (Gives.part fun H hS => irAllG c g m hm _ H hS) T0 ?calm ?calmX ?assign ?body ?done ?stop
  case calm => exact fun k => calmL_cons (bookR_calm _ _ _) (calmL_nil _)
  case calmX => exact fun _ _ => calmL_cons (noR_calm _) (calmL_nil _)
  case assign =>
    intro lr k x W1 G1 K hx T1 hK
    have T2 := ((T1.new (IV x.1) 32).new (NV x.2) 52)
    rw [World.size_alloc] at T2
    have HT2 := Lib.hid T2
    clear T0 T1 T2
    gi_wp2
    exact hK _ _ _ ⟨_, _, rfl, rfl⟩ HT2.out
  case body =>
    rintro lr k x _ _ W1 G1 hx ⟨b1, b2, rfl, rfl⟩ T1 hread
    clear T0
    obtain ⟨F', w', TL⟩ := hread T1
    have TL : Sts w' F' W1 (rowR b2 (NV x.2) :: rowR b1 (IV x.1) :: bookR b0 ((ents m).take k) :: rowR c #[.pointer (some ⟨g, 0, none⟩)] :: rowsIR g m :: rowR b #[.pointer (some ⟨b0, 0, none⟩)] :: idxR s lg bk bs I :: rowR lg (ledCells p g m.n) :: plR p D safe :: R) := TL
    have rb := (TL.ord [5, 0, 1, 2, 3, 4]).row
    have lb := row_lt rb
    have cb : W1.cell? ⟨b, 0, none⟩ = some (.pointer (some ⟨b0, 0, none⟩)) := row_cell rb 0
    have r1 := T1.row; have r2 := T1.row1; have l1 := row_lt r1; have l2 := row_lt r2
    have hnx := setB_ents hm hx
    have hlen : ((ents m).take k).length ≤ 1000000 := by
      have h2 := ents_len hm
      have h3 : ((ents m).take k).length ≤ (ents m).length := List.length_take_le' _ _
      omega
    have hset := bookSetD b0 ((ents m).take k) hlen x.1 x.2
    rw [hnx] at hset
    have HSET := Lib.hid hset; have HT := Lib.hid T1
    clear hset hnx hlen TL hread T1 rb
    gi_wp2_with fail
    refine ⟨trivial, ?_⟩
    refine (CallsIn.inRound lr (callsIn_wide.2 (Does.at (R := [rowR b2 (NV x.2), rowR b1 (IV x.1)]) HSET.out (HT.out.ord [2, 0, 1])))).mono ?_
    rintro e w2 ⟨rfl, T⟩
    have T6 := (T.ord [1, 2, 0]).drop.drop
    have H6 := Lib.hid T6; clear T T6 HT HSET cb r1 r2
    gi_wp2
    exact H6.out
  case done =>
    intro D1 W1 T1
    clear T0
    rw [List.take_length] at T1
    have T1 : Sts w F W1 (objR D1 (.deferred (some [])) :: bookR b0 (ents m) :: rowR c #[.pointer (some ⟨g, 0, none⟩)] :: rowsIR g m :: rowR b #[.pointer (some ⟨b0, 0, none⟩)] :: idxR s lg bk bs I :: rowR lg (ledCells p g m.n) :: plR p D safe :: R) := T1
    have T2 := (T1.ord [2, 4, 0, 1, 5, 6, 7, 3])
    have rb := T2.row1
    have lb := row_lt rb
    have cb : W1.cell? ⟨b, 0, none⟩ = some (.pointer (some ⟨b0, 0, none⟩)) := row_cell rb 0
    have T3 := (T2.drop.ord [1, 0])
    have hD := T3.obj
    have T6 : Sts w F (W1.putObj D1 (.deferred none)) (bookR b0 (ents m) :: (spL s lg p g bk bs I D safe m ++ R)) := (T3.putObj (.deferred none)).drop.drop
    have HT := Lib.hid T6; have HD := Lib.hid hD; clear T1 T2 T3 T6 hD
    go_wp2
    exact retM1 HD.out (results_tmp rfl _ _ _) ⟨b0, rfl, HT.out⟩ rfl
  case stop =>
    intro D1 c1 k W1 _ _ T1
    exact (Sts.no T1.drop).elim
end
end Go.Proofs.YtfgacjglfdehbaaGreatDoor
/- Layer 7: a message's bytes. -/
namespace Go.Proofs.YtfgacjglfdehbaaGreatDoor
open Go.RowKit
set_option linter.unusedVariables false
attribute [local go_sem] row_alloc row_drew row_drewN row_ext row_setCell row_setRow size_ext setRow_alloc setRow_drew loadOf storeOf piece_lit loadVal_at storeVal_at allOne_lit buildOf buildRes_some
attribute [local go_sem high] cell_alloc frozen_alloc setCell_alloc cell_ext frozen_ext cell_setRow frozen_setRow
attribute [local go_sem ↓] TDeed_ld0 TDeed_st0 TDeed_fd0 TDeed_bd0
attribute [local go_sem] TDeed_size TDeed_one TDeed_piece TDeed_c0 TDeed_c1 TDeed_c2 TDeed_c3 TDeed_c4 TDeed_c5 TDeed_set_kind TDeed_set_key TDeed_set_val TDeed_set_ver TDeed_set_ses TDeed_set_num TDeed_ld TDeed_st TDeed_f_kind TDeed_f_key TDeed_f_val TDeed_f_ver TDeed_f_ses TDeed_f_num TDeed_bd TDeed_fl TDeed_fl_kind TDeed_fl_key TDeed_fl_val TDeed_fl_ver TDeed_fl_ses TDeed_fl_num
attribute [local go_sem high] TDeed_eql TDeed_neq
attribute [local go_sem ↓] index_deps0 load_deps0 store_deps0
attribute [local go_sem] DV_piece DV_size DV_one index_deps load_deps store_deps
attribute [local go_sem high] TDeps_eql TDeps_neq
attribute [local go_sem ↓] TCall_ld0 TCall_st0 TCall_fd0 TCall_bd0
attribute [local go_sem] TCall_size TCall_one TCall_piece TCall_c0 TCall_c1 TCall_c2 TCall_c3 TCall_c4 TCall_c5 TCall_c6 TCall_c7 TCall_c8 TCall_c9 TCall_c10 TCall_c11 TCall_c12 TCall_c13 TCall_p_deed TCall_put_deed TCall_p_deps TCall_put_deps TCall_set_seq TCall_ld TCall_st TCall_f_deed TCall_f_deps TCall_f_seq TCall_bd TCall_fl TCall_fl_deed TCall_fl_deps TCall_fl_seq
attribute [local go_sem high] TCall_eql TCall_neq
attribute [local go_sem ↓] TItem_ld0 TItem_st0 TItem_fd0 TItem_bd0
attribute [local go_sem] TItem_size TItem_one TItem_piece TItem_c0 TItem_c1 TItem_set_rep TItem_set_num TItem_ld TItem_st TItem_f_rep TItem_f_num TItem_bd TItem_fl TItem_fl_rep TItem_fl_num
attribute [local go_sem high] TItem_eql TItem_neq
attribute [local go_sem ↓] TBallot_ld0 TBallot_st0 TBallot_fd0 TBallot_bd0
attribute [local go_sem] TBallot_size TBallot_one TBallot_piece TBallot_c0 TBallot_c1 TBallot_set_round TBallot_set_rep TBallot_ld TBallot_st TBallot_f_round TBallot_f_rep TBallot_bd TBallot_fl TBallot_fl_round TBallot_fl_rep
attribute [local go_sem high] TBallot_eql TBallot_neq
attribute [local go_sem ↓] TMsg_ld0 TMsg_st0 TMsg_fd0 TMsg_bd0
attribute [local go_sem] TMsg_size TMsg_one TMsg_piece TMsg_c0 TMsg_c1 TMsg_c2 TMsg_c3 TMsg_c4 TMsg_c5 TMsg_c6 TMsg_c7 TMsg_c8 TMsg_c9 TMsg_c10 TMsg_c11 TMsg_c12 TMsg_c13 TMsg_c14 TMsg_c15 TMsg_c16 TMsg_c17 TMsg_c18 TMsg_c19 TMsg_c20 TMsg_c21 TMsg_c22 TMsg_c23 TMsg_c24 TMsg_set_kind TMsg_set_frm TMsg_set_to TMsg_p_item TMsg_put_item TMsg_p_bal TMsg_put_bal TMsg_p_vote TMsg_put_vote TMsg_set_status TMsg_set_same TMsg_p_call TMsg_put_call TMsg_ld TMsg_st TMsg_f_kind TMsg_f_frm TMsg_f_to TMsg_f_item TMsg_f_bal TMsg_f_vote TMsg_f_status TMsg_f_same TMsg_f_call TMsg_bd TMsg_fl TMsg_fl_kind TMsg_fl_frm TMsg_fl_to TMsg_fl_item TMsg_fl_bal TMsg_fl_vote TMsg_fl_status TMsg_fl_same TMsg_fl_call
attribute [local go_sem high] TMsg_eql TMsg_neq
attribute [local go_sem ↓] TCarries_ld0 TCarries_st0 TCarries_fd0 TCarries_bd0
attribute [local go_sem] TCarries_size TCarries_one TCarries_piece TCarries_c0 TCarries_c1 TCarries_set_call TCarries_set_known TCarries_ld TCarries_st TCarries_f_call TCarries_f_known TCarries_bd TCarries_fl TCarries_fl_call TCarries_fl_known
attribute [local go_sem high] TCarries_eql TCarries_neq
attribute [local go_sem] KndV_size
end Go.Proofs.YtfgacjglfdehbaaGreatDoor
