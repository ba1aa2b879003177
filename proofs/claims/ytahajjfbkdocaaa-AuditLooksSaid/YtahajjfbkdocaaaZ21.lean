/- Several texts in one. -/
import Derived.Test.YtahajjfbkdocaaaZ20
/- Layer 24, the document: Look. -/
namespace Go.Proofs.Ytahajjfbkdocaaa
open Go.RowKit
set_option linter.unusedVariables false
attribute [local go_sem] row_alloc row_drew row_drewN row_ext row_setCell row_setRow size_ext setRow_alloc setRow_drew loadOf storeOf piece_lit loadVal_at storeVal_at allOne_lit buildOf buildRes_some
attribute [local go_sem high] cell_alloc frozen_alloc setCell_alloc cell_ext frozen_ext cell_setRow frozen_setRow
attribute [local go_sem ↓] TDeed_ld0 TDeed_st0 TDeed_fd0 TDeed_bd0
attribute [local go_sem] TDeed_size TDeed_one TDeed_piece TDeed_c0 TDeed_c1 TDeed_c2 TDeed_c3 TDeed_c4 TDeed_c5 TDeed_set_kind TDeed_set_key TDeed_set_val TDeed_set_ver TDeed_set_ses TDeed_set_num TDeed_ld TDeed_st TDeed_f_kind TDeed_f_key TDeed_f_val TDeed_f_ver TDeed_f_ses TDeed_f_num TDeed_bd TDeed_fl TDeed_fl_kind TDeed_fl_key TDeed_fl_val TDeed_fl_ver TDeed_fl_ses TDeed_fl_num
attribute [local go_sem high] TDeed_eql TDeed_neq
attribute [local go_sem ↓] index_deps0 load_deps0 store_deps0
attribute [local go_sem] DV_piece DV_size DV_one index_deps load_deps store_deps
attribute [local go_sem high] TDeps_eql TDeps_neq
attribute [local go_sem ↓] TCall_ld0 TCall_st0 TCall_fd0 TCall_bd0
attribute [local go_sem] TCall_size TCall_one TCall_piece TCall_c0 TCall_c1 TCall_c2 TCall_c3 TCall_c4 TCall_c5 TCall_c6 TCall_c7 TCall_c8 TCall_c9 TCall_c10 TCall_c11 TCall_c12 TCall_c13 TCall_p_deed TCall_put_deed TCall_p_deps TCall_put_deps TCall_set_seq TCall_ld TCall_st TCall_f_deed TCall_f_deps TCall_f_seq TCall_bd TCall_fl TCall_fl_deed TCall_fl_deps TCall_fl_seq
attribute [local go_sem high] TCall_eql TCall_neq
attribute [local go_sem ↓] TItem_ld0 TItem_st0 TItem_fd0 TItem_bd0
attribute [local go_sem] TItem_size TItem_one TItem_piece TItem_c0 TItem_c1 TItem_set_rep TItem_set_num TItem_ld TItem_st TItem_f_rep TItem_f_num TItem_bd TItem_fl TItem_fl_rep TItem_fl_num
attribute [local go_sem high] TItem_eql TItem_neq
attribute [local go_sem ↓] TBallot_ld0 TBallot_st0 TBallot_fd0 TBallot_bd0
attribute [local go_sem] TBallot_size TBallot_one TBallot_piece TBallot_c0 TBallot_c1 TBallot_set_round TBallot_set_rep TBallot_ld TBallot_st TBallot_f_round TBallot_f_rep TBallot_bd TBallot_fl TBallot_fl_round TBallot_fl_rep
attribute [local go_sem high] TBallot_eql TBallot_neq
attribute [local go_sem ↓] TInst_ld0 TInst_st0 TInst_fd0 TInst_bd0
attribute [local go_sem] TInst_size TInst_one TInst_piece TInst_c0 TInst_c1 TInst_c2 TInst_c3 TInst_c4 TInst_c5 TInst_c6 TInst_c7 TInst_c8 TInst_c9 TInst_c10 TInst_c11 TInst_c12 TInst_c13 TInst_c14 TInst_c15 TInst_c16 TInst_c17 TInst_c18 TInst_c19 TInst_p_prom TInst_put_prom TInst_p_vote TInst_put_vote TInst_set_status TInst_p_call TInst_put_call TInst_set_same TInst_ld TInst_st TInst_f_prom TInst_f_vote TInst_f_status TInst_f_call TInst_f_same TInst_bd TInst_fl TInst_fl_prom TInst_fl_vote TInst_fl_status TInst_fl_call TInst_fl_same
attribute [local go_sem high] TInst_eql TInst_neq
attribute [local go_sem ↓] TRRow_ld0 TRRow_st0 TRRow_fd0 TRRow_bd0
attribute [local go_sem] TRRow_size TRRow_one TRRow_piece TRRow_c0 TRRow_c1 TRRow_c2 TRRow_c3 TRRow_c4 TRRow_c5 TRRow_c6 TRRow_c7 TRRow_c8 TRRow_c9 TRRow_c10 TRRow_c11 TRRow_c12 TRRow_c13 TRRow_c14 TRRow_c15 TRRow_c16 TRRow_c17 TRRow_c18 TRRow_c19 TRRow_c20 TRRow_c21 TRRow_c22 TRRow_set_rep TRRow_p_item TRRow_put_item TRRow_p_inst TRRow_put_inst TRRow_ld TRRow_st TRRow_f_rep TRRow_f_item TRRow_f_inst TRRow_bd TRRow_fl TRRow_fl_rep TRRow_fl_item TRRow_fl_inst
attribute [local go_sem high] TRRow_eql TRRow_neq
attribute [local go_sem ↓] TRFinding_ld0 TRFinding_st0 TRFinding_fd0 TRFinding_bd0
attribute [local go_sem] TRFinding_size TRFinding_one TRFinding_piece TRFinding_c0 TRFinding_c1 TRFinding_c2 TRFinding_c3 TRFinding_set_kind TRFinding_set_rep TRFinding_p_item TRFinding_put_item TRFinding_ld TRFinding_st TRFinding_f_kind TRFinding_f_rep TRFinding_f_item TRFinding_bd TRFinding_fl TRFinding_fl_kind TRFinding_fl_rep TRFinding_fl_item
attribute [local go_sem high] TRFinding_eql TRFinding_neq
abbrev ROut := List RFinding × List Nat
noncomputable def rmark (l : List RRow) (n : Int) (k : Nat) (r : RRow) (q : ROut) : ROut :=
  match leadI l r.item n with
  | none => q
  | some kk => (match l[kk]? with | none => q.1 | some x => if eqA (CV x.inst.call) (CV r.inst.call) = true then q.1 else q.1 ++ [⟨4, r.rep, r.item⟩], if kk = k then q.2 ++ [k] else q.2)
noncomputable def rrow (l : List RRow) (n : Int) (k : Nat) (r : RRow) (q : ROut) : ROut :=
  if (!goodI r.item n || !firstB (l.take k) r) = true then (q.1 ++ [⟨1, r.rep, r.item⟩], q.2)
  else if goodN r.inst n = false then (q.1 ++ [⟨2, r.rep, r.item⟩], q.2)
  else
    let q1 := if lessBal r.inst.prom r.inst.vote = true then (q.1 ++ [⟨3, r.rep, r.item⟩], q.2) else q
    if (r.inst.status == 3) = true then rmark l n k r q1 else q1
noncomputable def rstep (l : List RRow) (n : Int) (q : ROut) (k : Nat) : ROut := match l[k]? with | none => q | some r => rrow l n k r q
noncomputable def rrows (l : List RRow) (n : Int) : ROut := (List.range l.length).foldl (rstep l n) ([], [])
def rtieB (x y : RRow) : Bool := clashB x.inst.call.deed y.inst.call.deed && !hasD x.inst.call.deps y.item.rep y.item.num && !hasD y.inst.call.deps x.item.rep x.item.num
def rtie (l : List RRow) (lead : List Nat) (a : Nat) (o : List RFinding) (b : Nat) : List RFinding :=
  match lead[a]?, lead[b]? with
  | some i, some j => match l[i]?, l[j]? with
    | some x, some y => if rtieB x y = true then o ++ [⟨5, y.item.rep, y.item⟩] else o
    | _, _ => o
  | _, _ => o
noncomputable def rlookM (l : List RRow) (n : Int) : List RFinding :=
  (List.range (rrows l n).2.length).foldl (fun o a => (List.range a).foldl (rtie l (rrows l n).2 a) o) (rrows l n).1
/-- A row that is sound and committed is its item's first one or comes behind it. -/
theorem lead_some (l : List RRow) (n : Int) (k : Nat) (r : RRow) (hk : l[k]? = some r) (h1 : goodI r.item n = true) (h2 : firstB (l.take k) r = true) (h3 : goodN r.inst n = true) (h4 : (r.inst.status == 3) = true) :
    ∃ kk, leadI l r.item n = some kk ∧ kk < l.length := by
  have hlt : k < l.length := (List.getElem?_eq_some_iff.1 hk).1
  have hit : hitB l r.item n k = true := by
    unfold hitB; rw [hk]
    simp [eqA_refl, h4, soundB, h1, h2, h3]
  unfold leadI
  cases hf : (List.range l.length).find? (hitB l r.item n) with
  | none => exact absurd hit (List.find?_eq_none.1 hf k (List.mem_range.2 hlt))
  | some kk => exact ⟨kk, rfl, List.mem_range.1 (List.mem_of_find?_eq_some hf)⟩
end Go.Proofs.Ytahajjfbkdocaaa
