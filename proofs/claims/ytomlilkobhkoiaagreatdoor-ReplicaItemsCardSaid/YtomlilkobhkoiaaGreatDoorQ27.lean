/- Several texts in one. -/
import Derived.Test.YtomlilkobhkoiaaGreatDoorQ26
import Derived.Test.YtomlilkobhkoiaaGreatDoorQ24
import Derived.Maps.OwnIn
import Derived.OwnWalkIn
/- Layer 12: Top, Size, Next. -/
namespace Go.Proofs.YtomlilkobhkoiaaGreatDoor
open Go.RowKit
set_option linter.unusedVariables false
set_option maxRecDepth 20000
attribute [local go_sem] row_alloc row_drew row_drewN row_ext row_setCell row_setRow size_ext setRow_alloc setRow_drew loadOf storeOf piece_lit loadVal_at storeVal_at allOne_lit buildOf buildRes_some
attribute [local go_sem high] cell_alloc frozen_alloc setCell_alloc cell_ext frozen_ext cell_setRow frozen_setRow
attribute [local go_sem ↓] TDeed_ld0 TDeed_st0 TDeed_fd0 TDeed_bd0
attribute [local go_sem] TDeed_size TDeed_one TDeed_piece TDeed_c0 TDeed_c1 TDeed_c2 TDeed_c3 TDeed_c4 TDeed_c5 TDeed_set_kind TDeed_set_key TDeed_set_val TDeed_set_ver TDeed_set_ses TDeed_set_num TDeed_ld TDeed_st TDeed_f_kind TDeed_f_key TDeed_f_val TDeed_f_ver TDeed_f_ses TDeed_f_num TDeed_bd TDeed_fl TDeed_fl_kind TDeed_fl_key TDeed_fl_val TDeed_fl_ver TDeed_fl_ses TDeed_fl_num
attribute [local go_sem high] TDeed_eql TDeed_neq
attribute [local go_sem ↓] index_deps0 load_deps0 store_deps0
attribute [local go_sem] DV_piece DV_size DV_one index_deps load_deps store_deps
attribute [local go_sem high] TDeps_eql TDeps_neq
attribute [local go_sem ↓] TCall_ld0 TCall_st0 TCall_fd0 TCall_bd0
attribute [local go_sem] TCall_size TCall_one TCall_piece TCall_c0 TCall_c1 TCall_c2 TCall_c3 TCall_c4 TCall_c5 TCall_c6 TCall_c7 TCall_c8 TCall_c9 TCall_c10 TCall_c11 TCall_c12 TCall_c13 TCall_p_deed TCall_put_deed TCall_p_deps TCall_put_deps TCall_set_seq TCall_ld TCall_st TCall_f_deed TCall_f_deps TCall_f_seq TCall_bd TCall_fl TCall_fl_deed TCall_fl_deps TCall_fl_seq
attribute [local go_sem high] TCall_eql TCall_neq
attribute [local go_sem ↓] TItem_ld0 TItem_st0 TItem_fd0 TItem_bd0
attribute [local go_sem] TItem_size TItem_one TItem_piece TItem_c0 TItem_c1 TItem_set_rep TItem_set_num TItem_ld TItem_st TItem_f_rep TItem_f_num TItem_bd TItem_fl TItem_fl_rep TItem_fl_num
attribute [local go_sem high] TItem_eql TItem_neq
attribute [local go_sem ↓] TBallot_ld0 TBallot_st0 TBallot_fd0 TBallot_bd0
attribute [local go_sem] TBallot_size TBallot_one TBallot_piece TBallot_c0 TBallot_c1 TBallot_set_round TBallot_set_rep TBallot_ld TBallot_st TBallot_f_round TBallot_f_rep TBallot_bd TBallot_fl TBallot_fl_round TBallot_fl_rep
attribute [local go_sem high] TBallot_eql TBallot_neq
attribute [local go_sem ↓] TInst_ld0 TInst_st0 TInst_fd0 TInst_bd0
attribute [local go_sem] TInst_size TInst_one TInst_piece TInst_c0 TInst_c1 TInst_c2 TInst_c3 TInst_c4 TInst_c5 TInst_c6 TInst_c7 TInst_c8 TInst_c9 TInst_c10 TInst_c11 TInst_c12 TInst_c13 TInst_c14 TInst_c15 TInst_c16 TInst_c17 TInst_c18 TInst_c19 TInst_p_prom TInst_put_prom TInst_p_vote TInst_put_vote TInst_set_status TInst_p_call TInst_put_call TInst_set_same TInst_ld TInst_st TInst_f_prom TInst_f_vote TInst_f_status TInst_f_call TInst_f_same TInst_bd TInst_fl TInst_fl_prom TInst_fl_vote TInst_fl_status TInst_fl_call TInst_fl_same
attribute [local go_sem high] TInst_eql TInst_neq
section
variable {w W : World} {F : Nat → Prop} {R : List Res} {s lg p g bk bs : Nat} {I : Idx} {D : List UInt8} {safe : Nat} {m : RowsM}
theorem spTopT (hm : RowsOk m) (rep : Int) (T : Sts w F W (spL s lg p g bk bs I D safe m ++ R)) : Calls Tryz.prog 10 #[.pointer (some ⟨s, 0, none⟩), .int .i64 rep] W fun e W' => e = .returned (.int .i64 (topM m rep)) ∧ Below W.heap.size W W' := by
 have T0 : Sts w F W (idxR s lg bk bs I :: rowR lg (ledCells p g m.n) :: plR p D safe :: rowsIR g m :: R) := T
 obtain ⟨v, T1⟩ := T0.idxOpen
 have hc : W.cell? ⟨s, 0, none⟩ = some (.pointer (some ⟨lg, 0, none⟩)) := row_cell T1.row 0
 have hl := row_lt T1.row
 have T2 := T0.ord [1, 2, 3, 0]
 have T3 : Sts w F W (ledL lg p g D safe m ++ (idxR s lg bk bs I :: R)) := T2
 have HA := Lib.hid (ledTopT hm rep T3); clear T T0 T1 T2 T3
 go_enter Tryz.func10, Tryz.ntmps10
 go_wp2_with fail
 refine HA.out.mono ?_
 clear HA
 rintro e w1 ⟨rfl, hb⟩
 go_wp2
 go_ret
 exact ⟨rfl, hb⟩
theorem spSizeT (T : Sts w F W (spL s lg p g bk bs I D safe m ++ R)) : Calls Tryz.prog 46 #[.pointer (some ⟨s, 0, none⟩)] W fun e W' => e = .returned (.int .i64 m.n) ∧ W = W' := by
 have T0 : Sts w F W (idxR s lg bk bs I :: rowR lg (ledCells p g m.n) :: plR p D safe :: rowsIR g m :: R) := T
 obtain ⟨v, T1⟩ := T0.idxOpen
 have hc : W.cell? ⟨s, 0, none⟩ = some (.pointer (some ⟨lg, 0, none⟩)) := row_cell T1.row 0
 have hl := row_lt T1.row
 have HA := Lib.hid (ledSizeT (T0.ord [1, 0])); clear T T0 T1
 go_enter Tryz.func46, Tryz.ntmps46
 go_wp2_with fail
 refine HA.out.mono ?_
 clear HA
 rintro e w1 ⟨rfl, rfl⟩
 go_wp2
 go_ret
 exact ⟨rfl, rfl⟩
def canNext (m : RowsM) (rep : Int) : Bool := decide (0 ≤ rep) && decide (rep < m.n) && decide (topM m rep + 1 ≤ 64)
set_option maxHeartbeats 4000000 in
theorem spNextT (hm : RowsOk m) (rep : Int) (T : Sts w F W (spL s lg p g bk bs I D safe m ++ R)) : Calls Tryz.prog 21 #[.pointer (some ⟨s, 0, none⟩), .int .i64 rep] W fun e W' => e = .returned (.tuple #[.agg (IV ⟨rep, topM m rep + 1⟩), .bool (canNext m rep)]) ∧ Sts w F W' (spL s lg p g bk bs I D safe m ++ R) := by
 have T0 := T.new (IV noItem) 33
 have T9 : Sts w F (W.alloc (.cells (IV noItem) 33)) (spL s lg p g bk bs I D safe m ++ (rowR W.heap.size (IV noItem) :: R)) := T0.perm (perm_pre (M := [rowR W.heap.size (IV noItem)]) (X := spL s lg p g bk bs I D safe m) (R := R))
 have ht := spTopT hm rep T9
 have h0 := hm.top rep
 have HA := Lib.hid ht; have HT := Lib.hid T0; clear T T0 T9 ht
 go_enter Tryz.func21, Tryz.ntmps21
 go_wp2_with fail
 refine HA.out.mono ?_
 clear HA
 rintro e w1 ⟨rfl, hb⟩
 have T := HT.out.pure hb
 clear HT hb
 generalize hx : topM m rep = tp at *
 have T2 := T.new (IV ⟨rep, tp + 1⟩) 33
 have HT := Lib.hid T2; clear T T2
 go_upto_region 2 with fail
 generalize hw2 : w1.alloc _ = w2 at *
 generalize w1.heap.size = b6 at *
 generalize W.heap.size = b4 at *
 clear hw2
 have FS : ∀ W' R', Sts w F W' (rowR b6 (IV ⟨rep, tp + 1⟩) :: R') → (row? W' b6 = some (IV ⟨rep, tp + 1⟩) ∧ W'.cell? ⟨b6, 1, none⟩ = some (.int .i64 (tp + 1))) := fun W' R' T => ⟨T.row, row_cell T.row 1⟩
 have S0 := FS _ _ HT.out.drew
 have hm0 : ∀ W', (row? W' b6 = some (IV ⟨rep, tp + 1⟩) ∧ W'.cell? ⟨b6, 1, none⟩ = some (.int .i64 (tp + 1))) → (row? W' b6 = some (IV ⟨rep, tp + 1⟩) ∧ W'.cell? ⟨b6, 1, none⟩ = some (.int .i64 (tp + 1))) := fun _ h => h
 have HFS := Lib.hid FS; have HM := Lib.hid hm0; have HTD := Lib.hid HT.out.drew
 clear FS hm0 HT
 have hne : ∀ v : Value, True := fun _ => trivial
 have hcan : canNext m rep = (decide (0 ≤ rep) && decide (rep < m.n) && decide (tp + 1 ≤ 64)) := by unfold canNext; rw [hx]
 have HCAN := Lib.hid hcan; have HXX := Lib.hid hx; clear hcan hne hx
 refine wp_region_stage (fun W' => (row? W' b6 = some (IV ⟨rep, tp + 1⟩) ∧ W'.cell? ⟨b6, 1, none⟩ = some (.int .i64 (tp + 1)))) (fun W' => (row? W' b6 = some (IV ⟨rep, tp + 1⟩) ∧ W'.cell? ⟨b6, 1, none⟩ = some (.int .i64 (tp + 1)))) 18 (by kernel_rfl) S0 (fun hHeld => ?_)
 clear S0
 cases h1 : decide (0 ≤ rep)
 case false =>
  refine tk0 0 rfl ?_
  simp only [Act.put, List.setIfInBounds_toArray, List.set_cons_zero, List.set_cons_succ]
  refine tk1 1 HM.out rfl ?_
  simp only [Act.put, List.setIfInBounds_toArray, List.set_cons_zero, List.set_cons_succ]
  refine tk1 2 HM.out rfl ?_
  go_frame
  refine tk1 3 HM.out rfl ?_
  go_frame
  refine tk1 4 HM.out rfl ?_
  go_frame
  refine tk1 5 HM.out rfl ?_
  go_frame
  refine tk1 6 HM.out rfl ?_
  go_frame
  refine tk1 7 HM.out rfl ?_
  go_frame
  refine sk1 8 HM.out rfl ?_
  simp only [Act.put, List.setIfInBounds_toArray, List.set_cons_zero, List.set_cons_succ]
  refine sk1 9 HM.out rfl ?_
  go_frame
  refine sk1 10 HM.out rfl ?_
  go_frame
  refine sk1 11 HM.out rfl ?_
  go_frame
  refine tk1 12 HM.out rfl ?_
  simp only [Act.put, List.setIfInBounds_toArray, List.set_cons_zero, List.set_cons_succ]
  refine tk0 13 rfl ?_
  simp only [Act.put, List.setIfInBounds_toArray, List.set_cons_zero, List.set_cons_succ]
  refine sk1 14 HM.out rfl ?_
  simp only [Act.put, List.setIfInBounds_toArray, List.set_cons_zero, List.set_cons_succ]
  refine sk1 15 HM.out rfl ?_
  go_frame
  refine sk1 16 HM.out rfl ?_
  go_frame
  refine tk1 17 HM.out rfl ?_
  simp only [Act.put, List.setIfInBounds_toArray, List.set_cons_zero, List.set_cons_succ]
  have T5 := HTD.out.swap
  have r5 := T5.row; have l5 := row_lt r5
  have T6 := T5.setRow (IV ⟨rep, tp + 1⟩)
  have HT6 := Lib.hid T6; clear T5 T6 HTD
  refine wpAnyL_ready (rs := [18]) (by kernel_rfl) (by simp) ?_
  refine AllReadyL.cons1 (o := _) rfl (by kernel_rfl) (fun K hK => ?_) AllReadyL.nil
  go_simp
  refine hK.out _ _ (HFS.out _ _ HT6.out.swap) (fun hHeld => ?_)
  clear hK K r5 l5
  refine tk2 19 HM.out rfl ?_
  simp only [Act.put, List.setIfInBounds_toArray, List.set_cons_zero, List.set_cons_succ]
  refine wpAnyL_done (by kernel_rfl) ?_ _
  try simp only [Exit.then]
  have hce0 : canNext m rep = false := by
   have hh := HCAN.out
   simp [h1] at hh
   exact hh
  have hce := Lib.hid hce0; clear hce0
  go_wp2
  refine ret_row2 (IV ⟨rep, tp + 1⟩) TItem_und rfl (by kernel_rfl) rfl rfl rfl (TItem_size _) HT6.out.row ?_
  exact ⟨by rw [hce.out, HXX.out]; rfl, HT6.out.drop.drop⟩
 case true =>
  refine tk0 0 rfl ?_
  simp only [Act.put, List.setIfInBounds_toArray, List.set_cons_zero, List.set_cons_succ]
  refine tk1 1 HM.out rfl ?_
  simp only [Act.put, List.setIfInBounds_toArray, List.set_cons_zero, List.set_cons_succ]
  refine tk1 2 HM.out rfl ?_
  go_frame
  refine tk1 3 HM.out rfl ?_
  go_frame
  refine tk1 4 HM.out rfl ?_
  go_frame
  refine tk1 5 HM.out rfl ?_
  go_frame
  refine tk1 6 HM.out rfl ?_
  go_frame
  refine tk1 7 HM.out rfl ?_
  go_frame
  refine tk1 8 HM.out rfl ?_
  go_frame
  refine tk1 9 HM.out rfl ?_
  go_frame
  refine wpAnyL_ready (rs := [10]) (by kernel_rfl) (by simp) ?_
  refine AllReadyL.cons0 (o := _) rfl (by kernel_rfl) (fun K hK => ?_) AllReadyL.nil
  have T4 : Sts w F w2.drew (spL s lg p g bk bs I D safe m ++ (rowR b6 (IV ⟨rep, tp + 1⟩) :: rowR b4 (IV noItem) :: R)) := HTD.out.perm (perm_pre (M := [rowR b6 (IV ⟨rep, tp + 1⟩), rowR b4 (IV noItem)]) (X := spL s lg p g bk bs I D safe m) (R := R))
  have HSZ := Lib.hid (spSizeT T4); clear T4
  go_simp
  refine HSZ.out.mono ?_
  clear HSZ
  rintro e w3 ⟨rfl, rfl⟩
  refine hK.out _ _ (HFS.out _ _ HTD.out) (fun hHeld => ?_)
  clear hK K
  cases h2 : decide (rep < m.n)
  case false =>
   refine tk1 11 HM.out rfl ?_
   simp only [Act.put, List.setIfInBounds_toArray, List.set_cons_zero, List.set_cons_succ]
   refine tk1 12 HM.out rfl ?_
   go_frame
   refine tk0 13 rfl ?_
   simp only [Act.put, List.setIfInBounds_toArray, List.set_cons_zero, List.set_cons_succ]
   refine sk1 14 HM.out rfl ?_
   simp only [Act.put, List.setIfInBounds_toArray, List.set_cons_zero, List.set_cons_succ]
   refine sk1 15 HM.out rfl ?_
   go_frame
   refine sk1 16 HM.out rfl ?_
   go_frame
   refine tk1 17 HM.out rfl ?_
   simp only [Act.put, List.setIfInBounds_toArray, List.set_cons_zero, List.set_cons_succ]
   have T5 := HTD.out.swap
   have r5 := T5.row; have l5 := row_lt r5
   have T6 := T5.setRow (IV ⟨rep, tp + 1⟩)
   have HT6 := Lib.hid T6; clear T5 T6 HTD
   refine wpAnyL_ready (rs := [18]) (by kernel_rfl) (by simp) ?_
   refine AllReadyL.cons1 (o := _) rfl (by kernel_rfl) (fun K hK => ?_) AllReadyL.nil
   go_simp
   refine hK.out _ _ (HFS.out _ _ HT6.out.swap) (fun hHeld => ?_)
   clear hK K r5 l5
   refine tk2 19 HM.out rfl ?_
   simp only [Act.put, List.setIfInBounds_toArray, List.set_cons_zero, List.set_cons_succ]
   refine wpAnyL_done (by kernel_rfl) ?_ _
   try simp only [Exit.then]
   have hce0 : canNext m rep = false := by
    have hh := HCAN.out
    simp [h2] at hh
    exact hh
   have hce := Lib.hid hce0; clear hce0
   go_wp2
   refine ret_row2 (IV ⟨rep, tp + 1⟩) TItem_und rfl (by kernel_rfl) rfl rfl rfl (TItem_size _) HT6.out.row ?_
   exact ⟨by rw [hce.out, HXX.out]; rfl, HT6.out.drop.drop⟩
  case true =>
   cases h3 : decide (tp + 1 ≤ 64)
   case false =>
    refine tk1 11 HM.out rfl ?_
    simp only [Act.put, List.setIfInBounds_toArray, List.set_cons_zero, List.set_cons_succ]
    refine tk1 12 HM.out rfl ?_
    go_frame
    refine tk0 13 rfl ?_
    simp only [Act.put, List.setIfInBounds_toArray, List.set_cons_zero, List.set_cons_succ]
    refine tk1 14 HM.out rfl ?_
    simp only [Act.put, List.setIfInBounds_toArray, List.set_cons_zero, List.set_cons_succ]
    refine tk1 15 HM.out rfl ?_
    go_frame
    refine tk1 16 HM.out rfl ?_
    go_frame
    refine tk1 17 HM.out rfl ?_
    go_frame
    have T5 := HTD.out.swap
    have r5 := T5.row; have l5 := row_lt r5
    have T6 := T5.setRow (IV ⟨rep, tp + 1⟩)
    have HT6 := Lib.hid T6; clear T5 T6 HTD
    refine wpAnyL_ready (rs := [18]) (by kernel_rfl) (by simp) ?_
    refine AllReadyL.cons1 (o := _) rfl (by kernel_rfl) (fun K hK => ?_) AllReadyL.nil
    go_simp
    refine hK.out _ _ (HFS.out _ _ HT6.out.swap) (fun hHeld => ?_)
    clear hK K r5 l5
    refine tk2 19 HM.out rfl ?_
    simp only [Act.put, List.setIfInBounds_toArray, List.set_cons_zero, List.set_cons_succ]
    refine wpAnyL_done (by kernel_rfl) ?_ _
    try simp only [Exit.then]
    have hce0 : canNext m rep = false := by
     have hh := HCAN.out
     simp [h3] at hh
     exact hh
    have hce := Lib.hid hce0; clear hce0
    go_wp2
    refine ret_row2 (IV ⟨rep, tp + 1⟩) TItem_und rfl (by kernel_rfl) rfl rfl rfl (TItem_size _) HT6.out.row ?_
    exact ⟨by rw [hce.out, HXX.out]; rfl, HT6.out.drop.drop⟩
   case true =>
    refine tk1 11 HM.out rfl ?_
    simp only [Act.put, List.setIfInBounds_toArray, List.set_cons_zero, List.set_cons_succ]
    refine tk1 12 HM.out rfl ?_
    go_frame
    refine tk0 13 rfl ?_
    simp only [Act.put, List.setIfInBounds_toArray, List.set_cons_zero, List.set_cons_succ]
    refine tk1 14 HM.out rfl ?_
    simp only [Act.put, List.setIfInBounds_toArray, List.set_cons_zero, List.set_cons_succ]
    refine tk1 15 HM.out rfl ?_
    go_frame
    refine tk1 16 HM.out rfl ?_
    go_frame
    refine tk1 17 HM.out rfl ?_
    go_frame
    have T5 := HTD.out.swap
    have r5 := T5.row; have l5 := row_lt r5
    have T6 := T5.setRow (IV ⟨rep, tp + 1⟩)
    have HT6 := Lib.hid T6; clear T5 T6 HTD
    refine wpAnyL_ready (rs := [18]) (by kernel_rfl) (by simp) ?_
    refine AllReadyL.cons1 (o := _) rfl (by kernel_rfl) (fun K hK => ?_) AllReadyL.nil
    go_simp
    refine hK.out _ _ (HFS.out _ _ HT6.out.swap) (fun hHeld => ?_)
    clear hK K r5 l5
    refine tk2 19 HM.out rfl ?_
    simp only [Act.put, List.setIfInBounds_toArray, List.set_cons_zero, List.set_cons_succ]
    refine wpAnyL_done (by kernel_rfl) ?_ _
    try simp only [Exit.then]
    have hce0 : canNext m rep = true := by
     have hh := HCAN.out
     simp [h1, h2, h3] at hh
     exact hh
    have hce := Lib.hid hce0; clear hce0
    go_wp2
    refine ret_row2 (IV ⟨rep, tp + 1⟩) TItem_und rfl (by kernel_rfl) rfl rfl rfl (TItem_size _) HT6.out.row ?_
    exact ⟨by rw [hce.out, HXX.out]; rfl, HT6.out.drop.drop⟩
end
end Go.Proofs.YtomlilkobhkoiaaGreatDoor
/- Layer 12: all that is known, one by one (Space.All). -/
namespace Go.Proofs.YtomlilkobhkoiaaGreatDoor
open Go.RowKit Go.Shelf
set_option linter.unusedVariables false
set_option maxRecDepth 20000
attribute [local go_sem] Oper.semAt_some
attribute [local go_sem] row_alloc row_drew row_drewN row_ext row_setCell row_setRow size_ext setRow_alloc setRow_drew loadOf storeOf piece_lit loadVal_at storeVal_at allOne_lit buildOf buildRes_some
attribute [local go_sem high] cell_alloc frozen_alloc setCell_alloc cell_ext frozen_ext cell_setRow frozen_setRow
attribute [local go_sem ↓] TDeed_ld0 TDeed_st0 TDeed_fd0 TDeed_bd0
attribute [local go_sem] TDeed_size TDeed_one TDeed_piece TDeed_c0 TDeed_c1 TDeed_c2 TDeed_c3 TDeed_c4 TDeed_c5 TDeed_set_kind TDeed_set_key TDeed_set_val TDeed_set_ver TDeed_set_ses TDeed_set_num TDeed_ld TDeed_st TDeed_f_kind TDeed_f_key TDeed_f_val TDeed_f_ver TDeed_f_ses TDeed_f_num TDeed_bd TDeed_fl TDeed_fl_kind TDeed_fl_key TDeed_fl_val TDeed_fl_ver TDeed_fl_ses TDeed_fl_num
attribute [local go_sem high] TDeed_eql TDeed_neq
attribute [local go_sem ↓] index_deps0 load_deps0 store_deps0
attribute [local go_sem] DV_piece DV_size DV_one index_deps load_deps store_deps
attribute [local go_sem high] TDeps_eql TDeps_neq
attribute [local go_sem ↓] TCall_ld0 TCall_st0 TCall_fd0 TCall_bd0
attribute [local go_sem] TCall_size TCall_one TCall_piece TCall_c0 TCall_c1 TCall_c2 TCall_c3 TCall_c4 TCall_c5 TCall_c6 TCall_c7 TCall_c8 TCall_c9 TCall_c10 TCall_c11 TCall_c12 TCall_c13 TCall_p_deed TCall_put_deed TCall_p_deps TCall_put_deps TCall_set_seq TCall_ld TCall_st TCall_f_deed TCall_f_deps TCall_f_seq TCall_bd TCall_fl TCall_fl_deed TCall_fl_deps TCall_fl_seq
attribute [local go_sem high] TCall_eql TCall_neq
attribute [local go_sem ↓] TItem_ld0 TItem_st0 TItem_fd0 TItem_bd0
attribute [local go_sem] TItem_size TItem_one TItem_piece TItem_c0 TItem_c1 TItem_set_rep TItem_set_num TItem_ld TItem_st TItem_f_rep TItem_f_num TItem_bd TItem_fl TItem_fl_rep TItem_fl_num
attribute [local go_sem high] TItem_eql TItem_neq
attribute [local go_sem ↓] TBallot_ld0 TBallot_st0 TBallot_fd0 TBallot_bd0
attribute [local go_sem] TBallot_size TBallot_one TBallot_piece TBallot_c0 TBallot_c1 TBallot_set_round TBallot_set_rep TBallot_ld TBallot_st TBallot_f_round TBallot_f_rep TBallot_bd TBallot_fl TBallot_fl_round TBallot_fl_rep
attribute [local go_sem high] TBallot_eql TBallot_neq
attribute [local go_sem ↓] TInst_ld0 TInst_st0 TInst_fd0 TInst_bd0
attribute [local go_sem] TInst_size TInst_one TInst_piece TInst_c0 TInst_c1 TInst_c2 TInst_c3 TInst_c4 TInst_c5 TInst_c6 TInst_c7 TInst_c8 TInst_c9 TInst_c10 TInst_c11 TInst_c12 TInst_c13 TInst_c14 TInst_c15 TInst_c16 TInst_c17 TInst_c18 TInst_c19 TInst_p_prom TInst_put_prom TInst_p_vote TInst_put_vote TInst_set_status TInst_p_call TInst_put_call TInst_set_same TInst_ld TInst_st TInst_f_prom TInst_f_vote TInst_f_status TInst_f_call TInst_f_same TInst_bd TInst_fl TInst_fl_prom TInst_fl_vote TInst_fl_status TInst_fl_call TInst_fl_same
attribute [local go_sem high] TInst_eql TInst_neq
section
variable {P : Program} {w W : World} {F : Nat → Prop} {R : List Res} {Fe : Fence} {nF : Nat}
theorem wpListIn_append_vec {ops : Array Oper} {rest : List Oper} {o : Oper} {a : Act} {Q : Exit → Act → World → Prop} (hgd : o.guard = none) (s x : Operand) (t : TypeId)
  (ho : o.op = .call { callee := .builtin .append, args := #[s, x], argTypes := #[t, t] })
  (e : TypeId) (i : TypeInfo) (z : Value) (size bytes : Nat) (ht : P.underlying t = some (.slice e)) (hi : P.info? e = some i) (hz : i.zero = some z)
  (hsize : i.size = size) (hby : i.bytes = bytes) (hzs : z.cells.size = size) (hsz : 0 < size)
  (v : Value) (n : Nat) (xs : List Value) (hs : a.eval s = v) (T : Sts w F W (vecR e size v n xs :: R))
  (ad : Addr) (m c : Nat) (news : List Value) (hx : a.eval x = .slice (some ad) m c) (hl : news.length = m * size) (hnews : ∀ j u, news[j]? = some u → W.cell? (ad.add j) = some u) (h1 : ∀ u ∈ news, u.oneCell' = true)
  (h63 : n + m ≤ maxLen) (hbytes : (n + m) * bytes ≤ 140737488355328)
  (h : ∀ v' w', Sts w F w' (vecR e size v' (n + m) (xs ++ news) :: R) → wpListIn Fe nF P ops Q rest (a.put o.dst v') w') :
  wpListIn Fe nF P ops Q (o :: rest) a W :=
 wpListIn_append_own_at (P := P) (w := W) hgd s x t ho 0 e i z size bytes ht hi hz hsize hby hzs hsz v n xs hs T.vec ad m c news hx hl hnews h1 h63 hbytes (Nat.zero_le _)
  fun v' w' ho' hg' _ hf' => h v' w' (T.grown ho' hg' hf')
end
abbrev allF (c : Nat) : Value := .func (.func 109) #[] #[.pointer (some ⟨c, 0, none⟩)]
section
variable {w W : World} {F : Nat → Prop} {R : List Res} {s lg p g bk bs : Nat} {I : Idx} {D : List UInt8} {safe : Nat} {m : RowsM}
theorem spAllT (T : Sts w F W (spL s lg p g bk bs I D safe m ++ R)) : Calls Tryz.prog 16 #[.pointer (some ⟨s, 0, none⟩)] W fun e W' => ∃ c, e = .returned (allF c) ∧ Sts w F W' (iterIR c g m ++ (idxR s lg bk bs I :: rowR lg (ledCells p g m.n) :: plR p D safe :: R)) := by
 have T : Sts w F W (idxR s lg bk bs I :: rowR lg (ledCells p g m.n) :: plR p D safe :: rowsIR g m :: R) := T
 obtain ⟨v, T⟩ := T.idxOpen
 have hc : W.cell? ⟨s, 0, none⟩ = some (.pointer (some ⟨lg, 0, none⟩)) := row_cell T.row 0
 have hl := row_lt T.row
 have HA := Lib.hid (ledAllT (T.ord [4, 0, 1, 2, 3, 5, 6])); clear T
 go_enter Tryz.func16, Tryz.ntmps16
 go_wp2_with fail
 refine HA.out.mono ?_
 clear HA
 rintro e w1 ⟨rfl, T⟩
 have T2 := (T.ord [2, 3, 4, 5, 0, 1, 6, 7]).idxShut
 have T3 := T2.ord [1, 4, 0, 2, 3]
 have HT := Lib.hid T3; clear T T2 T3 hc hl
 go_wp2
 go_ret
 exact ⟨_, rfl, HT.out⟩
end
end Go.Proofs.YtomlilkobhkoiaaGreatDoor
/- Layer 12: At, Sync; a nil space. -/
namespace Go.Proofs.YtomlilkobhkoiaaGreatDoor
open Go.RowKit
set_option linter.unusedVariables false
set_option maxRecDepth 20000
attribute [local go_sem] row_alloc row_drew row_drewN row_ext row_setCell row_setRow size_ext setRow_alloc setRow_drew loadOf storeOf piece_lit loadVal_at storeVal_at allOne_lit buildOf buildRes_some
attribute [local go_sem high] cell_alloc frozen_alloc setCell_alloc cell_ext frozen_ext cell_setRow frozen_setRow
attribute [local go_sem ↓] TDeed_ld0 TDeed_st0 TDeed_fd0 TDeed_bd0
attribute [local go_sem] TDeed_size TDeed_one TDeed_piece TDeed_c0 TDeed_c1 TDeed_c2 TDeed_c3 TDeed_c4 TDeed_c5 TDeed_set_kind TDeed_set_key TDeed_set_val TDeed_set_ver TDeed_set_ses TDeed_set_num TDeed_ld TDeed_st TDeed_f_kind TDeed_f_key TDeed_f_val TDeed_f_ver TDeed_f_ses TDeed_f_num TDeed_bd TDeed_fl TDeed_fl_kind TDeed_fl_key TDeed_fl_val TDeed_fl_ver TDeed_fl_ses TDeed_fl_num
attribute [local go_sem high] TDeed_eql TDeed_neq
attribute [local go_sem ↓] index_deps0 load_deps0 store_deps0
attribute [local go_sem] DV_piece DV_size DV_one index_deps load_deps store_deps
attribute [local go_sem high] TDeps_eql TDeps_neq
attribute [local go_sem ↓] TCall_ld0 TCall_st0 TCall_fd0 TCall_bd0
attribute [local go_sem] TCall_size TCall_one TCall_piece TCall_c0 TCall_c1 TCall_c2 TCall_c3 TCall_c4 TCall_c5 TCall_c6 TCall_c7 TCall_c8 TCall_c9 TCall_c10 TCall_c11 TCall_c12 TCall_c13 TCall_p_deed TCall_put_deed TCall_p_deps TCall_put_deps TCall_set_seq TCall_ld TCall_st TCall_f_deed TCall_f_deps TCall_f_seq TCall_bd TCall_fl TCall_fl_deed TCall_fl_deps TCall_fl_seq
attribute [local go_sem high] TCall_eql TCall_neq
attribute [local go_sem ↓] TItem_ld0 TItem_st0 TItem_fd0 TItem_bd0
attribute [local go_sem] TItem_size TItem_one TItem_piece TItem_c0 TItem_c1 TItem_set_rep TItem_set_num TItem_ld TItem_st TItem_f_rep TItem_f_num TItem_bd TItem_fl TItem_fl_rep TItem_fl_num
attribute [local go_sem high] TItem_eql TItem_neq
attribute [local go_sem ↓] TBallot_ld0 TBallot_st0 TBallot_fd0 TBallot_bd0
attribute [local go_sem] TBallot_size TBallot_one TBallot_piece TBallot_c0 TBallot_c1 TBallot_set_round TBallot_set_rep TBallot_ld TBallot_st TBallot_f_round TBallot_f_rep TBallot_bd TBallot_fl TBallot_fl_round TBallot_fl_rep
attribute [local go_sem high] TBallot_eql TBallot_neq
attribute [local go_sem ↓] TInst_ld0 TInst_st0 TInst_fd0 TInst_bd0
attribute [local go_sem] TInst_size TInst_one TInst_piece TInst_c0 TInst_c1 TInst_c2 TInst_c3 TInst_c4 TInst_c5 TInst_c6 TInst_c7 TInst_c8 TInst_c9 TInst_c10 TInst_c11 TInst_c12 TInst_c13 TInst_c14 TInst_c15 TInst_c16 TInst_c17 TInst_c18 TInst_c19 TInst_p_prom TInst_put_prom TInst_p_vote TInst_put_vote TInst_set_status TInst_p_call TInst_put_call TInst_set_same TInst_ld TInst_st TInst_f_prom TInst_f_vote TInst_f_status TInst_f_call TInst_f_same TInst_bd TInst_fl TInst_fl_prom TInst_fl_vote TInst_fl_status TInst_fl_call TInst_fl_same
attribute [local go_sem high] TInst_eql TInst_neq
section
variable {w W : World} {F : Nat → Prop} {R : List Res} {s lg p g bk bs : Nat} {I : Idx} {D : List UInt8} {safe : Nat} {m : RowsM}
theorem spSyncT (T : Sts w F W (spL s lg p g bk bs I D safe m ++ R)) : Calls Tryz.prog 29 #[.pointer (some ⟨s, 0, none⟩)] W fun e W' => e = .returned (.int .i64 0) ∧ Sts w F W' (spL s lg p g bk bs I D D.length m ++ R) := by
 have T0 : Sts w F W (idxR s lg bk bs I :: rowR lg (ledCells p g m.n) :: plR p D safe :: rowsIR g m :: R) := T
 obtain ⟨v, T1⟩ := T0.idxOpen
 have hc : W.cell? ⟨s, 0, none⟩ = some (.pointer (some ⟨lg, 0, none⟩)) := row_cell T1.row 0
 have hl := row_lt T1.row
 have T2 := T0.ord [1, 2, 3, 0]
 have T2 : Sts w F W (ledL lg p g D safe m ++ (idxR s lg bk bs I :: R)) := T2
 have HA := Lib.hid (ledSyncT T2); clear T T0 T1 T2
 go_enter Tryz.func29, Tryz.ntmps29
 go_wp2_with fail
 refine HA.out.mono ?_
 clear HA
 rintro e w1 ⟨rfl, T⟩
 have T3 : Sts w F w1 (rowR lg (ledCells p g m.n) :: plR p D D.length :: rowsIR g m :: idxR s lg bk bs I :: R) := T
 have HT := Lib.hid (T3.ord [3, 0, 1, 2]); clear T T3
 go_wp2
 go_ret
 exact ⟨rfl, HT.out⟩
set_option maxHeartbeats 2000000 in
theorem spAtR (s lg p g bk bs : Nat) (I : Idx) (D : List UInt8) (safe : Nat) (m : RowsM) (hm : RowsOk m) (x : Item) : Reads Tryz.prog 146 #[.pointer (some ⟨s, 0, none⟩), .agg (IV x)] (spL s lg p g bk bs I D safe m) (.agg (NV ((getM m x).getD noInst))) := by
 intro W G hS
 obtain ⟨w3, hw3⟩ : ∃ w3, w3 = (W.alloc (.cells (IV x) 33)).alloc (.cells (NV noInst) 70) := ⟨_, rfl⟩
 have T := ((Sts.start0 W).new (IV x) 33).new (NV noInst) 70
 simp only [World.size_alloc] at T
 rw [← hw3] at T
 rw [noInst_lit] at hw3
 obtain ⟨v, TS⟩ := (Sts.start hS).idxOpen
 have TS : Sts W G W [rowR s (spCells lg bk v bs), vecR 33 2 v I.lists.length (vl IV I.lists), keysR bk I.N I.keys, sesR bs I.N I.ses, rowR lg (ledCells p g m.n), plR p D safe, rowsIR g m] := TS
 have hlW := row_lt TS.row
 have hrl : ∀ W' R', Sts W (fun _ => False) W' R' → (W'.cell? ⟨s, 0, none⟩ = some (.pointer (some ⟨lg, 0, none⟩)) ∧ s < W'.heap.size) := fun W' R' T => by
  have r := (row_below T.below hlW).trans TS.row
  exact ⟨row_cell r 0, row_lt r⟩
 have hat : ∀ W' R', Sts W (fun _ => False) W' R' → Calls Tryz.prog 48 #[.pointer (some ⟨lg, 0, none⟩), .agg (IV x)] W' fun e W'' => e = .returned (.agg (NV ((getM m x).getD noInst))) ∧ Below W'.heap.size W' W'' := fun W' R' T => by
  have T9 := (TS.pure T.below).ord [4, 5, 6, 0, 1, 2, 3]
  exact (ledAtR lg p g D safe m hm x).at (R := [rowR s (spCells lg bk v bs), vecR 33 2 v I.lists.length (vl IV I.lists), keysR bk I.N I.keys, sesR bs I.N I.ses]) T9
 have HRL := Lib.hid hrl; have HAT := Lib.hid hat
 clear hrl hat TS hS
 obtain ⟨c0, l0⟩ := HRL.out w3 _ T
 go_enter Tryz.func146, Tryz.ntmps146
 go_wp2_with fail
 rw [← hw3]
 clear hw3
 generalize hg2 : W.heap.size + 1 = g2 at *
 generalize hg1 : W.heap.size = g1 at *
 have FS : ∀ W' R', Sts W (fun _ => False) W' (rowR g1 (IV x) :: R') → (W'.cell? ⟨s, 0, none⟩ = some (.pointer (some ⟨lg, 0, none⟩)) ∧ row? W' g1 = some (IV x)) := fun W' R' T => ⟨(HRL.out W' _ T).1, T.row⟩
 have S0 := FS _ _ T.drew.swap
 have HFS := Lib.hid FS
 have HT := Lib.hid T.drew
 clear FS T c0 l0 HRL
 generalize hres : (getM m x).getD noInst = res at *
 refine wp_region_stage (fun W' => (W'.cell? ⟨s, 0, none⟩ = some (.pointer (some ⟨lg, 0, none⟩)) ∧ row? W' g1 = some (IV x))) (fun W' => True) 6 (by kernel_rfl) S0 (fun hHeld => ?_)
 clear S0
 refine tk0 0 rfl ?_
 simp only [Act.put, List.setIfInBounds_toArray, List.set_cons_zero, List.set_cons_succ]
 refine tk0 1 rfl ?_
 go_frame
 refine tk0 2 rfl ?_
 go_frame
 refine tk0 3 rfl ?_
 go_frame
 refine tk0 4 rfl ?_
 go_frame
 refine wpAnyL_ready (rs := [5]) (by kernel_rfl) (by simp) ?_
 refine AllReadyL.cons0 (o := _) rfl (by kernel_rfl) (fun K hK => ?_) AllReadyL.nil
 go_simp
 refine (HAT.out _ _ HT.out).mono ?_
 rintro e w4 ⟨rfl, hb⟩
 have T1 := HT.out.pure hb
 clear hb HT HAT
 refine hK.out _ _ ?_ (fun hHeld => ?_)
 ·exact HFS.out _ _ T1.swap
 clear hK K
 refine wpAnyL_ready (rs := [6]) (by kernel_rfl) (by simp) ?_
 refine AllReadyL.cons1 (o := _) rfl (by kernel_rfl) (fun K hK => ?_) AllReadyL.nil
 have r2 := T1.row; have l2 := row_lt r2
 rw [noInst_lit] at r2
 have T2 := T1.setRow (NV res)
 have HT2 := Lib.hid T2; clear T1 T2
 go_simp
 refine hK.out _ _ trivial (fun hHeld => ?_)
 clear hK K r2 l2
 refine wpAnyL_done (by kernel_rfl) ?_ _
 try simp only [Exit.then]
 generalize w4.setRow _ _ = w5 at *
 go_wp2
 refine ret_row (NV res) TInst_und rfl (by kernel_rfl) rfl rfl rfl (TInst_size _) HT2.out.row ?_
 exact ⟨by rw [hres], by first | exact HT2.out.below | (rw [hg1]; exact HT2.out.below) | (rw [← hg1]; exact HT2.out.below)⟩
end
end Go.Proofs.YtomlilkobhkoiaaGreatDoor
