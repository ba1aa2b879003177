/- Several texts in one. -/
import Derived.Test.YtomlilkobhkoiaaGreatDoorQ40
import Derived.Test.YtomlilkobhkoiaaGreatDoorQ30
/- Layer 15: Answer. -/
namespace Go.Proofs.YtomlilkobhkoiaaGreatDoor
open Go.RowKit
set_option linter.unusedVariables false
set_option maxRecDepth 20000
attribute [local go_sem] row_alloc row_drew row_drewN row_ext row_setCell row_setRow size_ext setRow_alloc setRow_drew loadOf storeOf piece_lit loadVal_at storeVal_at allOne_lit buildOf buildRes_some
attribute [local go_sem high] cell_alloc frozen_alloc setCell_alloc cell_ext frozen_ext cell_setRow frozen_setRow
attribute [local go_sem ↓] TDeed_ld0 TDeed_st0 TDeed_fd0 TDeed_bd0
attribute [local go_sem] TDeed_size TDeed_one TDeed_piece TDeed_c0 TDeed_c1 TDeed_c2 TDeed_c3 TDeed_c4 TDeed_c5 TDeed_set_kind TDeed_set_key TDeed_set_val TDeed_set_ver TDeed_set_ses TDeed_set_num TDeed_ld TDeed_st TDeed_f_kind TDeed_f_key TDeed_f_val TDeed_f_ver TDeed_f_ses TDeed_f_num TDeed_bd TDeed_fl TDeed_fl_kind TDeed_fl_key TDeed_fl_val TDeed_fl_ver TDeed_fl_ses TDeed_fl_num
attribute [local go_sem high] TDeed_eql TDeed_neq
attribute [local go_sem ↓] index_deps0 load_deps0 store_deps0
attribute [local go_sem] DV_piece DV_size DV_one index_deps load_deps store_deps
attribute [local go_sem high] TDeps_eql TDeps_neq
attribute [local go_sem ↓] TCall_ld0 TCall_st0 TCall_fd0 TCall_bd0
attribute [local go_sem] TCall_size TCall_one TCall_piece TCall_c0 TCall_c1 TCall_c2 TCall_c3 TCall_c4 TCall_c5 TCall_c6 TCall_c7 TCall_c8 TCall_c9 TCall_c10 TCall_c11 TCall_c12 TCall_c13 TCall_p_deed TCall_put_deed TCall_p_deps TCall_put_deps TCall_set_seq TCall_ld TCall_st TCall_f_deed TCall_f_deps TCall_f_seq TCall_bd TCall_fl TCall_fl_deed TCall_fl_deps TCall_fl_seq
attribute [local go_sem high] TCall_eql TCall_neq
attribute [local go_sem ↓] TItem_ld0 TItem_st0 TItem_fd0 TItem_bd0
attribute [local go_sem] TItem_size TItem_one TItem_piece TItem_c0 TItem_c1 TItem_set_rep TItem_set_num TItem_ld TItem_st TItem_f_rep TItem_f_num TItem_bd TItem_fl TItem_fl_rep TItem_fl_num
attribute [local go_sem high] TItem_eql TItem_neq
attribute [local go_sem ↓] TBallot_ld0 TBallot_st0 TBallot_fd0 TBallot_bd0
attribute [local go_sem] TBallot_size TBallot_one TBallot_piece TBallot_c0 TBallot_c1 TBallot_set_round TBallot_set_rep TBallot_ld TBallot_st TBallot_f_round TBallot_f_rep TBallot_bd TBallot_fl TBallot_fl_round TBallot_fl_rep
attribute [local go_sem high] TBallot_eql TBallot_neq
attribute [local go_sem ↓] TInst_ld0 TInst_st0 TInst_fd0 TInst_bd0
attribute [local go_sem] TInst_size TInst_one TInst_piece TInst_c0 TInst_c1 TInst_c2 TInst_c3 TInst_c4 TInst_c5 TInst_c6 TInst_c7 TInst_c8 TInst_c9 TInst_c10 TInst_c11 TInst_c12 TInst_c13 TInst_c14 TInst_c15 TInst_c16 TInst_c17 TInst_c18 TInst_c19 TInst_p_prom TInst_put_prom TInst_p_vote TInst_put_vote TInst_set_status TInst_p_call TInst_put_call TInst_set_same TInst_ld TInst_st TInst_f_prom TInst_f_vote TInst_f_status TInst_f_call TInst_f_same TInst_bd TInst_fl TInst_fl_prom TInst_fl_vote TInst_fl_status TInst_fl_call TInst_fl_same
attribute [local go_sem high] TInst_eql TInst_neq
attribute [local go_sem ↓] TMsg_ld0 TMsg_st0 TMsg_fd0 TMsg_bd0
attribute [local go_sem] TMsg_size TMsg_one TMsg_piece TMsg_c0 TMsg_c1 TMsg_c2 TMsg_c3 TMsg_c4 TMsg_c5 TMsg_c6 TMsg_c7 TMsg_c8 TMsg_c9 TMsg_c10 TMsg_c11 TMsg_c12 TMsg_c13 TMsg_c14 TMsg_c15 TMsg_c16 TMsg_c17 TMsg_c18 TMsg_c19 TMsg_c20 TMsg_c21 TMsg_c22 TMsg_c23 TMsg_c24 TMsg_set_kind TMsg_set_frm TMsg_set_to TMsg_p_item TMsg_put_item TMsg_p_bal TMsg_put_bal TMsg_p_vote TMsg_put_vote TMsg_set_status TMsg_set_same TMsg_p_call TMsg_put_call TMsg_ld TMsg_st TMsg_f_kind TMsg_f_frm TMsg_f_to TMsg_f_item TMsg_f_bal TMsg_f_vote TMsg_f_status TMsg_f_same TMsg_f_call TMsg_bd TMsg_fl TMsg_fl_kind TMsg_fl_frm TMsg_fl_to TMsg_fl_item TMsg_fl_bal TMsg_fl_vote TMsg_fl_status TMsg_fl_same TMsg_fl_call
attribute [local go_sem high] TMsg_eql TMsg_neq
theorem refM_out {x : Msg} {i : Inst} (h : (refM x i).ok = false) : (refM x i).out = noMsg := by
 unfold refM at h ⊢
 split at h
 ·cases h
 ·rename_i h1; rw [if_neg h1]; rfl
theorem preM_out {m : RowsM} {x : Msg} {i : Inst} (h : (preM m x i).ok = false) : (preM m x i).out = noMsg := by
 unfold preM at h ⊢
 split at h
 ·cases h
 ·rename_i h1; rw [if_neg h1]; exact refM_out h
theorem accM_out {x : Msg} {i : Inst} (h : (accM x i).ok = false) : (accM x i).out = noMsg := by
 unfold accM at h ⊢
 split at h
 ·cases h
 ·rename_i h1; rw [if_neg h1]; exact refM_out h
theorem prmM_out {x : Msg} {i : Inst} (h : (prmM x i).ok = false) : (prmM x i).out = noMsg := by
 unfold prmM at h ⊢
 split at h
 ·cases h
 ·rename_i h1; rw [if_neg h1]; exact refM_out h
set_option maxHeartbeats 16000000 in
theorem vans {n : Int} {k : Nat} {I : Idx} {D : List UInt8} {m : RowsM} (hv : VotI n k I D m) (hk : k ≤ 100) {safe s lg p g bk bs : Nat} (self : Int) (x : Msg) {t : TypeId} {w W : World} {F : Nat → Prop} {R : List Res} (T : Sts w F W (spL s lg p g bk bs I D safe m ++ kndR t :: R)) :
  Calls Tryz.prog 94 #[.pointer (some ⟨s, 0, none⟩), .int .i64 self, .agg (MV x)] W (VotPost n k s lg p g bk bs m x.item (ansM m self x) w F (kndR t :: R)) := by
 have hmn := hv.sp.mn
 have hat := spAtR s lg p g bk bs I D safe m hv.sp.ok x.item
 have hst : (getM m x.item).getD noInst = atM m x.item := rfl
 rw [hst] at hat; clear hst
 obtain ⟨i, hi⟩ : ∃ i, i = atM m x.item := ⟨_, rfl⟩
 rw [← hi] at hat
 have hns : nowR m x.item i = m := nowR_same hi.symm
 have hgd := mailGood_any x n
 rw [← hmn] at hgd
 have T1 : Sts w F W (idxR s lg bk bs I :: rowR lg (ledCells p g m.n) :: plR p D safe :: rowsIR g m :: kndR t :: R) := T
 have T2 := ((T1.new (MV x) 136).new (MV noMsg) 136).ord [2, 3, 4, 5, 0, 1, 6]
 simp only [World.size_alloc] at T2
 have T2 : Sts w F ((W.alloc (.cells (MV x) 136)).alloc (.cells #[.int .i64 0, .int .i64 0, .int .i64 0, .int .i64 0, .int .i64 0, .int .i64 0, .int .i64 0, .int .i64 0, .int .i64 0, .int .i64 0, .bool false, .int .i64 0, .string { data := #[] }, .string { data := #[] }, .int .i64 0, .int .i64 0, .int .i64 0, .int .i64 0, .int .i64 0, .int .i64 0, .int .i64 0, .int .i64 0, .int .i64 0, .int .i64 0, .int .i64 0] 136)) (idxR s lg bk bs I :: rowR lg (ledCells p g m.n) :: plR p D safe :: rowsIR g m :: rowR (W.heap.size + 1) (MV noMsg) :: rowR W.heap.size (MV x) :: kndR t :: R) := T2
 have hno : ∀ e : Ending, ∀ W', ansM m self x = noAns i → e = .returned (.tuple #[.agg (MV noMsg), .bool false]) → Sts w F W' (idxR s lg bk bs I :: rowR lg (ledCells p g m.n) :: plR p D safe :: rowsIR g m :: kndR t :: R) → VotPost n k s lg p g bk bs m x.item (ansM m self x) w F (kndR t :: R) e W' := by
  intro e W' h1 h2 h3
  unfold VotPost
  rw [h1, h2]
  unfold noAns
  dsimp only
  rw [hns]
  exact ⟨rfl, I, D, safe, hv.same hi.symm, h3⟩
 have HV := Lib.hid hv; have HAT := Lib.hid hat; have HGD := Lib.hid hgd; have HNS := Lib.hid hns; have HNO := Lib.hid hno; have HI := Lib.hid hi; have HMN := Lib.hid hmn
 clear hv hat hgd hns hno hi hmn T T1
 have r6 := (T2.ord [4, 0, 1, 2, 3, 5, 6]).row; have l6 := row_lt r6
 have r5 := (T2.ord [5, 0, 1, 2, 3, 4, 6]).row; have l5 := row_lt r5
 have HT := Lib.hid T2; clear T2
 go_enter Tryz.func94, Tryz.ntmps94
 go_upto_region 1 with fail
 clear r6 l6 r5 l5
 generalize hw1 : (W.alloc (.cells (MV x) 136)).alloc (.cells #[.int .i64 0, .int .i64 0, .int .i64 0, .int .i64 0, .int .i64 0, .int .i64 0, .int .i64 0, .int .i64 0, .int .i64 0, .int .i64 0, .bool false, .int .i64 0, .string { data := #[] }, .string { data := #[] }, .int .i64 0, .int .i64 0, .int .i64 0, .int .i64 0, .int .i64 0, .int .i64 0, .int .i64 0, .int .i64 0, .int .i64 0, .int .i64 0, .int .i64 0] 136) = w1 at *
 clear hw1
 generalize W.heap.size + 1 = b6 at *
 generalize W.heap.size = b5 at *
 have FS : ∀ W' R', Sts w F W' (rowR b5 (MV x) :: R') → (row? W' b5 = some (MV x) ∧ W'.cell? ⟨b5, 2, none⟩ = some (.int .i64 x.to)) := fun W' R' T => ⟨T.row, row_cell T.row 2⟩
 have T0 := HT.out.drew.ord [5, 0, 1, 2, 3, 4, 6]
 have S0 := FS _ _ T0
 have HFS := Lib.hid FS; have HTD := Lib.hid T0
 clear FS HT T0
 refine wp_region_held_drew (S := fun W' => (row? W' b5 = some (MV x) ∧ W'.cell? ⟨b5, 2, none⟩ = some (.int .i64 x.to))) (by kernel_rfl) S0 (fun hHeld => ?_)
 clear S0
 generalize w1.drew = w2 at *
 refine tkH 0 rfl ?_
 simp only [Act.put, List.setIfInBounds_toArray, List.set_cons_zero, List.set_cons_succ]
 refine tkH 1 rfl ?_
 go_frame
 refine tkH 2 rfl ?_
 go_frame
 refine tkH 3 rfl ?_
 go_frame
 cases hto : (x.to != self)
 case true =>
  have ea : ansM m self x = noAns i := by unfold ansM; rw [HI.out]; exact if_pos (.inl (by simpa using hto))
  refine tkH 4 rfl ?_
  simp only [Act.put, List.setIfInBounds_toArray, List.set_cons_zero, List.set_cons_succ]
  refine tkH 5 rfl ?_
  go_frame
  refine tkH 6 rfl ?_
  go_frame
  refine tkH 7 rfl ?_
  go_frame
  refine tkH 8 rfl ?_
  go_frame
  refine skH 9 rfl ?_
  simp only [Act.put, List.setIfInBounds_toArray, List.set_cons_zero, List.set_cons_succ]
  refine skH 10 rfl ?_
  go_frame
  refine skH 11 rfl ?_
  go_frame
  refine skH 12 rfl ?_
  go_frame
  refine skH 13 rfl ?_
  go_frame
  refine tkH 14 rfl ?_
  simp only [Act.put, List.setIfInBounds_toArray, List.set_cons_zero, List.set_cons_succ]
  refine wpAnyH_done (by kernel_rfl) ?_ _
  simp only [Exit.then]
  clear hHeld HFS
  have T2 := HTD.out.ord [5, 0, 1, 2, 3, 4, 6]
  have r6 := T2.row; have l6 := row_lt r6
  have T3 := T2.setRow (MV noMsg)
  have HT := Lib.hid T3; have EA := Lib.hid ea; clear T2 T3 HTD ea
  go_wp2
  refine ret_row_tmp (MV noMsg) (.bool false) TMsg_und rfl (by kernel_rfl) rfl rfl rfl rfl (TMsg_size _) HT.out.row ?_
  exact HNO.out _ _ EA.out rfl (HT.out.ord [0, 1, 2, 3, 4, 5, 6]).drop.drop
 case false =>
  have hte : x.to = self := by simpa using hto
  refine tkH 4 rfl ?_
  simp only [Act.put, List.setIfInBounds_toArray, List.set_cons_zero, List.set_cons_succ]
  refine tkH 5 rfl ?_
  go_frame
  refine tkH 6 rfl ?_
  go_frame
  refine tkH 7 rfl ?_
  go_frame
  refine tkH 8 rfl ?_
  go_frame
  refine tkH 9 rfl ?_
  go_frame
  refine tkH 10 rfl ?_
  go_frame
  have T3 : Sts w F w2 (idxR s lg bk bs I :: rowR lg (ledCells p g m.n) :: plR p D safe :: rowsIR g m :: rowR b5 (MV x) :: rowR b6 (MV noMsg) :: kndR t :: R) := HTD.out.ord [1, 2, 3, 4, 0, 5, 6]
  have HSZ := Lib.hid (spSizeT (R := rowR b5 (MV x) :: rowR b6 (MV noMsg) :: kndR t :: R) T3)
  have HT3 := Lib.hid T3; clear T3 HTD
  refine wpAnyH_ready (rs := [11]) (by kernel_rfl) (by simp) ?_
  refine AllReadyH.cons (o := _) rfl (fun K hK => ?_) AllReadyH.nil
  go_simp
  refine HSZ.out.mono ?_
  clear HSZ
  rintro e w3 ⟨rfl, rfl⟩
  refine hK.out _ _ (HFS.out _ _ (HT3.out.ord [4, 0, 1, 2, 3, 5, 6])) (fun hHeld => ?_)
  clear hK K
  refine wpAnyH_ready (rs := [12]) (by kernel_rfl) (by simp) ?_
  refine AllReadyH.cons (o := _) rfl (fun K hK => ?_) AllReadyH.nil
  go_simp
  refine (HGD.out _ (HT3.out.ord [6, 0, 1, 2, 3, 4, 5]).knd).mono ?_
  rintro e w3 ⟨rfl, hb⟩
  have T4 := HT3.out.pure hb
  have HT4 := Lib.hid T4; clear T4 HT3 hb
  refine hK.out _ _ (HFS.out _ _ (HT4.out.ord [4, 0, 1, 2, 3, 5, 6])) (fun hHeld => ?_)
  clear hK K
  cases hgm : goodM x m.n
  case false =>
   have ea : ansM m self x = noAns i := by unfold ansM; rw [HI.out]; exact if_pos (.inr hgm)
   refine tkH 13 rfl ?_
   simp only [Act.put, List.setIfInBounds_toArray, List.set_cons_zero, List.set_cons_succ]
   refine tkH 14 rfl ?_
   go_frame
   refine wpAnyH_done (by kernel_rfl) ?_ _
   simp only [Exit.then]
   clear hHeld HFS
   have T2 := HT4.out.ord [5, 0, 1, 2, 3, 4, 6]
   have r6 := T2.row; have l6 := row_lt r6
   have T3 := T2.setRow (MV noMsg)
   have HT := Lib.hid T3; have EA := Lib.hid ea; clear T2 T3 HT4 ea
   go_wp2
   refine ret_row_tmp (MV noMsg) (.bool false) TMsg_und rfl (by kernel_rfl) rfl rfl rfl rfl (TMsg_size _) HT.out.row ?_
   exact HNO.out _ _ EA.out rfl (HT.out.ord [0, 5, 1, 2, 3, 4, 6]).drop.drop
  case true =>
   have hgn : goodM x n = true := by rw [← HMN.out]; exact hgm
   have hne : ¬ (x.to ≠ self ∨ goodM x m.n = false) := by rw [hgm]; simp [hte]
   have ean : ansM m self x = if (x.kind = 1 ∨ x.kind = 3 ∨ x.kind = 6) ∧ i.status = 3 then ⟨⟨5, x.to, x.frm, x.item, x.bal, noBallot, 0, false, i.call⟩, true, i⟩
     else if x.kind = 1 then preM m x i
     else if x.kind = 3 then accM x i
     else if x.kind = 6 then prmM x i
     else if x.kind = 5 then ⟨noMsg, false, (commitM i x.call).1⟩
     else noAns i := by unfold ansM; rw [if_neg hne, ← HI.out]
   clear hne
   refine tkH 13 rfl ?_
   simp only [Act.put, List.setIfInBounds_toArray, List.set_cons_zero, List.set_cons_succ]
   refine tkH 14 rfl ?_
   go_frame
   refine wpAnyH_done (by kernel_rfl) ?_ _
   simp only [Exit.then]
   clear hHeld HFS
   have T := HT4.out
   have r5 := (T.ord [4, 0, 1, 2, 3, 5, 6]).row; have l5 := row_lt r5
   have EAN := Lib.hid ean; have HGN := Lib.hid hgn; clear HT4 ean hgn hgm hto hte HGD
   go_wp2_with fail
   refine (Reads.at (L := spL s lg p g bk bs I D safe m) (R := rowR b5 (MV x) :: rowR b6 (MV noMsg) :: kndR t :: R) HAT.out T).mono ?_
   rintro e w4 ⟨rfl, hb⟩
   clear r5 l5
   have T5 := T.pure hb
   have T6 := T5.new (NV i) 70
   have HT := Lib.hid T6; clear T T5 T6 hb HAT
   go_upto_region 4 with fail
   generalize hw5 : w4.alloc (.cells (NV i) 70) = w5 at *
   generalize w4.heap.size = b8 at *
   clear hw5
   by_cases h1 : x.kind = 1
   ·have q1 : (x.kind == 1) = true := by simp [h1]
    cases q3 : (i.status == 3)
    case true =>
     have ea : ansM m self x = ⟨⟨5, x.to, x.frm, x.item, x.bal, noBallot, 0, false, i.call⟩, true, i⟩ := by rw [EAN.out, if_pos ⟨.inl h1, by simpa using q3⟩]
     have EA := Lib.hid ea; clear ea
     have T := HT.out
     have r8 := T.row; have l8 := row_lt r8; have c8 := row_cell r8 4
     have r5 := (T.ord [5, 0, 1, 2, 3, 4, 6, 7]).row; have l5 := row_lt r5; have c5 := row_cell r5 0
     have hb5 : Ans Tryz.prog 147 #[.agg (MV x), .int .i64 5] (.agg (MV ⟨5, x.to, x.frm, x.item, x.bal, noBallot, 0, false, noCall⟩)) := back_any x 5
     have HB5 := Lib.hid (Ans.at hb5 T); clear T HT hb5
     go_wp2_with fail
     refine HB5.out.mono ?_
     rintro e w6 ⟨rfl, T⟩
     clear HB5 r8 l8 c8 r5 l5 c5
     have r8 := T.row; have l8 := row_lt r8
     have r6 := (T.ord [6, 0, 1, 2, 3, 4, 5, 7]).row; have l6 := row_lt r6
     have T2 := (T.ord [6, 0, 1, 2, 3, 4, 5, 7]).setRow (MV ⟨5, x.to, x.frm, x.item, x.bal, noBallot, 0, false, i.call⟩)
     have T3 := T2.new (MV ⟨5, x.to, x.frm, x.item, x.bal, noBallot, 0, false, i.call⟩) 136
     have HT := Lib.hid T3.drop; clear T T2 T3
     go_wp2
     refine ret_row_tmp (MV ⟨5, x.to, x.frm, x.item, x.bal, noBallot, 0, false, i.call⟩) (.bool true) TMsg_und rfl (by kernel_rfl) rfl rfl rfl rfl (TMsg_size _) HT.out.row ?_
     unfold VotPost
     rw [EA.out]
     dsimp only
     rw [HNS.out]
     have T9 := (HT.out.ord [0, 1, 6, 2, 3, 4, 5, 7]).drop.drop.drop
     exact ⟨rfl, I, D, safe, HV.out.same HI.out.symm, T9⟩
    case false =>
     have ea : ansM m self x = preM m x i := by rw [EAN.out, if_neg (by intro h; simp [h.2] at q3), if_pos h1]
     have EA := Lib.hid ea; clear ea
     have T := HT.out
     have r8 := T.row; have l8 := row_lt r8; have c8 := row_cell r8 4
     have r5 := (T.ord [5, 0, 1, 2, 3, 4, 6, 7]).row; have l5 := row_lt r5; have c5 := row_cell r5 0
     have T2 := (T.new (MV noMsg) 136).ord [2, 3, 4, 5, 0, 1, 6, 7, 8]
     have HT2 := Lib.hid T2; clear T T2 HT
     go_wp2_with fail
     refine (vpre HV.out hk x i HI.out.symm HGN.out h1 (R := rowR w5.heap.size (MV noMsg) :: rowR b8 (NV i) :: rowR b5 (MV x) :: rowR b6 (MV noMsg) :: kndR t :: R) HT2.out).mono ?_
     rintro e w6 ⟨rfl, I', D', safe', hv', T⟩
     clear HT2 r8 l8 c8 r5 l5 c5
     generalize w5.heap.size = b11 at *
     have T : Sts w F w6 (idxR s lg bk bs I' :: rowR lg (ledCells p g (nowR m x.item (preM m x i).now).n) :: plR p D' safe' :: rowsIR g (nowR m x.item (preM m x i).now) :: rowR b11 (MV noMsg) :: rowR b8 (NV i) :: rowR b5 (MV x) :: rowR b6 (MV noMsg) :: kndR t :: R) := T
     have T1 := T.ord [4, 7, 0, 1, 2, 3, 5, 6, 8]
     have n1 := T1.rowsNe
     have r11 := T1.row; have l11 := row_lt r11; have r6 := T1.row1; have l6 := row_lt r6
     have HV' := Lib.hid hv'; clear hv'
     cases hok : (preM m x i).ok
     case false =>
      have ho := preM_out hok
      have T2 := (T1.setRow (MV (preM m x i).out)).swap
      have T3 := T2.setRow (MV noMsg)
      have HT := Lib.hid T3; have HOK := Lib.hid hok; have HO := Lib.hid ho; clear T T1 T2 T3 hok ho
      go_wp2
      refine ret_row_tmp (MV noMsg) (.bool false) TMsg_und rfl (by kernel_rfl) rfl rfl rfl rfl (TMsg_size _) HT.out.row ?_
      unfold VotPost
      rw [EA.out]
      have T9 := (HT.out.ord [0, 1, 6, 7, 2, 3, 4, 5, 8]).drop.drop.drop.drop
      exact ⟨by rw [HO.out, HOK.out], I', D', safe', HV'.out, T9⟩
     case true =>
      have T2 := (T1.setRow (MV (preM m x i).out)).swap
      have r11 := T2.row1; have l11 := row_lt r11; have r6 := T2.row; have l6 := row_lt r6
      have T3 := T2.setRow (MV (preM m x i).out)
      have HT := Lib.hid T3; have HOK := Lib.hid hok; clear T T1 T2 T3 hok
      go_wp2
      refine ret_row_tmp (MV (preM m x i).out) (.bool true) TMsg_und rfl (by kernel_rfl) rfl rfl rfl rfl (TMsg_size _) HT.out.row ?_
      unfold VotPost
      rw [EA.out]
      have T9 := (HT.out.ord [0, 1, 6, 7, 2, 3, 4, 5, 8]).drop.drop.drop.drop
      exact ⟨by rw [HOK.out], I', D', safe', HV'.out, T9⟩
   have q1 : (x.kind == 1) = false := by simp [h1]
   by_cases h3 : x.kind = 3
   ·have q2 : (x.kind == 3) = true := by simp [h3]
    cases q3 : (i.status == 3)
    case true =>
     have ea : ansM m self x = ⟨⟨5, x.to, x.frm, x.item, x.bal, noBallot, 0, false, i.call⟩, true, i⟩ := by rw [EAN.out, if_pos ⟨.inr (.inl h3), by simpa using q3⟩]
     have EA := Lib.hid ea; clear ea
     have T := HT.out
     have r8 := T.row; have l8 := row_lt r8; have c8 := row_cell r8 4
     have r5 := (T.ord [5, 0, 1, 2, 3, 4, 6, 7]).row; have l5 := row_lt r5; have c5 := row_cell r5 0
     have hb5 : Ans Tryz.prog 147 #[.agg (MV x), .int .i64 5] (.agg (MV ⟨5, x.to, x.frm, x.item, x.bal, noBallot, 0, false, noCall⟩)) := back_any x 5
     have HB5 := Lib.hid (Ans.at hb5 T); clear T HT hb5
     go_wp2_with fail
     refine HB5.out.mono ?_
     rintro e w6 ⟨rfl, T⟩
     clear HB5 r8 l8 c8 r5 l5 c5
     have r8 := T.row; have l8 := row_lt r8
     have r6 := (T.ord [6, 0, 1, 2, 3, 4, 5, 7]).row; have l6 := row_lt r6
     have T2 := (T.ord [6, 0, 1, 2, 3, 4, 5, 7]).setRow (MV ⟨5, x.to, x.frm, x.item, x.bal, noBallot, 0, false, i.call⟩)
     have T3 := T2.new (MV ⟨5, x.to, x.frm, x.item, x.bal, noBallot, 0, false, i.call⟩) 136
     have HT := Lib.hid T3.drop; clear T T2 T3
     go_wp2
     refine ret_row_tmp (MV ⟨5, x.to, x.frm, x.item, x.bal, noBallot, 0, false, i.call⟩) (.bool true) TMsg_und rfl (by kernel_rfl) rfl rfl rfl rfl (TMsg_size _) HT.out.row ?_
     unfold VotPost
     rw [EA.out]
     dsimp only
     rw [HNS.out]
     have T9 := (HT.out.ord [0, 1, 6, 2, 3, 4, 5, 7]).drop.drop.drop
     exact ⟨rfl, I, D, safe, HV.out.same HI.out.symm, T9⟩
    case false =>
     have ea : ansM m self x = accM x i := by rw [EAN.out, if_neg (by intro h; simp [h.2] at q3), if_neg h1, if_pos h3]
     have EA := Lib.hid ea; clear ea
     have T := HT.out
     have r8 := T.row; have l8 := row_lt r8; have c8 := row_cell r8 4
     have r5 := (T.ord [5, 0, 1, 2, 3, 4, 6, 7]).row; have l5 := row_lt r5; have c5 := row_cell r5 0
     have T2 := (T.new (MV noMsg) 136).ord [2, 3, 4, 5, 0, 1, 6, 7, 8]
     have HT2 := Lib.hid T2; clear T T2 HT
     go_wp2_with fail
     refine (vacc HV.out hk x i HI.out.symm HGN.out h3 (R := rowR w5.heap.size (MV noMsg) :: rowR b8 (NV i) :: rowR b5 (MV x) :: rowR b6 (MV noMsg) :: kndR t :: R) HT2.out).mono ?_
     rintro e w6 ⟨rfl, I', D', safe', hv', T⟩
     clear HT2 r8 l8 c8 r5 l5 c5
     generalize w5.heap.size = b11 at *
     have T : Sts w F w6 (idxR s lg bk bs I' :: rowR lg (ledCells p g (nowR m x.item (accM x i).now).n) :: plR p D' safe' :: rowsIR g (nowR m x.item (accM x i).now) :: rowR b11 (MV noMsg) :: rowR b8 (NV i) :: rowR b5 (MV x) :: rowR b6 (MV noMsg) :: kndR t :: R) := T
     have T1 := T.ord [4, 7, 0, 1, 2, 3, 5, 6, 8]
     have n1 := T1.rowsNe
     have r11 := T1.row; have l11 := row_lt r11; have r6 := T1.row1; have l6 := row_lt r6
     have HV' := Lib.hid hv'; clear hv'
     cases hok : (accM x i).ok
     case false =>
      have ho := accM_out hok
      have T2 := (T1.setRow (MV (accM x i).out)).swap
      have T3 := T2.setRow (MV noMsg)
      have HT := Lib.hid T3; have HOK := Lib.hid hok; have HO := Lib.hid ho; clear T T1 T2 T3 hok ho
      go_wp2
      refine ret_row_tmp (MV noMsg) (.bool false) TMsg_und rfl (by kernel_rfl) rfl rfl rfl rfl (TMsg_size _) HT.out.row ?_
      unfold VotPost
      rw [EA.out]
      have T9 := (HT.out.ord [0, 1, 6, 7, 2, 3, 4, 5, 8]).drop.drop.drop.drop
      exact ⟨by rw [HO.out, HOK.out], I', D', safe', HV'.out, T9⟩
     case true =>
      have T2 := (T1.setRow (MV (accM x i).out)).swap
      have r11 := T2.row1; have l11 := row_lt r11; have r6 := T2.row; have l6 := row_lt r6
      have T3 := T2.setRow (MV (accM x i).out)
      have HT := Lib.hid T3; have HOK := Lib.hid hok; clear T T1 T2 T3 hok
      go_wp2
      refine ret_row_tmp (MV (accM x i).out) (.bool true) TMsg_und rfl (by kernel_rfl) rfl rfl rfl rfl (TMsg_size _) HT.out.row ?_
      unfold VotPost
      rw [EA.out]
      have T9 := (HT.out.ord [0, 1, 6, 7, 2, 3, 4, 5, 8]).drop.drop.drop.drop
      exact ⟨by rw [HOK.out], I', D', safe', HV'.out, T9⟩
   have q2 : (x.kind == 3) = false := by simp [h3]
   by_cases h6 : x.kind = 6
   ·have q6 : (x.kind == 6) = true := by simp [h6]
    cases q3 : (i.status == 3)
    case true =>
     have ea : ansM m self x = ⟨⟨5, x.to, x.frm, x.item, x.bal, noBallot, 0, false, i.call⟩, true, i⟩ := by rw [EAN.out, if_pos ⟨.inr (.inr h6), by simpa using q3⟩]
     have EA := Lib.hid ea; clear ea
     have T := HT.out
     have r8 := T.row; have l8 := row_lt r8; have c8 := row_cell r8 4
     have r5 := (T.ord [5, 0, 1, 2, 3, 4, 6, 7]).row; have l5 := row_lt r5; have c5 := row_cell r5 0
     have hb5 : Ans Tryz.prog 147 #[.agg (MV x), .int .i64 5] (.agg (MV ⟨5, x.to, x.frm, x.item, x.bal, noBallot, 0, false, noCall⟩)) := back_any x 5
     have HB5 := Lib.hid (Ans.at hb5 T); clear T HT hb5
     go_wp2_with fail
     refine HB5.out.mono ?_
     rintro e w6 ⟨rfl, T⟩
     clear HB5 r8 l8 c8 r5 l5 c5
     have r8 := T.row; have l8 := row_lt r8
     have r6 := (T.ord [6, 0, 1, 2, 3, 4, 5, 7]).row; have l6 := row_lt r6
     have T2 := (T.ord [6, 0, 1, 2, 3, 4, 5, 7]).setRow (MV ⟨5, x.to, x.frm, x.item, x.bal, noBallot, 0, false, i.call⟩)
     have T3 := T2.new (MV ⟨5, x.to, x.frm, x.item, x.bal, noBallot, 0, false, i.call⟩) 136
     have HT := Lib.hid T3.drop; clear T T2 T3
     go_wp2
     refine ret_row_tmp (MV ⟨5, x.to, x.frm, x.item, x.bal, noBallot, 0, false, i.call⟩) (.bool true) TMsg_und rfl (by kernel_rfl) rfl rfl rfl rfl (TMsg_size _) HT.out.row ?_
     unfold VotPost
     rw [EA.out]
     dsimp only
     rw [HNS.out]
     have T9 := (HT.out.ord [0, 1, 6, 2, 3, 4, 5, 7]).drop.drop.drop
     exact ⟨rfl, I, D, safe, HV.out.same HI.out.symm, T9⟩
    case false =>
     have ea : ansM m self x = prmM x i := by rw [EAN.out, if_neg (by intro h; simp [h.2] at q3), if_neg h1, if_neg h3, if_pos h6]
     have EA := Lib.hid ea; clear ea
     have T := HT.out
     have r8 := T.row; have l8 := row_lt r8; have c8 := row_cell r8 4
     have r5 := (T.ord [5, 0, 1, 2, 3, 4, 6, 7]).row; have l5 := row_lt r5; have c5 := row_cell r5 0
     have T2 := (T.new (MV noMsg) 136).ord [2, 3, 4, 5, 0, 1, 6, 7, 8]
     have HT2 := Lib.hid T2; clear T T2 HT
     go_wp2_with fail
     refine (vprm HV.out hk x i HI.out.symm HGN.out (R := rowR w5.heap.size (MV noMsg) :: rowR b8 (NV i) :: rowR b5 (MV x) :: rowR b6 (MV noMsg) :: kndR t :: R) HT2.out).mono ?_
     rintro e w6 ⟨rfl, I', D', safe', hv', T⟩
     clear HT2 r8 l8 c8 r5 l5 c5
     generalize w5.heap.size = b11 at *
     have T : Sts w F w6 (idxR s lg bk bs I' :: rowR lg (ledCells p g (nowR m x.item (prmM x i).now).n) :: plR p D' safe' :: rowsIR g (nowR m x.item (prmM x i).now) :: rowR b11 (MV noMsg) :: rowR b8 (NV i) :: rowR b5 (MV x) :: rowR b6 (MV noMsg) :: kndR t :: R) := T
     have T1 := T.ord [4, 7, 0, 1, 2, 3, 5, 6, 8]
     have n1 := T1.rowsNe
     have r11 := T1.row; have l11 := row_lt r11; have r6 := T1.row1; have l6 := row_lt r6
     have HV' := Lib.hid hv'; clear hv'
     cases hok : (prmM x i).ok
     case false =>
      have ho := prmM_out hok
      have T2 := (T1.setRow (MV (prmM x i).out)).swap
      have T3 := T2.setRow (MV noMsg)
      have HT := Lib.hid T3; have HOK := Lib.hid hok; have HO := Lib.hid ho; clear T T1 T2 T3 hok ho
      go_wp2
      refine ret_row_tmp (MV noMsg) (.bool false) TMsg_und rfl (by kernel_rfl) rfl rfl rfl rfl (TMsg_size _) HT.out.row ?_
      unfold VotPost
      rw [EA.out]
      have T9 := (HT.out.ord [0, 1, 6, 7, 2, 3, 4, 5, 8]).drop.drop.drop.drop
      exact ⟨by rw [HO.out, HOK.out], I', D', safe', HV'.out, T9⟩
     case true =>
      have T2 := (T1.setRow (MV (prmM x i).out)).swap
      have r11 := T2.row1; have l11 := row_lt r11; have r6 := T2.row; have l6 := row_lt r6
      have T3 := T2.setRow (MV (prmM x i).out)
      have HT := Lib.hid T3; have HOK := Lib.hid hok; clear T T1 T2 T3 hok
      go_wp2
      refine ret_row_tmp (MV (prmM x i).out) (.bool true) TMsg_und rfl (by kernel_rfl) rfl rfl rfl rfl (TMsg_size _) HT.out.row ?_
      unfold VotPost
      rw [EA.out]
      have T9 := (HT.out.ord [0, 1, 6, 7, 2, 3, 4, 5, 8]).drop.drop.drop.drop
      exact ⟨by rw [HOK.out], I', D', safe', HV'.out, T9⟩
   have q6 : (x.kind == 6) = false := by simp [h6]
   by_cases h5 : x.kind = 5
   ·have q5 : (x.kind == 5) = true := by simp [h5]
    have ea : ansM m self x = ⟨noMsg, false, (commitM i x.call).1⟩ := by
     rw [EAN.out, if_neg (by rintro ⟨h | h | h, -⟩ <;> contradiction), if_neg h1, if_neg h3, if_neg h6, if_pos h5]
    obtain ⟨hx1, hx2, hx3, hx4⟩ := goodM_in HGN.out
    have hi' := atM_good HV.out.sp.good (by rw [HMN.out]; exact HV.out.pos) x.item
    rw [← HI.out, HMN.out] at hi'
    have hg5 := commitM_good hi' (hx3 (by rw [h5]; decide))
    have hcm := lcom_any i x.call
    generalize commitM i x.call = q at *
    obtain ⟨now, ok5⟩ := q
    dsimp only at ea hg5 hcm
    have T := HT.out
    have r8 := T.row; have l8 := row_lt r8
    have r5 := (T.ord [5, 0, 1, 2, 3, 4, 6, 7]).row; have l5 := row_lt r5; have c5 := row_cell r5 0
    have T2 := T.new (MV noMsg) 136
    have EA := Lib.hid ea; have HX1 := Lib.hid hx1; have HG5 := Lib.hid hg5; have HCM := Lib.hid (Ans.at hcm T2)
    clear ea hx1 hx2 hx3 hx4 hi' hg5 hcm T T2 HT
    go_wp2_with fail
    refine HCM.out.mono ?_
    rintro e w6 ⟨rfl, T⟩
    clear HCM r8 l8 r5 l5 c5
    generalize w5.heap.size = b11 at *
    have r8 := T.row1; have l8 := row_lt r8
    have r5 := (T.ord [6, 0, 1, 2, 3, 4, 5, 7, 8]).row; have l5 := row_lt r5
    have T3 := (T.new (NV now) 70).ord [3, 4, 5, 6, 0, 1, 2, 7, 8, 9]
    have HKW := Lib.hid (vknow (R := rowR w6.heap.size (NV now) :: rowR b11 (MV noMsg) :: rowR b8 (NV i) :: rowR b5 (MV x) :: rowR b6 (MV noMsg) :: kndR t :: R) HV.out hk x.item i now HI.out.symm HX1.out HG5.out T3)
    clear T T3
    go_wp2_with fail
    refine HKW.out.mono ?_
    rintro e w7 ⟨rfl, I', D', safe', hv', T⟩
    clear HKW r8 l8 r5 l5
    generalize w6.heap.size = b13 at *
    have T : Sts w F w7 (idxR s lg bk bs I' :: rowR lg (ledCells p g (nowR m x.item now).n) :: plR p D' safe' :: rowsIR g (nowR m x.item now) :: rowR b13 (NV now) :: rowR b11 (MV noMsg) :: rowR b8 (NV i) :: rowR b5 (MV x) :: rowR b6 (MV noMsg) :: kndR t :: R) := T
    have T2 := T.ord [8, 0, 1, 2, 3, 4, 5, 6, 7, 9]
    have r6 := T2.row; have l6 := row_lt r6
    have T3 := T2.setRow (MV noMsg)
    have HT := Lib.hid T3; have HV' := Lib.hid hv'; clear T T2 T3 hv'
    go_wp2
    refine ret_row_tmp (MV noMsg) (.bool false) TMsg_und rfl (by kernel_rfl) rfl rfl rfl rfl (TMsg_size _) HT.out.row ?_
    unfold VotPost
    rw [EA.out]
    have T9 := (HT.out.ord [0, 5, 6, 7, 8, 1, 2, 3, 4, 9]).drop.drop.drop.drop.drop
    exact ⟨rfl, I', D', safe', HV'.out, T9⟩
   have q5 : (x.kind == 5) = false := by simp [h5]
   have ea : ansM m self x = noAns i := by
    rw [EAN.out, if_neg (by rintro ⟨h | h | h, -⟩ <;> contradiction), if_neg h1, if_neg h3, if_neg h6, if_neg h5]
   have EA := Lib.hid ea; clear ea
   have T := HT.out
   have r8 := T.row; have l8 := row_lt r8
   have r5 := (T.ord [5, 0, 1, 2, 3, 4, 6, 7]).row; have l5 := row_lt r5; have c5 := row_cell r5 0
   have r6 := (T.ord [6, 0, 1, 2, 3, 4, 5, 7]).row; have l6 := row_lt r6
   have T2 := (T.ord [6, 0, 1, 2, 3, 4, 5, 7]).setRow (MV noMsg)
   have T3 := T2.new (MV noMsg) 136
   have HT9 := Lib.hid T3.drop; clear T T2 T3 HT
   go_wp2
   refine ret_row_tmp (MV noMsg) (.bool false) TMsg_und rfl (by kernel_rfl) rfl rfl rfl rfl (TMsg_size _) HT9.out.row ?_
   exact HNO.out _ _ EA.out rfl (HT9.out.ord [0, 1, 6, 2, 3, 4, 5, 7]).drop.drop.drop
end Go.Proofs.YtomlilkobhkoiaaGreatDoor
