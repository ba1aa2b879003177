/- Several texts in one. -/
import Derived.Test.YtpganpiidgkofaaX22
import Derived.Test.YtpganpiidgkofaaX9
import Derived.Test.YtpganpiidgkofaaX3
import Derived.Test.YtpganpiidgkofaaX4
import Derived.Test.YtpganpiidgkofaaX6
/- Layer 9: the ledger is alive. -/
namespace Go.Proofs.Ytpganpiidgkofaa
open Go.RowKit
set_option linter.unusedVariables false
set_option maxRecDepth 20000
attribute [local go_sem] row_alloc row_drew row_drewN row_ext row_setCell row_setRow size_ext setRow_alloc setRow_drew loadOf storeOf piece_lit loadVal_at storeVal_at allOne_lit buildOf buildRes_some
attribute [local go_sem high] cell_alloc frozen_alloc setCell_alloc cell_ext frozen_ext cell_setRow frozen_setRow
attribute [local go_sem ↓] TDeed_ld0 TDeed_st0 TDeed_fd0 TDeed_bd0
attribute [local go_sem] TDeed_size TDeed_one TDeed_piece TDeed_c0 TDeed_c1 TDeed_c2 TDeed_c3 TDeed_c4 TDeed_c5 TDeed_set_kind TDeed_set_key TDeed_set_val TDeed_set_ver TDeed_set_ses TDeed_set_num TDeed_ld TDeed_st TDeed_f_kind TDeed_f_key TDeed_f_val TDeed_f_ver TDeed_f_ses TDeed_f_num TDeed_bd TDeed_fl TDeed_fl_kind TDeed_fl_key TDeed_fl_val TDeed_fl_ver TDeed_fl_ses TDeed_fl_num
attribute [local go_sem high] TDeed_eql TDeed_neq
attribute [local go_sem ↓] index_deps0 load_deps0 store_deps0
attribute [local go_sem] DV_piece DV_size DV_one index_deps load_deps store_deps
attribute [local go_sem high] TDeps_eql TDeps_neq
attribute [local go_sem ↓] TCall_ld0 TCall_st0 TCall_fd0 TCall_bd0
attribute [local go_sem] TCall_size TCall_one TCall_piece TCall_c0 TCall_c1 TCall_c2 TCall_c3 TCall_c4 TCall_c5 TCall_c6 TCall_c7 TCall_c8 TCall_c9 TCall_c10 TCall_c11 TCall_c12 TCall_c13 TCall_p_deed TCall_put_deed TCall_p_deps TCall_put_deps TCall_set_seq TCall_ld TCall_st TCall_f_deed TCall_f_deps TCall_f_seq TCall_bd TCall_fl TCall_fl_deed TCall_fl_deps TCall_fl_seq
attribute [local go_sem high] TCall_eql TCall_neq
attribute [local go_sem ↓] TItem_ld0 TItem_st0 TItem_fd0 TItem_bd0
attribute [local go_sem] TItem_size TItem_one TItem_piece TItem_c0 TItem_c1 TItem_set_rep TItem_set_num TItem_ld TItem_st TItem_f_rep TItem_f_num TItem_bd TItem_fl TItem_fl_rep TItem_fl_num
attribute [local go_sem high] TItem_eql TItem_neq
attribute [local go_sem ↓] TBallot_ld0 TBallot_st0 TBallot_fd0 TBallot_bd0
attribute [local go_sem] TBallot_size TBallot_one TBallot_piece TBallot_c0 TBallot_c1 TBallot_set_round TBallot_set_rep TBallot_ld TBallot_st TBallot_f_round TBallot_f_rep TBallot_bd TBallot_fl TBallot_fl_round TBallot_fl_rep
attribute [local go_sem high] TBallot_eql TBallot_neq
attribute [local go_sem ↓] TInst_ld0 TInst_st0 TInst_fd0 TInst_bd0
attribute [local go_sem] TInst_size TInst_one TInst_piece TInst_c0 TInst_c1 TInst_c2 TInst_c3 TInst_c4 TInst_c5 TInst_c6 TInst_c7 TInst_c8 TInst_c9 TInst_c10 TInst_c11 TInst_c12 TInst_c13 TInst_c14 TInst_c15 TInst_c16 TInst_c17 TInst_c18 TInst_c19 TInst_p_prom TInst_put_prom TInst_p_vote TInst_put_vote TInst_set_status TInst_p_call TInst_put_call TInst_set_same TInst_ld TInst_st TInst_f_prom TInst_f_vote TInst_f_status TInst_f_call TInst_f_same TInst_bd TInst_fl TInst_fl_prom TInst_fl_vote TInst_fl_status TInst_fl_call TInst_fl_same
attribute [local go_sem high] TInst_eql TInst_neq
attribute [local go_sem] led_n led_p led_g
def aliveX : Item := ⟨1, 2⟩
def aliveI : Inst := { noInst with prom := ⟨4, 2⟩ }
theorem alive_goodI : goodI aliveX 3 = true := by decide
theorem alive_goodN : goodN aliveI 3 = true := by
  unfold goodN
  have h1 : goodBal aliveI.prom 3 = true := by decide
  have h2 : goodBal aliveI.vote 3 = true := by decide
  have h3 : goodC aliveI.call 3 = true := by decide
  rw [h1, h2, h3]
  have h4 : bareI aliveI = aliveI := rfl
  rw [h4, eqA_refl]
  decide
theorem goT_nil (n : Int) : goT n [] = [] := rfl
theorem alive_add : addM [] 0 ⟨3, fun _ => []⟩ aliveX aliveI = (recOf (aliveX, aliveI), 0, setM ⟨3, fun _ => []⟩ aliveX aliveI, 0) := by
  have hl : (recOf (aliveX, aliveI)).length ≤ 310 := recOf_len (goodI_in alive_goodI (by omega)).1 (goodI_in alive_goodI (by omega)).2 (goodN_in alive_goodN (by omega))
  have ht : tightP [] 0 ⟨3, fun _ => []⟩ (recOf (aliveX, aliveI)).length = ([], 0, 0) := by unfold tightP; rw [if_neg (by simp; omega)]
  unfold addM
  rw [if_pos ⟨alive_goodI, alive_goodN⟩, ht, if_pos rfl, if_pos (by simp; omega)]
  rfl
theorem alive_top : topM (setM ⟨3, fun _ => []⟩ aliveX aliveI) 1 = 2 := by
  unfold setM
  rw [if_pos alive_goodI]
  rfl
set_option maxHeartbeats 4000000 in
theorem alive9 : Ans Try.prog 13 #[] (.bool true) := by
  refine Ans.of_sts fun w => ?_
  have T := Sts.start0 w
  go_enter Try.func13, Try.ntmps13
  go_wp2_with fail
  refine (newT T).mono ?_
  clear T
  rintro e w1 ⟨rfl, T⟩
  go_wp2_with fail
  refine (openT T (by simp) 3 rfl).mono ?_
  clear T
  rintro e w2 ⟨l, g, rfl, T⟩
  rw [goT_nil] at T
  generalize w.heap.size = p at *
  have T : Sts w (fun _ => False) w2 (ledL l p g [] 0 ⟨3, fun _ => []⟩ ++ []) := T
  go_wp2_with fail
  have T : Sts w (fun _ => False) ((w2.alloc (.cells (IV aliveX) 42)).alloc (.cells (NV aliveI) 39)) (rowR (w2.heap.size + 1) (NV aliveI) :: rowR w2.heap.size (IV aliveX) :: ledL l p g [] 0 ⟨3, fun _ => []⟩) := by
    have := (T.new (IV aliveX) 42).new (NV aliveI) 39
    rw [World.size_alloc] at this
    exact this
  generalize hw : (w2.alloc _).alloc _ = w3
  have hw9 : (w2.alloc (.cells (IV aliveX) 42)).alloc (.cells (NV aliveI) 39) = w3 := hw
  rw [hw9] at T
  clear hw hw9
  generalize w2.heap.size + 1 = g4 at *
  generalize w2.heap.size = g3 at *
  have FS : ∀ W' R', Sts w (fun _ => False) W' (rowR g4 (NV aliveI) :: rowR g3 (IV aliveX) :: R') → (row? W' g4 = some (NV aliveI) ∧ row? W' g3 = some (IV aliveX)) := fun W' R' T => ⟨T.row, T.row1⟩
  have S0 := FS _ _ T.drew
  have hadd := addD l p g [] 0 ⟨3, fun _ => []⟩ (RowsOk.new (by omega)) (RowsGood.new 3) (by simp) aliveX aliveI
  rw [alive_add] at hadd
  have hmo : RowsOk (setM ⟨3, fun _ => []⟩ aliveX aliveI) := (RowsOk.new (by omega)).set _ _
  have hget : getM (setM ⟨3, fun _ => []⟩ aliveX aliveI) aliveX = some aliveI := getM_set_same _ alive_goodI
  have hat := ledAtR l p g (recOf (aliveX, aliveI)) 0 (setM ⟨3, fun _ => []⟩ aliveX aliveI) hmo aliveX
  rw [hget] at hat
  have htop := fun {W : World} {R : List Res} (T : Sts w (fun _ => False) W (ledL l p g (recOf (aliveX, aliveI)) 0 (setM ⟨3, fun _ => []⟩ aliveX aliveI) ++ R)) => ledTopT hmo 1 T
  rw [alive_top] at htop
  have HFS := Lib.hid FS; have HT := Lib.hid T.drew; have HADD := Lib.hid hadd; have HAT := Lib.hid hat
  have he := eqA_refl (NV aliveI)
  clear FS T hadd hmo hget hat
  generalize hmm : setM ⟨3, fun _ => []⟩ aliveX aliveI = m1 at *
  generalize recOf (aliveX, aliveI) = rc at *
  have hm3 : m1.n = 3 := by rw [← hmm, setM_n]
  have HM3 := Lib.hid hm3
  clear hm3 hmm
  refine wp_region_held_drew (S := fun W' => (row? W' g4 = some (NV aliveI) ∧ row? W' g3 = some (IV aliveX))) (by kernel_rfl) S0 (fun hHeld => ?_)
  clear S0
  refine wpAnyH_take (i := 0) (oi := _) (v := ?_) rfl (by kernel_rfl) (by kernel_rfl) (by kernel_rfl) (fun _ _ _ h => h) (Or.inl ⟨by kernel_rfl, ?_⟩) (by assumption) ?_
  rotate_left
  · (intro w hSw; (try dsimp only at hSw); go_simp; try (with_reducible rfl))
  simp only [Act.put, List.getElem_toArray, List.getElem_cons_zero, List.setIfInBounds_toArray, List.set_cons_zero, List.set_cons_succ]
  refine wpAnyH_take (i := 1) (oi := _) (v := ?_) rfl (by kernel_rfl) (by kernel_rfl) (by kernel_rfl) (fun _ _ _ h => h) (Or.inl ⟨by kernel_rfl, ?_⟩) (by assumption) ?_
  rotate_left
  · (intro w hSw; (try dsimp only at hSw); go_simp; try (with_reducible rfl))
  simp only [Act.put, List.getElem_toArray, List.getElem_cons_succ, List.getElem_cons_zero, List.setIfInBounds_toArray, List.set_cons_zero, List.set_cons_succ]
  refine wpAnyH_take (i := 2) (oi := _) (v := ?_) rfl (by kernel_rfl) (by kernel_rfl) (by kernel_rfl) (fun _ _ _ h => h) (Or.inl ⟨by kernel_rfl, ?_⟩) (by assumption) ?_
  rotate_left
  · (intro w hSw; (try dsimp only at hSw); go_simp; try (with_reducible rfl))
  simp only [Act.put, List.getElem_toArray, List.getElem_cons_succ, List.getElem_cons_zero, List.setIfInBounds_toArray, List.set_cons_zero, List.set_cons_succ]
  refine wpAnyH_take (i := 3) (oi := _) (v := ?_) rfl (by kernel_rfl) (by kernel_rfl) (by kernel_rfl) (fun _ _ _ h => h) (Or.inl ⟨by kernel_rfl, ?_⟩) (by assumption) ?_
  rotate_left
  · (intro w hSw; (try dsimp only at hSw); go_simp; try (with_reducible rfl))
  simp only [Act.put, List.getElem_toArray, List.getElem_cons_succ, List.getElem_cons_zero, List.setIfInBounds_toArray, List.set_cons_zero, List.set_cons_succ]
  refine wpAnyH_take (i := 4) (oi := _) (v := ?_) rfl (by kernel_rfl) (by kernel_rfl) (by kernel_rfl) (fun _ _ _ h => h) (Or.inl ⟨by kernel_rfl, ?_⟩) (by assumption) ?_
  rotate_left
  · (intro w hSw; (try dsimp only at hSw); go_simp; try (with_reducible rfl))
  simp only [Act.put, List.getElem_toArray, List.getElem_cons_succ, List.getElem_cons_zero, List.setIfInBounds_toArray, List.set_cons_zero, List.set_cons_succ]
  refine wpAnyH_take (i := 5) (oi := _) (v := ?_) rfl (by kernel_rfl) (by kernel_rfl) (by kernel_rfl) (fun _ _ _ h => h) (Or.inl ⟨by kernel_rfl, ?_⟩) (by assumption) ?_
  rotate_left
  · (intro w hSw; (try dsimp only at hSw); go_simp; try (with_reducible rfl))
  simp only [Act.put, List.getElem_toArray, List.getElem_cons_succ, List.getElem_cons_zero, List.setIfInBounds_toArray, List.set_cons_zero, List.set_cons_succ]
  refine wpAnyH_ready (rs := [6]) (by kernel_rfl) (by simp) ?_
  refine AllReadyH.cons (o := _) rfl (fun K hK => ?_) AllReadyH.nil
  go_simp
  refine (Does.at (R := [rowR g4 (NV aliveI), rowR g3 (IV aliveX)]) HADD.out (HT.out.ordr [2, 3, 4, 0, 1])).mono ?_
  rintro e w4 ⟨rfl, T⟩
  have T : Sts w (fun _ => False) w4 (rowR g4 (NV aliveI) :: rowR g3 (IV aliveX) :: ledL l p g rc 0 m1) := T.ordr [3, 4, 0, 1, 2]
  clear HT HADD
  refine hK.out _ _ ?_ (fun hHeld => ?_)
  · exact HFS.out _ _ T
  clear hK K
  refine wpAnyH_take (i := 7) (oi := _) (v := ?_) rfl (by kernel_rfl) (by kernel_rfl) (by kernel_rfl) (fun _ _ _ h => h) (Or.inl ⟨by kernel_rfl, ?_⟩) (by assumption) ?_
  rotate_left
  · (intro w hSw; (try dsimp only at hSw); go_simp; try (with_reducible rfl))
  simp only [Act.put, List.getElem_toArray, List.getElem_cons_succ, List.getElem_cons_zero, List.setIfInBounds_toArray, List.set_cons_zero, List.set_cons_succ]
  refine wpAnyH_take (i := 8) (oi := _) (v := ?_) rfl (by kernel_rfl) (by kernel_rfl) (by kernel_rfl) (fun _ _ _ h => h) (Or.inl ⟨by kernel_rfl, ?_⟩) (by assumption) ?_
  rotate_left
  · (intro w hSw; (try dsimp only at hSw); go_simp; try (with_reducible rfl))
  simp only [Act.put, List.getElem_toArray, List.getElem_cons_succ, List.getElem_cons_zero, List.setIfInBounds_toArray, List.set_cons_zero, List.set_cons_succ]
  refine wpAnyH_take (i := 9) (oi := _) (v := ?_) rfl (by kernel_rfl) (by kernel_rfl) (by kernel_rfl) (fun _ _ _ h => h) (Or.inl ⟨by kernel_rfl, ?_⟩) (by assumption) ?_
  rotate_left
  · (intro w hSw; (try dsimp only at hSw); go_simp; try (with_reducible rfl))
  simp only [Act.put, List.getElem_toArray, List.getElem_cons_succ, List.getElem_cons_zero, List.setIfInBounds_toArray, List.set_cons_zero, List.set_cons_succ]
  refine wpAnyH_take (i := 10) (oi := _) (v := ?_) rfl (by kernel_rfl) (by kernel_rfl) (by kernel_rfl) (fun _ _ _ h => h) (Or.inl ⟨by kernel_rfl, ?_⟩) (by assumption) ?_
  rotate_left
  · (intro w hSw; (try dsimp only at hSw); go_simp; try (with_reducible rfl))
  simp only [Act.put, List.getElem_toArray, List.getElem_cons_succ, List.getElem_cons_zero, List.setIfInBounds_toArray, List.set_cons_zero, List.set_cons_succ]
  refine wpAnyH_take (i := 11) (oi := _) (v := ?_) rfl (by kernel_rfl) (by kernel_rfl) (by kernel_rfl) (fun _ _ _ h => h) (Or.inl ⟨by kernel_rfl, ?_⟩) (by assumption) ?_
  rotate_left
  · (intro w hSw; (try dsimp only at hSw); go_simp; try (with_reducible rfl))
  simp only [Act.put, List.getElem_toArray, List.getElem_cons_succ, List.getElem_cons_zero, List.setIfInBounds_toArray, List.set_cons_zero, List.set_cons_succ]
  refine wpAnyH_take (i := 13) (oi := _) (v := ?_) rfl (by kernel_rfl) (by kernel_rfl) (by kernel_rfl) (fun _ _ _ h => h) (Or.inl ⟨by kernel_rfl, ?_⟩) (by assumption) ?_
  rotate_left
  · (intro w hSw; (try dsimp only at hSw); go_simp; try (with_reducible rfl))
  simp only [Act.put, List.getElem_toArray, List.getElem_cons_succ, List.getElem_cons_zero, List.setIfInBounds_toArray, List.set_cons_zero, List.set_cons_succ]
  have HT := Lib.hid T; clear T
  refine wpAnyH_ready (rs := [12]) (by kernel_rfl) (by simp) ?_
  refine AllReadyH.cons (o := _) rfl (fun K hK => ?_) AllReadyH.nil
  go_simp
  refine (Reads.at (R := [rowR g4 (NV aliveI), rowR g3 (IV aliveX)]) HAT.out (HT.out.ordr [2, 3, 4, 0, 1])).mono ?_
  rintro e w5 ⟨rfl, hb⟩
  have T := HT.out.pure hb
  clear HT HAT hb
  refine hK.out _ _ ?_ (fun hHeld => ?_)
  · exact HFS.out _ _ T
  clear hK K
  simp only [Option.getD]
  refine wpAnyH_take (i := 14) (oi := _) (v := ?_) rfl (by kernel_rfl) (by kernel_rfl) (by kernel_rfl) (fun _ _ _ h => h) (Or.inl ⟨by kernel_rfl, ?_⟩) (by assumption) ?_
  rotate_left
  · (intro w hSw; (try dsimp only at hSw); go_simp; try (with_reducible rfl))
  simp only [Act.put, List.getElem_toArray, List.getElem_cons_succ, List.getElem_cons_zero, List.setIfInBounds_toArray, List.set_cons_zero, List.set_cons_succ]
  refine wpAnyH_take (i := 15) (oi := _) (v := ?_) rfl (by kernel_rfl) (by kernel_rfl) (by kernel_rfl) (fun _ _ _ h => h) (Or.inl ⟨by kernel_rfl, ?_⟩) (by assumption) ?_
  rotate_left
  · (intro w hSw; (try dsimp only at hSw); go_simp; try (with_reducible rfl))
  simp only [Act.put, List.getElem_toArray, List.getElem_cons_succ, List.getElem_cons_zero, List.setIfInBounds_toArray, List.set_cons_zero, List.set_cons_succ]
  refine wpAnyH_take (i := 16) (oi := _) (v := ?_) rfl (by kernel_rfl) (by kernel_rfl) (by kernel_rfl) (fun _ _ _ h => h) (Or.inl ⟨by kernel_rfl, ?_⟩) (by assumption) ?_
  rotate_left
  · (intro w hSw; (try dsimp only at hSw); go_simp; try (with_reducible rfl))
  simp only [Act.put, List.getElem_toArray, List.getElem_cons_succ, List.getElem_cons_zero, List.setIfInBounds_toArray, List.set_cons_zero, List.set_cons_succ]
  refine wpAnyH_take (i := 17) (oi := _) (v := ?_) rfl (by kernel_rfl) (by kernel_rfl) (by kernel_rfl) (fun _ _ _ h => h) (Or.inl ⟨by kernel_rfl, ?_⟩) (by assumption) ?_
  rotate_left
  · (intro w hSw; (try dsimp only at hSw); go_simp; try (with_reducible rfl))
  simp only [Act.put, List.getElem_toArray, List.getElem_cons_succ, List.getElem_cons_zero, List.setIfInBounds_toArray, List.set_cons_zero, List.set_cons_succ]
  refine wpAnyH_ready (rs := [18]) (by kernel_rfl) (by simp) ?_
  refine AllReadyH.cons (o := _) rfl (fun K hK => ?_) AllReadyH.nil
  have ht2 := htop (R := [rowR g4 (NV aliveI), rowR g3 (IV aliveX)]) (T.ordr [2, 3, 4, 0, 1])
  have HT2 := Lib.hid ht2; have HT := Lib.hid T; clear ht2 htop T
  go_simp
  refine HT2.out.mono ?_
  rintro e w6 ⟨rfl, hb⟩
  have T := HT.out.pure hb
  clear HT HT2 hb
  refine hK.out _ _ ?_ (fun hHeld => ?_)
  · exact HFS.out _ _ T
  clear hK K
  refine wpAnyH_take (i := 19) (oi := _) (v := ?_) rfl (by kernel_rfl) (by kernel_rfl) (by kernel_rfl) (fun _ _ _ h => h) (Or.inl ⟨by kernel_rfl, ?_⟩) (by assumption) ?_
  rotate_left
  · (intro w hSw; (try dsimp only at hSw); go_simp; try (with_reducible rfl))
  simp only [Act.put, List.getElem_toArray, List.getElem_cons_succ, List.getElem_cons_zero, List.setIfInBounds_toArray, List.set_cons_zero, List.set_cons_succ]
  refine wpAnyH_take (i := 20) (oi := _) (v := ?_) rfl (by kernel_rfl) (by kernel_rfl) (by kernel_rfl) (fun _ _ _ h => h) (Or.inl ⟨by kernel_rfl, ?_⟩) (by assumption) ?_
  rotate_left
  · (intro w hSw; (try dsimp only at hSw); go_simp; try (with_reducible rfl))
  simp only [Act.put, List.getElem_toArray, List.getElem_cons_succ, List.getElem_cons_zero, List.setIfInBounds_toArray, List.set_cons_zero, List.set_cons_succ]
  refine wpAnyH_take (i := 21) (oi := _) (v := ?_) rfl (by kernel_rfl) (by kernel_rfl) (by kernel_rfl) (fun _ _ _ h => h) (Or.inl ⟨by kernel_rfl, ?_⟩) (by assumption) ?_
  rotate_left
  · (intro w hSw; (try dsimp only at hSw); go_simp; try (with_reducible rfl))
  simp only [Act.put, List.getElem_toArray, List.getElem_cons_succ, List.getElem_cons_zero, List.setIfInBounds_toArray, List.set_cons_zero, List.set_cons_succ]
  refine wpAnyH_take (i := 22) (oi := _) (v := ?_) rfl (by kernel_rfl) (by kernel_rfl) (by kernel_rfl) (fun _ _ _ h => h) (Or.inl ⟨by kernel_rfl, ?_⟩) (by assumption) ?_
  rotate_left
  · (intro w hSw; (try dsimp only at hSw); go_simp; try (with_reducible rfl))
  simp only [Act.put, List.getElem_toArray, List.getElem_cons_succ, List.getElem_cons_zero, List.setIfInBounds_toArray, List.set_cons_zero, List.set_cons_succ]
  refine wpAnyH_ready (rs := [23]) (by kernel_rfl) (by simp) ?_
  refine AllReadyH.cons (o := _) rfl (fun K hK => ?_) AllReadyH.nil
  have ht2 := ledSizeT (R := [plR p rc 0, rowsIR g m1, rowR g4 (NV aliveI), rowR g3 (IV aliveX)]) (T.ordr [2, 3, 4, 0, 1])
  rw [HM3.out] at ht2
  have HT2 := Lib.hid ht2; have HT := Lib.hid T; clear ht2 T
  go_simp
  refine HT2.out.mono ?_
  rintro e w7 ⟨rfl, rfl⟩
  refine hK.out _ _ ?_ (fun hHeld => ?_)
  · exact HFS.out _ _ HT.out
  clear hK K HT2
  refine wpAnyH_take (i := 24) (oi := _) (v := ?_) rfl (by kernel_rfl) (by kernel_rfl) (by kernel_rfl) (fun _ _ _ h => h) (Or.inl ⟨by kernel_rfl, ?_⟩) (by assumption) ?_
  rotate_left
  · (intro w hSw; (try dsimp only at hSw); go_simp; try (with_reducible rfl))
  simp only [Act.put, List.getElem_toArray, List.getElem_cons_succ, List.getElem_cons_zero, List.setIfInBounds_toArray, List.set_cons_zero, List.set_cons_succ]
  refine wpAnyH_take (i := 25) (oi := _) (v := ?_) rfl (by kernel_rfl) (by kernel_rfl) (by kernel_rfl) (fun _ _ _ h => h) (Or.inl ⟨by kernel_rfl, ?_⟩) (by assumption) ?_
  rotate_left
  · (intro w hSw; (try dsimp only at hSw); go_simp; try (with_reducible rfl))
  simp only [Act.put, List.getElem_toArray, List.getElem_cons_succ, List.getElem_cons_zero, List.setIfInBounds_toArray, List.set_cons_zero, List.set_cons_succ]
  refine wpAnyH_take (i := 26) (oi := _) (v := ?_) rfl (by kernel_rfl) (by kernel_rfl) (by kernel_rfl) (fun _ _ _ h => h) (Or.inl ⟨by kernel_rfl, ?_⟩) (by assumption) ?_
  rotate_left
  · (intro w hSw; (try dsimp only at hSw); go_simp; try (with_reducible rfl))
  simp only [Act.put, List.getElem_toArray, List.getElem_cons_succ, List.getElem_cons_zero, List.setIfInBounds_toArray, List.set_cons_zero]
  refine wpAnyH_done (by kernel_rfl) ?_ _
  have T := HT.out.nil
  have HT2 := Lib.hid T; clear T HT
  simp only [Exit.then]
  go_wp2
  go_ret
  exact ⟨rfl, HT2.out⟩
end Go.Proofs.Ytpganpiidgkofaa
/- LCall as a value, as cells: its parts, equality, loads, stores, building. Printed by types.py. -/
namespace Go.Proofs.Ytpganpiidgkofaa
open Go.RowKit
set_option linter.unusedVariables false
structure LCall where
  kind : Int
  item : Item
  inst : Inst
  keep : Int
  spoil : Int
def LCV (x : LCall) : Array Value := #[.int .i64 x.kind, .int .i64 x.item.rep, .int .i64 x.item.num, .int .i64 x.inst.prom.round, .int .i64 x.inst.prom.rep, .int .i64 x.inst.vote.round, .int .i64 x.inst.vote.rep, .int .i64 x.inst.status, .int .i64 x.inst.call.deed.kind, .string x.inst.call.deed.key, .string x.inst.call.deed.val, .int .i64 x.inst.call.deed.ver, .int .i64 x.inst.call.deed.ses, .int .i64 x.inst.call.deed.num, .int .i64 (x.inst.call.deps 0), .int .i64 (x.inst.call.deps 1), .int .i64 (x.inst.call.deps 2), .int .i64 (x.inst.call.deps 3), .int .i64 (x.inst.call.deps 4), .int .i64 (x.inst.call.deps 5), .int .i64 (x.inst.call.deps 6), .int .i64 x.inst.call.seq, .bool x.inst.same, .int .i64 x.keep, .int .u8 x.spoil]
def noLCall : LCall := ⟨0, noItem, noInst, 0, 0⟩
section
variable (x y : LCall)
theorem TLCall_size : (LCV x).size = 25 := rfl
theorem TLCall_one : allOne (LCV x) = true := by simp [allOne, LCV, Value.oneCell']
theorem TLCall_piece : piece (LCV x) 0 25 = LCV x := piece_all _ _ rfl
theorem TLCall_c0 : (LCV x)[0]? = some (.int .i64 x.kind) := rfl
theorem TLCall_c1 : (LCV x)[1]? = some (.int .i64 x.item.rep) := rfl
theorem TLCall_c2 : (LCV x)[2]? = some (.int .i64 x.item.num) := rfl
theorem TLCall_c3 : (LCV x)[3]? = some (.int .i64 x.inst.prom.round) := rfl
theorem TLCall_c4 : (LCV x)[4]? = some (.int .i64 x.inst.prom.rep) := rfl
theorem TLCall_c5 : (LCV x)[5]? = some (.int .i64 x.inst.vote.round) := rfl
theorem TLCall_c6 : (LCV x)[6]? = some (.int .i64 x.inst.vote.rep) := rfl
theorem TLCall_c7 : (LCV x)[7]? = some (.int .i64 x.inst.status) := rfl
theorem TLCall_c8 : (LCV x)[8]? = some (.int .i64 x.inst.call.deed.kind) := rfl
theorem TLCall_c9 : (LCV x)[9]? = some (.string x.inst.call.deed.key) := rfl
theorem TLCall_c10 : (LCV x)[10]? = some (.string x.inst.call.deed.val) := rfl
theorem TLCall_c11 : (LCV x)[11]? = some (.int .i64 x.inst.call.deed.ver) := rfl
theorem TLCall_c12 : (LCV x)[12]? = some (.int .i64 x.inst.call.deed.ses) := rfl
theorem TLCall_c13 : (LCV x)[13]? = some (.int .i64 x.inst.call.deed.num) := rfl
theorem TLCall_c14 : (LCV x)[14]? = some (.int .i64 (x.inst.call.deps 0)) := rfl
theorem TLCall_c15 : (LCV x)[15]? = some (.int .i64 (x.inst.call.deps 1)) := rfl
theorem TLCall_c16 : (LCV x)[16]? = some (.int .i64 (x.inst.call.deps 2)) := rfl
theorem TLCall_c17 : (LCV x)[17]? = some (.int .i64 (x.inst.call.deps 3)) := rfl
theorem TLCall_c18 : (LCV x)[18]? = some (.int .i64 (x.inst.call.deps 4)) := rfl
theorem TLCall_c19 : (LCV x)[19]? = some (.int .i64 (x.inst.call.deps 5)) := rfl
theorem TLCall_c20 : (LCV x)[20]? = some (.int .i64 (x.inst.call.deps 6)) := rfl
theorem TLCall_c21 : (LCV x)[21]? = some (.int .i64 x.inst.call.seq) := rfl
theorem TLCall_c22 : (LCV x)[22]? = some (.bool x.inst.same) := rfl
theorem TLCall_c23 : (LCV x)[23]? = some (.int .i64 x.keep) := rfl
theorem TLCall_c24 : (LCV x)[24]? = some (.int .u8 x.spoil) := rfl
theorem TLCall_set_kind (v : Int) : (LCV x).setIfInBounds 0 (.int .i64 v) = LCV { x with kind := v } := rfl
theorem TLCall_p_item : piece (LCV x) 1 2 = IV x.item := by kernel_rfl
theorem TLCall_put_item (v : Item) : splice (LCV x) 1 (IV v) = LCV { x with item := v } := by kernel_rfl
theorem TLCall_p_inst : piece (LCV x) 3 20 = NV x.inst := by kernel_rfl
theorem TLCall_put_inst (v : Inst) : splice (LCV x) 3 (NV v) = LCV { x with inst := v } := by kernel_rfl
theorem TLCall_set_keep (v : Int) : (LCV x).setIfInBounds 23 (.int .i64 v) = LCV { x with keep := v } := rfl
theorem TLCall_set_spoil (v : Int) : (LCV x).setIfInBounds 24 (.int .u8 v) = LCV { x with spoil := v } := rfl
theorem TLCall_deps (i : Nat) (h : i < 7) : (LCV x)[14 + i]? = some (.int .i64 (x.inst.call.deps i)) := by
  match i, h with
  | 0, _ => rfl
  | 1, _ => rfl
  | 2, _ => rfl
  | 3, _ => rfl
  | 4, _ => rfl
  | 5, _ => rfl
  | 6, _ => rfl
theorem TLCall_cat : LCV x = #[.int .i64 x.kind] ++ IV x.item ++ NV x.inst ++ #[.int .i64 x.keep] ++ #[.int .u8 x.spoil] := by kernel_rfl
theorem TLCall_ext : LCV x = LCV y ↔ x.kind = y.kind ∧ IV x.item = IV y.item ∧ NV x.inst = NV y.inst ∧ x.keep = y.keep ∧ x.spoil = y.spoil := by
  constructor
  · intro h
    refine ⟨?_, ?_, ?_, ?_, ?_⟩
    · have := congrArg (·[0]?) h; simpa [TLCall_c0, TLCall_size] using this
    · have := congrArg (fun c => piece c 1 2) h; simpa only [TLCall_p_item] using this
    · have := congrArg (fun c => piece c 3 20) h; simpa only [TLCall_p_inst] using this
    · have := congrArg (·[23]?) h; simpa [TLCall_c23, TLCall_size] using this
    · have := congrArg (·[24]?) h; simpa [TLCall_c24, TLCall_size] using this
  · rintro ⟨h0, h1, h2, h3, h4⟩
    rw [TLCall_cat x, TLCall_cat y, h0, h1, h2, h3, h4]
end
theorem TLCall_und : Try.prog.underlying 62 = some (.struct (Try.prog.fieldsOf 62)) := by kernel_rfl
theorem TLCall_eq (d : Nat) (x y : LCall) (w : World) : (Op.equalIn (d + 5) 62 (.agg (LCV x)) (.agg (LCV y))).run Try.prog w = .ok (eqA (LCV x) (LCV y)) w := by
  refine eq_struct (d := d + 4) (L := [(3, 0, x.kind == y.kind), (42, 1, eqA (IV x.item) (IV y.item)), (39, 3, eqA (NV x.inst) (NV y.inst)), (3, 23, x.keep == y.keep), (5, 24, x.spoil == y.spoil)]) TLCall_und (by kernel_rfl) (by kernel_rfl) ?_ ?_ w
  · simp only [List.forall_mem_cons]
    exact ⟨⟨_, _, part_cell Try.underlying3 rfl (by kernel_rfl) (TLCall_c0 x), part_cell Try.underlying3 rfl (by kernel_rfl) (TLCall_c0 y), fun w => run_equalIn_int w (d + 3) _ _ _ _ _ Try.underlying3⟩, ⟨_, _, fun w => by rw [part_row TItem_und rfl (by kernel_rfl) (n := 2), TLCall_p_item], fun w => by rw [part_row TItem_und rfl (by kernel_rfl) (n := 2), TLCall_p_item], fun w => TItem_eq (d + 2) x.item y.item w⟩, ⟨_, _, fun w => by rw [part_row TInst_und rfl (by kernel_rfl) (n := 20), TLCall_p_inst], fun w => by rw [part_row TInst_und rfl (by kernel_rfl) (n := 20), TLCall_p_inst], fun w => TInst_eq (d + 0) x.inst y.inst w⟩, ⟨_, _, part_cell Try.underlying3 rfl (by kernel_rfl) (TLCall_c23 x), part_cell Try.underlying3 rfl (by kernel_rfl) (TLCall_c23 y), fun w => run_equalIn_int w (d + 3) _ _ _ _ _ Try.underlying3⟩, ⟨_, _, part_cell Try.underlying5 rfl (by kernel_rfl) (TLCall_c24 x), part_cell Try.underlying5 rfl (by kernel_rfl) (TLCall_c24 y), fun w => run_equalIn_int w (d + 3) _ _ _ _ _ Try.underlying5⟩, by simp⟩
  · refine eqA_of ?_
    rw [TLCall_ext]
    simp [eqA_iff]
theorem TLCall_eql (x y : LCall) (w : World) : (binOp .eql 62 (.agg (LCV x)) (.agg (LCV y))).run Try.prog w = .ok (.bool (eqA (LCV x) (LCV y))) w := eql_of (TLCall_eq 9995 x y) w
theorem TLCall_neq (x y : LCall) (w : World) : (binOp .neq 62 (.agg (LCV x)) (.agg (LCV y))).run Try.prog w = .ok (.bool (!eqA (LCV x) (LCV y))) w := neq_of (TLCall_eq 9995 x y) w
theorem TLCall_ld0 (v : Value) : Instr.loadAt 62 v = loadSem 62 v := rfl
theorem TLCall_st0 (v u : Value) : Instr.storeAt 62 v u = storeSem 62 v u := rfl
theorem TLCall_fd0 (x : Value) (i : Nat) : Instr.field 62 x i = fieldSem 62 x i := rfl
theorem TLCall_bd0 (p : Array (Nat × Value)) : Instr.build 62 p = buildS 62 p := rfl
theorem TLCall_ld (w : World) (v : Value) : (loadSem 62 v).run Try.prog w = loadVal Try.prog 62 25 w v := load_val TLCall_und rfl (by kernel_rfl) w v
theorem TLCall_st (w : World) (v u : Value) : (storeSem 62 v u).run Try.prog w = storeVal Try.prog 62 25 w v u := store_val (by kernel_rfl) w v u
theorem TLCall_f_kind (x : LCall) (w : World) : (fieldSem 62 (.agg (LCV x)) 0).run Try.prog w = .ok (.int .i64 x.kind) w := field_of TLCall_und (by kernel_rfl) (part_cell Try.underlying3 rfl (by kernel_rfl) (TLCall_c0 x)) w
theorem TLCall_f_item (x : LCall) (w : World) : (fieldSem 62 (.agg (LCV x)) 1).run Try.prog w = .ok (.agg (IV x.item)) w := field_of TLCall_und (by kernel_rfl) (fun w => by rw [part_row TItem_und rfl (by kernel_rfl) (n := 2), TLCall_p_item]) w
theorem TLCall_f_inst (x : LCall) (w : World) : (fieldSem 62 (.agg (LCV x)) 2).run Try.prog w = .ok (.agg (NV x.inst)) w := field_of TLCall_und (by kernel_rfl) (fun w => by rw [part_row TInst_und rfl (by kernel_rfl) (n := 20), TLCall_p_inst]) w
theorem TLCall_f_keep (x : LCall) (w : World) : (fieldSem 62 (.agg (LCV x)) 3).run Try.prog w = .ok (.int .i64 x.keep) w := field_of TLCall_und (by kernel_rfl) (part_cell Try.underlying3 rfl (by kernel_rfl) (TLCall_c23 x)) w
theorem TLCall_f_spoil (x : LCall) (w : World) : (fieldSem 62 (.agg (LCV x)) 4).run Try.prog w = .ok (.int .u8 x.spoil) w := field_of TLCall_und (by kernel_rfl) (part_cell Try.underlying5 rfl (by kernel_rfl) (TLCall_c24 x)) w
def TLCall_pl : Nat → Option (Nat × Nat) := fun i => (#[(0, 1), (1, 2), (3, 20), (23, 1), (24, 1)] : Array (Nat × Nat))[i]?
theorem TLCall_bd (w : World) (p : Array (Nat × Value)) : (buildS 62 p).run Try.prog w = buildOf Try.prog 62 TLCall_pl (LCV noLCall) p w := build_struct TLCall_und (by kernel_rfl) (fun w => by kernel_rfl) w p
theorem TLCall_fl (X : Array Value) : fillS TLCall_pl X [] = some X := rfl
theorem TLCall_fl_kind (x : LCall) (v : Int) (r : List (Nat × Value)) : fillS TLCall_pl (LCV x) ((0, .int .i64 v) :: r) = fillS TLCall_pl (LCV { x with kind := v }) r := rfl
theorem TLCall_fl_item (x : LCall) (v : Item) (r : List (Nat × Value)) : fillS TLCall_pl (LCV x) ((1, .agg (IV v)) :: r) = fillS TLCall_pl (LCV { x with item := v }) r := by
  show Instr.fill _ _ _ = Instr.fill _ _ _
  rw [fill_cons TLCall_pl (LCV x) (IV v) 1 1 2 r rfl rfl (by show _ ≤ 25; omega), TLCall_put_item]
theorem TLCall_fl_inst (x : LCall) (v : Inst) (r : List (Nat × Value)) : fillS TLCall_pl (LCV x) ((2, .agg (NV v)) :: r) = fillS TLCall_pl (LCV { x with inst := v }) r := by
  show Instr.fill _ _ _ = Instr.fill _ _ _
  rw [fill_cons TLCall_pl (LCV x) (NV v) 2 3 20 r rfl rfl (by show _ ≤ 25; omega), TLCall_put_inst]
theorem TLCall_fl_keep (x : LCall) (v : Int) (r : List (Nat × Value)) : fillS TLCall_pl (LCV x) ((3, .int .i64 v) :: r) = fillS TLCall_pl (LCV { x with keep := v }) r := rfl
theorem TLCall_fl_spoil (x : LCall) (v : Int) (r : List (Nat × Value)) : fillS TLCall_pl (LCV x) ((4, .int .u8 v) :: r) = fillS TLCall_pl (LCV { x with spoil := v }) r := rfl
theorem TLCall_ret {fn : Func} {R : Ending → World → Prop} {a : Act} {w : World} {p : Tmp} (x : LCall) {g : Nat} (hr : fn.results = #[.cell p 62]) (hp : a.tmps.getD p undef = .pointer (some ⟨g, 0, none⟩)) (hdf : a.defers = []) (hrow : row? w g = some (LCV x)) (hR : R (.returned (.agg (LCV x))) w) : bodyPost Try.prog fn R .ret a w :=
  ret_row (LCV x) TLCall_und rfl (by kernel_rfl) hr hp hdf (TLCall_size x) hrow hR
end Go.Proofs.Ytpganpiidgkofaa
/- Layer 9: more than is played? -/
namespace Go.Proofs.Ytpganpiidgkofaa
open Go.RowKit
set_option linter.unusedVariables false
set_option maxRecDepth 20000
attribute [local go_sem] row_alloc row_drew row_drewN row_ext row_setCell row_setRow size_ext setRow_alloc setRow_drew loadOf storeOf piece_lit loadVal_at storeVal_at allOne_lit buildOf buildRes_some
attribute [local go_sem high] cell_alloc frozen_alloc setCell_alloc cell_ext frozen_ext cell_setRow frozen_setRow
attribute [local go_sem ↓] TDeed_ld0 TDeed_st0 TDeed_fd0 TDeed_bd0
attribute [local go_sem] TDeed_size TDeed_one TDeed_piece TDeed_c0 TDeed_c1 TDeed_c2 TDeed_c3 TDeed_c4 TDeed_c5 TDeed_set_kind TDeed_set_key TDeed_set_val TDeed_set_ver TDeed_set_ses TDeed_set_num TDeed_ld TDeed_st TDeed_f_kind TDeed_f_key TDeed_f_val TDeed_f_ver TDeed_f_ses TDeed_f_num TDeed_bd TDeed_fl TDeed_fl_kind TDeed_fl_key TDeed_fl_val TDeed_fl_ver TDeed_fl_ses TDeed_fl_num
attribute [local go_sem high] TDeed_eql TDeed_neq
attribute [local go_sem ↓] index_deps0 load_deps0 store_deps0
attribute [local go_sem] DV_piece DV_size DV_one index_deps load_deps store_deps
attribute [local go_sem high] TDeps_eql TDeps_neq
attribute [local go_sem ↓] TCall_ld0 TCall_st0 TCall_fd0 TCall_bd0
attribute [local go_sem] TCall_size TCall_one TCall_piece TCall_c0 TCall_c1 TCall_c2 TCall_c3 TCall_c4 TCall_c5 TCall_c6 TCall_c7 TCall_c8 TCall_c9 TCall_c10 TCall_c11 TCall_c12 TCall_c13 TCall_p_deed TCall_put_deed TCall_p_deps TCall_put_deps TCall_set_seq TCall_ld TCall_st TCall_f_deed TCall_f_deps TCall_f_seq TCall_bd TCall_fl TCall_fl_deed TCall_fl_deps TCall_fl_seq
attribute [local go_sem high] TCall_eql TCall_neq
attribute [local go_sem ↓] TItem_ld0 TItem_st0 TItem_fd0 TItem_bd0
attribute [local go_sem] TItem_size TItem_one TItem_piece TItem_c0 TItem_c1 TItem_set_rep TItem_set_num TItem_ld TItem_st TItem_f_rep TItem_f_num TItem_bd TItem_fl TItem_fl_rep TItem_fl_num
attribute [local go_sem high] TItem_eql TItem_neq
attribute [local go_sem ↓] TBallot_ld0 TBallot_st0 TBallot_fd0 TBallot_bd0
attribute [local go_sem] TBallot_size TBallot_one TBallot_piece TBallot_c0 TBallot_c1 TBallot_set_round TBallot_set_rep TBallot_ld TBallot_st TBallot_f_round TBallot_f_rep TBallot_bd TBallot_fl TBallot_fl_round TBallot_fl_rep
attribute [local go_sem high] TBallot_eql TBallot_neq
attribute [local go_sem ↓] TInst_ld0 TInst_st0 TInst_fd0 TInst_bd0
attribute [local go_sem] TInst_size TInst_one TInst_piece TInst_c0 TInst_c1 TInst_c2 TInst_c3 TInst_c4 TInst_c5 TInst_c6 TInst_c7 TInst_c8 TInst_c9 TInst_c10 TInst_c11 TInst_c12 TInst_c13 TInst_c14 TInst_c15 TInst_c16 TInst_c17 TInst_c18 TInst_c19 TInst_p_prom TInst_put_prom TInst_p_vote TInst_put_vote TInst_set_status TInst_p_call TInst_put_call TInst_set_same TInst_ld TInst_st TInst_f_prom TInst_f_vote TInst_f_status TInst_f_call TInst_f_same TInst_bd TInst_fl TInst_fl_prom TInst_fl_vote TInst_fl_status TInst_fl_call TInst_fl_same
attribute [local go_sem high] TInst_eql TInst_neq
attribute [local go_sem ↓] TLCall_ld0 TLCall_st0 TLCall_fd0 TLCall_bd0
attribute [local go_sem] TLCall_size TLCall_one TLCall_piece TLCall_c0 TLCall_c1 TLCall_c2 TLCall_c3 TLCall_c4 TLCall_c5 TLCall_c6 TLCall_c7 TLCall_c8 TLCall_c9 TLCall_c10 TLCall_c11 TLCall_c12 TLCall_c13 TLCall_c14 TLCall_c15 TLCall_c16 TLCall_c17 TLCall_c18 TLCall_c19 TLCall_c20 TLCall_c21 TLCall_c22 TLCall_c23 TLCall_c24 TLCall_set_kind TLCall_p_item TLCall_put_item TLCall_p_inst TLCall_put_inst TLCall_set_keep TLCall_set_spoil TLCall_ld TLCall_st TLCall_f_kind TLCall_f_item TLCall_f_inst TLCall_f_keep TLCall_f_spoil TLCall_bd TLCall_fl TLCall_fl_kind TLCall_fl_item TLCall_fl_inst TLCall_fl_keep TLCall_fl_spoil
attribute [local go_sem high] TLCall_eql TLCall_neq
def overL (x : LCall) : Bool := decide ((200 : Int) < (x.inst.call.deed.key.size : Int) + (x.inst.call.deed.val.size : Int))
def greatL (l : List LCall) : Bool := l.any overL || decide ((60 : Int) < (l.length : Int))
def FitL (l : List LCall) : Prop := ∀ x ∈ l, x.inst.call.deed.key.size ≤ 140737488351232 ∧ x.inst.call.deed.val.size ≤ 140737488351232
set_option maxHeartbeats 4000000 in
theorem great9 (A : Option Addr) (c : Nat) (l : List LCall) (w W : World) (R : List Res) (hx : RowsIn w A 25 LCV l) (hf : FitL l) (T : Sts w (fun _ => False) W R) :
    Calls Try.prog 26 #[.slice A l.length c] W fun e W' => e = .returned (.bool (greatL l)) ∧ Sts w (fun _ => False) W' R := by
  have hll := hx.len
  go_enter Try.func26, Try.ntmps26
  go_wp2_with fail
  go_loopw [7] (fun i wr => ∃ k : Nat, k ≤ l.length ∧ i = .int .i64 k ∧ (l.take k).any overL = false ∧ Sts w (fun _ => False) wr R) (fun i _ => l.length - (intOf i).toNat)
  case atStart => exact ⟨0, by omega, rfl, rfl, T⟩
  case round =>
    clear T
    obtain ⟨k, hk0, rfl, hno, T⟩ := hrel
    by_cases hkl : k < l.length
    · cases A with
      | none => have := hx.nil rfl; subst this; simp at hkl
      | some a =>
        have hld := hx.load (P := Try.prog) (T := 62) TLCall_size TLCall_und rfl (by kernel_rfl) T.below rfl hkl
        obtain ⟨hk1, hk2⟩ := hf l[k] (List.getElem_mem hkl)
        have hoj : l[k]? = some l[k] := List.getElem?_eq_getElem hkl
        have hme : l[k] ∈ l := List.getElem_mem hkl
        have HF := Lib.hid hf; clear hf
        generalize l[k] = x at *
        have T := T.new (LCV x) 62
        have hr := T.row; have hlt := row_lt hr; have hc := row_cell hr
        have HM := Lib.hid hme; have HO := Lib.hid hoj; have HNO := Lib.hid hno; have HT := Lib.hid T
        clear hme hoj hno T
        cases hov : overL x
        case false =>
          have hg : decide ((200 : Int) < (x.inst.call.deed.key.size : Int) + (x.inst.call.deed.val.size : Int)) = false := hov
          go_wp2
          go_roundw
          case rel => exact ⟨k + 1, by omega, by go_num, by rw [List.take_add_one, HO.out, List.any_append, HNO.out]; simp [hov], HT.out.drop⟩
          case measure => simp [intOf]; omega
        case true =>
          have hg : decide ((200 : Int) < (x.inst.call.deed.key.size : Int) + (x.inst.call.deed.val.size : Int)) = true := hov
          have hm : greatL l = true := by
            unfold greatL
            rw [Bool.or_eq_true]; left
            rw [List.any_eq_true]
            exact ⟨x, HM.out, hov⟩
          have HG := Lib.hid hm; clear hm
          go_wp2
          go_ret
          exact ⟨by rw [HG.out]; rfl, HT.out.drop⟩
    · obtain rfl : k = l.length := by omega
      rw [List.take_length] at hno
      have hm : greatL l = decide ((60 : Int) < (l.length : Int)) := by unfold greatL; rw [hno]; rfl
      have HG := Lib.hid hm; have HT := Lib.hid T; clear hm T
      go_wp2
      go_ret
      exact ⟨by rw [HG.out]; rfl, HT.out⟩
end Go.Proofs.Ytpganpiidgkofaa
