/- Several texts in one. -/
import Derived.Test.YtpganpiidgkofaaX37
import Derived.Test.YtpganpiidgkofaaX33
import Derived.Test.YtpganpiidgkofaaX28
import Derived.Test.YtpganpiidgkofaaX5
import Derived.Deep.LoopGhost
/- Layer 12: At, Sync; a nil space. -/
namespace Go.Proofs.Ytpganpiidgkofaa
open Go.RowKit
set_option linter.unusedVariables false
set_option maxRecDepth 20000
attribute [local go_sem] row_alloc row_drew row_drewN row_ext row_setCell row_setRow size_ext setRow_alloc setRow_drew loadOf storeOf piece_lit loadVal_at storeVal_at allOne_lit buildOf buildRes_some
attribute [local go_sem high] cell_alloc frozen_alloc setCell_alloc cell_ext frozen_ext cell_setRow frozen_setRow
attribute [local go_sem ↓] TDeed_ld0 TDeed_st0 TDeed_fd0 TDeed_bd0
attribute [local go_sem] TDeed_size TDeed_one TDeed_piece TDeed_c0 TDeed_c1 TDeed_c2 TDeed_c3 TDeed_c4 TDeed_c5 TDeed_set_kind TDeed_set_key TDeed_set_val TDeed_set_ver TDeed_set_ses TDeed_set_num TDeed_ld TDeed_st TDeed_f_kind TDeed_f_key TDeed_f_val TDeed_f_ver TDeed_f_ses TDeed_f_num TDeed_bd TDeed_fl TDeed_fl_kind TDeed_fl_key TDeed_fl_val TDeed_fl_ver TDeed_fl_ses TDeed_fl_num
attribute [local go_sem high] TDeed_eql TDeed_neq
attribute [local go_sem ↓] index_deps0 load_deps0 store_deps0
attribute [local go_sem] DV_piece DV_size DV_one index_deps load_deps store_deps
attribute [local go_sem high] TDeps_eql TDeps_neq
attribute [local go_sem ↓] TCall_ld0 TCall_st0 TCall_fd0 TCall_bd0
attribute [local go_sem] TCall_size TCall_one TCall_piece TCall_c0 TCall_c1 TCall_c2 TCall_c3 TCall_c4 TCall_c5 TCall_c6 TCall_c7 TCall_c8 TCall_c9 TCall_c10 TCall_c11 TCall_c12 TCall_c13 TCall_p_deed TCall_put_deed TCall_p_deps TCall_put_deps TCall_set_seq TCall_ld TCall_st TCall_f_deed TCall_f_deps TCall_f_seq TCall_bd TCall_fl TCall_fl_deed TCall_fl_deps TCall_fl_seq
attribute [local go_sem high] TCall_eql TCall_neq
attribute [local go_sem ↓] TItem_ld0 TItem_st0 TItem_fd0 TItem_bd0
attribute [local go_sem] TItem_size TItem_one TItem_piece TItem_c0 TItem_c1 TItem_set_rep TItem_set_num TItem_ld TItem_st TItem_f_rep TItem_f_num TItem_bd TItem_fl TItem_fl_rep TItem_fl_num
attribute [local go_sem high] TItem_eql TItem_neq
attribute [local go_sem ↓] TBallot_ld0 TBallot_st0 TBallot_fd0 TBallot_bd0
attribute [local go_sem] TBallot_size TBallot_one TBallot_piece TBallot_c0 TBallot_c1 TBallot_set_round TBallot_set_rep TBallot_ld TBallot_st TBallot_f_round TBallot_f_rep TBallot_bd TBallot_fl TBallot_fl_round TBallot_fl_rep
attribute [local go_sem high] TBallot_eql TBallot_neq
attribute [local go_sem ↓] TInst_ld0 TInst_st0 TInst_fd0 TInst_bd0
attribute [local go_sem] TInst_size TInst_one TInst_piece TInst_c0 TInst_c1 TInst_c2 TInst_c3 TInst_c4 TInst_c5 TInst_c6 TInst_c7 TInst_c8 TInst_c9 TInst_c10 TInst_c11 TInst_c12 TInst_c13 TInst_c14 TInst_c15 TInst_c16 TInst_c17 TInst_c18 TInst_c19 TInst_p_prom TInst_put_prom TInst_p_vote TInst_put_vote TInst_set_status TInst_p_call TInst_put_call TInst_set_same TInst_ld TInst_st TInst_f_prom TInst_f_vote TInst_f_status TInst_f_call TInst_f_same TInst_bd TInst_fl TInst_fl_prom TInst_fl_vote TInst_fl_status TInst_fl_call TInst_fl_same
attribute [local go_sem high] TInst_eql TInst_neq
section
variable {w W : World} {F : Nat → Prop} {R : List Res} {s lg p g bk bs : Nat} {I : Idx} {D : List UInt8} {safe : Nat} {m : RowsM}
theorem spSyncT (T : Sts w F W (spL s lg p g bk bs I D safe m ++ R)) : Calls Try.prog 34 #[.pointer (some ⟨s, 0, none⟩)] W fun e W' => e = .returned (.int .i64 0) ∧ Sts w F W' (spL s lg p g bk bs I D D.length m ++ R) := by
  have T0 : Sts w F W (idxR s lg bk bs I :: rowR lg (ledCells p g m.n) :: plR p D safe :: rowsIR g m :: R) := T
  obtain ⟨v, T1⟩ := T0.idxOpen
  have hc : W.cell? ⟨s, 0, none⟩ = some (.pointer (some ⟨lg, 0, none⟩)) := row_cell T1.row 0
  have hl := row_lt T1.row
  have T2 := T0.ord [1, 2, 3, 0]
  have T2 : Sts w F W (ledL lg p g D safe m ++ (idxR s lg bk bs I :: R)) := T2
  have HA := Lib.hid (ledSyncT T2); clear T T0 T1 T2
  go_enter Try.func34, Try.ntmps34
  go_wp2_with fail
  refine HA.out.mono ?_
  clear HA
  rintro e w1 ⟨rfl, T⟩
  have T3 : Sts w F w1 (rowR lg (ledCells p g m.n) :: plR p D D.length :: rowsIR g m :: idxR s lg bk bs I :: R) := T
  have HT := Lib.hid (T3.ord [3, 0, 1, 2]); clear T T3
  go_wp2
  go_ret
  exact ⟨rfl, HT.out⟩
set_option maxHeartbeats 2000000 in
theorem spAtR (s lg p g bk bs : Nat) (I : Idx) (D : List UInt8) (safe : Nat) (m : RowsM) (hm : RowsOk m) (x : Item) : Reads Try.prog 43 #[.pointer (some ⟨s, 0, none⟩), .agg (IV x)] (spL s lg p g bk bs I D safe m) (.agg (NV ((getM m x).getD noInst))) := by
  intro W G hS
  obtain ⟨w3, hw3⟩ : ∃ w3, w3 = (W.alloc (.cells (IV x) 42)).alloc (.cells (NV noInst) 39) := ⟨_, rfl⟩
  have T := ((Sts.start0 W).new (IV x) 42).new (NV noInst) 39
  simp only [World.size_alloc] at T
  rw [← hw3] at T
  rw [noInst_lit] at hw3
  obtain ⟨v, TS⟩ := (Sts.start hS).idxOpen
  have TS : Sts W G W [rowR s (spCells lg bk v bs), vecR 42 2 v I.lists.length (vl IV I.lists), keysR bk I.N I.keys, sesR bs I.N I.ses, rowR lg (ledCells p g m.n), plR p D safe, rowsIR g m] := TS
  have hlW := row_lt TS.row
  have hrl : ∀ W' R', Sts W (fun _ => False) W' R' → (W'.cell? ⟨s, 0, none⟩ = some (.pointer (some ⟨lg, 0, none⟩)) ∧ s < W'.heap.size) := fun W' R' T => by
    have r := (row_below T.below hlW).trans TS.row
    exact ⟨row_cell r 0, row_lt r⟩
  have hat : ∀ W' R', Sts W (fun _ => False) W' R' → Calls Try.prog 18 #[.pointer (some ⟨lg, 0, none⟩), .agg (IV x)] W' fun e W'' => e = .returned (.agg (NV ((getM m x).getD noInst))) ∧ Below W'.heap.size W' W'' := fun W' R' T => by
    have T9 := (TS.pure T.below).ord [4, 5, 6, 0, 1, 2, 3]
    exact (ledAtR lg p g D safe m hm x).at (R := [rowR s (spCells lg bk v bs), vecR 42 2 v I.lists.length (vl IV I.lists), keysR bk I.N I.keys, sesR bs I.N I.ses]) T9
  have HRL := Lib.hid hrl; have HAT := Lib.hid hat
  clear hrl hat TS hS
  obtain ⟨c0, l0⟩ := HRL.out w3 _ T
  go_enter Try.func43, Try.ntmps43
  go_wp2_with fail
  rw [← hw3]
  clear hw3
  generalize hg2 : W.heap.size + 1 = g2 at *
  generalize hg1 : W.heap.size = g1 at *
  have FS : ∀ W' R', Sts W (fun _ => False) W' (rowR g1 (IV x) :: R') → (W'.cell? ⟨s, 0, none⟩ = some (.pointer (some ⟨lg, 0, none⟩)) ∧ row? W' g1 = some (IV x)) := fun W' R' T => ⟨(HRL.out W' _ T).1, T.row⟩
  have S0 := FS _ _ T.drew.swap
  have HFS := Lib.hid FS
  have HT := Lib.hid T.drew
  clear FS T c0 l0 HRL
  generalize hres : (getM m x).getD noInst = res at *
  refine wp_region_stage (fun W' => (W'.cell? ⟨s, 0, none⟩ = some (.pointer (some ⟨lg, 0, none⟩)) ∧ row? W' g1 = some (IV x))) (fun W' => True) 6 (by kernel_rfl) S0 (fun hHeld => ?_)
  clear S0
  refine wpAnyL_take0 (i := 0) (oi := _) (v := ?_) rfl (by kernel_rfl) (by kernel_rfl) (by kernel_rfl) (by kernel_rfl) (by kernel_rfl) (fun _ _ _ h => h) (Or.inl ⟨by kernel_rfl, ?_⟩) (by assumption) ?_
  rotate_left
  · (intro w hSw; (try dsimp only at hSw); go_simp; try (with_reducible rfl))
  simp only [Act.put, List.getElem_toArray, List.getElem_cons_zero, List.setIfInBounds_toArray, List.set_cons_zero, List.set_cons_succ]
  refine wpAnyL_take0 (i := 1) (oi := _) (v := ?_) rfl (by kernel_rfl) (by kernel_rfl) (by kernel_rfl) (by kernel_rfl) (by kernel_rfl) (fun _ _ _ h => h) (Or.inl ⟨by kernel_rfl, ?_⟩) (by assumption) ?_
  rotate_left
  · (intro w hSw; (try dsimp only at hSw); go_simp; try (with_reducible rfl))
  simp only [Act.put, List.getElem_toArray, List.getElem_cons_succ, List.getElem_cons_zero, List.setIfInBounds_toArray, List.set_cons_zero, List.set_cons_succ]
  refine wpAnyL_take0 (i := 2) (oi := _) (v := ?_) rfl (by kernel_rfl) (by kernel_rfl) (by kernel_rfl) (by kernel_rfl) (by kernel_rfl) (fun _ _ _ h => h) (Or.inl ⟨by kernel_rfl, ?_⟩) (by assumption) ?_
  rotate_left
  · (intro w hSw; (try dsimp only at hSw); go_simp; try (with_reducible rfl))
  simp only [Act.put, List.getElem_toArray, List.getElem_cons_succ, List.getElem_cons_zero, List.setIfInBounds_toArray, List.set_cons_zero, List.set_cons_succ]
  refine wpAnyL_take0 (i := 3) (oi := _) (v := ?_) rfl (by kernel_rfl) (by kernel_rfl) (by kernel_rfl) (by kernel_rfl) (by kernel_rfl) (fun _ _ _ h => h) (Or.inl ⟨by kernel_rfl, ?_⟩) (by assumption) ?_
  rotate_left
  · (intro w hSw; (try dsimp only at hSw); go_simp; try (with_reducible rfl))
  simp only [Act.put, List.getElem_toArray, List.getElem_cons_succ, List.getElem_cons_zero, List.setIfInBounds_toArray, List.set_cons_zero, List.set_cons_succ]
  refine wpAnyL_take0 (i := 4) (oi := _) (v := ?_) rfl (by kernel_rfl) (by kernel_rfl) (by kernel_rfl) (by kernel_rfl) (by kernel_rfl) (fun _ _ _ h => h) (Or.inl ⟨by kernel_rfl, ?_⟩) (by assumption) ?_
  rotate_left
  · (intro w hSw; (try dsimp only at hSw); go_simp; try (with_reducible rfl))
  simp only [Act.put, List.getElem_toArray, List.getElem_cons_succ, List.getElem_cons_zero, List.setIfInBounds_toArray, List.set_cons_zero, List.set_cons_succ]
  refine wpAnyL_ready (rs := [5]) (by kernel_rfl) (by simp) ?_
  refine AllReadyL.cons0 (o := _) rfl (by kernel_rfl) (fun K hK => ?_) AllReadyL.nil
  go_simp
  refine (HAT.out _ _ HT.out).mono ?_
  rintro e w4 ⟨rfl, hb⟩
  have T1 := HT.out.pure hb
  clear hb HT HAT
  refine hK.out _ _ ?_ (fun hHeld => ?_)
  · exact HFS.out _ _ T1.swap
  clear hK K
  refine wpAnyL_ready (rs := [6]) (by kernel_rfl) (by simp) ?_
  refine AllReadyL.cons1 (o := _) rfl (by kernel_rfl) (fun K hK => ?_) AllReadyL.nil
  have r2 := T1.row; have l2 := row_lt r2
  rw [noInst_lit] at r2
  have T2 := T1.setRow (NV res)
  have HT2 := Lib.hid T2; clear T1 T2
  go_simp
  refine hK.out _ _ trivial (fun hHeld => ?_)
  clear hK K r2 l2
  refine wpAnyL_done (by kernel_rfl) ?_ _
  try simp only [Exit.then]
  generalize w4.setRow _ _ = w5 at *
  go_wp2
  refine ret_row (NV res) TInst_und rfl (by kernel_rfl) rfl rfl rfl (TInst_size _) HT2.out.row ?_
  exact ⟨by rw [hres], by first | exact HT2.out.below | (rw [hg1]; exact HT2.out.below) | (rw [← hg1]; exact HT2.out.below)⟩
theorem spSyncNil : Ans Try.prog 34 #[.pointer none] (.int .i64 2) := by
  intro W
  go_enter Try.func34, Try.ntmps34
  go_wp2
  go_ret
  exact ⟨rfl, Below.refl _ _⟩
theorem spKnowNil (x : Item) (i : Inst) : Ans Try.prog 33 #[.pointer none, .agg (IV x), .agg (NV i)] (.int .i64 2) := by
  refine Ans.of_sts fun W => ?_
  have T := ((Sts.start0 W).new (IV x) 42).new (NV i) 39
  have HT := Lib.hid T.drop.drop; clear T
  go_enter Try.func33, Try.ntmps33
  go_wp2
  go_ret
  exact ⟨rfl, HT.out⟩
theorem spTopNil (rep : Int) : Ans Try.prog 44 #[.pointer none, .int .i64 rep] (.int .i64 0) := by
  intro W
  go_enter Try.func44, Try.ntmps44
  go_wp2
  go_ret
  exact ⟨rfl, Below.refl _ _⟩
theorem spSizeNil : Ans Try.prog 45 #[.pointer none] (.int .i64 0) := by
  intro W
  go_enter Try.func45, Try.ntmps45
  go_wp2
  go_ret
  exact ⟨rfl, Below.refl _ _⟩
theorem spAtNil (x : Item) : Ans Try.prog 43 #[.pointer none, .agg (IV x)] (.agg (NV noInst)) := by
  refine Ans.of_sts fun W => ?_
  have T := ((Sts.start0 W).new (IV x) 42).new (NV noInst) 39
  simp only [World.size_alloc] at T
  have HT := Lib.hid T; clear T
  go_enter Try.func43, Try.ntmps43
  go_wp2
  refine ret_row (NV noInst) TInst_und rfl (by kernel_rfl) rfl rfl rfl (TInst_size _) HT.out.row ?_
  exact ⟨rfl, HT.out.drop.drop⟩
set_option maxHeartbeats 4000000 in
theorem spNextNil (rep : Int) (T : Sts w F W R) : Calls Try.prog 36 #[.pointer none, .int .i64 rep] W fun e W' => e = .returned (.tuple #[.agg (IV ⟨rep, 1⟩), .bool false]) ∧ Sts w F W' R := by
  have T0 := T.new (IV noItem) 42
  have HA := Lib.hid (Ans.at (spTopNil rep) T0); clear T T0
  go_enter Try.func36, Try.ntmps36
  go_wp2_with fail
  refine HA.out.mono ?_
  clear HA
  rintro e w1 ⟨rfl, T⟩
  have T2 := T.new (IV ⟨rep, 1⟩) 42
  have HT := Lib.hid T2; clear T T2
  go_upto_region 2 with fail
  generalize hw2 : w1.alloc _ = w2 at *
  generalize w1.heap.size = b6 at *
  generalize W.heap.size = b4 at *
  clear hw2
  have FS : ∀ W' R', Sts w F W' (rowR b6 (IV ⟨rep, 1⟩) :: R') → row? W' b6 = some (IV ⟨rep, 1⟩) := fun W' R' T => T.row
  have S0 := FS _ _ HT.out.drew
  have hm0 : ∀ W', row? W' b6 = some (IV ⟨rep, 1⟩) → row? W' b6 = some (IV ⟨rep, 1⟩) := fun _ h => h
  have HFS := Lib.hid FS; have HM := Lib.hid hm0; have HTD := Lib.hid HT.out.drew
  clear FS hm0 HT
  refine wp_region_stage (fun W' => row? W' b6 = some (IV ⟨rep, 1⟩)) (fun W' => row? W' b6 = some (IV ⟨rep, 1⟩)) 18 (by kernel_rfl) S0 (fun hHeld => ?_)
  clear S0
  refine wpAnyL_take0 (i := 0) (oi := _) (v := ?_) rfl (by kernel_rfl) (by kernel_rfl) (by kernel_rfl) (by kernel_rfl) (by kernel_rfl) (fun _ _ _ h => h) (Or.inl ⟨by kernel_rfl, ?_⟩) (by assumption) ?_
  rotate_left
  · (intro w hSw; (try dsimp only at hSw); go_simp; try (with_reducible rfl))
  simp only [Act.put, List.getElem_toArray, List.getElem_cons_zero, List.setIfInBounds_toArray, List.set_cons_zero, List.set_cons_succ]
  refine wpAnyL_take1a HM.out (i := 1) (oi := _) (v := ?_) rfl (by kernel_rfl) (by kernel_rfl) (by kernel_rfl) (by kernel_rfl) (by kernel_rfl) (fun _ _ _ h => h) (Or.inl ⟨by kernel_rfl, ?_⟩) (by assumption) ?_
  rotate_left
  · (intro w hSw; (try dsimp only at hSw); go_simp; try (with_reducible rfl))
  simp only [Act.put, List.getElem_toArray, List.getElem_cons_succ, List.getElem_cons_zero, List.setIfInBounds_toArray, List.set_cons_zero, List.set_cons_succ]
  refine wpAnyL_take1a HM.out (i := 2) (oi := _) (v := ?_) rfl (by kernel_rfl) (by kernel_rfl) (by kernel_rfl) (by kernel_rfl) (by kernel_rfl) (fun _ _ _ h => h) (Or.inl ⟨by kernel_rfl, ?_⟩) (by assumption) ?_
  rotate_left
  · (intro w hSw; (try dsimp only at hSw); go_simp; try (with_reducible rfl))
  simp only [Act.put, List.getElem_toArray, List.getElem_cons_succ, List.getElem_cons_zero, List.setIfInBounds_toArray, List.set_cons_zero, List.set_cons_succ]
  refine wpAnyL_take1a HM.out (i := 3) (oi := _) (v := ?_) rfl (by kernel_rfl) (by kernel_rfl) (by kernel_rfl) (by kernel_rfl) (by kernel_rfl) (fun _ _ _ h => h) (Or.inl ⟨by kernel_rfl, ?_⟩) (by assumption) ?_
  rotate_left
  · (intro w hSw; (try dsimp only at hSw); go_simp; try (with_reducible rfl))
  simp only [Act.put, List.getElem_toArray, List.getElem_cons_succ, List.getElem_cons_zero, List.setIfInBounds_toArray, List.set_cons_zero, List.set_cons_succ]
  refine wpAnyL_take1a HM.out (i := 4) (oi := _) (v := undef) rfl (by kernel_rfl) (by kernel_rfl) (by kernel_rfl) (by kernel_rfl) (by kernel_rfl) (fun _ _ _ h => h) (Or.inr ⟨by kernel_rfl, rfl⟩) (by assumption) ?_
  simp only [Act.put, List.getElem_toArray, List.getElem_cons_succ, List.getElem_cons_zero, List.setIfInBounds_toArray, List.set_cons_zero, List.set_cons_succ]
  refine wpAnyL_take1a HM.out (i := 5) (oi := _) (v := undef) rfl (by kernel_rfl) (by kernel_rfl) (by kernel_rfl) (by kernel_rfl) (by kernel_rfl) (fun _ _ _ h => h) (Or.inr ⟨by kernel_rfl, rfl⟩) (by assumption) ?_
  simp only [Act.put, List.getElem_toArray, List.getElem_cons_succ, List.getElem_cons_zero, List.setIfInBounds_toArray, List.set_cons_zero, List.set_cons_succ]
  refine wpAnyL_take1a HM.out (i := 6) (oi := _) (v := ?_) rfl (by kernel_rfl) (by kernel_rfl) (by kernel_rfl) (by kernel_rfl) (by kernel_rfl) (fun _ _ _ h => h) (Or.inl ⟨by kernel_rfl, ?_⟩) (by assumption) ?_
  rotate_left
  · (intro w hSw; (try dsimp only at hSw); go_simp; try (with_reducible rfl))
  simp only [Act.put, List.getElem_toArray, List.getElem_cons_succ, List.getElem_cons_zero, List.setIfInBounds_toArray, List.set_cons_zero, List.set_cons_succ]
  refine wpAnyL_take1a HM.out (i := 7) (oi := _) (v := ?_) rfl (by kernel_rfl) (by kernel_rfl) (by kernel_rfl) (by kernel_rfl) (by kernel_rfl) (fun _ _ _ h => h) (Or.inl ⟨by kernel_rfl, ?_⟩) (by assumption) ?_
  rotate_left
  · (intro w hSw; (try dsimp only at hSw); go_simp; try (with_reducible rfl))
  simp only [Act.put, List.getElem_toArray, List.getElem_cons_succ, List.getElem_cons_zero, List.setIfInBounds_toArray, List.set_cons_zero, List.set_cons_succ]
  refine wpAnyL_take1a HM.out (i := 8) (oi := _) (v := undef) rfl (by kernel_rfl) (by kernel_rfl) (by kernel_rfl) (by kernel_rfl) (by kernel_rfl) (fun _ _ _ h => h) (Or.inr ⟨by kernel_rfl, rfl⟩) (by assumption) ?_
  simp only [Act.put, List.getElem_toArray, List.getElem_cons_succ, List.getElem_cons_zero, List.setIfInBounds_toArray, List.set_cons_zero, List.set_cons_succ]
  refine wpAnyL_take1a HM.out (i := 9) (oi := _) (v := undef) rfl (by kernel_rfl) (by kernel_rfl) (by kernel_rfl) (by kernel_rfl) (by kernel_rfl) (fun _ _ _ h => h) (Or.inr ⟨by kernel_rfl, rfl⟩) (by assumption) ?_
  simp only [Act.put, List.getElem_toArray, List.getElem_cons_succ, List.getElem_cons_zero, List.setIfInBounds_toArray, List.set_cons_zero, List.set_cons_succ]
  refine wpAnyL_take1a HM.out (i := 10) (oi := _) (v := undef) rfl (by kernel_rfl) (by kernel_rfl) (by kernel_rfl) (by kernel_rfl) (by kernel_rfl) (fun _ _ _ h => h) (Or.inr ⟨by kernel_rfl, rfl⟩) (by assumption) ?_
  simp only [Act.put, List.getElem_toArray, List.getElem_cons_succ, List.getElem_cons_zero, List.setIfInBounds_toArray, List.set_cons_zero, List.set_cons_succ]
  refine wpAnyL_take1a HM.out (i := 11) (oi := _) (v := undef) rfl (by kernel_rfl) (by kernel_rfl) (by kernel_rfl) (by kernel_rfl) (by kernel_rfl) (fun _ _ _ h => h) (Or.inr ⟨by kernel_rfl, rfl⟩) (by assumption) ?_
  simp only [Act.put, List.getElem_toArray, List.getElem_cons_succ, List.getElem_cons_zero, List.setIfInBounds_toArray, List.set_cons_zero, List.set_cons_succ]
  refine wpAnyL_take1a HM.out (i := 12) (oi := _) (v := ?_) rfl (by kernel_rfl) (by kernel_rfl) (by kernel_rfl) (by kernel_rfl) (by kernel_rfl) (fun _ _ _ h => h) (Or.inl ⟨by kernel_rfl, ?_⟩) (by assumption) ?_
  rotate_left
  · (intro w hSw; (try dsimp only at hSw); go_simp; try (with_reducible rfl))
  simp only [Act.put, List.getElem_toArray, List.getElem_cons_succ, List.getElem_cons_zero, List.setIfInBounds_toArray, List.set_cons_zero, List.set_cons_succ]
  refine wpAnyL_take0 (i := 13) (oi := _) (v := ?_) rfl (by kernel_rfl) (by kernel_rfl) (by kernel_rfl) (by kernel_rfl) (by kernel_rfl) (fun _ _ _ h => h) (Or.inl ⟨by kernel_rfl, ?_⟩) (by assumption) ?_
  rotate_left
  · (intro w hSw; (try dsimp only at hSw); go_simp; try (with_reducible rfl))
  simp only [Act.put, List.getElem_toArray, List.getElem_cons_succ, List.getElem_cons_zero, List.setIfInBounds_toArray, List.set_cons_zero, List.set_cons_succ]
  refine wpAnyL_take1a HM.out (i := 14) (oi := _) (v := undef) rfl (by kernel_rfl) (by kernel_rfl) (by kernel_rfl) (by kernel_rfl) (by kernel_rfl) (fun _ _ _ h => h) (Or.inr ⟨by kernel_rfl, rfl⟩) (by assumption) ?_
  simp only [Act.put, List.getElem_toArray, List.getElem_cons_succ, List.getElem_cons_zero, List.setIfInBounds_toArray, List.set_cons_zero, List.set_cons_succ]
  refine wpAnyL_take1a HM.out (i := 15) (oi := _) (v := undef) rfl (by kernel_rfl) (by kernel_rfl) (by kernel_rfl) (by kernel_rfl) (by kernel_rfl) (fun _ _ _ h => h) (Or.inr ⟨by kernel_rfl, rfl⟩) (by assumption) ?_
  simp only [Act.put, List.getElem_toArray, List.getElem_cons_succ, List.getElem_cons_zero, List.setIfInBounds_toArray, List.set_cons_zero, List.set_cons_succ]
  refine wpAnyL_take1a HM.out (i := 16) (oi := _) (v := undef) rfl (by kernel_rfl) (by kernel_rfl) (by kernel_rfl) (by kernel_rfl) (by kernel_rfl) (fun _ _ _ h => h) (Or.inr ⟨by kernel_rfl, rfl⟩) (by assumption) ?_
  simp only [Act.put, List.getElem_toArray, List.getElem_cons_succ, List.getElem_cons_zero, List.setIfInBounds_toArray, List.set_cons_zero, List.set_cons_succ]
  refine wpAnyL_take1a HM.out (i := 17) (oi := _) (v := ?_) rfl (by kernel_rfl) (by kernel_rfl) (by kernel_rfl) (by kernel_rfl) (by kernel_rfl) (fun _ _ _ h => h) (Or.inl ⟨by kernel_rfl, ?_⟩) (by assumption) ?_
  rotate_left
  · (intro w hSw; (try dsimp only at hSw); go_simp; try (with_reducible rfl))
  simp only [Act.put, List.getElem_toArray, List.getElem_cons_succ, List.getElem_cons_zero, List.setIfInBounds_toArray, List.set_cons_zero, List.set_cons_succ]
  have T5 := HTD.out.swap
  have r5 := T5.row; have l5 := row_lt r5
  have T6 := T5.setRow (IV ⟨rep, 1⟩)
  have HT6 := Lib.hid T6; clear T5 T6 HTD
  refine wpAnyL_ready (rs := [18]) (by kernel_rfl) (by simp) ?_
  refine AllReadyL.cons1 (o := _) rfl (by kernel_rfl) (fun K hK => ?_) AllReadyL.nil
  go_simp
  refine hK.out _ _ (HFS.out _ _ HT6.out.swap) (fun hHeld => ?_)
  clear hK K r5 l5
  refine wpAnyL_take1b HM.out (i := 19) (oi := _) (v := ?_) rfl (by kernel_rfl) (by kernel_rfl) (by kernel_rfl) (by kernel_rfl) (by kernel_rfl) (fun _ _ _ h => h) (Or.inl ⟨by kernel_rfl, ?_⟩) (by assumption) ?_
  rotate_left
  · (intro w hSw; (try dsimp only at hSw); go_simp; try (with_reducible rfl))
  simp only [Act.put, List.getElem_toArray, List.getElem_cons_succ, List.getElem_cons_zero, List.setIfInBounds_toArray, List.set_cons_zero, List.set_cons_succ]
  refine wpAnyL_done (by kernel_rfl) ?_ _
  try simp only [Exit.then]
  go_wp2
  refine ret_row2 (IV ⟨rep, 1⟩) TItem_und rfl (by kernel_rfl) rfl rfl rfl (TItem_size _) HT6.out.row ?_
  exact ⟨rfl, HT6.out.drop.drop⟩
end
end Go.Proofs.Ytpganpiidgkofaa
/- A return behind many loops over iterators. Nothing of the program stands here. -/
namespace Go.Proofs.Ytpganpiidgkofaa
open Go.RowKit Go.Shelf
set_option linter.unusedVariables false
def collD (D : Nat) : Deferred := { target := .collected D, args := #[] }
def markR (D : Nat) : Res := objR D (.deferred (some []))
/-- The marks that loops over iterators have left. -/
def marksR (Ds : List Nat) : Res := packR (Ds.map markR)
section
variable {P : Program} {fn : Func} {n : Nat} {w W : World} {F : Nat → Prop} {R : List Res}
theorem Sts.marksNil (T : Sts w F W R) : Sts w F W (marksR [] :: R) := Sts.pack (L := []) T
theorem Sts.marksCons {D : Nat} {Ds : List Nat} (T : Sts w F W (objR D (.deferred (some [])) :: marksR Ds :: R)) : Sts w F W (marksR (D :: Ds) :: R) := by
  have T2 := (T.perm (List.Perm.swap _ _ _)).unpack
  refine Sts.pack (L := (D :: Ds).map markR) ?_
  exact T2.perm List.perm_middle
theorem leavesMs {tmps : Array Value} {Q : Ending → World → Prop} {v : Value} (hr : ∀ W', Sts w F W' R → (results fn tmps).run P W' = .ok v W' ∧ Q (.returned v) W') : ∀ (Ds : List Nat) (W : World), Sts w F W (Ds.map markR ++ R) → LeavesInM Fence.wide n P fn tmps Q (Ds.map collD) .returning W
  | [], W, T => by
    obtain ⟨h1, h2⟩ := hr W T
    exact ⟨v, h1, h2⟩
  | D :: Ds, W, T => by
    have T : Sts w F W (objR D (.deferred (some [])) :: (Ds.map markR ++ R)) := T
    have hD := T.obj
    exact ⟨by simp, .inl ⟨D, W.putObj D (.deferred none), rfl, run_takeDeferred hD, leavesMs hr Ds _ (T.putObj (.deferred none)).drop⟩⟩
/-- A return behind many marks. -/
theorem retMs {a : Act} {Q : Ending → World → Prop} {v : Value} {Ds : List Nat} (T : Sts w F W (marksR Ds :: R)) (hr : ∀ W', Sts w F W' R → (results fn a.tmps).run P W' = .ok v W' ∧ Q (.returned v) W') (hd : a.defers = Ds.map collD) : bodyPostM Fence.wide n P fn Q .ret a W := by
  show LeavesInM _ _ _ _ _ _ a.defers _ _
  rw [hd]
  exact leavesMs hr Ds W T.unpack
end
end Go.Proofs.Ytpganpiidgkofaa
