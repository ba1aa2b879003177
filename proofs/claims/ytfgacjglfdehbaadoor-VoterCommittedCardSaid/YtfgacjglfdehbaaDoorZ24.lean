/- Several texts in one. -/
import Derived.Test.YtfgacjglfdehbaaDoorZ23
import Derived.Test.YtfgacjglfdehbaaDoorZ12
import Derived.Test.YtfgacjglfdehbaaDoorZ5
/- Layer 12: what is known of an item now (Space.Know). -/
namespace Go.Proofs.YtfgacjglfdehbaaDoor
open Go.RowKit Go.Shelf
set_option linter.unusedVariables false
set_option maxRecDepth 20000
attribute [local go_sem] row_alloc row_drew row_drewN row_ext row_setCell row_setRow size_ext setRow_alloc setRow_drew loadOf storeOf piece_lit loadVal_at storeVal_at allOne_lit buildOf buildRes_some
attribute [local go_sem high] cell_alloc frozen_alloc setCell_alloc cell_ext frozen_ext cell_setRow frozen_setRow
attribute [local go_sem ↓] TDeed_ld0 TDeed_st0 TDeed_fd0 TDeed_bd0
attribute [local go_sem] TDeed_size TDeed_one TDeed_piece TDeed_c0 TDeed_c1 TDeed_c2 TDeed_c3 TDeed_c4 TDeed_c5 TDeed_set_kind TDeed_set_key TDeed_set_val TDeed_set_ver TDeed_set_ses TDeed_set_num TDeed_ld TDeed_st TDeed_f_kind TDeed_f_key TDeed_f_val TDeed_f_ver TDeed_f_ses TDeed_f_num TDeed_bd TDeed_fl TDeed_fl_kind TDeed_fl_key TDeed_fl_val TDeed_fl_ver TDeed_fl_ses TDeed_fl_num
attribute [local go_sem high] TDeed_eql TDeed_neq
attribute [local go_sem ↓] index_deps0 load_deps0 store_deps0
attribute [local go_sem] DV_piece DV_size DV_one index_deps load_deps store_deps
attribute [local go_sem high] TDeps_eql TDeps_neq
attribute [local go_sem ↓] TCall_ld0 TCall_st0 TCall_fd0 TCall_bd0
attribute [local go_sem] TCall_size TCall_one TCall_piece TCall_c0 TCall_c1 TCall_c2 TCall_c3 TCall_c4 TCall_c5 TCall_c6 TCall_c7 TCall_c8 TCall_c9 TCall_c10 TCall_c11 TCall_c12 TCall_c13 TCall_p_deed TCall_put_deed TCall_p_deps TCall_put_deps TCall_set_seq TCall_ld TCall_st TCall_f_deed TCall_f_deps TCall_f_seq TCall_bd TCall_fl TCall_fl_deed TCall_fl_deps TCall_fl_seq
attribute [local go_sem high] TCall_eql TCall_neq
attribute [local go_sem ↓] TItem_ld0 TItem_st0 TItem_fd0 TItem_bd0
attribute [local go_sem] TItem_size TItem_one TItem_piece TItem_c0 TItem_c1 TItem_set_rep TItem_set_num TItem_ld TItem_st TItem_f_rep TItem_f_num TItem_bd TItem_fl TItem_fl_rep TItem_fl_num
attribute [local go_sem high] TItem_eql TItem_neq
attribute [local go_sem ↓] TBallot_ld0 TBallot_st0 TBallot_fd0 TBallot_bd0
attribute [local go_sem] TBallot_size TBallot_one TBallot_piece TBallot_c0 TBallot_c1 TBallot_set_round TBallot_set_rep TBallot_ld TBallot_st TBallot_f_round TBallot_f_rep TBallot_bd TBallot_fl TBallot_fl_round TBallot_fl_rep
attribute [local go_sem high] TBallot_eql TBallot_neq
attribute [local go_sem ↓] TInst_ld0 TInst_st0 TInst_fd0 TInst_bd0
attribute [local go_sem] TInst_size TInst_one TInst_piece TInst_c0 TInst_c1 TInst_c2 TInst_c3 TInst_c4 TInst_c5 TInst_c6 TInst_c7 TInst_c8 TInst_c9 TInst_c10 TInst_c11 TInst_c12 TInst_c13 TInst_c14 TInst_c15 TInst_c16 TInst_c17 TInst_c18 TInst_c19 TInst_p_prom TInst_put_prom TInst_p_vote TInst_put_vote TInst_set_status TInst_p_call TInst_put_call TInst_set_same TInst_ld TInst_st TInst_f_prom TInst_f_vote TInst_f_status TInst_f_call TInst_f_same TInst_bd TInst_fl TInst_fl_prom TInst_fl_vote TInst_fl_status TInst_fl_call TInst_fl_same
attribute [local go_sem high] TInst_eql TInst_neq
theorem nv_deed (i : Inst) : piece (NV i) 5 6 = EV i.call.deed := rfl
attribute [local go_sem] nv_deed
noncomputable def wasM (m : RowsM) (x : Item) : Deed := ((getM m x).getD noInst).call.deed
noncomputable def knowI (I : Idx) (D : List UInt8) (safe : Nat) (m : RowsM) (x : Item) (i : Inst) : Idx :=
  if (addM D safe m x i).2.2.2 = 0 ∧ eqA (EV (wasM m x)) (EV i.call.deed) = false then findM I x i.call.deed else I
def spL (s lg p g bk bs : Nat) (I : Idx) (D : List UInt8) (safe : Nat) (m : RowsM) : List Res := idxR s lg bk bs I :: ledL lg p g D safe m
set_option maxHeartbeats 8000000 in
theorem spKnowD (s lg p g bk bs : Nat) (I : Idx) (hI : IdxOk I) (hN : I.N + 1 ≤ 1000000) (D : List UInt8) (safe : Nat) (m : RowsM) (hm : RowsOk m) (hg : RowsGood m) (hD : D.length ≤ 65536) (x : Item) (i : Inst) :
    Does Tryd.prog 57 #[.pointer (some ⟨s, 0, none⟩), .agg (IV x), .agg (NV i)] (spL s lg p g bk bs I D safe m) (.int .i64 (addM D safe m x i).2.2.2)
      (spL s lg p g bk bs (knowI I D safe m x i) (addM D safe m x i).1 (addM D safe m x i).2.1 (addM D safe m x i).2.2.1) := by
  have hgd : (addM D safe m x i).2.2.2 = 0 → goodI x m.n = true ∧ goodN i m.n = true := addM_good
  have hadd := addD lg p g D safe m hm hg hD x i
  have hkn : knowI I D safe m x i = if (addM D safe m x i).2.2.2 = 0 ∧ eqA (EV (wasM m x)) (EV i.call.deed) = false then findM I x i.call.deed else I := rfl
  rw [hkn]
  clear hkn
  generalize addM D safe m x i = q at *
  obtain ⟨D1, s1, m1, e1⟩ := q
  dsimp only at hgd hadd ⊢
  have HGD := Lib.hid hgd; clear hgd
  intro W G hS
  obtain ⟨v, T⟩ := (Sts.start hS).idxOpen
  have T : Sts W G W [rowR s (spCells lg bk v bs), vecR 24 2 v I.lists.length (vl IV I.lists), keysR bk I.N I.keys, sesR bs I.N I.ses, rowR lg (ledCells p g m.n), plR p D safe, rowsIR g m] := T
  have T := (T.new (IV x) 24).new (NV i) 46
  simp only [World.size_alloc] at T
  have T := T.ord [2, 1, 0, 6, 7, 8, 3, 4, 5]
  clear hS
  generalize hg1 : W.heap.size = g1 at *
  have hat := ledAtR lg p g D safe m hm x
  have hwas : wasM m x = ((getM m x).getD noInst).call.deed := rfl
  generalize (getM m x).getD noInst = i0 at *
  have HAT := Lib.hid hat; have HWAS := Lib.hid hwas; clear hat hwas
  have HADD := Lib.hid hadd; clear hadd
  have HT := Lib.hid T; clear T
  go_enter Tryd.func57, Tryd.ntmps57
  go_upto_region 3 with fail
  generalize (W.alloc _).alloc _ = w1 at *
  go_cut [7] (fun u wx => Sts W G wx [] ∧ ∃ g7, u = .pointer (some ⟨g7, 0, none⟩) ∧ Sts W G wx [rowR g7 (EV (wasM m x)), rowR s (spCells lg bk v bs), rowR g1 (IV x), rowR (g1 + 1) (NV i), rowR lg (ledCells p g m.n), plR p D safe, rowsIR g m, vecR 24 2 v I.lists.length (vl IV I.lists), keysR bk I.N I.keys, sesR bs I.N I.ses])
  case first =>
    have FS : ∀ W' R', Sts W G W' (rowR s (spCells lg bk v bs) :: rowR g1 (IV x) :: R') → (W'.cell? ⟨s, 0, none⟩ = some (.pointer (some ⟨lg, 0, none⟩)) ∧ row? W' g1 = some (IV x)) := fun W' R' T => ⟨row_cell T.row 0, T.row1⟩
    have S0 := FS _ _ HT.out.drew
    have HFS := Lib.hid FS; clear FS
    have hm0 : ∀ W', (W'.cell? ⟨s, 0, none⟩ = some (.pointer (some ⟨lg, 0, none⟩)) ∧ row? W' g1 = some (IV x)) → True := fun _ _ => trivial
    have HM := Lib.hid hm0; clear hm0
    refine wp_region_stage (fun W' => W'.cell? ⟨s, 0, none⟩ = some (.pointer (some ⟨lg, 0, none⟩)) ∧ row? W' g1 = some (IV x)) (fun _ => True) 9 (by kernel_rfl) S0 (fun hHeld => ?_)
    clear S0
    refine wpAnyL_take0 (i := 0) (oi := _) (v := ?_) rfl (by kernel_rfl) (by kernel_rfl) (by kernel_rfl) (by kernel_rfl) (by kernel_rfl) (fun _ _ _ h => h) (Or.inl ⟨by kernel_rfl, ?_⟩) (by assumption) ?_
    rotate_left
    · (intro w hSw; (try dsimp only at hSw); go_simp; try (with_reducible rfl))
    simp only [Act.put, List.getElem_toArray, List.getElem_cons_zero, List.setIfInBounds_toArray, List.set_cons_zero, List.set_cons_succ]
    refine wpAnyL_take0 (i := 1) (oi := _) (v := ?_) rfl (by kernel_rfl) (by kernel_rfl) (by kernel_rfl) (by kernel_rfl) (by kernel_rfl) (fun _ _ _ h => h) (Or.inl ⟨by kernel_rfl, ?_⟩) (by assumption) ?_
    rotate_left
    · (intro w hSw; (try dsimp only at hSw); go_simp; try (with_reducible rfl))
    simp only [Act.put, List.getElem_toArray, List.getElem_cons_succ, List.getElem_cons_zero, List.setIfInBounds_toArray, List.set_cons_zero, List.set_cons_succ]
    refine wpAnyL_take0 (i := 2) (oi := _) (v := ?_) rfl (by kernel_rfl) (by kernel_rfl) (by kernel_rfl) (by kernel_rfl) (by kernel_rfl) (fun _ _ _ h => h) (Or.inl ⟨by kernel_rfl, ?_⟩) (by assumption) ?_
    rotate_left
    · (intro w hSw; (try dsimp only at hSw); go_simp; try (with_reducible rfl))
    simp only [Act.put, List.getElem_toArray, List.getElem_cons_succ, List.getElem_cons_zero, List.setIfInBounds_toArray, List.set_cons_zero, List.set_cons_succ]
    refine wpAnyL_take0 (i := 3) (oi := _) (v := ?_) rfl (by kernel_rfl) (by kernel_rfl) (by kernel_rfl) (by kernel_rfl) (by kernel_rfl) (fun _ _ _ h => h) (Or.inl ⟨by kernel_rfl, ?_⟩) (by assumption) ?_
    rotate_left
    · (intro w hSw; (try dsimp only at hSw); go_simp; try (with_reducible rfl))
    simp only [Act.put, List.getElem_toArray, List.getElem_cons_succ, List.getElem_cons_zero, List.setIfInBounds_toArray, List.set_cons_zero, List.set_cons_succ]
    refine wpAnyL_take0 (i := 4) (oi := _) (v := ?_) rfl (by kernel_rfl) (by kernel_rfl) (by kernel_rfl) (by kernel_rfl) (by kernel_rfl) (fun _ _ _ h => h) (Or.inl ⟨by kernel_rfl, ?_⟩) (by assumption) ?_
    rotate_left
    · (intro w hSw; (try dsimp only at hSw); go_simp; try (with_reducible rfl))
    simp only [Act.put, List.getElem_toArray, List.getElem_cons_succ, List.getElem_cons_zero, List.setIfInBounds_toArray, List.set_cons_zero, List.set_cons_succ]
    refine wpAnyL_ready (rs := [5, 8]) (by kernel_rfl) (by simp) ?_
    refine AllReadyL.cons0 (o := _) rfl (by kernel_rfl) (fun K hK => ?_) ?_
    · go_simp
      refine (Reads.at (L := [rowR lg (ledCells p g m.n), plR p D safe, rowsIR g m]) HAT.out (HT.out.drew.ord [3, 4, 5, 0, 1, 2, 6, 7, 8])).mono ?_
      rintro e w2 ⟨rfl, hb⟩
      have T2 := HT.out.drew.pure hb
      clear hb HT
      refine hK.out _ _ (HFS.out _ _ T2) (fun hHeld => ?_)
      clear hK K
      refine wpAnyL_take0 (i := 6) (oi := _) (v := ?_) rfl (by kernel_rfl) (by kernel_rfl) (by kernel_rfl) (by kernel_rfl) (by kernel_rfl) (fun _ _ _ h => h) (Or.inl ⟨by kernel_rfl, ?_⟩) (by assumption) ?_
      rotate_left
      · (intro w hSw; (try dsimp only at hSw); go_simp; try (with_reducible rfl))
      simp only [Act.put, List.getElem_toArray, List.getElem_cons_succ, List.getElem_cons_zero, List.setIfInBounds_toArray, List.set_cons_zero, List.set_cons_succ]
      refine wpAnyL_take0 (i := 7) (oi := _) (v := ?_) rfl (by kernel_rfl) (by kernel_rfl) (by kernel_rfl) (by kernel_rfl) (by kernel_rfl) (fun _ _ _ h => h) (Or.inl ⟨by kernel_rfl, ?_⟩) (by assumption) ?_
      rotate_left
      · (intro w hSw; (try dsimp only at hSw); go_simp; try (with_reducible rfl))
      simp only [Act.put, List.getElem_toArray, List.getElem_cons_succ, List.getElem_cons_zero, List.setIfInBounds_toArray, List.set_cons_zero, List.set_cons_succ]
      refine wpAnyL_ready (rs := [8]) (by kernel_rfl) (by simp) ?_
      refine AllReadyL.cons0 (o := _) rfl (by kernel_rfl) (fun K hK => ?_) AllReadyL.nil
      have Ta := T2.new (EV noDeed) 28
      have HTa := Lib.hid Ta; have HT2 := Lib.hid T2; clear Ta T2
      go_simp
      refine hK.out _ _ ?_ (fun hHeld => ?_)
      · exact HFS.out _ _ HTa.out.drop
      clear hK K
      refine wpAnyL_ready (rs := [9]) (by kernel_rfl) (by simp) ?_
      refine AllReadyL.cons1 (o := _) rfl (by kernel_rfl) (fun K hK => ?_) AllReadyL.nil
      have r9 := HTa.out.row; have l9 := row_lt r9
      have T9 := HT2.out.new (EV i0.call.deed) 28
      have HT9 := Lib.hid T9; clear T9
      go_simp
      refine hK.out _ _ trivial (fun hHeld => ?_)
      clear hK K r9 l9 HTa HT2
      refine wpAnyL_done (by kernel_rfl) ?_ _
      simp only [Exit.then]
      go_step
      go_meet
      case rel => exact ⟨HT9.out.nil, _, rfl, by rw [HWAS.out]; exact HT9.out⟩
    · refine AllReadyL.cons0 (o := _) rfl (by kernel_rfl) (fun K hK => ?_) AllReadyL.nil
      have Ta := HT.out.drew.new (EV noDeed) 28
      rw [size_drew] at Ta
      have HTa := Lib.hid Ta; clear Ta HT
      go_simp
      refine hK.out _ _ ?_ (fun hHeld => ?_)
      · exact HFS.out _ _ HTa.out.drop
      clear hK K
      refine wpAnyL_ready (rs := [5]) (by kernel_rfl) (by simp) ?_
      refine AllReadyL.cons0 (o := _) rfl (by kernel_rfl) (fun K hK => ?_) AllReadyL.nil
      go_simp
      refine (Reads.at (L := [rowR lg (ledCells p g m.n), plR p D safe, rowsIR g m]) HAT.out (HTa.out.ord [4, 5, 6, 0, 1, 2, 3, 7, 8, 9])).mono ?_
      rintro e w2 ⟨rfl, hb⟩
      have T2 := HTa.out.pure hb
      clear hb HTa
      refine hK.out _ _ (HFS.out _ _ T2.drop) (fun hHeld => ?_)
      clear hK K
      refine wpAnyL_take0 (i := 6) (oi := _) (v := ?_) rfl (by kernel_rfl) (by kernel_rfl) (by kernel_rfl) (by kernel_rfl) (by kernel_rfl) (fun _ _ _ h => h) (Or.inl ⟨by kernel_rfl, ?_⟩) (by assumption) ?_
      rotate_left
      · (intro w hSw; (try dsimp only at hSw); go_simp; try (with_reducible rfl))
      simp only [Act.put, List.getElem_toArray, List.getElem_cons_succ, List.getElem_cons_zero, List.setIfInBounds_toArray, List.set_cons_zero, List.set_cons_succ]
      refine wpAnyL_take0 (i := 7) (oi := _) (v := ?_) rfl (by kernel_rfl) (by kernel_rfl) (by kernel_rfl) (by kernel_rfl) (by kernel_rfl) (fun _ _ _ h => h) (Or.inl ⟨by kernel_rfl, ?_⟩) (by assumption) ?_
      rotate_left
      · (intro w hSw; (try dsimp only at hSw); go_simp; try (with_reducible rfl))
      simp only [Act.put, List.getElem_toArray, List.getElem_cons_succ, List.getElem_cons_zero, List.setIfInBounds_toArray, List.set_cons_zero, List.set_cons_succ]
      refine wpAnyL_ready (rs := [9]) (by kernel_rfl) (by simp) ?_
      refine AllReadyL.cons1 (o := _) rfl (by kernel_rfl) (fun K hK => ?_) AllReadyL.nil
      have r9 := T2.row; have l9 := row_lt r9
      have T9 := T2.setRow (EV i0.call.deed)
      have HT9 := Lib.hid T9; clear T9 T2
      go_simp
      refine hK.out _ _ trivial (fun hHeld => ?_)
      clear hK K r9 l9
      refine wpAnyL_done (by kernel_rfl) ?_ _
      simp only [Exit.then]
      go_step
      go_meet
      case rel => exact ⟨HT9.out.nil, _, rfl, by rw [HWAS.out]; exact HT9.out⟩
  case rest =>
    clear HT HAT HWAS
    obtain ⟨-, g7, rfl, T⟩ := hcut
    have T := T.ord [1, 2, 3, 0, 4, 5, 6, 7, 8, 9]
    have FS : ∀ W' R', Sts W G W' (rowR s (spCells lg bk v bs) :: rowR g1 (IV x) :: rowR (g1 + 1) (NV i) :: R') → (W'.cell? ⟨s, 0, none⟩ = some (.pointer (some ⟨lg, 0, none⟩)) ∧ row? W' g1 = some (IV x) ∧ row? W' (g1 + 1) = some (NV i)) := fun W' R' T => ⟨row_cell T.row 0, T.row1, T.row2⟩
    have S0 := FS _ _ T.drew
    have HFS := Lib.hid FS; have HT := Lib.hid T; clear FS T
    go_upto_region 4 with fail
    refine wp_region_held_drew (S := fun W' => W'.cell? ⟨s, 0, none⟩ = some (.pointer (some ⟨lg, 0, none⟩)) ∧ row? W' g1 = some (IV x) ∧ row? W' (g1 + 1) = some (NV i)) (by kernel_rfl) S0 (fun hHeld => ?_)
    clear S0
    refine wpAnyH_take (i := 0) (oi := _) (v := ?_) rfl (by kernel_rfl) (by kernel_rfl) (by kernel_rfl) (fun _ _ _ h => h) (Or.inl ⟨by kernel_rfl, ?_⟩) (by assumption) ?_
    rotate_left
    · (intro w hSw; (try dsimp only at hSw); go_simp; try (with_reducible rfl))
    simp only [Act.put, List.getElem_toArray, List.getElem_cons_zero, List.setIfInBounds_toArray, List.set_cons_zero, List.set_cons_succ]
    refine wpAnyH_take (i := 1) (oi := _) (v := ?_) rfl (by kernel_rfl) (by kernel_rfl) (by kernel_rfl) (fun _ _ _ h => h) (Or.inl ⟨by kernel_rfl, ?_⟩) (by assumption) ?_
    rotate_left
    · (intro w hSw; (try dsimp only at hSw); go_simp; try (with_reducible rfl))
    simp only [Act.put, List.getElem_toArray, List.getElem_cons_succ, List.getElem_cons_zero, List.setIfInBounds_toArray, List.set_cons_zero, List.set_cons_succ]
    refine wpAnyH_take (i := 2) (oi := _) (v := ?_) rfl (by kernel_rfl) (by kernel_rfl) (by kernel_rfl) (fun _ _ _ h => h) (Or.inl ⟨by kernel_rfl, ?_⟩) (by assumption) ?_
    rotate_left
    · (intro w hSw; (try dsimp only at hSw); go_simp; try (with_reducible rfl))
    simp only [Act.put, List.getElem_toArray, List.getElem_cons_succ, List.getElem_cons_zero, List.setIfInBounds_toArray, List.set_cons_zero, List.set_cons_succ]
    refine wpAnyH_take (i := 3) (oi := _) (v := ?_) rfl (by kernel_rfl) (by kernel_rfl) (by kernel_rfl) (fun _ _ _ h => h) (Or.inl ⟨by kernel_rfl, ?_⟩) (by assumption) ?_
    rotate_left
    · (intro w hSw; (try dsimp only at hSw); go_simp; try (with_reducible rfl))
    simp only [Act.put, List.getElem_toArray, List.getElem_cons_succ, List.getElem_cons_zero, List.setIfInBounds_toArray, List.set_cons_zero, List.set_cons_succ]
    refine wpAnyH_take (i := 4) (oi := _) (v := ?_) rfl (by kernel_rfl) (by kernel_rfl) (by kernel_rfl) (fun _ _ _ h => h) (Or.inl ⟨by kernel_rfl, ?_⟩) (by assumption) ?_
    rotate_left
    · (intro w hSw; (try dsimp only at hSw); go_simp; try (with_reducible rfl))
    simp only [Act.put, List.getElem_toArray, List.getElem_cons_succ, List.getElem_cons_zero, List.setIfInBounds_toArray, List.set_cons_zero, List.set_cons_succ]
    refine wpAnyH_take (i := 5) (oi := _) (v := ?_) rfl (by kernel_rfl) (by kernel_rfl) (by kernel_rfl) (fun _ _ _ h => h) (Or.inl ⟨by kernel_rfl, ?_⟩) (by assumption) ?_
    rotate_left
    · (intro w hSw; (try dsimp only at hSw); go_simp; try (with_reducible rfl))
    simp only [Act.put, List.getElem_toArray, List.getElem_cons_succ, List.getElem_cons_zero, List.setIfInBounds_toArray, List.set_cons_zero, List.set_cons_succ]
    refine wpAnyH_ready (rs := [6]) (by kernel_rfl) (by simp) ?_
    refine AllReadyH.cons (o := _) rfl (fun K hK => ?_) AllReadyH.nil
    have T0 := HT.out.drew.ord [4, 5, 6, 0, 1, 2, 3, 7, 8, 9]
    have HT0 := Lib.hid T0; clear T0 HT
    go_simp
    refine (Does.at (R := [rowR s (spCells lg bk v bs), rowR g1 (IV x), rowR (g1 + 1) (NV i), rowR g7 (EV (wasM m x)), vecR 24 2 v I.lists.length (vl IV I.lists), keysR bk I.N I.keys, sesR bs I.N I.ses]) HADD.out HT0.out).mono ?_
    rintro e w3 ⟨rfl, T⟩
    have T : Sts W G w3 [rowR lg (ledCells p g m1.n), plR p D1 s1, rowsIR g m1, rowR s (spCells lg bk v bs), rowR g1 (IV x), rowR (g1 + 1) (NV i), rowR g7 (EV (wasM m x)), vecR 24 2 v I.lists.length (vl IV I.lists), keysR bk I.N I.keys, sesR bs I.N I.ses] := T
    have T := T.ord [3, 4, 5, 6, 7, 8, 9, 0, 1, 2]
    refine hK.out _ _ (HFS.out _ _ T) (fun hHeld => ?_)
    clear hK K HFS HADD HT0
    refine wpAnyH_take (i := 7) (oi := _) (v := ?_) rfl (by kernel_rfl) (by kernel_rfl) (by kernel_rfl) (fun _ _ _ h => h) (Or.inl ⟨by kernel_rfl, ?_⟩) (by assumption) ?_
    rotate_left
    · (intro w hSw; (try dsimp only at hSw); go_simp; try (with_reducible rfl))
    simp only [Act.put, List.getElem_toArray, List.getElem_cons_succ, List.getElem_cons_zero, List.setIfInBounds_toArray, List.set_cons_zero, List.set_cons_succ]
    refine wpAnyH_done (by kernel_rfl) ?_ _
    simp only [Exit.then]
    have HT := Lib.hid T; clear T
    have r7 := HT.out.row3; have l7 := row_lt r7; have r2 := HT.out.row2; have l2 := row_lt r2; have c2 := row_cell r2; have r1 := HT.out.row1; have l1 := row_lt r1
    cases he : (e1 == 0)
    case false =>
      have hne : ¬ (e1 = 0 ∧ eqA (EV (wasM m x)) (EV i.call.deed) = false) := fun h => by simp [h.1] at he
      go_wp2
      go_ret
      refine ⟨rfl, ?_⟩
      have T9 := HT.out.ord [1, 2, 3, 0, 4, 5, 6, 7, 8, 9]
      exact Sts.idxShut T9.drop.drop.drop
    case true =>
      cases hw : eqA (EV (wasM m x)) (EV i.call.deed)
      case true =>
        go_wp2
        all_goals
          go_ret
          refine ⟨rfl, ?_⟩
          have T9 := HT.out.ord [1, 2, 3, 0, 4, 5, 6, 7, 8, 9]
          exact Sts.idxShut T9.drop.drop.drop
      case false =>
        have hyes : e1 = 0 ∧ eqA (EV (wasM m x)) (EV i.call.deed) = false := ⟨by simpa using he, hw⟩
        have hin := goodN_in (HGD.out hyes.1).2 hm.n.2
        have hfd := findD s lg bk bs I hI x i.call.deed (by have := hin.call.deed.txt; unfold maxLen; omega) (by have := hin.call.deed.ses; unfold intKOk; omega)
        have HFD := Lib.hid hfd; have HY := Lib.hid hyes
        clear hfd hin hyes
        go_wp2_with fail
        have T9 := HT.out.ord [1, 2, 3, 0, 4, 5, 6, 7, 8, 9]
        have T10 := (T9.ord [3, 4, 5, 6, 0, 1, 2, 7, 8, 9]).idxShut
        clear T9 HT r7 l7 r2 l2 c2 r1 l1
        refine (Does.at1 HFD.out T10).mono ?_
        clear T10 HFD
        rintro e w4 ⟨rfl, T⟩
        have HT := Lib.hid T; clear T
        go_wp2
        go_ret
        refine ⟨rfl, ?_⟩
        have T11 := HT.out.ord [1, 2, 3, 0, 4, 5, 6]
        exact T11.drop.drop.drop
end Go.Proofs.YtfgacjglfdehbaaDoor
/- A loop over an iterator, by things in memory: the iterator's contract is for all frames; the order of what it gives may be any of some. Nothing of the program stands here. -/
namespace Go.Proofs.YtfgacjglfdehbaaDoor
open Go.RowKit Go.Shelf
set_option linter.unusedVariables false
/-- An iterator that reads the things L and gives one of the rows O of elements, whatever else there is. -/
def GivesD {α : Type} (P : Program) (gf : Nat) (lb : Array Value) (enc : α → Array Value) (L : List Res) (O : List α → Prop) : Prop :=
  ∀ (l : Nat) (own ownX : List α → List Res),
    (∀ (pre : List α) (x : α) (w : World) (F : Nat → Prop) (W1 : World) (R : List Res), (∃ post, O (pre ++ x :: post)) → Sts w F W1 (own pre ++ (L ++ R)) →
      YieldAt Fence.wide 2 P l (enc x) W1 fun e W' => (e = .returned (.bool true) ∧ Sts w F W' (own (pre ++ [x]) ++ (L ++ R))) ∨ (e = .returned (.bool false) ∧ Sts w F W' (ownX (pre ++ [x]) ++ (L ++ R)))) →
    ∀ (w : World) (F : Nat → Prop) (W : World) (R : List Res), Sts w F W (own [] ++ (L ++ R)) →
      CallsIn Fence.wide 3 P gf (#[.func (.yield l) #[] #[]] ++ lb) W fun e W' => (∃ v, e = .returned v) ∧ ((∃ xs, O xs ∧ Sts w F W' (own xs ++ (L ++ R))) ∨ ∃ pre, Sts w F W' (ownX pre ++ (L ++ R)))
theorem perm_front {X L R : List Res} {a b : Res} : (X ++ (L ++ (a :: b :: R))).Perm (a :: b :: (X ++ (L ++ R))) := by
  have h : ((X ++ L) ++ ([a, b] ++ R)).Perm ([a, b] ++ ((X ++ L) ++ R)) := by
    rw [← List.append_assoc (X ++ L), ← List.append_assoc [a, b]]
    exact List.perm_append_comm.append_right R
  rw [List.append_assoc X L ([a, b] ++ R), List.append_assoc X L R] at h
  exact h
/-- How a round's body may be left. -/
def roundD {α : Type} (own : List α → List Res) (ownX : Code → List α → List Res) (M : List Res) (pre : List α) (x : α) (w : World) (F : Nat → Prop) : Exit → Act → World → Prop
  | .normal, _, W' => Sts w F W' (own (pre ++ [x]) ++ M)
  | .ret, _, W' => Sts w F W' (ownX .ret (pre ++ [x]) ++ M)
  | .exit id, _, W' => Sts w F W' (ownX (.exit id) (pre ++ [x]) ++ M)
  | .goto t, _, W' => Sts w F W' (ownX (.goto t) (pre ++ [x]) ++ M)
  | .panic _, _, _ => False
  | .outgrown, _, _ => False
section
variable {P : Program} {w W : World} {F : Nat → Prop}
theorem wp_rangeD {α : Type} {g : Operand} {ps : Array Tmp} {assign body : Code} {Q : Exit → Act → World → Prop} {a : Act} {gf : Nat} {lb : Array Value} {enc : α → Array Value} {O : List α → Prop}
    (own : List α → List Res) (ownX : Code → List α → List Res) (L R : List Res) (Ax : List α → α → Act → List Res → Prop)
    (hg : a.eval g = .func (.func gf) #[] lb) (eg : ∀ args w, (callFunc gf args).run P w = .ok (.enter gf args) w) (hps : ∀ x, (enc x).size = ps.size)
    (hseq : GivesD P gf lb enc L O)
    (T : Sts w F W (own [] ++ (L ++ R)))
    (hassign : ∀ (l : Nat) (pre : List α) (x : α) (w : World) (F : Nat → Prop) (W1 : World) (R : List Res) (K : Act → World → Prop), (∃ post, O (pre ++ x :: post)) → Sts w F W1 (own pre ++ (L ++ R)) → (∀ a' W' own', Ax pre x a' own' → Sts w F W' (own' ++ (L ++ R)) → K a' W') →
      assign.wpIn (Fence.wide.inRound l) 2 P (Exit.then K (fun _ _ _ => False)) { tmps := (ps.zip (enc x)).foldl (fun t (p, v) => t.setIfInBounds p v) a.tmps, defers := [] } W1)
    (hbody : ∀ (l : Nat) (pre : List α) (x : α) (a' : Act) (own' : List Res) (w : World) (F : Nat → Prop) (W1 : World) (R : List Res), (∃ post, O (pre ++ x :: post)) → Ax pre x a' own' → Sts w F W1 (own' ++ (L ++ R)) →
      body.wpIn (Fence.wide.inRound l) 2 P (roundD own ownX (L ++ R) pre x w F) a' W1)
    (hdone : ∀ (D : Nat) (W1 : World) (xs : List α), O xs → Sts w F W1 (objR D (.deferred (some [])) :: (own xs ++ (L ++ R))) → Q .normal { a with defers := { target := .collected D, args := #[] } :: a.defers } W1)
    (hstop : ∀ (D : Nat) (c : Code) (pre : List α) (W1 : World), Sts w F W1 (objR D (.deferred (some [])) :: (ownX c pre ++ (L ++ R))) → c.wpIn Fence.wide 4 P Q { a with defers := { target := .collected D, args := #[] } :: a.defers } W1) :
    (Code.rangeFunc g ps assign body).wpIn Fence.wide 4 P Q a W := by
  refine wpIn_rangeFunc fun fn hfn => ?_
  generalize hD : W.heap.size = D
  obtain ⟨rec, hrec⟩ : ∃ rec : LoopState → Option Code → Loop, rec = fun st pe => { state := st, pending := pe, fn, tmps := a.tmps, params := ps, assign, body, defers := D } := ⟨_, rfl⟩
  have T1 : Sts w F ((W.alloc (.deferred (some []))).alloc (.loop (rec .ready none))) (objR (D + 1) (.loop (rec .ready none)) :: objR D (.deferred (some [])) :: (own [] ++ (L ++ R))) := by
    have := (T.newObj (.deferred (some []))).newObj (.loop (rec .ready none))
    rw [World.size_alloc, hD] at this
    exact this
  refine ⟨D + 1, [{ target := .collected D, args := #[] }], (W.alloc (.deferred (some []))).alloc (.loop (rec .ready none)), { target := .fn (.func gf) lb, args := #[.func (.yield (D + 1)) #[] #[]] }, (W.alloc (.deferred (some []))).alloc (.loop (rec .ready none)), gf,
    #[.func (.yield (D + 1)) #[] #[]] ++ lb, (W.alloc (.deferred (some []))).alloc (.loop (rec .ready none)), ?_, ?_, ?_, ?_, fun _ => by omega, ?_⟩
  · have := run_enterLoop_outer (P := P) (w := W) fn a.tmps ps assign body
    rw [hD] at this
    rw [hrec]; exact this
  · simp only [resolve, hg]
    simp [go_sem]
  · intro f' hf'; simp [Target.leads] at hf'; subst hf'; trivial
  · simp [invoke, go_sem, eg]
  generalize (W.alloc (.deferred (some []))).alloc (.loop (rec .ready none)) = W1 at *
  refine (hseq (D + 1) (fun pre => objR (D + 1) (.loop (rec .ready none)) :: objR D (.deferred (some [])) :: own pre)
    (fun pre => [exR fun c : Code => packR (objR (D + 1) (.loop (rec .done (some c))) :: objR D (.deferred (some [])) :: ownX c pre)]) ?_ w F W1 R T1).mono ?_
  · intro pre x w2 F2 Wa R2 hx Ta
    have Ta : Sts w2 F2 Wa (objR (D + 1) (.loop (rec .ready none)) :: objR D (.deferred (some [])) :: (own pre ++ (L ++ R2))) := Ta
    have hy := run_yield (P := P) (args := enc x) Ta.obj (by rw [hrec]; exact hps x)
    rw [hrec] at hy
    refine ⟨fn, _, assign, body, hy, roundIn_of_wpIn hfn ?_⟩
    refine hassign (D + 1) pre x w2 F2 Wa (objR (D + 1) (.loop (rec .ready none)) :: objR D (.deferred (some [])) :: R2) _ hx (Ta.perm perm_front.symm) fun a' W' own' hax T' => ?_
    have Td := T'.perm perm_front
    refine ⟨_, run_beginRound Td.obj (by rw [hrec]), ?_⟩
    have Te := Td.putObj (.loop (rec .busy none))
    have er : ({ rec .ready none with state := .busy } : Loop) = rec .busy none := by rw [hrec]
    rw [er]
    have Tf := Te.perm (perm_front (X := own') (L := L) (R := R2)).symm
    have fin : ∀ (jump : Option Code) (M : List Res) (W3 : World), Sts w2 F2 W3 (M ++ (L ++ (objR (D + 1) (.loop (rec .busy none)) :: objR D (.deferred (some [])) :: R2))) →
        (Instr.endRound (D + 1) jump).run P W3 = .ok (.bool jump.isNone) (W3.putObj (D + 1) (.loop (rec (if jump.isNone then .ready else .done) jump))) ∧
        Sts w2 F2 (W3.putObj (D + 1) (.loop (rec (if jump.isNone then .ready else .done) jump))) (objR (D + 1) (.loop (rec (if jump.isNone then .ready else .done) jump)) :: objR D (.deferred (some [])) :: (M ++ (L ++ R2))) := fun jump M W3 hS => by
      have Th := hS.perm perm_front
      have h1 := run_endRound (P := P) jump Th.obj
      have e2 : ({ rec .busy none with state := if jump.isNone then .ready else .done, pending := jump } : Loop) = rec (if jump.isNone then .ready else .done) jump := by rw [hrec]
      rw [e2] at h1
      exact ⟨h1, Th.putObj _⟩
    have finX : ∀ (c : Code) (W3 : World), Sts w2 F2 W3 (ownX c (pre ++ [x]) ++ (L ++ (objR (D + 1) (.loop (rec .busy none)) :: objR D (.deferred (some [])) :: R2))) → ∃ v W4, (Instr.endRound (D + 1) (some c)).run P W3 = .ok v W4 ∧ v = .bool false ∧ Sts w2 F2 W4 ([exR fun c : Code => packR (objR (D + 1) (.loop (rec .done (some c))) :: objR D (.deferred (some [])) :: ownX c (pre ++ [x]))] ++ (L ++ R2)) := fun c W3 hS => by
      obtain ⟨h1, h2⟩ := fin (some c) _ W3 hS
      exact ⟨_, _, h1, rfl, Sts.close c (Sts.pack (L := objR (D + 1) (.loop (rec .done (some c))) :: objR D (.deferred (some [])) :: ownX c (pre ++ [x])) h2)⟩
    refine wpIn_mono (hbody (D + 1) pre x a' own' w2 F2 _ (objR (D + 1) (.loop (rec .busy none)) :: objR D (.deferred (some [])) :: R2) hx hax Tf) ?_
    rintro e a3 W3 hp
    cases e with
    | normal =>
      obtain ⟨h1, h2⟩ := fin none _ W3 hp
      exact ⟨_, _, h1, .inl ⟨rfl, h2⟩⟩
    | ret =>
      obtain ⟨v, W4, h1, rfl, h2⟩ := finX .ret W3 hp
      exact ⟨_, _, h1, .inr ⟨rfl, h2⟩⟩
    | exit id =>
      obtain ⟨v, W4, h1, rfl, h2⟩ := finX (.exit id) W3 hp
      exact ⟨_, _, h1, .inr ⟨rfl, h2⟩⟩
    | goto t =>
      obtain ⟨v, W4, h1, rfl, h2⟩ := finX (.goto t) W3 hp
      exact ⟨_, _, h1, .inr ⟨rfl, h2⟩⟩
    | panic ch => exact hp.elim
    | outgrown => exact hp.elim
  · rintro e W2 ⟨⟨v, rfl⟩, (⟨xs, hxs, hJ⟩ | ⟨pre, hJ⟩)⟩
    · have hJ : Sts w F W2 (objR (D + 1) (.loop (rec .ready none)) :: objR D (.deferred (some [])) :: (own xs ++ (L ++ R))) := hJ
      have h1 := run_endLoop (P := P) hJ.obj (by rw [hrec]; simp)
      have e1 : (rec .ready none).pending = none := by rw [hrec]
      rw [e1] at h1
      exact ⟨none, _, h1, hdone D _ xs hxs (hJ.putObj _).drop⟩
    · obtain ⟨c, hJ⟩ := Sts.open hJ
      have hJ : Sts w F W2 (objR (D + 1) (.loop (rec .done (some c))) :: objR D (.deferred (some [])) :: (ownX c pre ++ (L ++ R))) := hJ.unpack
      have h1 := run_endLoop (P := P) hJ.obj (by rw [hrec]; simp)
      have e1 : (rec .done (some c)).pending = some c := by rw [hrec]
      rw [e1] at h1
      exact ⟨some c, _, h1, hstop D c pre _ (hJ.putObj _).drop⟩
end
end Go.Proofs.YtfgacjglfdehbaaDoor
/- Things as they were at some time: a footprint, held fast. Nothing of the program stands here. -/
namespace Go.Proofs.YtfgacjglfdehbaaDoor
open Go.RowKit
set_option linter.unusedVariables false
/-- The blocks H, as they were in W0. -/
def pinR (H : Nat → Prop) (W0 : World) : Res where
  sat F W := (∀ k, F k ↔ H k) ∧ ∀ k, H k → k < W0.heap.size ∧ W.heap[k]? = W0.heap[k]?
  stay h hs := ⟨hs.1, fun k hk => ⟨(hs.2 k hk).1, (h k ((hs.1 k).2 hk)).trans (hs.2 k hk).2⟩⟩
  lt := fun {F W} hs k hk => by
    obtain ⟨h1, h2⟩ := hs.2 k ((hs.1 k).1 hk)
    rw [Array.getElem?_eq_getElem h1] at h2
    exact (Array.getElem?_eq_some_iff.1 h2).1
section
variable {w W W0 : World} {F H G : Nat → Prop} {L R X : List Res}
theorem Sts.pin (T : Sts w F W (L ++ R)) : ∃ H, Sat W L H ∧ Sts w F W (pinR H W :: R) := by
  obtain ⟨⟨G, hs, hG⟩, m⟩ := T
  obtain ⟨A, B, ha, hb, hd, hf⟩ := hs.parts
  exact ⟨A, ha, ⟨G, ⟨A, B, ⟨fun _ => Iff.rfl, fun k hk => ⟨ha.lt k hk, rfl⟩⟩, hb, hd, hf⟩, hG⟩, m⟩
theorem Sts.pinned (T : Sts w F W (pinR H W0 :: R)) (hS : Sat W0 L G) (hG : ∀ k, G k → H k) : Sat W L G := by
  obtain ⟨A, ha⟩ := T.at0
  exact hS.stay fun k hk => (ha.2 k (hG k hk)).2
theorem Sts.unpin (T : Sts w F W (pinR H W0 :: R)) (hS : Sat W0 L H) : Sts w F W (L ++ R) := by
  obtain ⟨⟨G, ⟨A, B, ha, hb, hd, hf⟩, hG⟩, m⟩ := T
  have hl : Sat W L H := hS.stay fun k hk => (ha.2 k hk).2
  refine ⟨⟨G, (hl.append hb fun k hk => hd k ((ha.1 k).2 hk)).congr fun k => ?_, hG⟩, m⟩
  rw [hf k, ha.1 k]
/-- What is opened of things lies among their blocks. -/
theorem Sts.among (hS : Sat W0 L H) {M : List Res} (T : Sts W0 H W0 M) : ∃ G, Sat W0 M G ∧ ∀ k, G k → H k := by
  obtain ⟨⟨G, hs, hG⟩, m⟩ := T
  exact ⟨G, hs, fun k hk => (hG k hk).elim id fun h => absurd (hs.lt k hk) (by omega)⟩
theorem perm_one {a : Res} : (X ++ ([a] ++ R)).Perm (a :: (X ++ R)) := by
  have h : (X ++ a :: R).Perm (a :: (X ++ R)) := List.perm_middle
  exact h
end
end Go.Proofs.YtfgacjglfdehbaaDoor
