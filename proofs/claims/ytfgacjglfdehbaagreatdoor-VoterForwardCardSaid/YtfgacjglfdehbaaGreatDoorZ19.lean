/- Several texts in one. -/
import Derived.Test.YtfgacjglfdehbaaGreatDoorZ18
/- Layer 9: the ledger's calls but Open: Size, Top, At, All, Sync, Add. -/
namespace Go.Proofs.YtfgacjglfdehbaaGreatDoor
open Go.RowKit Go.Shelf
set_option linter.unusedVariables false
set_option maxRecDepth 20000
attribute [local go_sem] row_alloc row_drew row_drewN row_ext row_setCell row_setRow size_ext setRow_alloc setRow_drew loadOf storeOf piece_lit loadVal_at storeVal_at allOne_lit buildOf buildRes_some
attribute [local go_sem high] cell_alloc frozen_alloc setCell_alloc cell_ext frozen_ext cell_setRow frozen_setRow
attribute [local go_sem ↓] TDeed_ld0 TDeed_st0 TDeed_fd0 TDeed_bd0
attribute [local go_sem] TDeed_size TDeed_one TDeed_piece TDeed_c0 TDeed_c1 TDeed_c2 TDeed_c3 TDeed_c4 TDeed_c5 TDeed_set_kind TDeed_set_key TDeed_set_val TDeed_set_ver TDeed_set_ses TDeed_set_num TDeed_ld TDeed_st TDeed_f_kind TDeed_f_key TDeed_f_val TDeed_f_ver TDeed_f_ses TDeed_f_num TDeed_bd TDeed_fl TDeed_fl_kind TDeed_fl_key TDeed_fl_val TDeed_fl_ver TDeed_fl_ses TDeed_fl_num
attribute [local go_sem high] TDeed_eql TDeed_neq
attribute [local go_sem ↓] index_deps0 load_deps0 store_deps0
attribute [local go_sem] DV_piece DV_size DV_one index_deps load_deps store_deps
attribute [local go_sem high] TDeps_eql TDeps_neq
attribute [local go_sem ↓] TCall_ld0 TCall_st0 TCall_fd0 TCall_bd0
attribute [local go_sem] TCall_size TCall_one TCall_piece TCall_c0 TCall_c1 TCall_c2 TCall_c3 TCall_c4 TCall_c5 TCall_c6 TCall_c7 TCall_c8 TCall_c9 TCall_c10 TCall_c11 TCall_c12 TCall_c13 TCall_p_deed TCall_put_deed TCall_p_deps TCall_put_deps TCall_set_seq TCall_ld TCall_st TCall_f_deed TCall_f_deps TCall_f_seq TCall_bd TCall_fl TCall_fl_deed TCall_fl_deps TCall_fl_seq
attribute [local go_sem high] TCall_eql TCall_neq
attribute [local go_sem ↓] TItem_ld0 TItem_st0 TItem_fd0 TItem_bd0
attribute [local go_sem] TItem_size TItem_one TItem_piece TItem_c0 TItem_c1 TItem_set_rep TItem_set_num TItem_ld TItem_st TItem_f_rep TItem_f_num TItem_bd TItem_fl TItem_fl_rep TItem_fl_num
attribute [local go_sem high] TItem_eql TItem_neq
attribute [local go_sem ↓] TBallot_ld0 TBallot_st0 TBallot_fd0 TBallot_bd0
attribute [local go_sem] TBallot_size TBallot_one TBallot_piece TBallot_c0 TBallot_c1 TBallot_set_round TBallot_set_rep TBallot_ld TBallot_st TBallot_f_round TBallot_f_rep TBallot_bd TBallot_fl TBallot_fl_round TBallot_fl_rep
attribute [local go_sem high] TBallot_eql TBallot_neq
attribute [local go_sem ↓] TInst_ld0 TInst_st0 TInst_fd0 TInst_bd0
attribute [local go_sem] TInst_size TInst_one TInst_piece TInst_c0 TInst_c1 TInst_c2 TInst_c3 TInst_c4 TInst_c5 TInst_c6 TInst_c7 TInst_c8 TInst_c9 TInst_c10 TInst_c11 TInst_c12 TInst_c13 TInst_c14 TInst_c15 TInst_c16 TInst_c17 TInst_c18 TInst_c19 TInst_p_prom TInst_put_prom TInst_p_vote TInst_put_vote TInst_set_status TInst_p_call TInst_put_call TInst_set_same TInst_ld TInst_st TInst_f_prom TInst_f_vote TInst_f_status TInst_f_call TInst_f_same TInst_bd TInst_fl TInst_fl_prom TInst_fl_vote TInst_fl_status TInst_fl_call TInst_fl_same
attribute [local go_sem high] TInst_eql TInst_neq
theorem led_n (p g : Nat) (n : Int) : (ledCells p g n)[1]? = some (.int .i64 n) := rfl
theorem led_p (p g : Nat) (n : Int) : (ledCells p g n)[0]? = some (.pointer (some ⟨p, 0, none⟩)) := rfl
theorem led_g (p g : Nat) (n : Int) : (ledCells p g n)[2]? = some (.pointer (some ⟨g, 0, none⟩)) := rfl
attribute [local go_sem] led_n led_p led_g
section
variable {w W : World} {F : Nat → Prop} {R : List Res} {l p g : Nat} {n : Int} {D : List UInt8} {safe : Nat} {m : RowsM}
theorem ledSizeT (T : Sts w F W (rowR l (ledCells p g n) :: R)) : Calls Tryz.prog 43 #[.pointer (some ⟨l, 0, none⟩)] W fun e W' => e = .returned (.int .i64 n) ∧ W = W' := by
  have hc := row_cell T.row 1
  rw [led_n] at hc
  have hl := row_lt T.row
  clear T
  go_enter Tryz.func43, Tryz.ntmps43
  go_wp2
  go_ret
  exact ⟨rfl, rfl⟩
theorem ledAllT (T : Sts w F W (rowR l (ledCells p g n) :: R)) : Calls Tryz.prog 16 #[.pointer (some ⟨l, 0, none⟩)] W fun e W' => e = .returned (.func (.func 65) #[] #[.pointer (some ⟨W.heap.size, 0, none⟩)]) ∧ Sts w F W' (rowR W.heap.size #[.pointer (some ⟨g, 0, none⟩)] :: rowR l (ledCells p g n) :: R) := by
  have hc := row_cell T.row 2
  rw [led_g] at hc
  have hl := row_lt T.row
  have ht := irAllS T g
  have HT := Lib.hid ht
  clear T ht
  go_enter Tryz.func16, Tryz.ntmps16
  go_wp2_with fail
  refine HT.out.mono ?_
  rintro e w1 ⟨rfl, T⟩
  have H1 := Lib.hid T; clear T hc hl
  go_wp2
  go_ret
  exact ⟨rfl, H1.out⟩
end
set_option maxHeartbeats 2000000 in
theorem ledAtR (l p g : Nat) (D : List UInt8) (safe : Nat) (m : RowsM) (hm : RowsOk m) (x : Item) :
    Reads Tryz.prog 44 #[.pointer (some ⟨l, 0, none⟩), .agg (IV x)] (ledL l p g D safe m) (.agg (NV ((getM m x).getD noInst))) := by
  intro W G hS
  obtain ⟨w3, hw3⟩ : ∃ w3, w3 = (W.alloc (.cells (IV x) 32)).alloc (.cells (NV noInst) 52) := ⟨_, rfl⟩
  have T := ((Sts.start0 W).new (IV x) 32).new (NV noInst) 52
  simp only [World.size_alloc] at T
  rw [← hw3] at T
  rw [noInst_lit] at hw3
  have TS : Sts W G W (rowR l (ledCells p g m.n) :: plR p D safe :: rowsIR g m :: []) := Sts.start hS
  have hlW := row_lt TS.row
  have hrl : ∀ W', Below W.heap.size W W' → row? W' l = some (ledCells p g m.n) := fun W' hb => (row_below hb hlW).trans TS.row
  have hat : ∀ W', Below W.heap.size W W' → Calls Tryz.prog 67 #[.pointer (some ⟨g, 0, none⟩), .agg (IV x)] W' fun e W'' => e = .returned (.tuple #[.agg (NV ((getM m x).getD noInst)), .bool (getM m x).isSome]) ∧ Below W'.heap.size W' W'' := fun W' hb =>
    (irAtR g m hm.n x).at1 (R := [rowR l (ledCells p g m.n), plR p D safe]) ((TS.pure hb).ord [2, 0, 1])
  have HRL := Lib.hid hrl; have HAT := Lib.hid hat
  clear hrl hat TS hS
  have r0 := HRL.out w3 T.below
  have c0 := row_cell r0 2
  rw [led_g] at c0
  have l0 := row_lt r0
  go_enter Tryz.func44, Tryz.ntmps44
  go_wp2_with fail
  rw [← hw3]
  clear hw3
  generalize hg2 : W.heap.size + 1 = g2 at *
  generalize hg1 : W.heap.size = g1 at *
  have FS : ∀ W' R', Sts W (fun _ => False) W' (rowR g1 (IV x) :: R') → (W'.cell? ⟨l, 2, none⟩ = some (.pointer (some ⟨g, 0, none⟩)) ∧ row? W' g1 = some (IV x)) := fun W' R' T => ⟨row_cell (HRL.out W' (hg1 ▸ T.below)) 2, T.row⟩
  have S0 := FS _ _ T.drew.swap
  have HFS := Lib.hid FS
  have HT := Lib.hid T
  clear FS T r0 c0 l0 HRL
  generalize hres : (getM m x).getD noInst = res at *
  generalize (getM m x).isSome = bs at *
  refine wp_region_held_drew (S := fun W' => (W'.cell? ⟨l, 2, none⟩ = some (.pointer (some ⟨g, 0, none⟩)) ∧ row? W' g1 = some (IV x))) (by kernel_rfl) S0 (fun hHeld => ?_)
  clear S0
  refine wpAnyH_take (i := 0) (oi := _) (v := ?_) rfl (by kernel_rfl) (by kernel_rfl) (by kernel_rfl) (fun _ _ _ h => h) (Or.inl ⟨by kernel_rfl, ?_⟩) (by assumption) ?_
  rotate_left
  · (intro w hSw; (try dsimp only at hSw); go_simp; try (with_reducible rfl))
  simp only [Act.put, List.getElem_toArray, List.getElem_cons_zero, List.setIfInBounds_toArray, List.set_cons_zero, List.set_cons_succ]
  refine wpAnyH_take (i := 1) (oi := _) (v := ?_) rfl (by kernel_rfl) (by kernel_rfl) (by kernel_rfl) (fun _ _ _ h => h) (Or.inl ⟨by kernel_rfl, ?_⟩) (by assumption) ?_
  rotate_left
  · (intro w hSw; (try dsimp only at hSw); go_simp; try (with_reducible rfl))
  simp only [Act.put, List.getElem_toArray, List.getElem_cons_succ, List.getElem_cons_zero, List.setIfInBounds_toArray, List.set_cons_zero, List.set_cons_succ]
  refine wpAnyH_take (i := 2) (oi := _) (v := ?_) rfl (by kernel_rfl) (by kernel_rfl) (by kernel_rfl) (fun _ _ _ h => h) (Or.inl ⟨by kernel_rfl, ?_⟩) (by assumption) ?_
  rotate_left
  · (intro w hSw; (try dsimp only at hSw); go_simp; try (with_reducible rfl))
  simp only [Act.put, List.getElem_toArray, List.getElem_cons_succ, List.getElem_cons_zero, List.setIfInBounds_toArray, List.set_cons_zero, List.set_cons_succ]
  refine wpAnyH_take (i := 3) (oi := _) (v := ?_) rfl (by kernel_rfl) (by kernel_rfl) (by kernel_rfl) (fun _ _ _ h => h) (Or.inl ⟨by kernel_rfl, ?_⟩) (by assumption) ?_
  rotate_left
  · (intro w hSw; (try dsimp only at hSw); go_simp; try (with_reducible rfl))
  simp only [Act.put, List.getElem_toArray, List.getElem_cons_succ, List.getElem_cons_zero, List.setIfInBounds_toArray, List.set_cons_zero, List.set_cons_succ]
  refine wpAnyH_take (i := 4) (oi := _) (v := ?_) rfl (by kernel_rfl) (by kernel_rfl) (by kernel_rfl) (fun _ _ _ h => h) (Or.inl ⟨by kernel_rfl, ?_⟩) (by assumption) ?_
  rotate_left
  · (intro w hSw; (try dsimp only at hSw); go_simp; try (with_reducible rfl))
  simp only [Act.put, List.getElem_toArray, List.getElem_cons_succ, List.getElem_cons_zero, List.setIfInBounds_toArray, List.set_cons_zero, List.set_cons_succ]
  refine wpAnyH_ready (rs := [5, 9]) (by kernel_rfl) (by simp) ?_
  refine AllReadyH.cons (o := _) rfl (fun K hK => ?_) ?_
  · go_simp
    refine (HAT.out _ (hg1 ▸ HT.out.drew.below)).mono ?_
    rintro e w4 ⟨rfl, hb⟩
    have T1 := HT.out.drew.pure hb
    clear hb HT HAT
    refine hK.out _ _ ?_ (fun hHeld => ?_)
    · exact HFS.out _ _ T1.swap
    clear hK K
    refine wpAnyH_take (i := 6) (oi := _) (v := ?_) rfl (by kernel_rfl) (by kernel_rfl) (by kernel_rfl) (fun _ _ _ h => h) (Or.inl ⟨by kernel_rfl, ?_⟩) (by assumption) ?_
    rotate_left
    · (intro w hSw; (try dsimp only at hSw); go_simp; try (with_reducible rfl))
    simp only [Act.put, List.getElem_toArray, List.getElem_cons_succ, List.getElem_cons_zero, List.setIfInBounds_toArray, List.set_cons_zero, List.set_cons_succ]
    refine wpAnyH_take (i := 7) (oi := _) (v := ?_) rfl (by kernel_rfl) (by kernel_rfl) (by kernel_rfl) (fun _ _ _ h => h) (Or.inl ⟨by kernel_rfl, ?_⟩) (by assumption) ?_
    rotate_left
    · (intro w hSw; (try dsimp only at hSw); go_simp; try (with_reducible rfl))
    simp only [Act.put, List.getElem_toArray, List.getElem_cons_succ, List.getElem_cons_zero, List.setIfInBounds_toArray, List.set_cons_zero, List.set_cons_succ]
    refine wpAnyH_take (i := 8) (oi := _) (v := ?_) rfl (by kernel_rfl) (by kernel_rfl) (by kernel_rfl) (fun _ _ _ h => h) (Or.inl ⟨by kernel_rfl, ?_⟩) (by assumption) ?_
    rotate_left
    · (intro w hSw; (try dsimp only at hSw); go_simp; try (with_reducible rfl))
    simp only [Act.put, List.getElem_toArray, List.getElem_cons_succ, List.getElem_cons_zero, List.setIfInBounds_toArray, List.set_cons_zero, List.set_cons_succ]
    have T2 := T1.new (NV res) 52
    have T2a := T1.new (NV noInst) 52
    have r2 := T2a.row; have l2 := row_lt r2
    have HT2 := Lib.hid T2; have HT2a := Lib.hid T2a
    clear T1 T2 T2a
    rw [noInst_lit] at r2 l2
    refine wpAnyH_ready (rs := [9]) (by kernel_rfl) (by simp) ?_
    refine AllReadyH.cons (o := _) rfl (fun K hK => ?_) AllReadyH.nil
    go_simp
    refine hK.out _ _ ?_ (fun hHeld => ?_)
    · have := HFS.out _ _ (HT2a.out.ord [2, 0, 1])
      rw [noInst_lit] at this
      exact this
    clear hK K
    refine wpAnyH_ready (rs := [10]) (by kernel_rfl) (by simp) ?_
    refine AllReadyH.cons (o := _) rfl (fun K hK => ?_) AllReadyH.nil
    go_simp
    refine hK.out _ _ ?_ (fun hHeld => ?_)
    · exact HFS.out _ _ (HT2.out.ord [2, 0, 1])
    clear hK K r2 l2 HT2a
    refine wpAnyH_take (i := 11) (oi := _) (v := ?_) rfl (by kernel_rfl) (by kernel_rfl) (by kernel_rfl) (fun _ _ _ h => h) (Or.inl ⟨by kernel_rfl, ?_⟩) (by assumption) ?_
    rotate_left
    · (intro w hSw; (try dsimp only at hSw); go_simp; try (with_reducible rfl))
    simp only [Act.put, List.getElem_toArray, List.getElem_cons_succ, List.getElem_cons_zero, List.setIfInBounds_toArray, List.set_cons_zero, List.set_cons_succ]
    refine wpAnyH_done (by kernel_rfl) ?_ _
    simp only [Exit.then]
    have r3 := HT2.out.row; have r4 := HT2.out.row1; have l3 := row_lt r3; have l4 := row_lt r4
    generalize hw5 : w4.alloc _ = w5 at *
    generalize w4.heap.size = g5 at *
    go_wp2_with fail
    have T3 := (HT2.out.ord [1, 0]).setRow (NV res)
    clear r3 r4 l3 l4
    refine ret_row (NV res) TInst_und rfl (by kernel_rfl) rfl rfl rfl (TInst_size _) T3.row ?_
    exact ⟨by rw [hres], T3.below⟩
  · have T1 := HT.out.drew.new (NV noInst) 52
    have r1 := T1.row; have l1 := row_lt r1
    rw [noInst_lit] at r1 l1
    have HT1 := Lib.hid T1; clear T1 HT
    refine AllReadyH.cons (o := _) rfl (fun K hK => ?_) AllReadyH.nil
    go_simp
    refine hK.out _ _ ?_ (fun hHeld => ?_)
    · have := HFS.out _ _ (HT1.out.ord [2, 0, 1])
      rw [noInst_lit] at this
      exact this
    clear hK K r1 l1
    refine wpAnyH_ready (rs := [5]) (by kernel_rfl) (by simp) ?_
    refine AllReadyH.cons (o := _) rfl (fun K hK => ?_) AllReadyH.nil
    go_simp
    have hbb := HT1.out.below
    rw [noInst_lit] at hbb
    refine (HAT.out _ (hg1 ▸ hbb)).mono ?_
    rintro e w4 ⟨rfl, hb⟩
    have T1 := HT1.out
    rw [noInst_lit] at T1
    have T2 := T1.pure hb
    clear hb HT1 HAT hbb T1
    refine hK.out _ _ ?_ (fun hHeld => ?_)
    · exact HFS.out _ _ (T2.ord [2, 0, 1])
    clear hK K
    refine wpAnyH_take (i := 6) (oi := _) (v := ?_) rfl (by kernel_rfl) (by kernel_rfl) (by kernel_rfl) (fun _ _ _ h => h) (Or.inl ⟨by kernel_rfl, ?_⟩) (by assumption) ?_
    rotate_left
    · (intro w hSw; (try dsimp only at hSw); go_simp; try (with_reducible rfl))
    simp only [Act.put, List.getElem_toArray, List.getElem_cons_succ, List.getElem_cons_zero, List.setIfInBounds_toArray, List.set_cons_zero, List.set_cons_succ]
    refine wpAnyH_take (i := 7) (oi := _) (v := ?_) rfl (by kernel_rfl) (by kernel_rfl) (by kernel_rfl) (fun _ _ _ h => h) (Or.inl ⟨by kernel_rfl, ?_⟩) (by assumption) ?_
    rotate_left
    · (intro w hSw; (try dsimp only at hSw); go_simp; try (with_reducible rfl))
    simp only [Act.put, List.getElem_toArray, List.getElem_cons_succ, List.getElem_cons_zero, List.setIfInBounds_toArray, List.set_cons_zero, List.set_cons_succ]
    refine wpAnyH_take (i := 8) (oi := _) (v := ?_) rfl (by kernel_rfl) (by kernel_rfl) (by kernel_rfl) (fun _ _ _ h => h) (Or.inl ⟨by kernel_rfl, ?_⟩) (by assumption) ?_
    rotate_left
    · (intro w hSw; (try dsimp only at hSw); go_simp; try (with_reducible rfl))
    simp only [Act.put, List.getElem_toArray, List.getElem_cons_succ, List.getElem_cons_zero, List.setIfInBounds_toArray, List.set_cons_zero, List.set_cons_succ]
    have T3 := T2.setRow (NV res)
    have r2 := T2.row; have l2 := row_lt r2
    have HT3 := Lib.hid T3; clear T2 T3
    simp only [size_drew] at r2 l2 HT3
    generalize w3.heap.size = g5 at *
    refine wpAnyH_ready (rs := [10]) (by kernel_rfl) (by simp) ?_
    refine AllReadyH.cons (o := _) rfl (fun K hK => ?_) AllReadyH.nil
    go_simp
    refine hK.out _ _ ?_ (fun hHeld => ?_)
    · exact HFS.out _ _ (HT3.out.ord [2, 0, 1])
    clear hK K r2 l2
    refine wpAnyH_take (i := 11) (oi := _) (v := ?_) rfl (by kernel_rfl) (by kernel_rfl) (by kernel_rfl) (fun _ _ _ h => h) (Or.inl ⟨by kernel_rfl, ?_⟩) (by assumption) ?_
    rotate_left
    · (intro w hSw; (try dsimp only at hSw); go_simp; try (with_reducible rfl))
    simp only [Act.put, List.getElem_toArray, List.getElem_cons_succ, List.getElem_cons_zero, List.setIfInBounds_toArray, List.set_cons_zero, List.set_cons_succ]
    refine wpAnyH_done (by kernel_rfl) ?_ _
    simp only [Exit.then]
    have r3 := HT3.out.row; have r4 := HT3.out.row1; have l3 := row_lt r3; have l4 := row_lt r4
    generalize hw5 : w4.setRow _ _ = w5 at *
    go_wp2_with fail
    have T3 := (HT3.out.ord [1, 0]).setRow (NV res)
    clear r3 r4 l3 l4
    refine ret_row (NV res) TInst_und rfl (by kernel_rfl) rfl rfl rfl (TInst_size _) T3.row ?_
    exact ⟨by rw [hres], T3.below⟩
/-- What can be has a record. -/
theorem goodI_in {x : Item} {n : Int} (h : goodI x n = true) (hn : n ≤ 7) : In64 x.rep ∧ In64 x.num := by
  unfold goodI at h
  rw [decide_eq_true_iff] at h
  unfold In64
  omega
theorem goodN_in {i : Inst} {n : Int} (h : goodN i n = true) (hn : n ≤ 7) : InstIn i 100 := by
  unfold goodN goodBal goodC goodB goodD goodAt Kinds at h
  simp only [Bool.and_eq_true, decide_eq_true_eq, List.all_eq_true, List.mem_range] at h
  obtain ⟨⟨⟨⟨h1, h2⟩, h3⟩, ⟨⟨h4, h5⟩, h6⟩, h7⟩, -⟩ := h
  exact ⟨by unfold In64; omega, by unfold In64; omega, by unfold In64; omega, by unfold In64; omega, by unfold In64; omega, ⟨⟨by omega, by omega, by omega, by omega, by omega⟩, fun k hk => by have := h5 k hk; omega, by omega⟩⟩
theorem ents_mem {m : RowsM} {e : Item × Inst} (h : e ∈ ents m) : getM m e.1 = some e.2 := by
  have hto : ∀ r, e ∈ entsTo m r → getM m e.1 = some e.2 := fun r => by
    induction r with
    | zero => intro h; simp [entsTo] at h
    | succ r ih =>
      intro h
      rw [entsTo, List.mem_append] at h
      rcases h with h | h
      · exact ih h
      · unfold entR at h
        rw [List.mem_filterMap] at h
        obtain ⟨k, _, hk⟩ := h
        unfold entAt at hk
        rw [Option.map_eq_some_iff] at hk
        obtain ⟨t, ht, rfl⟩ := hk
        exact ht
  exact hto 7 h
theorem getM_good {m : RowsM} {x : Item} {t : Inst} (h : getM m x = some t) : goodI x m.n = true := by
  unfold getM at h
  split at h
  · assumption
  · cases h
/-- All that is known can be. -/
def RowsGood (m : RowsM) : Prop := ∀ x t, getM m x = some t → goodN t m.n = true
theorem RowsGood.ents {m : RowsM} (h : RowsGood m) (hm : RowsOk m) : EntsIn m := fun e he => by
  have h1 := ents_mem he
  have h2 := goodI_in (getM_good h1) hm.n.2
  exact ⟨h2.1, h2.2, goodN_in (h _ _ h1) hm.n.2⟩
end Go.Proofs.YtfgacjglfdehbaaGreatDoor
