/- Several texts in one. -/
import Derived.Test.YtfgacjglfdehbaaDoorW37
import Derived.Test.YtfgacjglfdehbaaDoorW26
import Derived.Test.YtfgacjglfdehbaaDoorW7
/- VoterWays: what is pre-accepted reaches to all that clashes with it here, and has a greater rank than all that; it reaches as far as was asked. -/
namespace Go.Proofs.YtfgacjglfdehbaaDoor
open Go.RowKit Go.Shelf
set_option linter.unusedVariables false
set_option maxRecDepth 20000
attribute [local go_sem] Oper.semAt_some
attribute [local go_sem] row_alloc row_drew row_drewN row_ext row_setCell row_setRow size_ext setRow_alloc setRow_drew loadOf storeOf piece_lit loadVal_at storeVal_at allOne_lit buildOf buildRes_some
attribute [local go_sem high] cell_alloc frozen_alloc setCell_alloc cell_ext frozen_ext cell_setRow frozen_setRow
attribute [local go_sem ↓] TDeed_ld0 TDeed_st0 TDeed_fd0 TDeed_bd0
attribute [local go_sem] TDeed_size TDeed_one TDeed_piece TDeed_c0 TDeed_c1 TDeed_c2 TDeed_c3 TDeed_c4 TDeed_c5 TDeed_set_kind TDeed_set_key TDeed_set_val TDeed_set_ver TDeed_set_ses TDeed_set_num TDeed_ld TDeed_st TDeed_f_kind TDeed_f_key TDeed_f_val TDeed_f_ver TDeed_f_ses TDeed_f_num TDeed_bd TDeed_fl TDeed_fl_kind TDeed_fl_key TDeed_fl_val TDeed_fl_ver TDeed_fl_ses TDeed_fl_num
attribute [local go_sem high] TDeed_eql TDeed_neq
attribute [local go_sem ↓] index_deps0 load_deps0 store_deps0
attribute [local go_sem] DV_piece DV_size DV_one index_deps load_deps store_deps
attribute [local go_sem high] TDeps_eql TDeps_neq
attribute [local go_sem ↓] TCall_ld0 TCall_st0 TCall_fd0 TCall_bd0
attribute [local go_sem] TCall_size TCall_one TCall_piece TCall_c0 TCall_c1 TCall_c2 TCall_c3 TCall_c4 TCall_c5 TCall_c6 TCall_c7 TCall_c8 TCall_c9 TCall_c10 TCall_c11 TCall_c12 TCall_c13 TCall_p_deed TCall_put_deed TCall_p_deps TCall_put_deps TCall_set_seq TCall_ld TCall_st TCall_f_deed TCall_f_deps TCall_f_seq TCall_bd TCall_fl TCall_fl_deed TCall_fl_deps TCall_fl_seq
attribute [local go_sem high] TCall_eql TCall_neq
attribute [local go_sem ↓] TItem_ld0 TItem_st0 TItem_fd0 TItem_bd0
attribute [local go_sem] TItem_size TItem_one TItem_piece TItem_c0 TItem_c1 TItem_set_rep TItem_set_num TItem_ld TItem_st TItem_f_rep TItem_f_num TItem_bd TItem_fl TItem_fl_rep TItem_fl_num
attribute [local go_sem high] TItem_eql TItem_neq
attribute [local go_sem ↓] TBallot_ld0 TBallot_st0 TBallot_fd0 TBallot_bd0
attribute [local go_sem] TBallot_size TBallot_one TBallot_piece TBallot_c0 TBallot_c1 TBallot_set_round TBallot_set_rep TBallot_ld TBallot_st TBallot_f_round TBallot_f_rep TBallot_bd TBallot_fl TBallot_fl_round TBallot_fl_rep
attribute [local go_sem high] TBallot_eql TBallot_neq
attribute [local go_sem ↓] TInst_ld0 TInst_st0 TInst_fd0 TInst_bd0
attribute [local go_sem] TInst_size TInst_one TInst_piece TInst_c0 TInst_c1 TInst_c2 TInst_c3 TInst_c4 TInst_c5 TInst_c6 TInst_c7 TInst_c8 TInst_c9 TInst_c10 TInst_c11 TInst_c12 TInst_c13 TInst_c14 TInst_c15 TInst_c16 TInst_c17 TInst_c18 TInst_c19 TInst_p_prom TInst_put_prom TInst_p_vote TInst_put_vote TInst_set_status TInst_p_call TInst_put_call TInst_set_same TInst_ld TInst_st TInst_f_prom TInst_f_vote TInst_f_status TInst_f_call TInst_f_same TInst_bd TInst_fl TInst_fl_prom TInst_fl_vote TInst_fl_status TInst_fl_call TInst_fl_same
attribute [local go_sem high] TInst_eql TInst_neq
attribute [local go_sem ↓] TMsg_ld0 TMsg_st0 TMsg_fd0 TMsg_bd0
attribute [local go_sem] TMsg_size TMsg_one TMsg_piece TMsg_c0 TMsg_c1 TMsg_c2 TMsg_c3 TMsg_c4 TMsg_c5 TMsg_c6 TMsg_c7 TMsg_c8 TMsg_c9 TMsg_c10 TMsg_c11 TMsg_c12 TMsg_c13 TMsg_c14 TMsg_c15 TMsg_c16 TMsg_c17 TMsg_c18 TMsg_c19 TMsg_c20 TMsg_c21 TMsg_c22 TMsg_c23 TMsg_c24 TMsg_set_kind TMsg_set_frm TMsg_set_to TMsg_p_item TMsg_put_item TMsg_p_bal TMsg_put_bal TMsg_p_vote TMsg_put_vote TMsg_set_status TMsg_set_same TMsg_p_call TMsg_put_call TMsg_ld TMsg_st TMsg_f_kind TMsg_f_frm TMsg_f_to TMsg_f_item TMsg_f_bal TMsg_f_vote TMsg_f_status TMsg_f_same TMsg_f_call TMsg_bd TMsg_fl TMsg_fl_kind TMsg_fl_frm TMsg_fl_to TMsg_fl_item TMsg_fl_bal TMsg_fl_vote TMsg_fl_status TMsg_fl_same TMsg_fl_call
attribute [local go_sem high] TMsg_eql TMsg_neq
theorem greatOwn {w W : World} {F : Nat → Prop} {R : List Res} (n : Int) (l : List Msg) (hf : FitV l) {v : Value} {k : Nat} (hk : l.length = k) (hl : l.length ≤ 9223372036854775807) (T : Sts w F W (vecR 34 25 v k (vl MV l) :: R)) :
    Calls Tryd.prog 8 #[.int .i64 n, v] W fun e W' => e = .returned (.bool (greatV n l)) ∧ Sts w F W' (vecR 34 25 v k (vl MV l) :: R) := by
  subst hk
  obtain ⟨A, c, rfl, hx, -, -⟩ := vec_rows TMsg_size T (by omega) hl
  exact (great15 n A c l W W (fun _ => False) [] (fun W' T => T.below) hx hf (Sts.start0 W)).mono fun e W' ⟨he, hb⟩ => ⟨he, T.pure hb.below⟩
theorem msg_i : ∃ i, Tryd.prog.info? 34 = some i ∧ i.zero = some (.agg (MV noMsg)) ∧ i.size = 25 ∧ i.bytes = 216 := by
  have h : (Tryd.prog.info? 34).map (fun i => (i.zero, i.size, i.bytes)) = some (some (.agg (MV noMsg)), 25, 216) := by kernel_rfl
  cases hi : Tryd.prog.info? 34 with
  | none => rw [hi] at h; simp at h
  | some i => rw [hi] at h; simp at h; exact ⟨i, rfl, h.1, h.2.1, h.2.2⟩
theorem mv_one (x : Msg) : ∀ u ∈ (MV x).toList, u.oneCell' = true := by simp [MV, Value.oneCell']
theorem msg_sliceE (w : World) : (buildSem 22 0 #[]).run Tryd.prog w = .ok (.slice (some ⟨w.heap.size, 0, none⟩) 0 0) (w.alloc (.cells #[] 34)) := by
  unfold buildSem
  go_simp
theorem msg_slice0 (len : Nat) (parts : Array (Nat × Value)) : Instr.buildSlice 22 len parts = buildSem 22 len parts := rfl
theorem msg_slice1 (w : World) (x : Msg) : (buildSem 22 1 #[(0, .agg (MV x))]).run Tryd.prog w = .ok (.slice (some ⟨w.heap.size, 0, none⟩) 1 1) (w.alloc (.cells (MV x) 34)) :=
  build_slice1 Tryd.underlying22 (z := .agg (MV noMsg)) (n := 25) (by kernel_rfl) (by omega) w (TMsg_size x) (by omega)
attribute [local go_sem ↓] msg_slice0
theorem mv_deed (x : Msg) : piece (MV x) 11 6 = EV x.call.deed := rfl
attribute [local go_sem] msg_slice1 msg_sliceE mv_deed
theorem results_cellV {P : Program} {fn : Func} {p : Tmp} {ty : TypeId} {d : TypeDesc} {tmps : Array Value} {w : World} {g : Nat} {v : Value} (h : fn.results = #[.cell p ty]) (hp : tmps.getD p undef = .pointer (some ⟨g, 0, none⟩)) (hc : w.cell? ⟨g, 0, none⟩ = some v) (hu : P.underlying ty = some d) (hd : d.isRow = false) :
    (results fn tmps).run P w = .ok v w := by
  have hp' : tmps[p]?.getD undef = .pointer (some ⟨g, 0, none⟩) := by simpa using hp
  have ha : (isAgg ty).run P w = .ok false w := by
    unfold isAgg
    simp only [Sem.run_bind, run_underlying hu, Result.andThen_ok]
    cases d <;> first | rfl | (cases hd; done)
  simp [results, h, hp', asAddr, loadVar, ha, hc]
set_option maxHeartbeats 16000000 in
theorem law_vways (n self : Int) (A : Option Addr) (c : Nat) (l : List Msg) (mm : Msg) (t : TypeId) (W : World) (h0 : W.heap[0]? = some (.cells KndV t (0, 0))) (hx : RowsIn W A 25 MV l) (hf : FitV l) (hk1 : mm.call.deed.key.size ≤ 140737488351232) (hk2 : mm.call.deed.val.size ≤ 140737488351232) (hby : l.length * 216 ≤ 140737488351232) :
    Calls Tryd.prog 5 #[.int .i64 n, .int .i64 self, .slice A l.length c, .agg (MV mm)] W fun e W' => e = .returned (.bool true) ∧ Below W.heap.size W W' := by
  have HX := Lib.hid hx; have HF := Lib.hid hf; have HBY := Lib.hid hby
  clear hx hf hby
  have HB : Hid (∀ W' R, Sts W (fun k => k = 0) W' (kndR t :: R) → Below W.heap.size W W') := Lib.hid fun W' R T => (Sts.only1 T).belowK h0
  have hll := HX.out.len
  refine (callsIn_wide (n := 4)).1 ?_
  refine callsIn_of_wp_marks Tryd.func5 rfl trivial ?_ rfl
  simp only [Tryd.ntmps5, List.size_toArray, List.length_cons, List.length_nil, Nat.reduceAdd, Nat.reduceSub, Array.replicate_succ, Array.replicate_zero, List.push_toArray, List.append_toArray, List.nil_append, List.cons_append]
  refine wpIn_wide.2 ?_
  have T := (((Sts.startK h0).new (MV mm) 34).new #[.bool false] 4).ord [2, 0, 1]
  rw [World.size_alloc] at T
  have HT := Lib.hid T; clear T
  go_wp2_with fail
  refine (alive15 HT.out).mono ?_
  clear HT
  rintro e w1 ⟨rfl, T⟩
  generalize hg8 : W.heap.size + 1 = g8 at *
  generalize hgm : W.heap.size = gm at *
  have HT := Lib.hid T; clear T
  go_upto_region 3 with fail
  obtain ⟨r, hr⟩ : ∃ r, r = (greatV n (l ++ [mm]) && ((l.length : Int) != 80) || (mm.kind != 1)) := ⟨_, rfl⟩
  go_cut [38] from 21 to 38 (fun u38 wx => u38 = .bool r ∧ Sts W (fun k => k = 0) wx (kndR t :: rowR g8 #[.bool false] :: rowR gm (MV mm) :: []))
  case first =>
    -- FIRST{
    have T0 := HT.out.drew
    have FS : ∀ W', row? W' gm = some (MV mm) → (row? W' gm = some (MV mm) ∧ W'.cell? ⟨gm, 0, none⟩ = some (.int .i64 mm.kind)) := fun W' h => ⟨h, row_cell h 0⟩
    have S0 := FS _ T0.row2
    have HFS := Lib.hid FS; clear FS
    have HT0 := Lib.hid T0
    have hby := HBY.out
    clear T0 HT
    have hm0 : ∀ W' : World, (row? W' gm = some (MV mm) ∧ W'.cell? ⟨gm, 0, none⟩ = some (.int .i64 mm.kind)) → (row? W' gm = some (MV mm) ∧ W'.cell? ⟨gm, 0, none⟩ = some (.int .i64 mm.kind)) := fun _ h => h
    have HM := Lib.hid hm0; clear hm0
    obtain ⟨ti, hti, hz0, hz1, hz2⟩ := msg_i
    have hone : ∀ x ∈ l, ∀ u ∈ (MV x).toList, u.oneCell' = true := fun x _ => mv_one x
    have HO := Lib.hid hone; have HO1 := Lib.hid (mv_one mm); clear hone
    have hfl : FitV (l ++ [mm]) := fun x hx => by
      rcases List.mem_append.1 hx with h | h
      · exact HF.out x h
      · rw [List.mem_singleton.1 h]; exact ⟨hk1, hk2⟩
    have HFL := Lib.hid hfl; clear hfl
    refine wp_region_noPanic ?_
    refine wp_region_stage (fun W' => row? W' gm = some (MV mm) ∧ W'.cell? ⟨gm, 0, none⟩ = some (.int .i64 mm.kind)) (fun W' => row? W' gm = some (MV mm) ∧ W'.cell? ⟨gm, 0, none⟩ = some (.int .i64 mm.kind)) 7 (by kernel_rfl) S0 (fun hHeld => ?_)
    clear S0
    refine wpAnyL_take0 (i := 0) (oi := _) (v := ?_) rfl (by kernel_rfl) (by kernel_rfl) (by kernel_rfl) (by kernel_rfl) (by kernel_rfl) (fun _ _ _ h => h) (Or.inl ⟨by kernel_rfl, ?_⟩) (by assumption) ?_
    rotate_left
    · (intro w hSw; (try dsimp only at hSw); go_simp; try (with_reducible rfl))
    simp only [Act.put, List.getElem_toArray, List.getElem_cons_zero, List.setIfInBounds_toArray, List.set_cons_zero, List.set_cons_succ]
    refine wpAnyL_take1a HM.out (i := 2) (oi := _) (v := ?_) rfl (by kernel_rfl) (by kernel_rfl) (by kernel_rfl) (by kernel_rfl) (by kernel_rfl) (fun _ _ _ h => h) (Or.inl ⟨by kernel_rfl, ?_⟩) (by assumption) ?_
    rotate_left
    · (intro w hSw; (try dsimp only at hSw); go_simp; try (with_reducible rfl))
    simp only [Act.put, List.getElem_toArray, List.getElem_cons_succ, List.getElem_cons_zero, List.setIfInBounds_toArray, List.set_cons_zero, List.set_cons_succ]
    refine wpAnyL_take1a HM.out (i := 4) (oi := _) (v := ?_) rfl (by kernel_rfl) (by kernel_rfl) (by kernel_rfl) (by kernel_rfl) (by kernel_rfl) (fun _ _ _ h => h) (Or.inl ⟨by kernel_rfl, ?_⟩) (by assumption) ?_
    rotate_left
    · (intro w hSw; (try dsimp only at hSw); go_simp; try (with_reducible rfl))
    simp only [Act.put, List.getElem_toArray, List.getElem_cons_succ, List.getElem_cons_zero, List.setIfInBounds_toArray, List.set_cons_zero, List.set_cons_succ]
    generalize hwd : w1.drew = wd at *
    clear hwd
    refine wpAnyL_ready (rs := [1, 5]) (by kernel_rfl) (by simp) ?_
    refine AllReadyL.cons0 (o := _) rfl (by kernel_rfl) (fun K hK => ?_) ?_
    · have Ta := HT0.out.vecNew #[] 34 25 0 rfl (by unfold maxLen; omega)
      have HTa := Lib.hid Ta; clear Ta HT0
      go_simp
      refine hK.out _ _ ?_ (fun hHeld => ?_)
      · exact HFS.out _ HTa.out.row3
      clear hK K
      generalize hwa : wd.alloc _ = wa at *
      generalize hga : wd.heap.size = ga at *
      clear hwa hga
      refine wpAnyL_ready (rs := [3, 5]) (by kernel_rfl) (by simp) ?_
      refine AllReadyL.cons0 (o := _) rfl (by kernel_rfl) (fun K hK => ?_) ?_
      · refine step_append_in0 (V := MV) (by rfl) _ _ _ (by rfl) 34 ti _ 25 216 Tryd.underlying22 hti hz0 hz1 hz2 rfl (by omega) ga 0 (by rfl) HTa.out A c l (by rfl) HX.out (by rw [hgm]; exact HB.out _ _ (HTa.out.ord [1, 2, 3, 0])) TMsg_size HO.out (by unfold maxLen; omega) (by omega) ?_
        intro g1 cap1 w2 T2
        refine hK.out _ _ ?_ (fun hHeld => ?_)
        · exact HFS.out _ T2.row3
        clear hK K HTa
        refine wpAnyL_ready (rs := [5]) (by kernel_rfl) (by simp) ?_
        refine AllReadyL.cons0 (o := _) rfl (by kernel_rfl) (fun K hK => ?_) AllReadyL.nil
        have T3 := (T2.new (MV mm) 34).swap
        have HT3 := Lib.hid T3; clear T2 T3
        go_simp
        refine hK.out _ _ ?_ (fun hHeld => ?_)
        · exact HFS.out _ HT3.out.row4
        clear hK K
        have T3 := HT3.out; clear HT3
        refine wpAnyL_ready (rs := [6]) (by kernel_rfl) (by simp) ?_
        refine AllReadyL.cons0 (o := _) rfl (by kernel_rfl) (fun K hK => ?_) AllReadyL.nil
        refine step_append_vec (by rfl) _ _ _ (by rfl) 34 ti _ 25 216 Tryd.underlying22 hti hz0 hz1 hz2 rfl (by omega) (.slice (some ⟨g1, 0, none⟩) l.length cap1) l.length (vl MV l) (by rfl) T3 ⟨w2.heap.size, 0, none⟩ 1 1 (MV mm).toList (by rfl) (by rfl) (news_row T3.row1) HO1.out (by omega) (by unfold maxLen; omega) (by omega) ?_
        intro g2 cap2 w6 T6
        rw [← vl_snoc] at T6
        refine hK.out _ _ ?_ (fun hHeld => ?_)
        · exact HFS.out _ T6.row4
        clear hK K
        refine wpAnyL_ready (rs := [7]) (by kernel_rfl) (by simp) ?_
        refine AllReadyL.cons1 (o := _) rfl (by kernel_rfl) (fun K hK => ?_) AllReadyL.nil
        have hgc := greatOwn n (l ++ [mm]) HFL.out (by simp) (by simp; omega) T6
        have HGC := Lib.hid hgc; clear hgc T6 T3
        generalize greatV n (l ++ [mm]) = gv at *
        go_simp
        refine HGC.out.mono ?_
        clear HGC
        rintro e w7 ⟨rfl, T7⟩
        refine hK.out _ _ ?_ (fun hHeld => ?_)
        · exact HFS.out _ T7.row4
        clear hK K
        have HT9 := Lib.hid (show Sts W (fun k => k = 0) w7 (kndR t :: rowR g8 #[.bool false] :: rowR gm (MV mm) :: []) from T7.drop.drop)
        have rm := T7.row4; have cm := row_cell rm 0
        clear T7
        refine wpAnyL_take1b HM.out (i := 8) (oi := _) (v := ?_) rfl (by kernel_rfl) (by kernel_rfl) (by kernel_rfl) (by kernel_rfl) (by kernel_rfl) (fun _ _ _ h => h) (Or.inl ⟨by kernel_rfl, ?_⟩) (by assumption) ?_
        rotate_left
        · (intro w hSw; (try dsimp only at hSw); go_simp; try (with_reducible rfl))
        simp only [Act.put, List.getElem_toArray, List.getElem_cons_succ, List.getElem_cons_zero, List.setIfInBounds_toArray, List.set_cons_zero, List.set_cons_succ]
        cases gv
        case false =>
          refine wpAnyL_take1b HM.out (i := 9) (oi := _) (v := undef) rfl (by kernel_rfl) (by kernel_rfl) (by kernel_rfl) (by kernel_rfl) (by kernel_rfl) (fun _ _ _ h => h) (Or.inr ⟨by kernel_rfl, rfl⟩) (by assumption) ?_
          simp only [Act.put, List.getElem_toArray, List.getElem_cons_succ, List.getElem_cons_zero, List.setIfInBounds_toArray, List.set_cons_zero, List.set_cons_succ]
          refine wpAnyL_take1b HM.out (i := 10) (oi := _) (v := undef) rfl (by kernel_rfl) (by kernel_rfl) (by kernel_rfl) (by kernel_rfl) (by kernel_rfl) (fun _ _ _ h => h) (Or.inr ⟨by kernel_rfl, rfl⟩) (by assumption) ?_
          simp only [Act.put, List.getElem_toArray, List.getElem_cons_succ, List.getElem_cons_zero, List.setIfInBounds_toArray, List.set_cons_zero, List.set_cons_succ]
          refine wpAnyL_take1b HM.out (i := 11) (oi := _) (v := undef) rfl (by kernel_rfl) (by kernel_rfl) (by kernel_rfl) (by kernel_rfl) (by kernel_rfl) (fun _ _ _ h => h) (Or.inr ⟨by kernel_rfl, rfl⟩) (by assumption) ?_
          simp only [Act.put, List.getElem_toArray, List.getElem_cons_succ, List.getElem_cons_zero, List.setIfInBounds_toArray, List.set_cons_zero, List.set_cons_succ]
          refine wpAnyL_take1b HM.out (i := 12) (oi := _) (v := ?_) rfl (by kernel_rfl) (by kernel_rfl) (by kernel_rfl) (by kernel_rfl) (by kernel_rfl) (fun _ _ _ h => h) (Or.inl ⟨by kernel_rfl, ?_⟩) (by assumption) ?_
          rotate_left
          · (intro w hSw; (try dsimp only at hSw); go_simp; try (with_reducible rfl))
          simp only [Act.put, List.getElem_toArray, List.getElem_cons_succ, List.getElem_cons_zero, List.setIfInBounds_toArray, List.set_cons_zero, List.set_cons_succ]
          refine wpAnyL_take1b HM.out (i := 13) (oi := _) (v := ?_) rfl (by kernel_rfl) (by kernel_rfl) (by kernel_rfl) (by kernel_rfl) (by kernel_rfl) (fun _ _ _ h => h) (Or.inl ⟨by kernel_rfl, ?_⟩) (by assumption) ?_
          rotate_left
          · (intro w hSw; (try dsimp only at hSw); go_simp; try (with_reducible rfl))
          simp only [Act.put, List.getElem_toArray, List.getElem_cons_succ, List.getElem_cons_zero, List.setIfInBounds_toArray, List.set_cons_zero, List.set_cons_succ]
          refine wpAnyL_take1b HM.out (i := 14) (oi := _) (v := ?_) rfl (by kernel_rfl) (by kernel_rfl) (by kernel_rfl) (by kernel_rfl) (by kernel_rfl) (fun _ _ _ h => h) (Or.inl ⟨by kernel_rfl, ?_⟩) (by assumption) ?_
          rotate_left
          · (intro w hSw; (try dsimp only at hSw); go_simp; try (with_reducible rfl))
          simp only [Act.put, List.getElem_toArray, List.getElem_cons_succ, List.getElem_cons_zero, List.setIfInBounds_toArray, List.set_cons_zero, List.set_cons_succ]
          refine wpAnyL_take1b HM.out (i := 15) (oi := _) (v := ?_) rfl (by kernel_rfl) (by kernel_rfl) (by kernel_rfl) (by kernel_rfl) (by kernel_rfl) (fun _ _ _ h => h) (Or.inl ⟨by kernel_rfl, ?_⟩) (by assumption) ?_
          rotate_left
          · (intro w hSw; (try dsimp only at hSw); go_simp; try (with_reducible rfl))
          simp only [Act.put, List.getElem_toArray, List.getElem_cons_succ, List.getElem_cons_zero, List.setIfInBounds_toArray, List.set_cons_zero, List.set_cons_succ]
          refine wpAnyL_take1b HM.out (i := 16) (oi := _) (v := ?_) rfl (by kernel_rfl) (by kernel_rfl) (by kernel_rfl) (by kernel_rfl) (by kernel_rfl) (fun _ _ _ h => h) (Or.inl ⟨by kernel_rfl, ?_⟩) (by assumption) ?_
          rotate_left
          · (intro w hSw; (try dsimp only at hSw); go_simp; try (with_reducible rfl))
          simp only [Act.put, List.getElem_toArray, List.getElem_cons_succ, List.getElem_cons_zero, List.setIfInBounds_toArray, List.set_cons_zero, List.set_cons_succ]
          refine wpAnyL_take1b HM.out (i := 17) (oi := _) (v := ?_) rfl (by kernel_rfl) (by kernel_rfl) (by kernel_rfl) (by kernel_rfl) (by kernel_rfl) (fun _ _ _ h => h) (Or.inl ⟨by kernel_rfl, ?_⟩) (by assumption) ?_
          rotate_left
          · (intro w hSw; (try dsimp only at hSw); go_simp; try (with_reducible rfl))
          simp only [Act.put, List.getElem_toArray, List.getElem_cons_succ, List.getElem_cons_zero, List.setIfInBounds_toArray, List.set_cons_zero, List.set_cons_succ]
          refine wpAnyL_done (by kernel_rfl) ?_ _
          refine NoPanic.normal ?_
          simp only [Exit.then]
          go_step
          go_meet
          case rel => exact ⟨by rw [hr]; rfl, HT9.out⟩
        case true =>
          refine wpAnyL_take1b HM.out (i := 9) (oi := _) (v := ?_) rfl (by kernel_rfl) (by kernel_rfl) (by kernel_rfl) (by kernel_rfl) (by kernel_rfl) (fun _ _ _ h => h) (Or.inl ⟨by kernel_rfl, ?_⟩) (by assumption) ?_
          rotate_left
          · (intro w hSw; (try dsimp only at hSw); go_simp; try (with_reducible rfl))
          simp only [Act.put, List.getElem_toArray, List.getElem_cons_succ, List.getElem_cons_zero, List.setIfInBounds_toArray, List.set_cons_zero, List.set_cons_succ]
          refine wpAnyL_take1b HM.out (i := 10) (oi := _) (v := ?_) rfl (by kernel_rfl) (by kernel_rfl) (by kernel_rfl) (by kernel_rfl) (by kernel_rfl) (fun _ _ _ h => h) (Or.inl ⟨by kernel_rfl, ?_⟩) (by assumption) ?_
          rotate_left
          · (intro w hSw; (try dsimp only at hSw); go_simp; try (with_reducible rfl))
          simp only [Act.put, List.getElem_toArray, List.getElem_cons_succ, List.getElem_cons_zero, List.setIfInBounds_toArray, List.set_cons_zero, List.set_cons_succ]
          refine wpAnyL_take1b HM.out (i := 11) (oi := _) (v := ?_) rfl (by kernel_rfl) (by kernel_rfl) (by kernel_rfl) (by kernel_rfl) (by kernel_rfl) (fun _ _ _ h => h) (Or.inl ⟨by kernel_rfl, ?_⟩) (by assumption) ?_
          rotate_left
          · (intro w hSw; (try dsimp only at hSw); go_simp; try (with_reducible rfl))
          simp only [Act.put, List.getElem_toArray, List.getElem_cons_succ, List.getElem_cons_zero, List.setIfInBounds_toArray, List.set_cons_zero, List.set_cons_succ]
          cases h80 : ((l.length : Int) != 80)
          case false =>
            rw [h80] at hr
            refine wpAnyL_take1b HM.out (i := 12) (oi := _) (v := ?_) rfl (by kernel_rfl) (by kernel_rfl) (by kernel_rfl) (by kernel_rfl) (by kernel_rfl) (fun _ _ _ h => h) (Or.inl ⟨by kernel_rfl, ?_⟩) (by assumption) ?_
            rotate_left
            · (intro w hSw; (try dsimp only at hSw); go_simp; try (with_reducible rfl))
            simp only [Act.put, List.getElem_toArray, List.getElem_cons_succ, List.getElem_cons_zero, List.setIfInBounds_toArray, List.set_cons_zero, List.set_cons_succ]
            refine wpAnyL_take1b HM.out (i := 13) (oi := _) (v := ?_) rfl (by kernel_rfl) (by kernel_rfl) (by kernel_rfl) (by kernel_rfl) (by kernel_rfl) (fun _ _ _ h => h) (Or.inl ⟨by kernel_rfl, ?_⟩) (by assumption) ?_
            rotate_left
            · (intro w hSw; (try dsimp only at hSw); go_simp; try (with_reducible rfl))
            simp only [Act.put, List.getElem_toArray, List.getElem_cons_succ, List.getElem_cons_zero, List.setIfInBounds_toArray, List.set_cons_zero, List.set_cons_succ]
            refine wpAnyL_take1b HM.out (i := 14) (oi := _) (v := ?_) rfl (by kernel_rfl) (by kernel_rfl) (by kernel_rfl) (by kernel_rfl) (by kernel_rfl) (fun _ _ _ h => h) (Or.inl ⟨by kernel_rfl, ?_⟩) (by assumption) ?_
            rotate_left
            · (intro w hSw; (try dsimp only at hSw); go_simp; try (with_reducible rfl))
            simp only [Act.put, List.getElem_toArray, List.getElem_cons_succ, List.getElem_cons_zero, List.setIfInBounds_toArray, List.set_cons_zero, List.set_cons_succ]
            refine wpAnyL_take1b HM.out (i := 15) (oi := _) (v := ?_) rfl (by kernel_rfl) (by kernel_rfl) (by kernel_rfl) (by kernel_rfl) (by kernel_rfl) (fun _ _ _ h => h) (Or.inl ⟨by kernel_rfl, ?_⟩) (by assumption) ?_
            rotate_left
            · (intro w hSw; (try dsimp only at hSw); go_simp; try (with_reducible rfl))
            simp only [Act.put, List.getElem_toArray, List.getElem_cons_succ, List.getElem_cons_zero, List.setIfInBounds_toArray, List.set_cons_zero, List.set_cons_succ]
            refine wpAnyL_take1b HM.out (i := 16) (oi := _) (v := ?_) rfl (by kernel_rfl) (by kernel_rfl) (by kernel_rfl) (by kernel_rfl) (by kernel_rfl) (fun _ _ _ h => h) (Or.inl ⟨by kernel_rfl, ?_⟩) (by assumption) ?_
            rotate_left
            · (intro w hSw; (try dsimp only at hSw); go_simp; try (with_reducible rfl))
            simp only [Act.put, List.getElem_toArray, List.getElem_cons_succ, List.getElem_cons_zero, List.setIfInBounds_toArray, List.set_cons_zero, List.set_cons_succ]
            refine wpAnyL_take1b HM.out (i := 17) (oi := _) (v := ?_) rfl (by kernel_rfl) (by kernel_rfl) (by kernel_rfl) (by kernel_rfl) (by kernel_rfl) (fun _ _ _ h => h) (Or.inl ⟨by kernel_rfl, ?_⟩) (by assumption) ?_
            rotate_left
            · (intro w hSw; (try dsimp only at hSw); go_simp; try (with_reducible rfl))
            simp only [Act.put, List.getElem_toArray, List.getElem_cons_succ, List.getElem_cons_zero, List.setIfInBounds_toArray, List.set_cons_zero, List.set_cons_succ]
            refine wpAnyL_done (by kernel_rfl) ?_ _
            refine NoPanic.normal ?_
            simp only [Exit.then]
            go_step
            go_meet
            case rel => exact ⟨by rw [hr]; rfl, HT9.out⟩
          case true =>
            rw [h80] at hr
            refine wpAnyL_take1b HM.out (i := 12) (oi := _) (v := ?_) rfl (by kernel_rfl) (by kernel_rfl) (by kernel_rfl) (by kernel_rfl) (by kernel_rfl) (fun _ _ _ h => h) (Or.inl ⟨by kernel_rfl, ?_⟩) (by assumption) ?_
            rotate_left
            · (intro w hSw; (try dsimp only at hSw); go_simp; try (with_reducible rfl))
            simp only [Act.put, List.getElem_toArray, List.getElem_cons_succ, List.getElem_cons_zero, List.setIfInBounds_toArray, List.set_cons_zero, List.set_cons_succ]
            refine wpAnyL_take1b HM.out (i := 13) (oi := _) (v := ?_) rfl (by kernel_rfl) (by kernel_rfl) (by kernel_rfl) (by kernel_rfl) (by kernel_rfl) (fun _ _ _ h => h) (Or.inl ⟨by kernel_rfl, ?_⟩) (by assumption) ?_
            rotate_left
            · (intro w hSw; (try dsimp only at hSw); go_simp; try (with_reducible rfl))
            simp only [Act.put, List.getElem_toArray, List.getElem_cons_succ, List.getElem_cons_zero, List.setIfInBounds_toArray, List.set_cons_zero, List.set_cons_succ]
            refine wpAnyL_take1b HM.out (i := 14) (oi := _) (v := undef) rfl (by kernel_rfl) (by kernel_rfl) (by kernel_rfl) (by kernel_rfl) (by kernel_rfl) (fun _ _ _ h => h) (Or.inr ⟨by kernel_rfl, rfl⟩) (by assumption) ?_
            simp only [Act.put, List.getElem_toArray, List.getElem_cons_succ, List.getElem_cons_zero, List.setIfInBounds_toArray, List.set_cons_zero, List.set_cons_succ]
            refine wpAnyL_take1b HM.out (i := 15) (oi := _) (v := undef) rfl (by kernel_rfl) (by kernel_rfl) (by kernel_rfl) (by kernel_rfl) (by kernel_rfl) (fun _ _ _ h => h) (Or.inr ⟨by kernel_rfl, rfl⟩) (by assumption) ?_
            simp only [Act.put, List.getElem_toArray, List.getElem_cons_succ, List.getElem_cons_zero, List.setIfInBounds_toArray, List.set_cons_zero, List.set_cons_succ]
            refine wpAnyL_take1b HM.out (i := 16) (oi := _) (v := undef) rfl (by kernel_rfl) (by kernel_rfl) (by kernel_rfl) (by kernel_rfl) (by kernel_rfl) (fun _ _ _ h => h) (Or.inr ⟨by kernel_rfl, rfl⟩) (by assumption) ?_
            simp only [Act.put, List.getElem_toArray, List.getElem_cons_succ, List.getElem_cons_zero, List.setIfInBounds_toArray, List.set_cons_zero, List.set_cons_succ]
            refine wpAnyL_take1b HM.out (i := 17) (oi := _) (v := ?_) rfl (by kernel_rfl) (by kernel_rfl) (by kernel_rfl) (by kernel_rfl) (by kernel_rfl) (fun _ _ _ h => h) (Or.inl ⟨by kernel_rfl, ?_⟩) (by assumption) ?_
            rotate_left
            · (intro w hSw; (try dsimp only at hSw); go_simp; try (with_reducible rfl))
            simp only [Act.put, List.getElem_toArray, List.getElem_cons_succ, List.getElem_cons_zero, List.setIfInBounds_toArray, List.set_cons_zero, List.set_cons_succ]
            refine wpAnyL_done (by kernel_rfl) ?_ _
            refine NoPanic.normal ?_
            simp only [Exit.then]
            go_step
            go_meet
            case rel => exact ⟨by rw [hr]; rfl, HT9.out⟩
      · refine AllReadyL.cons0 (o := _) rfl (by kernel_rfl) (fun K hK => ?_) AllReadyL.nil
        have T2 := (HTa.out.new (MV mm) 34).swap
        have HT2 := Lib.hid T2; clear HTa T2
        go_simp
        refine hK.out _ _ ?_ (fun hHeld => ?_)
        · exact HFS.out _ HT2.out.row4
        clear hK K
        refine wpAnyL_ready (rs := [3]) (by kernel_rfl) (by simp) ?_
        refine AllReadyL.cons0 (o := _) rfl (by kernel_rfl) (fun K hK => ?_) AllReadyL.nil
        refine step_append_in0 (V := MV) (by rfl) _ _ _ (by rfl) 34 ti _ 25 216 Tryd.underlying22 hti hz0 hz1 hz2 rfl (by omega) ga 0 (by rfl) HT2.out A c l (by rfl) HX.out (by rw [hgm]; exact HB.out _ _ (HT2.out.ord [2, 3, 4, 0, 1])) TMsg_size HO.out (by unfold maxLen; omega) (by omega) ?_
        intro g1 cap1 w3 T3
        refine hK.out _ _ ?_ (fun hHeld => ?_)
        · exact HFS.out _ T3.row4
        clear hK K HT2
        refine wpAnyL_ready (rs := [6]) (by kernel_rfl) (by simp) ?_
        refine AllReadyL.cons0 (o := _) rfl (by kernel_rfl) (fun K hK => ?_) AllReadyL.nil
        refine step_append_vec (by rfl) _ _ _ (by rfl) 34 ti _ 25 216 Tryd.underlying22 hti hz0 hz1 hz2 rfl (by omega) (.slice (some ⟨g1, 0, none⟩) l.length cap1) l.length (vl MV l) (by rfl) T3 ⟨wa.heap.size, 0, none⟩ 1 1 (MV mm).toList (by rfl) (by rfl) (news_row T3.row1) HO1.out (by omega) (by unfold maxLen; omega) (by omega) ?_
        intro g2 cap2 w6 T6
        rw [← vl_snoc] at T6
        refine hK.out _ _ ?_ (fun hHeld => ?_)
        · exact HFS.out _ T6.row4
        clear hK K
        refine wpAnyL_ready (rs := [7]) (by kernel_rfl) (by simp) ?_
        refine AllReadyL.cons1 (o := _) rfl (by kernel_rfl) (fun K hK => ?_) AllReadyL.nil
        have hgc := greatOwn n (l ++ [mm]) HFL.out (by simp) (by simp; omega) T6
        have HGC := Lib.hid hgc; clear hgc T6 T3
        generalize greatV n (l ++ [mm]) = gv at *
        go_simp
        refine HGC.out.mono ?_
        clear HGC
        rintro e w7 ⟨rfl, T7⟩
        refine hK.out _ _ ?_ (fun hHeld => ?_)
        · exact HFS.out _ T7.row4
        clear hK K
        have HT9 := Lib.hid (show Sts W (fun k => k = 0) w7 (kndR t :: rowR g8 #[.bool false] :: rowR gm (MV mm) :: []) from T7.drop.drop)
        have rm := T7.row4; have cm := row_cell rm 0
        clear T7
        refine wpAnyL_take1b HM.out (i := 8) (oi := _) (v := ?_) rfl (by kernel_rfl) (by kernel_rfl) (by kernel_rfl) (by kernel_rfl) (by kernel_rfl) (fun _ _ _ h => h) (Or.inl ⟨by kernel_rfl, ?_⟩) (by assumption) ?_
        rotate_left
        · (intro w hSw; (try dsimp only at hSw); go_simp; try (with_reducible rfl))
        simp only [Act.put, List.getElem_toArray, List.getElem_cons_succ, List.getElem_cons_zero, List.setIfInBounds_toArray, List.set_cons_zero, List.set_cons_succ]
        cases gv
        case false =>
          refine wpAnyL_take1b HM.out (i := 9) (oi := _) (v := undef) rfl (by kernel_rfl) (by kernel_rfl) (by kernel_rfl) (by kernel_rfl) (by kernel_rfl) (fun _ _ _ h => h) (Or.inr ⟨by kernel_rfl, rfl⟩) (by assumption) ?_
          simp only [Act.put, List.getElem_toArray, List.getElem_cons_succ, List.getElem_cons_zero, List.setIfInBounds_toArray, List.set_cons_zero, List.set_cons_succ]
          refine wpAnyL_take1b HM.out (i := 10) (oi := _) (v := undef) rfl (by kernel_rfl) (by kernel_rfl) (by kernel_rfl) (by kernel_rfl) (by kernel_rfl) (fun _ _ _ h => h) (Or.inr ⟨by kernel_rfl, rfl⟩) (by assumption) ?_
          simp only [Act.put, List.getElem_toArray, List.getElem_cons_succ, List.getElem_cons_zero, List.setIfInBounds_toArray, List.set_cons_zero, List.set_cons_succ]
          refine wpAnyL_take1b HM.out (i := 11) (oi := _) (v := undef) rfl (by kernel_rfl) (by kernel_rfl) (by kernel_rfl) (by kernel_rfl) (by kernel_rfl) (fun _ _ _ h => h) (Or.inr ⟨by kernel_rfl, rfl⟩) (by assumption) ?_
          simp only [Act.put, List.getElem_toArray, List.getElem_cons_succ, List.getElem_cons_zero, List.setIfInBounds_toArray, List.set_cons_zero, List.set_cons_succ]
          refine wpAnyL_take1b HM.out (i := 12) (oi := _) (v := ?_) rfl (by kernel_rfl) (by kernel_rfl) (by kernel_rfl) (by kernel_rfl) (by kernel_rfl) (fun _ _ _ h => h) (Or.inl ⟨by kernel_rfl, ?_⟩) (by assumption) ?_
          rotate_left
          · (intro w hSw; (try dsimp only at hSw); go_simp; try (with_reducible rfl))
          simp only [Act.put, List.getElem_toArray, List.getElem_cons_succ, List.getElem_cons_zero, List.setIfInBounds_toArray, List.set_cons_zero, List.set_cons_succ]
          refine wpAnyL_take1b HM.out (i := 13) (oi := _) (v := ?_) rfl (by kernel_rfl) (by kernel_rfl) (by kernel_rfl) (by kernel_rfl) (by kernel_rfl) (fun _ _ _ h => h) (Or.inl ⟨by kernel_rfl, ?_⟩) (by assumption) ?_
          rotate_left
          · (intro w hSw; (try dsimp only at hSw); go_simp; try (with_reducible rfl))
          simp only [Act.put, List.getElem_toArray, List.getElem_cons_succ, List.getElem_cons_zero, List.setIfInBounds_toArray, List.set_cons_zero, List.set_cons_succ]
          refine wpAnyL_take1b HM.out (i := 14) (oi := _) (v := ?_) rfl (by kernel_rfl) (by kernel_rfl) (by kernel_rfl) (by kernel_rfl) (by kernel_rfl) (fun _ _ _ h => h) (Or.inl ⟨by kernel_rfl, ?_⟩) (by assumption) ?_
          rotate_left
          · (intro w hSw; (try dsimp only at hSw); go_simp; try (with_reducible rfl))
          simp only [Act.put, List.getElem_toArray, List.getElem_cons_succ, List.getElem_cons_zero, List.setIfInBounds_toArray, List.set_cons_zero, List.set_cons_succ]
          refine wpAnyL_take1b HM.out (i := 15) (oi := _) (v := ?_) rfl (by kernel_rfl) (by kernel_rfl) (by kernel_rfl) (by kernel_rfl) (by kernel_rfl) (fun _ _ _ h => h) (Or.inl ⟨by kernel_rfl, ?_⟩) (by assumption) ?_
          rotate_left
          · (intro w hSw; (try dsimp only at hSw); go_simp; try (with_reducible rfl))
          simp only [Act.put, List.getElem_toArray, List.getElem_cons_succ, List.getElem_cons_zero, List.setIfInBounds_toArray, List.set_cons_zero, List.set_cons_succ]
          refine wpAnyL_take1b HM.out (i := 16) (oi := _) (v := ?_) rfl (by kernel_rfl) (by kernel_rfl) (by kernel_rfl) (by kernel_rfl) (by kernel_rfl) (fun _ _ _ h => h) (Or.inl ⟨by kernel_rfl, ?_⟩) (by assumption) ?_
          rotate_left
          · (intro w hSw; (try dsimp only at hSw); go_simp; try (with_reducible rfl))
          simp only [Act.put, List.getElem_toArray, List.getElem_cons_succ, List.getElem_cons_zero, List.setIfInBounds_toArray, List.set_cons_zero, List.set_cons_succ]
          refine wpAnyL_take1b HM.out (i := 17) (oi := _) (v := ?_) rfl (by kernel_rfl) (by kernel_rfl) (by kernel_rfl) (by kernel_rfl) (by kernel_rfl) (fun _ _ _ h => h) (Or.inl ⟨by kernel_rfl, ?_⟩) (by assumption) ?_
          rotate_left
          · (intro w hSw; (try dsimp only at hSw); go_simp; try (with_reducible rfl))
          simp only [Act.put, List.getElem_toArray, List.getElem_cons_succ, List.getElem_cons_zero, List.setIfInBounds_toArray, List.set_cons_zero, List.set_cons_succ]
          refine wpAnyL_done (by kernel_rfl) ?_ _
          refine NoPanic.normal ?_
          simp only [Exit.then]
          go_step
          go_meet
          case rel => exact ⟨by rw [hr]; rfl, HT9.out⟩
        case true =>
          refine wpAnyL_take1b HM.out (i := 9) (oi := _) (v := ?_) rfl (by kernel_rfl) (by kernel_rfl) (by kernel_rfl) (by kernel_rfl) (by kernel_rfl) (fun _ _ _ h => h) (Or.inl ⟨by kernel_rfl, ?_⟩) (by assumption) ?_
          rotate_left
          · (intro w hSw; (try dsimp only at hSw); go_simp; try (with_reducible rfl))
          simp only [Act.put, List.getElem_toArray, List.getElem_cons_succ, List.getElem_cons_zero, List.setIfInBounds_toArray, List.set_cons_zero, List.set_cons_succ]
          refine wpAnyL_take1b HM.out (i := 10) (oi := _) (v := ?_) rfl (by kernel_rfl) (by kernel_rfl) (by kernel_rfl) (by kernel_rfl) (by kernel_rfl) (fun _ _ _ h => h) (Or.inl ⟨by kernel_rfl, ?_⟩) (by assumption) ?_
          rotate_left
          · (intro w hSw; (try dsimp only at hSw); go_simp; try (with_reducible rfl))
          simp only [Act.put, List.getElem_toArray, List.getElem_cons_succ, List.getElem_cons_zero, List.setIfInBounds_toArray, List.set_cons_zero, List.set_cons_succ]
          refine wpAnyL_take1b HM.out (i := 11) (oi := _) (v := ?_) rfl (by kernel_rfl) (by kernel_rfl) (by kernel_rfl) (by kernel_rfl) (by kernel_rfl) (fun _ _ _ h => h) (Or.inl ⟨by kernel_rfl, ?_⟩) (by assumption) ?_
          rotate_left
          · (intro w hSw; (try dsimp only at hSw); go_simp; try (with_reducible rfl))
          simp only [Act.put, List.getElem_toArray, List.getElem_cons_succ, List.getElem_cons_zero, List.setIfInBounds_toArray, List.set_cons_zero, List.set_cons_succ]
          cases h80 : ((l.length : Int) != 80)
          case false =>
            rw [h80] at hr
            refine wpAnyL_take1b HM.out (i := 12) (oi := _) (v := ?_) rfl (by kernel_rfl) (by kernel_rfl) (by kernel_rfl) (by kernel_rfl) (by kernel_rfl) (fun _ _ _ h => h) (Or.inl ⟨by kernel_rfl, ?_⟩) (by assumption) ?_
            rotate_left
            · (intro w hSw; (try dsimp only at hSw); go_simp; try (with_reducible rfl))
            simp only [Act.put, List.getElem_toArray, List.getElem_cons_succ, List.getElem_cons_zero, List.setIfInBounds_toArray, List.set_cons_zero, List.set_cons_succ]
            refine wpAnyL_take1b HM.out (i := 13) (oi := _) (v := ?_) rfl (by kernel_rfl) (by kernel_rfl) (by kernel_rfl) (by kernel_rfl) (by kernel_rfl) (fun _ _ _ h => h) (Or.inl ⟨by kernel_rfl, ?_⟩) (by assumption) ?_
            rotate_left
            · (intro w hSw; (try dsimp only at hSw); go_simp; try (with_reducible rfl))
            simp only [Act.put, List.getElem_toArray, List.getElem_cons_succ, List.getElem_cons_zero, List.setIfInBounds_toArray, List.set_cons_zero, List.set_cons_succ]
            refine wpAnyL_take1b HM.out (i := 14) (oi := _) (v := ?_) rfl (by kernel_rfl) (by kernel_rfl) (by kernel_rfl) (by kernel_rfl) (by kernel_rfl) (fun _ _ _ h => h) (Or.inl ⟨by kernel_rfl, ?_⟩) (by assumption) ?_
            rotate_left
            · (intro w hSw; (try dsimp only at hSw); go_simp; try (with_reducible rfl))
            simp only [Act.put, List.getElem_toArray, List.getElem_cons_succ, List.getElem_cons_zero, List.setIfInBounds_toArray, List.set_cons_zero, List.set_cons_succ]
            refine wpAnyL_take1b HM.out (i := 15) (oi := _) (v := ?_) rfl (by kernel_rfl) (by kernel_rfl) (by kernel_rfl) (by kernel_rfl) (by kernel_rfl) (fun _ _ _ h => h) (Or.inl ⟨by kernel_rfl, ?_⟩) (by assumption) ?_
            rotate_left
            · (intro w hSw; (try dsimp only at hSw); go_simp; try (with_reducible rfl))
            simp only [Act.put, List.getElem_toArray, List.getElem_cons_succ, List.getElem_cons_zero, List.setIfInBounds_toArray, List.set_cons_zero, List.set_cons_succ]
            refine wpAnyL_take1b HM.out (i := 16) (oi := _) (v := ?_) rfl (by kernel_rfl) (by kernel_rfl) (by kernel_rfl) (by kernel_rfl) (by kernel_rfl) (fun _ _ _ h => h) (Or.inl ⟨by kernel_rfl, ?_⟩) (by assumption) ?_
            rotate_left
            · (intro w hSw; (try dsimp only at hSw); go_simp; try (with_reducible rfl))
            simp only [Act.put, List.getElem_toArray, List.getElem_cons_succ, List.getElem_cons_zero, List.setIfInBounds_toArray, List.set_cons_zero, List.set_cons_succ]
            refine wpAnyL_take1b HM.out (i := 17) (oi := _) (v := ?_) rfl (by kernel_rfl) (by kernel_rfl) (by kernel_rfl) (by kernel_rfl) (by kernel_rfl) (fun _ _ _ h => h) (Or.inl ⟨by kernel_rfl, ?_⟩) (by assumption) ?_
            rotate_left
            · (intro w hSw; (try dsimp only at hSw); go_simp; try (with_reducible rfl))
            simp only [Act.put, List.getElem_toArray, List.getElem_cons_succ, List.getElem_cons_zero, List.setIfInBounds_toArray, List.set_cons_zero, List.set_cons_succ]
            refine wpAnyL_done (by kernel_rfl) ?_ _
            refine NoPanic.normal ?_
            simp only [Exit.then]
            go_step
            go_meet
            case rel => exact ⟨by rw [hr]; rfl, HT9.out⟩
          case true =>
            rw [h80] at hr
            refine wpAnyL_take1b HM.out (i := 12) (oi := _) (v := ?_) rfl (by kernel_rfl) (by kernel_rfl) (by kernel_rfl) (by kernel_rfl) (by kernel_rfl) (fun _ _ _ h => h) (Or.inl ⟨by kernel_rfl, ?_⟩) (by assumption) ?_
            rotate_left
            · (intro w hSw; (try dsimp only at hSw); go_simp; try (with_reducible rfl))
            simp only [Act.put, List.getElem_toArray, List.getElem_cons_succ, List.getElem_cons_zero, List.setIfInBounds_toArray, List.set_cons_zero, List.set_cons_succ]
            refine wpAnyL_take1b HM.out (i := 13) (oi := _) (v := ?_) rfl (by kernel_rfl) (by kernel_rfl) (by kernel_rfl) (by kernel_rfl) (by kernel_rfl) (fun _ _ _ h => h) (Or.inl ⟨by kernel_rfl, ?_⟩) (by assumption) ?_
            rotate_left
            · (intro w hSw; (try dsimp only at hSw); go_simp; try (with_reducible rfl))
            simp only [Act.put, List.getElem_toArray, List.getElem_cons_succ, List.getElem_cons_zero, List.setIfInBounds_toArray, List.set_cons_zero, List.set_cons_succ]
            refine wpAnyL_take1b HM.out (i := 14) (oi := _) (v := undef) rfl (by kernel_rfl) (by kernel_rfl) (by kernel_rfl) (by kernel_rfl) (by kernel_rfl) (fun _ _ _ h => h) (Or.inr ⟨by kernel_rfl, rfl⟩) (by assumption) ?_
            simp only [Act.put, List.getElem_toArray, List.getElem_cons_succ, List.getElem_cons_zero, List.setIfInBounds_toArray, List.set_cons_zero, List.set_cons_succ]
            refine wpAnyL_take1b HM.out (i := 15) (oi := _) (v := undef) rfl (by kernel_rfl) (by kernel_rfl) (by kernel_rfl) (by kernel_rfl) (by kernel_rfl) (fun _ _ _ h => h) (Or.inr ⟨by kernel_rfl, rfl⟩) (by assumption) ?_
            simp only [Act.put, List.getElem_toArray, List.getElem_cons_succ, List.getElem_cons_zero, List.setIfInBounds_toArray, List.set_cons_zero, List.set_cons_succ]
            refine wpAnyL_take1b HM.out (i := 16) (oi := _) (v := undef) rfl (by kernel_rfl) (by kernel_rfl) (by kernel_rfl) (by kernel_rfl) (by kernel_rfl) (fun _ _ _ h => h) (Or.inr ⟨by kernel_rfl, rfl⟩) (by assumption) ?_
            simp only [Act.put, List.getElem_toArray, List.getElem_cons_succ, List.getElem_cons_zero, List.setIfInBounds_toArray, List.set_cons_zero, List.set_cons_succ]
            refine wpAnyL_take1b HM.out (i := 17) (oi := _) (v := ?_) rfl (by kernel_rfl) (by kernel_rfl) (by kernel_rfl) (by kernel_rfl) (by kernel_rfl) (fun _ _ _ h => h) (Or.inl ⟨by kernel_rfl, ?_⟩) (by assumption) ?_
            rotate_left
            · (intro w hSw; (try dsimp only at hSw); go_simp; try (with_reducible rfl))
            simp only [Act.put, List.getElem_toArray, List.getElem_cons_succ, List.getElem_cons_zero, List.setIfInBounds_toArray, List.set_cons_zero, List.set_cons_succ]
            refine wpAnyL_done (by kernel_rfl) ?_ _
            refine NoPanic.normal ?_
            simp only [Exit.then]
            go_step
            go_meet
            case rel => exact ⟨by rw [hr]; rfl, HT9.out⟩
    · refine AllReadyL.cons0 (o := _) rfl (by kernel_rfl) (fun K hK => ?_) AllReadyL.nil
      have T2 := HT0.out.new (MV mm) 34
      have HT2 := Lib.hid T2; clear HT0 T2
      go_simp
      refine hK.out _ _ ?_ (fun hHeld => ?_)
      · exact HFS.out _ HT2.out.row3
      clear hK K
      generalize hwa : wd.alloc _ = wa at *
      generalize hga : wd.heap.size = ga at *
      clear hwa hga
      refine wpAnyL_ready (rs := [1]) (by kernel_rfl) (by simp) ?_
      refine AllReadyL.cons0 (o := _) rfl (by kernel_rfl) (fun K hK => ?_) AllReadyL.nil
      have Ta := HT2.out.vecNew #[] 34 25 0 rfl (by unfold maxLen; omega)
      have HTa := Lib.hid Ta; clear Ta HT2
      go_simp
      refine hK.out _ _ ?_ (fun hHeld => ?_)
      · exact HFS.out _ HTa.out.row4
      clear hK K
      refine wpAnyL_ready (rs := [3]) (by kernel_rfl) (by simp) ?_
      refine AllReadyL.cons0 (o := _) rfl (by kernel_rfl) (fun K hK => ?_) AllReadyL.nil
      refine step_append_in0 (V := MV) (by rfl) _ _ _ (by rfl) 34 ti _ 25 216 Tryd.underlying22 hti hz0 hz1 hz2 rfl (by omega) wa.heap.size 0 (by rfl) HTa.out A c l (by rfl) HX.out (by rw [hgm]; exact HB.out _ _ (HTa.out.ord [2, 3, 4, 0, 1])) TMsg_size HO.out (by unfold maxLen; omega) (by omega) ?_
      intro g1 cap1 w3 T3
      refine hK.out _ _ ?_ (fun hHeld => ?_)
      · exact HFS.out _ T3.row4
      clear hK K HTa
      refine wpAnyL_ready (rs := [6]) (by kernel_rfl) (by simp) ?_
      refine AllReadyL.cons0 (o := _) rfl (by kernel_rfl) (fun K hK => ?_) AllReadyL.nil
      refine step_append_vec (by rfl) _ _ _ (by rfl) 34 ti _ 25 216 Tryd.underlying22 hti hz0 hz1 hz2 rfl (by omega) (.slice (some ⟨g1, 0, none⟩) l.length cap1) l.length (vl MV l) (by rfl) T3 ⟨ga, 0, none⟩ 1 1 (MV mm).toList (by rfl) (by rfl) (news_row T3.row1) HO1.out (by omega) (by unfold maxLen; omega) (by omega) ?_
      intro g2 cap2 w6 T6
      rw [← vl_snoc] at T6
      refine hK.out _ _ ?_ (fun hHeld => ?_)
      · exact HFS.out _ T6.row4
      clear hK K
      refine wpAnyL_ready (rs := [7]) (by kernel_rfl) (by simp) ?_
      refine AllReadyL.cons1 (o := _) rfl (by kernel_rfl) (fun K hK => ?_) AllReadyL.nil
      have hgc := greatOwn n (l ++ [mm]) HFL.out (by simp) (by simp; omega) T6
      have HGC := Lib.hid hgc; clear hgc T6 T3
      generalize greatV n (l ++ [mm]) = gv at *
      go_simp
      refine HGC.out.mono ?_
      clear HGC
      rintro e w7 ⟨rfl, T7⟩
      refine hK.out _ _ ?_ (fun hHeld => ?_)
      · exact HFS.out _ T7.row4
      clear hK K
      have HT9 := Lib.hid (show Sts W (fun k => k = 0) w7 (kndR t :: rowR g8 #[.bool false] :: rowR gm (MV mm) :: []) from T7.drop.drop)
      have rm := T7.row4; have cm := row_cell rm 0
      clear T7
      refine wpAnyL_take1b HM.out (i := 8) (oi := _) (v := ?_) rfl (by kernel_rfl) (by kernel_rfl) (by kernel_rfl) (by kernel_rfl) (by kernel_rfl) (fun _ _ _ h => h) (Or.inl ⟨by kernel_rfl, ?_⟩) (by assumption) ?_
      rotate_left
      · (intro w hSw; (try dsimp only at hSw); go_simp; try (with_reducible rfl))
      simp only [Act.put, List.getElem_toArray, List.getElem_cons_succ, List.getElem_cons_zero, List.setIfInBounds_toArray, List.set_cons_zero, List.set_cons_succ]
      cases gv
      case false =>
        refine wpAnyL_take1b HM.out (i := 9) (oi := _) (v := undef) rfl (by kernel_rfl) (by kernel_rfl) (by kernel_rfl) (by kernel_rfl) (by kernel_rfl) (fun _ _ _ h => h) (Or.inr ⟨by kernel_rfl, rfl⟩) (by assumption) ?_
        simp only [Act.put, List.getElem_toArray, List.getElem_cons_succ, List.getElem_cons_zero, List.setIfInBounds_toArray, List.set_cons_zero, List.set_cons_succ]
        refine wpAnyL_take1b HM.out (i := 10) (oi := _) (v := undef) rfl (by kernel_rfl) (by kernel_rfl) (by kernel_rfl) (by kernel_rfl) (by kernel_rfl) (fun _ _ _ h => h) (Or.inr ⟨by kernel_rfl, rfl⟩) (by assumption) ?_
        simp only [Act.put, List.getElem_toArray, List.getElem_cons_succ, List.getElem_cons_zero, List.setIfInBounds_toArray, List.set_cons_zero, List.set_cons_succ]
        refine wpAnyL_take1b HM.out (i := 11) (oi := _) (v := undef) rfl (by kernel_rfl) (by kernel_rfl) (by kernel_rfl) (by kernel_rfl) (by kernel_rfl) (fun _ _ _ h => h) (Or.inr ⟨by kernel_rfl, rfl⟩) (by assumption) ?_
        simp only [Act.put, List.getElem_toArray, List.getElem_cons_succ, List.getElem_cons_zero, List.setIfInBounds_toArray, List.set_cons_zero, List.set_cons_succ]
        refine wpAnyL_take1b HM.out (i := 12) (oi := _) (v := ?_) rfl (by kernel_rfl) (by kernel_rfl) (by kernel_rfl) (by kernel_rfl) (by kernel_rfl) (fun _ _ _ h => h) (Or.inl ⟨by kernel_rfl, ?_⟩) (by assumption) ?_
        rotate_left
        · (intro w hSw; (try dsimp only at hSw); go_simp; try (with_reducible rfl))
        simp only [Act.put, List.getElem_toArray, List.getElem_cons_succ, List.getElem_cons_zero, List.setIfInBounds_toArray, List.set_cons_zero, List.set_cons_succ]
        refine wpAnyL_take1b HM.out (i := 13) (oi := _) (v := ?_) rfl (by kernel_rfl) (by kernel_rfl) (by kernel_rfl) (by kernel_rfl) (by kernel_rfl) (fun _ _ _ h => h) (Or.inl ⟨by kernel_rfl, ?_⟩) (by assumption) ?_
        rotate_left
        · (intro w hSw; (try dsimp only at hSw); go_simp; try (with_reducible rfl))
        simp only [Act.put, List.getElem_toArray, List.getElem_cons_succ, List.getElem_cons_zero, List.setIfInBounds_toArray, List.set_cons_zero, List.set_cons_succ]
        refine wpAnyL_take1b HM.out (i := 14) (oi := _) (v := ?_) rfl (by kernel_rfl) (by kernel_rfl) (by kernel_rfl) (by kernel_rfl) (by kernel_rfl) (fun _ _ _ h => h) (Or.inl ⟨by kernel_rfl, ?_⟩) (by assumption) ?_
        rotate_left
        · (intro w hSw; (try dsimp only at hSw); go_simp; try (with_reducible rfl))
        simp only [Act.put, List.getElem_toArray, List.getElem_cons_succ, List.getElem_cons_zero, List.setIfInBounds_toArray, List.set_cons_zero, List.set_cons_succ]
        refine wpAnyL_take1b HM.out (i := 15) (oi := _) (v := ?_) rfl (by kernel_rfl) (by kernel_rfl) (by kernel_rfl) (by kernel_rfl) (by kernel_rfl) (fun _ _ _ h => h) (Or.inl ⟨by kernel_rfl, ?_⟩) (by assumption) ?_
        rotate_left
        · (intro w hSw; (try dsimp only at hSw); go_simp; try (with_reducible rfl))
        simp only [Act.put, List.getElem_toArray, List.getElem_cons_succ, List.getElem_cons_zero, List.setIfInBounds_toArray, List.set_cons_zero, List.set_cons_succ]
        refine wpAnyL_take1b HM.out (i := 16) (oi := _) (v := ?_) rfl (by kernel_rfl) (by kernel_rfl) (by kernel_rfl) (by kernel_rfl) (by kernel_rfl) (fun _ _ _ h => h) (Or.inl ⟨by kernel_rfl, ?_⟩) (by assumption) ?_
        rotate_left
        · (intro w hSw; (try dsimp only at hSw); go_simp; try (with_reducible rfl))
        simp only [Act.put, List.getElem_toArray, List.getElem_cons_succ, List.getElem_cons_zero, List.setIfInBounds_toArray, List.set_cons_zero, List.set_cons_succ]
        refine wpAnyL_take1b HM.out (i := 17) (oi := _) (v := ?_) rfl (by kernel_rfl) (by kernel_rfl) (by kernel_rfl) (by kernel_rfl) (by kernel_rfl) (fun _ _ _ h => h) (Or.inl ⟨by kernel_rfl, ?_⟩) (by assumption) ?_
        rotate_left
        · (intro w hSw; (try dsimp only at hSw); go_simp; try (with_reducible rfl))
        simp only [Act.put, List.getElem_toArray, List.getElem_cons_succ, List.getElem_cons_zero, List.setIfInBounds_toArray, List.set_cons_zero, List.set_cons_succ]
        refine wpAnyL_done (by kernel_rfl) ?_ _
        refine NoPanic.normal ?_
        simp only [Exit.then]
        go_step
        go_meet
        case rel => exact ⟨by rw [hr]; rfl, HT9.out⟩
      case true =>
        refine wpAnyL_take1b HM.out (i := 9) (oi := _) (v := ?_) rfl (by kernel_rfl) (by kernel_rfl) (by kernel_rfl) (by kernel_rfl) (by kernel_rfl) (fun _ _ _ h => h) (Or.inl ⟨by kernel_rfl, ?_⟩) (by assumption) ?_
        rotate_left
        · (intro w hSw; (try dsimp only at hSw); go_simp; try (with_reducible rfl))
        simp only [Act.put, List.getElem_toArray, List.getElem_cons_succ, List.getElem_cons_zero, List.setIfInBounds_toArray, List.set_cons_zero, List.set_cons_succ]
        refine wpAnyL_take1b HM.out (i := 10) (oi := _) (v := ?_) rfl (by kernel_rfl) (by kernel_rfl) (by kernel_rfl) (by kernel_rfl) (by kernel_rfl) (fun _ _ _ h => h) (Or.inl ⟨by kernel_rfl, ?_⟩) (by assumption) ?_
        rotate_left
        · (intro w hSw; (try dsimp only at hSw); go_simp; try (with_reducible rfl))
        simp only [Act.put, List.getElem_toArray, List.getElem_cons_succ, List.getElem_cons_zero, List.setIfInBounds_toArray, List.set_cons_zero, List.set_cons_succ]
        refine wpAnyL_take1b HM.out (i := 11) (oi := _) (v := ?_) rfl (by kernel_rfl) (by kernel_rfl) (by kernel_rfl) (by kernel_rfl) (by kernel_rfl) (fun _ _ _ h => h) (Or.inl ⟨by kernel_rfl, ?_⟩) (by assumption) ?_
        rotate_left
        · (intro w hSw; (try dsimp only at hSw); go_simp; try (with_reducible rfl))
        simp only [Act.put, List.getElem_toArray, List.getElem_cons_succ, List.getElem_cons_zero, List.setIfInBounds_toArray, List.set_cons_zero, List.set_cons_succ]
        cases h80 : ((l.length : Int) != 80)
        case false =>
          rw [h80] at hr
          refine wpAnyL_take1b HM.out (i := 12) (oi := _) (v := ?_) rfl (by kernel_rfl) (by kernel_rfl) (by kernel_rfl) (by kernel_rfl) (by kernel_rfl) (fun _ _ _ h => h) (Or.inl ⟨by kernel_rfl, ?_⟩) (by assumption) ?_
          rotate_left
          · (intro w hSw; (try dsimp only at hSw); go_simp; try (with_reducible rfl))
          simp only [Act.put, List.getElem_toArray, List.getElem_cons_succ, List.getElem_cons_zero, List.setIfInBounds_toArray, List.set_cons_zero, List.set_cons_succ]
          refine wpAnyL_take1b HM.out (i := 13) (oi := _) (v := ?_) rfl (by kernel_rfl) (by kernel_rfl) (by kernel_rfl) (by kernel_rfl) (by kernel_rfl) (fun _ _ _ h => h) (Or.inl ⟨by kernel_rfl, ?_⟩) (by assumption) ?_
          rotate_left
          · (intro w hSw; (try dsimp only at hSw); go_simp; try (with_reducible rfl))
          simp only [Act.put, List.getElem_toArray, List.getElem_cons_succ, List.getElem_cons_zero, List.setIfInBounds_toArray, List.set_cons_zero, List.set_cons_succ]
          refine wpAnyL_take1b HM.out (i := 14) (oi := _) (v := ?_) rfl (by kernel_rfl) (by kernel_rfl) (by kernel_rfl) (by kernel_rfl) (by kernel_rfl) (fun _ _ _ h => h) (Or.inl ⟨by kernel_rfl, ?_⟩) (by assumption) ?_
          rotate_left
          · (intro w hSw; (try dsimp only at hSw); go_simp; try (with_reducible rfl))
          simp only [Act.put, List.getElem_toArray, List.getElem_cons_succ, List.getElem_cons_zero, List.setIfInBounds_toArray, List.set_cons_zero, List.set_cons_succ]
          refine wpAnyL_take1b HM.out (i := 15) (oi := _) (v := ?_) rfl (by kernel_rfl) (by kernel_rfl) (by kernel_rfl) (by kernel_rfl) (by kernel_rfl) (fun _ _ _ h => h) (Or.inl ⟨by kernel_rfl, ?_⟩) (by assumption) ?_
          rotate_left
          · (intro w hSw; (try dsimp only at hSw); go_simp; try (with_reducible rfl))
          simp only [Act.put, List.getElem_toArray, List.getElem_cons_succ, List.getElem_cons_zero, List.setIfInBounds_toArray, List.set_cons_zero, List.set_cons_succ]
          refine wpAnyL_take1b HM.out (i := 16) (oi := _) (v := ?_) rfl (by kernel_rfl) (by kernel_rfl) (by kernel_rfl) (by kernel_rfl) (by kernel_rfl) (fun _ _ _ h => h) (Or.inl ⟨by kernel_rfl, ?_⟩) (by assumption) ?_
          rotate_left
          · (intro w hSw; (try dsimp only at hSw); go_simp; try (with_reducible rfl))
          simp only [Act.put, List.getElem_toArray, List.getElem_cons_succ, List.getElem_cons_zero, List.setIfInBounds_toArray, List.set_cons_zero, List.set_cons_succ]
          refine wpAnyL_take1b HM.out (i := 17) (oi := _) (v := ?_) rfl (by kernel_rfl) (by kernel_rfl) (by kernel_rfl) (by kernel_rfl) (by kernel_rfl) (fun _ _ _ h => h) (Or.inl ⟨by kernel_rfl, ?_⟩) (by assumption) ?_
          rotate_left
          · (intro w hSw; (try dsimp only at hSw); go_simp; try (with_reducible rfl))
          simp only [Act.put, List.getElem_toArray, List.getElem_cons_succ, List.getElem_cons_zero, List.setIfInBounds_toArray, List.set_cons_zero, List.set_cons_succ]
          refine wpAnyL_done (by kernel_rfl) ?_ _
          refine NoPanic.normal ?_
          simp only [Exit.then]
          go_step
          go_meet
          case rel => exact ⟨by rw [hr]; rfl, HT9.out⟩
        case true =>
          rw [h80] at hr
          refine wpAnyL_take1b HM.out (i := 12) (oi := _) (v := ?_) rfl (by kernel_rfl) (by kernel_rfl) (by kernel_rfl) (by kernel_rfl) (by kernel_rfl) (fun _ _ _ h => h) (Or.inl ⟨by kernel_rfl, ?_⟩) (by assumption) ?_
          rotate_left
          · (intro w hSw; (try dsimp only at hSw); go_simp; try (with_reducible rfl))
          simp only [Act.put, List.getElem_toArray, List.getElem_cons_succ, List.getElem_cons_zero, List.setIfInBounds_toArray, List.set_cons_zero, List.set_cons_succ]
          refine wpAnyL_take1b HM.out (i := 13) (oi := _) (v := ?_) rfl (by kernel_rfl) (by kernel_rfl) (by kernel_rfl) (by kernel_rfl) (by kernel_rfl) (fun _ _ _ h => h) (Or.inl ⟨by kernel_rfl, ?_⟩) (by assumption) ?_
          rotate_left
          · (intro w hSw; (try dsimp only at hSw); go_simp; try (with_reducible rfl))
          simp only [Act.put, List.getElem_toArray, List.getElem_cons_succ, List.getElem_cons_zero, List.setIfInBounds_toArray, List.set_cons_zero, List.set_cons_succ]
          refine wpAnyL_take1b HM.out (i := 14) (oi := _) (v := undef) rfl (by kernel_rfl) (by kernel_rfl) (by kernel_rfl) (by kernel_rfl) (by kernel_rfl) (fun _ _ _ h => h) (Or.inr ⟨by kernel_rfl, rfl⟩) (by assumption) ?_
          simp only [Act.put, List.getElem_toArray, List.getElem_cons_succ, List.getElem_cons_zero, List.setIfInBounds_toArray, List.set_cons_zero, List.set_cons_succ]
          refine wpAnyL_take1b HM.out (i := 15) (oi := _) (v := undef) rfl (by kernel_rfl) (by kernel_rfl) (by kernel_rfl) (by kernel_rfl) (by kernel_rfl) (fun _ _ _ h => h) (Or.inr ⟨by kernel_rfl, rfl⟩) (by assumption) ?_
          simp only [Act.put, List.getElem_toArray, List.getElem_cons_succ, List.getElem_cons_zero, List.setIfInBounds_toArray, List.set_cons_zero, List.set_cons_succ]
          refine wpAnyL_take1b HM.out (i := 16) (oi := _) (v := undef) rfl (by kernel_rfl) (by kernel_rfl) (by kernel_rfl) (by kernel_rfl) (by kernel_rfl) (fun _ _ _ h => h) (Or.inr ⟨by kernel_rfl, rfl⟩) (by assumption) ?_
          simp only [Act.put, List.getElem_toArray, List.getElem_cons_succ, List.getElem_cons_zero, List.setIfInBounds_toArray, List.set_cons_zero, List.set_cons_succ]
          refine wpAnyL_take1b HM.out (i := 17) (oi := _) (v := ?_) rfl (by kernel_rfl) (by kernel_rfl) (by kernel_rfl) (by kernel_rfl) (by kernel_rfl) (fun _ _ _ h => h) (Or.inl ⟨by kernel_rfl, ?_⟩) (by assumption) ?_
          rotate_left
          · (intro w hSw; (try dsimp only at hSw); go_simp; try (with_reducible rfl))
          simp only [Act.put, List.getElem_toArray, List.getElem_cons_succ, List.getElem_cons_zero, List.setIfInBounds_toArray, List.set_cons_zero, List.set_cons_succ]
          refine wpAnyL_done (by kernel_rfl) ?_ _
          refine NoPanic.normal ?_
          simp only [Exit.then]
          go_step
          go_meet
          case rel => exact ⟨by rw [hr]; rfl, HT9.out⟩
    -- }FIRST
  case rest =>
    obtain ⟨rfl, T⟩ := hcut
    have HT := Lib.hid T; clear T
    cases r
    case true =>
      have T1 := HT.out.ord [1, 0, 2]
      clear HT hr
      have r8 := T1.row; have l8 := row_lt r8; have c8 := row_cell r8 0; have f8 := row_frozen r8 0
      have T2 := T1.setCell 0 (.bool true)
      have HT2 := Lib.hid T2; clear T2
      go_wp2
      refine retM0 (results_cellV rfl rfl (row_cell HT2.out.row 0) Tryd.underlying4 rfl) ⟨rfl, ?_⟩ rfl
      have T9 := HT2.out.drop
      first | (rw [hgm]; exact HB.out _ _ T9) | exact HB.out _ _ T9
    case false =>
      obtain ⟨h80, hkd⟩ : l.length ≤ 80 ∧ mm.kind = 1 := by
        have hr' := hr.symm
        rw [Bool.or_eq_false_iff, Bool.and_eq_false_iff] at hr'
        obtain ⟨h1, h2⟩ := hr'
        refine ⟨?_, by simpa using h2⟩
        rcases h1 with h1 | h1
        · have := (great_V h1).2
          rw [List.length_append, List.length_singleton] at this
          omega
        · have : (l.length : Int) = 80 := by simpa using h1
          omega
      clear hr
      go_wp2_with fail
      refine (newT HT.out).mono ?_
      clear HT
      rintro e w3 ⟨rfl, T⟩
      generalize wc.heap.size = p at *
      cases hs : sizeB n
      case false =>
        have HB2 := Lib.hid (Ans.at (spBad p n hs) T); clear T
        go_wp2_with fail
        refine HB2.out.mono ?_
        clear HB2
        rintro e w4 ⟨rfl, T⟩
        have T1 := (T.drop).ord [1, 0, 2]
        clear T
        have r8 := T1.row; have l8 := row_lt r8; have c8 := row_cell r8 0; have f8 := row_frozen r8 0
        have T2 := T1.setCell 0 (.bool true)
        have HT2 := Lib.hid T2; clear T2
        go_wp2
        refine retM0 (results_cellV rfl rfl (row_cell HT2.out.row 0) Tryd.underlying4 rfl) ⟨rfl, ?_⟩ rfl
        have T9 := HT2.out.drop
        first | (rw [hgm]; exact HB.out _ _ T9) | exact HB.out _ _ T9
      case true =>
        have HO := Lib.hid (spOpenT T (by simp) n hs); clear T
        go_wp2_with fail
        refine HO.out.mono ?_
        clear HO
        rintro e w4 ⟨s, lg, g, bk, bs, rfl, T⟩
        have hv := VotI.open hs
        generalize idxF (ents (mK n (goT n []))) = I0 at *
        generalize mK n (goT n []) = m0 at *
        generalize openD n [] = D0 at *
        generalize openF n [] 0 = f0 at *
        have T : Sts W (fun k => k = 0) w4 (spL s lg p g bk bs I0 D0 f0 m0 ++ kndR t :: [rowR g8 #[.bool false], rowR gm (MV mm)]) := T
        have HT := Lib.hid T; have HV := Lib.hid hv; clear T hv
        go_wp2_with fail
        go_loopw [49] (fun i wr => ∃ (j : Nat) (I : Idx) (D : List UInt8) (safe : Nat) (m : RowsM), j ≤ l.length ∧ i = .int .i64 j ∧ VotI n j I D m ∧ Sts W (fun k => k = 0) wr (spL s lg p g bk bs I D safe m ++ kndR t :: [rowR g8 #[.bool false], rowR gm (MV mm)])) (fun i _ => l.length - (intOf i).toNat)
        case atStart => exact ⟨0, I0, D0, f0, m0, by omega, rfl, HV.out, HT.out⟩
        case round =>
          clear HT HV
          obtain ⟨j, I, D, safe, m, hj0, rfl, hI, T⟩ := hrel
          by_cases hjl : j < l.length
          · cases A with
            | none => have := HX.out.nil rfl; subst this; simp at hjl
            | some a =>
              have TK : Sts W (fun k => k = 0) wr (kndR t :: [rowR g8 #[.bool false], rowR gm (MV mm)]) := T.drop.drop.drop.drop
              have hld := HX.out.load (P := Tryd.prog) (T := 34) TMsg_size TMsg_und rfl (by kernel_rfl) (by rw [hgm]; exact HB.out _ _ TK) rfl hjl
              clear TK
              generalize l[j] = x at *
              have T1 : Sts W (fun k => k = 0) wr (idxR s lg bk bs I :: rowR lg (ledCells p g m.n) :: plR p D safe :: rowsIR g m :: kndR t :: [rowR g8 #[.bool false], rowR gm (MV mm)]) := T
              have T2 := (T1.new (MV x) 34).ord [1, 2, 3, 4, 5, 0, 6, 7]
              have T3 : Sts W (fun k => k = 0) _ (spL s lg p g bk bs I D safe m ++ kndR t :: [rowR wr.heap.size (MV x), rowR g8 #[.bool false], rowR gm (MV mm)]) := T2
              have HVA := Lib.hid (vans hI (by omega) self x T3)
              clear T T1 T2 T3 hI
              generalize hgx : wr.heap.size = gx at *
              generalize ansM m self x = q at *
              obtain ⟨out, ok, now⟩ := q
              go_wp2_with fail
              refine HVA.out.mono ?_
              clear HVA
              rintro e w5 ⟨rfl, I2, D2, safe2, hI2, T⟩
              dsimp only at hI2 T
              have hI3 := hI2.up (j := j + 1) (by have := growV_le m x.item now; omega)
              generalize nowR m x.item now = m2 at *
              have T1 : Sts W (fun k => k = 0) w5 (idxR s lg bk bs I2 :: rowR lg (ledCells p g m2.n) :: plR p D2 safe2 :: rowsIR g m2 :: kndR t :: rowR gx (MV x) :: rowR g8 #[.bool false] :: rowR gm (MV mm) :: []) := T
              have T8 := (T1.ord [5, 0, 1, 2, 3, 4, 6, 7]).drop
              have T9 : Sts W (fun k => k = 0) w5 (spL s lg p g bk bs I2 D2 safe2 m2 ++ kndR t :: [rowR g8 #[.bool false], rowR gm (MV mm)]) := T8
              have HT9 := Lib.hid T9; have HI3 := Lib.hid hI3
              clear T T1 T8 T9 hI2 hI3
              go_wp2
              go_roundw
              case rel => exact ⟨j + 1, I2, D2, safe2, m2, by omega, by go_num, HI3.out, HT9.out⟩
              case measure => simp [intOf]; omega
          · obtain rfl : j = l.length := by omega
            have T1 : Sts W (fun k => k = 0) wr (idxR s lg bk bs I :: rowR lg (ledCells p g m.n) :: plR p D safe :: rowsIR g m :: kndR t :: [rowR g8 #[.bool false], rowR gm (MV mm)]) := T
            have rm := (T1.ord [6, 0, 1, 2, 3, 4, 5]).row; have lm := row_lt rm; have cm := row_cell rm
            have HAT := Lib.hid (spAtV hI.sp.ok mm.item T); have HI := Lib.hid hI
            clear T T1 hI
            go_wp2_with fail
            refine HAT.out.mono ?_
            clear HAT rm lm cm
            rintro e w5 ⟨rfl, T⟩
            have hpre := fun a b c => pre_new (m := m) (self := self) (x := mm) hkd a b c
            have hat2 := at_after (m := m) (self := self) (x := mm)
            have hcl := fun (y : Item) (i : Inst) (hy : (y, i) ∈ ents (afterM m self mm)) => ways_clash HI.out.sp.ok (self := self) (x := mm) (y := y) (i := i) hy
            obtain ⟨hq1, hq2, hq3⟩ := ways_asked mm.call (wayK m mm.call.deed mm.item)
            unfold afterM at hat2 hcl
            have hmn := HI.out.sp.mn
            generalize hwas : atM m mm.item = was at *
            have T1 : Sts W (fun k => k = 0) w5 (idxR s lg bk bs I :: rowR lg (ledCells p g m.n) :: plR p D safe :: rowsIR g m :: kndR t :: rowR g8 #[.bool false] :: rowR gm (MV mm) :: []) := T
            have T2 := (T1.new (NV was) 46).ord [1, 2, 3, 4, 5, 0, 6, 7]
            have T3 : Sts W (fun k => k = 0) _ (spL s lg p g bk bs I D safe m ++ kndR t :: [rowR w5.heap.size (NV was), rowR g8 #[.bool false], rowR gm (MV mm)]) := T2
            have rm := (T2.ord [7, 0, 1, 2, 3, 4, 5, 6]).row; have lm := row_lt rm
            have HVA := Lib.hid (vans HI.out (by omega) self mm T3)
            clear T T1 T2 T3 hwas
            generalize hgy : w5.heap.size = gy at *
            generalize ansM m self mm = q at *
            obtain ⟨out, ok, now⟩ := q
            dsimp only at hpre hat2 hcl
            generalize mergeC mm.call (wayK m mm.call.deed mm.item) = C at *
            have HP := Lib.hid hpre; have HA2 := Lib.hid hat2; have HCL := Lib.hid hcl; have HQ1 := Lib.hid hq1; have HQ2 := Lib.hid hq2; have HQ3 := Lib.hid hq3
            clear hpre hat2 hcl hq1 hq2 hq3
            go_wp2_with fail
            refine HVA.out.mono ?_
            clear HVA rm lm
            rintro e w6 ⟨rfl, I2, D2, safe2, hI2, T⟩
            dsimp only at hI2 T
            have hok2 := hI2.sp.ok
            have hat3 := fun (W' : World) (R : List Res) (T : Sts W (fun k => k = 0) W' (spL s lg p g bk bs I2 D2 safe2 (nowR m mm.item now) ++ R)) => spAtV hI2.sp.ok mm.item T
            rw [HA2.out] at hat3
            have HAT := Lib.hid hat3; have HOK2 := Lib.hid hok2; have HGD2 := Lib.hid hI2.sp.good
            clear HA2 hat3 hI2 hok2
            generalize nowR m mm.item now = m2 at *
            have T1 : Sts W (fun k => k = 0) w6 (idxR s lg bk bs I2 :: rowR lg (ledCells p g m2.n) :: plR p D2 safe2 :: rowsIR g m2 :: kndR t :: rowR gy (NV was) :: rowR g8 #[.bool false] :: rowR gm (MV mm) :: []) := T
            have l8a := row_lt (T1.ord [6, 0, 1, 2, 3, 4, 5, 7]).row
            have T2 := (T1.new (MV out) 34).ord [7, 0, 6, 8, 5, 1, 2, 3, 4]
            have rz := T2.row1; have lz := row_lt rz; have cz := row_cell rz
            have ry := T2.row2; have ly := row_lt ry; have cy := row_cell ry
            have rm := T2.row3; have lm := row_lt rm; have cm := row_cell rm
            have T2 := T2.ord [0, 4, 1, 2, 3, 5, 6, 7, 8]
            have HT := Lib.hid T2
            clear T T1 T2
            generalize hgz : w6.heap.size = gz at *
            go_upto_region 15 with fail
            generalize hwa : w6.alloc _ = w6a at *
            clear hwa
            have hr5 : ∃ r5, r5 = (!ok || ((out.kind != 2) || (decide ((0 : Int) < was.status) && eqA (BV was.vote) (BV mm.bal)))) := ⟨_, rfl⟩
            obtain ⟨r5, hr5⟩ := hr5
            have HR5 := Lib.hid hr5; clear hr5
            go_cut [87] from 69 to 87 (fun u87 wx => u87 = .bool r5 ∧ wx = w6a)
            case first =>
              clear HT
              cases ok
              case false =>
                go_wp2_with fail
                go_meet
                case rel => exact ⟨by rw [HR5.out]; rfl, rfl⟩
              case true =>
                cases k2 : (out.kind != 2)
                case true =>
                  go_wp2_with fail
                  go_meet
                  case rel => exact ⟨by rw [HR5.out, k2]; rfl, rfl⟩
                case false =>
                  cases hw1 : decide ((0 : Int) < was.status)
                  case false =>
                    go_wp2_with fail
                    go_meet
                    case rel => exact ⟨by rw [HR5.out, k2, hw1]; rfl, rfl⟩
                  case true =>
                    cases hw2 : eqA (BV was.vote) (BV mm.bal)
                    case false =>
                      go_wp2_with fail
                      go_meet
                      case rel => exact ⟨by rw [HR5.out, k2, hw1, hw2]; rfl, rfl⟩
                    case true =>
                      go_wp2_with fail
                      go_meet
                      case rel => exact ⟨by rw [HR5.out, k2, hw1, hw2]; rfl, rfl⟩
            case rest =>
              obtain ⟨rfl, hwc⟩ := hcut
              rw [← hwc] at HT rz lz cz ry ly cy rm lm cm
              clear hwc
              cases r5
              case true =>
                have T1 := HT.out
                clear HT
                have r8 := T1.row; have l8 := row_lt r8; have c8 := row_cell r8 0; have f8 := row_frozen r8 0
                have T2 := T1.setCell 0 (.bool true)
                have HT2 := Lib.hid T2; clear T2
                go_wp2
                refine retM0 (results_cellV rfl rfl (row_cell HT2.out.row 0) Tryd.underlying4 rfl) ⟨rfl, ?_⟩ rfl
                have T9 := HT2.out.drop
                first | (rw [hgm]; exact HB.out _ _ T9) | exact HB.out _ _ T9
              case false =>
                obtain ⟨rfl, k2, hnv⟩ : ok = true ∧ out.kind = 2 ∧ ¬ (was.status > 0 ∧ eqA (BV was.vote) (BV mm.bal) = true) := by
                  have h5 := HR5.out.symm
                  rw [Bool.or_eq_false_iff, Bool.or_eq_false_iff] at h5
                  obtain ⟨h1, h2, h3⟩ := h5
                  refine ⟨by simpa using h1, by simpa using h2, fun ⟨h6, h7⟩ => ?_⟩
                  rw [h7, Bool.and_true, decide_eq_false_iff_not] at h3
                  exact h3 h6
                obtain ⟨hgd, hoc, hnc⟩ := HP.out rfl k2 hnv
                have HOC := Lib.hid hoc; have HNC := Lib.hid hnc; clear hoc hnc
                have hHT := HT.out
                have T8 := (hHT.ord [3, 5, 6, 7, 8, 1, 2, 0, 4]).drop
                have T3 : Sts W (fun k => k = 0) _ (spL s lg p g bk bs I2 D2 safe2 m2 ++ [kndR t, rowR gz (MV out), rowR g8 #[.bool false], rowR gm (MV mm)]) := T8
                have HALL := Lib.hid (spAllT T3)
                clear T3 T8 hHT HT HR5 hnv k2
                go_wp2_with fail
                refine HALL.out.mono ?_
                clear HALL rz lz cz ry ly cy rm lm cm
                rintro e w7 ⟨c7, rfl, T⟩
                have HT7 := Lib.hid T; clear T
                go_wp2_with fail
                refine (wpIn_wide (n := 4)).1 ?_
                refine wp_rangeSts (gf := 71) (lb := #[.pointer (some ⟨c7, 0, none⟩)]) (enc := fun x : Item × Inst => #[.agg (IV x.1), .agg (NV x.2)]) (xs := ents m2)
                  (fun k => []) (fun _ _ => [noR]) (iterIR c7 g m2 ++ (idxR s lg bk bs I2 :: rowR lg (ledCells p g m2.n) :: plR p D2 safe2 :: [kndR t, rowR gz (MV out), rowR g8 #[.bool false], rowR gm (MV mm)]))
                  (fun k x a' own' => ∃ b1 b2, own' = [rowR b2 (NV x.2), rowR b1 (IV x.1)] ∧ a' = { tmps := List.toArray ((Value.int .i64 n) :: (Value.int .i64 self) :: (Value.slice A l.length c) :: (Value.agg (MV mm)) :: undef :: undef :: undef :: (Value.pointer (some ⟨gm, 0, none⟩)) :: (Value.pointer (some ⟨g8, 0, none⟩)) :: (Value.pointer (some ⟨s, 0, none⟩)) :: (Value.int .i64 0) :: undef :: u12 :: (Value.pointer (some ⟨gy, 0, none⟩)) :: (Value.pointer (some ⟨gz, 0, none⟩)) :: (Value.bool true) :: (Value.pointer (some ⟨b1, 0, none⟩)) :: (Value.pointer (some ⟨b2, 0, none⟩)) :: undef :: (Value.bool true) :: (Value.bool false) :: u21 :: u22 :: u23 :: u24 :: u25 :: u26 :: u27 :: u28 :: u29 :: u30 :: u31 :: u32 :: u33 :: u34 :: u35 :: u36 :: u37 :: (Value.bool false) :: (Value.tuple #[.pointer (some ⟨s, 0, none⟩), .int .i64 0]) :: (Value.pointer (some ⟨p, 0, none⟩)) :: (Value.int .i64 n) :: (Value.tuple #[.pointer (some ⟨s, 0, none⟩), .int .i64 0]) :: (Value.pointer (some ⟨s, 0, none⟩)) :: (Value.int .i64 0) :: (Value.int .i64 0) :: (Value.bool false) :: (Value.slice A l.length c) :: (Value.int .i64 (l.length : Int)) :: (Value.int .i64 (l.length : Int)) :: (Value.bool false) :: u51 :: u52 :: u53 :: u54 :: u55 :: u56 :: u57 :: (Value.pointer (some ⟨s, 0, none⟩)) :: (Value.pointer (some ⟨gm, 3, none⟩)) :: (Value.agg (IV mm.item)) :: (Value.agg (NV was)) :: (Value.tuple #[.agg (MV out), .bool true]) :: (Value.pointer (some ⟨s, 0, none⟩)) :: (Value.int .i64 self) :: (Value.agg (MV mm)) :: (Value.tuple #[.agg (MV out), .bool true]) :: (Value.agg (MV out)) :: (Value.bool true) :: u69 :: u70 :: u71 :: u72 :: u73 :: u74 :: u75 :: u76 :: u77 :: u78 :: u79 :: u80 :: u81 :: u82 :: u83 :: u84 :: u85 :: u86 :: (Value.bool false) :: (Value.pointer (some ⟨s, 0, none⟩)) :: (allF c7) :: (Value.agg (IV x.1)) :: (Value.agg (NV x.2)) :: undef :: undef :: undef :: undef :: undef :: undef :: undef :: undef :: undef :: undef :: undef :: undef :: undef :: undef :: undef :: undef :: undef :: undef :: undef :: undef :: undef :: undef :: undef :: undef :: undef :: undef :: undef :: undef :: undef :: undef :: undef :: undef :: undef :: undef :: undef :: undef :: undef :: undef :: undef :: undef :: undef :: undef :: undef :: undef :: undef :: undef :: undef :: undef :: undef :: undef :: undef :: undef :: undef :: undef :: undef :: undef :: undef :: undef :: undef :: undef :: undef :: undef :: undef :: undef :: undef :: undef :: undef :: undef :: undef :: undef :: undef :: undef :: undef :: undef :: undef :: undef :: undef :: undef :: undef :: []), defers := [] })
                  rfl (enters_of Tryd.func71 (by kernel_rfl) rfl) (fun _ => rfl) (Gives.part fun H hS => irAllG c7 g m2 HOK2.out _ H hS) HT7.out ?calm ?calmX ?assign ?body ?done ?stop
                case calm => exact fun k => calmL_nil _
                case calmX => exact fun _ _ => calmL_cons (noR_calm _) (calmL_nil _)
                case assign =>
                  intro lr k x W1 G1 K hx T1 hK
                  have T2 := ((T1.new (IV x.1) 24).new (NV x.2) 46)
                  rw [World.size_alloc] at T2
                  have HT2 := Lib.hid T2
                  clear T1 T2 HT7
                  gi_wp2
                  exact hK _ _ _ ⟨_, _, rfl, rfl⟩ HT2.out
                case body =>
                  rintro lr k x _ _ W1 G1 hx ⟨b1, b2, rfl, rfl⟩ T1 hread
                  obtain ⟨F', w', TL⟩ := hread T1
                  have TL : Sts w' F' W1 (rowR b2 (NV x.2) :: rowR b1 (IV x.1) :: rowR c7 #[.pointer (some ⟨g, 0, none⟩)] :: rowsIR g m2 :: idxR s lg bk bs I2 :: rowR lg (ledCells p g m2.n) :: plR p D2 safe2 :: kndR t :: rowR gz (MV out) :: rowR g8 #[.bool false] :: rowR gm (MV mm) :: []) := TL
                  have rz := (TL.ord [8, 0, 1, 2, 3, 4, 5, 6, 7, 9, 10]).row; have lz := row_lt rz
                  have rm := (TL.ord [10, 0, 1, 2, 3, 4, 5, 6, 7, 8, 9]).row; have lm := row_lt rm
                  have r2 := T1.row; have r1 := T1.row1; have l1 := row_lt r1; have l2 := row_lt r2
                  have hmem := List.mem_of_getElem? hx
                  have hcl := HCL.out x.1 x.2 hmem
                  obtain ⟨hr0, hr7⟩ := ents_rep HOK2.out hmem
                  have HT := Lib.hid T1
                  clear TL hread T1 HT7
                  cases heq : eqA (IV x.1) (IV mm.item)
                  case true =>
                    have H6 := Lib.hid HT.out.drop.drop; clear HT
                    gi_wp2
                    refine ⟨trivial, ?_⟩
                    gi_wp2
                    exact H6.out
                  case false =>
                    have hks : x.2.call.deed.key.size ≤ 200 := by
                      have h1 := HGD2.out _ _ (ents_mem hmem)
                      have h2 := (goodN_iff.1 h1).2.2.2.1
                      have h3 := (goodC_iff.1 h2).1
                      unfold goodB at h3
                      rw [decide_eq_true_iff] at h3
                      omega
                    have hrc := rclash_any x.2.call.deed mm.call.deed (by unfold maxLen; omega) (by unfold maxLen; omega)
                    cases hclb : clashB x.2.call.deed mm.call.deed
                    case false =>
                      rw [hclb] at hrc
                      have HRC := Lib.hid hrc; clear hrc hcl
                      gi_wp2_with fail
                      refine ⟨trivial, ?_⟩
                      refine (CallsIn.inRound lr (callsIn_wide.2 (Ans.at HRC.out HT.out))).mono ?_
                      rintro e w2 ⟨rfl, T⟩
                      have H6 := Lib.hid T.drop.drop; clear T HT HRC r1 r2 rz rm
                      gi_wp2
                      exact H6.out
                    case true =>
                      rw [hclb] at hrc
                      have HRC := Lib.hid hrc; clear hrc
                      obtain ⟨hd1, hd2⟩ := hcl heq hclb
                      gi_wp2_with fail
                      refine ⟨trivial, ?_⟩
                      refine (CallsIn.inRound lr (callsIn_wide.2 (HRC.out W1))).mono ?_
                      rintro e w2 ⟨rfl, hb⟩
                      have T := HT.out.pure hb
                      have rz2 := (row_below hb lz).trans rz
                      have hdep : w2.cell? ⟨gz, 17 + x.1.rep.toNat, none⟩ = some (.int .i64 (out.call.deps x.1.rep.toNat)) := by rw [row_cell rz2]; exact TMsg_deps out x.1.rep.toNat (by omega)
                      have S0 : (fun W' : World => W'.cell? ⟨b1, 0, none⟩ = some (.int .i64 x.1.rep) ∧ W'.cell? ⟨b1, 1, none⟩ = some (.int .i64 x.1.num) ∧ W'.cell? ⟨gz, 17 + x.1.rep.toNat, none⟩ = some (.int .i64 (out.call.deps x.1.rep.toNat)) ∧ W'.cell? ⟨gz, 24, none⟩ = some (.int .i64 out.call.seq) ∧ W'.cell? ⟨b2, 18, none⟩ = some (.int .i64 x.2.call.seq)) w2.drew := ⟨row_cell T.row1 0, row_cell T.row1 1, hdep, row_cell rz2 24, row_cell T.row 18⟩
                      have H6 := Lib.hid T.drew.drop.drop
                      rw [← HOC.out] at hd1 hd2
                      have hq1 : decide (out.call.deps x.1.rep.toNat < x.1.num) = false := by rw [decide_eq_false_iff_not]; omega
                      clear T HT HRC r1 r2 rz rm rz2 hdep hcl hd1
                      have hr0' : ¬ x.1.rep < 0 := by omega
                      gi_wp2_with fail
                      refine wpIn_region_held (fun W' => W'.cell? ⟨b1, 0, none⟩ = some (.int .i64 x.1.rep) ∧ W'.cell? ⟨b1, 1, none⟩ = some (.int .i64 x.1.num) ∧ W'.cell? ⟨gz, 17 + x.1.rep.toNat, none⟩ = some (.int .i64 (out.call.deps x.1.rep.toNat)) ∧ W'.cell? ⟨gz, 24, none⟩ = some (.int .i64 out.call.seq) ∧ W'.cell? ⟨b2, 18, none⟩ = some (.int .i64 x.2.call.seq)) (by kernel_rfl) (by kernel_rfl) S0 (fun hHeld => ?_)
                      clear S0
                      refine wpAnyH_take (i := 0) (oi := _) (v := ?_) rfl (by kernel_rfl) (by kernel_rfl) (by kernel_rfl) (fun _ _ _ h => h) (Or.inl ⟨by kernel_rfl, ?_⟩) (by assumption) ?_
                      rotate_left
                      · (intro w hSw; (try dsimp only at hSw); go_simp; try (with_reducible rfl))
                      simp only [Act.put, List.getElem_toArray, List.getElem_cons_zero, List.setIfInBounds_toArray, List.set_cons_zero, List.set_cons_succ]
                      refine wpAnyH_take (i := 1) (oi := _) (v := ?_) rfl (by kernel_rfl) (by kernel_rfl) (by kernel_rfl) (fun _ _ _ h => h) (Or.inl ⟨by kernel_rfl, ?_⟩) (by assumption) ?_
                      rotate_left
                      · (intro w hSw; (try dsimp only at hSw); go_simp; try (with_reducible rfl))
                      simp only [Act.put, List.getElem_toArray, List.getElem_cons_succ, List.getElem_cons_zero, List.setIfInBounds_toArray, List.set_cons_zero, List.set_cons_succ]
                      refine wpAnyH_take (i := 2) (oi := _) (v := ?_) rfl (by kernel_rfl) (by kernel_rfl) (by kernel_rfl) (fun _ _ _ h => h) (Or.inl ⟨by kernel_rfl, ?_⟩) (by assumption) ?_
                      rotate_left
                      · (intro w hSw; (try dsimp only at hSw); go_simp; try (with_reducible rfl))
                      simp only [Act.put, List.getElem_toArray, List.getElem_cons_succ, List.getElem_cons_zero, List.setIfInBounds_toArray, List.set_cons_zero, List.set_cons_succ]
                      refine wpAnyH_take (i := 3) (oi := _) (v := ?_) rfl (by kernel_rfl) (by kernel_rfl) (by kernel_rfl) (fun _ _ _ h => h) (Or.inl ⟨by kernel_rfl, ?_⟩) (by assumption) ?_
                      rotate_left
                      · (intro w hSw; (try dsimp only at hSw); go_simp; try (with_reducible rfl))
                      simp only [Act.put, List.getElem_toArray, List.getElem_cons_succ, List.getElem_cons_zero, List.setIfInBounds_toArray, List.set_cons_zero, List.set_cons_succ]
                      refine wpAnyH_take (i := 4) (oi := _) (v := ?_) rfl (by kernel_rfl) (by kernel_rfl) (by kernel_rfl) (fun _ _ _ h => h) (Or.inl ⟨by kernel_rfl, ?_⟩) (by assumption) ?_
                      rotate_left
                      · (intro w hSw; (try dsimp only at hSw); go_simp; try (with_reducible rfl))
                      simp only [Act.put, List.getElem_toArray, List.getElem_cons_succ, List.getElem_cons_zero, List.setIfInBounds_toArray, List.set_cons_zero, List.set_cons_succ]
                      refine wpAnyH_take (i := 5) (oi := _) (v := ?_) rfl (by kernel_rfl) (by kernel_rfl) (by kernel_rfl) (fun _ _ _ h => h) (Or.inl ⟨by kernel_rfl, ?_⟩) (by assumption) ?_
                      rotate_left
                      · (intro w hSw; (try dsimp only at hSw); go_simp; try (with_reducible rfl))
                      simp only [Act.put, List.getElem_toArray, List.getElem_cons_succ, List.getElem_cons_zero, List.setIfInBounds_toArray, List.set_cons_zero, List.set_cons_succ]
                      refine wpAnyH_take (i := 6) (oi := _) (v := ?_) rfl (by kernel_rfl) (by kernel_rfl) (by kernel_rfl) (fun _ _ _ h => h) (Or.inl ⟨by kernel_rfl, ?_⟩) (by assumption) ?_
                      rotate_left
                      · (intro w hSw; (try dsimp only at hSw); go_simp; try (with_reducible rfl))
                      simp only [Act.put, List.getElem_toArray, List.getElem_cons_succ, List.getElem_cons_zero, List.setIfInBounds_toArray, List.set_cons_zero, List.set_cons_succ]
                      refine wpAnyH_take (i := 7) (oi := _) (v := ?_) rfl (by kernel_rfl) (by kernel_rfl) (by kernel_rfl) (fun _ _ _ h => h) (Or.inl ⟨by kernel_rfl, ?_⟩) (by assumption) ?_
                      rotate_left
                      · (intro w hSw; (try dsimp only at hSw); go_simp; try (with_reducible rfl))
                      simp only [Act.put, List.getElem_toArray, List.getElem_cons_succ, List.getElem_cons_zero, List.setIfInBounds_toArray, List.set_cons_zero, List.set_cons_succ]
                      refine wpAnyH_take (i := 8) (oi := _) (v := ?_) rfl (by kernel_rfl) (by kernel_rfl) (by kernel_rfl) (fun _ _ _ h => h) (Or.inl ⟨by kernel_rfl, ?_⟩) (by assumption) ?_
                      rotate_left
                      · (intro w hSw; (try dsimp only at hSw); go_simp; try (with_reducible rfl))
                      simp only [Act.put, List.getElem_toArray, List.getElem_cons_succ, List.getElem_cons_zero, List.setIfInBounds_toArray, List.set_cons_zero, List.set_cons_succ]
                      refine wpAnyH_take (i := 9) (oi := _) (v := ?_) rfl (by kernel_rfl) (by kernel_rfl) (by kernel_rfl) (fun _ _ _ h => h) (Or.inl ⟨by kernel_rfl, ?_⟩) (by assumption) ?_
                      rotate_left
                      · (intro w hSw; (try dsimp only at hSw); go_simp; try (with_reducible rfl))
                      simp only [Act.put, List.getElem_toArray, List.getElem_cons_succ, List.getElem_cons_zero, List.setIfInBounds_toArray, List.set_cons_zero, List.set_cons_succ]
                      refine wpAnyH_take (i := 10) (oi := _) (v := ?_) rfl (by kernel_rfl) (by kernel_rfl) (by kernel_rfl) (fun _ _ _ h => h) (Or.inl ⟨by kernel_rfl, ?_⟩) (by assumption) ?_
                      rotate_left
                      · (intro w hSw; (try dsimp only at hSw); go_simp; try (with_reducible rfl))
                      simp only [Act.put, List.getElem_toArray, List.getElem_cons_succ, List.getElem_cons_zero, List.setIfInBounds_toArray, List.set_cons_zero, List.set_cons_succ]
                      refine wpAnyH_take (i := 11) (oi := _) (v := ?_) rfl (by kernel_rfl) (by kernel_rfl) (by kernel_rfl) (fun _ _ _ h => h) (Or.inl ⟨by kernel_rfl, ?_⟩) (by assumption) ?_
                      rotate_left
                      · (intro w hSw; (try dsimp only at hSw); go_simp; try (with_reducible rfl))
                      simp only [Act.put, List.getElem_toArray, List.getElem_cons_succ, List.getElem_cons_zero, List.setIfInBounds_toArray, List.set_cons_zero, List.set_cons_succ]
                      refine wpAnyH_take (i := 12) (oi := _) (v := ?_) rfl (by kernel_rfl) (by kernel_rfl) (by kernel_rfl) (fun _ _ _ h => h) (Or.inl ⟨by kernel_rfl, ?_⟩) (by assumption) ?_
                      rotate_left
                      · (intro w hSw; (try dsimp only at hSw); go_simp; try (with_reducible rfl))
                      simp only [Act.put, List.getElem_toArray, List.getElem_cons_succ, List.getElem_cons_zero, List.setIfInBounds_toArray, List.set_cons_zero, List.set_cons_succ]
                      refine wpAnyH_take (i := 13) (oi := _) (v := ?_) rfl (by kernel_rfl) (by kernel_rfl) (by kernel_rfl) (fun _ _ _ h => h) (Or.inl ⟨by kernel_rfl, ?_⟩) (by assumption) ?_
                      rotate_left
                      · (intro w hSw; (try dsimp only at hSw); go_simp; try (with_reducible rfl))
                      simp only [Act.put, List.getElem_toArray, List.getElem_cons_succ, List.getElem_cons_zero, List.setIfInBounds_toArray, List.set_cons_zero, List.set_cons_succ]
                      refine wpAnyH_take (i := 14) (oi := _) (v := ?_) rfl (by kernel_rfl) (by kernel_rfl) (by kernel_rfl) (fun _ _ _ h => h) (Or.inl ⟨by kernel_rfl, ?_⟩) (by assumption) ?_
                      rotate_left
                      · (intro w hSw; (try dsimp only at hSw); go_simp; try (with_reducible rfl))
                      simp only [Act.put, List.getElem_toArray, List.getElem_cons_succ, List.getElem_cons_zero, List.setIfInBounds_toArray, List.set_cons_zero, List.set_cons_succ]
                      refine wpAnyH_take (i := 15) (oi := _) (v := ?_) rfl (by kernel_rfl) (by kernel_rfl) (by kernel_rfl) (fun _ _ _ h => h) (Or.inl ⟨by kernel_rfl, ?_⟩) (by assumption) ?_
                      rotate_left
                      · (intro w hSw; (try dsimp only at hSw); go_simp; try (with_reducible rfl))
                      simp only [Act.put, List.getElem_toArray, List.getElem_cons_succ, List.getElem_cons_zero, List.setIfInBounds_toArray, List.set_cons_zero, List.set_cons_succ]
                      cases hsq : decide (out.call.seq ≤ x.2.call.seq)
                      case false =>
                        refine wpAnyH_take (i := 16) (oi := _) (v := ?_) rfl (by kernel_rfl) (by kernel_rfl) (by kernel_rfl) (fun _ _ _ h => h) (Or.inl ⟨by kernel_rfl, ?_⟩) (by assumption) ?_
                        rotate_left
                        · (intro w hSw; (try dsimp only at hSw); go_simp; try (with_reducible rfl))
                        simp only [Act.put, List.getElem_toArray, List.getElem_cons_succ, List.getElem_cons_zero, List.setIfInBounds_toArray, List.set_cons_zero, List.set_cons_succ]
                        refine wpAnyH_take (i := 17) (oi := _) (v := ?_) rfl (by kernel_rfl) (by kernel_rfl) (by kernel_rfl) (fun _ _ _ h => h) (Or.inl ⟨by kernel_rfl, ?_⟩) (by assumption) ?_
                        rotate_left
                        · (intro w hSw; (try dsimp only at hSw); go_simp; try (with_reducible rfl))
                        simp only [Act.put, List.getElem_toArray, List.getElem_cons_succ, List.getElem_cons_zero, List.setIfInBounds_toArray, List.set_cons_zero, List.set_cons_succ]
                        refine wpAnyH_take (i := 18) (oi := _) (v := undef) rfl (by kernel_rfl) (by kernel_rfl) (by kernel_rfl) (fun _ _ _ h => h) (Or.inr ⟨by kernel_rfl, rfl⟩) (by assumption) ?_
                        simp only [Act.put, List.getElem_toArray, List.getElem_cons_succ, List.getElem_cons_zero, List.setIfInBounds_toArray, List.set_cons_zero, List.set_cons_succ]
                        refine wpAnyH_take (i := 19) (oi := _) (v := undef) rfl (by kernel_rfl) (by kernel_rfl) (by kernel_rfl) (fun _ _ _ h => h) (Or.inr ⟨by kernel_rfl, rfl⟩) (by assumption) ?_
                        simp only [Act.put, List.getElem_toArray, List.getElem_cons_succ, List.getElem_cons_zero, List.setIfInBounds_toArray, List.set_cons_zero, List.set_cons_succ]
                        refine wpAnyH_take (i := 20) (oi := _) (v := undef) rfl (by kernel_rfl) (by kernel_rfl) (by kernel_rfl) (fun _ _ _ h => h) (Or.inr ⟨by kernel_rfl, rfl⟩) (by assumption) ?_
                        simp only [Act.put, List.getElem_toArray, List.getElem_cons_succ, List.getElem_cons_zero, List.setIfInBounds_toArray, List.set_cons_zero, List.set_cons_succ]
                        refine wpAnyH_take (i := 21) (oi := _) (v := undef) rfl (by kernel_rfl) (by kernel_rfl) (by kernel_rfl) (fun _ _ _ h => h) (Or.inr ⟨by kernel_rfl, rfl⟩) (by assumption) ?_
                        simp only [Act.put, List.getElem_toArray, List.getElem_cons_succ, List.getElem_cons_zero, List.setIfInBounds_toArray, List.set_cons_zero, List.set_cons_succ]
                        refine wpAnyH_take (i := 22) (oi := _) (v := ?_) rfl (by kernel_rfl) (by kernel_rfl) (by kernel_rfl) (fun _ _ _ h => h) (Or.inl ⟨by kernel_rfl, ?_⟩) (by assumption) ?_
                        rotate_left
                        · (intro w hSw; (try dsimp only at hSw); go_simp; try (with_reducible rfl))
                        simp only [Act.put, List.getElem_toArray, List.getElem_cons_succ, List.getElem_cons_zero, List.setIfInBounds_toArray, List.set_cons_zero, List.set_cons_succ]
                        refine wpAnyH_take (i := 23) (oi := _) (v := ?_) rfl (by kernel_rfl) (by kernel_rfl) (by kernel_rfl) (fun _ _ _ h => h) (Or.inl ⟨by kernel_rfl, ?_⟩) (by assumption) ?_
                        rotate_left
                        · (intro w hSw; (try dsimp only at hSw); go_simp; try (with_reducible rfl))
                        simp only [Act.put, List.getElem_toArray, List.getElem_cons_succ, List.getElem_cons_zero, List.setIfInBounds_toArray, List.set_cons_zero, List.set_cons_succ]
                        refine wpAnyH_done (by kernel_rfl) ?_ _
                        refine noOut_normal ?_
                        simp only [Exit.then]
                        gi_wp2
                        exact H6.out
                      case true =>
                        have hq2 : decide (out.call.seq < 1099511627776) = false := by
                          rw [decide_eq_false_iff_not]
                          have := hd2 (of_decide_eq_true hsq)
                          omega
                        refine wpAnyH_take (i := 16) (oi := _) (v := ?_) rfl (by kernel_rfl) (by kernel_rfl) (by kernel_rfl) (fun _ _ _ h => h) (Or.inl ⟨by kernel_rfl, ?_⟩) (by assumption) ?_
                        rotate_left
                        · (intro w hSw; (try dsimp only at hSw); go_simp; try (with_reducible rfl))
                        simp only [Act.put, List.getElem_toArray, List.getElem_cons_succ, List.getElem_cons_zero, List.setIfInBounds_toArray, List.set_cons_zero, List.set_cons_succ]
                        refine wpAnyH_take (i := 17) (oi := _) (v := ?_) rfl (by kernel_rfl) (by kernel_rfl) (by kernel_rfl) (fun _ _ _ h => h) (Or.inl ⟨by kernel_rfl, ?_⟩) (by assumption) ?_
                        rotate_left
                        · (intro w hSw; (try dsimp only at hSw); go_simp; try (with_reducible rfl))
                        simp only [Act.put, List.getElem_toArray, List.getElem_cons_succ, List.getElem_cons_zero, List.setIfInBounds_toArray, List.set_cons_zero, List.set_cons_succ]
                        refine wpAnyH_take (i := 18) (oi := _) (v := ?_) rfl (by kernel_rfl) (by kernel_rfl) (by kernel_rfl) (fun _ _ _ h => h) (Or.inl ⟨by kernel_rfl, ?_⟩) (by assumption) ?_
                        rotate_left
                        · (intro w hSw; (try dsimp only at hSw); go_simp; try (with_reducible rfl))
                        simp only [Act.put, List.getElem_toArray, List.getElem_cons_succ, List.getElem_cons_zero, List.setIfInBounds_toArray, List.set_cons_zero, List.set_cons_succ]
                        refine wpAnyH_take (i := 19) (oi := _) (v := ?_) rfl (by kernel_rfl) (by kernel_rfl) (by kernel_rfl) (fun _ _ _ h => h) (Or.inl ⟨by kernel_rfl, ?_⟩) (by assumption) ?_
                        rotate_left
                        · (intro w hSw; (try dsimp only at hSw); go_simp; try (with_reducible rfl))
                        simp only [Act.put, List.getElem_toArray, List.getElem_cons_succ, List.getElem_cons_zero, List.setIfInBounds_toArray, List.set_cons_zero, List.set_cons_succ]
                        refine wpAnyH_take (i := 20) (oi := _) (v := ?_) rfl (by kernel_rfl) (by kernel_rfl) (by kernel_rfl) (fun _ _ _ h => h) (Or.inl ⟨by kernel_rfl, ?_⟩) (by assumption) ?_
                        rotate_left
                        · (intro w hSw; (try dsimp only at hSw); go_simp; try (with_reducible rfl))
                        simp only [Act.put, List.getElem_toArray, List.getElem_cons_succ, List.getElem_cons_zero, List.setIfInBounds_toArray, List.set_cons_zero, List.set_cons_succ]
                        refine wpAnyH_take (i := 21) (oi := _) (v := ?_) rfl (by kernel_rfl) (by kernel_rfl) (by kernel_rfl) (fun _ _ _ h => h) (Or.inl ⟨by kernel_rfl, ?_⟩) (by assumption) ?_
                        rotate_left
                        · (intro w hSw; (try dsimp only at hSw); go_simp; try (with_reducible rfl))
                        simp only [Act.put, List.getElem_toArray, List.getElem_cons_succ, List.getElem_cons_zero, List.setIfInBounds_toArray, List.set_cons_zero, List.set_cons_succ]
                        refine wpAnyH_take (i := 22) (oi := _) (v := ?_) rfl (by kernel_rfl) (by kernel_rfl) (by kernel_rfl) (fun _ _ _ h => h) (Or.inl ⟨by kernel_rfl, ?_⟩) (by assumption) ?_
                        rotate_left
                        · (intro w hSw; (try dsimp only at hSw); go_simp; try (with_reducible rfl))
                        simp only [Act.put, List.getElem_toArray, List.getElem_cons_succ, List.getElem_cons_zero, List.setIfInBounds_toArray, List.set_cons_zero, List.set_cons_succ]
                        refine wpAnyH_take (i := 23) (oi := _) (v := ?_) rfl (by kernel_rfl) (by kernel_rfl) (by kernel_rfl) (fun _ _ _ h => h) (Or.inl ⟨by kernel_rfl, ?_⟩) (by assumption) ?_
                        rotate_left
                        · (intro w hSw; (try dsimp only at hSw); go_simp; try (with_reducible rfl))
                        simp only [Act.put, List.getElem_toArray, List.getElem_cons_succ, List.getElem_cons_zero, List.setIfInBounds_toArray, List.set_cons_zero, List.set_cons_succ]
                        refine wpAnyH_done (by kernel_rfl) ?_ _
                        refine noOut_normal ?_
                        simp only [Exit.then]
                        gi_wp2
                        exact H6.out
                case done =>
                  intro D1 W1 T1
                  have T1 : Sts W (fun k => k = 0) W1 (objR D1 (.deferred (some [])) :: rowR c7 #[.pointer (some ⟨g, 0, none⟩)] :: rowsIR g m2 :: idxR s lg bk bs I2 :: rowR lg (ledCells p g m2.n) :: plR p D2 safe2 :: kndR t :: rowR gz (MV out) :: rowR g8 #[.bool false] :: rowR gm (MV mm) :: []) := T1
                  have T2 : Sts W (fun k => k = 0) W1 (marksR [D1] :: rowR c7 #[.pointer (some ⟨g, 0, none⟩)] :: rowsIR g m2 :: idxR s lg bk bs I2 :: rowR lg (ledCells p g m2.n) :: plR p D2 safe2 :: kndR t :: rowR gz (MV out) :: rowR g8 #[.bool false] :: rowR gm (MV mm) :: []) := Sts.pack (L := [objR D1 (.deferred (some []))]) T1
                  have T3 := (T2.ord [1, 3, 4, 5, 2, 6, 7, 9, 8, 0]).drop
                  have HT := Lib.hid T3
                  clear T1 T2 T3 HT7
                  go_wp2_with fail
                  go_loopw [130] (fun i wr => ∃ k : Nat, k ≤ 7 ∧ i = .int .i64 k ∧ Sts W (fun k => k = 0) wr (idxR s lg bk bs I2 :: rowR lg (ledCells p g m2.n) :: plR p D2 safe2 :: rowsIR g m2 :: kndR t :: rowR gz (MV out) :: rowR gm (MV mm) :: rowR g8 #[.bool false] :: marksR [D1] :: [])) (fun i _ => 7 - (intOf i).toNat)
                  case atStart => exact ⟨0, by omega, rfl, HT.out⟩
                  case round =>
                    clear HT
                    obtain ⟨k, hk7, rfl, T⟩ := hrel
                    have rz := (T.ord [5, 0, 1, 2, 3, 4, 6, 7, 8]).row; have lz := row_lt rz
                    have rm := (T.ord [6, 0, 1, 2, 3, 4, 5, 7, 8]).row; have lm := row_lt rm
                    by_cases hkl : k < 7
                    · have hdz : wr.cell? ⟨gz, 17 + k, none⟩ = some (.int .i64 (out.call.deps k)) := by rw [row_cell rz]; exact TMsg_deps out k hkl
                      have hdm : wr.cell? ⟨gm, 17 + k, none⟩ = some (.int .i64 (mm.call.deps k)) := by rw [row_cell rm]; exact TMsg_deps mm k hkl
                      have S0 : (fun W' : World => W'.cell? ⟨gz, 17 + k, none⟩ = some (.int .i64 (out.call.deps k)) ∧ W'.cell? ⟨gm, 17 + k, none⟩ = some (.int .i64 (mm.call.deps k))) wr.drew := ⟨hdz, hdm⟩
                      have hq := HQ1.out k
                      rw [← HOC.out] at hq
                      have hdec : decide (out.call.deps k < mm.call.deps k) = false := by rw [decide_eq_false_iff_not]; omega
                      have hlt : ((k : Int) < 7) := by omega
                      have hge : ¬ ((k : Int) < 0) := by omega
                      have HT9 := Lib.hid T.drew
                      clear T rz rm hdz hdm hq
                      go_upto_region 26 with fail
                      refine wp_region_noPanic ?_
                      refine wp_region_held_drew (S := fun W' : World => W'.cell? ⟨gz, 17 + k, none⟩ = some (.int .i64 (out.call.deps k)) ∧ W'.cell? ⟨gm, 17 + k, none⟩ = some (.int .i64 (mm.call.deps k))) (by kernel_rfl) S0 (fun hHeld => ?_)
                      clear S0
                      refine wpAnyH_take (i := 0) (oi := _) (v := ?_) rfl (by kernel_rfl) (by kernel_rfl) (by kernel_rfl) (fun _ _ _ h => h) (Or.inl ⟨by kernel_rfl, ?_⟩) (by assumption) ?_
                      rotate_left
                      · (intro w hSw; (try dsimp only at hSw); go_simp; try (with_reducible rfl))
                      simp only [Act.put, List.getElem_toArray, List.getElem_cons_zero, List.setIfInBounds_toArray, List.set_cons_zero, List.set_cons_succ]
                      refine wpAnyH_take (i := 1) (oi := _) (v := ?_) rfl (by kernel_rfl) (by kernel_rfl) (by kernel_rfl) (fun _ _ _ h => h) (Or.inl ⟨by kernel_rfl, ?_⟩) (by assumption) ?_
                      rotate_left
                      · (intro w hSw; (try dsimp only at hSw); go_simp; try (with_reducible rfl))
                      simp only [Act.put, List.getElem_toArray, List.getElem_cons_succ, List.getElem_cons_zero, List.setIfInBounds_toArray, List.set_cons_zero, List.set_cons_succ]
                      refine wpAnyH_take (i := 2) (oi := _) (v := ?_) rfl (by kernel_rfl) (by kernel_rfl) (by kernel_rfl) (fun _ _ _ h => h) (Or.inl ⟨by kernel_rfl, ?_⟩) (by assumption) ?_
                      rotate_left
                      · (intro w hSw; (try dsimp only at hSw); go_simp; try (with_reducible rfl))
                      simp only [Act.put, List.getElem_toArray, List.getElem_cons_succ, List.getElem_cons_zero, List.setIfInBounds_toArray, List.set_cons_zero, List.set_cons_succ]
                      refine wpAnyH_take (i := 3) (oi := _) (v := ?_) rfl (by kernel_rfl) (by kernel_rfl) (by kernel_rfl) (fun _ _ _ h => h) (Or.inl ⟨by kernel_rfl, ?_⟩) (by assumption) ?_
                      rotate_left
                      · (intro w hSw; (try dsimp only at hSw); go_simp; try (with_reducible rfl))
                      simp only [Act.put, List.getElem_toArray, List.getElem_cons_succ, List.getElem_cons_zero, List.setIfInBounds_toArray, List.set_cons_zero, List.set_cons_succ]
                      refine wpAnyH_take (i := 4) (oi := _) (v := ?_) rfl (by kernel_rfl) (by kernel_rfl) (by kernel_rfl) (fun _ _ _ h => h) (Or.inl ⟨by kernel_rfl, ?_⟩) (by assumption) ?_
                      rotate_left
                      · (intro w hSw; (try dsimp only at hSw); go_simp; try (with_reducible rfl))
                      simp only [Act.put, List.getElem_toArray, List.getElem_cons_succ, List.getElem_cons_zero, List.setIfInBounds_toArray, List.set_cons_zero, List.set_cons_succ]
                      refine wpAnyH_take (i := 5) (oi := _) (v := ?_) rfl (by kernel_rfl) (by kernel_rfl) (by kernel_rfl) (fun _ _ _ h => h) (Or.inl ⟨by kernel_rfl, ?_⟩) (by assumption) ?_
                      rotate_left
                      · (intro w hSw; (try dsimp only at hSw); go_simp; try (with_reducible rfl))
                      simp only [Act.put, List.getElem_toArray, List.getElem_cons_succ, List.getElem_cons_zero, List.setIfInBounds_toArray, List.set_cons_zero, List.set_cons_succ]
                      refine wpAnyH_take (i := 6) (oi := _) (v := ?_) rfl (by kernel_rfl) (by kernel_rfl) (by kernel_rfl) (fun _ _ _ h => h) (Or.inl ⟨by kernel_rfl, ?_⟩) (by assumption) ?_
                      rotate_left
                      · (intro w hSw; (try dsimp only at hSw); go_simp; try (with_reducible rfl))
                      simp only [Act.put, List.getElem_toArray, List.getElem_cons_succ, List.getElem_cons_zero, List.setIfInBounds_toArray, List.set_cons_zero, List.set_cons_succ]
                      refine wpAnyH_take (i := 7) (oi := _) (v := ?_) rfl (by kernel_rfl) (by kernel_rfl) (by kernel_rfl) (fun _ _ _ h => h) (Or.inl ⟨by kernel_rfl, ?_⟩) (by assumption) ?_
                      rotate_left
                      · (intro w hSw; (try dsimp only at hSw); go_simp; try (with_reducible rfl))
                      simp only [Act.put, List.getElem_toArray, List.getElem_cons_succ, List.getElem_cons_zero, List.setIfInBounds_toArray, List.set_cons_zero, List.set_cons_succ]
                      refine wpAnyH_take (i := 8) (oi := _) (v := ?_) rfl (by kernel_rfl) (by kernel_rfl) (by kernel_rfl) (fun _ _ _ h => h) (Or.inl ⟨by kernel_rfl, ?_⟩) (by assumption) ?_
                      rotate_left
                      · (intro w hSw; (try dsimp only at hSw); go_simp; try (with_reducible rfl))
                      simp only [Act.put, List.getElem_toArray, List.getElem_cons_succ, List.getElem_cons_zero, List.setIfInBounds_toArray, List.set_cons_zero, List.set_cons_succ]
                      refine wpAnyH_take (i := 9) (oi := _) (v := ?_) rfl (by kernel_rfl) (by kernel_rfl) (by kernel_rfl) (fun _ _ _ h => h) (Or.inl ⟨by kernel_rfl, ?_⟩) (by assumption) ?_
                      rotate_left
                      · (intro w hSw; (try dsimp only at hSw); go_simp; try (with_reducible rfl))
                      simp only [Act.put, List.getElem_toArray, List.getElem_cons_succ, List.getElem_cons_zero, List.setIfInBounds_toArray, List.set_cons_zero, List.set_cons_succ]
                      refine wpAnyH_take (i := 10) (oi := _) (v := ?_) rfl (by kernel_rfl) (by kernel_rfl) (by kernel_rfl) (fun _ _ _ h => h) (Or.inl ⟨by kernel_rfl, ?_⟩) (by assumption) ?_
                      rotate_left
                      · (intro w hSw; (try dsimp only at hSw); go_simp; try (with_reducible rfl))
                      simp only [Act.put, List.getElem_toArray, List.getElem_cons_succ, List.getElem_cons_zero, List.setIfInBounds_toArray, List.set_cons_zero, List.set_cons_succ]
                      refine wpAnyH_done (by kernel_rfl) ?_ _
                      refine NoPanic.normal ?_
                      simp only [Exit.then]
                      go_wp2
                      go_roundw
                      case rel => exact ⟨k + 1, by omega, by go_num, HT9.out⟩
                      case measure => simp [intOf]; omega
                    · obtain rfl : k = 7 := by omega
                      have q1 : decide (mm.call.seq ≤ out.call.seq) = true := by
                        have := HQ2.out
                        rw [← HOC.out] at this
                        exact decide_eq_true this
                      have q2 : eqA (EV out.call.deed) (EV mm.call.deed) = true := by
                        have h1 : out.call.deed = mm.call.deed := by rw [HOC.out]; exact HQ3.out
                        rw [h1]
                        exact eqA_refl _
                      have q3 : eqA (CV now.call) (CV out.call) = true := by
                        rw [HOC.out, HNC.out]
                        exact eqA_refl _
                      have FS : ∀ W', row? W' gz = some (MV out) → row? W' gm = some (MV mm) → (row? W' gz = some (MV out) ∧ row? W' gm = some (MV mm) ∧ W'.cell? ⟨gz, 24, none⟩ = some (.int .i64 out.call.seq) ∧ W'.cell? ⟨gm, 24, none⟩ = some (.int .i64 mm.call.seq)) := fun W' h1 h2 => ⟨h1, h2, row_cell h1 24, row_cell h2 24⟩
                      have S0 := FS _ (T.drew.ord [5, 0, 1, 2, 3, 4, 6, 7, 8]).row (T.drew.ord [6, 0, 1, 2, 3, 4, 5, 7, 8]).row
                      have hm0 : ∀ W' : World, (row? W' gz = some (MV out) ∧ row? W' gm = some (MV mm) ∧ W'.cell? ⟨gz, 24, none⟩ = some (.int .i64 out.call.seq) ∧ W'.cell? ⟨gm, 24, none⟩ = some (.int .i64 mm.call.seq)) → True := fun _ _ => trivial
                      have HM := Lib.hid hm0; have HFS := Lib.hid FS
                      have HT9 := Lib.hid T.drew
                      clear T rz rm FS hm0
                      go_upto_region 29 with fail
                      refine wp_region_noPanic ?_
                      refine wp_region_stage (fun W' => row? W' gz = some (MV out) ∧ row? W' gm = some (MV mm) ∧ W'.cell? ⟨gz, 24, none⟩ = some (.int .i64 out.call.seq) ∧ W'.cell? ⟨gm, 24, none⟩ = some (.int .i64 mm.call.seq)) (fun _ => True) 26 (by kernel_rfl) S0 (fun hHeld => ?_)
                      clear S0
                      refine wpAnyL_take0 (i := 0) (oi := _) (v := ?_) rfl (by kernel_rfl) (by kernel_rfl) (by kernel_rfl) (by kernel_rfl) (by kernel_rfl) (fun _ _ _ h => h) (Or.inl ⟨by kernel_rfl, ?_⟩) (by assumption) ?_
                      rotate_left
                      · (intro w hSw; (try dsimp only at hSw); go_simp; try (with_reducible rfl))
                      simp only [Act.put, List.getElem_toArray, List.getElem_cons_zero, List.setIfInBounds_toArray, List.set_cons_zero, List.set_cons_succ]
                      refine wpAnyL_take0 (i := 1) (oi := _) (v := ?_) rfl (by kernel_rfl) (by kernel_rfl) (by kernel_rfl) (by kernel_rfl) (by kernel_rfl) (fun _ _ _ h => h) (Or.inl ⟨by kernel_rfl, ?_⟩) (by assumption) ?_
                      rotate_left
                      · (intro w hSw; (try dsimp only at hSw); go_simp; try (with_reducible rfl))
                      simp only [Act.put, List.getElem_toArray, List.getElem_cons_succ, List.getElem_cons_zero, List.setIfInBounds_toArray, List.set_cons_zero, List.set_cons_succ]
                      refine wpAnyL_take0 (i := 2) (oi := _) (v := ?_) rfl (by kernel_rfl) (by kernel_rfl) (by kernel_rfl) (by kernel_rfl) (by kernel_rfl) (fun _ _ _ h => h) (Or.inl ⟨by kernel_rfl, ?_⟩) (by assumption) ?_
                      rotate_left
                      · (intro w hSw; (try dsimp only at hSw); go_simp; try (with_reducible rfl))
                      simp only [Act.put, List.getElem_toArray, List.getElem_cons_succ, List.getElem_cons_zero, List.setIfInBounds_toArray, List.set_cons_zero, List.set_cons_succ]
                      refine wpAnyL_take0 (i := 3) (oi := _) (v := ?_) rfl (by kernel_rfl) (by kernel_rfl) (by kernel_rfl) (by kernel_rfl) (by kernel_rfl) (fun _ _ _ h => h) (Or.inl ⟨by kernel_rfl, ?_⟩) (by assumption) ?_
                      rotate_left
                      · (intro w hSw; (try dsimp only at hSw); go_simp; try (with_reducible rfl))
                      simp only [Act.put, List.getElem_toArray, List.getElem_cons_succ, List.getElem_cons_zero, List.setIfInBounds_toArray, List.set_cons_zero, List.set_cons_succ]
                      refine wpAnyL_take0 (i := 4) (oi := _) (v := ?_) rfl (by kernel_rfl) (by kernel_rfl) (by kernel_rfl) (by kernel_rfl) (by kernel_rfl) (fun _ _ _ h => h) (Or.inl ⟨by kernel_rfl, ?_⟩) (by assumption) ?_
                      rotate_left
                      · (intro w hSw; (try dsimp only at hSw); go_simp; try (with_reducible rfl))
                      simp only [Act.put, List.getElem_toArray, List.getElem_cons_succ, List.getElem_cons_zero, List.setIfInBounds_toArray, List.set_cons_zero, List.set_cons_succ]
                      refine wpAnyL_take0 (i := 5) (oi := _) (v := ?_) rfl (by kernel_rfl) (by kernel_rfl) (by kernel_rfl) (by kernel_rfl) (by kernel_rfl) (fun _ _ _ h => h) (Or.inl ⟨by kernel_rfl, ?_⟩) (by assumption) ?_
                      rotate_left
                      · (intro w hSw; (try dsimp only at hSw); go_simp; try (with_reducible rfl))
                      simp only [Act.put, List.getElem_toArray, List.getElem_cons_succ, List.getElem_cons_zero, List.setIfInBounds_toArray, List.set_cons_zero, List.set_cons_succ]
                      refine wpAnyL_take0 (i := 6) (oi := _) (v := ?_) rfl (by kernel_rfl) (by kernel_rfl) (by kernel_rfl) (by kernel_rfl) (by kernel_rfl) (fun _ _ _ h => h) (Or.inl ⟨by kernel_rfl, ?_⟩) (by assumption) ?_
                      rotate_left
                      · (intro w hSw; (try dsimp only at hSw); go_simp; try (with_reducible rfl))
                      simp only [Act.put, List.getElem_toArray, List.getElem_cons_succ, List.getElem_cons_zero, List.setIfInBounds_toArray, List.set_cons_zero, List.set_cons_succ]
                      refine wpAnyL_take0 (i := 7) (oi := _) (v := ?_) rfl (by kernel_rfl) (by kernel_rfl) (by kernel_rfl) (by kernel_rfl) (by kernel_rfl) (fun _ _ _ h => h) (Or.inl ⟨by kernel_rfl, ?_⟩) (by assumption) ?_
                      rotate_left
                      · (intro w hSw; (try dsimp only at hSw); go_simp; try (with_reducible rfl))
                      simp only [Act.put, List.getElem_toArray, List.getElem_cons_succ, List.getElem_cons_zero, List.setIfInBounds_toArray, List.set_cons_zero, List.set_cons_succ]
                      refine wpAnyL_take0 (i := 8) (oi := _) (v := ?_) rfl (by kernel_rfl) (by kernel_rfl) (by kernel_rfl) (by kernel_rfl) (by kernel_rfl) (fun _ _ _ h => h) (Or.inl ⟨by kernel_rfl, ?_⟩) (by assumption) ?_
                      rotate_left
                      · (intro w hSw; (try dsimp only at hSw); go_simp; try (with_reducible rfl))
                      simp only [Act.put, List.getElem_toArray, List.getElem_cons_succ, List.getElem_cons_zero, List.setIfInBounds_toArray, List.set_cons_zero, List.set_cons_succ]
                      refine wpAnyL_take0 (i := 9) (oi := _) (v := ?_) rfl (by kernel_rfl) (by kernel_rfl) (by kernel_rfl) (by kernel_rfl) (by kernel_rfl) (fun _ _ _ h => h) (Or.inl ⟨by kernel_rfl, ?_⟩) (by assumption) ?_
                      rotate_left
                      · (intro w hSw; (try dsimp only at hSw); go_simp; try (with_reducible rfl))
                      simp only [Act.put, List.getElem_toArray, List.getElem_cons_succ, List.getElem_cons_zero, List.setIfInBounds_toArray, List.set_cons_zero, List.set_cons_succ]
                      refine wpAnyL_take0 (i := 10) (oi := _) (v := ?_) rfl (by kernel_rfl) (by kernel_rfl) (by kernel_rfl) (by kernel_rfl) (by kernel_rfl) (fun _ _ _ h => h) (Or.inl ⟨by kernel_rfl, ?_⟩) (by assumption) ?_
                      rotate_left
                      · (intro w hSw; (try dsimp only at hSw); go_simp; try (with_reducible rfl))
                      simp only [Act.put, List.getElem_toArray, List.getElem_cons_succ, List.getElem_cons_zero, List.setIfInBounds_toArray, List.set_cons_zero, List.set_cons_succ]
                      refine wpAnyL_take0 (i := 11) (oi := _) (v := ?_) rfl (by kernel_rfl) (by kernel_rfl) (by kernel_rfl) (by kernel_rfl) (by kernel_rfl) (fun _ _ _ h => h) (Or.inl ⟨by kernel_rfl, ?_⟩) (by assumption) ?_
                      rotate_left
                      · (intro w hSw; (try dsimp only at hSw); go_simp; try (with_reducible rfl))
                      simp only [Act.put, List.getElem_toArray, List.getElem_cons_succ, List.getElem_cons_zero, List.setIfInBounds_toArray, List.set_cons_zero, List.set_cons_succ]
                      refine wpAnyL_take0 (i := 12) (oi := _) (v := ?_) rfl (by kernel_rfl) (by kernel_rfl) (by kernel_rfl) (by kernel_rfl) (by kernel_rfl) (fun _ _ _ h => h) (Or.inl ⟨by kernel_rfl, ?_⟩) (by assumption) ?_
                      rotate_left
                      · (intro w hSw; (try dsimp only at hSw); go_simp; try (with_reducible rfl))
                      simp only [Act.put, List.getElem_toArray, List.getElem_cons_succ, List.getElem_cons_zero, List.setIfInBounds_toArray, List.set_cons_zero, List.set_cons_succ]
                      refine wpAnyL_take0 (i := 13) (oi := _) (v := ?_) rfl (by kernel_rfl) (by kernel_rfl) (by kernel_rfl) (by kernel_rfl) (by kernel_rfl) (fun _ _ _ h => h) (Or.inl ⟨by kernel_rfl, ?_⟩) (by assumption) ?_
                      rotate_left
                      · (intro w hSw; (try dsimp only at hSw); go_simp; try (with_reducible rfl))
                      simp only [Act.put, List.getElem_toArray, List.getElem_cons_succ, List.getElem_cons_zero, List.setIfInBounds_toArray, List.set_cons_zero, List.set_cons_succ]
                      refine wpAnyL_take0 (i := 14) (oi := _) (v := ?_) rfl (by kernel_rfl) (by kernel_rfl) (by kernel_rfl) (by kernel_rfl) (by kernel_rfl) (fun _ _ _ h => h) (Or.inl ⟨by kernel_rfl, ?_⟩) (by assumption) ?_
                      rotate_left
                      · (intro w hSw; (try dsimp only at hSw); go_simp; try (with_reducible rfl))
                      simp only [Act.put, List.getElem_toArray, List.getElem_cons_succ, List.getElem_cons_zero, List.setIfInBounds_toArray, List.set_cons_zero, List.set_cons_succ]
                      refine wpAnyL_take0 (i := 15) (oi := _) (v := ?_) rfl (by kernel_rfl) (by kernel_rfl) (by kernel_rfl) (by kernel_rfl) (by kernel_rfl) (fun _ _ _ h => h) (Or.inl ⟨by kernel_rfl, ?_⟩) (by assumption) ?_
                      rotate_left
                      · (intro w hSw; (try dsimp only at hSw); go_simp; try (with_reducible rfl))
                      simp only [Act.put, List.getElem_toArray, List.getElem_cons_succ, List.getElem_cons_zero, List.setIfInBounds_toArray, List.set_cons_zero, List.set_cons_succ]
                      refine wpAnyL_take0 (i := 16) (oi := _) (v := ?_) rfl (by kernel_rfl) (by kernel_rfl) (by kernel_rfl) (by kernel_rfl) (by kernel_rfl) (fun _ _ _ h => h) (Or.inl ⟨by kernel_rfl, ?_⟩) (by assumption) ?_
                      rotate_left
                      · (intro w hSw; (try dsimp only at hSw); go_simp; try (with_reducible rfl))
                      simp only [Act.put, List.getElem_toArray, List.getElem_cons_succ, List.getElem_cons_zero, List.setIfInBounds_toArray, List.set_cons_zero, List.set_cons_succ]
                      refine wpAnyL_take0 (i := 17) (oi := _) (v := ?_) rfl (by kernel_rfl) (by kernel_rfl) (by kernel_rfl) (by kernel_rfl) (by kernel_rfl) (fun _ _ _ h => h) (Or.inl ⟨by kernel_rfl, ?_⟩) (by assumption) ?_
                      rotate_left
                      · (intro w hSw; (try dsimp only at hSw); go_simp; try (with_reducible rfl))
                      simp only [Act.put, List.getElem_toArray, List.getElem_cons_succ, List.getElem_cons_zero, List.setIfInBounds_toArray, List.set_cons_zero, List.set_cons_succ]
                      refine wpAnyL_take0 (i := 18) (oi := _) (v := ?_) rfl (by kernel_rfl) (by kernel_rfl) (by kernel_rfl) (by kernel_rfl) (by kernel_rfl) (fun _ _ _ h => h) (Or.inl ⟨by kernel_rfl, ?_⟩) (by assumption) ?_
                      rotate_left
                      · (intro w hSw; (try dsimp only at hSw); go_simp; try (with_reducible rfl))
                      simp only [Act.put, List.getElem_toArray, List.getElem_cons_succ, List.getElem_cons_zero, List.setIfInBounds_toArray, List.set_cons_zero, List.set_cons_succ]
                      refine wpAnyL_take0 (i := 19) (oi := _) (v := ?_) rfl (by kernel_rfl) (by kernel_rfl) (by kernel_rfl) (by kernel_rfl) (by kernel_rfl) (fun _ _ _ h => h) (Or.inl ⟨by kernel_rfl, ?_⟩) (by assumption) ?_
                      rotate_left
                      · (intro w hSw; (try dsimp only at hSw); go_simp; try (with_reducible rfl))
                      simp only [Act.put, List.getElem_toArray, List.getElem_cons_succ, List.getElem_cons_zero, List.setIfInBounds_toArray, List.set_cons_zero, List.set_cons_succ]
                      refine wpAnyL_take0 (i := 22) (oi := _) (v := ?_) rfl (by kernel_rfl) (by kernel_rfl) (by kernel_rfl) (by kernel_rfl) (by kernel_rfl) (fun _ _ _ h => h) (Or.inl ⟨by kernel_rfl, ?_⟩) (by assumption) ?_
                      rotate_left
                      · (intro w hSw; (try dsimp only at hSw); go_simp; try (with_reducible rfl))
                      simp only [Act.put, List.getElem_toArray, List.getElem_cons_succ, List.getElem_cons_zero, List.setIfInBounds_toArray, List.set_cons_zero, List.set_cons_succ]
                      refine wpAnyL_take0 (i := 23) (oi := _) (v := ?_) rfl (by kernel_rfl) (by kernel_rfl) (by kernel_rfl) (by kernel_rfl) (by kernel_rfl) (fun _ _ _ h => h) (Or.inl ⟨by kernel_rfl, ?_⟩) (by assumption) ?_
                      rotate_left
                      · (intro w hSw; (try dsimp only at hSw); go_simp; try (with_reducible rfl))
                      simp only [Act.put, List.getElem_toArray, List.getElem_cons_succ, List.getElem_cons_zero, List.setIfInBounds_toArray, List.set_cons_zero, List.set_cons_succ]
                      refine wpAnyL_ready (rs := [20]) (by kernel_rfl) (by simp) ?_
                      refine AllReadyL.cons0 (o := _) rfl (by kernel_rfl) (fun K hK => ?_) AllReadyL.nil
                      go_simp
                      refine (HAT.out _ [kndR t, rowR gz (MV out), rowR gm (MV mm), rowR g8 #[.bool false], marksR [D1]] HT9.out).mono ?_
                      clear HT9 HAT
                      rintro e w9 ⟨rfl, T⟩
                      have T1 : Sts W (fun k => k = 0) w9 (idxR s lg bk bs I2 :: rowR lg (ledCells p g m2.n) :: plR p D2 safe2 :: rowsIR g m2 :: kndR t :: rowR gz (MV out) :: rowR gm (MV mm) :: rowR g8 #[.bool false] :: marksR [D1] :: []) := T
                      refine hK.out _ _ (HFS.out _ (T1.ord [5, 0, 1, 2, 3, 4, 6, 7, 8]).row (T1.ord [6, 0, 1, 2, 3, 4, 5, 7, 8]).row) (fun hHeld => ?_)
                      clear hK K HFS T
                      have T2 := T1.ord [7, 0, 1, 2, 3, 4, 5, 6, 8]
                      have r8 := T2.row; have l8 := row_lt r8; have c8 := row_cell r8 0; have f8 := row_frozen r8 0
                      have T3 := T2.setCell 0 (.bool true)
                      have T4 := (T3.ord [8, 0, 5, 1, 2, 3, 4, 6, 7])
                      have HT := Lib.hid T4
                      clear T1 T2 T3 T4
                      refine wpAnyL_take0 (i := 21) (oi := _) (v := ?_) rfl (by kernel_rfl) (by kernel_rfl) (by kernel_rfl) (by kernel_rfl) (by kernel_rfl) (fun _ _ _ h => h) (Or.inl ⟨by kernel_rfl, ?_⟩) (by assumption) ?_
                      rotate_left
                      · (intro w hSw; (try dsimp only at hSw); go_simp; try (with_reducible rfl))
                      simp only [Act.put, List.getElem_toArray, List.getElem_cons_succ, List.getElem_cons_zero, List.setIfInBounds_toArray, List.set_cons_zero, List.set_cons_succ]
                      refine wpAnyL_take0 (i := 24) (oi := _) (v := ?_) rfl (by kernel_rfl) (by kernel_rfl) (by kernel_rfl) (by kernel_rfl) (by kernel_rfl) (fun _ _ _ h => h) (Or.inl ⟨by kernel_rfl, ?_⟩) (by assumption) ?_
                      rotate_left
                      · (intro w hSw; (try dsimp only at hSw); go_simp; try (with_reducible rfl))
                      simp only [Act.put, List.getElem_toArray, List.getElem_cons_succ, List.getElem_cons_zero, List.setIfInBounds_toArray, List.set_cons_zero, List.set_cons_succ]
                      refine wpAnyL_take0 (i := 25) (oi := _) (v := ?_) rfl (by kernel_rfl) (by kernel_rfl) (by kernel_rfl) (by kernel_rfl) (by kernel_rfl) (fun _ _ _ h => h) (Or.inl ⟨by kernel_rfl, ?_⟩) (by assumption) ?_
                      rotate_left
                      · (intro w hSw; (try dsimp only at hSw); go_simp; try (with_reducible rfl))
                      simp only [Act.put, List.getElem_toArray, List.getElem_cons_succ, List.getElem_cons_zero, List.setIfInBounds_toArray, List.set_cons_zero, List.set_cons_succ]
                      refine wpAnyL_ready (rs := [26]) (by kernel_rfl) (by simp) ?_
                      refine AllReadyL.cons1 (o := _) rfl (by kernel_rfl) (fun K hK => ?_) AllReadyL.nil
                      go_simp
                      refine hK.out _ _ trivial (fun hHeld => ?_)
                      clear hK K
                      refine wpAnyL_done (by kernel_rfl) ?_ _
                      refine NoPanic.normal ?_
                      simp only [Exit.then]
                      go_wp2
                      refine retMs (Ds := [D1]) HT.out (fun W' TW => ⟨results_cellV rfl rfl (row_cell TW.row 0) Tryd.underlying4 rfl, rfl, ?_⟩) rfl
                      first | exact HB.out _ _ TW.drop | (rw [hgm]; exact HB.out _ _ TW.drop)
                case stop =>
                  intro D1 c1 k W1 _ _ T1
                  exact (Sts.no T1.drop).elim
end Go.Proofs.YtfgacjglfdehbaaDoor
