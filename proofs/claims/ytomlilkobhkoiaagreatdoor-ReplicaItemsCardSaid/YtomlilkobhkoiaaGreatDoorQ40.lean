/- Several texts in one. -/
import Derived.Test.YtomlilkobhkoiaaGreatDoorQ39
/- Layer 15: a call is pre-accepted. -/
namespace Go.Proofs.YtomlilkobhkoiaaGreatDoor
open Go.RowKit
set_option linter.unusedVariables false
set_option maxRecDepth 20000
attribute [local go_sem] row_alloc row_drew row_drewN row_ext row_setCell row_setRow size_ext setRow_alloc setRow_drew loadOf storeOf piece_lit loadVal_at storeVal_at allOne_lit buildOf buildRes_some
attribute [local go_sem high] cell_alloc frozen_alloc setCell_alloc cell_ext frozen_ext cell_setRow frozen_setRow
attribute [local go_sem ↓] TDeed_ld0 TDeed_st0 TDeed_fd0 TDeed_bd0
attribute [local go_sem] TDeed_size TDeed_one TDeed_piece TDeed_c0 TDeed_c1 TDeed_c2 TDeed_c3 TDeed_c4 TDeed_c5 TDeed_set_kind TDeed_set_key TDeed_set_val TDeed_set_ver TDeed_set_ses TDeed_set_num TDeed_ld TDeed_st TDeed_f_kind TDeed_f_key TDeed_f_val TDeed_f_ver TDeed_f_ses TDeed_f_num TDeed_bd TDeed_fl TDeed_fl_kind TDeed_fl_key TDeed_fl_val TDeed_fl_ver TDeed_fl_ses TDeed_fl_num
attribute [local go_sem high] TDeed_eql TDeed_neq
attribute [local go_sem ↓] index_deps0 load_deps0 store_deps0
attribute [local go_sem] DV_piece DV_size DV_one index_deps load_deps store_deps
attribute [local go_sem high] TDeps_eql TDeps_neq
attribute [local go_sem ↓] TCall_ld0 TCall_st0 TCall_fd0 TCall_bd0
attribute [local go_sem] TCall_size TCall_one TCall_piece TCall_c0 TCall_c1 TCall_c2 TCall_c3 TCall_c4 TCall_c5 TCall_c6 TCall_c7 TCall_c8 TCall_c9 TCall_c10 TCall_c11 TCall_c12 TCall_c13 TCall_p_deed TCall_put_deed TCall_p_deps TCall_put_deps TCall_set_seq TCall_ld TCall_st TCall_f_deed TCall_f_deps TCall_f_seq TCall_bd TCall_fl TCall_fl_deed TCall_fl_deps TCall_fl_seq
attribute [local go_sem high] TCall_eql TCall_neq
attribute [local go_sem ↓] TItem_ld0 TItem_st0 TItem_fd0 TItem_bd0
attribute [local go_sem] TItem_size TItem_one TItem_piece TItem_c0 TItem_c1 TItem_set_rep TItem_set_num TItem_ld TItem_st TItem_f_rep TItem_f_num TItem_bd TItem_fl TItem_fl_rep TItem_fl_num
attribute [local go_sem high] TItem_eql TItem_neq
attribute [local go_sem ↓] TBallot_ld0 TBallot_st0 TBallot_fd0 TBallot_bd0
attribute [local go_sem] TBallot_size TBallot_one TBallot_piece TBallot_c0 TBallot_c1 TBallot_set_round TBallot_set_rep TBallot_ld TBallot_st TBallot_f_round TBallot_f_rep TBallot_bd TBallot_fl TBallot_fl_round TBallot_fl_rep
attribute [local go_sem high] TBallot_eql TBallot_neq
attribute [local go_sem ↓] TInst_ld0 TInst_st0 TInst_fd0 TInst_bd0
attribute [local go_sem] TInst_size TInst_one TInst_piece TInst_c0 TInst_c1 TInst_c2 TInst_c3 TInst_c4 TInst_c5 TInst_c6 TInst_c7 TInst_c8 TInst_c9 TInst_c10 TInst_c11 TInst_c12 TInst_c13 TInst_c14 TInst_c15 TInst_c16 TInst_c17 TInst_c18 TInst_c19 TInst_p_prom TInst_put_prom TInst_p_vote TInst_put_vote TInst_set_status TInst_p_call TInst_put_call TInst_set_same TInst_ld TInst_st TInst_f_prom TInst_f_vote TInst_f_status TInst_f_call TInst_f_same TInst_bd TInst_fl TInst_fl_prom TInst_fl_vote TInst_fl_status TInst_fl_call TInst_fl_same
attribute [local go_sem high] TInst_eql TInst_neq
attribute [local go_sem ↓] TMsg_ld0 TMsg_st0 TMsg_fd0 TMsg_bd0
attribute [local go_sem] TMsg_size TMsg_one TMsg_piece TMsg_c0 TMsg_c1 TMsg_c2 TMsg_c3 TMsg_c4 TMsg_c5 TMsg_c6 TMsg_c7 TMsg_c8 TMsg_c9 TMsg_c10 TMsg_c11 TMsg_c12 TMsg_c13 TMsg_c14 TMsg_c15 TMsg_c16 TMsg_c17 TMsg_c18 TMsg_c19 TMsg_c20 TMsg_c21 TMsg_c22 TMsg_c23 TMsg_c24 TMsg_set_kind TMsg_set_frm TMsg_set_to TMsg_p_item TMsg_put_item TMsg_p_bal TMsg_put_bal TMsg_p_vote TMsg_put_vote TMsg_set_status TMsg_set_same TMsg_p_call TMsg_put_call TMsg_ld TMsg_st TMsg_f_kind TMsg_f_frm TMsg_f_to TMsg_f_item TMsg_f_bal TMsg_f_vote TMsg_f_status TMsg_f_same TMsg_f_call TMsg_bd TMsg_fl TMsg_fl_kind TMsg_fl_frm TMsg_fl_to TMsg_fl_item TMsg_fl_bal TMsg_fl_vote TMsg_fl_status TMsg_fl_same TMsg_fl_call
attribute [local go_sem high] TMsg_eql TMsg_neq
theorem call_slice0 (len : Nat) (parts : Array (Nat × Value)) : Instr.buildSlice 227 len parts = buildSem 227 len parts := rfl
theorem call_slice1 (w : World) (x : Call) : (buildSem 227 1 #[(0, .agg (CV x))]).run Tryz.prog w = .ok (.slice (some ⟨w.heap.size, 0, none⟩) 1 1) (w.alloc (.cells (CV x) 68)) :=
 build_slice1 Tryz.underlying227 (z := .agg (CV noCall)) (n := 14) (by kernel_rfl) (by omega) w (TCall_size x) (by omega)
attribute [local go_sem ↓] call_slice0
attribute [local go_sem] call_slice1
theorem rowsIn1 {W : World} {g : Nat} {c : Call} (h : row? W g = some (CV c)) : RowsIn W (some ⟨g, 0, none⟩) 14 CV [c] :=
 ⟨fun h => (by cases h), fun a ha j hj i v hv => by
  injection ha with ha; subst ha
  have : j = 0 := by simpa using hj
  subst this
  rw [add_none, add_none, row_cell h]
  simpa using hv, by simp⟩
set_option maxHeartbeats 16000000 in
theorem vpre {n : Int} {k : Nat} {I : Idx} {D : List UInt8} {m : RowsM} (hv : VotI n k I D m) (hk : k ≤ 100) {safe s lg p g bk bs : Nat} (x : Msg) (i : Inst) (hw : atM m x.item = i) (hg : goodM x n = true) (h3 : x.kind = 1) {w W : World} {F : Nat → Prop} {R : List Res} (T : Sts w F W (spL s lg p g bk bs I D safe m ++ R)) :
  Calls Tryz.prog 148 #[.pointer (some ⟨s, 0, none⟩), .agg (MV x), .agg (NV i)] W (VotPost n k s lg p g bk bs m x.item (preM m x i) w F R) := by
 have hmn := hv.sp.mn
 obtain ⟨hx1, hx2, hx3, hx4⟩ := goodM_in hg
 have hcg := hx3 (by rw [h3]; decide)
 have hi : goodN i n = true := by rw [← hw, ← hmn]; exact atM_good hv.sp.good (by rw [hmn]; exact hv.pos) _
 have hmg := goodC_merge hv.sp.ok hv.sp.good (c := x.call) (by rw [hmn]; exact hcg) x.call.deed x.item
 rw [hmn] at hmg
 have hdd := (goodC_iff.1 hcg).1
 have hdk : x.call.deed.key.size ≤ 16 ∧ intKOk x.call.deed.ses := by
  unfold goodB at hdd
  rw [decide_eq_true_iff] at hdd
  unfold intKOk
  omega
 have hml : ∀ q : WayR, mergeL x.call [⟨noDeed, q.out, q.seq⟩] = mergeC x.call q := fun _ => rfl
 have hacc : preM m x i = if (voteM i x.bal 1 (mergeC x.call (wayK m x.call.deed x.item)) (sameC (mergeC x.call (wayK m x.call.deed x.item)) x)).2 = true then ⟨⟨2, x.to, x.frm, x.item, x.bal, noBallot, 0, (voteM i x.bal 1 (mergeC x.call (wayK m x.call.deed x.item)) (sameC (mergeC x.call (wayK m x.call.deed x.item)) x)).1.same, (voteM i x.bal 1 (mergeC x.call (wayK m x.call.deed x.item)) (sameC (mergeC x.call (wayK m x.call.deed x.item)) x)).1.call⟩, true, (voteM i x.bal 1 (mergeC x.call (wayK m x.call.deed x.item)) (sameC (mergeC x.call (wayK m x.call.deed x.item)) x)).1⟩ else refM x i := rfl
 have T1 : Sts w F W (idxR s lg bk bs I :: rowR lg (ledCells p g m.n) :: plR p D safe :: rowsIR g m :: R) := T
 have T2 := (((T1.new (MV x) 136).new (NV i) 70).new (MV noMsg) 136).ord [3, 4, 5, 6, 0, 1, 2]
 simp only [World.size_alloc] at T2
 have hwy := spWay (R := rowR (W.heap.size + 1 + 1) (MV noMsg) :: rowR (W.heap.size + 1) (NV i) :: rowR W.heap.size (MV x) :: R) hv.sp.ok hv.sp.good hv.sp.idx hv.sp.cov x.call.deed x.item (by unfold maxLen; omega) hdk.2 T2
 have hgn := fun sm => voteM_good (st := 1) (same := sm) hi hx2 (by omega) hmg
 have hmq := hml (wayK m x.call.deed x.item)
 generalize wayK m x.call.deed x.item = q at *
 generalize mergeC x.call q = c at *
 have hac := lpre_any i x.bal c (sameC c x)
 replace hgn := hgn (sameC c x)
 generalize voteM i x.bal 1 c (sameC c x) = qq at *
 obtain ⟨now, ok⟩ := qq
 dsimp only at hgn hac hacc
 have HV := Lib.hid hv; have HAC := Lib.hid hac; have HX := Lib.hid hx1; have HGN := Lib.hid hgn; have HACC := Lib.hid hacc; have HW := Lib.hid hw; have HMQ := Lib.hid hmq; have HWY := Lib.hid hwy
 clear hv hac hx1 hx2 hx3 hx4 hgn hacc hw hi h3 hg hmn hml hmq hwy hdk hdd hmg hcg
 have r6 := (T2.ord [4, 0, 1, 2, 3, 5, 6]).row; have l6 := row_lt r6
 have r5 := (T2.ord [5, 0, 1, 2, 3, 4, 6]).row; have l5 := row_lt r5
 have r4 := (T2.ord [6, 0, 1, 2, 3, 4, 5]).row; have l4 := row_lt r4
 clear T T1 T2
 go_enter Tryz.func148, Tryz.ntmps148
 go_wp2_with fail
 refine HWY.out.mono ?_
 clear HWY r6 l6 r5 l5 r4 l4
 rintro e w1 ⟨rfl, T⟩
 generalize W.heap.size + 1 + 1 = b6 at *
 generalize W.heap.size + 1 = b5 at *
 generalize W.heap.size = b4 at *
 have T : Sts w F w1 (idxR s lg bk bs I :: rowR lg (ledCells p g m.n) :: plR p D safe :: rowsIR g m :: rowR b6 (MV noMsg) :: rowR b5 (NV i) :: rowR b4 (MV x) :: R) := T
 have r4 := (T.ord [6, 0, 1, 2, 3, 4, 5]).row; have l4 := row_lt r4
 have T2 := T.new (DV q.out) 66
 have HT := Lib.hid T2; clear T T2
 go_wp2_with fail
 refine (merge_any x.call [⟨noDeed, q.out, q.seq⟩] (by simp) (rowsIn1 (c := ⟨noDeed, q.out, q.seq⟩) (by go_simp; try rfl))).mono ?_
 rintro e w2 ⟨rfl, hb⟩
 rw [HMQ.out]
 clear HMQ
 have T3 := ((HT.out.new (CV ⟨noDeed, q.out, q.seq⟩) 68).pure hb).drop
 generalize w1.heap.size = b8 at *
 have T4 := T3.new (CV c) 68
 have HT2 := Lib.hid T4; clear T3 T4 HT r4 l4 hb
 go_upto_region 3 with fail
 generalize w2.alloc _ = w3 at *
 generalize w2.heap.size = b10 at *
 go_cut [11, 12] (fun u11 u12 wx => Sts w F wx R ∧ u12 = .bool ok ∧ ∃ b11, u11 = .pointer (some ⟨b11, 0, none⟩) ∧ Sts w F wx (rowR b11 (NV now) :: rowR b10 (CV c) :: rowR b8 (DV q.out) :: idxR s lg bk bs I :: rowR lg (ledCells p g m.n) :: plR p D safe :: rowsIR g m :: rowR b6 (MV noMsg) :: rowR b5 (NV i) :: rowR b4 (MV x) :: R))
 case first =>
  have FS : ∀ W' R', Sts w F W' (rowR b10 (CV c) :: rowR b8 (DV q.out) :: idxR s lg bk bs I :: rowR lg (ledCells p g m.n) :: plR p D safe :: rowsIR g m :: rowR b6 (MV noMsg) :: rowR b5 (NV i) :: rowR b4 (MV x) :: R') → (row? W' b10 = some (CV c) ∧ row? W' b5 = some (NV i) ∧ row? W' b4 = some (MV x) ∧ W'.cell? ⟨b4, 3, none⟩ = some (.int .i64 x.item.rep)) := fun W' R' T => ⟨T.row, (T.ord [7, 0, 1, 2, 3, 4, 5, 6, 8]).row, (T.ord [8, 0, 1, 2, 3, 4, 5, 6, 7]).row, row_cell (T.ord [8, 0, 1, 2, 3, 4, 5, 6, 7]).row 3⟩
  have T0 := HT2.out.drew
  have S0 := FS _ _ T0
  have hm0 : ∀ W', (row? W' b10 = some (CV c) ∧ row? W' b5 = some (NV i) ∧ row? W' b4 = some (MV x) ∧ W'.cell? ⟨b4, 3, none⟩ = some (.int .i64 x.item.rep)) → True := fun _ _ => trivial
  have HFS := Lib.hid FS; have HM := Lib.hid hm0; have HTD := Lib.hid T0
  clear FS hm0 HT2 T0 HACC HV HX HGN HW
  refine wp_region_stage (fun W' => (row? W' b10 = some (CV c) ∧ row? W' b5 = some (NV i) ∧ row? W' b4 = some (MV x) ∧ W'.cell? ⟨b4, 3, none⟩ = some (.int .i64 x.item.rep))) (fun W' => True) 22 (by kernel_rfl) S0 (fun hHeld => ?_)
  clear S0
  refine tk0 0 rfl ?_
  simp only [Act.put, List.setIfInBounds_toArray, List.set_cons_zero, List.set_cons_succ]
  refine tk0 1 rfl ?_
  go_frame
  refine tk0 2 rfl ?_
  go_frame
  refine tk0 3 rfl ?_
  go_frame
  refine tk0 4 rfl ?_
  go_frame
  refine tk0 5 rfl ?_
  go_frame
  refine tk0 6 rfl ?_
  go_frame
  refine tk0 7 rfl ?_
  go_frame
  refine tk0 8 rfl ?_
  go_frame
  generalize w3.drew = w4 at *
  cases hsm : eqA (CV c) (CV x.call)
  case true =>
   have hsc : sameC c x = eqA (BV x.bal) (BV ⟨0, x.item.rep⟩) := by unfold sameC; rw [hsm]; rfl
   have HPA := HAC.out
   rw [hsc] at HPA
   have HP := Lib.hid HPA; clear HPA HAC hsc
   refine tk0 9 rfl ?_
   simp only [Act.put, List.setIfInBounds_toArray, List.set_cons_zero, List.set_cons_succ]
   refine tk0 10 rfl ?_
   go_frame
   refine tk0 11 rfl ?_
   go_frame
   refine tk0 12 rfl ?_
   go_frame
   refine tk0 13 rfl ?_
   go_frame
   refine wpAnyL_ready (rs := [14, 21]) (by kernel_rfl) (by simp) ?_
   refine AllReadyL.cons0 (o := _) rfl (by kernel_rfl) (fun K hK => ?_) ?_
   ·go_simp
    refine (Ans.at (first_bal x.item.rep) HTD.out).mono ?_
    rintro e w5 ⟨rfl, T⟩
    refine hK.out _ _ (HFS.out _ _ T) (fun hHeld => ?_)
    clear hK K
    refine tk0 15 rfl ?_
    simp only [Act.put, List.setIfInBounds_toArray, List.set_cons_zero, List.set_cons_succ]
    refine tk0 16 rfl ?_
    go_frame
    refine wpAnyL_ready (rs := [17, 21]) (by kernel_rfl) (by simp) ?_
    refine AllReadyL.cons0 (o := _) rfl (by kernel_rfl) (fun K hK => ?_) ?_
    ·go_simp
     refine (Ans.at HP.out T).mono ?_
     rintro e w6 ⟨rfl, T⟩
     refine hK.out _ _ (HFS.out _ _ T) (fun hHeld => ?_)
     clear hK K
     refine tk0 18 rfl ?_
     simp only [Act.put, List.setIfInBounds_toArray, List.set_cons_zero, List.set_cons_succ]
     refine tk0 19 rfl ?_
     go_frame
     refine tk1 20 HM.out rfl ?_
     simp only [Act.put, List.setIfInBounds_toArray, List.set_cons_zero, List.set_cons_succ]
     refine wpAnyL_ready (rs := [21]) (by kernel_rfl) (by simp) ?_
     refine AllReadyL.cons0 (o := _) rfl (by kernel_rfl) (fun K hK => ?_) AllReadyL.nil
     have HT0 := Lib.hid T
     have Ta := T.new (NV noInst) 70
     try rw [size_drew] at Ta
     have HTa := Lib.hid Ta; clear Ta
     go_simp
     refine hK.out _ _ ?_ (fun hHeld => ?_)
     ·exact HFS.out _ _ HTa.out.drop
     clear hK K
     refine wpAnyL_ready (rs := [22]) (by kernel_rfl) (by simp) ?_
     refine AllReadyL.cons1 (o := _) rfl (by kernel_rfl) (fun K hK => ?_) AllReadyL.nil
     have r9 := HTa.out.row; have l9 := row_lt r9
     have T9 := HT0.out.new (NV now) 70
     have HT9 := Lib.hid T9; clear T9
     go_simp
     refine hK.out _ _ trivial (fun hHeld => ?_)
     clear hK K r9 l9 HTa
     refine tk2 23 HM.out rfl ?_
     simp only [Act.put, List.setIfInBounds_toArray, List.set_cons_zero, List.set_cons_succ]
     refine wpAnyL_done (by kernel_rfl) ?_ _
     simp only [Exit.then]
     go_step
     go_meet
     case rel => exact ⟨HT9.out.drop.drop.drop.drop.drop.drop.drop.drop.drop.drop, rfl, _, rfl, HT9.out⟩
    ·refine AllReadyL.cons0 (o := _) rfl (by kernel_rfl) (fun K hK => ?_) AllReadyL.nil
     have Ta := T.new (NV noInst) 70
     try rw [size_drew] at Ta
     have HTa := Lib.hid Ta; clear Ta
     go_simp
     refine hK.out _ _ ?_ (fun hHeld => ?_)
     ·exact HFS.out _ _ HTa.out.drop
     clear hK K
     refine wpAnyL_ready (rs := [17]) (by kernel_rfl) (by simp) ?_
     refine AllReadyL.cons0 (o := _) rfl (by kernel_rfl) (fun K hK => ?_) AllReadyL.nil
     go_simp
     refine (Ans.at HP.out HTa.out).mono ?_
     rintro e w6 ⟨rfl, T⟩
     refine hK.out _ _ (HFS.out _ _ T.drop) (fun hHeld => ?_)
     clear hK K
     refine tk0 18 rfl ?_
     simp only [Act.put, List.setIfInBounds_toArray, List.set_cons_zero, List.set_cons_succ]
     refine tk0 19 rfl ?_
     go_frame
     refine tk1 20 HM.out rfl ?_
     simp only [Act.put, List.setIfInBounds_toArray, List.set_cons_zero, List.set_cons_succ]
     have r9 := T.row; have l9 := row_lt r9
     have T9 := T.setRow (NV now)
     have HT9 := Lib.hid T9; clear T9
     refine wpAnyL_ready (rs := [22]) (by kernel_rfl) (by simp) ?_
     refine AllReadyL.cons1 (o := _) rfl (by kernel_rfl) (fun K hK => ?_) AllReadyL.nil
     go_simp
     refine hK.out _ _ trivial (fun hHeld => ?_)
     clear hK K r9 l9
     refine tk2 23 HM.out rfl ?_
     simp only [Act.put, List.setIfInBounds_toArray, List.set_cons_zero, List.set_cons_succ]
     refine wpAnyL_done (by kernel_rfl) ?_ _
     simp only [Exit.then]
     go_step
     go_meet
     case rel => exact ⟨HT9.out.drop.drop.drop.drop.drop.drop.drop.drop.drop.drop, rfl, _, rfl, HT9.out⟩
   ·refine AllReadyL.cons0 (o := _) rfl (by kernel_rfl) (fun K hK => ?_) AllReadyL.nil
    have Ta := HTD.out.new (NV noInst) 70
    try rw [size_drew] at Ta
    have HTa := Lib.hid Ta; clear Ta
    go_simp
    refine hK.out _ _ ?_ (fun hHeld => ?_)
    ·exact HFS.out _ _ HTa.out.drop
    clear hK K
    refine wpAnyL_ready (rs := [14]) (by kernel_rfl) (by simp) ?_
    refine AllReadyL.cons0 (o := _) rfl (by kernel_rfl) (fun K hK => ?_) AllReadyL.nil
    go_simp
    refine (Ans.at (first_bal x.item.rep) HTa.out).mono ?_
    rintro e w5 ⟨rfl, T⟩
    refine hK.out _ _ (HFS.out _ _ T.drop) (fun hHeld => ?_)
    clear hK K
    refine tk0 15 rfl ?_
    simp only [Act.put, List.setIfInBounds_toArray, List.set_cons_zero, List.set_cons_succ]
    refine tk0 16 rfl ?_
    go_frame
    refine wpAnyL_ready (rs := [17]) (by kernel_rfl) (by simp) ?_
    refine AllReadyL.cons0 (o := _) rfl (by kernel_rfl) (fun K hK => ?_) AllReadyL.nil
    go_simp
    refine (Ans.at HP.out T).mono ?_
    rintro e w6 ⟨rfl, T⟩
    refine hK.out _ _ (HFS.out _ _ T.drop) (fun hHeld => ?_)
    clear hK K
    refine tk0 18 rfl ?_
    simp only [Act.put, List.setIfInBounds_toArray, List.set_cons_zero, List.set_cons_succ]
    refine tk0 19 rfl ?_
    go_frame
    refine tk1 20 HM.out rfl ?_
    simp only [Act.put, List.setIfInBounds_toArray, List.set_cons_zero, List.set_cons_succ]
    have r9 := T.row; have l9 := row_lt r9
    have T9 := T.setRow (NV now)
    have HT9 := Lib.hid T9; clear T9
    refine wpAnyL_ready (rs := [22]) (by kernel_rfl) (by simp) ?_
    refine AllReadyL.cons1 (o := _) rfl (by kernel_rfl) (fun K hK => ?_) AllReadyL.nil
    go_simp
    refine hK.out _ _ trivial (fun hHeld => ?_)
    clear hK K r9 l9
    refine tk2 23 HM.out rfl ?_
    simp only [Act.put, List.setIfInBounds_toArray, List.set_cons_zero, List.set_cons_succ]
    refine wpAnyL_done (by kernel_rfl) ?_ _
    simp only [Exit.then]
    go_step
    go_meet
    case rel => exact ⟨HT9.out.drop.drop.drop.drop.drop.drop.drop.drop.drop.drop, rfl, _, rfl, HT9.out⟩
  case false =>
   have hsc : sameC c x = false := by unfold sameC; rw [hsm]; rfl
   have HPA := HAC.out
   rw [hsc] at HPA
   have HP := Lib.hid HPA; clear HPA HAC hsc
   refine sk0 9 rfl ?_
   simp only [Act.put, List.setIfInBounds_toArray, List.set_cons_zero, List.set_cons_succ]
   refine sk0 10 rfl ?_
   go_frame
   refine sk0 11 rfl ?_
   go_frame
   refine sk0 12 rfl ?_
   go_frame
   refine sk0 13 rfl ?_
   go_frame
   refine sk0 14 rfl ?_
   go_frame
   refine sk0 15 rfl ?_
   go_frame
   refine tk0 16 rfl ?_
   simp only [Act.put, List.setIfInBounds_toArray, List.set_cons_zero, List.set_cons_succ]
   refine wpAnyL_ready (rs := [17, 21]) (by kernel_rfl) (by simp) ?_
   refine AllReadyL.cons0 (o := _) rfl (by kernel_rfl) (fun K hK => ?_) ?_
   ·go_simp
    refine (Ans.at HP.out HTD.out).mono ?_
    rintro e w6 ⟨rfl, T⟩
    refine hK.out _ _ (HFS.out _ _ T) (fun hHeld => ?_)
    clear hK K
    refine tk0 18 rfl ?_
    simp only [Act.put, List.setIfInBounds_toArray, List.set_cons_zero, List.set_cons_succ]
    refine tk0 19 rfl ?_
    go_frame
    refine tk1 20 HM.out rfl ?_
    simp only [Act.put, List.setIfInBounds_toArray, List.set_cons_zero, List.set_cons_succ]
    refine wpAnyL_ready (rs := [21]) (by kernel_rfl) (by simp) ?_
    refine AllReadyL.cons0 (o := _) rfl (by kernel_rfl) (fun K hK => ?_) AllReadyL.nil
    have HT0 := Lib.hid T
    have Ta := T.new (NV noInst) 70
    try rw [size_drew] at Ta
    have HTa := Lib.hid Ta; clear Ta
    go_simp
    refine hK.out _ _ ?_ (fun hHeld => ?_)
    ·exact HFS.out _ _ HTa.out.drop
    clear hK K
    refine wpAnyL_ready (rs := [22]) (by kernel_rfl) (by simp) ?_
    refine AllReadyL.cons1 (o := _) rfl (by kernel_rfl) (fun K hK => ?_) AllReadyL.nil
    have r9 := HTa.out.row; have l9 := row_lt r9
    have T9 := HT0.out.new (NV now) 70
    have HT9 := Lib.hid T9; clear T9
    go_simp
    refine hK.out _ _ trivial (fun hHeld => ?_)
    clear hK K r9 l9 HTa
    refine tk2 23 HM.out rfl ?_
    simp only [Act.put, List.setIfInBounds_toArray, List.set_cons_zero, List.set_cons_succ]
    refine wpAnyL_done (by kernel_rfl) ?_ _
    simp only [Exit.then]
    go_step
    go_meet
    case rel => exact ⟨HT9.out.drop.drop.drop.drop.drop.drop.drop.drop.drop.drop, rfl, _, rfl, HT9.out⟩
   ·refine AllReadyL.cons0 (o := _) rfl (by kernel_rfl) (fun K hK => ?_) AllReadyL.nil
    have Ta := HTD.out.new (NV noInst) 70
    try rw [size_drew] at Ta
    have HTa := Lib.hid Ta; clear Ta
    go_simp
    refine hK.out _ _ ?_ (fun hHeld => ?_)
    ·exact HFS.out _ _ HTa.out.drop
    clear hK K
    refine wpAnyL_ready (rs := [17]) (by kernel_rfl) (by simp) ?_
    refine AllReadyL.cons0 (o := _) rfl (by kernel_rfl) (fun K hK => ?_) AllReadyL.nil
    go_simp
    refine (Ans.at HP.out HTa.out).mono ?_
    rintro e w6 ⟨rfl, T⟩
    refine hK.out _ _ (HFS.out _ _ T.drop) (fun hHeld => ?_)
    clear hK K
    refine tk0 18 rfl ?_
    simp only [Act.put, List.setIfInBounds_toArray, List.set_cons_zero, List.set_cons_succ]
    refine tk0 19 rfl ?_
    go_frame
    refine tk1 20 HM.out rfl ?_
    simp only [Act.put, List.setIfInBounds_toArray, List.set_cons_zero, List.set_cons_succ]
    have r9 := T.row; have l9 := row_lt r9
    have T9 := T.setRow (NV now)
    have HT9 := Lib.hid T9; clear T9
    refine wpAnyL_ready (rs := [22]) (by kernel_rfl) (by simp) ?_
    refine AllReadyL.cons1 (o := _) rfl (by kernel_rfl) (fun K hK => ?_) AllReadyL.nil
    go_simp
    refine hK.out _ _ trivial (fun hHeld => ?_)
    clear hK K r9 l9
    refine tk2 23 HM.out rfl ?_
    simp only [Act.put, List.setIfInBounds_toArray, List.set_cons_zero, List.set_cons_succ]
    refine wpAnyL_done (by kernel_rfl) ?_ _
    simp only [Exit.then]
    go_step
    go_meet
    case rel => exact ⟨HT9.out.drop.drop.drop.drop.drop.drop.drop.drop.drop.drop, rfl, _, rfl, HT9.out⟩
 case rest =>
  obtain ⟨-, rfl, b11, rfl, T⟩ := hcut
  clear HT2 HAC
  have HT := Lib.hid T; clear T
  cases ok
  case false =>
   have T := HT.out
   have r5 := (T.ord [8, 0, 1, 2, 3, 4, 5, 6, 7, 9]).row; have l5 := row_lt r5
   have r4 := (T.ord [9, 0, 1, 2, 3, 4, 5, 6, 7, 8]).row; have l4 := row_lt r4
   have HRF := Lib.hid (Ans.at (refuse_any x i) T); clear T HT
   go_wp2_with fail
   refine HRF.out.mono ?_
   clear HRF r5 l5 r4 l4
   rintro e w2 ⟨rfl, T⟩
   have T2 := T.ord [7, 0, 1, 2, 3, 4, 5, 6, 8, 9]
   have r6 := T2.row; have l6 := row_lt r6
   have T3 := T2.setRow (MV (refM x i).out)
   have HT := Lib.hid T3; clear T T2 T3
   go_wp2
   have ea : preM m x i = refM x i := by rw [HACC.out]; exact if_neg (by simp)
   refine ret_row_tmp (MV (refM x i).out) (.bool (refM x i).ok) TMsg_und rfl (by kernel_rfl) rfl rfl rfl rfl (TMsg_size _) HT.out.row ?_
   unfold VotPost
   rw [ea, refM_now, nowR_same HW.out]
   have T9 := (HT.out.ord [0, 1, 2, 3, 8, 9, 4, 5, 6, 7]).drop.drop.drop.drop.drop.drop
   exact ⟨rfl, I, D, safe, HV.out.same HW.out, T9⟩
  case true =>
   have T := HT.out
   have r4 := (T.ord [9, 0, 1, 2, 3, 4, 5, 6, 7, 8]).row; have l4 := row_lt r4
   have hb7 : Ans Tryz.prog 147 #[.agg (MV x), .int .i64 2] (.agg (MV ⟨2, x.to, x.frm, x.item, x.bal, noBallot, 0, false, noCall⟩)) := back_any x 2
   have HB7 := Lib.hid hb7; clear hb7
   go_wp2_with fail
   refine (Ans.at HB7.out T).mono ?_
   clear T HT r4 l4 HB7
   rintro e w2 ⟨rfl, T⟩
   have T2 := T.new (MV ⟨2, x.to, x.frm, x.item, x.bal, noBallot, 0, false, noCall⟩) 136
   have HT := Lib.hid T2; clear T T2
   go_upto_region 7 with fail
   generalize hw3 : w2.alloc _ = w5 at *
   generalize w2.heap.size = b13 at *
   clear hw3
   have FS : ∀ W' R', Sts w F W' (rowR b11 (NV now) :: R') → (row? W' b11 = some (NV now) ∧ W'.cell? ⟨b11, 19, none⟩ = some (.bool now.same)) := fun W' R' T => ⟨T.row, row_cell T.row 19⟩
   have T0 := HT.out.drew.ord [1, 0, 2, 3, 4, 5, 6, 7, 8, 9, 10]
   have S0 := FS _ _ T0
   have hm0 : ∀ W', (row? W' b11 = some (NV now) ∧ W'.cell? ⟨b11, 19, none⟩ = some (.bool now.same)) → (row? W' b11 = some (NV now) ∧ W'.cell? ⟨b11, 19, none⟩ = some (.bool now.same)) := fun _ h => h
   have HFS := Lib.hid FS; have HM := Lib.hid hm0; have HTD := Lib.hid T0
   clear FS hm0 HT T0
   refine wp_region_stage (fun W' => (row? W' b11 = some (NV now) ∧ W'.cell? ⟨b11, 19, none⟩ = some (.bool now.same))) (fun W' => (row? W' b11 = some (NV now) ∧ W'.cell? ⟨b11, 19, none⟩ = some (.bool now.same))) 5 (by kernel_rfl) S0 (fun hHeld => ?_)
   clear S0
   refine tk0 0 rfl ?_
   simp only [Act.put, List.setIfInBounds_toArray, List.set_cons_zero, List.set_cons_succ]
   refine tk0 1 rfl ?_
   go_frame
   refine tk1 2 HM.out rfl ?_
   simp only [Act.put, List.setIfInBounds_toArray, List.set_cons_zero, List.set_cons_succ]
   refine tk1 3 HM.out rfl ?_
   go_frame
   refine tk0 4 rfl ?_
   simp only [Act.put, List.setIfInBounds_toArray, List.set_cons_zero, List.set_cons_succ]
   generalize w5.drew = w6 at *
   have T := HTD.out.swap
   have r := T.row; have l := row_lt r; have c0 := row_cell r 10; have f := row_frozen r
   have T3 : Sts w F (w6.setCell ⟨b13, 10, none⟩ (.bool now.same)) (rowR b13 (MV ⟨2, x.to, x.frm, x.item, x.bal, noBallot, 0, now.same, noCall⟩) :: _) := T.setCell 10 (.bool now.same)
   have HT := Lib.hid T3; clear T T3 HTD
   refine wpAnyL_ready (rs := [5]) (by kernel_rfl) (by simp) ?_
   refine AllReadyL.cons1 (o := _) rfl (by kernel_rfl) (fun K hK => ?_) AllReadyL.nil
   go_simp
   refine hK.out _ _ (HFS.out _ _ HT.out.swap) (fun hHeld => ?_)
   clear hK K r l c0 f
   refine tk2 6 HM.out rfl ?_
   simp only [Act.put, List.setIfInBounds_toArray, List.set_cons_zero, List.set_cons_succ]
   generalize w6.setCell ⟨b13, 10, none⟩ _ = w7 at *
   have r := HT.out.row; have l := row_lt r
   have T3 := HT.out.setRow (MV ⟨2, x.to, x.frm, x.item, x.bal, noBallot, 0, now.same, now.call⟩)
   have HT2 := Lib.hid T3; clear T3 HT
   refine wpAnyL_ready (rs := [7]) (by kernel_rfl) (by simp) ?_
   refine AllReadyL.cons1 (o := _) rfl (by kernel_rfl) (fun K hK => ?_) AllReadyL.nil
   go_simp
   refine hK.out _ _ (HFS.out _ _ HT2.out.swap) (fun hHeld => ?_)
   clear hK K r l HFS HM
   refine wpAnyL_done (by kernel_rfl) ?_ _
   try simp only [Exit.then]
   generalize w7.setRow b13 _ = w8 at *
   have ea : preM m x i = ⟨⟨2, x.to, x.frm, x.item, x.bal, noBallot, 0, now.same, now.call⟩, true, now⟩ := by rw [HACC.out, if_pos trivial]
   have HEA := Lib.hid ea
   clear ea HACC
   generalize (⟨2, x.to, x.frm, x.item, x.bal, noBallot, 0, now.same, now.call⟩ : Msg) = out at *
   have T8 := (HT2.out.ord [0, 1, 9, 10, 4, 5, 6, 7, 8, 2, 3])
   have HT3 := Lib.hid T8; clear HT2 T8
   have HT2 := HT3; clear HT3
   go_upto_region 8 with fail
   have FS : ∀ W' R', Sts w F W' (rowR b13 (MV out) :: rowR b11 (NV now) :: rowR b5 (NV i) :: rowR b4 (MV x) :: R') → (row? W' b13 = some (MV out) ∧ row? W' b11 = some (NV now) ∧ row? W' b5 = some (NV i) ∧ row? W' b4 = some (MV x)) := fun W' R' T => ⟨T.row, T.row1, T.row2, (T.ord [3, 0, 1, 2]).row⟩
   have T0 := HT2.out.drew
   have S0 := FS _ _ T0
   have hm0 : ∀ W', (row? W' b13 = some (MV out) ∧ row? W' b11 = some (NV now) ∧ row? W' b5 = some (NV i) ∧ row? W' b4 = some (MV x)) → (row? W' b13 = some (MV out) ∧ row? W' b11 = some (NV now) ∧ row? W' b5 = some (NV i) ∧ row? W' b4 = some (MV x)) := fun _ h => h
   have HFS := Lib.hid FS; have HM := Lib.hid hm0; have HTD := Lib.hid T0
   clear FS hm0 HT2 T0
   refine wp_region_stage (fun W' => (row? W' b13 = some (MV out) ∧ row? W' b11 = some (NV now) ∧ row? W' b5 = some (NV i) ∧ row? W' b4 = some (MV x))) (fun W' => (row? W' b13 = some (MV out) ∧ row? W' b11 = some (NV now) ∧ row? W' b5 = some (NV i) ∧ row? W' b4 = some (MV x))) 7 (by kernel_rfl) S0 (fun hHeld => ?_)
   clear S0
   refine tk0 0 rfl ?_
   simp only [Act.put, List.setIfInBounds_toArray, List.set_cons_zero, List.set_cons_succ]
   refine tk1 1 HM.out rfl ?_
   simp only [Act.put, List.setIfInBounds_toArray, List.set_cons_zero, List.set_cons_succ]
   refine tk1 2 HM.out rfl ?_
   go_frame
   refine tk1 3 HM.out rfl ?_
   go_frame
   refine tk1 4 HM.out rfl ?_
   go_frame
   refine tk1 5 HM.out rfl ?_
   go_frame
   refine wpAnyL_ready (rs := [6]) (by kernel_rfl) (by simp) ?_
   refine AllReadyL.cons0 (o := _) rfl (by kernel_rfl) (fun K hK => ?_) AllReadyL.nil
   go_simp
   have T2 := HTD.out.ord [4, 5, 6, 7, 8, 0, 1, 2, 3, 9, 10]
   refine (vknow (R := rowR b6 (MV noMsg) :: rowR b13 (MV out) :: rowR b11 (NV now) :: rowR b5 (NV i) :: rowR b4 (MV x) :: rowR b10 (CV c) :: rowR b8 (DV q.out) :: R) HV.out hk x.item i now HW.out HX.out HGN.out (by first | exact T2)).mono ?_
   clear T2 HTD
   rintro e w4 ⟨rfl, I', D', safe', hv', T⟩
   have T : Sts w F w4 (idxR s lg bk bs I' :: rowR lg (ledCells p g (nowR m x.item now).n) :: plR p D' safe' :: rowsIR g (nowR m x.item now) :: rowR b6 (MV noMsg) :: rowR b13 (MV out) :: rowR b11 (NV now) :: rowR b5 (NV i) :: rowR b4 (MV x) :: rowR b10 (CV c) :: rowR b8 (DV q.out) :: R) := T
   have T2 := T.ord [4, 5, 6, 7, 8, 0, 1, 2, 3, 9, 10]
   refine hK.out _ _ (HFS.out _ _ T2.drop) (fun hHeld => ?_)
   clear hK K
   have r6 := T2.row; have l6 := row_lt r6
   have T3 := T2.setRow (MV out)
   have HT := Lib.hid T3; have HV' := Lib.hid hv'; clear T T2 T3 hv'
   refine wpAnyL_ready (rs := [7]) (by kernel_rfl) (by simp) ?_
   refine AllReadyL.cons1 (o := _) rfl (by kernel_rfl) (fun K hK => ?_) AllReadyL.nil
   go_simp
   refine hK.out _ _ (HFS.out _ _ HT.out.drop) (fun hHeld => ?_)
   clear hK K r6 l6
   refine tk2 8 HM.out rfl ?_
   simp only [Act.put, List.setIfInBounds_toArray, List.set_cons_zero, List.set_cons_succ]
   refine wpAnyL_done (by kernel_rfl) ?_ _
   try simp only [Exit.then]
   go_wp2
   refine ret_row_tmp (MV out) (.bool true) TMsg_und rfl (by kernel_rfl) rfl rfl rfl rfl (TMsg_size _) HT.out.row ?_
   unfold VotPost
   rw [HEA.out]
   have T9 := (HT.out.ord [0, 1, 2, 3, 4, 9, 10, 5, 6, 7, 8]).drop.drop.drop.drop.drop.drop.drop
   exact ⟨rfl, I', D', safe', HV'.out, T9⟩
end Go.Proofs.YtomlilkobhkoiaaGreatDoor
