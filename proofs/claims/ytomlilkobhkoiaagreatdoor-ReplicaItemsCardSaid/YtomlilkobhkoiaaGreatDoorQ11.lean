/- Several texts in one. -/
import Derived.Test.YtomlilkobhkoiaaGreatDoorQ10
import Derived.Test.YtomlilkobhkoiaaGreatDoorQ4
import Derived.Deep.LoopGhost
/- Layer 3: rows of items: a thing at a place. -/
namespace Go.Proofs.YtomlilkobhkoiaaGreatDoor
open Go.RowKit
set_option linter.unusedVariables false
set_option maxRecDepth 20000
attribute [local go_sem] row_alloc row_drew row_drewN row_ext row_setCell row_setRow size_ext setRow_alloc setRow_drew loadOf storeOf piece_lit loadVal_at storeVal_at allOne_lit buildOf buildRes_some
attribute [local go_sem high] cell_alloc frozen_alloc setCell_alloc cell_ext frozen_ext cell_setRow frozen_setRow
attribute [local go_sem ↓] TDeed_ld0 TDeed_st0 TDeed_fd0 TDeed_bd0
attribute [local go_sem] TDeed_size TDeed_one TDeed_piece TDeed_c0 TDeed_c1 TDeed_c2 TDeed_c3 TDeed_c4 TDeed_c5 TDeed_set_kind TDeed_set_key TDeed_set_val TDeed_set_ver TDeed_set_ses TDeed_set_num TDeed_ld TDeed_st TDeed_f_kind TDeed_f_key TDeed_f_val TDeed_f_ver TDeed_f_ses TDeed_f_num TDeed_bd TDeed_fl TDeed_fl_kind TDeed_fl_key TDeed_fl_val TDeed_fl_ver TDeed_fl_ses TDeed_fl_num
attribute [local go_sem high] TDeed_eql TDeed_neq
attribute [local go_sem ↓] index_deps0 load_deps0 store_deps0
attribute [local go_sem] DV_piece DV_size DV_one index_deps load_deps store_deps
attribute [local go_sem high] TDeps_eql TDeps_neq
attribute [local go_sem ↓] TCall_ld0 TCall_st0 TCall_fd0 TCall_bd0
attribute [local go_sem] TCall_size TCall_one TCall_piece TCall_c0 TCall_c1 TCall_c2 TCall_c3 TCall_c4 TCall_c5 TCall_c6 TCall_c7 TCall_c8 TCall_c9 TCall_c10 TCall_c11 TCall_c12 TCall_c13 TCall_p_deed TCall_put_deed TCall_p_deps TCall_put_deps TCall_set_seq TCall_ld TCall_st TCall_f_deed TCall_f_deps TCall_f_seq TCall_bd TCall_fl TCall_fl_deed TCall_fl_deps TCall_fl_seq
attribute [local go_sem high] TCall_eql TCall_neq
attribute [local go_sem ↓] TItem_ld0 TItem_st0 TItem_fd0 TItem_bd0
attribute [local go_sem] TItem_size TItem_one TItem_piece TItem_c0 TItem_c1 TItem_set_rep TItem_set_num TItem_ld TItem_st TItem_f_rep TItem_f_num TItem_bd TItem_fl TItem_fl_rep TItem_fl_num
attribute [local go_sem high] TItem_eql TItem_neq
attribute [local go_sem ↓] TBallot_ld0 TBallot_st0 TBallot_fd0 TBallot_bd0
attribute [local go_sem] TBallot_size TBallot_one TBallot_piece TBallot_c0 TBallot_c1 TBallot_set_round TBallot_set_rep TBallot_ld TBallot_st TBallot_f_round TBallot_f_rep TBallot_bd TBallot_fl TBallot_fl_round TBallot_fl_rep
attribute [local go_sem high] TBallot_eql TBallot_neq
attribute [local go_sem ↓] TInst_ld0 TInst_st0 TInst_fd0 TInst_bd0
attribute [local go_sem] TInst_size TInst_one TInst_piece TInst_c0 TInst_c1 TInst_c2 TInst_c3 TInst_c4 TInst_c5 TInst_c6 TInst_c7 TInst_c8 TInst_c9 TInst_c10 TInst_c11 TInst_c12 TInst_c13 TInst_c14 TInst_c15 TInst_c16 TInst_c17 TInst_c18 TInst_c19 TInst_p_prom TInst_put_prom TInst_p_vote TInst_put_vote TInst_set_status TInst_p_call TInst_put_call TInst_set_same TInst_ld TInst_st TInst_f_prom TInst_f_vote TInst_f_status TInst_f_call TInst_f_same TInst_bd TInst_fl TInst_fl_prom TInst_fl_vote TInst_fl_status TInst_fl_call TInst_fl_same
attribute [local go_sem high] TInst_eql TInst_neq
attribute [local go_sem] rcells_n
theorem inst_i : ∃ i, Tryz.prog.info? 70 = some i ∧ i.zero = some (.agg (NV noInst)) ∧ i.size = 20 ∧ i.bytes = 176 := by
 have h : (Tryz.prog.info? 70).map (fun i => (i.zero, i.size, i.bytes)) = some (some (.agg (NV noInst)), 20, 176) := by kernel_rfl
 cases hi : Tryz.prog.info? 70 with
 | none => rw [hi] at h; simp at h
 | some i => rw [hi] at h; simp at h; exact ⟨i, rfl, h.1, h.2.1, h.2.2⟩
theorem bool_i : ∃ i, Tryz.prog.info? 4 = some i ∧ i.zero = some (.bool false) ∧ i.size = 1 ∧ i.bytes = 1 := by
 have h : (Tryz.prog.info? 4).map (fun i => (i.zero, i.size, i.bytes)) = some (some (.bool false), 1, 1) := by kernel_rfl
 cases hi : Tryz.prog.info? 4 with
 | none => rw [hi] at h; simp at h
 | some i => rw [hi] at h; simp at h; exact ⟨i, rfl, h.1, h.2.1, h.2.2⟩
theorem inst_slice0 (len : Nat) (parts : Array (Nat × Value)) : Instr.buildSlice 211 len parts = buildSem 211 len parts := rfl
theorem inst_slice1 (w : World) (x : Inst) : (buildSem 211 1 #[(0, .agg (NV x))]).run Tryz.prog w = .ok (.slice (some ⟨w.heap.size, 0, none⟩) 1 1) (w.alloc (.cells (NV x) 70)) :=
 build_slice1 Tryz.underlying211 (z := .agg (NV noInst)) (n := 20) (by kernel_rfl) (by omega) w (TInst_size x) (by omega)
attribute [local go_sem ↓] inst_slice0
attribute [local go_sem] inst_slice1
theorem add_lit0 (b j : Nat) : (⟨b, 0, none⟩ : Addr).add j = ⟨b, j, none⟩ := by unfold Addr.add; split <;> simp_all
/-- The cells of a new thing lie in its block. -/
theorem news_row {W : World} {b : Nat} {X : Array Value} (h : row? W b = some X) : ∀ j u, X.toList[j]? = some u → W.cell? ((⟨b, 0, none⟩ : Addr).add j) = some u := fun j u hu => by
 rw [add_lit0, row_cell h, ← Array.getElem?_toList]; exact hu
theorem set_shut {w W : World} {F : Nat → Prop} {R : List Res} {g k : Nat} {nn : Int} {f : Nat → List (Option Inst)} {l : List (Option Inst)} {v h : Nat → Value} {x y : Value} (hk : k < 7)
  (T : Sts w F W (rowR g (rcells nn (updF v k x) (updF h k y)) :: vecR 70 20 x (l.length + 1) (vl NVo l ++ (NV noInst).toList) :: vecR 4 1 y (l.length + 1) (vl HVo l ++ [Value.bool false]) :: othersR (updF f k l) v h k :: R)) :
  Sts w F W (rowsIR g { n := nn, f := updF f k (l ++ [none]) } :: R) := by
 have eo : othersR (updF f k l) v h k = othersR (updF f k (l ++ [none])) (updF v k x) (updF h k y) k := by
  unfold othersR
  congr 1
  refine row_others fun i hi => ?_
  unfold pairR
  rw [updF_other _ _ hi, updF_other _ _ hi, updF_other _ _ hi, updF_other _ _ hi]
 rw [eo] at T
 refine Sts.rowsShut (m := ⟨nn, updF f k (l ++ [none])⟩) (v := updF v k x) (h := updF h k y) hk ?_
 unfold instsR bitsR
 dsimp only
 rw [updF_same, updF_same, updF_same, vl_snoc, vl_snoc, List.length_append]
 exact T
set_option maxHeartbeats 4000000 in
theorem irSetD (g : Nat) (m : RowsM) (hn : 0 ≤ m.n ∧ m.n ≤ 7) (x : Item) (t : Inst) :
  Does Tryz.prog 61 #[.pointer (some ⟨g, 0, none⟩), .agg (IV x), .agg (NV t)] [rowsIR g m] (.bool (goodI x m.n)) [rowsIR g (setM m x t)] := by
 intro W G hS
 have T := (((Sts.start hS).new (IV x) 33).new (NV t) 70).rot2
 simp only [World.size_alloc] at T
 clear hS
 have cg := itemGood_any x m.n
 cases hg : goodI x m.n
 case false =>
  have hsm : setM m x t = m := by unfold setM; rw [hg, if_neg (by simp)]
  rw [hsm]
  rw [hg] at cg
  clear hsm hg
  go_enter Tryz.func61, Tryz.ntmps61
  go_wp2_with fail
  generalize (W.alloc _).alloc _ = w3 at *
  generalize W.heap.size + 1 = g2 at *
  generalize W.heap.size = g1 at *
  have r1 := T.drop.drop.row; have l1 := row_lt r1; have c1 := row_cell r1
  obtain ⟨v, h, TO⟩ := T.rowsOpen (k := 0) (by omega)
  have c0 : w3.cell? ⟨g, 0, none⟩ = some (.int .i64 m.n) := row_cell TO.row 0
  have l0 := row_lt TO.row
  clear TO
  refine wp_region_ext (by kernel_rfl) (by kernel_rfl) ?_
  repeat (go_big_quiet_step (first | (go_at_call 107; exact cg.quiet)))
  refine wpQuiet_nil ?_
  rintro _ ⟨x9, rfl⟩
  have T := T.ext x9
  clear r1 l1 c1 c0 l0
  generalize ext _ x9 = w4 at *
  go_wp2
  go_ret
  exact ⟨rfl, T.swap.drop.swap.drop⟩
 case true =>
  rw [hg] at cg
  have hg2 := hg
  unfold goodI at hg2
  rw [decide_eq_true_iff] at hg2
  obtain ⟨xr, xn⟩ := x
  dsimp only at hg2
  obtain ⟨k, rfl⟩ := Int.eq_ofNat_of_zero_le hg2.1
  obtain ⟨j, rfl⟩ : ∃ j : Nat, xn = (j : Int) + 1 := ⟨(xn - 1).toNat, by omega⟩
  have hk : k < 7 := by omega
  have hk7 : (k : Int) < 7 := by omega
  have hj64 : j < 64 := by omega
  have hsm : setM m ⟨(k : Int), (j : Int) + 1⟩ t = { m with f := updF m.f k (putL (m.f k) j t) } := by
   unfold setM
   rw [hg, if_pos rfl]
   have e1 : ((k : Int)).toNat = k := by omega
   have e2 : ((j : Int) + 1).toNat - 1 = j := by omega
   dsimp only
   rw [e1, e2]
  rw [hsm]
  clear hsm hg
  go_enter Tryz.func61, Tryz.ntmps61
  go_wp2_with fail
  generalize (W.alloc _).alloc _ = w3 at *
  generalize W.heap.size + 1 = g2 at *
  generalize W.heap.size = g1 at *
  have r1 := T.drop.drop.row; have r2 := T.row1; have l1 := row_lt r1; have l2 := row_lt r2; have c1 := row_cell r1
  obtain ⟨v, h, TO⟩ := T.rowsOpen hk
  have c0 : w3.cell? ⟨g, 0, none⟩ = some (.int .i64 m.n) := row_cell TO.row 0
  have l0 := row_lt TO.row
  clear TO
  refine wp_region_ext (by kernel_rfl) (by kernel_rfl) ?_
  repeat (go_big_quiet_step (first | (go_at_call 107; exact cg.quiet)))
  refine wpQuiet_nil ?_
  rintro _ ⟨x9, rfl⟩
  have T := T.ext x9
  clear r1 r2 l1 l2 c1 c0 l0
  generalize ext _ x9 = w4 at *
  go_wp2_with fail
  go_loopg [] (j + 1 - (m.f k).length) (fun gk wr => ∃ l : List (Option Inst), (∃ p, l = m.f k ++ List.replicate p none ∧ (p = 0 ∨ l.length ≤ j + 1)) ∧ gk = j + 1 - l.length ∧ Sts W G wr (rowsIR g { m with f := updF m.f k l } :: rowR g2 (NV t) :: rowR g1 (IV ⟨(k : Int), (j : Int) + 1⟩) :: []))
  case atStart =>
   refine ⟨m.f k, ⟨0, by simp, .inl rfl⟩, rfl, ?_⟩
   have e : updF m.f k (m.f k) = m.f := funext fun i => by unfold updF; split <;> simp_all
   rw [e]
   exact T
  case round =>
   clear T
   obtain ⟨l, hl, rfl, T⟩ := hrel
   have HL := Lib.hid hl; clear hl
   obtain ⟨v, h, T⟩ := T.rowsOpen hk
   dsimp only at T
   rw [updF_same] at T
   obtain ⟨A, c, hv⟩ := vec_shape2 T.drop
   obtain ⟨B, d, hh⟩ := vec_shape2 T.drop.drop
   have hcv : wr.cell? ⟨g, 1 + k, none⟩ = some (.slice A l.length c) := by rw [row_cell T.row, rcells_v _ _ _ _ hk, hv]
   have hch : wr.cell? ⟨g, 8 + k, none⟩ = some (.slice B l.length d) := by rw [row_cell T.row, rcells_h _ _ _ _ hk, hh]
   have r0 := T.row; have r1 := T.drop.drop.row3; have l0 := row_lt r0; have l1 := row_lt r1; have c1 := row_cell r1
   by_cases hlj : l.length < j + 1
   ·have hgd : decide ((l.length : Int) < (j : Int) + 1) = true := by rw [decide_eq_true_iff]; omega
    go_wp2_with fail
    refine wp_region_ext (by kernel_rfl) (by kernel_rfl) ?_
    repeat (go_big_quiet_step (fail))
    refine wpQuiet_nil ?_
    rintro _ ⟨x9, rfl⟩
    have T := T.ext x9
    clear hcv hch r0 r1 l0 l1 c1
    generalize ext _ x9 = w5 at *
    obtain ⟨w6, hw6⟩ : ∃ w6, w6 = w5.alloc (.cells (NV noInst) 70) := ⟨_, rfl⟩
    have T := T.new (NV noInst) 70
    rw [← hw6] at T
    rw [noInst_lit] at hw6
    go_wp2_with fail
    rw [← hw6]
    clear hw6
    generalize w5.heap.size = g3 at *
    obtain ⟨L0, hL0⟩ : ∃ L0, L0 = [rowR g (rcells m.n v h), rowR g3 (NV noInst), rowR g1 (IV ⟨(k : Int), (j : Int) + 1⟩), othersR (updF m.f k l) v h k, rowR g2 (NV t)] := ⟨_, rfl⟩
    have T0 : Sts W G w6 (instsR (v k) l :: bitsR (h k) l :: L0) := by
     rw [hL0]
     exact T.ord [2, 3, 1, 0, 6, 4, 5]
    have FS : ∀ W' a b, Sts W G W' (a :: b :: L0) → (W'.cell? ⟨g1, 0, none⟩ = some (.int .i64 k) ∧ row? W' g3 = some (NV noInst) ∧ W'.cell? ⟨g, 1 + k, none⟩ = some (.slice A l.length c) ∧ W'.cell? ⟨g, 8 + k, none⟩ = some (.slice B l.length d)) := fun W' a b T => by
     rw [hL0] at T
     exact ⟨row_cell T.row4 0, T.row3, by rw [row_cell T.row2, rcells_v _ _ _ _ hk, hv], by rw [row_cell T.row2, rcells_h _ _ _ _ hk, hh]⟩
    have S0 := FS _ _ _ T0.drew
    have HFS := Lib.hid FS
    have HL0 := Lib.hid hL0
    have HT0 := Lib.hid T0
    clear FS hL0 T0 T
    have hk0 : ¬ (k : Int) < 0 := by omega
    have hm : ∀ W', (W'.cell? ⟨g1, 0, none⟩ = some (.int .i64 k) ∧ row? W' g3 = some (NV noInst) ∧ W'.cell? ⟨g, 1 + k, none⟩ = some (.slice A l.length c) ∧ W'.cell? ⟨g, 8 + k, none⟩ = some (.slice B l.length d)) → (W'.cell? ⟨g1, 0, none⟩ = some (.int .i64 k)) := fun W' h => h.1
    have HM := Lib.hid hm
    have h63 : l.length + 1 ≤ maxLen := by unfold maxLen; omega
    have hby : (l.length + 1) * 176 ≤ 140737488355328 := by omega
    have hbb : (l.length + 1) * 1 ≤ 140737488355328 := by omega
    have hone : ∀ u ∈ (NV noInst).toList, u.oneCell' = true := by
     rw [noInst_lit]; simp [Value.oneCell']
    have honb : ∀ u ∈ [Value.bool false], u.oneCell' = true := by simp [Value.oneCell']
    have HO := Lib.hid hone; have HOB := Lib.hid honb
    clear hm hone honb
    refine wp_region_stage (fun W' => (W'.cell? ⟨g1, 0, none⟩ = some (.int .i64 k) ∧ row? W' g3 = some (NV noInst) ∧ W'.cell? ⟨g, 1 + k, none⟩ = some (.slice A l.length c) ∧ W'.cell? ⟨g, 8 + k, none⟩ = some (.slice B l.length d))) (fun W' => W'.cell? ⟨g1, 0, none⟩ = some (.int .i64 k)) 28 (by kernel_rfl) S0 (fun hHeld => ?_)
    clear S0
    refine tk0 0 rfl ?_
    simp only [Act.put, List.setIfInBounds_toArray, List.set_cons_zero, List.set_cons_succ]
    refine tk0 1 rfl ?_
    go_frame
    refine tk0 2 rfl ?_
    go_frame
    refine tk1 3 HM.out rfl ?_
    simp only [Act.put, List.setIfInBounds_toArray, List.set_cons_zero, List.set_cons_succ]
    refine tk1 4 HM.out rfl ?_
    go_frame
    refine tk1 5 HM.out rfl ?_
    go_frame
    refine tk0 6 rfl ?_
    simp only [Act.put, List.setIfInBounds_toArray, List.set_cons_zero, List.set_cons_succ]
    refine tk0 7 rfl ?_
    go_frame
    refine tk0 8 rfl ?_
    go_frame
    refine tk0 9 rfl ?_
    go_frame
    refine tk0 10 rfl ?_
    go_frame
    refine tk0 11 rfl ?_
    go_frame
    refine tk0 12 rfl ?_
    go_frame
    refine tk0 13 rfl ?_
    go_frame
    refine tk1 16 HM.out rfl ?_
    simp only [Act.put, List.setIfInBounds_toArray, List.set_cons_zero, List.set_cons_succ]
    refine tk1 17 HM.out rfl ?_
    go_frame
    refine tk1 18 HM.out rfl ?_
    go_frame
    refine tk1 19 HM.out rfl ?_
    go_frame
    refine tk1 20 HM.out rfl ?_
    go_frame
    refine tk1 21 HM.out rfl ?_
    go_frame
    refine tk0 22 rfl ?_
    simp only [Act.put, List.setIfInBounds_toArray, List.set_cons_zero, List.set_cons_succ]
    refine tk1 25 HM.out rfl ?_
    simp only [Act.put, List.setIfInBounds_toArray, List.set_cons_zero, List.set_cons_succ]
    refine tk1 26 HM.out rfl ?_
    go_frame
    refine tk1 29 HM.out rfl ?_
    simp only [Act.put, List.setIfInBounds_toArray, List.set_cons_zero, List.set_cons_succ]
    refine tk1 30 HM.out rfl ?_
    go_frame
    obtain ⟨i0, hi, hz0, hz1, hz2⟩ := inst_i
    obtain ⟨i1, hi1, hy0, hy1, hy2⟩ := bool_i
    have T0 : Sts W G w6 (vecR 70 20 (.slice A l.length c) l.length (vl NVo l) :: vecR 4 1 (.slice B l.length d) l.length (vl HVo l) :: L0) := by
     have := HT0.out
     unfold instsR bitsR at this
     rw [hv, hh] at this
     exact this
    clear HT0
    refine wpAnyL_ready (rs := [14, 23]) (by kernel_rfl) (by simp) ?_
    refine AllReadyL.cons0 (o := _) rfl (by kernel_rfl) (fun K hK => ?_) ?_
    ·have Ta := (T0.new (NV noInst) 70).drew
     have HTa := Lib.hid Ta; clear T0 Ta
     go_simp
     refine hK.out _ _ ?_ (fun hHeld => ?_)
     ·exact HFS.out _ _ _ HTa.out.drop
     clear hK K
     refine wpAnyL_ready (rs := [15, 23]) (by kernel_rfl) (by simp) ?_
     refine AllReadyL.cons0 (o := _) rfl (by kernel_rfl) (fun K hK => ?_) ?_
     ·have Ta := HTa.out.ord [1, 0, 2]
      refine step_append_vec (by rfl) _ _ _ (by rfl) 70 i0 _ 20 176 Tryz.underlying211 hi hz0 hz1 hz2 rfl (by omega) (.slice A l.length c) l.length (vl NVo l) (by rfl) Ta ⟨w6.heap.size, 0, none⟩ 1 1 (NV noInst).toList (by rfl) (by rfl) (news_row Ta.row1) HO.out (by omega) h63 hby ?_
      intro gv' cap1 w1 T1
      refine hK.out _ _ ?_ (fun hHeld => ?_)
      ·exact HFS.out _ _ _ T1.drop
      clear hK K Ta
      refine wpAnyL_ready (rs := [23]) (by kernel_rfl) (by simp) ?_
      refine AllReadyL.cons0 (o := _) rfl (by kernel_rfl) (fun K hK => ?_) AllReadyL.nil
      have T2 := T1.new #[.bool false] 4
      have HT2 := Lib.hid T2; clear T1 T2
      go_simp
      refine hK.out _ _ ?_ (fun hHeld => ?_)
      ·exact HFS.out _ _ _ HT2.out.drop.drop
      clear hK K
      refine wpAnyL_ready (rs := [24]) (by kernel_rfl) (by simp) ?_
      refine AllReadyL.cons0 (o := _) rfl (by kernel_rfl) (fun K hK => ?_) AllReadyL.nil
      have T2 := HT2.out.ord [3, 0, 1, 2]
      refine step_append_vec (by rfl) _ _ _ (by rfl) 4 i1 _ 1 1 Tryz.underlying213 hi1 hy0 hy1 hy2 rfl (by omega) (.slice B l.length d) l.length (vl HVo l) (by rfl) T2 ⟨w1.heap.size, 0, none⟩ 1 1 [.bool false] (by rfl) (by rfl) (news_row T2.row1) HOB.out (by omega) h63 hbb ?_
      intro gb' cap2 w2 T3
      refine hK.out _ _ ?_ (fun hHeld => ?_)
      ·exact HFS.out _ _ _ T3.drop.drop
      clear hK K T2 HT2 HTa
      have T4 := (T3.ord [1, 3, 0, 2]).drop.drop.swap
      clear T3
      -- T : the two slices, L0
      refine tk0 27 rfl ?_
      simp only [Act.put, List.getElem_toArray, List.getElem_cons_succ, List.getElem_cons_zero, List.setIfInBounds_toArray, List.set_cons_zero, List.set_cons_succ]
      have T4 := T4
      rw [HL0.out] at T4
      have rg := T4.row2
      have fg := row_frozen rg (1 + k)
      have T5 := T4.ord [2, 0, 1, 3, 4, 5, 6] |>.setCell (1 + k) (.slice (some ⟨gv', 0, none⟩) (l.length + 1) cap1)
      rw [rcells_setv _ _ _ _ _ hk] at T5
      have hz5 := row_cell T5.row4 0
      refine wpAnyL_ready (rs := [28]) (by kernel_rfl) (by simp) ?_
      refine AllReadyL.cons1 (o := _) rfl (by kernel_rfl) (fun K hK => ?_) AllReadyL.nil
      go_simp
      refine hK.out _ _ ?_ (fun hHeld => ?_)
      ·exact hz5
      clear hK K rg fg hz5
      refine tk2 31 HM.out rfl ?_
      simp only [Act.put, List.setIfInBounds_toArray, List.set_cons_zero, List.set_cons_succ]
      have rg := T5.row
      have cg5 : (w2.setCell ⟨g, 1 + k, none⟩ (.slice (some ⟨gv', 0, none⟩) (l.length + 1) cap1)).cell? ⟨g, 8 + k, none⟩ = some (.slice B l.length d) := by rw [row_cell rg, rcells_h _ _ _ _ hk, hh]
      have fg := row_frozen rg (8 + k)
      have T6 := T5.setCell (8 + k) (.slice (some ⟨gb', 0, none⟩) (l.length + 1) cap2)
      rw [rcells_seth _ _ _ _ _ hk] at T6
      have hz6 := row_cell T6.row4 0
      have HT5 := Lib.hid T5; have HT6 := Lib.hid T6; clear T5 T6 rg
      refine wpAnyL_ready (rs := [32]) (by kernel_rfl) (by simp) ?_
      refine AllReadyL.cons1 (o := _) rfl (by kernel_rfl) (fun K hK => ?_) AllReadyL.nil
      go_simp
      refine hK.out _ _ ?_ (fun hHeld => ?_)
      ·exact hz6
      clear hK K
      refine wpAnyL_done (by kernel_rfl) ?_ _
      clear cg5 fg hz6
      go_wp2
      go_roundg (j + 1 - (l.length + 1))
      case measure => omega
      case rel =>
       have eq : { m with f := updF m.f k (l ++ [none]) } = ({ n := m.n, f := updF m.f k (l ++ [none]) } : RowsM) := rfl
       refine ⟨l ++ [none], ?_, by simp, ?_⟩
       ·obtain ⟨p, hlp, hpl⟩ := HL.out
        refine ⟨p + 1, ?_, .inr ?_⟩
        ·rw [hlp, List.append_assoc, List.replicate_succ']
        ·rw [List.length_append]; simp; omega
       ·have T7 := (HT6.out.ord [3, 0, 1, 2, 5, 6, 4]).drop
        exact set_shut hk T7
     ·refine AllReadyL.cons0 (o := _) rfl (by kernel_rfl) (fun K hK => ?_) AllReadyL.nil
      have T2 := HTa.out.new #[.bool false] 4
      have HT2 := Lib.hid T2; clear T2
      go_simp
      refine hK.out _ _ ?_ (fun hHeld => ?_)
      ·exact HFS.out _ _ _ HT2.out.drop.drop
      clear hK K
      refine wpAnyL_ready (rs := [15]) (by kernel_rfl) (by simp) ?_
      refine AllReadyL.cons0 (o := _) rfl (by kernel_rfl) (fun K hK => ?_) AllReadyL.nil
      have T2 := HT2.out.ord [2, 1, 0, 3]
      refine step_append_vec (by rfl) _ _ _ (by rfl) 70 i0 _ 20 176 Tryz.underlying211 hi hz0 hz1 hz2 rfl (by omega) (.slice A l.length c) l.length (vl NVo l) (by rfl) T2 ⟨w6.heap.size, 0, none⟩ 1 1 (NV noInst).toList (by rfl) (by rfl) (news_row T2.row1) HO.out (by omega) h63 hby ?_
      intro gv' cap1 w1 T3
      refine hK.out _ _ ?_ (fun hHeld => ?_)
      ·exact HFS.out _ _ _ T3.drop.drop
      clear hK K T2 HT2 HTa
      refine wpAnyL_ready (rs := [24]) (by kernel_rfl) (by simp) ?_
      refine AllReadyL.cons0 (o := _) rfl (by kernel_rfl) (fun K hK => ?_) AllReadyL.nil
      simp only [size_drew, World.size_alloc] at T3
      have T2 := T3.ord [3, 2, 0, 1]
      refine step_append_vec (by rfl) _ _ _ (by rfl) 4 i1 _ 1 1 Tryz.underlying213 hi1 hy0 hy1 hy2 rfl (by omega) (.slice B l.length d) l.length (vl HVo l) (by rfl) T2 ⟨w6.heap.size + 1, 0, none⟩ 1 1 [.bool false] (by rfl) (by rfl) (news_row T2.row1) HOB.out (by omega) h63 hbb ?_
      intro gb' cap2 w2 T4
      refine hK.out _ _ ?_ (fun hHeld => ?_)
      ·exact HFS.out _ _ _ T4.drop.drop
      clear hK K T2 T3
      have T4 := (T4.ord [1, 3, 0, 2]).drop.drop.swap
      -- T : the two slices, L0
      refine tk0 27 rfl ?_
      simp only [Act.put, List.getElem_toArray, List.getElem_cons_succ, List.getElem_cons_zero, List.setIfInBounds_toArray, List.set_cons_zero, List.set_cons_succ]
      have T4 := T4
      rw [HL0.out] at T4
      have rg := T4.row2
      have fg := row_frozen rg (1 + k)
      have T5 := T4.ord [2, 0, 1, 3, 4, 5, 6] |>.setCell (1 + k) (.slice (some ⟨gv', 0, none⟩) (l.length + 1) cap1)
      rw [rcells_setv _ _ _ _ _ hk] at T5
      have hz5 := row_cell T5.row4 0
      refine wpAnyL_ready (rs := [28]) (by kernel_rfl) (by simp) ?_
      refine AllReadyL.cons1 (o := _) rfl (by kernel_rfl) (fun K hK => ?_) AllReadyL.nil
      go_simp
      refine hK.out _ _ ?_ (fun hHeld => ?_)
      ·exact hz5
      clear hK K rg fg hz5
      refine tk2 31 HM.out rfl ?_
      simp only [Act.put, List.setIfInBounds_toArray, List.set_cons_zero, List.set_cons_succ]
      have rg := T5.row
      have cg5 : (w2.setCell ⟨g, 1 + k, none⟩ (.slice (some ⟨gv', 0, none⟩) (l.length + 1) cap1)).cell? ⟨g, 8 + k, none⟩ = some (.slice B l.length d) := by rw [row_cell rg, rcells_h _ _ _ _ hk, hh]
      have fg := row_frozen rg (8 + k)
      have T6 := T5.setCell (8 + k) (.slice (some ⟨gb', 0, none⟩) (l.length + 1) cap2)
      rw [rcells_seth _ _ _ _ _ hk] at T6
      have hz6 := row_cell T6.row4 0
      have HT5 := Lib.hid T5; have HT6 := Lib.hid T6; clear T5 T6 rg
      refine wpAnyL_ready (rs := [32]) (by kernel_rfl) (by simp) ?_
      refine AllReadyL.cons1 (o := _) rfl (by kernel_rfl) (fun K hK => ?_) AllReadyL.nil
      go_simp
      refine hK.out _ _ ?_ (fun hHeld => ?_)
      ·exact hz6
      clear hK K
      refine wpAnyL_done (by kernel_rfl) ?_ _
      clear cg5 fg hz6
      go_wp2
      go_roundg (j + 1 - (l.length + 1))
      case measure => omega
      case rel =>
       have eq : { m with f := updF m.f k (l ++ [none]) } = ({ n := m.n, f := updF m.f k (l ++ [none]) } : RowsM) := rfl
       refine ⟨l ++ [none], ?_, by simp, ?_⟩
       ·obtain ⟨p, hlp, hpl⟩ := HL.out
        refine ⟨p + 1, ?_, .inr ?_⟩
        ·rw [hlp, List.append_assoc, List.replicate_succ']
        ·rw [List.length_append]; simp; omega
       ·have T7 := (HT6.out.ord [3, 0, 1, 2, 5, 6, 4]).drop
        exact set_shut hk T7
    refine AllReadyL.cons0 (o := _) rfl (by kernel_rfl) (fun K hK => ?_) AllReadyL.nil
    have Ta := (T0.new #[.bool false] 4).drew
    have HTa := Lib.hid Ta; clear T0 Ta
    go_simp
    refine hK.out _ _ ?_ (fun hHeld => ?_)
    ·exact HFS.out _ _ _ HTa.out.drop
    clear hK K
    refine wpAnyL_ready (rs := [14]) (by kernel_rfl) (by simp) ?_
    refine AllReadyL.cons0 (o := _) rfl (by kernel_rfl) (fun K hK => ?_) AllReadyL.nil
    have T2 := HTa.out.new (NV noInst) 70
    have HT2 := Lib.hid T2; clear T2
    go_simp
    refine hK.out _ _ ?_ (fun hHeld => ?_)
    ·exact HFS.out _ _ _ HT2.out.drop.drop
    clear hK K
    refine wpAnyL_ready (rs := [15]) (by kernel_rfl) (by simp) ?_
    refine AllReadyL.cons0 (o := _) rfl (by kernel_rfl) (fun K hK => ?_) AllReadyL.nil
    have T2 := HT2.out
    simp only [size_drew, World.size_alloc] at T2
    have T2 := T2.ord [2, 0, 1, 3]
    refine step_append_vec (by rfl) _ _ _ (by rfl) 70 i0 _ 20 176 Tryz.underlying211 hi hz0 hz1 hz2 rfl (by omega) (.slice A l.length c) l.length (vl NVo l) (by rfl) T2 ⟨w6.heap.size + 1, 0, none⟩ 1 1 (NV noInst).toList (by rfl) (by rfl) (news_row T2.row1) HO.out (by omega) h63 hby ?_
    intro gv' cap1 w1 T3
    refine hK.out _ _ ?_ (fun hHeld => ?_)
    ·exact HFS.out _ _ _ T3.drop.drop
    clear hK K T2 HT2 HTa
    refine wpAnyL_ready (rs := [24]) (by kernel_rfl) (by simp) ?_
    refine AllReadyL.cons0 (o := _) rfl (by kernel_rfl) (fun K hK => ?_) AllReadyL.nil
    have T2 := T3.ord [3, 2, 0, 1]
    refine step_append_vec (by rfl) _ _ _ (by rfl) 4 i1 _ 1 1 Tryz.underlying213 hi1 hy0 hy1 hy2 rfl (by omega) (.slice B l.length d) l.length (vl HVo l) (by rfl) T2 ⟨w6.heap.size, 0, none⟩ 1 1 [.bool false] (by rfl) (by rfl) (news_row T2.row1) HOB.out (by omega) h63 hbb ?_
    intro gb' cap2 w2 T4
    refine hK.out _ _ ?_ (fun hHeld => ?_)
    ·exact HFS.out _ _ _ T4.drop.drop
    clear hK K T2 T3
    have T4 := (T4.ord [1, 3, 0, 2]).drop.drop.swap
    -- T : the two slices, L0
    refine tk0 27 rfl ?_
    simp only [Act.put, List.getElem_toArray, List.getElem_cons_succ, List.getElem_cons_zero, List.setIfInBounds_toArray, List.set_cons_zero, List.set_cons_succ]
    have T4 := T4
    rw [HL0.out] at T4
    have rg := T4.row2
    have fg := row_frozen rg (1 + k)
    have T5 := T4.ord [2, 0, 1, 3, 4, 5, 6] |>.setCell (1 + k) (.slice (some ⟨gv', 0, none⟩) (l.length + 1) cap1)
    rw [rcells_setv _ _ _ _ _ hk] at T5
    have hz5 := row_cell T5.row4 0
    refine wpAnyL_ready (rs := [28]) (by kernel_rfl) (by simp) ?_
    refine AllReadyL.cons1 (o := _) rfl (by kernel_rfl) (fun K hK => ?_) AllReadyL.nil
    go_simp
    refine hK.out _ _ ?_ (fun hHeld => ?_)
    ·exact hz5
    clear hK K rg fg hz5
    refine tk2 31 HM.out rfl ?_
    simp only [Act.put, List.setIfInBounds_toArray, List.set_cons_zero, List.set_cons_succ]
    have rg := T5.row
    have cg5 : (w2.setCell ⟨g, 1 + k, none⟩ (.slice (some ⟨gv', 0, none⟩) (l.length + 1) cap1)).cell? ⟨g, 8 + k, none⟩ = some (.slice B l.length d) := by rw [row_cell rg, rcells_h _ _ _ _ hk, hh]
    have fg := row_frozen rg (8 + k)
    have T6 := T5.setCell (8 + k) (.slice (some ⟨gb', 0, none⟩) (l.length + 1) cap2)
    rw [rcells_seth _ _ _ _ _ hk] at T6
    have hz6 := row_cell T6.row4 0
    have HT5 := Lib.hid T5; have HT6 := Lib.hid T6; clear T5 T6 rg
    refine wpAnyL_ready (rs := [32]) (by kernel_rfl) (by simp) ?_
    refine AllReadyL.cons1 (o := _) rfl (by kernel_rfl) (fun K hK => ?_) AllReadyL.nil
    go_simp
    refine hK.out _ _ ?_ (fun hHeld => ?_)
    ·exact hz6
    clear hK K
    refine wpAnyL_done (by kernel_rfl) ?_ _
    clear cg5 fg hz6
    go_wp2
    go_roundg (j + 1 - (l.length + 1))
    case measure => omega
    case rel =>
     have eq : { m with f := updF m.f k (l ++ [none]) } = ({ n := m.n, f := updF m.f k (l ++ [none]) } : RowsM) := rfl
     refine ⟨l ++ [none], ?_, by simp, ?_⟩
     ·obtain ⟨p, hlp, hpl⟩ := HL.out
      refine ⟨p + 1, ?_, .inr ?_⟩
      ·rw [hlp, List.append_assoc, List.replicate_succ']
      ·rw [List.length_append]; simp; omega
     ·have T7 := (HT6.out.ord [3, 0, 1, 2, 5, 6, 4]).drop
      exact set_shut hk T7
   ·have hgd : decide ((l.length : Int) < (j : Int) + 1) = false := by rw [decide_eq_false_iff_not]; omega
    go_wp2_with fail
    refine wp_region_ext (by kernel_rfl) (by kernel_rfl) ?_
    repeat (go_big_quiet_step (fail))
    refine wpQuiet_nil ?_
    rintro _ ⟨x9, rfl⟩
    have T := T.ext x9
    clear hcv hch r0 r1 l0 l1 c1
    generalize ext _ x9 = w5 at *
    obtain ⟨p, hlp, hpl⟩ := HL.out
    have hput := putL_of t hlp hpl (show j + 1 ≤ l.length by omega)
    have HP := Lib.hid hput
    clear hput hlp hpl HL
    go_upto_region 6 with fail
    have hjl : j < l.length := by omega
    obtain ⟨gv, cv, curv, hv1, rv, sv, SV⟩ := vec_at NVo_size (T.drew).swap (by omega) hjl
    have T2 := (SV (some t)).rot2
    obtain ⟨gb, cb, curb, hb1, rb, sb, SB⟩ := vec_at1 HVo_size T2 hjl
    have T3 := SB (some t) (.bool true) rfl
    -- bits', insts', row g, others, row g2, row g1
    have hv2 : v k = .slice (some ⟨gv, 0, none⟩) l.length cv := hv1
    have hh2 : h k = .slice (some ⟨gb, 0, none⟩) l.length cb := hb1
    have RS : ∀ W' L', Sts W G W' (rowR g (rcells m.n v h) :: rowR g2 (NV t) :: rowR g1 (IV ⟨(k : Int), (j : Int) + 1⟩) :: L') → row? W' g2 = some (NV t) ∧ W'.cell? ⟨g1, 0, none⟩ = some (.int .i64 k) ∧ W'.cell? ⟨g1, 1, none⟩ = some (.int .i64 ((j : Int) + 1)) ∧ W'.cell? ⟨g, 1 + k, none⟩ = some (.slice (some ⟨gv, 0, none⟩) l.length cv) ∧ W'.cell? ⟨g, 8 + k, none⟩ = some (.slice (some ⟨gb, 0, none⟩) l.length cb) := fun W' L' T =>
     ⟨T.row1, row_cell T.row2 0, row_cell T.row2 1, by rw [row_cell T.row, rcells_v _ _ _ _ hk, hv2], by rw [row_cell T.row, rcells_h _ _ _ _ hk, hh2]⟩
    have F0 := RS w5.drew _ (T.drew.perm (.cons _ (List.perm_append_comm (l₁ := [instsR (v k) l, bitsR (h k) l, othersR (updF m.f k l) v h k]) (l₂ := [rowR g2 (NV t), rowR g1 (IV ⟨(k : Int), (j : Int) + 1⟩)]))))
    have F1 := RS _ _ (T2.perm ((List.perm_append_comm (l₁ := [bitsR (h k) l, vecR 70 20 (v k) l.length (vl NVo (l.set j (some t)))]) (l₂ := [rowR g (rcells m.n v h), othersR (updF m.f k l) v h k, rowR g2 (NV t), rowR g1 (IV ⟨(k : Int), (j : Int) + 1⟩)])).trans (.cons _ (List.perm_append_comm (l₁ := [othersR (updF m.f k l) v h k]) (l₂ := [rowR g2 (NV t), rowR g1 (IV ⟨(k : Int), (j : Int) + 1⟩)]) |>.append_right _))))
    have F2 := RS _ _ (T3.perm ((List.perm_append_comm (l₁ := [vecR 4 1 (h k) l.length (vl HVo (l.set j (some t))), vecR 70 20 (v k) l.length (vl NVo (l.set j (some t)))]) (l₂ := [rowR g (rcells m.n v h), othersR (updF m.f k l) v h k, rowR g2 (NV t), rowR g1 (IV ⟨(k : Int), (j : Int) + 1⟩)])).trans (.cons _ (List.perm_append_comm (l₁ := [othersR (updF m.f k l) v h k]) (l₂ := [rowR g2 (NV t), rowR g1 (IV ⟨(k : Int), (j : Int) + 1⟩)]) |>.append_right _))))
    have eo : othersR (updF m.f k l) v h k = othersR (updF m.f k (l.set j (some t))) v h k := by
     unfold othersR
     congr 1
     refine row_others fun i hi => ?_
     unfold pairR
     rw [updF_other _ _ hi, updF_other _ _ hi]
    have TF : Sts W G ((w5.drew.setRow gv (splice curv (j * 20) (NVo (some t)))).setCell ⟨gb, j, none⟩ (.bool true)) [rowsIR g { m with f := updF m.f k (putL (m.f k) j t) }] := by
     rw [HP.out]
     refine Sts.rowsShut (m := { m with f := updF m.f k (l.set j (some t)) }) (v := v) (h := h) hk ?_
     show Sts W G _ [rowR g (rcells m.n v h), instsR (v k) (updF m.f k (l.set j (some t)) k), bitsR (h k) (updF m.f k (l.set j (some t)) k), othersR (updF m.f k (l.set j (some t))) v h k]
     rw [← eo, updF_same]
     have hl2 : (l.set j (some t)).length = l.length := List.length_set
     unfold instsR bitsR
     rw [hl2]
     have T4 := T3.rot2
     have T4 := T4.swap2
     exact (T4.perm (List.perm_append_comm (l₁ := [rowR g (rcells m.n v h), vecR 70 20 (v k) l.length (vl NVo (l.set j (some t))), vecR 4 1 (h k) l.length (vl HVo (l.set j (some t))), othersR (updF m.f k l) v h k]) (l₂ := [rowR g2 (NV t), rowR g1 (IV ⟨(k : Int), (j : Int) + 1⟩)]))).drop.drop
    have HTF := Lib.hid TF
    have z1 : row? w5 gv = some curv := rv
    have z2 : (w5.setRow gv (splice curv (j * 20) (NVo (some t)))).cell? ⟨gb, j, none⟩ = some (curb[j]'sb) := (row_cell rb j).trans (Array.getElem?_eq_getElem sb)
    have z3 : (w5.setRow gv (splice curv (j * 20) (NVo (some t)))).frozen? ⟨gb, j, none⟩ = false := row_frozen rb j
    have z4 := row_lt z1
    have hk0 : ¬ (k : Int) < 0 := by omega
    have hj7 : (j : Int) < (l.length : Int) := by omega
    have hj0 : (0 : Int) ≤ (j : Int) := by omega
    have hw1 : IntKind.i64.wrap ((j : Int) + 1 - 1) = j := by rw [IntKind.wrap_i64]; omega
    have hw2 : IntKind.i64.wrap (j : Int) = j := by rw [IntKind.wrap_i64]; omega
    have G0 := Lib.hid F0; have G1 := Lib.hid F1; have G2 := Lib.hid F2
    clear F0 F1 F2 RS TF SB SV T T2 T3 eo HP rv rb hv1 hb1
    have e20 : NVo (some t) = NV t := rfl
    rw [e20] at G1 G2 HTF z2 z3
    by_cases hz : j * 20 = 0 ∧ curv.size = 20
    ·have hZ : splice curv (j * 20) (NV t) = NV t := by
      rw [hz.1]
      refine append_of_gets (by rw [splice_size, hz.2]; rfl) fun i hi => ?_
      have h20 : (NV t).size = 20 := rfl
      rw [splice_get, if_pos ⟨Nat.zero_le _, by omega, by omega⟩, Nat.sub_zero]
     rw [hZ] at G1 G2 HTF z2 z3
     go_region_held3 (fun W' => (row? W' g2 = some (NV t) ∧ W'.cell? ⟨g1, 0, none⟩ = some (.int .i64 k) ∧ W'.cell? ⟨g1, 1, none⟩ = some (.int .i64 ((j : Int) + 1)) ∧ W'.cell? ⟨g, 1 + k, none⟩ = some (.slice (some ⟨gv, 0, none⟩) l.length cv) ∧ W'.cell? ⟨g, 8 + k, none⟩ = some (.slice (some ⟨gb, 0, none⟩) l.length cb)))
      (first | assumption | exact G0.out | exact G1.out | exact G2.out)
      (fail)
     simp only [Exit.then]
     go_wp2
     go_ret
     exact ⟨rfl, HTF.out⟩
    ·rw [not_and] at hz
     go_region_held3 (fun W' => (row? W' g2 = some (NV t) ∧ W'.cell? ⟨g1, 0, none⟩ = some (.int .i64 k) ∧ W'.cell? ⟨g1, 1, none⟩ = some (.int .i64 ((j : Int) + 1)) ∧ W'.cell? ⟨g, 1 + k, none⟩ = some (.slice (some ⟨gv, 0, none⟩) l.length cv) ∧ W'.cell? ⟨g, 8 + k, none⟩ = some (.slice (some ⟨gb, 0, none⟩) l.length cb)))
      (first | assumption | exact G0.out | exact G1.out | exact G2.out)
      (fail)
     simp only [Exit.then]
     go_wp2
     go_ret
     exact ⟨rfl, HTF.out⟩
end Go.Proofs.YtomlilkobhkoiaaGreatDoor
/- Things in memory, in another order that is known. Nothing of the program stands here. -/
namespace Go.Proofs.YtomlilkobhkoiaaGreatDoor
open Go.RowKit
theorem Sts.ordr {w W : World} {F : Nat → Prop} {L L' : List Res} (h : Sts w F W L) (p : List Nat) (hp : p.isPerm (List.range p.length) = true := by rfl) (e : pickL L p = L' := by rfl) : Sts w F W L' := by
 rw [← e]; exact h.perm (pick_perm L p hp)
end Go.Proofs.YtomlilkobhkoiaaGreatDoor
/- The document's layer 9: items, and what is known of each: that is known. -/
namespace Go.Proofs.YtomlilkobhkoiaaGreatDoor
open Go.RowKit
set_option linter.unusedVariables false
set_option maxRecDepth 20000
attribute [local go_sem] row_alloc row_drew row_drewN row_ext row_setCell row_setRow size_ext setRow_alloc setRow_drew loadOf storeOf piece_lit loadVal_at storeVal_at allOne_lit buildOf buildRes_some
attribute [local go_sem high] cell_alloc frozen_alloc setCell_alloc cell_ext frozen_ext cell_setRow frozen_setRow
attribute [local go_sem ↓] TDeed_ld0 TDeed_st0 TDeed_fd0 TDeed_bd0
attribute [local go_sem] TDeed_size TDeed_one TDeed_piece TDeed_c0 TDeed_c1 TDeed_c2 TDeed_c3 TDeed_c4 TDeed_c5 TDeed_set_kind TDeed_set_key TDeed_set_val TDeed_set_ver TDeed_set_ses TDeed_set_num TDeed_ld TDeed_st TDeed_f_kind TDeed_f_key TDeed_f_val TDeed_f_ver TDeed_f_ses TDeed_f_num TDeed_bd TDeed_fl TDeed_fl_kind TDeed_fl_key TDeed_fl_val TDeed_fl_ver TDeed_fl_ses TDeed_fl_num
attribute [local go_sem high] TDeed_eql TDeed_neq
attribute [local go_sem ↓] index_deps0 load_deps0 store_deps0
attribute [local go_sem] DV_piece DV_size DV_one index_deps load_deps store_deps
attribute [local go_sem high] TDeps_eql TDeps_neq
attribute [local go_sem ↓] TCall_ld0 TCall_st0 TCall_fd0 TCall_bd0
attribute [local go_sem] TCall_size TCall_one TCall_piece TCall_c0 TCall_c1 TCall_c2 TCall_c3 TCall_c4 TCall_c5 TCall_c6 TCall_c7 TCall_c8 TCall_c9 TCall_c10 TCall_c11 TCall_c12 TCall_c13 TCall_p_deed TCall_put_deed TCall_p_deps TCall_put_deps TCall_set_seq TCall_ld TCall_st TCall_f_deed TCall_f_deps TCall_f_seq TCall_bd TCall_fl TCall_fl_deed TCall_fl_deps TCall_fl_seq
attribute [local go_sem high] TCall_eql TCall_neq
attribute [local go_sem ↓] TItem_ld0 TItem_st0 TItem_fd0 TItem_bd0
attribute [local go_sem] TItem_size TItem_one TItem_piece TItem_c0 TItem_c1 TItem_set_rep TItem_set_num TItem_ld TItem_st TItem_f_rep TItem_f_num TItem_bd TItem_fl TItem_fl_rep TItem_fl_num
attribute [local go_sem high] TItem_eql TItem_neq
attribute [local go_sem ↓] TBallot_ld0 TBallot_st0 TBallot_fd0 TBallot_bd0
attribute [local go_sem] TBallot_size TBallot_one TBallot_piece TBallot_c0 TBallot_c1 TBallot_set_round TBallot_set_rep TBallot_ld TBallot_st TBallot_f_round TBallot_f_rep TBallot_bd TBallot_fl TBallot_fl_round TBallot_fl_rep
attribute [local go_sem high] TBallot_eql TBallot_neq
attribute [local go_sem ↓] TInst_ld0 TInst_st0 TInst_fd0 TInst_bd0
attribute [local go_sem] TInst_size TInst_one TInst_piece TInst_c0 TInst_c1 TInst_c2 TInst_c3 TInst_c4 TInst_c5 TInst_c6 TInst_c7 TInst_c8 TInst_c9 TInst_c10 TInst_c11 TInst_c12 TInst_c13 TInst_c14 TInst_c15 TInst_c16 TInst_c17 TInst_c18 TInst_c19 TInst_p_prom TInst_put_prom TInst_p_vote TInst_put_vote TInst_set_status TInst_p_call TInst_put_call TInst_set_same TInst_ld TInst_st TInst_f_prom TInst_f_vote TInst_f_status TInst_f_call TInst_f_same TInst_bd TInst_fl TInst_fl_prom TInst_fl_vote TInst_fl_status TInst_fl_call TInst_fl_same
attribute [local go_sem high] TInst_eql TInst_neq
attribute [local go_sem ↓] inst_slice0
attribute [local go_sem] inst_slice1
abbrev Ent := Item × Inst
section
variable {w W : World} {F : Nat → Prop} {R : List Res} {b : Nat} {L : List Ent}
end
theorem item_slice0 (len : Nat) (parts : Array (Nat × Value)) : Instr.buildSlice 89 len parts = buildSem 89 len parts := rfl
theorem item_slice1 (w : World) (x : Item) : (buildSem 89 1 #[(0, .agg (IV x))]).run Tryz.prog w = .ok (.slice (some ⟨w.heap.size, 0, none⟩) 1 1) (w.alloc (.cells (IV x) 33)) :=
 build_slice1 Tryz.underlying89 (z := .agg (IV noItem)) (n := 2) (by kernel_rfl) (by omega) w (TItem_size x) (by omega)
attribute [local go_sem ↓] item_slice0
attribute [local go_sem] item_slice1
theorem item_i : ∃ i, Tryz.prog.info? 33 = some i ∧ i.zero = some (.agg (IV noItem)) ∧ i.size = 2 ∧ i.bytes = 16 := by
 have h : (Tryz.prog.info? 33).map (fun i => (i.zero, i.size, i.bytes)) = some (some (.agg (IV noItem)), 2, 16) := by kernel_rfl
 cases hi : Tryz.prog.info? 33 with
 | none => rw [hi] at h; simp at h
 | some i => rw [hi] at h; simp at h; exact ⟨i, rfl, h.1, h.2.1, h.2.2⟩
end Go.Proofs.YtomlilkobhkoiaaGreatDoor
