/- Several texts in one. -/
import Derived.Test.YtpganpiidgkofaaZ32
import Derived.Test.YtpganpiidgkofaaZ11
/- Layer 9, plain: what is known of an item behind a store; how much stands on a plate. -/
namespace Go.Proofs.Ytpganpiidgkofaa
open Go.RowKit
set_option linter.unusedVariables false
theorem putL_get (l : List (Option Inst)) (i : Nat) (t : Inst) (j : Nat) : ((putL l i t)[j]?).join = if j = i then some t else (l[j]?).join := by
  unfold putL
  rw [List.getElem?_set]
  by_cases h : i = j
  · subst h
    rw [if_pos rfl, if_pos rfl, if_pos (by rw [List.length_append, List.length_replicate]; omega)]
    rfl
  · rw [if_neg h, if_neg (fun e => h e.symm), List.getElem?_append]
    split
    · rfl
    · rename_i hl
      rw [List.getElem?_eq_none (l := l) (by omega), List.getElem?_replicate]
      split <;> rfl
theorem getM_set_same {m : RowsM} {x : Item} (t : Inst) (h : goodI x m.n = true) : getM (setM m x t) x = some t := by
  unfold getM
  rw [setM_n, h, if_pos rfl]
  unfold setM
  rw [h, if_pos rfl]
  dsimp only
  rw [updF_same, putL_get, if_pos rfl]
theorem getM_set_other {m : RowsM} {x y : Item} (t : Inst) (h : goodI x m.n = true) (hne : x ≠ y) : getM (setM m x t) y = getM m y := by
  unfold getM
  rw [setM_n]
  by_cases hy : goodI y m.n = true
  · rw [if_pos hy, if_pos hy]
    unfold setM
    rw [if_pos h]
    dsimp only
    by_cases hr : y.rep.toNat = x.rep.toNat
    · rw [hr, updF_same, putL_get, if_neg]
      intro e
      unfold goodI at h hy
      rw [decide_eq_true_iff] at h hy
      apply hne
      have h1 : x.rep = y.rep := by omega
      have h2 : x.num = y.num := by omega
      cases x; cases y; simp_all
    · rw [updF_other _ _ hr]
  · rw [if_neg hy, if_neg hy]
theorem getM_new (n : Int) (x : Item) : getM ⟨n, fun _ => []⟩ x = none := by unfold getM; split <;> rfl
theorem RowsGood.new (n : Int) : RowsGood ⟨n, fun _ => []⟩ := fun x t h => by rw [getM_new] at h; cases h
theorem RowsGood.set {m : RowsM} (h : RowsGood m) {x : Item} {t : Inst} (hx : goodI x m.n = true) (ht : goodN t m.n = true) : RowsGood (setM m x t) := fun y u hy => by
  rw [setM_n]
  by_cases e : x = y
  · subst e; rw [getM_set_same t hx] at hy; injection hy with hy; subst hy; exact ht
  · rw [getM_set_other t hx e] at hy; exact h y u hy
theorem addM_n (D : List UInt8) (safe : Nat) (m : RowsM) (x : Item) (i : Inst) : (addM D safe m x i).2.2.1.n = m.n := by
  unfold addM
  split
  · split
    · split
      · exact setM_n _ _ _
      · rfl
    · rfl
  · rfl
theorem addM_rows (D : List UInt8) (safe : Nat) (m : RowsM) (x : Item) (i : Inst) : (addM D safe m x i).2.2.1 = if (addM D safe m x i).2.2.2 = 0 then setM m x i else m := by
  by_cases hg : goodI x m.n = true ∧ goodN i m.n = true
  · by_cases h2 : (tightP D safe m (recOf (x, i)).length).2.2 = 0
    · by_cases h3 : (tightP D safe m (recOf (x, i)).length).1.length + (recOf (x, i)).length ≤ 65536
      · have e : addM D safe m x i = ((tightP D safe m (recOf (x, i)).length).1 ++ recOf (x, i), (tightP D safe m (recOf (x, i)).length).2.1, setM m x i, 0) := by unfold addM; rw [if_pos hg, if_pos h2, if_pos h3]
        rw [e]; exact (if_pos rfl).symm
      · have e : addM D safe m x i = ((tightP D safe m (recOf (x, i)).length).1, (tightP D safe m (recOf (x, i)).length).2.1, m, 6) := by unfold addM; rw [if_pos hg, if_pos h2, if_neg h3]
        rw [e]; exact (if_neg (by simp)).symm
    · have e : addM D safe m x i = ((tightP D safe m (recOf (x, i)).length).1, (tightP D safe m (recOf (x, i)).length).2.1, m, (tightP D safe m (recOf (x, i)).length).2.2) := by unfold addM; rw [if_pos hg, if_neg h2]
      rw [e]; exact (if_neg h2).symm
  · have e : addM D safe m x i = (D, safe, m, 1) := by unfold addM; rw [if_neg hg]
    rw [e]; exact (if_neg (by simp)).symm
theorem addM_good {D : List UInt8} {safe : Nat} {m : RowsM} {x : Item} {i : Inst} (h : (addM D safe m x i).2.2.2 = 0) : goodI x m.n = true ∧ goodN i m.n = true := by
  unfold addM at h
  by_cases hg : goodI x m.n = true ∧ goodN i m.n = true
  · exact hg
  · rw [if_neg hg] at h; simp at h
theorem addM_len {D : List UInt8} {safe : Nat} {m : RowsM} {x : Item} {i : Inst} (hD : D.length ≤ 65536) : (addM D safe m x i).1.length ≤ 65536 := by
  unfold addM
  split
  · split
    · split
      · rw [List.length_append]; assumption
      · exact tightP_len hD
    · exact tightP_len hD
  · exact hD
theorem addM_ok {D : List UInt8} {safe : Nat} {m : RowsM} {x : Item} {i : Inst} (hm : RowsOk m) : RowsOk (addM D safe m x i).2.2.1 := by
  rw [addM_rows]; split
  · exact hm.set x i
  · exact hm
theorem addM_rgood {D : List UInt8} {safe : Nat} {m : RowsM} {x : Item} {i : Inst} (hm : RowsGood m) : RowsGood (addM D safe m x i).2.2.1 := by
  rw [addM_rows]; split
  · rename_i h
    exact hm.set (addM_good h).1 (addM_good h).2
  · exact hm
end Go.Proofs.Ytpganpiidgkofaa
/- Things in memory, in another order that is known. Nothing of the program stands here. -/
namespace Go.Proofs.Ytpganpiidgkofaa
open Go.RowKit
theorem Sts.ordr {w W : World} {F : Nat → Prop} {L L' : List Res} (h : Sts w F W L) (p : List Nat) (hp : p.isPerm (List.range p.length) = true := by rfl) (e : pickL L p = L' := by rfl) : Sts w F W L' := by
  rw [← e]; exact h.perm (pick_perm L p hp)
end Go.Proofs.Ytpganpiidgkofaa
/- Layer 9: the ledger is alive. -/
namespace Go.Proofs.Ytpganpiidgkofaa
open Go.RowKit
set_option linter.unusedVariables false
set_option maxRecDepth 20000
attribute [local go_sem] row_alloc row_drew row_drewN row_ext row_setCell row_setRow size_ext setRow_alloc setRow_drew loadOf storeOf piece_lit loadVal_at storeVal_at allOne_lit buildOf buildRes_some
attribute [local go_sem high] cell_alloc frozen_alloc setCell_alloc cell_ext frozen_ext cell_setRow frozen_setRow
attribute [local go_sem ↓] TDeed_ld0 TDeed_st0 TDeed_fd0 TDeed_bd0
attribute [local go_sem] TDeed_size TDeed_one TDeed_piece TDeed_c0 TDeed_c1 TDeed_c2 TDeed_c3 TDeed_c4 TDeed_c5 TDeed_set_kind TDeed_set_key TDeed_set_val TDeed_set_ver TDeed_set_ses TDeed_set_num TDeed_ld TDeed_st TDeed_f_kind TDeed_f_key TDeed_f_val TDeed_f_ver TDeed_f_ses TDeed_f_num TDeed_bd TDeed_fl TDeed_fl_kind TDeed_fl_key TDeed_fl_val TDeed_fl_ver TDeed_fl_ses TDeed_fl_num
attribute [local go_sem high] TDeed_eql TDeed_neq
attribute [local go_sem ↓] index_deps0 load_deps0 store_deps0
attribute [local go_sem] DV_piece DV_size DV_one index_deps load_deps store_deps
attribute [local go_sem high] TDeps_eql TDeps_neq
attribute [local go_sem ↓] TCall_ld0 TCall_st0 TCall_fd0 TCall_bd0
attribute [local go_sem] TCall_size TCall_one TCall_piece TCall_c0 TCall_c1 TCall_c2 TCall_c3 TCall_c4 TCall_c5 TCall_c6 TCall_c7 TCall_c8 TCall_c9 TCall_c10 TCall_c11 TCall_c12 TCall_c13 TCall_p_deed TCall_put_deed TCall_p_deps TCall_put_deps TCall_set_seq TCall_ld TCall_st TCall_f_deed TCall_f_deps TCall_f_seq TCall_bd TCall_fl TCall_fl_deed TCall_fl_deps TCall_fl_seq
attribute [local go_sem high] TCall_eql TCall_neq
attribute [local go_sem ↓] TItem_ld0 TItem_st0 TItem_fd0 TItem_bd0
attribute [local go_sem] TItem_size TItem_one TItem_piece TItem_c0 TItem_c1 TItem_set_rep TItem_set_num TItem_ld TItem_st TItem_f_rep TItem_f_num TItem_bd TItem_fl TItem_fl_rep TItem_fl_num
attribute [local go_sem high] TItem_eql TItem_neq
attribute [local go_sem ↓] TBallot_ld0 TBallot_st0 TBallot_fd0 TBallot_bd0
attribute [local go_sem] TBallot_size TBallot_one TBallot_piece TBallot_c0 TBallot_c1 TBallot_set_round TBallot_set_rep TBallot_ld TBallot_st TBallot_f_round TBallot_f_rep TBallot_bd TBallot_fl TBallot_fl_round TBallot_fl_rep
attribute [local go_sem high] TBallot_eql TBallot_neq
attribute [local go_sem ↓] TInst_ld0 TInst_st0 TInst_fd0 TInst_bd0
attribute [local go_sem] TInst_size TInst_one TInst_piece TInst_c0 TInst_c1 TInst_c2 TInst_c3 TInst_c4 TInst_c5 TInst_c6 TInst_c7 TInst_c8 TInst_c9 TInst_c10 TInst_c11 TInst_c12 TInst_c13 TInst_c14 TInst_c15 TInst_c16 TInst_c17 TInst_c18 TInst_c19 TInst_p_prom TInst_put_prom TInst_p_vote TInst_put_vote TInst_set_status TInst_p_call TInst_put_call TInst_set_same TInst_ld TInst_st TInst_f_prom TInst_f_vote TInst_f_status TInst_f_call TInst_f_same TInst_bd TInst_fl TInst_fl_prom TInst_fl_vote TInst_fl_status TInst_fl_call TInst_fl_same
attribute [local go_sem high] TInst_eql TInst_neq
attribute [local go_sem] led_n led_p led_g
def aliveX : Item := ⟨1, 2⟩
def aliveI : Inst := { noInst with prom := ⟨4, 2⟩ }
theorem alive_goodI : goodI aliveX 3 = true := by decide
theorem alive_goodN : goodN aliveI 3 = true := by
  unfold goodN
  have h1 : goodBal aliveI.prom 3 = true := by decide
  have h2 : goodBal aliveI.vote 3 = true := by decide
  have h3 : goodC aliveI.call 3 = true := by decide
  rw [h1, h2, h3]
  have h4 : bareI aliveI = aliveI := rfl
  rw [h4, eqA_refl]
  decide
theorem goT_nil (n : Int) : goT n [] = [] := rfl
theorem alive_add : addM [] 0 ⟨3, fun _ => []⟩ aliveX aliveI = (recOf (aliveX, aliveI), 0, setM ⟨3, fun _ => []⟩ aliveX aliveI, 0) := by
  have hl : (recOf (aliveX, aliveI)).length ≤ 310 := recOf_len (goodI_in alive_goodI (by omega)).1 (goodI_in alive_goodI (by omega)).2 (goodN_in alive_goodN (by omega))
  have ht : tightP [] 0 ⟨3, fun _ => []⟩ (recOf (aliveX, aliveI)).length = ([], 0, 0) := by unfold tightP; rw [if_neg (by simp; omega)]
  unfold addM
  rw [if_pos ⟨alive_goodI, alive_goodN⟩, ht, if_pos rfl, if_pos (by simp; omega)]
  rfl
theorem alive_top : topM (setM ⟨3, fun _ => []⟩ aliveX aliveI) 1 = 2 := by
  unfold setM
  rw [if_pos alive_goodI]
  rfl
set_option maxHeartbeats 4000000 in
theorem alive9 : Ans Try.prog 13 #[] (.bool true) := by
  refine Ans.of_sts fun w => ?_
  have T := Sts.start0 w
  go_enter Try.func13, Try.ntmps13
  go_wp2_with fail
  refine (newT T).mono ?_
  clear T
  rintro e w1 ⟨rfl, T⟩
  go_wp2_with fail
  refine (openT T (by simp) 3 rfl).mono ?_
  clear T
  rintro e w2 ⟨l, g, rfl, T⟩
  rw [goT_nil] at T
  generalize w.heap.size = p at *
  have T : Sts w (fun _ => False) w2 (ledL l p g [] 0 ⟨3, fun _ => []⟩ ++ []) := T
  go_wp2_with fail
  have T : Sts w (fun _ => False) ((w2.alloc (.cells (IV aliveX) 42)).alloc (.cells (NV aliveI) 39)) (rowR (w2.heap.size + 1) (NV aliveI) :: rowR w2.heap.size (IV aliveX) :: ledL l p g [] 0 ⟨3, fun _ => []⟩) := by
    have := (T.new (IV aliveX) 42).new (NV aliveI) 39
    rw [World.size_alloc] at this
    exact this
  generalize hw : (w2.alloc _).alloc _ = w3
  have hw9 : (w2.alloc (.cells (IV aliveX) 42)).alloc (.cells (NV aliveI) 39) = w3 := hw
  rw [hw9] at T
  clear hw hw9
  generalize w2.heap.size + 1 = g4 at *
  generalize w2.heap.size = g3 at *
  have FS : ∀ W' R', Sts w (fun _ => False) W' (rowR g4 (NV aliveI) :: rowR g3 (IV aliveX) :: R') → (row? W' g4 = some (NV aliveI) ∧ row? W' g3 = some (IV aliveX)) := fun W' R' T => ⟨T.row, T.row1⟩
  have S0 := FS _ _ T.drew
  have hadd := addD l p g [] 0 ⟨3, fun _ => []⟩ (RowsOk.new (by omega)) (RowsGood.new 3) (by simp) aliveX aliveI
  rw [alive_add] at hadd
  have hmo : RowsOk (setM ⟨3, fun _ => []⟩ aliveX aliveI) := (RowsOk.new (by omega)).set _ _
  have hget : getM (setM ⟨3, fun _ => []⟩ aliveX aliveI) aliveX = some aliveI := getM_set_same _ alive_goodI
  have hat := ledAtR l p g (recOf (aliveX, aliveI)) 0 (setM ⟨3, fun _ => []⟩ aliveX aliveI) hmo aliveX
  rw [hget] at hat
  have htop := fun {W : World} {R : List Res} (T : Sts w (fun _ => False) W (ledL l p g (recOf (aliveX, aliveI)) 0 (setM ⟨3, fun _ => []⟩ aliveX aliveI) ++ R)) => ledTopT hmo 1 T
  rw [alive_top] at htop
  have HFS := Lib.hid FS; have HT := Lib.hid T.drew; have HADD := Lib.hid hadd; have HAT := Lib.hid hat
  have he := eqA_refl (NV aliveI)
  clear FS T hadd hmo hget hat
  generalize hmm : setM ⟨3, fun _ => []⟩ aliveX aliveI = m1 at *
  generalize recOf (aliveX, aliveI) = rc at *
  have hm3 : m1.n = 3 := by rw [← hmm, setM_n]
  have HM3 := Lib.hid hm3
  clear hm3 hmm
  refine wp_region_held_drew (S := fun W' => (row? W' g4 = some (NV aliveI) ∧ row? W' g3 = some (IV aliveX))) (by kernel_rfl) S0 (fun hHeld => ?_)
  clear S0
  refine wpAnyH_take (i := 0) (oi := _) (v := ?_) rfl (by kernel_rfl) (by kernel_rfl) (by kernel_rfl) (fun _ _ _ h => h) (Or.inl ⟨by kernel_rfl, ?_⟩) (by assumption) ?_
  rotate_left
  · (intro w hSw; (try dsimp only at hSw); go_simp; try (with_reducible rfl))
  simp only [Act.put, List.getElem_toArray, List.getElem_cons_zero, List.setIfInBounds_toArray, List.set_cons_zero, List.set_cons_succ]
  refine wpAnyH_take (i := 1) (oi := _) (v := ?_) rfl (by kernel_rfl) (by kernel_rfl) (by kernel_rfl) (fun _ _ _ h => h) (Or.inl ⟨by kernel_rfl, ?_⟩) (by assumption) ?_
  rotate_left
  · (intro w hSw; (try dsimp only at hSw); go_simp; try (with_reducible rfl))
  simp only [Act.put, List.getElem_toArray, List.getElem_cons_succ, List.getElem_cons_zero, List.setIfInBounds_toArray, List.set_cons_zero, List.set_cons_succ]
  refine wpAnyH_take (i := 2) (oi := _) (v := ?_) rfl (by kernel_rfl) (by kernel_rfl) (by kernel_rfl) (fun _ _ _ h => h) (Or.inl ⟨by kernel_rfl, ?_⟩) (by assumption) ?_
  rotate_left
  · (intro w hSw; (try dsimp only at hSw); go_simp; try (with_reducible rfl))
  simp only [Act.put, List.getElem_toArray, List.getElem_cons_succ, List.getElem_cons_zero, List.setIfInBounds_toArray, List.set_cons_zero, List.set_cons_succ]
  refine wpAnyH_take (i := 3) (oi := _) (v := ?_) rfl (by kernel_rfl) (by kernel_rfl) (by kernel_rfl) (fun _ _ _ h => h) (Or.inl ⟨by kernel_rfl, ?_⟩) (by assumption) ?_
  rotate_left
  · (intro w hSw; (try dsimp only at hSw); go_simp; try (with_reducible rfl))
  simp only [Act.put, List.getElem_toArray, List.getElem_cons_succ, List.getElem_cons_zero, List.setIfInBounds_toArray, List.set_cons_zero, List.set_cons_succ]
  refine wpAnyH_take (i := 4) (oi := _) (v := ?_) rfl (by kernel_rfl) (by kernel_rfl) (by kernel_rfl) (fun _ _ _ h => h) (Or.inl ⟨by kernel_rfl, ?_⟩) (by assumption) ?_
  rotate_left
  · (intro w hSw; (try dsimp only at hSw); go_simp; try (with_reducible rfl))
  simp only [Act.put, List.getElem_toArray, List.getElem_cons_succ, List.getElem_cons_zero, List.setIfInBounds_toArray, List.set_cons_zero, List.set_cons_succ]
  refine wpAnyH_take (i := 5) (oi := _) (v := ?_) rfl (by kernel_rfl) (by kernel_rfl) (by kernel_rfl) (fun _ _ _ h => h) (Or.inl ⟨by kernel_rfl, ?_⟩) (by assumption) ?_
  rotate_left
  · (intro w hSw; (try dsimp only at hSw); go_simp; try (with_reducible rfl))
  simp only [Act.put, List.getElem_toArray, List.getElem_cons_succ, List.getElem_cons_zero, List.setIfInBounds_toArray, List.set_cons_zero, List.set_cons_succ]
  refine wpAnyH_ready (rs := [6]) (by kernel_rfl) (by simp) ?_
  refine AllReadyH.cons (o := _) rfl (fun K hK => ?_) AllReadyH.nil
  go_simp
  refine (Does.at (R := [rowR g4 (NV aliveI), rowR g3 (IV aliveX)]) HADD.out (HT.out.ordr [2, 3, 4, 0, 1])).mono ?_
  rintro e w4 ⟨rfl, T⟩
  have T : Sts w (fun _ => False) w4 (rowR g4 (NV aliveI) :: rowR g3 (IV aliveX) :: ledL l p g rc 0 m1) := T.ordr [3, 4, 0, 1, 2]
  clear HT HADD
  refine hK.out _ _ ?_ (fun hHeld => ?_)
  · exact HFS.out _ _ T
  clear hK K
  refine wpAnyH_take (i := 7) (oi := _) (v := ?_) rfl (by kernel_rfl) (by kernel_rfl) (by kernel_rfl) (fun _ _ _ h => h) (Or.inl ⟨by kernel_rfl, ?_⟩) (by assumption) ?_
  rotate_left
  · (intro w hSw; (try dsimp only at hSw); go_simp; try (with_reducible rfl))
  simp only [Act.put, List.getElem_toArray, List.getElem_cons_succ, List.getElem_cons_zero, List.setIfInBounds_toArray, List.set_cons_zero, List.set_cons_succ]
  refine wpAnyH_take (i := 8) (oi := _) (v := ?_) rfl (by kernel_rfl) (by kernel_rfl) (by kernel_rfl) (fun _ _ _ h => h) (Or.inl ⟨by kernel_rfl, ?_⟩) (by assumption) ?_
  rotate_left
  · (intro w hSw; (try dsimp only at hSw); go_simp; try (with_reducible rfl))
  simp only [Act.put, List.getElem_toArray, List.getElem_cons_succ, List.getElem_cons_zero, List.setIfInBounds_toArray, List.set_cons_zero, List.set_cons_succ]
  refine wpAnyH_take (i := 9) (oi := _) (v := ?_) rfl (by kernel_rfl) (by kernel_rfl) (by kernel_rfl) (fun _ _ _ h => h) (Or.inl ⟨by kernel_rfl, ?_⟩) (by assumption) ?_
  rotate_left
  · (intro w hSw; (try dsimp only at hSw); go_simp; try (with_reducible rfl))
  simp only [Act.put, List.getElem_toArray, List.getElem_cons_succ, List.getElem_cons_zero, List.setIfInBounds_toArray, List.set_cons_zero, List.set_cons_succ]
  refine wpAnyH_take (i := 10) (oi := _) (v := ?_) rfl (by kernel_rfl) (by kernel_rfl) (by kernel_rfl) (fun _ _ _ h => h) (Or.inl ⟨by kernel_rfl, ?_⟩) (by assumption) ?_
  rotate_left
  · (intro w hSw; (try dsimp only at hSw); go_simp; try (with_reducible rfl))
  simp only [Act.put, List.getElem_toArray, List.getElem_cons_succ, List.getElem_cons_zero, List.setIfInBounds_toArray, List.set_cons_zero, List.set_cons_succ]
  refine wpAnyH_take (i := 11) (oi := _) (v := ?_) rfl (by kernel_rfl) (by kernel_rfl) (by kernel_rfl) (fun _ _ _ h => h) (Or.inl ⟨by kernel_rfl, ?_⟩) (by assumption) ?_
  rotate_left
  · (intro w hSw; (try dsimp only at hSw); go_simp; try (with_reducible rfl))
  simp only [Act.put, List.getElem_toArray, List.getElem_cons_succ, List.getElem_cons_zero, List.setIfInBounds_toArray, List.set_cons_zero, List.set_cons_succ]
  refine wpAnyH_take (i := 13) (oi := _) (v := ?_) rfl (by kernel_rfl) (by kernel_rfl) (by kernel_rfl) (fun _ _ _ h => h) (Or.inl ⟨by kernel_rfl, ?_⟩) (by assumption) ?_
  rotate_left
  · (intro w hSw; (try dsimp only at hSw); go_simp; try (with_reducible rfl))
  simp only [Act.put, List.getElem_toArray, List.getElem_cons_succ, List.getElem_cons_zero, List.setIfInBounds_toArray, List.set_cons_zero, List.set_cons_succ]
  have HT := Lib.hid T; clear T
  refine wpAnyH_ready (rs := [12]) (by kernel_rfl) (by simp) ?_
  refine AllReadyH.cons (o := _) rfl (fun K hK => ?_) AllReadyH.nil
  go_simp
  refine (Reads.at (R := [rowR g4 (NV aliveI), rowR g3 (IV aliveX)]) HAT.out (HT.out.ordr [2, 3, 4, 0, 1])).mono ?_
  rintro e w5 ⟨rfl, hb⟩
  have T := HT.out.pure hb
  clear HT HAT hb
  refine hK.out _ _ ?_ (fun hHeld => ?_)
  · exact HFS.out _ _ T
  clear hK K
  simp only [Option.getD]
  refine wpAnyH_take (i := 14) (oi := _) (v := ?_) rfl (by kernel_rfl) (by kernel_rfl) (by kernel_rfl) (fun _ _ _ h => h) (Or.inl ⟨by kernel_rfl, ?_⟩) (by assumption) ?_
  rotate_left
  · (intro w hSw; (try dsimp only at hSw); go_simp; try (with_reducible rfl))
  simp only [Act.put, List.getElem_toArray, List.getElem_cons_succ, List.getElem_cons_zero, List.setIfInBounds_toArray, List.set_cons_zero, List.set_cons_succ]
  refine wpAnyH_take (i := 15) (oi := _) (v := ?_) rfl (by kernel_rfl) (by kernel_rfl) (by kernel_rfl) (fun _ _ _ h => h) (Or.inl ⟨by kernel_rfl, ?_⟩) (by assumption) ?_
  rotate_left
  · (intro w hSw; (try dsimp only at hSw); go_simp; try (with_reducible rfl))
  simp only [Act.put, List.getElem_toArray, List.getElem_cons_succ, List.getElem_cons_zero, List.setIfInBounds_toArray, List.set_cons_zero, List.set_cons_succ]
  refine wpAnyH_take (i := 16) (oi := _) (v := ?_) rfl (by kernel_rfl) (by kernel_rfl) (by kernel_rfl) (fun _ _ _ h => h) (Or.inl ⟨by kernel_rfl, ?_⟩) (by assumption) ?_
  rotate_left
  · (intro w hSw; (try dsimp only at hSw); go_simp; try (with_reducible rfl))
  simp only [Act.put, List.getElem_toArray, List.getElem_cons_succ, List.getElem_cons_zero, List.setIfInBounds_toArray, List.set_cons_zero, List.set_cons_succ]
  refine wpAnyH_take (i := 17) (oi := _) (v := ?_) rfl (by kernel_rfl) (by kernel_rfl) (by kernel_rfl) (fun _ _ _ h => h) (Or.inl ⟨by kernel_rfl, ?_⟩) (by assumption) ?_
  rotate_left
  · (intro w hSw; (try dsimp only at hSw); go_simp; try (with_reducible rfl))
  simp only [Act.put, List.getElem_toArray, List.getElem_cons_succ, List.getElem_cons_zero, List.setIfInBounds_toArray, List.set_cons_zero, List.set_cons_succ]
  refine wpAnyH_ready (rs := [18]) (by kernel_rfl) (by simp) ?_
  refine AllReadyH.cons (o := _) rfl (fun K hK => ?_) AllReadyH.nil
  have ht2 := htop (R := [rowR g4 (NV aliveI), rowR g3 (IV aliveX)]) (T.ordr [2, 3, 4, 0, 1])
  have HT2 := Lib.hid ht2; have HT := Lib.hid T; clear ht2 htop T
  go_simp
  refine HT2.out.mono ?_
  rintro e w6 ⟨rfl, hb⟩
  have T := HT.out.pure hb
  clear HT HT2 hb
  refine hK.out _ _ ?_ (fun hHeld => ?_)
  · exact HFS.out _ _ T
  clear hK K
  refine wpAnyH_take (i := 19) (oi := _) (v := ?_) rfl (by kernel_rfl) (by kernel_rfl) (by kernel_rfl) (fun _ _ _ h => h) (Or.inl ⟨by kernel_rfl, ?_⟩) (by assumption) ?_
  rotate_left
  · (intro w hSw; (try dsimp only at hSw); go_simp; try (with_reducible rfl))
  simp only [Act.put, List.getElem_toArray, List.getElem_cons_succ, List.getElem_cons_zero, List.setIfInBounds_toArray, List.set_cons_zero, List.set_cons_succ]
  refine wpAnyH_take (i := 20) (oi := _) (v := ?_) rfl (by kernel_rfl) (by kernel_rfl) (by kernel_rfl) (fun _ _ _ h => h) (Or.inl ⟨by kernel_rfl, ?_⟩) (by assumption) ?_
  rotate_left
  · (intro w hSw; (try dsimp only at hSw); go_simp; try (with_reducible rfl))
  simp only [Act.put, List.getElem_toArray, List.getElem_cons_succ, List.getElem_cons_zero, List.setIfInBounds_toArray, List.set_cons_zero, List.set_cons_succ]
  refine wpAnyH_take (i := 21) (oi := _) (v := ?_) rfl (by kernel_rfl) (by kernel_rfl) (by kernel_rfl) (fun _ _ _ h => h) (Or.inl ⟨by kernel_rfl, ?_⟩) (by assumption) ?_
  rotate_left
  · (intro w hSw; (try dsimp only at hSw); go_simp; try (with_reducible rfl))
  simp only [Act.put, List.getElem_toArray, List.getElem_cons_succ, List.getElem_cons_zero, List.setIfInBounds_toArray, List.set_cons_zero, List.set_cons_succ]
  refine wpAnyH_take (i := 22) (oi := _) (v := ?_) rfl (by kernel_rfl) (by kernel_rfl) (by kernel_rfl) (fun _ _ _ h => h) (Or.inl ⟨by kernel_rfl, ?_⟩) (by assumption) ?_
  rotate_left
  · (intro w hSw; (try dsimp only at hSw); go_simp; try (with_reducible rfl))
  simp only [Act.put, List.getElem_toArray, List.getElem_cons_succ, List.getElem_cons_zero, List.setIfInBounds_toArray, List.set_cons_zero, List.set_cons_succ]
  refine wpAnyH_ready (rs := [23]) (by kernel_rfl) (by simp) ?_
  refine AllReadyH.cons (o := _) rfl (fun K hK => ?_) AllReadyH.nil
  have ht2 := ledSizeT (R := [plR p rc 0, rowsIR g m1, rowR g4 (NV aliveI), rowR g3 (IV aliveX)]) (T.ordr [2, 3, 4, 0, 1])
  rw [HM3.out] at ht2
  have HT2 := Lib.hid ht2; have HT := Lib.hid T; clear ht2 T
  go_simp
  refine HT2.out.mono ?_
  rintro e w7 ⟨rfl, rfl⟩
  refine hK.out _ _ ?_ (fun hHeld => ?_)
  · exact HFS.out _ _ HT.out
  clear hK K HT2
  refine wpAnyH_take (i := 24) (oi := _) (v := ?_) rfl (by kernel_rfl) (by kernel_rfl) (by kernel_rfl) (fun _ _ _ h => h) (Or.inl ⟨by kernel_rfl, ?_⟩) (by assumption) ?_
  rotate_left
  · (intro w hSw; (try dsimp only at hSw); go_simp; try (with_reducible rfl))
  simp only [Act.put, List.getElem_toArray, List.getElem_cons_succ, List.getElem_cons_zero, List.setIfInBounds_toArray, List.set_cons_zero, List.set_cons_succ]
  refine wpAnyH_take (i := 25) (oi := _) (v := ?_) rfl (by kernel_rfl) (by kernel_rfl) (by kernel_rfl) (fun _ _ _ h => h) (Or.inl ⟨by kernel_rfl, ?_⟩) (by assumption) ?_
  rotate_left
  · (intro w hSw; (try dsimp only at hSw); go_simp; try (with_reducible rfl))
  simp only [Act.put, List.getElem_toArray, List.getElem_cons_succ, List.getElem_cons_zero, List.setIfInBounds_toArray, List.set_cons_zero, List.set_cons_succ]
  refine wpAnyH_take (i := 26) (oi := _) (v := ?_) rfl (by kernel_rfl) (by kernel_rfl) (by kernel_rfl) (fun _ _ _ h => h) (Or.inl ⟨by kernel_rfl, ?_⟩) (by assumption) ?_
  rotate_left
  · (intro w hSw; (try dsimp only at hSw); go_simp; try (with_reducible rfl))
  simp only [Act.put, List.getElem_toArray, List.getElem_cons_succ, List.getElem_cons_zero, List.setIfInBounds_toArray, List.set_cons_zero]
  refine wpAnyH_done (by kernel_rfl) ?_ _
  have T := HT.out.nil
  have HT2 := Lib.hid T; clear T HT
  simp only [Exit.then]
  go_wp2
  go_ret
  exact ⟨rfl, HT2.out⟩
end Go.Proofs.Ytpganpiidgkofaa
