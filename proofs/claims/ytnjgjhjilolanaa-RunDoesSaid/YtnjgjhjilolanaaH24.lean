/- Several texts in one. -/
import Derived.Test.YtnjgjhjilolanaaH21
/- Items in a slice of the call's own, sorted in their place by a function: are they sorted already? -/
namespace Go.Proofs.Ytnjgjhjilolanaa
open Go.RowKit Go.Shelf
open Go.Sort (swp scanSorted shiftDown shiftUp partialIns partialInsertionSort)
set_option linter.unusedVariables false
set_option maxRecDepth 20000
attribute [local go_sem] row_alloc row_drew row_drewN row_ext row_setCell row_setRow size_ext setRow_alloc setRow_drew loadOf storeOf piece_lit loadVal_at storeVal_at allOne_lit buildOf buildRes_some
attribute [local go_sem high] cell_alloc frozen_alloc setCell_alloc cell_ext frozen_ext cell_setRow frozen_setRow
attribute [local go_sem ↓] TDeed_ld0 TDeed_st0 TDeed_fd0 TDeed_bd0
attribute [local go_sem] TDeed_size TDeed_one TDeed_piece TDeed_c0 TDeed_c1 TDeed_c2 TDeed_c3 TDeed_c4 TDeed_c5 TDeed_set_kind TDeed_set_key TDeed_set_val TDeed_set_ver TDeed_set_ses TDeed_set_num TDeed_ld TDeed_st TDeed_f_kind TDeed_f_key TDeed_f_val TDeed_f_ver TDeed_f_ses TDeed_f_num TDeed_bd TDeed_fl TDeed_fl_kind TDeed_fl_key TDeed_fl_val TDeed_fl_ver TDeed_fl_ses TDeed_fl_num
attribute [local go_sem high] TDeed_eql TDeed_neq
attribute [local go_sem ↓] index_deps0 load_deps0 store_deps0
attribute [local go_sem] DV_piece DV_size DV_one index_deps load_deps store_deps
attribute [local go_sem high] TDeps_eql TDeps_neq
attribute [local go_sem ↓] TCall_ld0 TCall_st0 TCall_fd0 TCall_bd0
attribute [local go_sem] TCall_size TCall_one TCall_piece TCall_c0 TCall_c1 TCall_c2 TCall_c3 TCall_c4 TCall_c5 TCall_c6 TCall_c7 TCall_c8 TCall_c9 TCall_c10 TCall_c11 TCall_c12 TCall_c13 TCall_p_deed TCall_put_deed TCall_p_deps TCall_put_deps TCall_set_seq TCall_ld TCall_st TCall_f_deed TCall_f_deps TCall_f_seq TCall_bd TCall_fl TCall_fl_deed TCall_fl_deps TCall_fl_seq
attribute [local go_sem high] TCall_eql TCall_neq
attribute [local go_sem ↓] TItem_ld0 TItem_st0 TItem_fd0 TItem_bd0
attribute [local go_sem] TItem_size TItem_one TItem_piece TItem_c0 TItem_c1 TItem_set_rep TItem_set_num TItem_ld TItem_st TItem_f_rep TItem_f_num TItem_bd TItem_fl TItem_fl_rep TItem_fl_num
attribute [local go_sem high] TItem_eql TItem_neq
section
variable {w W : World} {F : Nat → Prop} {R : List Res} {g c : Nat} {CM : CmpK} {d : Array Item}
theorem ssort_goC (lt : Item → Item → Bool) (d : Array Item) (z i : Nat) (h : i < z) (hp : lt d[i]! d[i - 1]! = false) : scanSorted lt d z (i + 1) = scanSorted lt d z i := by
  conv => rhs; rw [scanSorted]
  rw [if_pos (by simp [h, hp])]
theorem ssort_endC (lt : Item → Item → Bool) (d : Array Item) (z i : Nat) (h : ¬ i < z ∨ lt d[i]! d[i - 1]! = true) : i = scanSorted lt d z i := by
  rw [scanSorted, if_neg (by rcases h with h | h <;> simp [h])]
noncomputable def pDnC (lt : Item → Item → Bool) (a i : Nat) (d : Array Item) : Array Item := if i - a ≥ 2 then shiftDown lt (i - 1) d else d
noncomputable def pUpC (lt : Item → Item → Bool) (z i : Nat) (d : Array Item) : Array Item := if z - i ≥ 2 then shiftUp lt z (i + 1) d else d
theorem partialIns_goC (lt : Item → Item → Bool) (a z s i : Nat) (d : Array Item) : partialIns lt a z (s + 1) i d = if scanSorted lt d z i = z then (d, true) else if z - a < 50 then (d, false) else partialIns lt a z s (scanSorted lt d z i) (pUpC lt z (scanSorted lt d z i) (pDnC lt a (scanSorted lt d z i) (swp d (scanSorted lt d z i) (scanSorted lt d z i - 1)))) := rfl
theorem shiftDown_goC (lt : Item → Item → Bool) (l q : Nat) (d : Array Item) (h : l = q + 1) : shiftDown lt l d = if lt d[l]! d[q]! = false then d else shiftDown lt q (swp d l q) := by
  subst h
  rw [shiftDown]
  cases lt d[q + 1]! d[q]! <;> rfl
theorem shiftUp_goC (lt : Item → Item → Bool) (z l q : Nat) (d : Array Item) (hz : l < z) (h : q = l - 1) : shiftUp lt z l d = if lt d[l]! d[q]! = false then d else shiftUp lt z (l + 1) (swp d l q) := by
  subst h
  rw [shiftUp, if_pos hz]
  cases lt d[l]! d[l - 1]! <;> rfl
theorem shiftDown_szC (lt : Item → Item → Bool) : ∀ (l : Nat) (d : Array Item), (shiftDown lt l d).size = d.size
  | 0, d => rfl
  | l + 1, d => by
    rw [shiftDown_goC lt (l + 1) l d rfl]
    split
    · rfl
    · rw [shiftDown_szC lt l, swp_sz]
theorem shiftUp_szC (lt : Item → Item → Bool) (z : Nat) : ∀ (k l : Nat) (d : Array Item), z - l ≤ k → (shiftUp lt z l d).size = d.size
  | 0, l, d, h => by rw [shiftUp, if_neg (by omega)]
  | k + 1, l, d, h => by
    by_cases hz : l < z
    · rw [shiftUp_goC lt z l (l - 1) d hz rfl]
      split
      · rfl
      · rw [shiftUp_szC lt z k _ _ (by omega), swp_sz]
    · rw [shiftUp, if_neg hz]
theorem partialIns_szC (lt : Item → Item → Bool) (a z : Nat) : ∀ (s i : Nat) (d : Array Item), (partialIns lt a z s i d).1.size = d.size
  | 0, i, d => rfl
  | s + 1, i, d => by
    rw [partialIns_goC]
    split
    · rfl
    · split
      · rfl
      · rw [partialIns_szC lt a z s]
        unfold pUpC pDnC
        have h1 : ∀ x y : Nat, ∀ e : Array Item, (if x ≥ 2 then shiftDown lt y e else e).size = e.size := fun x y e => by
          split
          · exact shiftDown_szC _ _ _
          · rfl
        have h2 : ∀ x y : Nat, ∀ e : Array Item, (if x ≥ 2 then shiftUp lt z y e else e).size = e.size := fun x y e => by
          split
          · exact shiftUp_szC _ _ _ _ _ (Nat.le_refl _)
          · rfl
        rw [h2, h1, swp_sz]
theorem partial_szC (lt : Item → Item → Bool) (d : Array Item) (a z : Nat) : (partialInsertionSort lt d a z).1.size = d.size := partialIns_szC lt a z 5 (a + 1) d
set_option maxHeartbeats 16000000 in
theorem partialTC {n : Nat} (hd : d.size = n) (a z : Nat) (haz : a < z) (hz : z ≤ n) (hn : n ≤ 1000000) (hm : CM.Ok) (T : Sts w F W (itR g c d :: (CM.L ++ R))) :
    Calls Try.prog 79 #[.slice (some ⟨g, 0, none⟩) n c, .int .i64 a, .int .i64 z, CM.cv] W fun e W' => e = .returned (.bool (partialInsertionSort CM.lt d a z).2) ∧ Sts w F W' (itR g c (partialInsertionSort CM.lt d a z).1 :: (CM.L ++ R)) := by
  have HT := Lib.hid T; clear T
  have HES := Lib.hid hd; clear hd
  obtain ⟨vr, hvr⟩ : ∃ v, v = partialInsertionSort CM.lt d a z := ⟨_, rfl⟩
  rw [← hvr]
  have HVR := Lib.hid hvr; clear hvr
  go_enter Try.func79, Try.ntmps79
  go_wp2_with fail
  go_loopw [9, 10] (fun u9 u10 wx => ∃ (i j : Nat) (e : Array Item), u9 = .int .i64 i ∧ u10 = .int .i64 j ∧ a + 1 ≤ i ∧ i ≤ z ∧ j ≤ 5 ∧ e.size = n ∧ vr = partialIns CM.lt a z (5 - j) i e ∧ Sts w F wx (itR g c e :: (CM.L ++ R))) (fun _ u10 _ => 5 - (intOf u10).toNat)
  case atStart => exact ⟨a + 1, 0, d, by first | rfl | go_num, rfl, Nat.le_refl _, by omega, by omega, HES.out, HVR.out, HT.out⟩
  case round =>
    obtain ⟨i0, j0, e0, rfl, rfl, hi1, hi2, hj, hes, hv, T⟩ := hrel
    clear HT HES HVR
    have HT := Lib.hid T; have HES := Lib.hid hes; have HV := Lib.hid hv; clear T hes hv
    by_cases hj5 : j0 < 5
    · have g5 : (j0 : Int) < 5 := by omega
      obtain ⟨jj, hjj⟩ : ∃ jj, 5 - j0 = jj + 1 := ⟨4 - j0, by omega⟩
      have hv := HV.out
      rw [hjj, partialIns_goC] at hv
      have HV := Lib.hid hv; clear hv
      have HJ := Lib.hid hjj; clear hjj
      have v3 := wrapNC (j0 + 1) (by omega)
      go_upto_region 3 with fail
      iterate 17 go_step
      go_cut [9] from 19 to 38 (fun u wx => Sts w F wx [] ∧ ∃ i : Nat, u = .int .i64 i ∧ a + 1 ≤ i ∧ i ≤ z ∧ i = scanSorted CM.lt e0 z i0 ∧ Sts w F wx (itR g c e0 :: (CM.L ++ R)))
      case first =>
        go_wp2_with fail
        go_loopw [9] (fun u wx => ∃ i : Nat, u = .int .i64 i ∧ a + 1 ≤ i ∧ i ≤ z ∧ scanSorted CM.lt e0 z i = scanSorted CM.lt e0 z i0 ∧ Sts w F wx (itR g c e0 :: (CM.L ++ R))) (fun u _ => n + 1 - (intOf u).toNat)
        case atStart => exact ⟨i0, by first | rfl | go_num, hi1, hi2, rfl, HT.out⟩
        case round =>
          clear HT
          obtain ⟨i, rfl, hi3, hi4, hS, T⟩ := hrel
          have HT := Lib.hid T; have HSC := Lib.hid hS; clear T hS
          by_cases hij : i < z
          · have g1 : (i : Int) < (z : Int) := by omega
            obtain ⟨p, hp⟩ : ∃ p, p = i - 1 := ⟨_, rfl⟩
            have e1 : (i : Int) - 1 = (p : Int) := by omega
            have v1 := wrapNC p (by omega)
            have k1 : (0 : Int) ≤ (i : Int) := by omega
            have k2 : (0 : Int) ≤ (p : Int) := by omega
            have k3 : (i : Int) < (n : Int) := by omega
            have k4 : (p : Int) < (n : Int) := by omega
            have HP := Lib.hid hp
            clear hp
            go_upto_region 5 with fail
            have hes := HES.out
            have FS : ∀ W' R', Sts w F W' (itR g c e0 :: R') → (loadVal Try.prog 35 2 W' (.pointer (some ⟨g, i * 2, none⟩)) = .ok (.agg (IV e0[i]!)) W' ∧ loadVal Try.prog 35 2 W' (.pointer (some ⟨g, p * 2, none⟩)) = .ok (.agg (IV e0[p]!)) W') := fun W' R' T => ⟨T.itLoad (by omega), T.itLoad (by omega)⟩
            have HFS := Lib.hid FS
            have HT0 := Lib.hid HT.out.drew
            have S0 := FS _ _ HT0.out
            have HC := Lib.hid (hm.reads e0[i]! e0[p]!)
            have HL1 := Lib.hid (show CM.lt e0[i]! e0[p]! = decide (CM.cmp e0[i]! e0[p]! < 0) from rfl)
            clear FS HT hes
            generalize CM.cmp e0[i]! e0[p]! = cm1 at *
            refine wp_region_held_drew (S := fun W' => (loadVal Try.prog 35 2 W' (.pointer (some ⟨g, i * 2, none⟩)) = .ok (.agg (IV e0[i]!)) W' ∧ loadVal Try.prog 35 2 W' (.pointer (some ⟨g, p * 2, none⟩)) = .ok (.agg (IV e0[p]!)) W')) (by kernel_rfl) S0 (fun hHeld => ?_)
            clear S0
            refine tkH 0 rfl ?_
            simp only [Act.put, List.setIfInBounds_toArray, List.set_cons_zero, List.set_cons_succ]
            refine tkH 1 rfl ?_
            go_frame
            refine tkH 2 rfl ?_
            go_frame
            refine tkH 3 rfl ?_
            go_frame
            refine tkH 4 rfl ?_
            go_frame
            refine tkH 5 rfl ?_
            go_frame
            refine tkH 6 rfl ?_
            go_frame
            refine tkH 7 rfl ?_
            go_frame
            refine tkH 8 rfl ?_
            go_frame
            refine tkH 9 rfl ?_
            go_frame
            refine tkH 10 rfl ?_
            go_frame
            refine tkH 11 rfl ?_
            go_frame
            refine tkH 12 rfl ?_
            go_frame
            refine tkH 13 rfl ?_
            go_frame
            refine wpAnyH_ready (rs := [14]) (by kernel_rfl) (by simp) ?_
            refine AllReadyH.cons (o := _) rfl (fun K hK => ?_) AllReadyH.nil
            go_simp
            rw [hm.enter]
            go_simp
            refine (HC.out.itAtC (e := e0) (L := [itR g c e0]) HT0.out).mono ?_
            clear HC
            rintro e5 w5 ⟨rfl, hb⟩
            have T := HT0.out.pure hb
            clear hb HT0
            have HT := Lib.hid T; clear T
            refine hK.out _ _ (HFS.out _ _ HT.out) (fun hHeld => ?_)
            clear hK K HFS
            refine tkH 15 rfl ?_
            simp only [Act.put, List.setIfInBounds_toArray, List.set_cons_zero, List.set_cons_succ]
            refine tkH 16 rfl ?_
            go_frame
            refine tkH 17 rfl ?_
            go_frame
            refine wpAnyH_done (by kernel_rfl) ?_ _
            try simp only [Exit.then]
            cases hlt : decide (cm1 < 0)
            case true =>
              have hs := (ssort_endC CM.lt e0 z i (.inr (by rw [← HP.out, HL1.out, hlt]))).trans HSC.out
              have HS2 := Lib.hid hs; clear hs
              go_wp2
              go_meet
              case rel => exact ⟨HT.out.nil, i, by first | rfl | go_num, hi3, hi4, HS2.out, HT.out⟩
            case false =>
              have hs := (ssort_goC CM.lt e0 z i hij (by rw [← HP.out, HL1.out, hlt])).trans HSC.out
              have HS2 := Lib.hid hs; clear hs
              go_wp2
              go_roundw
              case rel => exact ⟨i + 1, by go_num, by omega, by omega, HS2.out, HT.out⟩
              case measure => (simp [intOf]; try omega)
          · have g1 : ¬ (i : Int) < (z : Int) := by omega
            have hs := (ssort_endC CM.lt e0 z i (.inl hij)).trans HSC.out
            have HS2 := Lib.hid hs; clear hs
            go_upto_region 5 with fail
            have HT0 := Lib.hid HT.out.drew; clear HT
            refine wp_region_held_drew (S := fun _ => True) (by kernel_rfl) trivial (fun hHeld => ?_)
            refine tkH 0 rfl ?_
            simp only [Act.put, List.setIfInBounds_toArray, List.set_cons_zero, List.set_cons_succ]
            refine tkH 1 rfl ?_
            go_frame
            refine tkH 2 rfl ?_
            go_frame
            refine tkH 3 rfl ?_
            go_frame
            refine skH 4 rfl ?_
            simp only [Act.put, List.setIfInBounds_toArray, List.set_cons_zero, List.set_cons_succ]
            refine skH 5 rfl ?_
            go_frame
            refine skH 6 rfl ?_
            go_frame
            refine skH 7 rfl ?_
            go_frame
            refine skH 8 rfl ?_
            go_frame
            refine skH 9 rfl ?_
            go_frame
            refine skH 10 rfl ?_
            go_frame
            refine skH 11 rfl ?_
            go_frame
            refine skH 12 rfl ?_
            go_frame
            refine skH 13 rfl ?_
            go_frame
            refine skH 14 rfl ?_
            go_frame
            refine skH 15 rfl ?_
            go_frame
            refine skH 16 rfl ?_
            go_frame
            refine tkH 17 rfl ?_
            simp only [Act.put, List.setIfInBounds_toArray, List.set_cons_zero, List.set_cons_succ]
            refine wpAnyH_done (by kernel_rfl) ?_ _
            try simp only [Exit.then]
            go_wp2
            go_meet
            case rel => exact ⟨HT0.out.nil, i, rfl, hi3, hi4, HS2.out, HT0.out⟩
      case rest =>
        obtain ⟨-, i2, rfl, hi3, hi4, hsi, T⟩ := hcut
        clear HT
        have hv := HV.out
        rw [← hsi] at hv
        have HT := Lib.hid T; clear T hsi
        by_cases hiz : i2 = z
        · rw [if_pos hiz] at hv
          have HW := Lib.hid hv; clear hv HV
          subst hiz
          go_wp2
          go_ret
          exact ⟨by rw [HW.out]; rfl, by rw [HW.out]; exact HT.out⟩
        · have g1 : ((i2 : Int) == (z : Int)) = false := by rw [beq_eq_false_iff_ne]; omega
          rw [if_neg hiz] at hv
          by_cases h50 : z - a < 50
          · have g2 : (z : Int) - (a : Int) < 50 := by omega
            rw [if_pos h50] at hv
            have HW := Lib.hid hv; clear hv HV
            go_wp2
            go_ret
            exact ⟨by rw [HW.out]; rfl, by rw [HW.out]; exact HT.out⟩
          · have g2 : ¬ (z : Int) - (a : Int) < 50 := by omega
            rw [if_neg h50] at hv
            obtain ⟨p, hp⟩ : ∃ p, p = i2 - 1 := ⟨_, rfl⟩
            rw [← hp] at hv
            have HW := Lib.hid hv; clear hv HV
            have e1 : (i2 : Int) - 1 = (p : Int) := by omega
            have v1 := wrapNC p (by omega)
            have k1 : (0 : Int) ≤ (i2 : Int) := by omega
            have k2 : (0 : Int) ≤ (p : Int) := by omega
            have k3 : (i2 : Int) < (n : Int) := by omega
            have k4 : (p : Int) < (n : Int) := by omega
            have HP := Lib.hid hp
            clear hp
            go_upto_region 11 with fail
            have hes := HES.out
            have T := HT.out.drew
            have S0 : (fun W' => loadVal Try.prog 35 2 W' (.pointer (some ⟨g, i2 * 2, none⟩)) = .ok (.agg (IV e0[i2]!)) W' ∧ loadVal Try.prog 35 2 W' (.pointer (some ⟨g, p * 2, none⟩)) = .ok (.agg (IV e0[p]!)) W') _ := ⟨T.itLoad (by omega), T.itLoad (by omega)⟩
            obtain ⟨w6, h6, T6⟩ := T.itSet (i := i2) (by omega) e0[p]!
            obtain ⟨w7, h7, T7⟩ := T6.itSet (i := p) (by simp; omega) e0[i2]!
            have HT7 := Lib.hid T7
            have HM := Lib.hid (show ∀ W' : World, (loadVal Try.prog 35 2 W' (.pointer (some ⟨g, i2 * 2, none⟩)) = .ok (.agg (IV e0[i2]!)) W' ∧ loadVal Try.prog 35 2 W' (.pointer (some ⟨g, p * 2, none⟩)) = .ok (.agg (IV e0[p]!)) W') → True from fun _ _ => trivial)
            clear T T6 T7 HT hes
            refine wp_region_stage (fun W' => loadVal Try.prog 35 2 W' (.pointer (some ⟨g, i2 * 2, none⟩)) = .ok (.agg (IV e0[i2]!)) W' ∧ loadVal Try.prog 35 2 W' (.pointer (some ⟨g, p * 2, none⟩)) = .ok (.agg (IV e0[p]!)) W') (fun _ => True) 15 (by kernel_rfl) S0 (fun hHeld => ?_)
            clear S0
            refine tk1 2 HM.out rfl ?_
            simp only [Act.put, List.setIfInBounds_toArray, List.set_cons_zero, List.set_cons_succ]
            refine tk1 3 HM.out rfl ?_
            go_frame
            refine tk1 4 HM.out rfl ?_
            go_frame
            refine tk1 10 HM.out rfl ?_
            go_frame
            refine tk1 11 HM.out rfl ?_
            go_frame
            refine tk1 12 HM.out rfl ?_
            go_frame
            refine tk0 0 rfl ?_
            simp only [Act.put, List.setIfInBounds_toArray, List.set_cons_zero, List.set_cons_succ]
            refine tk0 1 rfl ?_
            go_frame
            refine tk0 5 rfl ?_
            go_frame
            refine tk0 6 rfl ?_
            go_frame
            refine tk0 7 rfl ?_
            go_frame
            refine tk0 8 rfl ?_
            go_frame
            refine tk0 9 rfl ?_
            go_frame
            refine tk0 13 rfl ?_
            go_frame
            refine tk0 14 rfl ?_
            go_frame
            refine wpAnyL_ready (rs := [15]) (by kernel_rfl) (by simp) ?_
            refine AllReadyL.cons1 (o := _) rfl (by kernel_rfl) (fun K hK => ?_) AllReadyL.nil
            go_simp
            refine hK.out _ _ trivial (fun hHeld => ?_)
            clear hK K h6
            refine tk2 16 HM.out rfl ?_
            simp only [Act.put, List.setIfInBounds_toArray, List.set_cons_zero, List.set_cons_succ]
            refine wpAnyL_ready (rs := [17]) (by kernel_rfl) (by simp) ?_
            refine AllReadyL.cons1 (o := _) rfl (by kernel_rfl) (fun K hK => ?_) AllReadyL.nil
            go_simp
            refine hK.out _ _ trivial (fun hHeld => ?_)
            clear hK K h7
            refine wpAnyL_done (by kernel_rfl) ?_ _
            try simp only [Exit.then]
            have HT := HT7; clear HT7 HM
            rw [set_set_swp] at HT
            have hes1 : (swp e0 i2 p).size = n := by rw [swp_sz]; exact HES.out
            clear HES
            generalize swp e0 i2 p = e2 at *
            have HES := Lib.hid hes1; clear hes1
            go_upto_if 65 with fail
            go_cut [11] from 65 to 100 (fun u11 wx => Sts w F wx [] ∧ ∃ e : Array Item, e = pDnC CM.lt a i2 e2 ∧ Sts w F wx (itR g c e :: (CM.L ++ R)))
            case first =>
              by_cases h2 : i2 - a ≥ 2
              · have g6 : (2 : Int) ≤ (i2 : Int) - (a : Int) := by omega
                have hsd : pDnC CM.lt a i2 e2 = shiftDown CM.lt p e2 := by unfold pDnC; rw [if_pos h2, ← HP.out]
                have HSD := Lib.hid hsd; clear hsd
                go_wp2_with fail
                go_loopw [11] (fun u wx => ∃ (l : Nat) (e : Array Item), u = .int .i64 l ∧ l ≤ p ∧ e.size = n ∧ pDnC CM.lt a i2 e2 = shiftDown CM.lt l e ∧ Sts w F wx (itR g c e :: (CM.L ++ R))) (fun u _ => (intOf u).toNat)
                case atStart => exact ⟨p, e2, by first | rfl | go_num, Nat.le_refl _, HES.out, HSD.out, HT.out⟩
                case round =>
                  clear HT HES HSD
                  obtain ⟨l, e, rfl, hl, hes, hs, T⟩ := hrel
                  have HT := Lib.hid T; have HES := Lib.hid hes; clear T hes
                  by_cases hl1 : 1 ≤ l
                  · have g7 : (1 : Int) ≤ (l : Int) := by omega
                    obtain ⟨q, hq⟩ : ∃ q, l = q + 1 := ⟨l - 1, by omega⟩
                    rw [shiftDown_goC _ l q e hq] at hs
                    have HS := Lib.hid hs; clear hs
                    have e3 : (l : Int) - 1 = (q : Int) := by omega
                    have v4 := wrapNC q (by omega)
                    have k5 : (0 : Int) ≤ (l : Int) := by omega
                    have k6 : (0 : Int) ≤ (q : Int) := by omega
                    have k7 : (l : Int) < (n : Int) := by omega
                    have k8 : (q : Int) < (n : Int) := by omega
                    have HQ := Lib.hid hq; clear hq
                    go_upto_region 16 with fail
                    have hes := HES.out
                    have FS : ∀ W' R', Sts w F W' (itR g c e :: R') → (loadVal Try.prog 35 2 W' (.pointer (some ⟨g, l * 2, none⟩)) = .ok (.agg (IV e[l]!)) W' ∧ loadVal Try.prog 35 2 W' (.pointer (some ⟨g, q * 2, none⟩)) = .ok (.agg (IV e[q]!)) W') := fun W' R' T => ⟨T.itLoad (by omega), T.itLoad (by omega)⟩
                    have HFS := Lib.hid FS
                    have HT0 := Lib.hid HT.out.drew
                    have S0 := FS _ _ HT0.out
                    have HC := Lib.hid (hm.reads e[l]! e[q]!)
                    have HL1 := Lib.hid (show CM.lt e[l]! e[q]! = decide (CM.cmp e[l]! e[q]! < 0) from rfl)
                    clear FS HT hes
                    generalize CM.cmp e[l]! e[q]! = cm1 at *
                    refine wp_region_held_drew (S := fun W' => (loadVal Try.prog 35 2 W' (.pointer (some ⟨g, l * 2, none⟩)) = .ok (.agg (IV e[l]!)) W' ∧ loadVal Try.prog 35 2 W' (.pointer (some ⟨g, q * 2, none⟩)) = .ok (.agg (IV e[q]!)) W')) (by kernel_rfl) S0 (fun hHeld => ?_)
                    clear S0
                    refine tkH 0 rfl ?_
                    simp only [Act.put, List.setIfInBounds_toArray, List.set_cons_zero, List.set_cons_succ]
                    refine tkH 1 rfl ?_
                    go_frame
                    refine tkH 2 rfl ?_
                    go_frame
                    refine tkH 3 rfl ?_
                    go_frame
                    refine tkH 4 rfl ?_
                    go_frame
                    refine tkH 5 rfl ?_
                    go_frame
                    refine tkH 6 rfl ?_
                    go_frame
                    refine tkH 7 rfl ?_
                    go_frame
                    refine tkH 8 rfl ?_
                    go_frame
                    refine tkH 9 rfl ?_
                    go_frame
                    refine wpAnyH_ready (rs := [10]) (by kernel_rfl) (by simp) ?_
                    refine AllReadyH.cons (o := _) rfl (fun K hK => ?_) AllReadyH.nil
                    go_simp
                    rw [hm.enter]
                    go_simp
                    refine (HC.out.itAtC (e := e) (L := [itR g c e]) HT0.out).mono ?_
                    clear HC
                    rintro e5 w5 ⟨rfl, hb⟩
                    have T := HT0.out.pure hb
                    clear hb HT0
                    have HT := Lib.hid T; clear T
                    refine hK.out _ _ (HFS.out _ _ HT.out) (fun hHeld => ?_)
                    clear hK K HFS
                    refine tkH 11 rfl ?_
                    simp only [Act.put, List.setIfInBounds_toArray, List.set_cons_zero, List.set_cons_succ]
                    refine tkH 12 rfl ?_
                    go_frame
                    refine wpAnyH_done (by kernel_rfl) ?_ _
                    try simp only [Exit.then]
                    cases hlt : decide (cm1 < 0)
                    case false =>
                      have hs := HS.out
                      rw [HL1.out, hlt, if_pos rfl] at hs
                      have HS2 := Lib.hid hs; clear hs HS
                      go_wp2
                      go_meet
                      case rel => exact ⟨HT.out.nil, e, HS2.out.symm, HT.out⟩
                    case true =>
                      have hs := HS.out
                      rw [HL1.out, hlt, if_neg (by simp)] at hs
                      have HS2 := Lib.hid hs; clear hs HS
                      go_upto_region 17 with fail
                      have hes := HES.out
                      have T := HT.out.drew
                      have S0 : (fun W' => loadVal Try.prog 35 2 W' (.pointer (some ⟨g, l * 2, none⟩)) = .ok (.agg (IV e[l]!)) W' ∧ loadVal Try.prog 35 2 W' (.pointer (some ⟨g, q * 2, none⟩)) = .ok (.agg (IV e[q]!)) W') _ := ⟨T.itLoad (by omega), T.itLoad (by omega)⟩
                      obtain ⟨w6, h6, T6⟩ := T.itSet (i := l) (by omega) e[q]!
                      obtain ⟨w7, h7, T7⟩ := T6.itSet (i := q) (by simp; omega) e[l]!
                      have HT7 := Lib.hid T7
                      have HM := Lib.hid (show ∀ W' : World, (loadVal Try.prog 35 2 W' (.pointer (some ⟨g, l * 2, none⟩)) = .ok (.agg (IV e[l]!)) W' ∧ loadVal Try.prog 35 2 W' (.pointer (some ⟨g, q * 2, none⟩)) = .ok (.agg (IV e[q]!)) W') → True from fun _ _ => trivial)
                      clear T T6 T7 HT hes
                      refine wp_region_stage (fun W' => loadVal Try.prog 35 2 W' (.pointer (some ⟨g, l * 2, none⟩)) = .ok (.agg (IV e[l]!)) W' ∧ loadVal Try.prog 35 2 W' (.pointer (some ⟨g, q * 2, none⟩)) = .ok (.agg (IV e[q]!)) W') (fun _ => True) 15 (by kernel_rfl) S0 (fun hHeld => ?_)
                      clear S0
                      refine tk1 2 HM.out rfl ?_
                      simp only [Act.put, List.setIfInBounds_toArray, List.set_cons_zero, List.set_cons_succ]
                      refine tk1 3 HM.out rfl ?_
                      go_frame
                      refine tk1 4 HM.out rfl ?_
                      go_frame
                      refine tk1 10 HM.out rfl ?_
                      go_frame
                      refine tk1 11 HM.out rfl ?_
                      go_frame
                      refine tk1 12 HM.out rfl ?_
                      go_frame
                      refine tk0 0 rfl ?_
                      simp only [Act.put, List.setIfInBounds_toArray, List.set_cons_zero, List.set_cons_succ]
                      refine tk0 1 rfl ?_
                      go_frame
                      refine tk0 5 rfl ?_
                      go_frame
                      refine tk0 6 rfl ?_
                      go_frame
                      refine tk0 7 rfl ?_
                      go_frame
                      refine tk0 8 rfl ?_
                      go_frame
                      refine tk0 9 rfl ?_
                      go_frame
                      refine tk0 13 rfl ?_
                      go_frame
                      refine tk0 14 rfl ?_
                      go_frame
                      refine wpAnyL_ready (rs := [15]) (by kernel_rfl) (by simp) ?_
                      refine AllReadyL.cons1 (o := _) rfl (by kernel_rfl) (fun K hK => ?_) AllReadyL.nil
                      go_simp
                      refine hK.out _ _ trivial (fun hHeld => ?_)
                      clear hK K h6
                      refine tk2 16 HM.out rfl ?_
                      simp only [Act.put, List.setIfInBounds_toArray, List.set_cons_zero, List.set_cons_succ]
                      refine wpAnyL_ready (rs := [17]) (by kernel_rfl) (by simp) ?_
                      refine AllReadyL.cons1 (o := _) rfl (by kernel_rfl) (fun K hK => ?_) AllReadyL.nil
                      go_simp
                      refine hK.out _ _ trivial (fun hHeld => ?_)
                      clear hK K h7
                      refine wpAnyL_done (by kernel_rfl) ?_ _
                      try simp only [Exit.then]
                      have HT := HT7; clear HT7 HM
                      rw [set_set_swp] at HT
                      go_wp2
                      go_roundw
                      case rel => exact ⟨q, swp e l q, by go_num, by have := HQ.out; omega, by rw [swp_sz]; exact HES.out, HS2.out, HT.out⟩
                      case measure => have := HQ.out; (simp [intOf]; try omega)
                  · have g7 : ¬ (1 : Int) ≤ (l : Int) := by omega
                    have hl0 : l = 0 := by omega
                    rw [hl0] at hs
                    have HS2 := Lib.hid (hs : pDnC CM.lt a i2 e2 = e); clear hs
                    go_wp2
                    go_meet
                    case rel => exact ⟨HT.out.nil, e, HS2.out.symm, HT.out⟩
              · have g6 : ¬ (2 : Int) ≤ (i2 : Int) - (a : Int) := by omega
                have hsd : pDnC CM.lt a i2 e2 = e2 := by unfold pDnC; rw [if_neg h2]
                have HSD := Lib.hid hsd; clear hsd
                go_wp2
                go_meet
                case rel => exact ⟨HT.out.nil, e2, HSD.out.symm, HT.out⟩
            case rest =>
              obtain ⟨-, e3, he3, T⟩ := hcut
              clear HT
              have hes3 : e3.size = n := by
                rw [he3]; unfold pDnC; split
                · rw [shiftDown_szC]; exact HES.out
                · exact HES.out
              have hw := HW.out
              rw [← he3] at hw
              have HT := Lib.hid T; clear T HES
              have HES := Lib.hid hes3; clear hes3 HW he3
              have HW := Lib.hid hw; clear hw
              go_upto_if 104 with fail
              have v7 := wrapNC (j0 + 1) (by omega)
              by_cases h2 : z - i2 ≥ 2
              · have g6 : (2 : Int) ≤ (z : Int) - (i2 : Int) := by omega
                have hsd : pUpC CM.lt z i2 e3 = shiftUp CM.lt z (i2 + 1) e3 := by unfold pUpC; rw [if_pos h2]
                have HSD := Lib.hid hsd; clear hsd
                have v5 := wrapNC (i2 + 1) (by omega)
                go_wp2_with fail
                go_loopw [12] (fun u wx => ∃ (l : Nat) (e : Array Item), u = .int .i64 l ∧ i2 + 1 ≤ l ∧ l ≤ z ∧ e.size = n ∧ pUpC CM.lt z i2 e3 = shiftUp CM.lt z l e ∧ Sts w F wx (itR g c e :: (CM.L ++ R))) (fun u _ => z - (intOf u).toNat)
                case atStart => exact ⟨i2 + 1, e3, by first | rfl | go_num, Nat.le_refl _, by omega, HES.out, HSD.out, HT.out⟩
                case round =>
                  clear HT HES HSD
                  obtain ⟨l, e, rfl, hl, hlz, hes, hs, T⟩ := hrel
                  have HT := Lib.hid T; have HES := Lib.hid hes; clear T hes
                  by_cases hl1 : l < z
                  · have g7 : (l : Int) < (z : Int) := by omega
                    obtain ⟨q, hq⟩ : ∃ q, q = l - 1 := ⟨_, rfl⟩
                    rw [shiftUp_goC _ z l q e hl1 hq] at hs
                    have HS := Lib.hid hs; clear hs
                    have e4 : (l : Int) - 1 = (q : Int) := by omega
                    have v4 := wrapNC q (by omega)
                    have v6 := wrapNC (l + 1) (by omega)
                    have k5 : (0 : Int) ≤ (l : Int) := by omega
                    have k6 : (0 : Int) ≤ (q : Int) := by omega
                    have k7 : (l : Int) < (n : Int) := by omega
                    have k8 : (q : Int) < (n : Int) := by omega
                    clear hq
                    go_upto_region 22 with fail
                    have hes := HES.out
                    have FS : ∀ W' R', Sts w F W' (itR g c e :: R') → (loadVal Try.prog 35 2 W' (.pointer (some ⟨g, l * 2, none⟩)) = .ok (.agg (IV e[l]!)) W' ∧ loadVal Try.prog 35 2 W' (.pointer (some ⟨g, q * 2, none⟩)) = .ok (.agg (IV e[q]!)) W') := fun W' R' T => ⟨T.itLoad (by omega), T.itLoad (by omega)⟩
                    have HFS := Lib.hid FS
                    have HT0 := Lib.hid HT.out.drew
                    have S0 := FS _ _ HT0.out
                    have HC := Lib.hid (hm.reads e[l]! e[q]!)
                    have HL1 := Lib.hid (show CM.lt e[l]! e[q]! = decide (CM.cmp e[l]! e[q]! < 0) from rfl)
                    clear FS HT hes
                    generalize CM.cmp e[l]! e[q]! = cm1 at *
                    refine wp_region_held_drew (S := fun W' => (loadVal Try.prog 35 2 W' (.pointer (some ⟨g, l * 2, none⟩)) = .ok (.agg (IV e[l]!)) W' ∧ loadVal Try.prog 35 2 W' (.pointer (some ⟨g, q * 2, none⟩)) = .ok (.agg (IV e[q]!)) W')) (by kernel_rfl) S0 (fun hHeld => ?_)
                    clear S0
                    refine tkH 0 rfl ?_
                    simp only [Act.put, List.setIfInBounds_toArray, List.set_cons_zero, List.set_cons_succ]
                    refine tkH 1 rfl ?_
                    go_frame
                    refine tkH 2 rfl ?_
                    go_frame
                    refine tkH 3 rfl ?_
                    go_frame
                    refine tkH 4 rfl ?_
                    go_frame
                    refine tkH 5 rfl ?_
                    go_frame
                    refine tkH 6 rfl ?_
                    go_frame
                    refine tkH 7 rfl ?_
                    go_frame
                    refine tkH 8 rfl ?_
                    go_frame
                    refine tkH 9 rfl ?_
                    go_frame
                    refine wpAnyH_ready (rs := [10]) (by kernel_rfl) (by simp) ?_
                    refine AllReadyH.cons (o := _) rfl (fun K hK => ?_) AllReadyH.nil
                    go_simp
                    rw [hm.enter]
                    go_simp
                    refine (HC.out.itAtC (e := e) (L := [itR g c e]) HT0.out).mono ?_
                    clear HC
                    rintro e5 w5 ⟨rfl, hb⟩
                    have T := HT0.out.pure hb
                    clear hb HT0
                    have HT := Lib.hid T; clear T
                    refine hK.out _ _ (HFS.out _ _ HT.out) (fun hHeld => ?_)
                    clear hK K HFS
                    refine tkH 11 rfl ?_
                    simp only [Act.put, List.setIfInBounds_toArray, List.set_cons_zero, List.set_cons_succ]
                    refine tkH 12 rfl ?_
                    go_frame
                    refine wpAnyH_done (by kernel_rfl) ?_ _
                    try simp only [Exit.then]
                    cases hlt : decide (cm1 < 0)
                    case false =>
                      have hs := HS.out
                      rw [HL1.out, hlt, if_pos rfl] at hs
                      have HS2 := Lib.hid hs; clear hs HS
                      have hw := HW.out
                      rw [HS2.out, show jj = 5 - (j0 + 1) by have := HJ.out; omega] at hw
                      have HW2 := Lib.hid hw; clear hw HW
                      go_wp2
                      go_roundw
                      case rel => exact ⟨i2, j0 + 1, e, by first | rfl | go_num, by go_num, hi3, hi4, by omega, HES.out, HW2.out, HT.out⟩
                      case measure => (simp [intOf]; try omega)
                    case true =>
                      have hs := HS.out
                      rw [HL1.out, hlt, if_neg (by simp)] at hs
                      have HS2 := Lib.hid hs; clear hs HS
                      go_upto_region 23 with fail
                      have hes := HES.out
                      have T := HT.out.drew
                      have S0 : (fun W' => loadVal Try.prog 35 2 W' (.pointer (some ⟨g, l * 2, none⟩)) = .ok (.agg (IV e[l]!)) W' ∧ loadVal Try.prog 35 2 W' (.pointer (some ⟨g, q * 2, none⟩)) = .ok (.agg (IV e[q]!)) W') _ := ⟨T.itLoad (by omega), T.itLoad (by omega)⟩
                      obtain ⟨w6, h6, T6⟩ := T.itSet (i := l) (by omega) e[q]!
                      obtain ⟨w7, h7, T7⟩ := T6.itSet (i := q) (by simp; omega) e[l]!
                      have HT7 := Lib.hid T7
                      have HM := Lib.hid (show ∀ W' : World, (loadVal Try.prog 35 2 W' (.pointer (some ⟨g, l * 2, none⟩)) = .ok (.agg (IV e[l]!)) W' ∧ loadVal Try.prog 35 2 W' (.pointer (some ⟨g, q * 2, none⟩)) = .ok (.agg (IV e[q]!)) W') → True from fun _ _ => trivial)
                      clear T T6 T7 HT hes
                      refine wp_region_stage (fun W' => loadVal Try.prog 35 2 W' (.pointer (some ⟨g, l * 2, none⟩)) = .ok (.agg (IV e[l]!)) W' ∧ loadVal Try.prog 35 2 W' (.pointer (some ⟨g, q * 2, none⟩)) = .ok (.agg (IV e[q]!)) W') (fun _ => True) 15 (by kernel_rfl) S0 (fun hHeld => ?_)
                      clear S0
                      refine tk1 2 HM.out rfl ?_
                      simp only [Act.put, List.setIfInBounds_toArray, List.set_cons_zero, List.set_cons_succ]
                      refine tk1 3 HM.out rfl ?_
                      go_frame
                      refine tk1 4 HM.out rfl ?_
                      go_frame
                      refine tk1 10 HM.out rfl ?_
                      go_frame
                      refine tk1 11 HM.out rfl ?_
                      go_frame
                      refine tk1 12 HM.out rfl ?_
                      go_frame
                      refine tk0 0 rfl ?_
                      simp only [Act.put, List.setIfInBounds_toArray, List.set_cons_zero, List.set_cons_succ]
                      refine tk0 1 rfl ?_
                      go_frame
                      refine tk0 5 rfl ?_
                      go_frame
                      refine tk0 6 rfl ?_
                      go_frame
                      refine tk0 7 rfl ?_
                      go_frame
                      refine tk0 8 rfl ?_
                      go_frame
                      refine tk0 9 rfl ?_
                      go_frame
                      refine tk0 13 rfl ?_
                      go_frame
                      refine tk0 14 rfl ?_
                      go_frame
                      refine wpAnyL_ready (rs := [15]) (by kernel_rfl) (by simp) ?_
                      refine AllReadyL.cons1 (o := _) rfl (by kernel_rfl) (fun K hK => ?_) AllReadyL.nil
                      go_simp
                      refine hK.out _ _ trivial (fun hHeld => ?_)
                      clear hK K h6
                      refine tk2 16 HM.out rfl ?_
                      simp only [Act.put, List.setIfInBounds_toArray, List.set_cons_zero, List.set_cons_succ]
                      refine wpAnyL_ready (rs := [17]) (by kernel_rfl) (by simp) ?_
                      refine AllReadyL.cons1 (o := _) rfl (by kernel_rfl) (fun K hK => ?_) AllReadyL.nil
                      go_simp
                      refine hK.out _ _ trivial (fun hHeld => ?_)
                      clear hK K h7
                      refine wpAnyL_done (by kernel_rfl) ?_ _
                      try simp only [Exit.then]
                      have HT := HT7; clear HT7 HM
                      rw [set_set_swp] at HT
                      go_wp2
                      go_roundw
                      case rel => exact ⟨l + 1, swp e l q, by go_num, by omega, by omega, by rw [swp_sz]; exact HES.out, HS2.out, HT.out⟩
                      case measure => (simp [intOf]; try omega)
                  · have g7 : ¬ (l : Int) < (z : Int) := by omega
                    rw [shiftUp, if_neg hl1] at hs
                    have HS2 := Lib.hid hs; clear hs
                    have hw := HW.out
                    rw [HS2.out, show jj = 5 - (j0 + 1) by have := HJ.out; omega] at hw
                    have HW2 := Lib.hid hw; clear hw HW
                    go_wp2
                    go_roundw
                    case rel => exact ⟨i2, j0 + 1, e, by first | rfl | go_num, by go_num, hi3, hi4, by omega, HES.out, HW2.out, HT.out⟩
                    case measure => (simp [intOf]; try omega)
              · have g6 : ¬ (2 : Int) ≤ (z : Int) - (i2 : Int) := by omega
                have hsd : pUpC CM.lt z i2 e3 = e3 := by unfold pUpC; rw [if_neg h2]
                have HS2 := Lib.hid hsd; clear hsd
                have hw := HW.out
                rw [HS2.out, show jj = 5 - (j0 + 1) by have := HJ.out; omega] at hw
                have HW2 := Lib.hid hw; clear hw HW
                go_wp2
                go_roundw
                case rel => exact ⟨i2, j0 + 1, e3, by first | rfl | go_num, by go_num, hi3, hi4, by omega, HES.out, HW2.out, HT.out⟩
                case measure => (simp [intOf]; try omega)
    · have g5 : ¬ (j0 : Int) < 5 := by omega
      have hv := HV.out
      rw [show 5 - j0 = 0 by omega] at hv
      have HV2 := Lib.hid (hv : vr = (e0, false)); clear hv HV
      go_wp2
      go_ret
      exact ⟨by rw [HV2.out]; rfl, by rw [HV2.out]; exact HT.out⟩
end
end Go.Proofs.Ytnjgjhjilolanaa
