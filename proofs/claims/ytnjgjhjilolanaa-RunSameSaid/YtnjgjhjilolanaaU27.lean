/- Several texts in one. -/
import Derived.Test.YtnjgjhjilolanaaU23
/- Items in a slice of the call's own, sorted in their place by a function: are they sorted already? -/
namespace Go.Proofs.Ytnjgjhjilolanaa
open Go.RowKit Go.Shelf
open Go.Sort (swp scanSorted partialIns partialInsertionSort)
set_option linter.unusedVariables false
set_option maxRecDepth 20000
attribute [local go_sem] row_alloc row_drew row_drewN row_ext row_setCell row_setRow size_ext setRow_alloc setRow_drew loadOf storeOf piece_lit loadVal_at storeVal_at allOne_lit buildOf buildRes_some
attribute [local go_sem high] cell_alloc frozen_alloc setCell_alloc cell_ext frozen_ext cell_setRow frozen_setRow
attribute [local go_sem ↓] TDeed_ld0 TDeed_st0 TDeed_fd0 TDeed_bd0
attribute [local go_sem] TDeed_size TDeed_one TDeed_piece TDeed_c0 TDeed_c1 TDeed_c2 TDeed_c3 TDeed_c4 TDeed_c5 TDeed_set_kind TDeed_set_key TDeed_set_val TDeed_set_ver TDeed_set_ses TDeed_set_num TDeed_ld TDeed_st TDeed_f_kind TDeed_f_key TDeed_f_val TDeed_f_ver TDeed_f_ses TDeed_f_num TDeed_bd TDeed_fl TDeed_fl_kind TDeed_fl_key TDeed_fl_val TDeed_fl_ver TDeed_fl_ses TDeed_fl_num
attribute [local go_sem high] TDeed_eql TDeed_neq
attribute [local go_sem ↓] index_deps0 load_deps0 store_deps0
attribute [local go_sem] DV_piece DV_size DV_one index_deps load_deps store_deps
attribute [local go_sem high] TDeps_eql TDeps_neq
attribute [local go_sem ↓] TCall_ld0 TCall_st0 TCall_fd0 TCall_bd0
attribute [local go_sem] TCall_size TCall_one TCall_piece TCall_c0 TCall_c1 TCall_c2 TCall_c3 TCall_c4 TCall_c5 TCall_c6 TCall_c7 TCall_c8 TCall_c9 TCall_c10 TCall_c11 TCall_c12 TCall_c13 TCall_p_deed TCall_put_deed TCall_p_deps TCall_put_deps TCall_set_seq TCall_ld TCall_st TCall_f_deed TCall_f_deps TCall_f_seq TCall_bd TCall_fl TCall_fl_deed TCall_fl_deps TCall_fl_seq
attribute [local go_sem high] TCall_eql TCall_neq
attribute [local go_sem ↓] TItem_ld0 TItem_st0 TItem_fd0 TItem_bd0
attribute [local go_sem] TItem_size TItem_one TItem_piece TItem_c0 TItem_c1 TItem_set_rep TItem_set_num TItem_ld TItem_st TItem_f_rep TItem_f_num TItem_bd TItem_fl TItem_fl_rep TItem_fl_num
attribute [local go_sem high] TItem_eql TItem_neq
section
variable {w W : World} {F : Nat → Prop} {R : List Res} {g c : Nat} {CM : CmpK} {d : Array Item}
theorem ssort_goC (lt : Item → Item → Bool) (d : Array Item) (z i : Nat) (h : i < z) (hp : lt d[i]! d[i - 1]! = false) : scanSorted lt d z (i + 1) = scanSorted lt d z i := by
  conv => rhs; rw [scanSorted]
  rw [if_pos (by simp [h, hp])]
theorem ssort_endC (lt : Item → Item → Bool) (d : Array Item) (z i : Nat) (h : ¬ i < z ∨ lt d[i]! d[i - 1]! = true) : i = scanSorted lt d z i := by
  rw [scanSorted, if_neg (by rcases h with h | h <;> simp [h])]
theorem partial_eqC (lt : Item → Item → Bool) (d : Array Item) (a z : Nat) (h : z - a < 50) : partialInsertionSort lt d a z = (d, decide (scanSorted lt d z (a + 1) = z)) := by
  unfold partialInsertionSort
  rw [partialIns]
  dsimp only
  by_cases h1 : scanSorted lt d z (a + 1) = z
  · rw [if_pos h1, decide_eq_true h1]
  · rw [if_neg h1, if_pos h, decide_eq_false h1]
set_option maxHeartbeats 16000000 in
theorem partialTC {n : Nat} (hd : d.size = n) (a z : Nat) (haz : a < z) (hz : z ≤ n) (hn : n < 50) (hm : CM.Ok) (T : Sts w F W (itR g c d :: (CM.L ++ R))) :
    Calls Try.prog 79 #[.slice (some ⟨g, 0, none⟩) n c, .int .i64 a, .int .i64 z, CM.cv] W fun e W' => e = .returned (.bool (partialInsertionSort CM.lt d a z).2) ∧ Sts w F W' (itR g c d :: (CM.L ++ R)) := by
  have HT := Lib.hid T; clear T
  have HES := Lib.hid hd; clear hd
  rw [partial_eqC CM.lt d a z (by omega)]
  dsimp only
  obtain ⟨vr, hvr⟩ : ∃ v, v = decide (scanSorted CM.lt d z (a + 1) = z) := ⟨_, rfl⟩
  rw [← hvr]
  have HVR := Lib.hid hvr; clear hvr
  go_enter Try.func79, Try.ntmps79
  go_wp2_with fail
  go_loopw [9, 10] (fun u9 u10 wx => u9 = .int .i64 ((a + 1 : Nat) : Int) ∧ u10 = .int .i64 0 ∧ Sts w F wx (itR g c d :: (CM.L ++ R))) (fun _ _ _ => 0)
  case atStart => exact ⟨by first | rfl | go_num, rfl, HT.out⟩
  case round =>
    obtain ⟨rfl, rfl, T⟩ := hrel
    clear HT
    have HT := Lib.hid T; clear T
    go_upto_region 3 with fail
    iterate 17 go_step
    go_cut [9] from 19 to 38 (fun u wx => Sts w F wx [] ∧ ∃ i : Nat, u = .int .i64 i ∧ i ≤ z ∧ i = scanSorted CM.lt d z (a + 1) ∧ Sts w F wx (itR g c d :: (CM.L ++ R)))
    case first =>
      go_wp2_with fail
      go_loopw [9] (fun u wx => ∃ i : Nat, u = .int .i64 i ∧ a + 1 ≤ i ∧ i ≤ z ∧ scanSorted CM.lt d z i = scanSorted CM.lt d z (a + 1) ∧ Sts w F wx (itR g c d :: (CM.L ++ R))) (fun u _ => n + 1 - (intOf u).toNat)
      case atStart => exact ⟨a + 1, by first | rfl | go_num, Nat.le_refl _, by omega, rfl, HT.out⟩
      case round =>
        clear HT
        obtain ⟨i, rfl, hi1, hi2, hS, T⟩ := hrel
        have HT := Lib.hid T; have HSC := Lib.hid hS; clear T hS
        by_cases hij : i < z
        · have g1 : (i : Int) < (z : Int) := by omega
          obtain ⟨p, hp⟩ : ∃ p, p = i - 1 := ⟨_, rfl⟩
          have e1 : (i : Int) - 1 = (p : Int) := by omega
          have v1 := wrapNC p (by omega)
          have k1 : (0 : Int) ≤ (i : Int) := by omega
          have k2 : (0 : Int) ≤ (p : Int) := by omega
          have k3 : (i : Int) < (n : Int) := by omega
          have k4 : (p : Int) < (n : Int) := by omega
          have HP := Lib.hid hp; 
          clear hp
          go_upto_region 5 with fail
          have hes := HES.out
          have FS : ∀ W' R', Sts w F W' (itR g c d :: R') → (loadVal Try.prog 35 2 W' (.pointer (some ⟨g, i * 2, none⟩)) = .ok (.agg (IV d[i]!)) W' ∧ loadVal Try.prog 35 2 W' (.pointer (some ⟨g, p * 2, none⟩)) = .ok (.agg (IV d[p]!)) W') := fun W' R' T => ⟨T.itLoad (by omega), T.itLoad (by omega)⟩
          have HFS := Lib.hid FS
          have HT0 := Lib.hid HT.out.drew
          have S0 := FS _ _ HT0.out
          have HC := Lib.hid (hm.reads d[i]! d[p]!)
          have HL1 := Lib.hid (show CM.lt d[i]! d[p]! = decide (CM.cmp d[i]! d[p]! < 0) from rfl)
          clear FS HT hes
          generalize CM.cmp d[i]! d[p]! = cm1 at *
          refine wp_region_held_drew (S := fun W' => (loadVal Try.prog 35 2 W' (.pointer (some ⟨g, i * 2, none⟩)) = .ok (.agg (IV d[i]!)) W' ∧ loadVal Try.prog 35 2 W' (.pointer (some ⟨g, p * 2, none⟩)) = .ok (.agg (IV d[p]!)) W')) (by kernel_rfl) S0 (fun hHeld => ?_)
          clear S0
          refine tkH 0 rfl (v := ?_) ?_ ?_
          rotate_left
          · intro w h; (try dsimp only at h); go_simp; try with_reducible rfl
          simp only [Act.put, List.getElem_toArray, List.getElem_cons_zero, List.setIfInBounds_toArray, List.set_cons_zero, List.set_cons_succ]
          refine tkH 1 rfl (v := ?_) ?_ ?_
          rotate_left
          · intro w h; (try dsimp only at h); go_simp; try with_reducible rfl
          go_frame
          refine tkH 2 rfl (v := ?_) ?_ ?_
          rotate_left
          · intro w h; (try dsimp only at h); go_simp; try with_reducible rfl
          go_frame
          refine tkH 3 rfl (v := ?_) ?_ ?_
          rotate_left
          · intro w h; (try dsimp only at h); go_simp; try with_reducible rfl
          go_frame
          refine tkH 4 rfl (v := ?_) ?_ ?_
          rotate_left
          · intro w h; (try dsimp only at h); go_simp; try with_reducible rfl
          go_frame
          refine tkH 5 rfl (v := ?_) ?_ ?_
          rotate_left
          · intro w h; (try dsimp only at h); go_simp; try with_reducible rfl
          go_frame
          refine tkH 6 rfl (v := ?_) ?_ ?_
          rotate_left
          · intro w h; (try dsimp only at h); go_simp; try with_reducible rfl
          go_frame
          refine tkH 7 rfl (v := ?_) ?_ ?_
          rotate_left
          · intro w h; (try dsimp only at h); go_simp; try with_reducible rfl
          go_frame
          refine tkH 8 rfl (v := ?_) ?_ ?_
          rotate_left
          · intro w h; (try dsimp only at h); go_simp; try with_reducible rfl
          go_frame
          refine tkH 9 rfl (v := ?_) ?_ ?_
          rotate_left
          · intro w h; (try dsimp only at h); go_simp; try with_reducible rfl
          go_frame
          refine tkH 10 rfl (v := ?_) ?_ ?_
          rotate_left
          · intro w h; (try dsimp only at h); go_simp; try with_reducible rfl
          go_frame
          refine tkH 11 rfl (v := ?_) ?_ ?_
          rotate_left
          · intro w h; (try dsimp only at h); go_simp; try with_reducible rfl
          go_frame
          refine tkH 12 rfl (v := ?_) ?_ ?_
          rotate_left
          · intro w h; (try dsimp only at h); go_simp; try with_reducible rfl
          go_frame
          refine tkH 13 rfl (v := ?_) ?_ ?_
          rotate_left
          · intro w h; (try dsimp only at h); go_simp; try with_reducible rfl
          go_frame
          refine wpAnyH_ready (rs := [14]) (by kernel_rfl) (by simp) ?_
          refine AllReadyH.cons (o := _) rfl (fun K hK => ?_) AllReadyH.nil
          go_simp
          rw [hm.enter]
          go_simp
          refine (HC.out.itAtC (e := d) (L := [itR g c d]) HT0.out).mono ?_
          clear HC
          rintro e5 w5 ⟨rfl, hb⟩
          have T := HT0.out.pure hb
          clear hb HT0
          have HT := Lib.hid T; clear T
          refine hK.out _ _ (HFS.out _ _ HT.out) (fun hHeld => ?_)
          clear hK K HFS
          refine tkH 15 rfl (v := ?_) ?_ ?_
          rotate_left
          · intro w h; (try dsimp only at h); go_simp; try with_reducible rfl
          simp only [Act.put, List.getElem_toArray, List.getElem_cons_succ, List.getElem_cons_zero, List.setIfInBounds_toArray, List.set_cons_zero, List.set_cons_succ]
          refine tkH 16 rfl (v := ?_) ?_ ?_
          rotate_left
          · intro w h; (try dsimp only at h); go_simp; try with_reducible rfl
          go_frame
          refine tkH 17 rfl (v := ?_) ?_ ?_
          rotate_left
          · intro w h; (try dsimp only at h); go_simp; try with_reducible rfl
          go_frame
          refine wpAnyH_done (by kernel_rfl) ?_ _
          try simp only [Exit.then]
          cases hlt : decide (cm1 < 0)
          case true =>
            have hs := (ssort_endC CM.lt d z i (.inr (by rw [← HP.out, HL1.out, hlt]))).trans HSC.out
            have HS2 := Lib.hid hs; clear hs
            go_wp2
            go_meet
            case rel => exact ⟨HT.out.nil, i, rfl, hi2, HS2.out, HT.out⟩
          case false =>
            have hs := (ssort_goC CM.lt d z i hij (by rw [← HP.out, HL1.out, hlt])).trans HSC.out
            have HS2 := Lib.hid hs; clear hs
            go_wp2
            go_roundw
            case rel => exact ⟨i + 1, by go_num, by omega, by omega, HS2.out, HT.out⟩
            case measure => (simp [intOf]; try omega)
        · have g1 : ¬ (i : Int) < (z : Int) := by omega
          have hs := (ssort_endC CM.lt d z i (.inl hij)).trans HSC.out
          have HS2 := Lib.hid hs; clear hs
          go_upto_region 5 with fail
          have HT0 := Lib.hid HT.out.drew; clear HT
          refine wp_region_held_drew (S := fun _ => True) (by kernel_rfl) trivial (fun hHeld => ?_)
          refine tkH 0 rfl (v := ?_) ?_ ?_
          rotate_left
          · intro w h; (try dsimp only at h); go_simp; try with_reducible rfl
          simp only [Act.put, List.getElem_toArray, List.getElem_cons_zero, List.setIfInBounds_toArray, List.set_cons_zero, List.set_cons_succ]
          refine tkH 1 rfl (v := ?_) ?_ ?_
          rotate_left
          · intro w h; (try dsimp only at h); go_simp; try with_reducible rfl
          go_frame
          refine tkH 2 rfl (v := ?_) ?_ ?_
          rotate_left
          · intro w h; (try dsimp only at h); go_simp; try with_reducible rfl
          go_frame
          refine tkH 3 rfl (v := ?_) ?_ ?_
          rotate_left
          · intro w h; (try dsimp only at h); go_simp; try with_reducible rfl
          go_frame
          refine skH 4 rfl ?_
          simp only [Act.put, List.getElem_toArray, List.getElem_cons_succ, List.getElem_cons_zero, List.setIfInBounds_toArray, List.set_cons_zero, List.set_cons_succ]
          refine skH 5 rfl ?_
          go_frame
          refine skH 6 rfl ?_
          go_frame
          refine skH 7 rfl ?_
          go_frame
          refine skH 8 rfl ?_
          go_frame
          refine skH 9 rfl ?_
          go_frame
          refine skH 10 rfl ?_
          go_frame
          refine skH 11 rfl ?_
          go_frame
          refine skH 12 rfl ?_
          go_frame
          refine skH 13 rfl ?_
          go_frame
          refine skH 14 rfl ?_
          go_frame
          refine skH 15 rfl ?_
          go_frame
          refine skH 16 rfl ?_
          go_frame
          refine tkH 17 rfl (v := ?_) ?_ ?_
          rotate_left
          · intro w h; (try dsimp only at h); go_simp; try with_reducible rfl
          simp only [Act.put, List.getElem_toArray, List.getElem_cons_succ, List.getElem_cons_zero, List.setIfInBounds_toArray, List.set_cons_zero, List.set_cons_succ]
          refine wpAnyH_done (by kernel_rfl) ?_ _
          try simp only [Exit.then]
          go_wp2
          go_meet
          case rel => exact ⟨HT0.out.nil, i, rfl, hi2, HS2.out, HT0.out⟩
    case rest =>
      obtain ⟨-, i2, rfl, hi2, hsi, T⟩ := hcut
      clear HT
      have HT := Lib.hid T; have HSI := Lib.hid hsi; clear T hsi
      by_cases hiz : i2 = z
      · have hv : vr = true := by rw [HVR.out, ← HSI.out]; exact decide_eq_true hiz
        have HV := Lib.hid hv; clear hv
        subst hiz
        go_wp2
        go_ret
        exact ⟨by rw [HV.out]; rfl, HT.out⟩
      · have hv : vr = false := by rw [HVR.out, ← HSI.out]; exact decide_eq_false hiz
        have HV := Lib.hid hv; clear hv
        have g1 : ((i2 : Int) == (z : Int)) = false := by rw [beq_eq_false_iff_ne]; omega
        have g2 : (z : Int) - (a : Int) < 50 := by omega
        go_wp2
        go_ret
        exact ⟨by rw [HV.out]; rfl, HT.out⟩
end
end Go.Proofs.Ytnjgjhjilolanaa
