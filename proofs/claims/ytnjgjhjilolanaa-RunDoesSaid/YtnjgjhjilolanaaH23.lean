/- Several texts in one. -/
import Derived.Test.YtnjgjhjilolanaaH21
/- Items in a slice of the call's own, sorted in their place by a function: parted, equal ones. Printed by part.py. -/
namespace Go.Proofs.Ytnjgjhjilolanaa
open Go.RowKit Go.Shelf
open Go.Sort (swp scanUp scanDown partLoop partition partEqLoop partitionEqual partLoop_eq partEqLoop_eq scanUp_ge scanDown_le)
set_option linter.unusedVariables false
set_option maxRecDepth 20000
attribute [local go_sem] row_alloc row_drew row_drewN row_ext row_setCell row_setRow size_ext setRow_alloc setRow_drew loadOf storeOf piece_lit loadVal_at storeVal_at allOne_lit buildOf buildRes_some
attribute [local go_sem high] cell_alloc frozen_alloc setCell_alloc cell_ext frozen_ext cell_setRow frozen_setRow
attribute [local go_sem ↓] TDeed_ld0 TDeed_st0 TDeed_fd0 TDeed_bd0
attribute [local go_sem] TDeed_size TDeed_one TDeed_piece TDeed_c0 TDeed_c1 TDeed_c2 TDeed_c3 TDeed_c4 TDeed_c5 TDeed_set_kind TDeed_set_key TDeed_set_val TDeed_set_ver TDeed_set_ses TDeed_set_num TDeed_ld TDeed_st TDeed_f_kind TDeed_f_key TDeed_f_val TDeed_f_ver TDeed_f_ses TDeed_f_num TDeed_bd TDeed_fl TDeed_fl_kind TDeed_fl_key TDeed_fl_val TDeed_fl_ver TDeed_fl_ses TDeed_fl_num
attribute [local go_sem high] TDeed_eql TDeed_neq
attribute [local go_sem ↓] index_deps0 load_deps0 store_deps0
attribute [local go_sem] DV_piece DV_size DV_one index_deps load_deps store_deps
attribute [local go_sem high] TDeps_eql TDeps_neq
attribute [local go_sem ↓] TCall_ld0 TCall_st0 TCall_fd0 TCall_bd0
attribute [local go_sem] TCall_size TCall_one TCall_piece TCall_c0 TCall_c1 TCall_c2 TCall_c3 TCall_c4 TCall_c5 TCall_c6 TCall_c7 TCall_c8 TCall_c9 TCall_c10 TCall_c11 TCall_c12 TCall_c13 TCall_p_deed TCall_put_deed TCall_p_deps TCall_put_deps TCall_set_seq TCall_ld TCall_st TCall_f_deed TCall_f_deps TCall_f_seq TCall_bd TCall_fl TCall_fl_deed TCall_fl_deps TCall_fl_seq
attribute [local go_sem high] TCall_eql TCall_neq
attribute [local go_sem ↓] TItem_ld0 TItem_st0 TItem_fd0 TItem_bd0
attribute [local go_sem] TItem_size TItem_one TItem_piece TItem_c0 TItem_c1 TItem_set_rep TItem_set_num TItem_ld TItem_st TItem_f_rep TItem_f_num TItem_bd TItem_fl TItem_fl_rep TItem_fl_num
attribute [local go_sem high] TItem_eql TItem_neq
section
variable {w W : World} {F : Nat → Prop} {R : List Res} {g c : Nat} {CM : CmpK} {d : Array Item}
theorem pesup_goC (p : Item → Bool) (d : Array Item) (j i : Nat) (h : i ≤ j) (hp : p d[i]! = true) : scanUp p d j (i + 1) = scanUp p d j i := by
  conv => rhs; rw [scanUp]
  rw [if_pos (by simp [h, hp])]
theorem pesup_endC (p : Item → Bool) (d : Array Item) (j i : Nat) (h : ¬ i ≤ j ∨ p d[i]! = false) : i = scanUp p d j i := by
  rw [scanUp, if_neg (by rcases h with h | h <;> simp [h])]
theorem pesdn_goC (p : Item → Bool) (d : Array Item) (i j : Nat) (h : i ≤ j) (h0 : 0 < j) (hp : p d[j]! = true) : scanDown p d i (j - 1) = scanDown p d i j := by
  obtain ⟨k, rfl⟩ : ∃ k, j = k + 1 := ⟨j - 1, by omega⟩
  rw [scanDown, if_pos (by simp [h, hp])]
  rfl
theorem pesdn_endC (p : Item → Bool) (d : Array Item) (i j : Nat) (h : ¬ i ≤ j ∨ p d[j]! = false) : j = scanDown p d i j := by
  cases j with
  | zero => rfl
  | succ k => rw [scanDown, if_neg (by rcases h with h | h <;> simp [h])]
theorem partEqLoop_sizeC (lt : Item → Item → Bool) (a : Nat) : ∀ (k i j : Nat) (d : Array Item), j + 1 - i ≤ k → (partEqLoop lt a i j d).2.size = d.size
  | 0, i, j, d, h => by
    rw [partEqLoop_eq]
    have h1 := scanUp_ge (fun x => !lt d[a]! x) d j i
    have h2 := scanDown_le (fun x => lt d[a]! x) d (scanUp (fun x => !lt d[a]! x) d j i) j
    rw [if_pos (by omega)]
  | k + 1, i, j, d, h => by
    rw [partEqLoop_eq]
    have h1 := scanUp_ge (fun x => !lt d[a]! x) d j i
    have h2 := scanDown_le (fun x => lt d[a]! x) d (scanUp (fun x => !lt d[a]! x) d j i) j
    split
    · rfl
    · rw [partEqLoop_sizeC lt a k _ _ _ (by omega), swp_sz]
theorem partitionEqual_sizeC (lt : Item → Item → Bool) (d : Array Item) (a z pv : Nat) : (partitionEqual lt d a z pv).2.size = d.size := by
  unfold partitionEqual
  rw [partEqLoop_sizeC lt a _ _ _ _ (Nat.le_refl _), swp_sz]
set_option maxHeartbeats 32000000 in
theorem partitionEqualTC {n : Nat} (hd : d.size = n) (a z pv : Nat) (haz : a + 1 < z) (hz : z ≤ n) (hpv : pv < n) (hn : n ≤ 1000000) (hm : CM.Ok) (T : Sts w F W (itR g c d :: (CM.L ++ R))) :
    Calls Try.prog 80 #[.slice (some ⟨g, 0, none⟩) n c, .int .i64 a, .int .i64 z, .int .i64 pv, CM.cv] W fun e W' => e = .returned (.int .i64 (partitionEqual CM.lt d a z pv).1) ∧ Sts w F W' (itR g c (partitionEqual CM.lt d a z pv).2 :: (CM.L ++ R)) := by
  have HT := Lib.hid T; clear T
  have HES := Lib.hid hd; clear hd
  obtain ⟨pr, hpr⟩ : ∃ r, r = partitionEqual CM.lt d a z pv := ⟨_, rfl⟩
  rw [← hpr]
  unfold partitionEqual at hpr
  obtain ⟨j0, hj0⟩ : ∃ k, k = z - 1 := ⟨_, rfl⟩
  rw [← hj0] at hpr
  have HPR := Lib.hid hpr; clear hpr
  have e1 : (z : Int) - 1 = (j0 : Int) := by omega
  have v1 := wrapNC j0 (by omega)
  have hj0n : j0 < n := by omega
  have haj0 : a < j0 := by omega
  clear hj0
  have k1 : (0 : Int) ≤ (a : Int) := by omega
  have k2 : (0 : Int) ≤ (pv : Int) := by omega
  have k3 : (a : Int) < (n : Int) := by omega
  have k4 : (pv : Int) < (n : Int) := by omega
  go_enter Try.func80, Try.ntmps80
  go_upto_region 1 with fail
  have hes := HES.out
  have T := HT.out.drew
  have S0 : (fun W' => loadVal Try.prog 35 2 W' (.pointer (some ⟨g, a * 2, none⟩)) = .ok (.agg (IV d[a]!)) W' ∧ loadVal Try.prog 35 2 W' (.pointer (some ⟨g, pv * 2, none⟩)) = .ok (.agg (IV d[pv]!)) W') _ := ⟨T.itLoad (by omega), T.itLoad (by omega)⟩
  obtain ⟨w6, h6, T6⟩ := T.itSet (i := a) (by omega) d[pv]!
  obtain ⟨w7, h7, T7⟩ := T6.itSet (i := pv) (by simp; omega) d[a]!
  have HT7 := Lib.hid T7
  have HM := Lib.hid (show ∀ W' : World, (loadVal Try.prog 35 2 W' (.pointer (some ⟨g, a * 2, none⟩)) = .ok (.agg (IV d[a]!)) W' ∧ loadVal Try.prog 35 2 W' (.pointer (some ⟨g, pv * 2, none⟩)) = .ok (.agg (IV d[pv]!)) W') → True from fun _ _ => trivial)
  clear T T6 T7 HT hes
  refine wp_region_stage (fun W' => loadVal Try.prog 35 2 W' (.pointer (some ⟨g, a * 2, none⟩)) = .ok (.agg (IV d[a]!)) W' ∧ loadVal Try.prog 35 2 W' (.pointer (some ⟨g, pv * 2, none⟩)) = .ok (.agg (IV d[pv]!)) W') (fun _ => True) 13 (by kernel_rfl) S0 (fun hHeld => ?_)
  clear S0
  refine tk1 2 HM.out rfl ?_
  simp only [Act.put, List.setIfInBounds_toArray, List.set_cons_zero, List.set_cons_succ]
  refine tk1 3 HM.out rfl ?_
  go_frame
  refine tk1 8 HM.out rfl ?_
  go_frame
  refine tk1 9 HM.out rfl ?_
  go_frame
  refine tk1 10 HM.out rfl ?_
  go_frame
  refine tk0 0 rfl ?_
  simp only [Act.put, List.setIfInBounds_toArray, List.set_cons_zero, List.set_cons_succ]
  refine tk0 1 rfl ?_
  go_frame
  refine tk0 4 rfl ?_
  go_frame
  refine tk0 5 rfl ?_
  go_frame
  refine tk0 6 rfl ?_
  go_frame
  refine tk0 7 rfl ?_
  go_frame
  refine tk0 11 rfl ?_
  go_frame
  refine tk0 12 rfl ?_
  go_frame
  refine wpAnyL_ready (rs := [13]) (by kernel_rfl) (by simp) ?_
  refine AllReadyL.cons1 (o := _) rfl (by kernel_rfl) (fun K hK => ?_) AllReadyL.nil
  go_simp
  refine hK.out _ _ trivial (fun hHeld => ?_)
  clear hK K h6
  refine tk2 14 HM.out rfl ?_
  simp only [Act.put, List.setIfInBounds_toArray, List.set_cons_zero, List.set_cons_succ]
  refine wpAnyL_ready (rs := [15]) (by kernel_rfl) (by simp) ?_
  refine AllReadyL.cons1 (o := _) rfl (by kernel_rfl) (fun K hK => ?_) AllReadyL.nil
  go_simp
  refine hK.out _ _ trivial (fun hHeld => ?_)
  clear hK K h7
  refine wpAnyL_done (by kernel_rfl) ?_ _
  try simp only [Exit.then]
  have HT := HT7; clear HT7 HM
  rw [set_set_swp] at HT
  have hes2 : (swp d a pv).size = n := by rw [swp_sz]; exact HES.out
  clear HES
  have HES := Lib.hid hes2; clear hes2
  generalize swp d a pv = d1 at *
  go_wp2_with fail
  go_loopw [11, 12] (fun u v wx => ∃ (i j : Nat) (e : Array Item), u = .int .i64 i ∧ v = .int .i64 j ∧ a < i ∧ i ≤ n ∧ j < n ∧ e.size = n ∧ partEqLoop CM.lt a i j e = partEqLoop CM.lt a (a + 1) j0 d1 ∧ Sts w F wx (itR g c e :: (CM.L ++ R))) (fun u v _ => (intOf v + 1 - intOf u).toNat)
  case atStart => exact ⟨a + 1, j0, d1, by first | rfl | go_num, rfl, by omega, by omega, by omega, HES.out, rfl, HT.out⟩
  case round =>
    clear HT HES
    obtain ⟨i1, j1, e, rfl, rfl, hi1a, hi1n, hj1n, hes, hPL, T⟩ := hrel
    have HT := Lib.hid T; have HES := Lib.hid hes; have HPL := Lib.hid hPL; clear T hes hPL
    iterate 3 go_step
    go_cut [11] from 31 to 49 (fun u wx => Sts w F wx [] ∧ ∃ i : Nat, u = .int .i64 i ∧ i1 ≤ i ∧ i ≤ n ∧ i = scanUp (fun x => !CM.lt e[a]! x) e j1 (i1) ∧ Sts w F wx (itR g c e :: (CM.L ++ R)))
    case first =>
      go_wp2_with fail
      go_loopw [11] (fun u wx => ∃ i : Nat, u = .int .i64 i ∧ i1 ≤ i ∧ i ≤ n ∧ scanUp (fun x => !CM.lt e[a]! x) e j1 i = scanUp (fun x => !CM.lt e[a]! x) e j1 (i1) ∧ Sts w F wx (itR g c e :: (CM.L ++ R))) (fun u _ => n + 1 - (intOf u).toNat)
      case atStart => exact ⟨i1, by first | rfl | go_num, Nat.le_refl _, by omega, rfl, HT.out⟩
      case round =>
        clear HT
        obtain ⟨i, rfl, hi1, hi2, hS, T⟩ := hrel
        have HT := Lib.hid T; have HSC := Lib.hid hS; clear T hS
        by_cases hij : i ≤ j1
        · have g1 : (i : Int) ≤ (j1 : Int) := by omega
          have k1 : (0 : Int) ≤ (i : Int) := by omega
          have k2 : (0 : Int) ≤ (a : Int) := by omega
          have k3 : (i : Int) < (n : Int) := by omega
          have k4 : (a : Int) < (n : Int) := by omega
          go_upto_region 3 with fail
          have hes := HES.out
          have FS : ∀ W' R', Sts w F W' (itR g c e :: R') → (loadVal Try.prog 35 2 W' (.pointer (some ⟨g, a * 2, none⟩)) = .ok (.agg (IV e[a]!)) W' ∧ loadVal Try.prog 35 2 W' (.pointer (some ⟨g, i * 2, none⟩)) = .ok (.agg (IV e[i]!)) W') := fun W' R' T => ⟨T.itLoad (by omega), T.itLoad (by omega)⟩
          have HFS := Lib.hid FS
          have HT0 := Lib.hid HT.out.drew
          have S0 := FS _ _ HT0.out
          have HC := Lib.hid (hm.reads e[a]! e[i]!)
          have HL1 := Lib.hid (show CM.lt e[a]! e[i]! = decide (CM.cmp e[a]! e[i]! < 0) from rfl)
          clear FS HT hes
          generalize CM.cmp e[a]! e[i]! = cm1 at *
          refine wp_region_held_drew (S := fun W' => (loadVal Try.prog 35 2 W' (.pointer (some ⟨g, a * 2, none⟩)) = .ok (.agg (IV e[a]!)) W' ∧ loadVal Try.prog 35 2 W' (.pointer (some ⟨g, i * 2, none⟩)) = .ok (.agg (IV e[i]!)) W')) (by kernel_rfl) S0 (fun hHeld => ?_)
          clear S0
          refine tkH 0 rfl ?_
          simp only [Act.put, List.setIfInBounds_toArray, List.set_cons_zero, List.set_cons_succ]
          refine tkH 1 rfl ?_
          go_frame
          refine tkH 2 rfl ?_
          go_frame
          refine tkH 3 rfl ?_
          go_frame
          refine tkH 4 rfl ?_
          go_frame
          refine tkH 5 rfl ?_
          go_frame
          refine tkH 6 rfl ?_
          go_frame
          refine tkH 7 rfl ?_
          go_frame
          refine tkH 8 rfl ?_
          go_frame
          refine tkH 9 rfl ?_
          go_frame
          refine tkH 10 rfl ?_
          go_frame
          refine tkH 11 rfl ?_
          go_frame
          refine tkH 12 rfl ?_
          go_frame
          refine wpAnyH_ready (rs := [13]) (by kernel_rfl) (by simp) ?_
          refine AllReadyH.cons (o := _) rfl (fun K hK => ?_) AllReadyH.nil
          go_simp
          rw [hm.enter]
          go_simp
          refine (HC.out.itAtC (e := e) (L := [itR g c e]) HT0.out).mono ?_
          clear HC
          rintro e5 w5 ⟨rfl, hb⟩
          have T := HT0.out.pure hb
          clear hb HT0
          have HT := Lib.hid T; clear T
          refine hK.out _ _ (HFS.out _ _ HT.out) (fun hHeld => ?_)
          clear hK K HFS
          refine tkH 14 rfl ?_
          simp only [Act.put, List.setIfInBounds_toArray, List.set_cons_zero, List.set_cons_succ]
          refine tkH 15 rfl ?_
          go_frame
          refine tkH 16 rfl ?_
          go_frame
          refine wpAnyH_done (by kernel_rfl) ?_ _
          try simp only [Exit.then]
          cases hlt : decide (cm1 < 0)
          case true =>
            have hs := (pesup_endC (fun x => !CM.lt e[a]! x) e j1 i (.inr (by (try dsimp only); rw [HL1.out, hlt]; try rfl))).trans HSC.out
            have HS2 := Lib.hid hs; clear hs
            go_wp2
            go_meet
            case rel => exact ⟨HT.out.nil, i, rfl, hi1, hi2, HS2.out, HT.out⟩
          case false =>
            have hs := (pesup_goC (fun x => !CM.lt e[a]! x) e j1 i hij (by (try dsimp only); rw [HL1.out, hlt]; try rfl)).trans HSC.out
            have HS2 := Lib.hid hs; clear hs
            go_wp2
            go_roundw
            case rel => exact ⟨i + 1, by go_num, by omega, by omega, HS2.out, HT.out⟩
            case measure => (simp [intOf]; try omega)
        · have g1 : ¬ (i : Int) ≤ (j1 : Int) := by omega
          have hs := (pesup_endC (fun x => !CM.lt e[a]! x) e j1 i (.inl hij)).trans HSC.out
          have HS2 := Lib.hid hs; clear hs
          go_upto_region 3 with fail
          have HT0 := Lib.hid HT.out.drew; clear HT
          refine wp_region_held_drew (S := fun _ => True) (by kernel_rfl) trivial (fun hHeld => ?_)
          refine tkH 0 rfl ?_
          simp only [Act.put, List.setIfInBounds_toArray, List.set_cons_zero, List.set_cons_succ]
          refine tkH 1 rfl ?_
          go_frame
          refine tkH 2 rfl ?_
          go_frame
          refine tkH 3 rfl ?_
          go_frame
          refine skH 4 rfl ?_
          simp only [Act.put, List.setIfInBounds_toArray, List.set_cons_zero, List.set_cons_succ]
          refine skH 5 rfl ?_
          go_frame
          refine skH 6 rfl ?_
          go_frame
          refine skH 7 rfl ?_
          go_frame
          refine skH 8 rfl ?_
          go_frame
          refine skH 9 rfl ?_
          go_frame
          refine skH 10 rfl ?_
          go_frame
          refine skH 11 rfl ?_
          go_frame
          refine skH 12 rfl ?_
          go_frame
          refine skH 13 rfl ?_
          go_frame
          refine skH 14 rfl ?_
          go_frame
          refine skH 15 rfl ?_
          go_frame
          refine tkH 16 rfl ?_
          simp only [Act.put, List.setIfInBounds_toArray, List.set_cons_zero, List.set_cons_succ]
          refine wpAnyH_done (by kernel_rfl) ?_ _
          try simp only [Exit.then]
          go_wp2
          go_meet
          case rel => exact ⟨HT0.out.nil, i, rfl, hi1, hi2, HS2.out, HT0.out⟩
    case rest =>
      obtain ⟨-, i3, rfl, hi31, hi3n, hsi3, T⟩ := hcut
      clear HT
      have HT := Lib.hid T; have HSI3 := Lib.hid hsi3; clear T hsi3
      iterate 2 go_step
      go_cut [12] from 50 to 67 (fun u wx => Sts w F wx [] ∧ ∃ j : Nat, u = .int .i64 j ∧ j ≤ j1 ∧ j = scanDown (fun x => CM.lt e[a]! x) e i3 j1 ∧ Sts w F wx (itR g c e :: (CM.L ++ R)))
      case first =>
        go_wp2_with fail
        go_loopw [12] (fun u wx => ∃ j : Nat, u = .int .i64 j ∧ j ≤ j1 ∧ scanDown (fun x => CM.lt e[a]! x) e i3 j = scanDown (fun x => CM.lt e[a]! x) e i3 j1 ∧ Sts w F wx (itR g c e :: (CM.L ++ R))) (fun u _ => (intOf u).toNat)
        case atStart => exact ⟨j1, by first | rfl | go_num, Nat.le_refl _, rfl, HT.out⟩
        case round =>
          clear HT
          obtain ⟨j, rfl, hj1, hS, T⟩ := hrel
          have HT := Lib.hid T; have HSC := Lib.hid hS; clear T hS
          by_cases hij : i3 ≤ j
          · have g1 : (i3 : Int) ≤ (j : Int) := by omega
            have k1 : (0 : Int) ≤ (j : Int) := by omega
            have k2 : (0 : Int) ≤ (a : Int) := by omega
            have k3 : (j : Int) < (n : Int) := by omega
            have k4 : (a : Int) < (n : Int) := by omega
            have hj0 : 0 < j := by omega
            have hj2 : (j : Int) - 1 = ((j - 1 : Nat) : Int) := by omega
            have HJ2 := Lib.hid hj2; clear hj2
            go_upto_region 5 with fail
            have hes := HES.out
            have FS : ∀ W' R', Sts w F W' (itR g c e :: R') → (loadVal Try.prog 35 2 W' (.pointer (some ⟨g, a * 2, none⟩)) = .ok (.agg (IV e[a]!)) W' ∧ loadVal Try.prog 35 2 W' (.pointer (some ⟨g, j * 2, none⟩)) = .ok (.agg (IV e[j]!)) W') := fun W' R' T => ⟨T.itLoad (by omega), T.itLoad (by omega)⟩
            have HFS := Lib.hid FS
            have HT0 := Lib.hid HT.out.drew
            have S0 := FS _ _ HT0.out
            have HC := Lib.hid (hm.reads e[a]! e[j]!)
            have HL1 := Lib.hid (show CM.lt e[a]! e[j]! = decide (CM.cmp e[a]! e[j]! < 0) from rfl)
            clear FS HT hes
            generalize CM.cmp e[a]! e[j]! = cm1 at *
            refine wp_region_held_drew (S := fun W' => (loadVal Try.prog 35 2 W' (.pointer (some ⟨g, a * 2, none⟩)) = .ok (.agg (IV e[a]!)) W' ∧ loadVal Try.prog 35 2 W' (.pointer (some ⟨g, j * 2, none⟩)) = .ok (.agg (IV e[j]!)) W')) (by kernel_rfl) S0 (fun hHeld => ?_)
            clear S0
            refine tkH 0 rfl ?_
            simp only [Act.put, List.setIfInBounds_toArray, List.set_cons_zero, List.set_cons_succ]
            refine tkH 1 rfl ?_
            go_frame
            refine tkH 2 rfl ?_
            go_frame
            refine tkH 3 rfl ?_
            go_frame
            refine tkH 4 rfl ?_
            go_frame
            refine tkH 5 rfl ?_
            go_frame
            refine tkH 6 rfl ?_
            go_frame
            refine tkH 7 rfl ?_
            go_frame
            refine tkH 8 rfl ?_
            go_frame
            refine tkH 9 rfl ?_
            go_frame
            refine tkH 10 rfl ?_
            go_frame
            refine tkH 11 rfl ?_
            go_frame
            refine tkH 12 rfl ?_
            go_frame
            refine wpAnyH_ready (rs := [13]) (by kernel_rfl) (by simp) ?_
            refine AllReadyH.cons (o := _) rfl (fun K hK => ?_) AllReadyH.nil
            go_simp
            rw [hm.enter]
            go_simp
            refine (HC.out.itAtC (e := e) (L := [itR g c e]) HT0.out).mono ?_
            clear HC
            rintro e5 w5 ⟨rfl, hb⟩
            have T := HT0.out.pure hb
            clear hb HT0
            have HT := Lib.hid T; clear T
            refine hK.out _ _ (HFS.out _ _ HT.out) (fun hHeld => ?_)
            clear hK K HFS
            refine tkH 14 rfl ?_
            simp only [Act.put, List.setIfInBounds_toArray, List.set_cons_zero, List.set_cons_succ]
            refine tkH 15 rfl ?_
            go_frame
            refine wpAnyH_done (by kernel_rfl) ?_ _
            try simp only [Exit.then]
            cases hlt : decide (cm1 < 0)
            case false =>
              have hs := (pesdn_endC (fun x => CM.lt e[a]! x) e i3 j (.inr (by (try dsimp only); rw [HL1.out, hlt]; try rfl))).trans HSC.out
              have HS2 := Lib.hid hs; clear hs
              go_wp2
              go_meet
              case rel => exact ⟨HT.out.nil, j, rfl, hj1, HS2.out, HT.out⟩
            case true =>
              have hs := (pesdn_goC (fun x => CM.lt e[a]! x) e i3 j hij hj0 (by (try dsimp only); rw [HL1.out, hlt]; try rfl)).trans HSC.out
              have HS2 := Lib.hid hs; clear hs
              go_wp2
              go_roundw
              case rel => exact ⟨j - 1, by first | go_num | (rw [HJ2.out]), by omega, HS2.out, HT.out⟩
              case measure => (simp [intOf]; try omega)
          · have g1 : ¬ (i3 : Int) ≤ (j : Int) := by omega
            have hs := (pesdn_endC (fun x => CM.lt e[a]! x) e i3 j (.inl hij)).trans HSC.out
            have HS2 := Lib.hid hs; clear hs
            go_upto_region 5 with fail
            have HT0 := Lib.hid HT.out.drew; clear HT
            refine wp_region_held_drew (S := fun _ => True) (by kernel_rfl) trivial (fun hHeld => ?_)
            refine tkH 0 rfl ?_
            simp only [Act.put, List.setIfInBounds_toArray, List.set_cons_zero, List.set_cons_succ]
            refine tkH 1 rfl ?_
            go_frame
            refine tkH 2 rfl ?_
            go_frame
            refine tkH 3 rfl ?_
            go_frame
            refine skH 4 rfl ?_
            simp only [Act.put, List.setIfInBounds_toArray, List.set_cons_zero, List.set_cons_succ]
            refine skH 5 rfl ?_
            go_frame
            refine skH 6 rfl ?_
            go_frame
            refine skH 7 rfl ?_
            go_frame
            refine skH 8 rfl ?_
            go_frame
            refine skH 9 rfl ?_
            go_frame
            refine skH 10 rfl ?_
            go_frame
            refine skH 11 rfl ?_
            go_frame
            refine skH 12 rfl ?_
            go_frame
            refine skH 13 rfl ?_
            go_frame
            refine skH 14 rfl ?_
            go_frame
            refine tkH 15 rfl ?_
            simp only [Act.put, List.setIfInBounds_toArray, List.set_cons_zero, List.set_cons_succ]
            refine wpAnyH_done (by kernel_rfl) ?_ _
            try simp only [Exit.then]
            go_wp2
            go_meet
            case rel => exact ⟨HT0.out.nil, j, rfl, hj1, HS2.out, HT0.out⟩
      case rest =>
        obtain ⟨-, j3, rfl, hj31, hsj3, T⟩ := hcut
        clear HT
        have HT := Lib.hid T; have HSJ3 := Lib.hid hsj3; clear T hsj3
        have hpl := HPL.out
        rw [partEqLoop_eq, ← HSI3.out, ← HSJ3.out] at hpl
        by_cases hgt3 : i3 > j3
        · have g1 : (j3 : Int) < (i3 : Int) := by omega
          rw [if_pos hgt3] at hpl
          have hp2 := HPR.out
          rw [← hpl] at hp2
          have HP2 := Lib.hid hp2; clear hp2 hpl HPR
          go_wp2
          go_ret
          exact ⟨by rw [HP2.out]; rfl, by rw [HP2.out]; exact HT.out⟩
        · have g1 : ¬ (j3 : Int) < (i3 : Int) := by omega
          rw [if_neg hgt3] at hpl
          have HPL2 := Lib.hid hpl; clear hpl
          have k1 : (0 : Int) ≤ (i3 : Int) := by omega
          have k2 : (0 : Int) ≤ (j3 : Int) := by omega
          have k3 : (i3 : Int) < (n : Int) := by omega
          have k4 : (j3 : Int) < (n : Int) := by omega
          have hj32 : (j3 : Int) - 1 = ((j3 - 1 : Nat) : Int) := by omega
          have HJ32 := Lib.hid hj32; clear hj32
          go_upto_region 8 with fail
          have hes := HES.out
          have T := HT.out.drew
          have S0 : (fun W' => loadVal Try.prog 35 2 W' (.pointer (some ⟨g, i3 * 2, none⟩)) = .ok (.agg (IV e[i3]!)) W' ∧ loadVal Try.prog 35 2 W' (.pointer (some ⟨g, j3 * 2, none⟩)) = .ok (.agg (IV e[j3]!)) W') _ := ⟨T.itLoad (by omega), T.itLoad (by omega)⟩
          obtain ⟨w6, h6, T6⟩ := T.itSet (i := i3) (by omega) e[j3]!
          obtain ⟨w7, h7, T7⟩ := T6.itSet (i := j3) (by simp; omega) e[i3]!
          have HT7 := Lib.hid T7
          have HM := Lib.hid (show ∀ W' : World, (loadVal Try.prog 35 2 W' (.pointer (some ⟨g, i3 * 2, none⟩)) = .ok (.agg (IV e[i3]!)) W' ∧ loadVal Try.prog 35 2 W' (.pointer (some ⟨g, j3 * 2, none⟩)) = .ok (.agg (IV e[j3]!)) W') → True from fun _ _ => trivial)
          clear T T6 T7 HT hes
          refine wp_region_stage (fun W' => loadVal Try.prog 35 2 W' (.pointer (some ⟨g, i3 * 2, none⟩)) = .ok (.agg (IV e[i3]!)) W' ∧ loadVal Try.prog 35 2 W' (.pointer (some ⟨g, j3 * 2, none⟩)) = .ok (.agg (IV e[j3]!)) W') (fun _ => True) 13 (by kernel_rfl) S0 (fun hHeld => ?_)
          clear S0
          refine tk1 2 HM.out rfl ?_
          simp only [Act.put, List.setIfInBounds_toArray, List.set_cons_zero, List.set_cons_succ]
          refine tk1 3 HM.out rfl ?_
          go_frame
          refine tk1 8 HM.out rfl ?_
          go_frame
          refine tk1 9 HM.out rfl ?_
          go_frame
          refine tk1 10 HM.out rfl ?_
          go_frame
          refine tk0 0 rfl ?_
          simp only [Act.put, List.setIfInBounds_toArray, List.set_cons_zero, List.set_cons_succ]
          refine tk0 1 rfl ?_
          go_frame
          refine tk0 4 rfl ?_
          go_frame
          refine tk0 5 rfl ?_
          go_frame
          refine tk0 6 rfl ?_
          go_frame
          refine tk0 7 rfl ?_
          go_frame
          refine tk0 11 rfl ?_
          go_frame
          refine tk0 12 rfl ?_
          go_frame
          refine wpAnyL_ready (rs := [13]) (by kernel_rfl) (by simp) ?_
          refine AllReadyL.cons1 (o := _) rfl (by kernel_rfl) (fun K hK => ?_) AllReadyL.nil
          go_simp
          refine hK.out _ _ trivial (fun hHeld => ?_)
          clear hK K h6
          refine tk2 14 HM.out rfl ?_
          simp only [Act.put, List.setIfInBounds_toArray, List.set_cons_zero, List.set_cons_succ]
          refine wpAnyL_ready (rs := [15]) (by kernel_rfl) (by simp) ?_
          refine AllReadyL.cons1 (o := _) rfl (by kernel_rfl) (fun K hK => ?_) AllReadyL.nil
          go_simp
          refine hK.out _ _ trivial (fun hHeld => ?_)
          clear hK K h7
          refine wpAnyL_done (by kernel_rfl) ?_ _
          try simp only [Exit.then]
          have HT := HT7; clear HT7 HM
          rw [set_set_swp] at HT
          go_wp2
          go_roundw
          case rel => exact ⟨i3 + 1, j3 - 1, swp e i3 j3, by go_num, by first | go_num | (rw [HJ32.out]), by omega, by omega, by omega, by rw [swp_sz]; exact HES.out, HPL2.out, HT.out⟩
          case measure => (simp [intOf]; try omega)
end
end Go.Proofs.Ytnjgjhjilolanaa
