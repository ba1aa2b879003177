/- Several texts in one. -/
import Derived.Test.YtnjgjhjilolanaaH20
/- Items in a slice of the call's own, sorted in their place by a function: a part turned round, the heap. -/
namespace Go.Proofs.Ytnjgjhjilolanaa
open Go.RowKit Go.Shelf
open Go.Sort (swp reverseLoop reverseRange siftDown heapBuild heapPop heapSort)
set_option linter.unusedVariables false
set_option maxRecDepth 20000
attribute [local go_sem] row_alloc row_drew row_drewN row_ext row_setCell row_setRow size_ext setRow_alloc setRow_drew loadOf storeOf piece_lit loadVal_at storeVal_at allOne_lit buildOf buildRes_some
attribute [local go_sem high] cell_alloc frozen_alloc setCell_alloc cell_ext frozen_ext cell_setRow frozen_setRow
attribute [local go_sem ↓] TDeed_ld0 TDeed_st0 TDeed_fd0 TDeed_bd0
attribute [local go_sem] TDeed_size TDeed_one TDeed_piece TDeed_c0 TDeed_c1 TDeed_c2 TDeed_c3 TDeed_c4 TDeed_c5 TDeed_set_kind TDeed_set_key TDeed_set_val TDeed_set_ver TDeed_set_ses TDeed_set_num TDeed_ld TDeed_st TDeed_f_kind TDeed_f_key TDeed_f_val TDeed_f_ver TDeed_f_ses TDeed_f_num TDeed_bd TDeed_fl TDeed_fl_kind TDeed_fl_key TDeed_fl_val TDeed_fl_ver TDeed_fl_ses TDeed_fl_num
attribute [local go_sem high] TDeed_eql TDeed_neq
attribute [local go_sem ↓] index_deps0 load_deps0 store_deps0
attribute [local go_sem] DV_piece DV_size DV_one index_deps load_deps store_deps
attribute [local go_sem high] TDeps_eql TDeps_neq
attribute [local go_sem ↓] TCall_ld0 TCall_st0 TCall_fd0 TCall_bd0
attribute [local go_sem] TCall_size TCall_one TCall_piece TCall_c0 TCall_c1 TCall_c2 TCall_c3 TCall_c4 TCall_c5 TCall_c6 TCall_c7 TCall_c8 TCall_c9 TCall_c10 TCall_c11 TCall_c12 TCall_c13 TCall_p_deed TCall_put_deed TCall_p_deps TCall_put_deps TCall_set_seq TCall_ld TCall_st TCall_f_deed TCall_f_deps TCall_f_seq TCall_bd TCall_fl TCall_fl_deed TCall_fl_deps TCall_fl_seq
attribute [local go_sem high] TCall_eql TCall_neq
attribute [local go_sem ↓] TItem_ld0 TItem_st0 TItem_fd0 TItem_bd0
attribute [local go_sem] TItem_size TItem_one TItem_piece TItem_c0 TItem_c1 TItem_set_rep TItem_set_num TItem_ld TItem_st TItem_f_rep TItem_f_num TItem_bd TItem_fl TItem_fl_rep TItem_fl_num
attribute [local go_sem high] TItem_eql TItem_neq
-- HT : the things at hand (e the items) at the region's world; i, j < n = e.size (hes) and their bounds as Int facts
theorem wrapNC (k : Nat) (h : k ≤ 2000000) : IntKind.i64.wrap (k : Int) = (k : Int) := by rw [IntKind.wrap_i64] <;> omega
-- HT, HES as above; hm: the calls' rows; HLn: what the comparison tells, by cmn
section
variable {w W : World} {F : Nat → Prop} {R : List Res} {g c : Nat} {CM : CmpK} {d : Array Item}
theorem reverseLoop_sizeC : ∀ (n i j : Nat) (d : Array Item), j - i ≤ n → (reverseLoop i j d).size = d.size
  | 0, i, j, d, h => by rw [reverseLoop, if_neg (by omega)]
  | n + 1, i, j, d, h => by
    rw [reverseLoop]
    split
    · rw [reverseLoop_sizeC n _ _ _ (by omega), swp_sz]
    · rfl
set_option maxHeartbeats 8000000 in
theorem reverseRangeTC {n : Nat} (hd : d.size = n) (x z : Nat) (hxz : x < z) (hz : z ≤ n) (hn : n ≤ 1000000) (T : Sts w F W (itR g c d :: R)) :
    Calls Try.prog 78 #[.slice (some ⟨g, 0, none⟩) n c, .int .i64 x, .int .i64 z, CM.cv] W fun e W' => e = .returned (.tuple #[]) ∧ Sts w F W' (itR g c (reverseRange d x z) :: R) := by
  have HT := Lib.hid T; clear T
  have HD := Lib.hid hd; clear hd
  obtain ⟨z1, hz1⟩ : ∃ k, k = z - 1 := ⟨_, rfl⟩
  have HL := Lib.hid (show reverseRange d x z = reverseLoop x z1 d by rw [hz1]; rfl)
  have hw : IntKind.i64.wrap ((z : Int) - 1) = (z1 : Int) := by rw [IntKind.wrap_i64] <;> omega
  have hwz : (z : Int) - 1 = (z1 : Int) := by omega
  have hz1n : z1 < n := by omega
  clear hz1
  go_enter Try.func78, Try.ntmps78
  go_wp2_with fail
  go_loopw [8, 9] (fun u8 u9 wr => ∃ (i j : Nat) (e : Array Item), u8 = .int .i64 i ∧ u9 = .int .i64 ((j : Int)) ∧ i ≤ n ∧ j < n ∧ e.size = n ∧ reverseLoop i j e = reverseLoop x z1 d ∧ Sts w F wr (itR g c e :: R)) (fun u8 u9 _ => (intOf u9).toNat - (intOf u8).toNat)
  case atStart => exact ⟨x, z1, d, rfl, rfl, by omega, by omega, HD.out, rfl, HT.out⟩
  case round =>
    clear HT HD
    obtain ⟨i, j, e, rfl, rfl, hi, hj, hes, hE, T⟩ := hrel
    have HT := Lib.hid T; have HES := Lib.hid hes; clear T hes
    by_cases hij : i < j
    · have hij' : (i : Int) < (j : Int) := by omega
      have k1 : (0 : Int) ≤ (i : Int) := by omega
      have k2 : (0 : Int) ≤ (j : Int) := by omega
      have k3 : (i : Int) < (n : Int) := by omega
      have k4 : (j : Int) < (n : Int) := by omega
      rw [reverseLoop, if_pos hij] at hE
      have HE := Lib.hid hE; clear hE
      go_upto_region 3 with fail
      have hes := HES.out
      have T := HT.out.drew
      have S0 : (fun W' => loadVal Try.prog 35 2 W' (.pointer (some ⟨g, i * 2, none⟩)) = .ok (.agg (IV e[i]!)) W' ∧ loadVal Try.prog 35 2 W' (.pointer (some ⟨g, j * 2, none⟩)) = .ok (.agg (IV e[j]!)) W') _ := ⟨T.itLoad (by omega), T.itLoad (by omega)⟩
      obtain ⟨w6, h6, T6⟩ := T.itSet (i := i) (by omega) e[j]!
      obtain ⟨w7, h7, T7⟩ := T6.itSet (i := j) (by simp; omega) e[i]!
      have HT7 := Lib.hid T7
      have HM := Lib.hid (show ∀ W' : World, (loadVal Try.prog 35 2 W' (.pointer (some ⟨g, i * 2, none⟩)) = .ok (.agg (IV e[i]!)) W' ∧ loadVal Try.prog 35 2 W' (.pointer (some ⟨g, j * 2, none⟩)) = .ok (.agg (IV e[j]!)) W') → True from fun _ _ => trivial)
      clear T T6 T7 HT hes
      refine wp_region_stage (fun W' => loadVal Try.prog 35 2 W' (.pointer (some ⟨g, i * 2, none⟩)) = .ok (.agg (IV e[i]!)) W' ∧ loadVal Try.prog 35 2 W' (.pointer (some ⟨g, j * 2, none⟩)) = .ok (.agg (IV e[j]!)) W') (fun _ => True) 13 (by kernel_rfl) S0 (fun hHeld => ?_)
      clear S0
      refine tk1 2 HM.out rfl ?_
      simp only [Act.put, List.setIfInBounds_toArray, List.set_cons_zero, List.set_cons_succ]
      refine tk1 3 HM.out rfl ?_
      go_frame
      refine tk1 8 HM.out rfl ?_
      go_frame
      refine tk1 9 HM.out rfl ?_
      go_frame
      refine tk1 10 HM.out rfl ?_
      go_frame
      refine tk0 0 rfl ?_
      simp only [Act.put, List.setIfInBounds_toArray, List.set_cons_zero, List.set_cons_succ]
      refine tk0 1 rfl ?_
      go_frame
      refine tk0 4 rfl ?_
      go_frame
      refine tk0 5 rfl ?_
      go_frame
      refine tk0 6 rfl ?_
      go_frame
      refine tk0 7 rfl ?_
      go_frame
      refine tk0 11 rfl ?_
      go_frame
      refine tk0 12 rfl ?_
      go_frame
      refine wpAnyL_ready (rs := [13]) (by kernel_rfl) (by simp) ?_
      refine AllReadyL.cons1 (o := _) rfl (by kernel_rfl) (fun K hK => ?_) AllReadyL.nil
      go_simp
      refine hK.out _ _ trivial (fun hHeld => ?_)
      clear hK K h6
      refine tk2 14 HM.out rfl ?_
      simp only [Act.put, List.setIfInBounds_toArray, List.set_cons_zero, List.set_cons_succ]
      refine wpAnyL_ready (rs := [15]) (by kernel_rfl) (by simp) ?_
      refine AllReadyL.cons1 (o := _) rfl (by kernel_rfl) (fun K hK => ?_) AllReadyL.nil
      go_simp
      refine hK.out _ _ trivial (fun hHeld => ?_)
      clear hK K h7
      refine wpAnyL_done (by kernel_rfl) ?_ _
      try simp only [Exit.then]
      have HT := HT7; clear HT7 HM
      rw [set_set_swp] at HT
      have hj1 : (j : Int) - 1 = ((j - 1 : Nat) : Int) := by omega
      go_wp2
      go_roundw
      case rel => exact ⟨i + 1, j - 1, swp e i j, by go_num, by first | rfl | (rw [hj1]), by omega, by omega, by rw [swp_sz]; exact HES.out, HE.out, HT.out⟩
      case measure => simp [intOf]; omega
    · have hij' : ¬ (i : Int) < (j : Int) := by omega
      rw [reverseLoop, if_neg hij] at hE
      have HE := Lib.hid hE; clear hE
      go_wp2
      go_end0
      refine ⟨rfl, ?_⟩
      rw [HL.out, ← HE.out]
      exact HT.out
theorem siftDown_eqC (lt : Item → Item → Bool) (hi f r : Nat) (e : Array Item) (h : ¬ 2 * r + 1 ≥ hi) (ch : Nat) (hch : ch = if (decide (2 * r + 1 + 1 < hi) && lt e[f + (2 * r + 1)]! e[f + (2 * r + 1 + 1)]!) = true then 2 * r + 1 + 1 else 2 * r + 1) :
    siftDown lt hi f r e = if lt e[f + r]! e[f + ch]! = true then siftDown lt hi f ch (swp e (f + r) (f + ch)) else e := by
  rw [siftDown, dif_neg h]
  have e1 : f + (2 * r + 1) + 1 = f + (2 * r + 1 + 1) := by omega
  have e2 : 2 * r + 2 = 2 * r + 1 + 1 := by omega
  rw [e1, e2]
  split at hch
  · rename_i h1
    subst hch
    rw [if_pos h1]
    have h2 : 2 * r + 1 + 1 < hi := by simp at h1; omega
    cases h3 : lt e[f + r]! e[f + (2 * r + 1 + 1)]!
    · simp
    · simp [h2]
  · rename_i h1
    subst hch
    rw [if_neg h1]
    cases h3 : lt e[f + r]! e[f + (2 * r + 1)]!
    · simp
    · simp
theorem siftDown_sizeC (lt : Item → Item → Bool) (hi f : Nat) : ∀ (n r : Nat) (e : Array Item), hi - r ≤ n → (siftDown lt hi f r e).size = e.size
  | 0, r, e, h => by rw [siftDown, dif_pos (by omega)]
  | n + 1, r, e, h => by
    by_cases h1 : 2 * r + 1 ≥ hi
    · rw [siftDown, dif_pos h1]
    · obtain ⟨ch, hch⟩ : ∃ ch, ch = if (decide (2 * r + 1 + 1 < hi) && lt e[f + (2 * r + 1)]! e[f + (2 * r + 1 + 1)]!) = true then 2 * r + 1 + 1 else 2 * r + 1 := ⟨_, rfl⟩
      rw [siftDown_eqC lt hi f r e h1 ch hch]
      have hr : r < ch := by rw [hch]; split <;> omega
      split
      · rw [siftDown_sizeC lt hi f n _ _ (by omega), swp_sz]
      · rfl
set_option maxHeartbeats 16000000 in
theorem siftDownTC {n : Nat} (hd : d.size = n) (lo hi f : Nat) (hlo : lo ≤ hi) (hfn : f + hi ≤ n) (hn : n ≤ 1000000) (hm : CM.Ok) (T : Sts w F W (itR g c d :: (CM.L ++ R))) :
    Calls Try.prog 86 #[.slice (some ⟨g, 0, none⟩) n c, .int .i64 lo, .int .i64 hi, .int .i64 f, CM.cv] W fun e W' => e = .returned (.tuple #[]) ∧ Sts w F W' (itR g c (siftDown CM.lt hi f lo d) :: (CM.L ++ R)) := by
  have HT := Lib.hid T; clear T
  have HD := Lib.hid hd; clear hd
  go_enter Try.func86, Try.ntmps86
  go_wp2_with fail
  go_loopw [10] (fun u10 wr => ∃ (r : Nat) (e : Array Item), u10 = .int .i64 r ∧ r ≤ hi ∧ e.size = n ∧ siftDown CM.lt hi f r e = siftDown CM.lt hi f lo d ∧ Sts w F wr (itR g c e :: (CM.L ++ R))) (fun u10 _ => hi - (intOf u10).toNat)
  case atStart => exact ⟨lo, d, rfl, hlo, HD.out, rfl, HT.out⟩
  case round =>
    clear HT HD
    obtain ⟨r, e, rfl, hr, hes, hE, T⟩ := hrel
    have HT := Lib.hid T; have HES := Lib.hid hes; clear T hes
    obtain ⟨c1, hc1⟩ : ∃ k, k = 2 * r + 1 := ⟨_, rfl⟩
    have a1 : 2 * (r : Int) + 1 = (c1 : Int) := by omega
    by_cases hch : 2 * r + 1 ≥ hi
    · have hij' : (hi : Int) ≤ (c1 : Int) := by omega
      rw [siftDown, dif_pos hch] at hE
      have HE := Lib.hid hE; clear hE hc1
      go_wp2
      go_end0
      refine ⟨rfl, ?_⟩
      rw [← HE.out]
      exact HT.out
    · have hij' : ¬ (hi : Int) ≤ (c1 : Int) := by omega
      have HQ := Lib.hid (siftDown_eqC CM.lt hi f r e hch _ rfl)
      have HE := Lib.hid hE; clear hE
      rw [← hc1] at HQ
      have HC1 := Lib.hid hc1; clear hc1
      obtain ⟨q1, hq1⟩ : ∃ k, k = f + c1 := ⟨_, rfl⟩
      have a3 : (f : Int) + (c1 : Int) = (q1 : Int) := by omega
      have v1 := wrapNC q1 (by omega)
      have v3 : IntKind.i64.wrap ((c1 : Int) + 1) = (c1 : Int) + 1 := by rw [IntKind.wrap_i64] <;> omega
      go_upto_region 2 with fail
      iterate 18 go_step
      go_cut [11] from 19 to 42 (fun u11 wx => Sts w F wx [] ∧ ∃ ch : Nat, u11 = .int .i64 ch ∧ r < ch ∧ ch < hi ∧ siftDown CM.lt hi f r e = (if CM.lt e[f + r]! e[f + ch]! = true then siftDown CM.lt hi f ch (swp e (f + r) (f + ch)) else e) ∧ Sts w F wx (itR g c e :: (CM.L ++ R)))
      case first =>
        go_upto_region 3 with fail
        by_cases h2 : c1 + 1 < hi
        · have h2' : (c1 : Int) + 1 < (hi : Int) := by omega
          obtain ⟨q2, hq2⟩ : ∃ k, k = f + (c1 + 1) := ⟨_, rfl⟩
          have a4 : (q1 : Int) + 1 = (q2 : Int) := by omega
          have v2 := wrapNC q2 (by omega)
          have k1 : (0 : Int) ≤ (q1 : Int) := by omega
          have k2 : (0 : Int) ≤ (q2 : Int) := by omega
          have k3 : (q1 : Int) < (n : Int) := by omega
          have k4 : (q2 : Int) < (n : Int) := by omega
          have hes := HES.out
          have FS : ∀ W' R', Sts w F W' (itR g c e :: R') → (loadVal Try.prog 35 2 W' (.pointer (some ⟨g, q1 * 2, none⟩)) = .ok (.agg (IV e[q1]!)) W' ∧ loadVal Try.prog 35 2 W' (.pointer (some ⟨g, q2 * 2, none⟩)) = .ok (.agg (IV e[q2]!)) W') := fun W' R' T => ⟨T.itLoad (by omega), T.itLoad (by omega)⟩
          have HFS := Lib.hid FS
          have HT0 := Lib.hid HT.out.drew
          have S0 := FS _ _ HT0.out
          have HC := Lib.hid (hm.reads e[q1]! e[q2]!)
          have HL := Lib.hid (show CM.lt e[q1]! e[q2]! = decide (CM.cmp e[q1]! e[q2]! < 0) from rfl)
          have HQ1 := Lib.hid hq1; have HQ2 := Lib.hid hq2
          clear FS HT hes hq1 hq2
          generalize CM.cmp e[q1]! e[q2]! = cm at *
          refine wp_region_held_drew (S := fun W' => (loadVal Try.prog 35 2 W' (.pointer (some ⟨g, q1 * 2, none⟩)) = .ok (.agg (IV e[q1]!)) W' ∧ loadVal Try.prog 35 2 W' (.pointer (some ⟨g, q2 * 2, none⟩)) = .ok (.agg (IV e[q2]!)) W')) (by kernel_rfl) S0 (fun hHeld => ?_)
          clear S0
          refine tkH 0 rfl ?_
          simp only [Act.put, List.setIfInBounds_toArray, List.set_cons_zero, List.set_cons_succ]
          refine tkH 1 rfl ?_
          go_frame
          refine tkH 2 rfl ?_
          go_frame
          refine tkH 3 rfl ?_
          go_frame
          refine tkH 4 rfl ?_
          go_frame
          refine tkH 5 rfl ?_
          go_frame
          refine tkH 6 rfl ?_
          go_frame
          refine tkH 7 rfl ?_
          go_frame
          refine tkH 8 rfl ?_
          go_frame
          refine tkH 9 rfl ?_
          go_frame
          refine tkH 10 rfl ?_
          go_frame
          refine tkH 11 rfl ?_
          go_frame
          refine tkH 12 rfl ?_
          go_frame
          refine tkH 13 rfl ?_
          go_frame
          refine tkH 14 rfl ?_
          go_frame
          refine tkH 15 rfl ?_
          go_frame
          refine tkH 16 rfl ?_
          go_frame
          refine tkH 17 rfl ?_
          go_frame
          refine tkH 18 rfl ?_
          go_frame
          refine wpAnyH_ready (rs := [19]) (by kernel_rfl) (by simp) ?_
          refine AllReadyH.cons (o := _) rfl (fun K hK => ?_) AllReadyH.nil
          go_simp
          rw [hm.enter]
          go_simp
          refine (HC.out.itAtC (e := e) (L := [itR g c e]) HT0.out).mono ?_
          clear HC
          rintro e5 w5 ⟨rfl, hb⟩
          have T := HT0.out.pure hb
          clear hb HT0
          have HT := Lib.hid T; clear T
          refine hK.out _ _ (HFS.out _ _ HT.out) (fun hHeld => ?_)
          clear hK K HFS
          refine tkH 20 rfl ?_
          simp only [Act.put, List.setIfInBounds_toArray, List.set_cons_zero, List.set_cons_succ]
          refine tkH 21 rfl ?_
          go_frame
          refine wpAnyH_done (by kernel_rfl) ?_ _
          try simp only [Exit.then]
          have hQ := fun (t : Bool) (ht : decide (cm < 0) = t) => HQ.out
          cases hlt : decide (cm < 0)
          case false =>
            have hq : siftDown CM.lt hi f r e = (if CM.lt e[f + r]! e[f + c1]! = true then siftDown CM.lt hi f c1 (swp e (f + r) (f + c1)) else e) := by
              have := HQ.out
              rw [← HQ1.out, ← HQ2.out, HL.out, hlt, Bool.and_false, if_neg Bool.false_ne_true] at this
              exact this
            have HQQ := Lib.hid hq; clear hq hQ
            go_wp2
            go_meet
            case rel => exact ⟨HT.out.nil, c1, rfl, by have := HC1.out; omega, by omega, HQQ.out, HT.out⟩
          case true =>
            have hq : siftDown CM.lt hi f r e = (if CM.lt e[f + r]! e[f + (c1 + 1)]! = true then siftDown CM.lt hi f (c1 + 1) (swp e (f + r) (f + (c1 + 1))) else e) := by
              have := HQ.out
              rw [← HQ1.out, ← HQ2.out, HL.out, hlt, Bool.and_true, if_pos (decide_eq_true h2)] at this
              exact this
            have HQQ := Lib.hid hq; clear hq hQ
            go_wp2
            go_meet
            case rel => exact ⟨HT.out.nil, c1 + 1, by first | rfl | go_num, by have := HC1.out; omega, by omega, HQQ.out, HT.out⟩
        · have h2' : ¬ (c1 : Int) + 1 < (hi : Int) := by omega
          have hq : siftDown CM.lt hi f r e = (if CM.lt e[f + r]! e[f + c1]! = true then siftDown CM.lt hi f c1 (swp e (f + r) (f + c1)) else e) := by
            have := HQ.out
            rw [decide_eq_false h2, Bool.false_and, if_neg Bool.false_ne_true] at this
            exact this
          have HQQ := Lib.hid hq; clear hq
          have HT0 := Lib.hid HT.out.drew; clear HT
          refine wp_region_held_drew (S := fun _ => True) (by kernel_rfl) trivial (fun hHeld => ?_)
          refine tkH 0 rfl ?_
          simp only [Act.put, List.setIfInBounds_toArray, List.set_cons_zero, List.set_cons_succ]
          refine tkH 1 rfl ?_
          go_frame
          refine tkH 2 rfl ?_
          go_frame
          refine tkH 3 rfl ?_
          go_frame
          refine tkH 4 rfl ?_
          go_frame
          refine skH 5 rfl ?_
          simp only [Act.put, List.setIfInBounds_toArray, List.set_cons_zero, List.set_cons_succ]
          refine skH 6 rfl ?_
          go_frame
          refine skH 7 rfl ?_
          go_frame
          refine skH 8 rfl ?_
          go_frame
          refine skH 9 rfl ?_
          go_frame
          refine skH 10 rfl ?_
          go_frame
          refine skH 11 rfl ?_
          go_frame
          refine skH 12 rfl ?_
          go_frame
          refine skH 13 rfl ?_
          go_frame
          refine skH 14 rfl ?_
          go_frame
          refine skH 15 rfl ?_
          go_frame
          refine skH 16 rfl ?_
          go_frame
          refine skH 17 rfl ?_
          go_frame
          refine skH 18 rfl ?_
          go_frame
          refine skH 19 rfl ?_
          go_frame
          refine skH 20 rfl ?_
          go_frame
          refine tkH 21 rfl ?_
          simp only [Act.put, List.setIfInBounds_toArray, List.set_cons_zero, List.set_cons_succ]
          refine wpAnyH_done (by kernel_rfl) ?_ _
          try simp only [Exit.then]
          go_wp2
          go_meet
          case rel => exact ⟨HT0.out.nil, c1, rfl, by have := HC1.out; omega, by omega, HQQ.out, HT0.out⟩
      case rest =>
        obtain ⟨-, ch, rfl, hrc, hchi, hQ, T⟩ := hcut
        have HQ2 := Lib.hid hQ; have HT2 := Lib.hid T
        clear hQ T HQ HC1 hq1 a3 HT
        have HT := HT2; clear HT2
        obtain ⟨p1, hp1⟩ : ∃ k, k = f + r := ⟨_, rfl⟩
        obtain ⟨p2, hp2⟩ : ∃ k, k = f + ch := ⟨_, rfl⟩
        have b1 : (f : Int) + (r : Int) = (p1 : Int) := by omega
        have b2 : (f : Int) + (ch : Int) = (p2 : Int) := by omega
        have v1 := wrapNC p1 (by omega)
        have v2 := wrapNC p2 (by omega)
        have k1 : (0 : Int) ≤ (p1 : Int) := by omega
        have k2 : (0 : Int) ≤ (p2 : Int) := by omega
        have k3 : (p1 : Int) < (n : Int) := by omega
        have k4 : (p2 : Int) < (n : Int) := by omega
        have hqq := HQ2.out
        rw [← hp1, ← hp2] at hqq
        have HQ3 := Lib.hid hqq
        have HP1 := Lib.hid hp1; have HP2 := Lib.hid hp2
        clear hqq HQ2 hp1 hp2
        go_upto_region 5 with fail
        have hes := HES.out
        have FS : ∀ W' R', Sts w F W' (itR g c e :: R') → (loadVal Try.prog 35 2 W' (.pointer (some ⟨g, p1 * 2, none⟩)) = .ok (.agg (IV e[p1]!)) W' ∧ loadVal Try.prog 35 2 W' (.pointer (some ⟨g, p2 * 2, none⟩)) = .ok (.agg (IV e[p2]!)) W') := fun W' R' T => ⟨T.itLoad (by omega), T.itLoad (by omega)⟩
        have HFS := Lib.hid FS
        have HT0 := Lib.hid HT.out.drew
        have S0 := FS _ _ HT0.out
        have HC := Lib.hid (hm.reads e[p1]! e[p2]!)
        have HL1 := Lib.hid (show CM.lt e[p1]! e[p2]! = decide (CM.cmp e[p1]! e[p2]! < 0) from rfl)
        clear FS HT hes
        generalize CM.cmp e[p1]! e[p2]! = cm1 at *
        refine wp_region_held_drew (S := fun W' => (loadVal Try.prog 35 2 W' (.pointer (some ⟨g, p1 * 2, none⟩)) = .ok (.agg (IV e[p1]!)) W' ∧ loadVal Try.prog 35 2 W' (.pointer (some ⟨g, p2 * 2, none⟩)) = .ok (.agg (IV e[p2]!)) W')) (by kernel_rfl) S0 (fun hHeld => ?_)
        clear S0
        refine tkH 0 rfl ?_
        simp only [Act.put, List.setIfInBounds_toArray, List.set_cons_zero, List.set_cons_succ]
        refine tkH 1 rfl ?_
        go_frame
        refine tkH 2 rfl ?_
        go_frame
        refine tkH 3 rfl ?_
        go_frame
        refine tkH 4 rfl ?_
        go_frame
        refine tkH 5 rfl ?_
        go_frame
        refine tkH 6 rfl ?_
        go_frame
        refine tkH 7 rfl ?_
        go_frame
        refine tkH 8 rfl ?_
        go_frame
        refine tkH 9 rfl ?_
        go_frame
        refine tkH 10 rfl ?_
        go_frame
        refine tkH 11 rfl ?_
        go_frame
        refine tkH 12 rfl ?_
        go_frame
        refine wpAnyH_ready (rs := [13]) (by kernel_rfl) (by simp) ?_
        refine AllReadyH.cons (o := _) rfl (fun K hK => ?_) AllReadyH.nil
        go_simp
        rw [hm.enter]
        go_simp
        refine (HC.out.itAtC (e := e) (L := [itR g c e]) HT0.out).mono ?_
        clear HC
        rintro e5 w5 ⟨rfl, hb⟩
        have T := HT0.out.pure hb
        clear hb HT0
        have HT := Lib.hid T; clear T
        refine hK.out _ _ (HFS.out _ _ HT.out) (fun hHeld => ?_)
        clear hK K HFS
        refine tkH 14 rfl ?_
        simp only [Act.put, List.setIfInBounds_toArray, List.set_cons_zero, List.set_cons_succ]
        refine tkH 15 rfl ?_
        go_frame
        refine wpAnyH_done (by kernel_rfl) ?_ _
        try simp only [Exit.then]
        cases hlt : decide (cm1 < 0)
        case false =>
          have hE2 := HQ3.out
          rw [HL1.out, hlt, if_neg (by simp)] at hE2
          have HE2 := Lib.hid hE2; clear hE2
          go_wp2
          try simp only [Exit.inBlock, Exit.then]
          refine bodyPost_ret (results_none rfl _ _ _) rfl ?_
          refine ⟨rfl, ?_⟩
          rw [← HE.out, HE2.out]
          exact HT.out
        case true =>
          have hE2 := HQ3.out
          rw [HL1.out, hlt, if_pos rfl] at hE2
          have HE2 := Lib.hid hE2; clear hE2
          go_upto_region 6 with fail
          have hes := HES.out
          have T := HT.out.drew
          have S0 : (fun W' => loadVal Try.prog 35 2 W' (.pointer (some ⟨g, p1 * 2, none⟩)) = .ok (.agg (IV e[p1]!)) W' ∧ loadVal Try.prog 35 2 W' (.pointer (some ⟨g, p2 * 2, none⟩)) = .ok (.agg (IV e[p2]!)) W') _ := ⟨T.itLoad (by omega), T.itLoad (by omega)⟩
          obtain ⟨w6, h6, T6⟩ := T.itSet (i := p1) (by omega) e[p2]!
          obtain ⟨w7, h7, T7⟩ := T6.itSet (i := p2) (by simp; omega) e[p1]!
          have HT7 := Lib.hid T7
          have HM := Lib.hid (show ∀ W' : World, (loadVal Try.prog 35 2 W' (.pointer (some ⟨g, p1 * 2, none⟩)) = .ok (.agg (IV e[p1]!)) W' ∧ loadVal Try.prog 35 2 W' (.pointer (some ⟨g, p2 * 2, none⟩)) = .ok (.agg (IV e[p2]!)) W') → True from fun _ _ => trivial)
          clear T T6 T7 HT hes
          refine wp_region_stage (fun W' => loadVal Try.prog 35 2 W' (.pointer (some ⟨g, p1 * 2, none⟩)) = .ok (.agg (IV e[p1]!)) W' ∧ loadVal Try.prog 35 2 W' (.pointer (some ⟨g, p2 * 2, none⟩)) = .ok (.agg (IV e[p2]!)) W') (fun _ => True) 21 (by kernel_rfl) S0 (fun hHeld => ?_)
          clear S0
          refine tk1 4 HM.out rfl ?_
          simp only [Act.put, List.setIfInBounds_toArray, List.set_cons_zero, List.set_cons_succ]
          refine tk1 5 HM.out rfl ?_
          go_frame
          refine tk1 6 HM.out rfl ?_
          go_frame
          refine tk1 7 HM.out rfl ?_
          go_frame
          refine tk1 14 HM.out rfl ?_
          go_frame
          refine tk1 15 HM.out rfl ?_
          go_frame
          refine tk1 16 HM.out rfl ?_
          go_frame
          refine tk1 17 HM.out rfl ?_
          go_frame
          refine tk1 18 HM.out rfl ?_
          go_frame
          refine tk0 0 rfl ?_
          simp only [Act.put, List.setIfInBounds_toArray, List.set_cons_zero, List.set_cons_succ]
          refine tk0 1 rfl ?_
          go_frame
          refine tk0 2 rfl ?_
          go_frame
          refine tk0 3 rfl ?_
          go_frame
          refine tk0 8 rfl ?_
          go_frame
          refine tk0 9 rfl ?_
          go_frame
          refine tk0 10 rfl ?_
          go_frame
          refine tk0 11 rfl ?_
          go_frame
          refine tk0 12 rfl ?_
          go_frame
          refine tk0 13 rfl ?_
          go_frame
          refine tk0 19 rfl ?_
          go_frame
          refine tk0 20 rfl ?_
          go_frame
          refine wpAnyL_ready (rs := [21]) (by kernel_rfl) (by simp) ?_
          refine AllReadyL.cons1 (o := _) rfl (by kernel_rfl) (fun K hK => ?_) AllReadyL.nil
          go_simp
          refine hK.out _ _ trivial (fun hHeld => ?_)
          clear hK K h6
          refine tk2 22 HM.out rfl ?_
          simp only [Act.put, List.setIfInBounds_toArray, List.set_cons_zero, List.set_cons_succ]
          refine wpAnyL_ready (rs := [23]) (by kernel_rfl) (by simp) ?_
          refine AllReadyL.cons1 (o := _) rfl (by kernel_rfl) (fun K hK => ?_) AllReadyL.nil
          go_simp
          refine hK.out _ _ trivial (fun hHeld => ?_)
          clear hK K h7
          refine wpAnyL_done (by kernel_rfl) ?_ _
          try simp only [Exit.then]
          have HT := HT7; clear HT7 HM
          rw [set_set_swp] at HT
          go_wp2
          go_roundw
          case rel => exact ⟨ch, swp e p1 p2, rfl, by omega, by rw [swp_sz]; exact HES.out, by rw [← HE2.out]; exact HE.out, HT.out⟩
          case measure => simp [intOf]; omega
end
end Go.Proofs.Ytnjgjhjilolanaa
/- Items in a slice of the call's own, sorted in their place by a function: by a heap. -/
namespace Go.Proofs.Ytnjgjhjilolanaa
open Go.RowKit Go.Shelf
open Go.Sort (swp siftDown heapBuild heapPop heapSort)
set_option linter.unusedVariables false
set_option maxRecDepth 20000
attribute [local go_sem] row_alloc row_drew row_drewN row_ext row_setCell row_setRow size_ext setRow_alloc setRow_drew loadOf storeOf piece_lit loadVal_at storeVal_at allOne_lit buildOf buildRes_some
attribute [local go_sem high] cell_alloc frozen_alloc setCell_alloc cell_ext frozen_ext cell_setRow frozen_setRow
attribute [local go_sem ↓] TDeed_ld0 TDeed_st0 TDeed_fd0 TDeed_bd0
attribute [local go_sem] TDeed_size TDeed_one TDeed_piece TDeed_c0 TDeed_c1 TDeed_c2 TDeed_c3 TDeed_c4 TDeed_c5 TDeed_set_kind TDeed_set_key TDeed_set_val TDeed_set_ver TDeed_set_ses TDeed_set_num TDeed_ld TDeed_st TDeed_f_kind TDeed_f_key TDeed_f_val TDeed_f_ver TDeed_f_ses TDeed_f_num TDeed_bd TDeed_fl TDeed_fl_kind TDeed_fl_key TDeed_fl_val TDeed_fl_ver TDeed_fl_ses TDeed_fl_num
attribute [local go_sem high] TDeed_eql TDeed_neq
attribute [local go_sem ↓] index_deps0 load_deps0 store_deps0
attribute [local go_sem] DV_piece DV_size DV_one index_deps load_deps store_deps
attribute [local go_sem high] TDeps_eql TDeps_neq
attribute [local go_sem ↓] TCall_ld0 TCall_st0 TCall_fd0 TCall_bd0
attribute [local go_sem] TCall_size TCall_one TCall_piece TCall_c0 TCall_c1 TCall_c2 TCall_c3 TCall_c4 TCall_c5 TCall_c6 TCall_c7 TCall_c8 TCall_c9 TCall_c10 TCall_c11 TCall_c12 TCall_c13 TCall_p_deed TCall_put_deed TCall_p_deps TCall_put_deps TCall_set_seq TCall_ld TCall_st TCall_f_deed TCall_f_deps TCall_f_seq TCall_bd TCall_fl TCall_fl_deed TCall_fl_deps TCall_fl_seq
attribute [local go_sem high] TCall_eql TCall_neq
attribute [local go_sem ↓] TItem_ld0 TItem_st0 TItem_fd0 TItem_bd0
attribute [local go_sem] TItem_size TItem_one TItem_piece TItem_c0 TItem_c1 TItem_set_rep TItem_set_num TItem_ld TItem_st TItem_f_rep TItem_f_num TItem_bd TItem_fl TItem_fl_rep TItem_fl_num
attribute [local go_sem high] TItem_eql TItem_neq
section
variable {w W : World} {F : Nat → Prop} {R : List Res} {g c : Nat} {CM : CmpK} {d : Array Item}
theorem heapBuild_sizeC (lt : Item → Item → Bool) (hi f : Nat) : ∀ (k : Nat) (e : Array Item), (heapBuild lt hi f k e).size = e.size
  | 0, e => rfl
  | k + 1, e => by rw [heapBuild, heapBuild_sizeC lt hi f k, siftDown_sizeC lt hi f hi k e (by omega)]
theorem heapPop_sizeC (lt : Item → Item → Bool) (f : Nat) : ∀ (k : Nat) (e : Array Item), (heapPop lt f k e).size = e.size
  | 0, e => rfl
  | k + 1, e => by rw [heapPop, heapPop_sizeC lt f k, siftDown_sizeC lt k f k 0 _ (by omega), swp_sz]
theorem heapSort_sizeC (lt : Item → Item → Bool) (d : Array Item) (a z : Nat) : (heapSort lt d a z).size = d.size := by
  unfold heapSort
  rw [heapPop_sizeC, heapBuild_sizeC]
set_option maxHeartbeats 16000000 in
theorem heapSortTC {n : Nat} (hd : d.size = n) (a z : Nat) (haz : a < z) (hz : z ≤ n) (hn : n ≤ 1000000) (hm : CM.Ok) (T : Sts w F W (itR g c d :: (CM.L ++ R))) :
    Calls Try.prog 75 #[.slice (some ⟨g, 0, none⟩) n c, .int .i64 a, .int .i64 z, CM.cv] W fun e W' => e = .returned (.tuple #[]) ∧ Sts w F W' (itR g c (heapSort CM.lt d a z) :: (CM.L ++ R)) := by
  have HT := Lib.hid T; clear T
  have HD := Lib.hid hd; clear hd
  obtain ⟨hi, hhi⟩ : ∃ k, k = z - a := ⟨_, rfl⟩
  obtain ⟨k0, hk0⟩ : ∃ k, k = (hi - 1) / 2 + 1 := ⟨_, rfl⟩
  have e1 : (z : Int) - (a : Int) = (hi : Int) := by omega
  have v1 := wrapNC hi (by omega)
  have e2 : IntKind.i64.wrap ((hi : Int) - 1) = (hi : Int) - 1 := by rw [IntKind.wrap_i64] <;> omega
  have hahi : a + hi ≤ n := by omega
  have hhi0 : 0 < hi := by omega
  have HR := Lib.hid (show heapSort CM.lt d a z = heapPop CM.lt a hi (heapBuild CM.lt hi a k0 d) by unfold heapSort; rw [hk0, hhi])
  have HK := Lib.hid hk0
  clear hhi hk0
  go_enter Try.func75, Try.ntmps75
  go_wp2_with fail
  go_loopw [11] (fun u11 wr => ∃ (k : Nat) (e : Array Item), u11 = .int .i64 ((k : Int) - 1) ∧ k ≤ hi ∧ e.size = n ∧ heapBuild CM.lt hi a k e = heapBuild CM.lt hi a k0 d ∧ Sts w F wr (itR g c e :: (CM.L ++ R))) (fun u11 _ => (intOf u11 + 1).toNat)
  case atStart =>
    exact ⟨k0, d, by have := HK.out; congr 1; omega, by have := HK.out; omega, HD.out, rfl, HT.out⟩
  case round =>
    clear HT HD
    obtain ⟨k, e, rfl, hk, hes, hE, T⟩ := hrel
    have HT := Lib.hid T; have HES := Lib.hid hes; have HE := Lib.hid hE; clear T hes hE
    cases k with
    | zero =>
      have g0 : ¬ (0 : Int) ≤ ((0 : Nat) : Int) - 1 := by omega
      have hE0 := HE.out
      rw [heapBuild] at hE0
      have HE0 := Lib.hid hE0; clear hE0 HE
      go_wp2_with fail
      go_loopw [12] (fun u12 wx => ∃ (k : Nat) (e1 : Array Item), u12 = .int .i64 ((k : Int) - 1) ∧ k ≤ hi ∧ e1.size = n ∧ heapPop CM.lt a k e1 = heapPop CM.lt a hi e ∧ Sts w F wx (itR g c e1 :: (CM.L ++ R))) (fun u12 _ => (intOf u12 + 1).toNat)
      case atStart => exact ⟨hi, e, rfl, Nat.le_refl _, HES.out, rfl, HT.out⟩
      case round =>
        clear HT HES
        obtain ⟨k, e1, rfl, hk, hes, hE, T⟩ := hrel
        have HT := Lib.hid T; have HES := Lib.hid hes; have HE := Lib.hid hE; clear T hes hE
        cases k with
        | zero =>
          have g0 : ¬ (0 : Int) ≤ ((0 : Nat) : Int) - 1 := by omega
          go_wp2
          go_end0
          refine ⟨rfl, ?_⟩
          have := HE.out
          rw [heapPop] at this
          rw [HR.out, ← HE0.out, ← this]
          exact HT.out
        | succ k =>
          obtain ⟨kk, hkk⟩ : ∃ v : Int, v = ((k + 1 : Nat) : Int) - 1 := ⟨_, rfl⟩
          rw [← hkk]
          have g0 : kk = (k : Int) := by omega
          subst g0
          have HKK := Lib.hid hkk; clear hkk
          have g1 : (0 : Int) ≤ (k : Int) := by omega
          obtain ⟨p, hp⟩ : ∃ p, p = a + k := ⟨_, rfl⟩
          have b1 : (a : Int) + (k : Int) = (p : Int) := by omega
          have w1 := wrapNC p (by omega)
          have k1 : (0 : Int) ≤ (a : Int) := by omega
          have k2 : (0 : Int) ≤ (p : Int) := by omega
          have k3 : (a : Int) < (n : Int) := by omega
          have k4 : (p : Int) < (n : Int) := by omega
          have hE2 := HE.out
          rw [heapPop, ← hp] at hE2
          have HE2 := Lib.hid hE2; have HP := Lib.hid hp
          clear hE2 HE hp
          go_upto_region 10 with fail
          have hes := HES.out
          have T := HT.out.drew
          have S0 : (fun W' => loadVal Try.prog 35 2 W' (.pointer (some ⟨g, a * 2, none⟩)) = .ok (.agg (IV e1[a]!)) W' ∧ loadVal Try.prog 35 2 W' (.pointer (some ⟨g, p * 2, none⟩)) = .ok (.agg (IV e1[p]!)) W') _ := ⟨T.itLoad (by omega), T.itLoad (by omega)⟩
          obtain ⟨w6, h6, T6⟩ := T.itSet (i := a) (by omega) e1[p]!
          obtain ⟨w7, h7, T7⟩ := T6.itSet (i := p) (by simp; omega) e1[a]!
          have HT7 := Lib.hid T7
          have HM := Lib.hid (show ∀ W' : World, (loadVal Try.prog 35 2 W' (.pointer (some ⟨g, a * 2, none⟩)) = .ok (.agg (IV e1[a]!)) W' ∧ loadVal Try.prog 35 2 W' (.pointer (some ⟨g, p * 2, none⟩)) = .ok (.agg (IV e1[p]!)) W') → True from fun _ _ => trivial)
          clear T T6 T7 HT hes
          refine wp_region_stage (fun W' => loadVal Try.prog 35 2 W' (.pointer (some ⟨g, a * 2, none⟩)) = .ok (.agg (IV e1[a]!)) W' ∧ loadVal Try.prog 35 2 W' (.pointer (some ⟨g, p * 2, none⟩)) = .ok (.agg (IV e1[p]!)) W') (fun _ => True) 17 (by kernel_rfl) S0 (fun hHeld => ?_)
          clear S0
          refine tk1 2 HM.out rfl ?_
          simp only [Act.put, List.setIfInBounds_toArray, List.set_cons_zero, List.set_cons_succ]
          refine tk1 3 HM.out rfl ?_
          go_frame
          refine tk1 4 HM.out rfl ?_
          go_frame
          refine tk1 5 HM.out rfl ?_
          go_frame
          refine tk1 12 HM.out rfl ?_
          go_frame
          refine tk1 13 HM.out rfl ?_
          go_frame
          refine tk1 14 HM.out rfl ?_
          go_frame
          refine tk0 0 rfl ?_
          simp only [Act.put, List.setIfInBounds_toArray, List.set_cons_zero, List.set_cons_succ]
          refine tk0 1 rfl ?_
          go_frame
          refine tk0 6 rfl ?_
          go_frame
          refine tk0 7 rfl ?_
          go_frame
          refine tk0 8 rfl ?_
          go_frame
          refine tk0 9 rfl ?_
          go_frame
          refine tk0 10 rfl ?_
          go_frame
          refine tk0 11 rfl ?_
          go_frame
          refine tk0 15 rfl ?_
          go_frame
          refine tk0 16 rfl ?_
          go_frame
          refine wpAnyL_ready (rs := [17]) (by kernel_rfl) (by simp) ?_
          refine AllReadyL.cons1 (o := _) rfl (by kernel_rfl) (fun K hK => ?_) AllReadyL.nil
          go_simp
          refine hK.out _ _ trivial (fun hHeld => ?_)
          clear hK K h6
          refine tk2 18 HM.out rfl ?_
          simp only [Act.put, List.setIfInBounds_toArray, List.set_cons_zero, List.set_cons_succ]
          refine wpAnyL_ready (rs := [19]) (by kernel_rfl) (by simp) ?_
          refine AllReadyL.cons1 (o := _) rfl (by kernel_rfl) (fun K hK => ?_) AllReadyL.nil
          go_simp
          refine hK.out _ _ trivial (fun hHeld => ?_)
          clear hK K h7
          refine wpAnyL_done (by kernel_rfl) ?_ _
          try simp only [Exit.then]
          have HT := HT7; clear HT7 HM
          rw [set_set_swp] at HT
          have hss : (swp e1 a p).size = n := by rw [swp_sz]; exact HES.out
          have HS := Lib.hid (siftDownTC hss 0 k a (Nat.zero_le _) (by omega) hn hm HT.out)
          have HSS := Lib.hid hss; clear hss HT
          go_wp2_with fail
          refine HS.out.mono ?_
          clear HS
          rintro e5 w5 ⟨rfl, T⟩
          have HT := Lib.hid T; clear T
          go_wp2
          go_roundw
          case rel => exact ⟨k, siftDown CM.lt k a 0 (swp e1 a p), by go_num, by omega, by rw [siftDown_sizeC _ _ _ k _ _ (by omega)]; exact HSS.out, HE2.out, HT.out⟩
          case measure => (simp [intOf]; try omega)
    | succ k =>
      obtain ⟨kk, hkk⟩ : ∃ v : Int, v = ((k + 1 : Nat) : Int) - 1 := ⟨_, rfl⟩
      rw [← hkk]
      have g0 : kk = (k : Int) := by omega
      subst g0
      have HKK := Lib.hid hkk; clear hkk
      have g1 : (0 : Int) ≤ (k : Int) := by omega
      have HS := Lib.hid (siftDownTC HES.out k hi a (by omega) hahi hn hm HT.out)
      have hE2 := HE.out
      rw [heapBuild] at hE2
      have HE2 := Lib.hid hE2
      clear hE2 HE HT
      go_wp2_with fail
      refine HS.out.mono ?_
      clear HS
      rintro e5 w5 ⟨rfl, T⟩
      have HT := Lib.hid T; clear T
      go_wp2
      go_roundw
      case rel => exact ⟨k, siftDown CM.lt hi a k e, by go_num, by omega, by rw [siftDown_sizeC _ _ _ hi _ _ (by omega)]; exact HES.out, HE2.out, HT.out⟩
      case measure => (simp [intOf]; try omega)
end
end Go.Proofs.Ytnjgjhjilolanaa
