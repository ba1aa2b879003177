/- Several texts in one. -/
import Derived.Test.YtnjgjhjilolanaaH25
/- Items in a slice of the call's own, sorted in their place by a function. -/
namespace Go.Proofs.Ytnjgjhjilolanaa
open Go.RowKit Go.Shelf
open Go.Sort (swp insertionSort heapSort breakPatterns choosePivot reverseRange partialInsertionSort partition partitionEqual pdq bitsLen Hint)
set_option linter.unusedVariables false
set_option maxRecDepth 20000
attribute [local go_sem] row_alloc row_drew row_drewN row_ext row_setCell row_setRow size_ext setRow_alloc setRow_drew loadOf storeOf piece_lit loadVal_at storeVal_at allOne_lit buildOf buildRes_some
attribute [local go_sem high] cell_alloc frozen_alloc setCell_alloc cell_ext frozen_ext cell_setRow frozen_setRow
attribute [local go_sem ↓] TDeed_ld0 TDeed_st0 TDeed_fd0 TDeed_bd0
attribute [local go_sem] TDeed_size TDeed_one TDeed_piece TDeed_c0 TDeed_c1 TDeed_c2 TDeed_c3 TDeed_c4 TDeed_c5 TDeed_set_kind TDeed_set_key TDeed_set_val TDeed_set_ver TDeed_set_ses TDeed_set_num TDeed_ld TDeed_st TDeed_f_kind TDeed_f_key TDeed_f_val TDeed_f_ver TDeed_f_ses TDeed_f_num TDeed_bd TDeed_fl TDeed_fl_kind TDeed_fl_key TDeed_fl_val TDeed_fl_ver TDeed_fl_ses TDeed_fl_num
attribute [local go_sem high] TDeed_eql TDeed_neq
attribute [local go_sem ↓] index_deps0 load_deps0 store_deps0
attribute [local go_sem] DV_piece DV_size DV_one index_deps load_deps store_deps
attribute [local go_sem high] TDeps_eql TDeps_neq
attribute [local go_sem ↓] TCall_ld0 TCall_st0 TCall_fd0 TCall_bd0
attribute [local go_sem] TCall_size TCall_one TCall_piece TCall_c0 TCall_c1 TCall_c2 TCall_c3 TCall_c4 TCall_c5 TCall_c6 TCall_c7 TCall_c8 TCall_c9 TCall_c10 TCall_c11 TCall_c12 TCall_c13 TCall_p_deed TCall_put_deed TCall_p_deps TCall_put_deps TCall_set_seq TCall_ld TCall_st TCall_f_deed TCall_f_deps TCall_f_seq TCall_bd TCall_fl TCall_fl_deed TCall_fl_deps TCall_fl_seq
attribute [local go_sem high] TCall_eql TCall_neq
attribute [local go_sem ↓] TItem_ld0 TItem_st0 TItem_fd0 TItem_bd0
attribute [local go_sem] TItem_size TItem_one TItem_piece TItem_c0 TItem_c1 TItem_set_rep TItem_set_num TItem_ld TItem_st TItem_f_rep TItem_f_num TItem_bd TItem_fl TItem_fl_rep TItem_fl_num
attribute [local go_sem high] TItem_eql TItem_neq
section
variable {w W : World} {F : Nat → Prop} {R : List Res} {g c : Nat} {CM : CmpK} {d : Array Item}
/-- The contract, at so long a part. -/
def PdqAtC (n K : Nat) : Prop := ∀ (w W : World) (F : Nat → Prop) (R : List Res) (g c : Nat) (CM : CmpK) (d : Array Item) (a z lim : Nat), d.size = n → a ≤ z → z ≤ n → z - a ≤ K → lim ≤ 1000 → CM.Ok → Sts w F W (itR g c d :: (CM.L ++ R)) →
  Calls Try.prog 68 #[.slice (some ⟨g, 0, none⟩) n c, .int .i64 a, .int .i64 z, .int .i64 lim, CM.cv] W fun e W' => e = .returned (.tuple #[]) ∧ Sts w F W' (itR g c (pdq CM.lt d a z lim true true) :: (CM.L ++ R))
set_option maxHeartbeats 32000000 in
theorem pdqStepC {n K : Nat} (hn : n < 512) (ih : PdqAtC n K) : PdqAtC n (K + 1) := by
  intro w W F R g c CM d a z lim hd haz hz hK hlim hm T
  have HT := Lib.hid T; clear T
  have HES := Lib.hid hd; clear hd
  have HIH := Lib.hid ih; clear ih
  go_enter Try.func68, Try.ntmps68
  go_wp2_with fail
  go_loopw [1, 2, 3, 10, 11] (fun u1 u2 u3 u10 u11 wx => ∃ (a1 z1 l1 : Nat) (wb wp : Bool) (e : Array Item), u1 = .int .i64 a1 ∧ u2 = .int .i64 z1 ∧ u3 = .int .i64 l1 ∧ u10 = .bool wb ∧ u11 = .bool wp ∧ a1 ≤ z1 ∧ z1 ≤ n ∧ z1 - a1 ≤ K + 1 ∧ l1 ≤ 1000 ∧ e.size = n ∧ pdq CM.lt e a1 z1 l1 wb wp = pdq CM.lt d a z lim true true ∧ Sts w F wx (itR g c e :: (CM.L ++ R))) (fun u1 u2 _ _ _ _ => (intOf u2 - intOf u1).toNat)
  case atStart => exact ⟨a, z, lim, true, true, d, rfl, rfl, rfl, rfl, rfl, haz, hz, hK, hlim, HES.out, rfl, HT.out⟩
  case round =>
    clear HT HES
    obtain ⟨a1, z1, l1, wb, wp, e, hrel⟩ := hrel
    obtain ⟨rfl, rfl, rfl, rfl, rfl, hrel⟩ := hrel
    obtain ⟨haz1, hz1, hK1, hl1, hes, hE, T⟩ := hrel
    have HT := Lib.hid T; have HES := Lib.hid hes; have HE := Lib.hid hE; clear T hes hE
    obtain ⟨L, hL⟩ : ∃ k, k = z1 - a1 := ⟨_, rfl⟩
    have e1 : (z1 : Int) - (a1 : Int) = (L : Int) := by omega
    have v1 := wrapNC L (by omega)
    by_cases h12 : L ≤ 12
    · have g1 : (L : Int) ≤ 12 := by omega
      have HI := Lib.hid (insSortTC (g := g) (c := c) (CM := CM) (d := e) a1 z1 haz1 (by rw [HES.out]; exact hz1) (by rw [HES.out]; omega) hm HT.out)
      rw [HES.out] at HI
      have hE2 := HE.out
      rw [pdq, if_pos (by omega)] at hE2
      have HE2 := Lib.hid hE2; clear hE2 hL HE
      go_wp2_with fail
      refine HI.out.mono ?_
      clear HI
      rintro e5 w5 ⟨rfl, T⟩
      have HT2 := Lib.hid T; clear T
      go_wp2
      try simp only [Exit.inBlock, Exit.then]
      refine bodyPost_ret (results_none rfl _ _ _) rfl ?_
      refine ⟨rfl, ?_⟩
      rw [← HE2.out]
      exact HT2.out
    · have g1 : ¬ (L : Int) ≤ 12 := by omega
      by_cases hl0 : l1 = 0
      · subst hl0
        have HI := Lib.hid (heapSortTC HES.out a1 z1 (by omega) hz1 (by omega) hm HT.out)
        have hE2 := HE.out
        rw [pdq, if_neg (by omega), if_pos rfl] at hE2
        have HE2 := Lib.hid hE2; clear hE2 hL HE
        go_wp2_with fail
        refine HI.out.mono ?_
        clear HI
        rintro e5 w5 ⟨rfl, T⟩
        have HT2 := Lib.hid T; clear T
        go_wp2
        try simp only [Exit.inBlock, Exit.then]
        refine bodyPost_ret (results_none rfl _ _ _) rfl ?_
        refine ⟨rfl, ?_⟩
        rw [← HE2.out]
        exact HT2.out
      · have g2 : ¬ (l1 : Int) = 0 := by omega
        have g3 : ((l1 : Int) == 0) = false := by rw [beq_eq_false_iff_ne]; omega
        have v2 := wrapNC l1 (by omega)
        have e2 : (l1 : Int) - 1 = ((l1 - 1 : Nat) : Int) := by omega
        have HE2 := Lib.hid e2; clear e2
        have HBP := Lib.hid (breakPatternsTC (CM := CM) HES.out a1 z1 (by omega) hz1 hn HT.out)
        obtain ⟨dd1, hdd1⟩ : ∃ x, x = (if (!wb) = true then breakPatterns e a1 z1 else e) := ⟨_, rfl⟩
        obtain ⟨ll1, hll1⟩ : ∃ x, x = (if (!wb) = true then l1 - 1 else l1) := ⟨_, rfl⟩
        have hs1 : dd1.size = n := by rw [hdd1]; split <;> simp [breakPatterns_sizeC, HES.out]
        have hll2 : ll1 ≤ 1000 := by rw [hll1]; split <;> omega
        have HD1 := Lib.hid hdd1; have HL1 := Lib.hid hll1; have HS1 := Lib.hid hs1; have HLL := Lib.hid hL
        clear hdd1 hll1 hs1 hL
        go_upto_region 5 with fail
        iterate 15 go_step
        go_cut [3] from 38 to 46 (fun u3 wx => Sts w F wx [] ∧ u3 = .int .i64 ll1 ∧ Sts w F wx (itR g c dd1 :: (CM.L ++ R)))
        case first =>
          cases wb
          case true =>
            have hd1 := HD1.out; have hl1' := HL1.out
            simp only [Bool.not_true, Bool.false_eq_true, if_false] at hd1 hl1'
            subst hd1 hl1'
            clear HBP
            go_wp2
            go_meet
            case rel => exact ⟨HT.out.nil, rfl, HT.out⟩
          case false =>
            have hd1 := HD1.out; have hl1' := HL1.out
            simp only [Bool.not_false, if_true] at hd1 hl1'
            subst hd1
            have HL2 := Lib.hid hl1'; clear hl1'
            go_wp2_with fail
            refine HBP.out.mono ?_
            clear HBP
            rintro e5 w5 ⟨rfl, T⟩
            have HT2 := Lib.hid T; clear T
            go_wp2
            go_meet
            case rel => exact ⟨HT2.out.nil, by first | (rw [HL2.out]; rw [← HE2.out]) | (rw [HL2.out]; rfl) | (rw [HL2.out, HE2.out]), HT2.out⟩
        case rest =>
          obtain ⟨-, rfl, T⟩ := hcut
          clear HT HBP HE2
          have HT := Lib.hid T; clear T
          have HCP := Lib.hid (choosePivotTC HS1.out a1 z1 (by omega) hz1 (by omega) hm HT.out)
          obtain ⟨cp, hcp⟩ : ∃ x, x = choosePivot CM.lt dd1 a1 z1 := ⟨_, rfl⟩
          rw [← hcp] at HCP
          have HCPE := Lib.hid hcp; clear hcp
          go_wp2_with fail
          refine HCP.out.mono ?_
          clear HCP
          rintro e5 w5 ⟨rfl, T⟩
          have HT2 := Lib.hid T; clear T HT
          have HT := HT2; clear HT2
          dsimp only
          iterate 20 go_step
          have hrg := Go.Sort.choosePivot_holds CM.lt dd1 a1 z1 (by omega)
          rw [← HCPE.out] at hrg
          obtain ⟨hrg1, hrg2⟩ := hrg
          obtain ⟨dd2, hdd2⟩ : ∃ x, x = (if cp.2 = .decreasing then reverseRange dd1 a1 z1 else dd1) := ⟨_, rfl⟩
          obtain ⟨pv, hpv⟩ : ∃ x, x = (if cp.2 = .decreasing then (z1 - 1) - (cp.1 - a1) else cp.1) := ⟨_, rfl⟩
          obtain ⟨hint, hhint⟩ : ∃ x, x = (if cp.2 = .decreasing then Hint.increasing else cp.2) := ⟨_, rfl⟩
          have hs2 : dd2.size = n := by rw [hdd2]; split <;> simp [rev_sizeC, HS1.out]
          have hpr : a1 ≤ pv ∧ pv < z1 := by rw [hpv]; split <;> omega
          obtain ⟨hpr1, hpr2⟩ := hpr
          have HD2 := Lib.hid hdd2; have HPV := Lib.hid hpv; have HHI := Lib.hid hhint; have HS2 := Lib.hid hs2
          clear hdd2 hpv hhint hs2
          go_cut [13, 14] from 55 to 67 (fun u13 u14 wx => Sts w F wx [] ∧ u13 = .int .i64 pv ∧ u14 = .int .i64 (hintNC hint) ∧ Sts w F wx (itR g c dd2 :: (CM.L ++ R)))
          case first =>
            cases hdec : decide (cp.2 = .decreasing)
            case false =>
              have hne := of_decide_eq_false hdec
              have h2 := HD2.out; have hp := HPV.out; have hh := HHI.out
              rw [if_neg hne] at h2 hp hh
              subst h2 hp hh
              have hk : (hintNC cp.2 == 2) = false := by
                cases h : cp.2 <;> first | rfl | exact absurd h hne
              clear hdec
              have HNE := Lib.hid hne; clear hne
              go_wp2
              go_meet
              case rel => exact ⟨HT.out.nil, rfl, rfl, HT.out⟩
            case true =>
              have hne := of_decide_eq_true hdec
              have h2 := HD2.out; have hp := HPV.out; have hh := HHI.out
              rw [if_pos hne] at h2 hp hh
              have hk : (hintNC cp.2 == 2) = true := by rw [hne]; rfl
              have HRV := Lib.hid (reverseRangeTC (CM := CM) HS1.out a1 z1 (by omega) hz1 (by omega) HT.out)
              rw [← h2] at HRV
              obtain ⟨zz, hzz⟩ : ∃ k, k = z1 - 1 := ⟨_, rfl⟩
              obtain ⟨pp, hpp⟩ : ∃ k, k = cp.1 - a1 := ⟨_, rfl⟩
              have f1 : (z1 : Int) - 1 = (zz : Int) := by omega
              have f2 : (cp.1 : Int) - (a1 : Int) = (pp : Int) := by omega
              have f3 : (zz : Int) - (pp : Int) = (pv : Int) := by omega
              have w1 := wrapNC zz (by omega)
              have w2 := wrapNC pp (by omega)
              have w3 := wrapNC pv (by omega)
              have HH := Lib.hid hh
              clear hdec hne h2 hp hh hzz hpp
              go_wp2_with fail
              refine HRV.out.mono ?_
              clear HRV
              rintro e6 w6 ⟨rfl, T⟩
              have HT2 := Lib.hid T; clear T
              go_wp2
              go_meet
              case rel => exact ⟨HT2.out.nil, rfl, by rw [HH.out]; rfl, HT2.out⟩
          case rest =>
            obtain ⟨-, rfl, rfl, T⟩ := hcut
            clear HT
            have HT := Lib.hid T; clear T
            iterate 2 go_step
            obtain ⟨dd3, t, ht, hs3⟩ := pi_anyC CM.lt dd2 a1 z1 (wb && wp && decide (hint = .increasing))
            rw [HS2.out] at hs3
            have HS3 := Lib.hid hs3; clear hs3
            have HPT := Lib.hid ht; clear ht
            have hun := pdq_unC CM.lt e a1 z1 l1 wb wp (by have := HLL.out; omega) hl0 (d1 := dd1) (d2 := dd2) (lim1 := ll1) (pv := pv) (hint := hint) (t := t) HD1.out HL1.out (by rw [← HCPE.out]; exact HD2.out) (by rw [← HCPE.out]; exact HPV.out) (by rw [← HCPE.out]; exact HHI.out) HPT.out
            have HUN := Lib.hid hun; clear hun
            go_cut [] from 68 to 80 (fun wx => Sts w F wx [] ∧ t = false ∧ Sts w F wx (itR g c dd3 :: (CM.L ++ R)))
            case first =>
              have HPP := Lib.hid (partialTC (CM := CM) HS2.out a1 z1 (by omega) hz1 (by omega) hm HT.out)
              cases wb
              case false =>
                have ht := HPT.out
                simp only [Bool.false_and, Bool.false_eq_true, if_false, Prod.mk.injEq] at ht
                obtain ⟨rfl, rfl⟩ := ht
                go_wp2
                go_meet
                case rel => exact ⟨HT.out.nil, by first | rfl | trivial, HT.out⟩
              case true =>
                cases wp
                case false =>
                  have ht := HPT.out
                  simp only [Bool.and_false, Bool.false_and, Bool.false_eq_true, if_false, Prod.mk.injEq] at ht
                  obtain ⟨rfl, rfl⟩ := ht
                  go_wp2
                  go_meet
                  case rel => exact ⟨HT.out.nil, by first | rfl | trivial, HT.out⟩
                case true =>
                  cases hinc : decide (hint = .increasing)
                  case false =>
                    have hne := of_decide_eq_false hinc
                    have ht := HPT.out
                    rw [hinc] at ht
                    simp only [Bool.and_false, Bool.false_eq_true, if_false, Prod.mk.injEq] at ht
                    obtain ⟨rfl, rfl⟩ := ht
                    have hk : (hintNC hint == 1) = false := by
                      cases h : hint <;> first | rfl | exact absurd h hne
                    clear hinc hne
                    go_wp2
                    go_meet
                    case rel => exact ⟨HT.out.nil, by first | rfl | trivial, HT.out⟩
                  case true =>
                    have hne := of_decide_eq_true hinc
                    have ht := HPT.out
                    rw [hinc] at ht
                    simp only [Bool.and_true, if_true] at ht
                    rw [ht] at HPP
                    have hk : (hintNC hint == 1) = true := by rw [hne]; rfl
                    clear hinc hne ht
                    go_wp2_with fail
                    refine HPP.out.mono ?_
                    clear HPP
                    rintro e6 w6 ⟨rfl, T⟩
                    have HT2 := Lib.hid T; clear T
                    cases t
                    case false =>
                      go_wp2
                      go_meet
                      case rel => exact ⟨HT2.out.nil, by first | rfl | trivial, HT2.out⟩
                    case true =>
                      have hun := HUN.out
                      rw [if_pos rfl] at hun
                      have HUN2 := Lib.hid hun; clear hun HUN
                      go_wp2
                      try simp only [Exit.inBlock, Exit.then]
                      refine bodyPost_ret (results_none rfl _ _ _) rfl ?_
                      refine ⟨rfl, ?_⟩
                      rw [← HE.out, HUN2.out]
                      exact HT2.out
            case rest =>
              obtain ⟨-, rfl, T⟩ := hcut
              clear HT
              have HT := Lib.hid T; clear T
              have hun := HUN.out
              rw [if_neg Bool.false_ne_true] at hun
              have HUN2 := Lib.hid hun; clear hun HUN
              by_cases ha0 : a1 = 0
              · have g4 : ¬ (0 : Int) < (a1 : Int) := by omega
                have g5 : ¬ 0 < a1 := by omega
                have hun := HUN2.out
                rw [decide_eq_false (show ¬ a1 > 0 by omega), Bool.false_and, if_neg Bool.false_ne_true] at hun
                have HUN3 := Lib.hid hun; clear hun HUN2
                have HA0 := Lib.hid ha0; clear ha0
                go_upto_region 17 with fail
                have HT0 := Lib.hid HT.out.drew; clear HT
                refine wp_region_held_drew (S := fun _ => True) (by kernel_rfl) trivial (fun hHeld => ?_)
                refine tkH 0 rfl ?_
                simp only [Act.put, List.setIfInBounds_toArray, List.set_cons_zero, List.set_cons_succ]
                refine tkH 1 rfl ?_
                go_frame
                refine tkH 2 rfl ?_
                go_frame
                refine skH 3 rfl ?_
                simp only [Act.put, List.setIfInBounds_toArray, List.set_cons_zero, List.set_cons_succ]
                refine skH 4 rfl ?_
                go_frame
                refine skH 5 rfl ?_
                go_frame
                refine skH 6 rfl ?_
                go_frame
                refine skH 7 rfl ?_
                go_frame
                refine skH 8 rfl ?_
                go_frame
                refine skH 9 rfl ?_
                go_frame
                refine skH 10 rfl ?_
                go_frame
                refine skH 11 rfl ?_
                go_frame
                refine skH 12 rfl ?_
                go_frame
                refine skH 13 rfl ?_
                go_frame
                refine skH 14 rfl ?_
                go_frame
                refine skH 15 rfl ?_
                go_frame
                refine tkH 16 rfl ?_
                simp only [Act.put, List.setIfInBounds_toArray, List.set_cons_zero, List.set_cons_succ]
                refine wpAnyH_done (by kernel_rfl) ?_ _
                try simp only [Exit.then]
                have HT := HT0; clear HT0
                have hrg := pt_rangeC CM hm dd3 a1 z1 pv hpr1 hpr2 (by rw [HS3.out]; exact hz1)
                have HPE := Lib.hid (partitionTC HS3.out a1 z1 pv (by have := HLL.out; omega) hz1 (by omega) (by omega) hm HT.out)
                have hs4 : (partition CM.lt dd3 a1 z1 pv).2.2.size = n := by rw [partition_sizeC, HS3.out]
                have hun := HUN3.out
                obtain ⟨pq, hpq⟩ : ∃ x, x = partition CM.lt dd3 a1 z1 pv := ⟨_, rfl⟩
                rw [← hpq] at hun HPE hs4 hrg
                rw [if_pos hrg] at hun
                obtain ⟨hrg1, hrg2⟩ := hrg
                have HS4 := Lib.hid hs4
                clear hpq hs4 HUN3
                obtain ⟨mid, am, e3⟩ := pq
                dsimp only at hun HPE HS4 hrg1 hrg2
                obtain ⟨ll, hll⟩ : ∃ k, k = mid - a1 := ⟨_, rfl⟩
                obtain ⟨rr, hrr⟩ : ∃ k, k = z1 - mid := ⟨_, rfl⟩
                obtain ⟨l8, hl8⟩ : ∃ k, k = L / 8 := ⟨_, rfl⟩
                have hL8 : (z1 - a1) / 8 = l8 := by rw [hl8, HLL.out]
                rw [hL8, ← hll, ← hrr] at hun
                have q1 : (mid : Int) - (a1 : Int) = (ll : Int) := by omega
                have q2 : (z1 : Int) - (mid : Int) = (rr : Int) := by omega
                have q3 : (L : Int) / 8 = (l8 : Int) := by omega
                have x1 := wrapNC ll (by omega)
                have x2 := wrapNC rr (by omega)
                have x3 := wrapNC l8 (by omega)
                obtain ⟨mp, hmp⟩ : ∃ k, k = mid + 1 := ⟨_, rfl⟩
                have q4 : (mid : Int) + 1 = (mp : Int) := by omega
                have x4 := wrapNC mp (by omega)
                rw [← hmp] at hun
                by_cases hlr : ll < rr
                · have g6 : (ll : Int) < (rr : Int) := by omega
                  rw [if_pos hlr] at hun
                  have HUN4 := Lib.hid hun; clear hun
                  have hsz : (pdq CM.lt e3 a1 mid ll1 true true).size = n := pdq_szC CM.lt _ a1 mid (Nat.le_refl _) (by omega) e3 ll1 true true HS4.out
                  have HSZ := Lib.hid hsz; clear hsz
                  have hb1 : mp ≤ z1 ∧ z1 - mp ≤ K + 1 ∧ a1 < mp := by omega
                  have hb2 : mid ≤ n ∧ mid - a1 ≤ K := by have := HLL.out; omega
                  have HB1 := Lib.hid hb1; have HB2 := Lib.hid hb2
                  clear hll hrr hl8 hL8 hmp hb1 hb2
                  go_wp2_with fail
                  refine HPE.out.mono ?_
                  clear HPE
                  rintro e6 w6 ⟨rfl, T⟩
                  have HRC := Lib.hid (HIH.out w w6 F R g c CM e3 a1 mid ll1 HS4.out hrg1 HB2.out.1 HB2.out.2 hll2 hm T)
                  clear T HT
                  go_wp2_with fail
                  refine HRC.out.mono ?_
                  clear HRC
                  rintro e7 w7 ⟨rfl, T⟩
                  have HT2 := Lib.hid T; clear T
                  go_wp2
                  go_roundw
                  case rel => exact ⟨mp, z1, ll1, decide (ll ≥ l8), am, pdq CM.lt e3 a1 mid ll1 true true, rfl, rfl, rfl, by first | rfl | (congr 1; exact decide_eq_decide.2 (by omega)), rfl, HB1.out.1, hz1, HB1.out.2.1, hll2, HSZ.out, by rw [← HUN4.out]; exact HE.out, HT2.out⟩
                  case measure => (have := HB1.out; simp [intOf]; omega)
                · have g6 : ¬ (ll : Int) < (rr : Int) := by omega
                  rw [if_neg hlr] at hun
                  have HUN4 := Lib.hid hun; clear hun
                  have hsz : (pdq CM.lt e3 mp z1 ll1 true true).size = n := pdq_szC CM.lt _ mp z1 (Nat.le_refl _) hz1 e3 ll1 true true HS4.out
                  have HSZ := Lib.hid hsz; clear hsz
                  have hb1 : mid ≤ n ∧ mid - a1 ≤ K + 1 ∧ mid < z1 := by omega
                  have hb2 : mp ≤ z1 ∧ z1 - mp ≤ K := by have := HLL.out; omega
                  have HB1 := Lib.hid hb1; have HB2 := Lib.hid hb2
                  clear hll hrr hl8 hL8 hmp hb1 hb2
                  go_wp2_with fail
                  refine HPE.out.mono ?_
                  clear HPE
                  rintro e6 w6 ⟨rfl, T⟩
                  have HRC := Lib.hid (HIH.out w w6 F R g c CM e3 mp z1 ll1 HS4.out HB2.out.1 hz1 HB2.out.2 hll2 hm T)
                  clear T HT
                  go_wp2_with fail
                  refine HRC.out.mono ?_
                  clear HRC
                  rintro e7 w7 ⟨rfl, T⟩
                  have HT2 := Lib.hid T; clear T
                  go_wp2
                  go_roundw
                  case rel => exact ⟨a1, mid, ll1, decide (rr ≥ l8), am, pdq CM.lt e3 mp z1 ll1 true true, rfl, rfl, rfl, by first | rfl | (congr 1; exact decide_eq_decide.2 (by omega)), rfl, hrg1, HB1.out.1, HB1.out.2.1, hll2, HSZ.out, by rw [← HUN4.out]; exact HE.out, HT2.out⟩
                  case measure => (have := HB1.out; simp [intOf]; omega)
              · have g4 : (0 : Int) < (a1 : Int) := by omega
                have g5 : 0 < a1 := by omega
                obtain ⟨p, hp⟩ : ∃ k, k = a1 - 1 := ⟨_, rfl⟩
                have hun := HUN2.out
                rw [decide_eq_true (show a1 > 0 by omega), Bool.true_and, ← hp] at hun
                have HUN3 := Lib.hid hun; clear hun HUN2
                have f1 : (a1 : Int) - 1 = (p : Int) := by omega
                have w1 := wrapNC p (by omega)
                have k1 : (0 : Int) ≤ (p : Int) := by omega
                have k2 : (0 : Int) ≤ (pv : Int) := by omega
                have k3 : (p : Int) < (n : Int) := by omega
                have k4 : (pv : Int) < (n : Int) := by omega
                have HP := Lib.hid hp
                have HES := HS3
                clear hp
                go_upto_region 17 with fail
                have hes := HES.out
                have FS : ∀ W' R', Sts w F W' (itR g c dd3 :: R') → (loadVal Try.prog 35 2 W' (.pointer (some ⟨g, p * 2, none⟩)) = .ok (.agg (IV dd3[p]!)) W' ∧ loadVal Try.prog 35 2 W' (.pointer (some ⟨g, pv * 2, none⟩)) = .ok (.agg (IV dd3[pv]!)) W') := fun W' R' T => ⟨T.itLoad (by omega), T.itLoad (by omega)⟩
                have HFS := Lib.hid FS
                have HT0 := Lib.hid HT.out.drew
                have S0 := FS _ _ HT0.out
                have HC := Lib.hid (hm.reads dd3[p]! dd3[pv]!)
                have HL7 := Lib.hid (show CM.lt dd3[p]! dd3[pv]! = decide (CM.cmp dd3[p]! dd3[pv]! < 0) from rfl)
                clear FS HT hes
                generalize CM.cmp dd3[p]! dd3[pv]! = cm1 at *
                refine wp_region_held_drew (S := fun W' => (loadVal Try.prog 35 2 W' (.pointer (some ⟨g, p * 2, none⟩)) = .ok (.agg (IV dd3[p]!)) W' ∧ loadVal Try.prog 35 2 W' (.pointer (some ⟨g, pv * 2, none⟩)) = .ok (.agg (IV dd3[pv]!)) W')) (by kernel_rfl) S0 (fun hHeld => ?_)
                clear S0
                refine tkH 0 rfl ?_
                simp only [Act.put, List.setIfInBounds_toArray, List.set_cons_zero, List.set_cons_succ]
                refine tkH 1 rfl ?_
                go_frame
                refine tkH 2 rfl ?_
                go_frame
                refine tkH 3 rfl ?_
                go_frame
                refine tkH 4 rfl ?_
                go_frame
                refine tkH 5 rfl ?_
                go_frame
                refine tkH 6 rfl ?_
                go_frame
                refine tkH 7 rfl ?_
                go_frame
                refine tkH 8 rfl ?_
                go_frame
                refine tkH 9 rfl ?_
                go_frame
                refine tkH 10 rfl ?_
                go_frame
                refine tkH 11 rfl ?_
                go_frame
                refine tkH 12 rfl ?_
                go_frame
                refine wpAnyH_ready (rs := [13]) (by kernel_rfl) (by simp) ?_
                refine AllReadyH.cons (o := _) rfl (fun K hK => ?_) AllReadyH.nil
                go_simp
                rw [hm.enter]
                go_simp
                refine (HC.out.itAtC (e := dd3) (L := [itR g c dd3]) HT0.out).mono ?_
                clear HC
                rintro e5 w5 ⟨rfl, hb⟩
                have T := HT0.out.pure hb
                clear hb HT0
                have HT := Lib.hid T; clear T
                refine hK.out _ _ (HFS.out _ _ HT.out) (fun hHeld => ?_)
                clear hK K HFS
                refine tkH 14 rfl ?_
                simp only [Act.put, List.setIfInBounds_toArray, List.set_cons_zero, List.set_cons_succ]
                refine tkH 15 rfl ?_
                go_frame
                refine tkH 16 rfl ?_
                go_frame
                refine wpAnyH_done (by kernel_rfl) ?_ _
                try simp only [Exit.then]
                cases hlt : decide (cm1 < 0)
                case false =>
                  have hrg := pe_rangeC CM.lt dd3 a1 z1 pv (by have := HLL.out; omega) (by rw [HS3.out]; exact hz1)
                  have hun := HUN3.out
                  rw [HL7.out, hlt, Bool.not_false, if_pos rfl, if_pos hrg] at hun
                  have HUN4 := Lib.hid hun; clear hun HUN3
                  have HPE := Lib.hid (partitionEqualTC HS3.out a1 z1 pv (by have := HLL.out; omega) hz1 (by omega) (by omega) hm HT.out)
                  have hs4 : (partitionEqual CM.lt dd3 a1 z1 pv).2.size = n := by rw [partitionEqual_sizeC, HS3.out]
                  obtain ⟨pq, hpq⟩ : ∃ x, x = partitionEqual CM.lt dd3 a1 z1 pv := ⟨_, rfl⟩
                  rw [← hpq] at HUN4 HPE hs4 hrg
                  have HS4 := Lib.hid hs4
                  obtain ⟨hrg1, hrg2⟩ := hrg
                  clear hpq hs4
                  go_wp2_with fail
                  refine HPE.out.mono ?_
                  clear HPE
                  rintro e6 w6 ⟨rfl, T⟩
                  have HT2 := Lib.hid T; clear T
                  go_wp2
                  go_roundw
                  case rel => exact ⟨pq.1, z1, ll1, wb, wp, pq.2, rfl, rfl, rfl, rfl, rfl, by omega, hz1, by omega, hll2, HS4.out, by rw [← HUN4.out]; exact HE.out, HT2.out⟩
                  case measure => (simp [intOf]; try omega)
                case true =>
                  have hun := HUN3.out
                  rw [HL7.out, hlt, Bool.not_true, if_neg Bool.false_ne_true] at hun
                  clear HUN3
                  have HUN3 := Lib.hid hun; clear hun
                  have hrg := pt_rangeC CM hm dd3 a1 z1 pv hpr1 hpr2 (by rw [HS3.out]; exact hz1)
                  have HPE := Lib.hid (partitionTC HS3.out a1 z1 pv (by have := HLL.out; omega) hz1 (by omega) (by omega) hm HT.out)
                  have hs4 : (partition CM.lt dd3 a1 z1 pv).2.2.size = n := by rw [partition_sizeC, HS3.out]
                  have hun := HUN3.out
                  obtain ⟨pq, hpq⟩ : ∃ x, x = partition CM.lt dd3 a1 z1 pv := ⟨_, rfl⟩
                  rw [← hpq] at hun HPE hs4 hrg
                  rw [if_pos hrg] at hun
                  obtain ⟨hrg1, hrg2⟩ := hrg
                  have HS4 := Lib.hid hs4
                  clear hpq hs4 HUN3
                  obtain ⟨mid, am, e3⟩ := pq
                  dsimp only at hun HPE HS4 hrg1 hrg2
                  obtain ⟨ll, hll⟩ : ∃ k, k = mid - a1 := ⟨_, rfl⟩
                  obtain ⟨rr, hrr⟩ : ∃ k, k = z1 - mid := ⟨_, rfl⟩
                  obtain ⟨l8, hl8⟩ : ∃ k, k = L / 8 := ⟨_, rfl⟩
                  have hL8 : (z1 - a1) / 8 = l8 := by rw [hl8, HLL.out]
                  rw [hL8, ← hll, ← hrr] at hun
                  have q1 : (mid : Int) - (a1 : Int) = (ll : Int) := by omega
                  have q2 : (z1 : Int) - (mid : Int) = (rr : Int) := by omega
                  have q3 : (L : Int) / 8 = (l8 : Int) := by omega
                  have x1 := wrapNC ll (by omega)
                  have x2 := wrapNC rr (by omega)
                  have x3 := wrapNC l8 (by omega)
                  obtain ⟨mp, hmp⟩ : ∃ k, k = mid + 1 := ⟨_, rfl⟩
                  have q4 : (mid : Int) + 1 = (mp : Int) := by omega
                  have x4 := wrapNC mp (by omega)
                  rw [← hmp] at hun
                  by_cases hlr : ll < rr
                  · have g6 : (ll : Int) < (rr : Int) := by omega
                    rw [if_pos hlr] at hun
                    have HUN4 := Lib.hid hun; clear hun
                    have hsz : (pdq CM.lt e3 a1 mid ll1 true true).size = n := pdq_szC CM.lt _ a1 mid (Nat.le_refl _) (by omega) e3 ll1 true true HS4.out
                    have HSZ := Lib.hid hsz; clear hsz
                    have hb1 : mp ≤ z1 ∧ z1 - mp ≤ K + 1 ∧ a1 < mp := by omega
                    have hb2 : mid ≤ n ∧ mid - a1 ≤ K := by have := HLL.out; omega
                    have HB1 := Lib.hid hb1; have HB2 := Lib.hid hb2
                    clear hll hrr hl8 hL8 hmp hb1 hb2
                    go_wp2_with fail
                    refine HPE.out.mono ?_
                    clear HPE
                    rintro e6 w6 ⟨rfl, T⟩
                    have HRC := Lib.hid (HIH.out w w6 F R g c CM e3 a1 mid ll1 HS4.out hrg1 HB2.out.1 HB2.out.2 hll2 hm T)
                    clear T HT
                    go_wp2_with fail
                    refine HRC.out.mono ?_
                    clear HRC
                    rintro e7 w7 ⟨rfl, T⟩
                    have HT2 := Lib.hid T; clear T
                    go_wp2
                    go_roundw
                    case rel => exact ⟨mp, z1, ll1, decide (ll ≥ l8), am, pdq CM.lt e3 a1 mid ll1 true true, rfl, rfl, rfl, by first | rfl | (congr 1; exact decide_eq_decide.2 (by omega)), rfl, HB1.out.1, hz1, HB1.out.2.1, hll2, HSZ.out, by rw [← HUN4.out]; exact HE.out, HT2.out⟩
                    case measure => (have := HB1.out; simp [intOf]; omega)
                  · have g6 : ¬ (ll : Int) < (rr : Int) := by omega
                    rw [if_neg hlr] at hun
                    have HUN4 := Lib.hid hun; clear hun
                    have hsz : (pdq CM.lt e3 mp z1 ll1 true true).size = n := pdq_szC CM.lt _ mp z1 (Nat.le_refl _) hz1 e3 ll1 true true HS4.out
                    have HSZ := Lib.hid hsz; clear hsz
                    have hb1 : mid ≤ n ∧ mid - a1 ≤ K + 1 ∧ mid < z1 := by omega
                    have hb2 : mp ≤ z1 ∧ z1 - mp ≤ K := by have := HLL.out; omega
                    have HB1 := Lib.hid hb1; have HB2 := Lib.hid hb2
                    clear hll hrr hl8 hL8 hmp hb1 hb2
                    go_wp2_with fail
                    refine HPE.out.mono ?_
                    clear HPE
                    rintro e6 w6 ⟨rfl, T⟩
                    have HRC := Lib.hid (HIH.out w w6 F R g c CM e3 mp z1 ll1 HS4.out HB2.out.1 hz1 HB2.out.2 hll2 hm T)
                    clear T HT
                    go_wp2_with fail
                    refine HRC.out.mono ?_
                    clear HRC
                    rintro e7 w7 ⟨rfl, T⟩
                    have HT2 := Lib.hid T; clear T
                    go_wp2
                    go_roundw
                    case rel => exact ⟨a1, mid, ll1, decide (rr ≥ l8), am, pdq CM.lt e3 mp z1 ll1 true true, rfl, rfl, rfl, by first | rfl | (congr 1; exact decide_eq_decide.2 (by omega)), rfl, hrg1, HB1.out.1, HB1.out.2.1, hll2, HSZ.out, by rw [← HUN4.out]; exact HE.out, HT2.out⟩
                    case measure => (have := HB1.out; simp [intOf]; omega)
end
end Go.Proofs.Ytnjgjhjilolanaa
/- Items in a slice of the call's own, sorted in their place by a function: up to 511 of them. -/
namespace Go.Proofs.Ytnjgjhjilolanaa
open Go.RowKit Go.Shelf
open Go.Sort (insertionSort pdq bitsLen)
set_option linter.unusedVariables false
set_option maxRecDepth 20000
attribute [local go_sem] row_alloc row_drew row_drewN row_ext row_setCell row_setRow size_ext setRow_alloc setRow_drew loadOf storeOf piece_lit loadVal_at storeVal_at allOne_lit buildOf buildRes_some
attribute [local go_sem high] cell_alloc frozen_alloc setCell_alloc cell_ext frozen_ext cell_setRow frozen_setRow
attribute [local go_sem ↓] TDeed_ld0 TDeed_st0 TDeed_fd0 TDeed_bd0
attribute [local go_sem] TDeed_size TDeed_one TDeed_piece TDeed_c0 TDeed_c1 TDeed_c2 TDeed_c3 TDeed_c4 TDeed_c5 TDeed_set_kind TDeed_set_key TDeed_set_val TDeed_set_ver TDeed_set_ses TDeed_set_num TDeed_ld TDeed_st TDeed_f_kind TDeed_f_key TDeed_f_val TDeed_f_ver TDeed_f_ses TDeed_f_num TDeed_bd TDeed_fl TDeed_fl_kind TDeed_fl_key TDeed_fl_val TDeed_fl_ver TDeed_fl_ses TDeed_fl_num
attribute [local go_sem high] TDeed_eql TDeed_neq
attribute [local go_sem ↓] index_deps0 load_deps0 store_deps0
attribute [local go_sem] DV_piece DV_size DV_one index_deps load_deps store_deps
attribute [local go_sem high] TDeps_eql TDeps_neq
attribute [local go_sem ↓] TCall_ld0 TCall_st0 TCall_fd0 TCall_bd0
attribute [local go_sem] TCall_size TCall_one TCall_piece TCall_c0 TCall_c1 TCall_c2 TCall_c3 TCall_c4 TCall_c5 TCall_c6 TCall_c7 TCall_c8 TCall_c9 TCall_c10 TCall_c11 TCall_c12 TCall_c13 TCall_p_deed TCall_put_deed TCall_p_deps TCall_put_deps TCall_set_seq TCall_ld TCall_st TCall_f_deed TCall_f_deps TCall_f_seq TCall_bd TCall_fl TCall_fl_deed TCall_fl_deps TCall_fl_seq
attribute [local go_sem high] TCall_eql TCall_neq
attribute [local go_sem ↓] TItem_ld0 TItem_st0 TItem_fd0 TItem_bd0
attribute [local go_sem] TItem_size TItem_one TItem_piece TItem_c0 TItem_c1 TItem_set_rep TItem_set_num TItem_ld TItem_st TItem_f_rep TItem_f_num TItem_bd TItem_fl TItem_fl_rep TItem_fl_num
attribute [local go_sem high] TItem_eql TItem_neq
section
variable {w W : World} {F : Nat → Prop} {R : List Res} {g c : Nat} {CM : CmpK} {d : Array Item}
theorem pdqSmallTC {n : Nat} (hd : d.size = n) (a z lim : Nat) (haz : a ≤ z) (hz : z ≤ n) (h12 : z - a ≤ 12) (hn : n ≤ 1000000) (hm : CM.Ok) (T : Sts w F W (itR g c d :: (CM.L ++ R))) :
    Calls Try.prog 68 #[.slice (some ⟨g, 0, none⟩) n c, .int .i64 a, .int .i64 z, .int .i64 lim, CM.cv] W fun e W' => e = .returned (.tuple #[]) ∧ Sts w F W' (itR g c (insertionSort CM.lt d a z) :: (CM.L ++ R)) := by
  have HT := Lib.hid T; clear T
  have HD := Lib.hid hd; clear hd
  have hl : (z : Int) - (a : Int) ≤ 12 := by omega
  have hw : IntKind.i64.wrap ((z : Int) - (a : Int)) = (z : Int) - (a : Int) := by rw [IntKind.wrap_i64] <;> omega
  go_enter Try.func68, Try.ntmps68
  go_wp2_with fail
  go_loopw [1, 2] (fun u1 u2 wr => u1 = .int .i64 a ∧ u2 = .int .i64 z ∧ Sts w F wr (itR g c d :: (CM.L ++ R))) (fun _ _ _ => 0)
  case atStart => exact ⟨rfl, rfl, HT.out⟩
  case round =>
    obtain ⟨rfl, rfl, hrel⟩ := hrel
    have HT := Lib.hid hrel; clear hrel
    go_wp2_with fail
    have HI := insSortTC (g := g) (c := c) (CM := CM) (d := d) a z haz (by rw [HD.out]; exact hz) (by rw [HD.out]; exact hn) hm HT.out
    rw [HD.out] at HI
    refine HI.mono ?_
    clear HI
    rintro e w5 ⟨rfl, T⟩
    have HT2 := Lib.hid T; clear T
    go_wp2
    try simp only [Exit.inBlock, Exit.then]
    refine bodyPost_ret (results_none rfl _ _ _) rfl ?_
    exact ⟨rfl, HT2.out⟩
/-- Such a function sorts so many items. -/
def SortsToC (K : Nat) : Prop := ∀ (w W : World) (F : Nat → Prop) (R : List Res) (g c : Nat) (CM : CmpK) (d : Array Item) (n : Nat), d.size = n → n ≤ K → CM.Ok → Sts w F W (itR g c d :: (CM.L ++ R)) →
  Calls Try.prog 53 #[.slice (some ⟨g, 0, none⟩) n c, CM.cv] W fun e W' => e = .returned (.tuple #[]) ∧ Sts w F W' (itR g c (pdq CM.lt d 0 n (bitsLen n) true true) :: (CM.L ++ R))
end
theorem pdqAllC {n : Nat} (hn : n < 512) : ∀ K, PdqAtC n K
  | 0 => by
    intro w W F R g c CM d a z lim hd haz hz hK hlim hm T
    have h := pdqSmallTC hd a z lim haz hz (by omega) (by omega) hm T
    rw [pdq, if_pos (by omega)]
    exact h
  | K + 1 => pdqStepC hn (pdqAllC hn K)
theorem sorts511C : SortsToC 511 := by
  intro w W F R g c CM d n hd h49 hm T
  have HT := Lib.hid T; clear T
  have HD := Lib.hid hd; clear hd
  have hk : n < 512 := by omega
  have hbl := bitsLen_le ⟨n, hk⟩
  dsimp only at hbl
  have HPQ := Lib.hid (pdqAllC (n := n) (by omega) n w W F R g c CM d 0 n (bitsLen n) HD.out (Nat.zero_le _) (Nat.le_refl _) (by omega) (by omega) hm HT.out)
  have HBL := Lib.hid hbl; clear hbl
  go_enter Try.func53, Try.ntmps53
  go_wp2_with fail
  refine (bitsLenT n hk _).mono ?_
  rintro e w5 ⟨rfl, rfl⟩
  go_wp2_with fail
  refine HPQ.out.mono ?_
  rintro e w5 ⟨rfl, T⟩
  have HT2 := Lib.hid T; clear T HT HPQ
  go_wp2
  go_end0
  exact ⟨rfl, HT2.out⟩
end Go.Proofs.Ytnjgjhjilolanaa
