/- Several texts in one. -/
import Derived.Test.YtnjgjhjilolanaaH19
/- Items in a slice of the call's own, sorted in their place by a function: the insertion sort, walked. -/
namespace Go.Proofs.Ytnjgjhjilolanaa
open Go.RowKit Go.Shelf
open Go.Sort (swp insInner insOuter insertionSort)
set_option linter.unusedVariables false
set_option maxRecDepth 20000
attribute [local go_sem] row_alloc row_drew row_drewN row_ext row_setCell row_setRow size_ext setRow_alloc setRow_drew loadOf storeOf piece_lit loadVal_at storeVal_at allOne_lit buildOf buildRes_some
attribute [local go_sem high] cell_alloc frozen_alloc setCell_alloc cell_ext frozen_ext cell_setRow frozen_setRow
attribute [local go_sem ↓] TDeed_ld0 TDeed_st0 TDeed_fd0 TDeed_bd0
attribute [local go_sem] TDeed_size TDeed_one TDeed_piece TDeed_c0 TDeed_c1 TDeed_c2 TDeed_c3 TDeed_c4 TDeed_c5 TDeed_set_kind TDeed_set_key TDeed_set_val TDeed_set_ver TDeed_set_ses TDeed_set_num TDeed_ld TDeed_st TDeed_f_kind TDeed_f_key TDeed_f_val TDeed_f_ver TDeed_f_ses TDeed_f_num TDeed_bd TDeed_fl TDeed_fl_kind TDeed_fl_key TDeed_fl_val TDeed_fl_ver TDeed_fl_ses TDeed_fl_num
attribute [local go_sem high] TDeed_eql TDeed_neq
attribute [local go_sem ↓] index_deps0 load_deps0 store_deps0
attribute [local go_sem] DV_piece DV_size DV_one index_deps load_deps store_deps
attribute [local go_sem high] TDeps_eql TDeps_neq
attribute [local go_sem ↓] TCall_ld0 TCall_st0 TCall_fd0 TCall_bd0
attribute [local go_sem] TCall_size TCall_one TCall_piece TCall_c0 TCall_c1 TCall_c2 TCall_c3 TCall_c4 TCall_c5 TCall_c6 TCall_c7 TCall_c8 TCall_c9 TCall_c10 TCall_c11 TCall_c12 TCall_c13 TCall_p_deed TCall_put_deed TCall_p_deps TCall_put_deps TCall_set_seq TCall_ld TCall_st TCall_f_deed TCall_f_deps TCall_f_seq TCall_bd TCall_fl TCall_fl_deed TCall_fl_deps TCall_fl_seq
attribute [local go_sem high] TCall_eql TCall_neq
attribute [local go_sem ↓] TItem_ld0 TItem_st0 TItem_fd0 TItem_bd0
attribute [local go_sem] TItem_size TItem_one TItem_piece TItem_c0 TItem_c1 TItem_set_rep TItem_set_num TItem_ld TItem_st TItem_f_rep TItem_f_num TItem_bd TItem_fl TItem_fl_rep TItem_fl_num
attribute [local go_sem high] TItem_eql TItem_neq
section
variable {w W : World} {F : Nat → Prop} {R : List Res} {g c : Nat} {CM : CmpK} {d : Array Item}
theorem insInner_sizeC {lt : Item → Item → Bool} (a : Nat) : ∀ (j : Nat) (d : Array Item), (insInner lt a j d).size = d.size
  | 0, d => rfl
  | j + 1, d => by
    rw [insInner]
    split
    · rw [insInner_sizeC a j, swp_sz]
    · rfl
theorem insOuter_sizeC {lt : Item → Item → Bool} (a b : Nat) : ∀ (n i : Nat) (d : Array Item), b - i ≤ n → (insOuter lt a b i d).size = d.size
  | 0, i, d, h => by rw [insOuter, if_neg (by omega)]
  | n + 1, i, d, h => by
    rw [insOuter]
    split
    · rw [insOuter_sizeC a b n _ _ (by omega), insInner_sizeC]
    · rfl
theorem insertionSort_szC {lt : Item → Item → Bool} (d : Array Item) (a b : Nat) : (insertionSort lt d a b).size = d.size := insOuter_sizeC a b _ _ d (Nat.le_refl _)
set_option maxHeartbeats 16000000 in
theorem insSortTC (a z : Nat) (haz : a ≤ z) (hz : z ≤ d.size) (hsz : d.size ≤ 1000000) (hm : CM.Ok) (T : Sts w F W (itR g c d :: (CM.L ++ R))) :
    Calls Try.prog 74 #[.slice (some ⟨g, 0, none⟩) d.size c, .int .i64 a, .int .i64 z, CM.cv] W fun e W' => e = .returned (.tuple #[]) ∧ Sts w F W' (itR g c (insertionSort CM.lt d a z) :: (CM.L ++ R)) := by
  obtain ⟨n, hn⟩ : ∃ n, n = d.size := ⟨_, rfl⟩
  have HN := Lib.hid hn
  have HT := Lib.hid T; clear T
  rw [← hn] at hz hsz
  have HB := Lib.hid (show insertionSort CM.lt d a z = insOuter CM.lt a z (a + 1) d from rfl)
  have hsl : (Value.slice (some ⟨g, 0, none⟩) d.size c) = .slice (some ⟨g, 0, none⟩) n c := by rw [hn]
  rw [hsl]
  clear hsl hn
  go_enter Try.func74, Try.ntmps74
  have hw1 : IntKind.i64.wrap ((a : Int) + 1) = ((a + 1 : Nat) : Int) := by rw [IntKind.wrap_i64] <;> omega
  go_wp2_with fail
  go_loopw [8] (fun i wr => ∃ (k : Nat) (e : Array Item), a + 1 ≤ k ∧ k ≤ z + 1 ∧ i = .int .i64 k ∧ e.size = n ∧ insOuter CM.lt a z k e = insOuter CM.lt a z (a + 1) d ∧ Sts w F wr (itR g c e :: (CM.L ++ R))) (fun i _ => z + 1 - (intOf i).toNat)
  case atStart => exact ⟨a + 1, d, Nat.le_refl _, by omega, by first | rfl | go_num, HN.out.symm, rfl, HT.out⟩
  case round =>
    clear HT
    obtain ⟨k, e, hk1, hk2, rfl, hen, hE, T⟩ := hrel
    by_cases hkz : k < z
    · have hkz' : (k : Int) < (z : Int) := by omega
      rw [insOuter, if_pos hkz] at hE
      have HE := Lib.hid hE; have HT := Lib.hid T; have HEN := Lib.hid hen; clear T hE hen
      go_wp2_with fail
      go_loopw [9] (fun j wi => ∃ (l : Nat) (e1 : Array Item), l ≤ k ∧ j = .int .i64 l ∧ e1.size = n ∧ insInner CM.lt a l e1 = insInner CM.lt a k e ∧ Sts w F wi (itR g c e1 :: (CM.L ++ R))) (fun j _ => (intOf j).toNat)
      case atStart => exact ⟨k, e, Nat.le_refl _, rfl, HEN.out, rfl, HT.out⟩
      case round =>
        obtain ⟨l, e1, hl, rfl, he1, hI, T⟩ := hrel
        clear HT HEN
        by_cases hla : a < l
        · obtain ⟨p, hp⟩ : ∃ p, l = p + 1 := ⟨l - 1, by omega⟩
          have hla' : (a : Int) < (l : Int) := by omega
          have hw : IntKind.i64.wrap ((l : Int) - 1) = (p : Int) := by rw [IntKind.wrap_i64] <;> omega
          have hl0 : (0 : Int) ≤ (l : Int) := by omega
          have hp0 : (0 : Int) ≤ (p : Int) := by omega
          have hln : (l : Int) < (n : Int) := by omega
          have hpn : (p : Int) < (n : Int) := by omega
          have hI2 : insInner CM.lt a l e1 = if CM.lt e1[l]! e1[p]! then insInner CM.lt a p (swp e1 l p) else e1 := by
            subst hp
            rw [insInner]
            have : (decide (p + 1 > a)) = true := by simp; omega
            rw [this, Bool.true_and]
          have HI := Lib.hid (hI2.symm.trans hI)
          have HP := Lib.hid hp
          have HE1 := Lib.hid he1
          have FS : ∀ W' R', Sts w F W' (itR g c e1 :: R') → (loadVal Try.prog 35 2 W' (.pointer (some ⟨g, l * 2, none⟩)) = .ok (.agg (IV e1[l]!)) W' ∧ loadVal Try.prog 35 2 W' (.pointer (some ⟨g, p * 2, none⟩)) = .ok (.agg (IV e1[p]!)) W') := fun W' R' T => ⟨T.itLoad (by omega), T.itLoad (by omega)⟩
          have HFS := Lib.hid FS
          have HT := Lib.hid T.drew
          have S0 := FS _ _ HT.out
          have HC := Lib.hid (hm.reads e1[l]! e1[p]!)
          have HL := Lib.hid (show CM.lt e1[l]! e1[p]! = decide (CM.cmp e1[l]! e1[p]! < 0) from rfl)
          clear FS T hI hI2 hp he1 hla
          generalize CM.cmp e1[l]! e1[p]! = cm at *
          go_upto_region 4 with fail
          refine wp_region_held_drew (S := fun W' => (loadVal Try.prog 35 2 W' (.pointer (some ⟨g, l * 2, none⟩)) = .ok (.agg (IV e1[l]!)) W' ∧ loadVal Try.prog 35 2 W' (.pointer (some ⟨g, p * 2, none⟩)) = .ok (.agg (IV e1[p]!)) W')) (by kernel_rfl) S0 (fun hHeld => ?_)
          clear S0
          refine tkH 0 rfl ?_
          simp only [Act.put, List.setIfInBounds_toArray, List.set_cons_zero, List.set_cons_succ]
          refine tkH 1 rfl ?_
          go_frame
          refine tkH 2 rfl ?_
          go_frame
          refine tkH 3 rfl ?_
          go_frame
          refine tkH 4 rfl ?_
          go_frame
          refine tkH 5 rfl ?_
          go_frame
          refine tkH 6 rfl ?_
          go_frame
          refine tkH 7 rfl ?_
          go_frame
          refine tkH 8 rfl ?_
          go_frame
          refine tkH 9 rfl ?_
          go_frame
          refine tkH 10 rfl ?_
          go_frame
          refine tkH 11 rfl ?_
          go_frame
          refine tkH 12 rfl ?_
          go_frame
          refine tkH 13 rfl ?_
          go_frame
          refine wpAnyH_ready (rs := [14]) (by kernel_rfl) (by simp) ?_
          refine AllReadyH.cons (o := _) rfl (fun K hK => ?_) AllReadyH.nil
          go_simp
          rw [hm.enter]
          go_simp
          refine (HC.out.itAtC (e := e1) (L := [itR g c e1]) HT.out).mono ?_
          clear HC
          rintro e5 w5 ⟨rfl, hb⟩
          have T := HT.out.pure hb
          clear hb HT
          have HT := Lib.hid T; clear T
          refine hK.out _ _ (HFS.out _ _ HT.out) (fun hHeld => ?_)
          clear hK K
          refine tkH 15 rfl ?_
          simp only [Act.put, List.setIfInBounds_toArray, List.set_cons_zero, List.set_cons_succ]
          refine tkH 16 rfl ?_
          go_frame
          refine wpAnyH_done (by kernel_rfl) ?_ _
          try simp only [Exit.then]
          cases hlt : decide (cm < 0)
          case false =>
            have hi := HI.out
            rw [HL.out, hlt, if_neg (by simp)] at hi
            have HI2 := Lib.hid hi; clear hi HI HL HFS HP
            go_wp2
            go_roundw
            case rel => exact ⟨k + 1, e1, by omega, by omega, by go_num, HE1.out, by rw [HI2.out]; exact HE.out, HT.out⟩
            case measure => simp [intOf]; omega
          case true =>
            have hi := HI.out
            rw [HL.out, hlt, if_pos rfl] at hi
            have HI2 := Lib.hid hi; clear hi HI HL
            go_upto_region 6 with fail
            have T := HT.out.drew
            have S0 := HFS.out _ _ T
            have hes : e1.size = n := HE1.out
            obtain ⟨w6, h6, T6⟩ := T.itSet (i := l) (by omega) e1[p]!
            obtain ⟨w7, h7, T7⟩ := T6.itSet (i := p) (by simp; omega) e1[l]!
            have HT7 := Lib.hid T7
            have HM := Lib.hid (show ∀ W' : World, (loadVal Try.prog 35 2 W' (.pointer (some ⟨g, l * 2, none⟩)) = .ok (.agg (IV e1[l]!)) W' ∧ loadVal Try.prog 35 2 W' (.pointer (some ⟨g, p * 2, none⟩)) = .ok (.agg (IV e1[p]!)) W') → True from fun _ _ => trivial)
            clear T T6 T7 HFS HT hes
            refine wp_region_stage (fun W' => (loadVal Try.prog 35 2 W' (.pointer (some ⟨g, l * 2, none⟩)) = .ok (.agg (IV e1[l]!)) W' ∧ loadVal Try.prog 35 2 W' (.pointer (some ⟨g, p * 2, none⟩)) = .ok (.agg (IV e1[p]!)) W')) (fun _ => True) 15 (by kernel_rfl) S0 (fun hHeld => ?_)
            clear S0
            refine tk0 0 rfl ?_
            simp only [Act.put, List.setIfInBounds_toArray, List.set_cons_zero, List.set_cons_succ]
            refine tk0 1 rfl ?_
            go_frame
            refine tk1 2 HM.out rfl ?_
            simp only [Act.put, List.setIfInBounds_toArray, List.set_cons_zero, List.set_cons_succ]
            refine tk1 3 HM.out rfl ?_
            go_frame
            refine tk1 4 HM.out rfl ?_
            go_frame
            refine tk0 5 rfl ?_
            simp only [Act.put, List.setIfInBounds_toArray, List.set_cons_zero, List.set_cons_succ]
            refine tk0 6 rfl ?_
            go_frame
            refine tk0 7 rfl ?_
            go_frame
            refine tk0 8 rfl ?_
            go_frame
            refine tk0 9 rfl ?_
            go_frame
            refine tk1 10 HM.out rfl ?_
            simp only [Act.put, List.setIfInBounds_toArray, List.set_cons_zero, List.set_cons_succ]
            refine tk1 11 HM.out rfl ?_
            go_frame
            refine tk1 12 HM.out rfl ?_
            go_frame
            refine tk0 13 rfl ?_
            simp only [Act.put, List.setIfInBounds_toArray, List.set_cons_zero, List.set_cons_succ]
            refine tk0 14 rfl ?_
            go_frame
            refine wpAnyL_ready (rs := [15]) (by kernel_rfl) (by simp) ?_
            refine AllReadyL.cons1 (o := _) rfl (by kernel_rfl) (fun K hK => ?_) AllReadyL.nil
            go_simp
            refine hK.out _ _ trivial (fun hHeld => ?_)
            clear hK K h6
            refine tk2 16 HM.out rfl ?_
            simp only [Act.put, List.setIfInBounds_toArray, List.set_cons_zero, List.set_cons_succ]
            refine wpAnyL_ready (rs := [17]) (by kernel_rfl) (by simp) ?_
            refine AllReadyL.cons1 (o := _) rfl (by kernel_rfl) (fun K hK => ?_) AllReadyL.nil
            go_simp
            refine hK.out _ _ trivial (fun hHeld => ?_)
            clear hK K h7
            refine wpAnyL_done (by kernel_rfl) ?_ _
            try simp only [Exit.then]
            go_wp2
            go_roundw
            case rel => exact ⟨p, swp e1 l p, by have := HP.out; omega, rfl, by rw [swp_sz]; exact HE1.out, HI2.out, HT7.out⟩
            case measure => have := HP.out; simp [intOf]; omega
        · have hla' : ¬ (a : Int) < (l : Int) := by omega
          have hI2 : insInner CM.lt a l e1 = e1 := by
            cases l with
            | zero => rfl
            | succ l => rw [insInner, if_neg]; simp; omega
          rw [hI2] at hI
          have HI2 := Lib.hid hI; have HE1 := Lib.hid he1; have HT := Lib.hid T.drew; clear hI hI2 he1 T
          go_upto_region 4 with fail
          refine wp_region_held_drew (S := fun _ => True) (by kernel_rfl) trivial (fun hHeld => ?_)
          refine tkH 0 rfl ?_
          simp only [Act.put, List.setIfInBounds_toArray, List.set_cons_zero, List.set_cons_succ]
          refine tkH 1 rfl ?_
          go_frame
          refine tkH 2 rfl ?_
          go_frame
          refine tkH 3 rfl ?_
          go_frame
          refine skH 4 rfl ?_
          simp only [Act.put, List.setIfInBounds_toArray, List.set_cons_zero, List.set_cons_succ]
          refine skH 5 rfl ?_
          go_frame
          refine skH 6 rfl ?_
          go_frame
          refine skH 7 rfl ?_
          go_frame
          refine skH 8 rfl ?_
          go_frame
          refine skH 9 rfl ?_
          go_frame
          refine skH 10 rfl ?_
          go_frame
          refine skH 11 rfl ?_
          go_frame
          refine skH 12 rfl ?_
          go_frame
          refine skH 13 rfl ?_
          go_frame
          refine skH 14 rfl ?_
          go_frame
          refine skH 15 rfl ?_
          go_frame
          refine tkH 16 rfl ?_
          simp only [Act.put, List.setIfInBounds_toArray, List.set_cons_zero, List.set_cons_succ]
          refine wpAnyH_done (by kernel_rfl) ?_ _
          try simp only [Exit.then]
          go_wp2
          go_roundw
          case rel => exact ⟨k + 1, e1, by omega, by omega, by go_num, HE1.out, by rw [HI2.out]; exact HE.out, HT.out⟩
          case measure => simp [intOf]; omega
    · have hkz' : ¬ (k : Int) < (z : Int) := by omega
      rw [insOuter, if_neg hkz] at hE
      have HE := Lib.hid hE; have HT := Lib.hid T; have HEN := Lib.hid hen; clear T hE hen
      go_wp2
      go_end0
      refine ⟨rfl, ?_⟩
      rw [HB.out, ← HE.out]
      exact HT.out
end
end Go.Proofs.Ytnjgjhjilolanaa
/- Items in a slice of the call's own, sorted in their place by a function: the pivot. -/
namespace Go.Proofs.Ytnjgjhjilolanaa
open Go.RowKit Go.Shelf
open Go.Sort (swp order2 median medianAdjacent choosePivot)
set_option linter.unusedVariables false
set_option maxRecDepth 20000
attribute [local go_sem] row_alloc row_drew row_drewN row_ext row_setCell row_setRow size_ext setRow_alloc setRow_drew loadOf storeOf piece_lit loadVal_at storeVal_at allOne_lit buildOf buildRes_some
attribute [local go_sem high] cell_alloc frozen_alloc setCell_alloc cell_ext frozen_ext cell_setRow frozen_setRow
attribute [local go_sem ↓] TDeed_ld0 TDeed_st0 TDeed_fd0 TDeed_bd0
attribute [local go_sem] TDeed_size TDeed_one TDeed_piece TDeed_c0 TDeed_c1 TDeed_c2 TDeed_c3 TDeed_c4 TDeed_c5 TDeed_set_kind TDeed_set_key TDeed_set_val TDeed_set_ver TDeed_set_ses TDeed_set_num TDeed_ld TDeed_st TDeed_f_kind TDeed_f_key TDeed_f_val TDeed_f_ver TDeed_f_ses TDeed_f_num TDeed_bd TDeed_fl TDeed_fl_kind TDeed_fl_key TDeed_fl_val TDeed_fl_ver TDeed_fl_ses TDeed_fl_num
attribute [local go_sem high] TDeed_eql TDeed_neq
attribute [local go_sem ↓] index_deps0 load_deps0 store_deps0
attribute [local go_sem] DV_piece DV_size DV_one index_deps load_deps store_deps
attribute [local go_sem high] TDeps_eql TDeps_neq
attribute [local go_sem ↓] TCall_ld0 TCall_st0 TCall_fd0 TCall_bd0
attribute [local go_sem] TCall_size TCall_one TCall_piece TCall_c0 TCall_c1 TCall_c2 TCall_c3 TCall_c4 TCall_c5 TCall_c6 TCall_c7 TCall_c8 TCall_c9 TCall_c10 TCall_c11 TCall_c12 TCall_c13 TCall_p_deed TCall_put_deed TCall_p_deps TCall_put_deps TCall_set_seq TCall_ld TCall_st TCall_f_deed TCall_f_deps TCall_f_seq TCall_bd TCall_fl TCall_fl_deed TCall_fl_deps TCall_fl_seq
attribute [local go_sem high] TCall_eql TCall_neq
attribute [local go_sem ↓] TItem_ld0 TItem_st0 TItem_fd0 TItem_bd0
attribute [local go_sem] TItem_size TItem_one TItem_piece TItem_c0 TItem_c1 TItem_set_rep TItem_set_num TItem_ld TItem_st TItem_f_rep TItem_f_num TItem_bd TItem_fl TItem_fl_rep TItem_fl_num
attribute [local go_sem high] TItem_eql TItem_neq
section
variable {w W : World} {F : Nat → Prop} {R : List Res} {g c : Nat} {CM : CmpK} {d : Array Item}

set_option maxHeartbeats 8000000 in
theorem order2TC {n : Nat} (hd : d.size = n) (x y s sw : Nat) (hx : x < n) (hy : y < n) (hn : n ≤ 1000000) (hs : sw ≤ 1000) (hm : CM.Ok) (T : Sts w F W (itR g c d :: rowR s #[.int .i64 sw] :: (CM.L ++ R))) :
    Calls Try.prog 91 #[.slice (some ⟨g, 0, none⟩) n c, .int .i64 x, .int .i64 y, .pointer (some ⟨s, 0, none⟩), CM.cv] W fun e W' =>
      e = .returned (.tuple #[.int .i64 (order2 CM.lt d x y sw).1, .int .i64 (order2 CM.lt d x y sw).2.1]) ∧ Sts w F W' (itR g c d :: rowR s #[.int .i64 (order2 CM.lt d x y sw).2.2] :: (CM.L ++ R)) := by
  have FS : ∀ W' R', Sts w F W' (itR g c d :: R') → (loadVal Try.prog 35 2 W' (.pointer (some ⟨g, y * 2, none⟩)) = .ok (.agg (IV d[y]!)) W' ∧ loadVal Try.prog 35 2 W' (.pointer (some ⟨g, x * 2, none⟩)) = .ok (.agg (IV d[x]!)) W') := fun W' R' T => ⟨T.itLoad (by omega), T.itLoad (by omega)⟩
  have HFS := Lib.hid FS
  have HT := Lib.hid T.drew
  have S0 := FS _ _ HT.out
  have HC := Lib.hid (hm.reads d[y]! d[x]!)
  have HL := Lib.hid (show order2 CM.lt d x y sw = if decide (CM.cmp d[y]! d[x]! < 0) then (y, x, sw + 1) else (x, y, sw) from rfl)
  clear FS T hd
  generalize CM.cmp d[y]! d[x]! = cm at *
  have hx0 : (0 : Int) ≤ (x : Int) := by omega
  have hy0 : (0 : Int) ≤ (y : Int) := by omega
  have hxn : (x : Int) < (n : Int) := by omega
  have hyn : (y : Int) < (n : Int) := by omega
  go_enter Try.func91, Try.ntmps91
  go_upto_region 1 with fail
  refine wp_region_held_drew (S := fun W' => (loadVal Try.prog 35 2 W' (.pointer (some ⟨g, y * 2, none⟩)) = .ok (.agg (IV d[y]!)) W' ∧ loadVal Try.prog 35 2 W' (.pointer (some ⟨g, x * 2, none⟩)) = .ok (.agg (IV d[x]!)) W')) (by kernel_rfl) S0 (fun hHeld => ?_)
  clear S0
  refine tkH 0 rfl ?_
  simp only [Act.put, List.setIfInBounds_toArray, List.set_cons_zero, List.set_cons_succ]
  refine tkH 1 rfl ?_
  go_frame
  refine tkH 2 rfl ?_
  go_frame
  refine tkH 3 rfl ?_
  go_frame
  refine tkH 4 rfl ?_
  go_frame
  refine tkH 5 rfl ?_
  go_frame
  refine tkH 6 rfl ?_
  go_frame
  refine tkH 7 rfl ?_
  go_frame
  refine tkH 8 rfl ?_
  go_frame
  refine wpAnyH_ready (rs := [9]) (by kernel_rfl) (by simp) ?_
  refine AllReadyH.cons (o := _) rfl (fun K hK => ?_) AllReadyH.nil
  go_simp
  rw [hm.enter]
  go_simp
  refine (HC.out.itAtC (e := d) (L := [itR g c d, rowR s #[.int .i64 sw]]) HT.out).mono ?_
  clear HC
  rintro e5 w5 ⟨rfl, hb⟩
  have T := HT.out.pure hb
  clear hb HT
  have HT := Lib.hid T
  refine hK.out _ _ (HFS.out _ _ HT.out) (fun hHeld => ?_)
  clear hK K
  refine tkH 10 rfl ?_
  simp only [Act.put, List.setIfInBounds_toArray, List.set_cons_zero, List.set_cons_succ]
  refine wpAnyH_done (by kernel_rfl) ?_ _
  try simp only [Exit.then]
  clear HFS
  cases hlt : decide (cm < 0)
  case false =>
    rw [hlt, if_neg (by simp)] at HL
    clear T
    go_wp2
    go_ret2
    rw [HL.out]
    exact ⟨rfl, HT.out⟩
  case true =>
    rw [hlt, if_pos rfl] at HL
    have T2 := T.swap
    have r0 := T2.row; have l0 := row_lt r0; have c0 := row_cell r0 0; have f0 := row_frozen r0 0
    have T3 := (T2.setCell 0 (.int .i64 ((sw : Int) + 1))).swap
    have hw : IntKind.i64.wrap ((sw : Int) + 1) = (sw : Int) + 1 := by rw [IntKind.wrap_i64] <;> omega
    have HT3 := Lib.hid T3
    clear T T2 T3 HT r0
    go_wp2
    go_ret2
    rw [HL.out]
    exact ⟨rfl, HT3.out⟩
theorem order2_factsC (lt : Item → Item → Bool) (d : Array Item) (x y sw n : Nat) (hx : x < n) (hy : y < n) : (order2 lt d x y sw).1 < n ∧ (order2 lt d x y sw).2.1 < n ∧ (order2 lt d x y sw).2.2 ≤ sw + 1 := by
  unfold order2; split <;> simp <;> omega
set_option maxHeartbeats 8000000 in
theorem medianTC {n : Nat} (hd : d.size = n) (x y z s sw : Nat) (hx : x < n) (hy : y < n) (hz : z < n) (hn : n ≤ 1000000) (hs : sw ≤ 900) (hm : CM.Ok) (T : Sts w F W (itR g c d :: rowR s #[.int .i64 sw] :: (CM.L ++ R))) :
    Calls Try.prog 90 #[.slice (some ⟨g, 0, none⟩) n c, .int .i64 x, .int .i64 y, .int .i64 z, .pointer (some ⟨s, 0, none⟩), CM.cv] W fun e W' =>
      e = .returned (.int .i64 (median CM.lt d x y z sw).1) ∧ Sts w F W' (itR g c d :: rowR s #[.int .i64 (median CM.lt d x y z sw).2] :: (CM.L ++ R)) := by
  have HD := Lib.hid hd
  have HL := Lib.hid (show median CM.lt d x y z sw = ((order2 CM.lt d (order2 CM.lt d x y sw).1 (order2 CM.lt d (order2 CM.lt d x y sw).2.1 z (order2 CM.lt d x y sw).2.2).1 (order2 CM.lt d (order2 CM.lt d x y sw).2.1 z (order2 CM.lt d x y sw).2.2).2.2).2.1, (order2 CM.lt d (order2 CM.lt d x y sw).1 (order2 CM.lt d (order2 CM.lt d x y sw).2.1 z (order2 CM.lt d x y sw).2.2).1 (order2 CM.lt d (order2 CM.lt d x y sw).2.1 z (order2 CM.lt d x y sw).2.2).2.2).2.2) from rfl)
  obtain ⟨h1, h2, h3⟩ := order2_factsC CM.lt d x y sw n hx hy
  have C1 := Lib.hid (order2TC hd x y s sw hx hy hn (by omega) hm T)
  clear T hd
  generalize order2 CM.lt d x y sw = r1 at *
  obtain ⟨a1, b1, s1⟩ := r1
  dsimp only at h1 h2 h3 C1 HL
  go_enter Try.func90, Try.ntmps90
  go_wp2_with fail
  refine C1.out.mono ?_
  clear C1
  rintro e w1 ⟨rfl, T⟩
  obtain ⟨h4, h5, h6⟩ := order2_factsC CM.lt d b1 z s1 n h2 hz
  have C1 := Lib.hid (order2TC HD.out b1 z s s1 h2 hz hn (by omega) hm T)
  clear T
  generalize order2 CM.lt d b1 z s1 = r2 at *
  obtain ⟨b2, c2, s2⟩ := r2
  dsimp only at h4 h5 h6 C1 HL
  go_wp2_with fail
  refine C1.out.mono ?_
  clear C1
  rintro e w2 ⟨rfl, T⟩
  obtain ⟨h7, h8, h9⟩ := order2_factsC CM.lt d a1 b2 s2 n h1 h4
  have C1 := Lib.hid (order2TC HD.out a1 b2 s s2 h1 h4 hn (by omega) hm T)
  clear T
  generalize order2 CM.lt d a1 b2 s2 = r3 at *
  obtain ⟨a3, b3, s3⟩ := r3
  dsimp only at h7 h8 h9 C1 HL
  go_wp2_with fail
  refine C1.out.mono ?_
  clear C1
  rintro e w3 ⟨rfl, T⟩
  have HT := Lib.hid T; clear T
  go_wp2
  go_ret
  rw [HL.out]
  exact ⟨rfl, HT.out⟩
theorem median_factsC (lt : Item → Item → Bool) (d : Array Item) (x y z sw n : Nat) (hx : x < n) (hy : y < n) (hz : z < n) : (median lt d x y z sw).1 < n ∧ (median lt d x y z sw).2 ≤ sw + 3 := by
  unfold median
  obtain ⟨h1, h2, h3⟩ := order2_factsC lt d x y sw n hx hy
  obtain ⟨h4, h5, h6⟩ := order2_factsC lt d _ z (order2 lt d x y sw).2.2 n h2 hz
  obtain ⟨h7, h8, h9⟩ := order2_factsC lt d _ _ (order2 lt d (order2 lt d x y sw).2.1 z (order2 lt d x y sw).2.2).2.2 n h1 h4
  exact ⟨h8, by dsimp only; omega⟩
def hintNC : Go.Sort.Hint → Int
  | .unknown => 0
  | .increasing => 1
  | .decreasing => 2
set_option maxHeartbeats 8000000 in
theorem choosePivotSmallTC {n : Nat} (hd : d.size = n) (x z : Nat) (hxz : x < z) (hz : z ≤ n) (hn : n ≤ 1000000) (h50 : z - x < 50) (hm : CM.Ok) (T : Sts w F W (itR g c d :: (CM.L ++ R))) :
    Calls Try.prog 77 #[.slice (some ⟨g, 0, none⟩) n c, .int .i64 x, .int .i64 z, CM.cv] W fun e W' =>
      e = .returned (.tuple #[.int .i64 (choosePivot CM.lt d x z).1, .int .i64 (hintNC (choosePivot CM.lt d x z).2)]) ∧ Sts w F W' (itR g c d :: (CM.L ++ R)) := by
  have HD := Lib.hid hd
  obtain ⟨l, hl⟩ : ∃ l, l = z - x := ⟨_, rfl⟩
  obtain ⟨l4, hl4⟩ : ∃ k, k = l / 4 := ⟨_, rfl⟩
  have hl50 : ¬ l ≥ 50 := by omega
  have HL := Lib.hid (show choosePivot CM.lt d x z = ((if l ≥ 8 then median CM.lt d (x + l4 * 1) (x + l4 * 2) (x + l4 * 3) 0 else (x + l4 * 2, 0)).1, if (if l ≥ 8 then median CM.lt d (x + l4 * 1) (x + l4 * 2) (x + l4 * 3) 0 else (x + l4 * 2, 0)).2 = 0 then Go.Sort.Hint.increasing else if (if l ≥ 8 then median CM.lt d (x + l4 * 1) (x + l4 * 2) (x + l4 * 3) 0 else (x + l4 * 2, 0)).2 = 12 then .decreasing else .unknown) by
    unfold choosePivot
    dsimp only
    rw [← hl, ← hl4]
    simp only [if_neg hl50])
  obtain ⟨i1, hi1⟩ : ∃ k, k = x + l4 * 1 := ⟨_, rfl⟩
  obtain ⟨i2, hi2⟩ : ∃ k, k = x + l4 * 2 := ⟨_, rfl⟩
  obtain ⟨i3, hi3⟩ : ∃ k, k = x + l4 * 3 := ⟨_, rfl⟩
  rw [← hi1, ← hi2, ← hi3] at HL
  have hw0 : IntKind.i64.wrap ((z : Int) - (x : Int)) = (l : Int) := by rw [IntKind.wrap_i64] <;> omega
  have hs1 : (x : Int) + (l : Int) / 4 = (i1 : Int) := by omega
  have hs2 : (x : Int) + (l : Int) / 4 * 2 = (i2 : Int) := by omega
  have hs3 : (x : Int) + (l : Int) / 4 * 3 = (i3 : Int) := by omega
  have hl50' : ¬ (50 : Int) ≤ (l : Int) := by omega
  have b1 : i1 < n := by omega
  have b2 : i2 < n := by omega
  have b3 : i3 < n := by omega
  have T1 := T.new #[.int .i64 0] 3
  have T2 := T1.swap
  have r0 := T2.row1; have l0 := row_lt r0; have c0 := row_cell r0 0; have f0 := row_frozen r0 0
  have HT := Lib.hid T2
  by_cases h8 : l ≥ 8
  · have h8' : (8 : Int) ≤ (l : Int) := by omega
    simp only [if_pos h8] at HL
    have C1 := Lib.hid (medianTC hd i1 i2 i3 _ 0 b1 b2 b3 (by omega) (by omega) hm T2)
    obtain ⟨f1, f2⟩ := median_factsC CM.lt d i1 i2 i3 0 n b1 b2 b3
    clear T T1 T2 hd
    generalize median CM.lt d i1 i2 i3 0 = r1 at *
    obtain ⟨p, s1⟩ := r1
    dsimp only at f1 f2 C1 HL
    clear hi1 hi2 hi3 hl4 hl
    go_enter Try.func77, Try.ntmps77
    go_wp2_with fail
    refine C1.out.mono ?_
    clear C1 HT r0 l0 c0 f0
    rintro e w1 ⟨rfl, T⟩
    have r0 := T.row1; have l0 := row_lt r0; have c0 := row_cell r0 0; have f0 := row_frozen r0 0
    have HT := Lib.hid (T.swap.drop); clear T
    by_cases hs0 : s1 = 0
    · subst hs0
      rw [if_pos rfl] at HL
      go_wp2
      go_ret2
      rw [HL.out]
      exact ⟨rfl, HT.out⟩
    · have hs12 : ¬ s1 = 12 := by omega
      rw [if_neg hs0, if_neg hs12] at HL
      have g1 : ¬ (s1 : Int) = 0 := by omega
      have g2 : ¬ (s1 : Int) = 12 := by omega
      go_wp2
      go_ret2
      rw [HL.out]
      exact ⟨rfl, HT.out⟩
  · have h8' : ¬ (8 : Int) ≤ (l : Int) := by omega
    simp only [if_neg h8, if_pos] at HL
    have HTd := Lib.hid (T2.swap.drop)
    clear T T1 T2 hd HT
    clear hi1 hi2 hi3 hl4 hl
    go_enter Try.func77, Try.ntmps77
    go_wp2
    go_ret2
    rw [HL.out]
    exact ⟨rfl, HTd.out⟩
set_option maxHeartbeats 8000000 in
theorem medAdjTC {n : Nat} (hd : d.size = n) (y s sw : Nat) (hy1 : 1 ≤ y) (hy : y + 1 < n) (hn : n ≤ 1000000) (hs : sw ≤ 900) (hm : CM.Ok) (T : Sts w F W (itR g c d :: rowR s #[.int .i64 sw] :: (CM.L ++ R))) :
    Calls Try.prog 89 #[.slice (some ⟨g, 0, none⟩) n c, .int .i64 y, .pointer (some ⟨s, 0, none⟩), CM.cv] W fun e W' =>
      e = .returned (.int .i64 (medianAdjacent CM.lt d y sw).1) ∧ Sts w F W' (itR g c d :: rowR s #[.int .i64 (medianAdjacent CM.lt d y sw).2] :: (CM.L ++ R)) := by
  obtain ⟨p, hp⟩ : ∃ p, p = y - 1 := ⟨_, rfl⟩
  obtain ⟨q, hq⟩ : ∃ q, q = y + 1 := ⟨_, rfl⟩
  have e1 : (y : Int) - 1 = (p : Int) := by omega
  have e2 : (y : Int) + 1 = (q : Int) := by omega
  have v1 : IntKind.i64.wrap (p : Int) = (p : Int) := by rw [IntKind.wrap_i64] <;> omega
  have v2 : IntKind.i64.wrap (q : Int) = (q : Int) := by rw [IntKind.wrap_i64] <;> omega
  have C1 := Lib.hid (medianTC hd p y q s sw (by omega) (by omega) (by omega) hn hs hm T)
  rw [show medianAdjacent CM.lt d y sw = median CM.lt d p y q sw by rw [hp, hq]; rfl]
  clear T hp hq hd
  generalize median CM.lt d p y q sw = r at *
  go_enter Try.func89, Try.ntmps89
  go_wp2_with fail
  refine C1.out.mono ?_
  clear C1
  rintro e w1 ⟨rfl, T⟩
  have HT := Lib.hid T; clear T
  go_wp2
  go_ret
  exact ⟨rfl, HT.out⟩
theorem medAdj_factsC (lt : Item → Item → Bool) (d : Array Item) (y sw n : Nat) (h1 : 1 ≤ y) (hy : y + 1 < n) : (medianAdjacent lt d y sw).1 < n ∧ (medianAdjacent lt d y sw).2 ≤ sw + 3 := median_factsC lt d _ _ _ sw n (by omega) (by omega) (by omega)
set_option maxHeartbeats 8000000 in
theorem choosePivotBigTC {n : Nat} (hd : d.size = n) (x z : Nat) (hxz : x < z) (hz : z ≤ n) (hn : n ≤ 1000000) (h50 : 50 ≤ z - x) (hm : CM.Ok) (T : Sts w F W (itR g c d :: (CM.L ++ R))) :
    Calls Try.prog 77 #[.slice (some ⟨g, 0, none⟩) n c, .int .i64 x, .int .i64 z, CM.cv] W fun e W' =>
      e = .returned (.tuple #[.int .i64 (choosePivot CM.lt d x z).1, .int .i64 (hintNC (choosePivot CM.lt d x z).2)]) ∧ Sts w F W' (itR g c d :: (CM.L ++ R)) := by
  have HD := Lib.hid hd
  obtain ⟨l, hl⟩ : ∃ l, l = z - x := ⟨_, rfl⟩
  obtain ⟨l4, hl4⟩ : ∃ k, k = l / 4 := ⟨_, rfl⟩
  have h8 : l ≥ 8 := by omega
  have hl50 : l ≥ 50 := by omega
  obtain ⟨i1, hi1⟩ : ∃ k, k = x + l4 * 1 := ⟨_, rfl⟩
  obtain ⟨i2, hi2⟩ : ∃ k, k = x + l4 * 2 := ⟨_, rfl⟩
  obtain ⟨i3, hi3⟩ : ∃ k, k = x + l4 * 3 := ⟨_, rfl⟩
  obtain ⟨r, hr⟩ : ∃ r, r = choosePivot CM.lt d x z := ⟨_, rfl⟩
  rw [← hr]
  unfold choosePivot at hr
  dsimp only at hr
  rw [← hl, ← hl4] at hr
  simp only [if_pos h8, if_pos hl50] at hr
  rw [← hi1, ← hi2, ← hi3] at hr
  have HR := Lib.hid hr; clear hr
  have hw0 : IntKind.i64.wrap ((z : Int) - (x : Int)) = (l : Int) := by rw [IntKind.wrap_i64] <;> omega
  have hs1 : (x : Int) + (l : Int) / 4 = (i1 : Int) := by omega
  have hs2 : (x : Int) + (l : Int) / 4 * 2 = (i2 : Int) := by omega
  have hs3 : (x : Int) + (l : Int) / 4 * 3 = (i3 : Int) := by omega
  have hl50' : (50 : Int) ≤ (l : Int) := by omega
  have h8' : (8 : Int) ≤ (l : Int) := by omega
  have b1 : i1 + 1 < n := by omega
  have b2 : i2 + 1 < n := by omega
  have b3 : i3 + 1 < n := by omega
  have p1 : 1 ≤ i1 := by omega
  have p2 : 1 ≤ i2 := by omega
  have p3 : 1 ≤ i3 := by omega
  have T1 := T.new #[.int .i64 0] 3
  have T2 := T1.swap
  have r0 := T2.row1; have l0 := row_lt r0; have c0 := row_cell r0 0; have f0 := row_frozen r0 0
  have HT := Lib.hid T2
  have C1 := Lib.hid (medAdjTC hd i1 _ 0 p1 b1 hn (by omega) hm T2)
  obtain ⟨f1, f2⟩ := medAdj_factsC CM.lt d i1 0 n p1 b1
  clear T T1 T2 hd
  generalize medianAdjacent CM.lt d i1 0 = r1 at *
  obtain ⟨a1, s1⟩ := r1
  dsimp only at f1 f2 C1 HR
  clear hi1 hi2 hi3 hl4 hl
  go_enter Try.func77, Try.ntmps77
  go_wp2_with fail
  refine C1.out.mono ?_
  clear C1 HT r0 l0 c0 f0
  rintro e w1 ⟨rfl, T⟩
  have C1 := Lib.hid (medAdjTC HD.out i2 _ s1 p2 b2 hn (by omega) hm T)
  obtain ⟨f3, f4⟩ := medAdj_factsC CM.lt d i2 s1 n p2 b2
  clear T
  generalize medianAdjacent CM.lt d i2 s1 = r1 at *
  obtain ⟨a2, s2⟩ := r1
  dsimp only at f3 f4 C1 HR
  go_wp2_with fail
  refine C1.out.mono ?_
  clear C1
  rintro e w2 ⟨rfl, T⟩
  have C1 := Lib.hid (medAdjTC HD.out i3 _ s2 p3 b3 hn (by omega) hm T)
  obtain ⟨f5, f6⟩ := medAdj_factsC CM.lt d i3 s2 n p3 b3
  clear T
  generalize medianAdjacent CM.lt d i3 s2 = r1 at *
  obtain ⟨a3, s3⟩ := r1
  dsimp only at f5 f6 C1 HR
  go_wp2_with fail
  refine C1.out.mono ?_
  clear C1
  rintro e w3 ⟨rfl, T⟩
  have C1 := Lib.hid (medianTC HD.out a1 a2 a3 _ s3 f1 f3 f5 hn (by omega) hm T)
  obtain ⟨f7, f8⟩ := median_factsC CM.lt d a1 a2 a3 s3 n f1 f3 f5
  clear T
  generalize median CM.lt d a1 a2 a3 s3 = r1 at *
  obtain ⟨p, s4⟩ := r1
  dsimp only at f7 f8 C1 HR
  go_wp2_with fail
  refine C1.out.mono ?_
  clear C1
  rintro e w4 ⟨rfl, T⟩
  have r0 := T.row1; have l0 := row_lt r0; have c0 := row_cell r0 0; have f0 := row_frozen r0 0
  have HT := Lib.hid (T.swap.drop); clear T f2 f4 f6 f8
  have hR := HR.out
  by_cases hs0 : s4 = 0
  · subst hs0
    rw [if_pos rfl] at hR
    have HR2 := Lib.hid hR; clear hR HR
    go_wp2
    go_ret2
    rw [HR2.out]
    exact ⟨rfl, HT.out⟩
  · rw [if_neg hs0] at hR
    by_cases hs12 : s4 = 12
    · subst hs12
      rw [if_pos rfl] at hR
      have HR2 := Lib.hid hR; clear hR HR
      go_wp2
      go_ret2
      rw [HR2.out]
      exact ⟨rfl, HT.out⟩
    · rw [if_neg hs12] at hR
      have HR2 := Lib.hid hR; clear hR HR
      have g1 : ¬ (s4 : Int) = 0 := by omega
      have g2 : ¬ (s4 : Int) = 12 := by omega
      go_wp2
      go_ret2
      rw [HR2.out]
      exact ⟨rfl, HT.out⟩
theorem choosePivotTC {n : Nat} (hd : d.size = n) (x z : Nat) (hxz : x < z) (hz : z ≤ n) (hn : n ≤ 1000000) (hm : CM.Ok) (T : Sts w F W (itR g c d :: (CM.L ++ R))) :
    Calls Try.prog 77 #[.slice (some ⟨g, 0, none⟩) n c, .int .i64 x, .int .i64 z, CM.cv] W fun e W' =>
      e = .returned (.tuple #[.int .i64 (choosePivot CM.lt d x z).1, .int .i64 (hintNC (choosePivot CM.lt d x z).2)]) ∧ Sts w F W' (itR g c d :: (CM.L ++ R)) := by
  by_cases h50 : z - x < 50
  · exact choosePivotSmallTC hd x z hxz hz hn h50 hm T
  · exact choosePivotBigTC hd x z hxz hz hn (by omega) hm T
end
end Go.Proofs.Ytnjgjhjilolanaa
