/- Several texts in one. -/
import Derived.Test.YtnjgjhjilolanaaJ23
/- Items in a slice of the call's own, sorted in their place by a function: by a heap. -/
namespace Go.Proofs.Ytnjgjhjilolanaa
open Go.RowKit Go.Shelf
open Go.Sort (swp siftDown heapBuild heapPop heapSort)
set_option linter.unusedVariables false
set_option maxRecDepth 20000
attribute [local go_sem] row_alloc row_drew row_drewN row_ext row_setCell row_setRow size_ext setRow_alloc setRow_drew loadOf storeOf piece_lit loadVal_at storeVal_at allOne_lit buildOf buildRes_some
attribute [local go_sem high] cell_alloc frozen_alloc setCell_alloc cell_ext frozen_ext cell_setRow frozen_setRow
attribute [local go_sem ↓] TDeed_ld0 TDeed_st0 TDeed_fd0 TDeed_bd0
attribute [local go_sem] TDeed_size TDeed_one TDeed_piece TDeed_c0 TDeed_c1 TDeed_c2 TDeed_c3 TDeed_c4 TDeed_c5 TDeed_set_kind TDeed_set_key TDeed_set_val TDeed_set_ver TDeed_set_ses TDeed_set_num TDeed_ld TDeed_st TDeed_f_kind TDeed_f_key TDeed_f_val TDeed_f_ver TDeed_f_ses TDeed_f_num TDeed_bd TDeed_fl TDeed_fl_kind TDeed_fl_key TDeed_fl_val TDeed_fl_ver TDeed_fl_ses TDeed_fl_num
attribute [local go_sem high] TDeed_eql TDeed_neq
attribute [local go_sem ↓] index_deps0 load_deps0 store_deps0
attribute [local go_sem] DV_piece DV_size DV_one index_deps load_deps store_deps
attribute [local go_sem high] TDeps_eql TDeps_neq
attribute [local go_sem ↓] TCall_ld0 TCall_st0 TCall_fd0 TCall_bd0
attribute [local go_sem] TCall_size TCall_one TCall_piece TCall_c0 TCall_c1 TCall_c2 TCall_c3 TCall_c4 TCall_c5 TCall_c6 TCall_c7 TCall_c8 TCall_c9 TCall_c10 TCall_c11 TCall_c12 TCall_c13 TCall_p_deed TCall_put_deed TCall_p_deps TCall_put_deps TCall_set_seq TCall_ld TCall_st TCall_f_deed TCall_f_deps TCall_f_seq TCall_bd TCall_fl TCall_fl_deed TCall_fl_deps TCall_fl_seq
attribute [local go_sem high] TCall_eql TCall_neq
attribute [local go_sem ↓] TItem_ld0 TItem_st0 TItem_fd0 TItem_bd0
attribute [local go_sem] TItem_size TItem_one TItem_piece TItem_c0 TItem_c1 TItem_set_rep TItem_set_num TItem_ld TItem_st TItem_f_rep TItem_f_num TItem_bd TItem_fl TItem_fl_rep TItem_fl_num
attribute [local go_sem high] TItem_eql TItem_neq
section
variable {w W : World} {F : Nat → Prop} {R : List Res} {g c : Nat} {CM : CmpK} {d : Array Item}
theorem heapBuild_sizeC (lt : Item → Item → Bool) (hi f : Nat) : ∀ (k : Nat) (e : Array Item), (heapBuild lt hi f k e).size = e.size
  | 0, e => rfl
  | k + 1, e => by rw [heapBuild, heapBuild_sizeC lt hi f k, siftDown_sizeC lt hi f hi k e (by omega)]
theorem heapPop_sizeC (lt : Item → Item → Bool) (f : Nat) : ∀ (k : Nat) (e : Array Item), (heapPop lt f k e).size = e.size
  | 0, e => rfl
  | k + 1, e => by rw [heapPop, heapPop_sizeC lt f k, siftDown_sizeC lt k f k 0 _ (by omega), swp_sz]
theorem heapSort_sizeC (lt : Item → Item → Bool) (d : Array Item) (a z : Nat) : (heapSort lt d a z).size = d.size := by
  unfold heapSort
  rw [heapPop_sizeC, heapBuild_sizeC]
set_option maxHeartbeats 16000000 in
theorem heapSortTC {n : Nat} (hd : d.size = n) (a z : Nat) (haz : a < z) (hz : z ≤ n) (hn : n ≤ 1000000) (hm : CM.Ok) (T : Sts w F W (itR g c d :: (CM.L ++ R))) :
    Calls Try.prog 75 #[.slice (some ⟨g, 0, none⟩) n c, .int .i64 a, .int .i64 z, CM.cv] W fun e W' => e = .returned (.tuple #[]) ∧ Sts w F W' (itR g c (heapSort CM.lt d a z) :: (CM.L ++ R)) := by
  have HT := Lib.hid T; clear T
  have HD := Lib.hid hd; clear hd
  obtain ⟨hi, hhi⟩ : ∃ k, k = z - a := ⟨_, rfl⟩
  obtain ⟨k0, hk0⟩ : ∃ k, k = (hi - 1) / 2 + 1 := ⟨_, rfl⟩
  have e1 : (z : Int) - (a : Int) = (hi : Int) := by omega
  have v1 := wrapNC hi (by omega)
  have e2 : IntKind.i64.wrap ((hi : Int) - 1) = (hi : Int) - 1 := by rw [IntKind.wrap_i64] <;> omega
  have hahi : a + hi ≤ n := by omega
  have hhi0 : 0 < hi := by omega
  have HR := Lib.hid (show heapSort CM.lt d a z = heapPop CM.lt a hi (heapBuild CM.lt hi a k0 d) by unfold heapSort; rw [hk0, hhi])
  have HK := Lib.hid hk0
  clear hhi hk0
  go_enter Try.func75, Try.ntmps75
  go_wp2_with fail
  go_loopw [11] (fun u11 wr => ∃ (k : Nat) (e : Array Item), u11 = .int .i64 ((k : Int) - 1) ∧ k ≤ hi ∧ e.size = n ∧ heapBuild CM.lt hi a k e = heapBuild CM.lt hi a k0 d ∧ Sts w F wr (itR g c e :: (CM.L ++ R))) (fun u11 _ => (intOf u11 + 1).toNat)
  case atStart =>
    exact ⟨k0, d, by have := HK.out; congr 1; omega, by have := HK.out; omega, HD.out, rfl, HT.out⟩
  case round =>
    clear HT HD
    obtain ⟨k, e, rfl, hk, hes, hE, T⟩ := hrel
    have HT := Lib.hid T; have HES := Lib.hid hes; have HE := Lib.hid hE; clear T hes hE
    cases k with
    | zero =>
      have g0 : ¬ (0 : Int) ≤ ((0 : Nat) : Int) - 1 := by omega
      have hE0 := HE.out
      rw [heapBuild] at hE0
      have HE0 := Lib.hid hE0; clear hE0 HE
      go_wp2_with fail
      go_loopw [12] (fun u12 wx => ∃ (k : Nat) (e1 : Array Item), u12 = .int .i64 ((k : Int) - 1) ∧ k ≤ hi ∧ e1.size = n ∧ heapPop CM.lt a k e1 = heapPop CM.lt a hi e ∧ Sts w F wx (itR g c e1 :: (CM.L ++ R))) (fun u12 _ => (intOf u12 + 1).toNat)
      case atStart => exact ⟨hi, e, rfl, Nat.le_refl _, HES.out, rfl, HT.out⟩
      case round =>
        clear HT HES
        obtain ⟨k, e1, rfl, hk, hes, hE, T⟩ := hrel
        have HT := Lib.hid T; have HES := Lib.hid hes; have HE := Lib.hid hE; clear T hes hE
        cases k with
        | zero =>
          have g0 : ¬ (0 : Int) ≤ ((0 : Nat) : Int) - 1 := by omega
          go_wp2
          go_end0
          refine ⟨rfl, ?_⟩
          have := HE.out
          rw [heapPop] at this
          rw [HR.out, ← HE0.out, ← this]
          exact HT.out
        | succ k =>
          obtain ⟨kk, hkk⟩ : ∃ v : Int, v = ((k + 1 : Nat) : Int) - 1 := ⟨_, rfl⟩
          rw [← hkk]
          have g0 : kk = (k : Int) := by omega
          subst g0
          have HKK := Lib.hid hkk; clear hkk
          have g1 : (0 : Int) ≤ (k : Int) := by omega
          obtain ⟨p, hp⟩ : ∃ p, p = a + k := ⟨_, rfl⟩
          have b1 : (a : Int) + (k : Int) = (p : Int) := by omega
          have w1 := wrapNC p (by omega)
          have k1 : (0 : Int) ≤ (a : Int) := by omega
          have k2 : (0 : Int) ≤ (p : Int) := by omega
          have k3 : (a : Int) < (n : Int) := by omega
          have k4 : (p : Int) < (n : Int) := by omega
          have hE2 := HE.out
          rw [heapPop, ← hp] at hE2
          have HE2 := Lib.hid hE2; have HP := Lib.hid hp
          clear hE2 HE hp
          go_upto_region 10 with fail
          have hes := HES.out
          have T := HT.out.drew
          have S0 : (fun W' => loadVal Try.prog 35 2 W' (.pointer (some ⟨g, a * 2, none⟩)) = .ok (.agg (IV e1[a]!)) W' ∧ loadVal Try.prog 35 2 W' (.pointer (some ⟨g, p * 2, none⟩)) = .ok (.agg (IV e1[p]!)) W') _ := ⟨T.itLoad (by omega), T.itLoad (by omega)⟩
          obtain ⟨w6, h6, T6⟩ := T.itSet (i := a) (by omega) e1[p]!
          obtain ⟨w7, h7, T7⟩ := T6.itSet (i := p) (by simp; omega) e1[a]!
          have HT7 := Lib.hid T7
          have HM := Lib.hid (show ∀ W' : World, (loadVal Try.prog 35 2 W' (.pointer (some ⟨g, a * 2, none⟩)) = .ok (.agg (IV e1[a]!)) W' ∧ loadVal Try.prog 35 2 W' (.pointer (some ⟨g, p * 2, none⟩)) = .ok (.agg (IV e1[p]!)) W') → True from fun _ _ => trivial)
          clear T T6 T7 HT hes
          refine wp_region_stage (fun W' => loadVal Try.prog 35 2 W' (.pointer (some ⟨g, a * 2, none⟩)) = .ok (.agg (IV e1[a]!)) W' ∧ loadVal Try.prog 35 2 W' (.pointer (some ⟨g, p * 2, none⟩)) = .ok (.agg (IV e1[p]!)) W') (fun _ => True) 17 (by kernel_rfl) S0 (fun hHeld => ?_)
          clear S0
          refine tk1 2 HM.out rfl (v := ?_) ?_ ?_
          rotate_left
          · intro w h; (try dsimp only at h); go_simp; try with_reducible rfl
          simp only [Act.put, List.setIfInBounds_toArray, List.set_cons_zero, List.set_cons_succ]
          refine tk1 3 HM.out rfl (v := ?_) ?_ ?_
          rotate_left
          · intro w h; (try dsimp only at h); go_simp; try with_reducible rfl
          go_frame
          refine tk1 4 HM.out rfl (v := ?_) ?_ ?_
          rotate_left
          · intro w h; (try dsimp only at h); go_simp; try with_reducible rfl
          go_frame
          refine tk1 5 HM.out rfl (v := ?_) ?_ ?_
          rotate_left
          · intro w h; (try dsimp only at h); go_simp; try with_reducible rfl
          go_frame
          refine tk1 12 HM.out rfl (v := ?_) ?_ ?_
          rotate_left
          · intro w h; (try dsimp only at h); go_simp; try with_reducible rfl
          go_frame
          refine tk1 13 HM.out rfl (v := ?_) ?_ ?_
          rotate_left
          · intro w h; (try dsimp only at h); go_simp; try with_reducible rfl
          go_frame
          refine tk1 14 HM.out rfl (v := ?_) ?_ ?_
          rotate_left
          · intro w h; (try dsimp only at h); go_simp; try with_reducible rfl
          go_frame
          refine tk0 0 rfl (v := ?_) ?_ ?_
          rotate_left
          · intro w h; (try dsimp only at h); go_simp; try with_reducible rfl
          simp only [Act.put, List.setIfInBounds_toArray, List.set_cons_zero, List.set_cons_succ]
          refine tk0 1 rfl (v := ?_) ?_ ?_
          rotate_left
          · intro w h; (try dsimp only at h); go_simp; try with_reducible rfl
          go_frame
          refine tk0 6 rfl (v := ?_) ?_ ?_
          rotate_left
          · intro w h; (try dsimp only at h); go_simp; try with_reducible rfl
          go_frame
          refine tk0 7 rfl (v := ?_) ?_ ?_
          rotate_left
          · intro w h; (try dsimp only at h); go_simp; try with_reducible rfl
          go_frame
          refine tk0 8 rfl (v := ?_) ?_ ?_
          rotate_left
          · intro w h; (try dsimp only at h); go_simp; try with_reducible rfl
          go_frame
          refine tk0 9 rfl (v := ?_) ?_ ?_
          rotate_left
          · intro w h; (try dsimp only at h); go_simp; try with_reducible rfl
          go_frame
          refine tk0 10 rfl (v := ?_) ?_ ?_
          rotate_left
          · intro w h; (try dsimp only at h); go_simp; try with_reducible rfl
          go_frame
          refine tk0 11 rfl (v := ?_) ?_ ?_
          rotate_left
          · intro w h; (try dsimp only at h); go_simp; try with_reducible rfl
          go_frame
          refine tk0 15 rfl (v := ?_) ?_ ?_
          rotate_left
          · intro w h; (try dsimp only at h); go_simp; try with_reducible rfl
          go_frame
          refine tk0 16 rfl (v := ?_) ?_ ?_
          rotate_left
          · intro w h; (try dsimp only at h); go_simp; try with_reducible rfl
          go_frame
          refine wpAnyL_ready (rs := [17]) (by kernel_rfl) (by simp) ?_
          refine AllReadyL.cons1 (o := _) rfl (by kernel_rfl) (fun K hK => ?_) AllReadyL.nil
          go_simp
          refine hK.out _ _ trivial (fun hHeld => ?_)
          clear hK K h6
          refine tk2 18 HM.out rfl (v := ?_) ?_ ?_
          rotate_left
          · intro w h; (try dsimp only at h); go_simp; try with_reducible rfl
          simp only [Act.put, List.setIfInBounds_toArray, List.set_cons_zero, List.set_cons_succ]
          refine wpAnyL_ready (rs := [19]) (by kernel_rfl) (by simp) ?_
          refine AllReadyL.cons1 (o := _) rfl (by kernel_rfl) (fun K hK => ?_) AllReadyL.nil
          go_simp
          refine hK.out _ _ trivial (fun hHeld => ?_)
          clear hK K h7
          refine wpAnyL_done (by kernel_rfl) ?_ _
          try simp only [Exit.then]
          have HT := HT7; clear HT7 HM
          rw [set_set_swp] at HT
          have hss : (swp e1 a p).size = n := by rw [swp_sz]; exact HES.out
          have HS := Lib.hid (siftDownTC hss 0 k a (Nat.zero_le _) (by omega) hn hm HT.out)
          have HSS := Lib.hid hss; clear hss HT
          go_wp2_with fail
          refine HS.out.mono ?_
          clear HS
          rintro e5 w5 ⟨rfl, T⟩
          have HT := Lib.hid T; clear T
          go_wp2
          go_roundw
          case rel => exact ⟨k, siftDown CM.lt k a 0 (swp e1 a p), by go_num, by omega, by rw [siftDown_sizeC _ _ _ k _ _ (by omega)]; exact HSS.out, HE2.out, HT.out⟩
          case measure => (simp [intOf]; try omega)
    | succ k =>
      obtain ⟨kk, hkk⟩ : ∃ v : Int, v = ((k + 1 : Nat) : Int) - 1 := ⟨_, rfl⟩
      rw [← hkk]
      have g0 : kk = (k : Int) := by omega
      subst g0
      have HKK := Lib.hid hkk; clear hkk
      have g1 : (0 : Int) ≤ (k : Int) := by omega
      have HS := Lib.hid (siftDownTC HES.out k hi a (by omega) hahi hn hm HT.out)
      have hE2 := HE.out
      rw [heapBuild] at hE2
      have HE2 := Lib.hid hE2
      clear hE2 HE HT
      go_wp2_with fail
      refine HS.out.mono ?_
      clear HS
      rintro e5 w5 ⟨rfl, T⟩
      have HT := Lib.hid T; clear T
      go_wp2
      go_roundw
      case rel => exact ⟨k, siftDown CM.lt hi a k e, by go_num, by omega, by rw [siftDown_sizeC _ _ _ hi _ _ (by omega)]; exact HES.out, HE2.out, HT.out⟩
      case measure => (simp [intOf]; try omega)
end
end Go.Proofs.Ytnjgjhjilolanaa
