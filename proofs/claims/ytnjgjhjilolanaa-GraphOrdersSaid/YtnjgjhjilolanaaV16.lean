/- Several texts in one. -/
import Derived.Test.YtnjgjhjilolanaaV14
import Derived.Sort.AssemblyPlain
import Derived.Lib.BitFns
/- Items in a slice of the call's own, sorted in their place by a graph's order: the insertion sort. -/
namespace Go.Proofs.Ytnjgjhjilolanaa
open Go.RowKit Go.Shelf
open Go.Sort (swp insInner insOuter insertionSort)
set_option linter.unusedVariables false
set_option maxRecDepth 20000
attribute [local go_sem] row_alloc row_drew row_drewN row_ext row_setCell row_setRow size_ext setRow_alloc setRow_drew loadOf storeOf piece_lit loadVal_at storeVal_at allOne_lit buildOf buildRes_some
attribute [local go_sem high] cell_alloc frozen_alloc setCell_alloc cell_ext frozen_ext cell_setRow frozen_setRow
attribute [local go_sem ↓] TDeed_ld0 TDeed_st0 TDeed_fd0 TDeed_bd0
attribute [local go_sem] TDeed_size TDeed_one TDeed_piece TDeed_c0 TDeed_c1 TDeed_c2 TDeed_c3 TDeed_c4 TDeed_c5 TDeed_set_kind TDeed_set_key TDeed_set_val TDeed_set_ver TDeed_set_ses TDeed_set_num TDeed_ld TDeed_st TDeed_f_kind TDeed_f_key TDeed_f_val TDeed_f_ver TDeed_f_ses TDeed_f_num TDeed_bd TDeed_fl TDeed_fl_kind TDeed_fl_key TDeed_fl_val TDeed_fl_ver TDeed_fl_ses TDeed_fl_num
attribute [local go_sem high] TDeed_eql TDeed_neq
attribute [local go_sem ↓] index_deps0 load_deps0 store_deps0
attribute [local go_sem] DV_piece DV_size DV_one index_deps load_deps store_deps
attribute [local go_sem high] TDeps_eql TDeps_neq
attribute [local go_sem ↓] TCall_ld0 TCall_st0 TCall_fd0 TCall_bd0
attribute [local go_sem] TCall_size TCall_one TCall_piece TCall_c0 TCall_c1 TCall_c2 TCall_c3 TCall_c4 TCall_c5 TCall_c6 TCall_c7 TCall_c8 TCall_c9 TCall_c10 TCall_c11 TCall_c12 TCall_c13 TCall_p_deed TCall_put_deed TCall_p_deps TCall_put_deps TCall_set_seq TCall_ld TCall_st TCall_f_deed TCall_f_deps TCall_f_seq TCall_bd TCall_fl TCall_fl_deed TCall_fl_deps TCall_fl_seq
attribute [local go_sem high] TCall_eql TCall_neq
attribute [local go_sem ↓] TItem_ld0 TItem_st0 TItem_fd0 TItem_bd0
attribute [local go_sem] TItem_size TItem_one TItem_piece TItem_c0 TItem_c1 TItem_set_rep TItem_set_num TItem_ld TItem_st TItem_f_rep TItem_f_num TItem_bd TItem_fl TItem_fl_rep TItem_fl_num
attribute [local go_sem high] TItem_eql TItem_neq
instance : Inhabited Item := ⟨noItem⟩
/-- Items in a slice of the call's own. -/
abbrev itR (g c : Nat) (d : Array Item) : Res := vecR 35 2 (.slice (some ⟨g, 0, none⟩) d.size c) d.size (vl IV d.toList)
abbrev cvB (b : Nat) : Value := .func (.func 73) #[.pointer (some ⟨b, 0, none⟩)] #[]
/-- What stands ahead of what. -/
noncomputable def ltM (m : RowsMK) : Item → Item → Bool := fun x y => decide (befM m x y < 0)
section
variable {w W : World} {F : Nat → Prop} {R : List Res} {b gc gd g c : Nat} {m : RowsMK} {q : RowsML} {d : Array Item}
theorem get_list (d : Array Item) {i : Nat} (hi : i < d.size) : d.toList[i]'(by simpa using hi) = d[i]! := by
  rw [getElem!_pos d i hi]; rfl
theorem Sts.itLoad (T : Sts w F W (itR g c d :: R)) {i : Nat} (hi : i < d.size) : loadVal Try.prog 35 2 W (.pointer (some ⟨g, i * 2, none⟩)) = .ok (.agg (IV d[i]!)) W := by
  have T' : Sts w F W (vecR 35 2 (.slice (some ⟨g, 0, none⟩) d.toList.length c) d.toList.length (vl IV d.toList) :: R) := T
  have hlen : d.toList.length ≤ 9223372036854775807 := by
    rcases T'.vec.2 with ⟨h, _⟩ | ⟨g', cap, cur, hv, _, _, hn, hm, _⟩
    · cases h
    · unfold maxLen at hm; omega
  obtain ⟨A, c', hv, hA, -, -⟩ := vec_rows TItem_size T' (by omega) hlen
  injection hv with e1 e2 e3
  subst e1
  have hld := hA.load (P := Try.prog) (T := 35) TItem_size TItem_und rfl (by kernel_rfl) (Below.refl _ _) rfl (show i < d.toList.length by simpa using hi)
  rw [add_none, Nat.zero_add, get_list d hi] at hld
  exact hld
theorem Sts.itSet (T : Sts w F W (itR g c d :: R)) {i : Nat} (hi : i < d.size) (x : Item) : ∃ W1, storeVal Try.prog 35 2 W (.pointer (some ⟨g, i * 2, none⟩)) (.agg (IV x)) = .ok () W1 ∧ Sts w F W1 (itR g c (d.setIfInBounds i x) :: R) := by
  have T' : Sts w F W (vecR 35 2 (.slice (some ⟨g, 0, none⟩) d.toList.length c) d.toList.length (vl IV d.toList) :: R) := T
  obtain ⟨g', c', cur, hv, hr, hs, hx⟩ := vec_at TItem_size T' (by omega) (show i < d.toList.length by simpa using hi)
  injection hv with e1 e2 e3
  injection e1 with e1
  injection e1 with e1
  subst e1
  have T1 := hx x
  have hsz : (IV x).size = 2 := rfl
  have hone : allOne (IV x) = true := TItem_one x
  have hd : d.toList.set i x = (d.setIfInBounds i x).toList := by simp
  refine ⟨W.setRow g (splice cur (i * 2) (IV x)), ?_, ?_⟩
  · show storeOf _ _ _ _ _ _ _ = _
    unfold storeOf
    rw [hr]
    simp only [hsz, hone, and_self, if_true]
    by_cases h0 : i * 2 = 0 ∧ cur.size = 2
    · rw [if_pos h0]
      have hZ : splice cur (i * 2) (IV x) = IV x := by
        rw [h0.1]
        refine append_of_gets (by rw [splice_size, h0.2]; rfl) fun q hq => ?_
        rw [splice_get, if_pos ⟨Nat.zero_le _, by omega, by omega⟩, Nat.sub_zero]
      rw [hZ]
    · rw [if_neg h0, if_pos hs]
  · rw [hd] at T1
    have hn : (d.setIfInBounds i x).size = d.size := by simp
    show Sts w F _ (vecR _ 2 (.slice _ (d.setIfInBounds i x).size c) (d.setIfInBounds i x).size _ :: R)
    rw [hn]
    exact T1
theorem set_set_swp (d : Array Item) (i j : Nat) : (d.setIfInBounds i d[j]!).setIfInBounds j d[i]! = swp d i j := rfl
theorem swp_sz (d : Array Item) (i j : Nat) : (swp d i j).size = d.size := by simp [swp]
end
end Go.Proofs.Ytnjgjhjilolanaa
/- Items in a slice of the call's own, sorted in their place by a graph's order: the insertion sort, walked. -/
namespace Go.Proofs.Ytnjgjhjilolanaa
open Go.RowKit Go.Shelf
open Go.Sort (swp insInner insOuter insertionSort)
set_option linter.unusedVariables false
set_option maxRecDepth 20000
attribute [local go_sem] row_alloc row_drew row_drewN row_ext row_setCell row_setRow size_ext setRow_alloc setRow_drew loadOf storeOf piece_lit loadVal_at storeVal_at allOne_lit buildOf buildRes_some
attribute [local go_sem high] cell_alloc frozen_alloc setCell_alloc cell_ext frozen_ext cell_setRow frozen_setRow
attribute [local go_sem ↓] TDeed_ld0 TDeed_st0 TDeed_fd0 TDeed_bd0
attribute [local go_sem] TDeed_size TDeed_one TDeed_piece TDeed_c0 TDeed_c1 TDeed_c2 TDeed_c3 TDeed_c4 TDeed_c5 TDeed_set_kind TDeed_set_key TDeed_set_val TDeed_set_ver TDeed_set_ses TDeed_set_num TDeed_ld TDeed_st TDeed_f_kind TDeed_f_key TDeed_f_val TDeed_f_ver TDeed_f_ses TDeed_f_num TDeed_bd TDeed_fl TDeed_fl_kind TDeed_fl_key TDeed_fl_val TDeed_fl_ver TDeed_fl_ses TDeed_fl_num
attribute [local go_sem high] TDeed_eql TDeed_neq
attribute [local go_sem ↓] index_deps0 load_deps0 store_deps0
attribute [local go_sem] DV_piece DV_size DV_one index_deps load_deps store_deps
attribute [local go_sem high] TDeps_eql TDeps_neq
attribute [local go_sem ↓] TCall_ld0 TCall_st0 TCall_fd0 TCall_bd0
attribute [local go_sem] TCall_size TCall_one TCall_piece TCall_c0 TCall_c1 TCall_c2 TCall_c3 TCall_c4 TCall_c5 TCall_c6 TCall_c7 TCall_c8 TCall_c9 TCall_c10 TCall_c11 TCall_c12 TCall_c13 TCall_p_deed TCall_put_deed TCall_p_deps TCall_put_deps TCall_set_seq TCall_ld TCall_st TCall_f_deed TCall_f_deps TCall_f_seq TCall_bd TCall_fl TCall_fl_deed TCall_fl_deps TCall_fl_seq
attribute [local go_sem high] TCall_eql TCall_neq
attribute [local go_sem ↓] TItem_ld0 TItem_st0 TItem_fd0 TItem_bd0
attribute [local go_sem] TItem_size TItem_one TItem_piece TItem_c0 TItem_c1 TItem_set_rep TItem_set_num TItem_ld TItem_st TItem_f_rep TItem_f_num TItem_bd TItem_fl TItem_fl_rep TItem_fl_num
attribute [local go_sem high] TItem_eql TItem_neq
section
variable {w W : World} {F : Nat → Prop} {R : List Res} {b gc gd g c : Nat} {m : RowsMK} {q : RowsML} {d : Array Item}
theorem insInner_size {lt : Item → Item → Bool} (a : Nat) : ∀ (j : Nat) (d : Array Item), (insInner lt a j d).size = d.size
  | 0, d => rfl
  | j + 1, d => by
    rw [insInner]
    split
    · rw [insInner_size a j, swp_sz]
    · rfl
theorem insOuter_size {lt : Item → Item → Bool} (a b : Nat) : ∀ (n i : Nat) (d : Array Item), b - i ≤ n → (insOuter lt a b i d).size = d.size
  | 0, i, d, h => by rw [insOuter, if_neg (by omega)]
  | n + 1, i, d, h => by
    rw [insOuter]
    split
    · rw [insOuter_size a b n _ _ (by omega), insInner_size]
    · rfl
theorem insertionSort_sz {lt : Item → Item → Bool} (d : Array Item) (a b : Nat) : (insertionSort lt d a b).size = d.size := insOuter_size a b _ _ d (Nat.le_refl _)
set_option maxHeartbeats 16000000 in
theorem insSortT (a z : Nat) (haz : a ≤ z) (hz : z ≤ d.size) (hsz : d.size ≤ 1000000) (hm : 0 ≤ m.n ∧ m.n ≤ 7) (T : Sts w F W (itR g c d :: (grL b gc gd m q ++ R))) :
    Calls Try.prog 74 #[.slice (some ⟨g, 0, none⟩) d.size c, .int .i64 a, .int .i64 z, cvB b] W fun e W' => e = .returned (.tuple #[]) ∧ Sts w F W' (itR g c (insertionSort (ltM m) d a z) :: (grL b gc gd m q ++ R)) := by
  obtain ⟨n, hn⟩ : ∃ n, n = d.size := ⟨_, rfl⟩
  have HN := Lib.hid hn
  have HT := Lib.hid T; clear T
  rw [← hn] at hz hsz
  have HB := Lib.hid (show insertionSort (ltM m) d a z = insOuter (ltM m) a z (a + 1) d from rfl)
  have hsl : (Value.slice (some ⟨g, 0, none⟩) d.size c) = .slice (some ⟨g, 0, none⟩) n c := by rw [hn]
  rw [hsl]
  clear hsl hn
  go_enter Try.func74, Try.ntmps74
  have hw1 : IntKind.i64.wrap ((a : Int) + 1) = ((a + 1 : Nat) : Int) := by rw [IntKind.wrap_i64] <;> omega
  go_wp2_with fail
  go_loopw [8] (fun i wr => ∃ (k : Nat) (e : Array Item), a + 1 ≤ k ∧ k ≤ z + 1 ∧ i = .int .i64 k ∧ e.size = n ∧ insOuter (ltM m) a z k e = insOuter (ltM m) a z (a + 1) d ∧ Sts w F wr (itR g c e :: (grL b gc gd m q ++ R))) (fun i _ => z + 1 - (intOf i).toNat)
  case atStart => exact ⟨a + 1, d, Nat.le_refl _, by omega, by first | rfl | go_num, HN.out.symm, rfl, HT.out⟩
  case round =>
    clear HT
    obtain ⟨k, e, hk1, hk2, rfl, hen, hE, T⟩ := hrel
    by_cases hkz : k < z
    · have hkz' : (k : Int) < (z : Int) := by omega
      rw [insOuter, if_pos hkz] at hE
      have HE := Lib.hid hE; have HT := Lib.hid T; have HEN := Lib.hid hen; clear T hE hen
      go_wp2_with fail
      go_loopw [9] (fun j wi => ∃ (l : Nat) (e1 : Array Item), l ≤ k ∧ j = .int .i64 l ∧ e1.size = n ∧ insInner (ltM m) a l e1 = insInner (ltM m) a k e ∧ Sts w F wi (itR g c e1 :: (grL b gc gd m q ++ R))) (fun j _ => (intOf j).toNat)
      case atStart => exact ⟨k, e, Nat.le_refl _, rfl, HEN.out, rfl, HT.out⟩
      case round =>
        obtain ⟨l, e1, hl, rfl, he1, hI, T⟩ := hrel
        clear HT HEN
        by_cases hla : a < l
        · obtain ⟨p, hp⟩ : ∃ p, l = p + 1 := ⟨l - 1, by omega⟩
          have hla' : (a : Int) < (l : Int) := by omega
          have hw : IntKind.i64.wrap ((l : Int) - 1) = (p : Int) := by rw [IntKind.wrap_i64] <;> omega
          have hl0 : (0 : Int) ≤ (l : Int) := by omega
          have hp0 : (0 : Int) ≤ (p : Int) := by omega
          have hln : (l : Int) < (n : Int) := by omega
          have hpn : (p : Int) < (n : Int) := by omega
          have hI2 : insInner (ltM m) a l e1 = if ltM m e1[l]! e1[p]! then insInner (ltM m) a p (swp e1 l p) else e1 := by
            subst hp
            rw [insInner]
            have : (decide (p + 1 > a)) = true := by simp; omega
            rw [this, Bool.true_and]
          have HI := Lib.hid (hI2.symm.trans hI)
          have HP := Lib.hid hp
          have HE1 := Lib.hid he1
          have FS : ∀ W' R', Sts w F W' (itR g c e1 :: R') → (loadVal Try.prog 35 2 W' (.pointer (some ⟨g, l * 2, none⟩)) = .ok (.agg (IV e1[l]!)) W' ∧ loadVal Try.prog 35 2 W' (.pointer (some ⟨g, p * 2, none⟩)) = .ok (.agg (IV e1[p]!)) W') := fun W' R' T => ⟨T.itLoad (by omega), T.itLoad (by omega)⟩
          have HFS := Lib.hid FS
          have HT := Lib.hid T.drew
          have S0 := FS _ _ HT.out
          have HC := Lib.hid (grBeforeR b gc gd m q hm e1[l]! e1[p]!)
          have HL := Lib.hid (show ltM m e1[l]! e1[p]! = decide (befM m e1[l]! e1[p]! < 0) from rfl)
          clear FS T hI hI2 hp he1 hla
          generalize befM m e1[l]! e1[p]! = cm at *
          go_upto_region 4 with fail
          refine wp_region_held_drew (S := fun W' => (loadVal Try.prog 35 2 W' (.pointer (some ⟨g, l * 2, none⟩)) = .ok (.agg (IV e1[l]!)) W' ∧ loadVal Try.prog 35 2 W' (.pointer (some ⟨g, p * 2, none⟩)) = .ok (.agg (IV e1[p]!)) W')) (by kernel_rfl) S0 (fun hHeld => ?_)
          clear S0
          refine tkH 0 rfl (v := ?_) ?_ ?_
          rotate_left
          · intro w h; (try dsimp only at h); go_simp; try with_reducible rfl
          simp only [Act.put, List.getElem_toArray, List.getElem_cons_zero, List.setIfInBounds_toArray, List.set_cons_zero, List.set_cons_succ]
          refine tkH 1 rfl (v := ?_) ?_ ?_
          rotate_left
          · intro w h; (try dsimp only at h); go_simp; try with_reducible rfl
          go_frame
          refine tkH 2 rfl (v := ?_) ?_ ?_
          rotate_left
          · intro w h; (try dsimp only at h); go_simp; try with_reducible rfl
          go_frame
          refine tkH 3 rfl (v := ?_) ?_ ?_
          rotate_left
          · intro w h; (try dsimp only at h); go_simp; try with_reducible rfl
          go_frame
          refine tkH 4 rfl (v := ?_) ?_ ?_
          rotate_left
          · intro w h; (try dsimp only at h); go_simp; try with_reducible rfl
          go_frame
          refine tkH 5 rfl (v := ?_) ?_ ?_
          rotate_left
          · intro w h; (try dsimp only at h); go_simp; try with_reducible rfl
          go_frame
          refine tkH 6 rfl (v := ?_) ?_ ?_
          rotate_left
          · intro w h; (try dsimp only at h); go_simp; try with_reducible rfl
          go_frame
          refine tkH 7 rfl (v := ?_) ?_ ?_
          rotate_left
          · intro w h; (try dsimp only at h); go_simp; try with_reducible rfl
          go_frame
          refine tkH 8 rfl (v := ?_) ?_ ?_
          rotate_left
          · intro w h; (try dsimp only at h); go_simp; try with_reducible rfl
          go_frame
          refine tkH 9 rfl (v := ?_) ?_ ?_
          rotate_left
          · intro w h; (try dsimp only at h); go_simp; try with_reducible rfl
          go_frame
          refine tkH 10 rfl (v := ?_) ?_ ?_
          rotate_left
          · intro w h; (try dsimp only at h); go_simp; try with_reducible rfl
          go_frame
          refine tkH 11 rfl (v := ?_) ?_ ?_
          rotate_left
          · intro w h; (try dsimp only at h); go_simp; try with_reducible rfl
          go_frame
          refine tkH 12 rfl (v := ?_) ?_ ?_
          rotate_left
          · intro w h; (try dsimp only at h); go_simp; try with_reducible rfl
          go_frame
          refine tkH 13 rfl (v := ?_) ?_ ?_
          rotate_left
          · intro w h; (try dsimp only at h); go_simp; try with_reducible rfl
          go_frame
          refine wpAnyH_ready (rs := [14]) (by kernel_rfl) (by simp) ?_
          refine AllReadyH.cons (o := _) rfl (fun K hK => ?_) AllReadyH.nil
          go_simp
          have TG : Sts w F wr.drew (itR g c e1 :: rowR b #[.pointer (some ⟨gc, 0, none⟩), .pointer (some ⟨gd, 0, none⟩)] :: rowsIRK gc m :: rowsIRL gd q :: R) := HT.out
          have TG2 := TG.ord [1, 2, 3, 0]
          refine (HC.out.at (R := itR g c e1 :: R) TG2).mono ?_
          clear TG TG2 HC
          rintro e5 w5 ⟨rfl, hb⟩
          have T := HT.out.pure hb
          clear hb HT
          have HT := Lib.hid T; clear T
          refine hK.out _ _ (HFS.out _ _ HT.out) (fun hHeld => ?_)
          clear hK K
          refine tkH 15 rfl (v := ?_) ?_ ?_
          rotate_left
          · intro w h; (try dsimp only at h); go_simp; try with_reducible rfl
          simp only [Act.put, List.getElem_toArray, List.getElem_cons_succ, List.getElem_cons_zero, List.setIfInBounds_toArray, List.set_cons_zero, List.set_cons_succ]
          refine tkH 16 rfl (v := ?_) ?_ ?_
          rotate_left
          · intro w h; (try dsimp only at h); go_simp; try with_reducible rfl
          go_frame
          refine wpAnyH_done (by kernel_rfl) ?_ _
          try simp only [Exit.then]
          cases hlt : decide (cm < 0)
          case false =>
            have hi := HI.out
            rw [HL.out, hlt, if_neg (by simp)] at hi
            have HI2 := Lib.hid hi; clear hi HI HL HFS HP
            go_wp2
            go_roundw
            case rel => exact ⟨k + 1, e1, by omega, by omega, by go_num, HE1.out, by rw [HI2.out]; exact HE.out, HT.out⟩
            case measure => simp [intOf]; omega
          case true =>
            have hi := HI.out
            rw [HL.out, hlt, if_pos rfl] at hi
            have HI2 := Lib.hid hi; clear hi HI HL
            go_upto_region 6 with fail
            have T := HT.out.drew
            have S0 := HFS.out _ _ T
            have hes : e1.size = n := HE1.out
            obtain ⟨w6, h6, T6⟩ := T.itSet (i := l) (by omega) e1[p]!
            obtain ⟨w7, h7, T7⟩ := T6.itSet (i := p) (by simp; omega) e1[l]!
            have HT7 := Lib.hid T7
            have HM := Lib.hid (show ∀ W' : World, (loadVal Try.prog 35 2 W' (.pointer (some ⟨g, l * 2, none⟩)) = .ok (.agg (IV e1[l]!)) W' ∧ loadVal Try.prog 35 2 W' (.pointer (some ⟨g, p * 2, none⟩)) = .ok (.agg (IV e1[p]!)) W') → True from fun _ _ => trivial)
            clear T T6 T7 HFS HT hes
            refine wp_region_stage (fun W' => (loadVal Try.prog 35 2 W' (.pointer (some ⟨g, l * 2, none⟩)) = .ok (.agg (IV e1[l]!)) W' ∧ loadVal Try.prog 35 2 W' (.pointer (some ⟨g, p * 2, none⟩)) = .ok (.agg (IV e1[p]!)) W')) (fun _ => True) 15 (by kernel_rfl) S0 (fun hHeld => ?_)
            clear S0
            refine tk0 0 rfl (v := ?_) ?_ ?_
            rotate_left
            · intro w h; (try dsimp only at h); go_simp; try with_reducible rfl
            simp only [Act.put, List.getElem_toArray, List.getElem_cons_zero, List.setIfInBounds_toArray, List.set_cons_zero, List.set_cons_succ]
            refine tk0 1 rfl (v := ?_) ?_ ?_
            rotate_left
            · intro w h; (try dsimp only at h); go_simp; try with_reducible rfl
            go_frame
            refine tk1 2 HM.out rfl (v := ?_) ?_ ?_
            rotate_left
            · intro w h; (try dsimp only at h); go_simp; try with_reducible rfl
            simp only [Act.put, List.getElem_toArray, List.getElem_cons_succ, List.getElem_cons_zero, List.setIfInBounds_toArray, List.set_cons_zero, List.set_cons_succ]
            refine tk1 3 HM.out rfl (v := ?_) ?_ ?_
            rotate_left
            · intro w h; (try dsimp only at h); go_simp; try with_reducible rfl
            go_frame
            refine tk1 4 HM.out rfl (v := ?_) ?_ ?_
            rotate_left
            · intro w h; (try dsimp only at h); go_simp; try with_reducible rfl
            go_frame
            refine tk0 5 rfl (v := ?_) ?_ ?_
            rotate_left
            · intro w h; (try dsimp only at h); go_simp; try with_reducible rfl
            simp only [Act.put, List.getElem_toArray, List.getElem_cons_succ, List.getElem_cons_zero, List.setIfInBounds_toArray, List.set_cons_zero, List.set_cons_succ]
            refine tk0 6 rfl (v := ?_) ?_ ?_
            rotate_left
            · intro w h; (try dsimp only at h); go_simp; try with_reducible rfl
            go_frame
            refine tk0 7 rfl (v := ?_) ?_ ?_
            rotate_left
            · intro w h; (try dsimp only at h); go_simp; try with_reducible rfl
            go_frame
            refine tk0 8 rfl (v := ?_) ?_ ?_
            rotate_left
            · intro w h; (try dsimp only at h); go_simp; try with_reducible rfl
            go_frame
            refine tk0 9 rfl (v := ?_) ?_ ?_
            rotate_left
            · intro w h; (try dsimp only at h); go_simp; try with_reducible rfl
            go_frame
            refine tk1 10 HM.out rfl (v := ?_) ?_ ?_
            rotate_left
            · intro w h; (try dsimp only at h); go_simp; try with_reducible rfl
            simp only [Act.put, List.getElem_toArray, List.getElem_cons_succ, List.getElem_cons_zero, List.setIfInBounds_toArray, List.set_cons_zero, List.set_cons_succ]
            refine tk1 11 HM.out rfl (v := ?_) ?_ ?_
            rotate_left
            · intro w h; (try dsimp only at h); go_simp; try with_reducible rfl
            go_frame
            refine tk1 12 HM.out rfl (v := ?_) ?_ ?_
            rotate_left
            · intro w h; (try dsimp only at h); go_simp; try with_reducible rfl
            go_frame
            refine tk0 13 rfl (v := ?_) ?_ ?_
            rotate_left
            · intro w h; (try dsimp only at h); go_simp; try with_reducible rfl
            simp only [Act.put, List.getElem_toArray, List.getElem_cons_succ, List.getElem_cons_zero, List.setIfInBounds_toArray, List.set_cons_zero, List.set_cons_succ]
            refine tk0 14 rfl (v := ?_) ?_ ?_
            rotate_left
            · intro w h; (try dsimp only at h); go_simp; try with_reducible rfl
            go_frame
            refine wpAnyL_ready (rs := [15]) (by kernel_rfl) (by simp) ?_
            refine AllReadyL.cons1 (o := _) rfl (by kernel_rfl) (fun K hK => ?_) AllReadyL.nil
            go_simp
            refine hK.out _ _ trivial (fun hHeld => ?_)
            clear hK K h6
            refine tk2 16 HM.out rfl (v := ?_) ?_ ?_
            rotate_left
            · intro w h; (try dsimp only at h); go_simp; try with_reducible rfl
            simp only [Act.put, List.getElem_toArray, List.getElem_cons_succ, List.getElem_cons_zero, List.setIfInBounds_toArray, List.set_cons_zero, List.set_cons_succ]
            refine wpAnyL_ready (rs := [17]) (by kernel_rfl) (by simp) ?_
            refine AllReadyL.cons1 (o := _) rfl (by kernel_rfl) (fun K hK => ?_) AllReadyL.nil
            go_simp
            refine hK.out _ _ trivial (fun hHeld => ?_)
            clear hK K h7
            refine wpAnyL_done (by kernel_rfl) ?_ _
            try simp only [Exit.then]
            go_wp2
            go_roundw
            case rel => exact ⟨p, swp e1 l p, by have := HP.out; omega, rfl, by rw [swp_sz]; exact HE1.out, HI2.out, HT7.out⟩
            case measure => have := HP.out; simp [intOf]; omega
        · have hla' : ¬ (a : Int) < (l : Int) := by omega
          have hI2 : insInner (ltM m) a l e1 = e1 := by
            cases l with
            | zero => rfl
            | succ l => rw [insInner, if_neg]; simp; omega
          rw [hI2] at hI
          have HI2 := Lib.hid hI; have HE1 := Lib.hid he1; have HT := Lib.hid T.drew; clear hI hI2 he1 T
          go_upto_region 4 with fail
          refine wp_region_held_drew (S := fun _ => True) (by kernel_rfl) trivial (fun hHeld => ?_)
          refine tkH 0 rfl (v := ?_) ?_ ?_
          rotate_left
          · intro w h; (try dsimp only at h); go_simp; try with_reducible rfl
          simp only [Act.put, List.getElem_toArray, List.getElem_cons_zero, List.setIfInBounds_toArray, List.set_cons_zero, List.set_cons_succ]
          refine tkH 1 rfl (v := ?_) ?_ ?_
          rotate_left
          · intro w h; (try dsimp only at h); go_simp; try with_reducible rfl
          go_frame
          refine tkH 2 rfl (v := ?_) ?_ ?_
          rotate_left
          · intro w h; (try dsimp only at h); go_simp; try with_reducible rfl
          go_frame
          refine tkH 3 rfl (v := ?_) ?_ ?_
          rotate_left
          · intro w h; (try dsimp only at h); go_simp; try with_reducible rfl
          go_frame
          refine skH 4 rfl ?_
          simp only [Act.put, List.getElem_toArray, List.getElem_cons_succ, List.getElem_cons_zero, List.setIfInBounds_toArray, List.set_cons_zero, List.set_cons_succ]
          refine skH 5 rfl ?_
          go_frame
          refine skH 6 rfl ?_
          go_frame
          refine skH 7 rfl ?_
          go_frame
          refine skH 8 rfl ?_
          go_frame
          refine skH 9 rfl ?_
          go_frame
          refine skH 10 rfl ?_
          go_frame
          refine skH 11 rfl ?_
          go_frame
          refine skH 12 rfl ?_
          go_frame
          refine skH 13 rfl ?_
          go_frame
          refine skH 14 rfl ?_
          go_frame
          refine skH 15 rfl ?_
          go_frame
          refine tkH 16 rfl (v := ?_) ?_ ?_
          rotate_left
          · intro w h; (try dsimp only at h); go_simp; try with_reducible rfl
          simp only [Act.put, List.getElem_toArray, List.getElem_cons_succ, List.getElem_cons_zero, List.setIfInBounds_toArray, List.set_cons_zero, List.set_cons_succ]
          refine wpAnyH_done (by kernel_rfl) ?_ _
          try simp only [Exit.then]
          go_wp2
          go_roundw
          case rel => exact ⟨k + 1, e1, by omega, by omega, by go_num, HE1.out, by rw [HI2.out]; exact HE.out, HT.out⟩
          case measure => simp [intOf]; omega
    · have hkz' : ¬ (k : Int) < (z : Int) := by omega
      rw [insOuter, if_neg hkz] at hE
      have HE := Lib.hid hE; have HT := Lib.hid T; have HEN := Lib.hid hen; clear T hE hen
      go_wp2
      go_end0
      refine ⟨rfl, ?_⟩
      rw [HB.out, ← HE.out]
      exact HT.out
end
end Go.Proofs.Ytnjgjhjilolanaa
/- How many bits a small number has. -/
namespace Go.Proofs.Ytnjgjhjilolanaa
open Go.RowKit
open Go.Sort (bitsLen)
theorem bitsLen_le : ∀ n : Fin 64, bitsLen n.val ≤ 6 := by decide +kernel
set_option maxRecDepth 2000 in
theorem len64T (k : Nat) (hk : k < 64) (w : World) : Calls Try.prog 83 #[.int .u64 k] w fun e w' => e = .returned (.int .i64 (bitsLen k)) ∧ w' = w := by
  have h1 : ¬ (4294967296 : Int) ≤ (k : Int) := by omega
  have h2 : ¬ (65536 : Int) ≤ (k : Int) := by omega
  have h3 : ¬ (256 : Int) ≤ (k : Int) := by omega
  go_enter Try.func83, Try.ntmps83
  go_upto_region 10 with fail
  go_step
  go_step
  go_step
  go_step
  go_step
  go_step
  go_step
  refine wpList_step (fun K hK => ?_)
  simp only [Region.wanted, reduceIte]
  go_step
  go_step
  refine wpList_step (fun K hK => ?_)
  simp only [Region.wanted, reduceIte]
  generalize hB : Value.string { data := List.toArray _ } = B at *
  have hx : ∀ w : World, (Instr.index 9 B (.int .u8 k)).run Try.prog w = .ok (.int .u8 (bitsLen k)) w := by
    intro w
    rw [← hB]
    clear hB hK h1 h2 h3
    iterate 64
      rcases k with _ | k
      · kernel_rfl
    omega
  clear hB
  have hl := bitsLen_le ⟨k, hk⟩
  simp only at hl
  go_simp
  go_wp2
  go_ret
  exact ⟨rfl, rfl⟩
end Go.Proofs.Ytnjgjhjilolanaa
/- Items in a slice of the call's own, sorted in their place by a graph's order: few of them; how many bits a number has. -/
namespace Go.Proofs.Ytnjgjhjilolanaa
open Go.RowKit Go.Shelf
open Go.Sort (swp insertionSort pdq bitsLen)
set_option linter.unusedVariables false
set_option maxRecDepth 20000
attribute [local go_sem] row_alloc row_drew row_drewN row_ext row_setCell row_setRow size_ext setRow_alloc setRow_drew loadOf storeOf piece_lit loadVal_at storeVal_at allOne_lit buildOf buildRes_some
attribute [local go_sem high] cell_alloc frozen_alloc setCell_alloc cell_ext frozen_ext cell_setRow frozen_setRow
attribute [local go_sem ↓] TDeed_ld0 TDeed_st0 TDeed_fd0 TDeed_bd0
attribute [local go_sem] TDeed_size TDeed_one TDeed_piece TDeed_c0 TDeed_c1 TDeed_c2 TDeed_c3 TDeed_c4 TDeed_c5 TDeed_set_kind TDeed_set_key TDeed_set_val TDeed_set_ver TDeed_set_ses TDeed_set_num TDeed_ld TDeed_st TDeed_f_kind TDeed_f_key TDeed_f_val TDeed_f_ver TDeed_f_ses TDeed_f_num TDeed_bd TDeed_fl TDeed_fl_kind TDeed_fl_key TDeed_fl_val TDeed_fl_ver TDeed_fl_ses TDeed_fl_num
attribute [local go_sem high] TDeed_eql TDeed_neq
attribute [local go_sem ↓] index_deps0 load_deps0 store_deps0
attribute [local go_sem] DV_piece DV_size DV_one index_deps load_deps store_deps
attribute [local go_sem high] TDeps_eql TDeps_neq
attribute [local go_sem ↓] TCall_ld0 TCall_st0 TCall_fd0 TCall_bd0
attribute [local go_sem] TCall_size TCall_one TCall_piece TCall_c0 TCall_c1 TCall_c2 TCall_c3 TCall_c4 TCall_c5 TCall_c6 TCall_c7 TCall_c8 TCall_c9 TCall_c10 TCall_c11 TCall_c12 TCall_c13 TCall_p_deed TCall_put_deed TCall_p_deps TCall_put_deps TCall_set_seq TCall_ld TCall_st TCall_f_deed TCall_f_deps TCall_f_seq TCall_bd TCall_fl TCall_fl_deed TCall_fl_deps TCall_fl_seq
attribute [local go_sem high] TCall_eql TCall_neq
attribute [local go_sem ↓] TItem_ld0 TItem_st0 TItem_fd0 TItem_bd0
attribute [local go_sem] TItem_size TItem_one TItem_piece TItem_c0 TItem_c1 TItem_set_rep TItem_set_num TItem_ld TItem_st TItem_f_rep TItem_f_num TItem_bd TItem_fl TItem_fl_rep TItem_fl_num
attribute [local go_sem high] TItem_eql TItem_neq
section
variable {w W : World} {F : Nat → Prop} {R : List Res} {b gc gd g c : Nat} {m : RowsMK} {q : RowsML} {d : Array Item}
theorem bitsLenT (k : Nat) (hk : k < 64) (w : World) : Calls Try.prog 69 #[.int .u64 k] w fun e w' => e = .returned (.int .i64 (bitsLen k)) ∧ w' = w := by
  go_enter Try.func69, Try.ntmps69
  go_wp2_with fail
  refine (len64T k hk _).mono ?_
  rintro e w5 ⟨rfl, rfl⟩
  go_wp2
  go_ret
  exact ⟨rfl, rfl⟩
theorem pdqSmallT {n : Nat} (hd : d.size = n) (a z lim : Nat) (haz : a ≤ z) (hz : z ≤ n) (h12 : z - a ≤ 12) (hn : n ≤ 1000000) (hm : 0 ≤ m.n ∧ m.n ≤ 7) (T : Sts w F W (itR g c d :: (grL b gc gd m q ++ R))) :
    Calls Try.prog 68 #[.slice (some ⟨g, 0, none⟩) n c, .int .i64 a, .int .i64 z, .int .i64 lim, cvB b] W fun e W' => e = .returned (.tuple #[]) ∧ Sts w F W' (itR g c (insertionSort (ltM m) d a z) :: (grL b gc gd m q ++ R)) := by
  have HT := Lib.hid T; clear T
  have HD := Lib.hid hd; clear hd
  have hl : (z : Int) - (a : Int) ≤ 12 := by omega
  have hw : IntKind.i64.wrap ((z : Int) - (a : Int)) = (z : Int) - (a : Int) := by rw [IntKind.wrap_i64] <;> omega
  go_enter Try.func68, Try.ntmps68
  go_wp2_with fail
  go_loopw [1, 2] (fun u1 u2 wr => u1 = .int .i64 a ∧ u2 = .int .i64 z ∧ Sts w F wr (itR g c d :: (grL b gc gd m q ++ R))) (fun _ _ _ => 0)
  case atStart => exact ⟨rfl, rfl, HT.out⟩
  case round =>
    obtain ⟨rfl, rfl, hrel⟩ := hrel
    have HT := Lib.hid hrel; clear hrel
    go_wp2_with fail
    have HI := insSortT (g := g) (c := c) (b := b) (d := d) a z haz (by rw [HD.out]; exact hz) (by rw [HD.out]; exact hn) hm HT.out
    rw [HD.out] at HI
    refine HI.mono ?_
    clear HI
    rintro e w5 ⟨rfl, T⟩
    have HT2 := Lib.hid T; clear T
    go_wp2
    try simp only [Exit.inBlock, Exit.then]
    refine bodyPost_ret (results_none rfl _ _ _) rfl ?_
    exact ⟨rfl, HT2.out⟩
/-- A graph's order sorts so many items. -/
def SortsTo (K : Nat) : Prop := ∀ (w W : World) (F : Nat → Prop) (R : List Res) (b gc gd g c : Nat) (m : RowsMK) (q : RowsML) (d : Array Item) (n : Nat), d.size = n → n ≤ K → (0 ≤ m.n ∧ m.n ≤ 7) → Sts w F W (itR g c d :: (grL b gc gd m q ++ R)) →
  Calls Try.prog 53 #[.slice (some ⟨g, 0, none⟩) n c, cvB b] W fun e W' => e = .returned (.tuple #[]) ∧ Sts w F W' (itR g c (pdq (ltM m) d 0 n (bitsLen n) true true) :: (grL b gc gd m q ++ R))
theorem sortSmallT {n : Nat} (hd : d.size = n) (h12 : n ≤ 12) (hm : 0 ≤ m.n ∧ m.n ≤ 7) (T : Sts w F W (itR g c d :: (grL b gc gd m q ++ R))) :
    Calls Try.prog 53 #[.slice (some ⟨g, 0, none⟩) n c, cvB b] W fun e W' => e = .returned (.tuple #[]) ∧ Sts w F W' (itR g c (insertionSort (ltM m) d 0 n) :: (grL b gc gd m q ++ R)) := by
  have HT := Lib.hid T; clear T
  have HD := Lib.hid hd; clear hd
  have hk : n < 64 := by omega
  have HB := Lib.hid (bitsLen_le ⟨n, hk⟩)
  go_enter Try.func53, Try.ntmps53
  go_wp2_with fail
  refine (bitsLenT n hk _).mono ?_
  rintro e w5 ⟨rfl, rfl⟩
  go_wp2_with fail
  refine (pdqSmallT HD.out 0 n (bitsLen n) (Nat.zero_le _) (Nat.le_refl _) (by omega) (by omega) hm HT.out).mono ?_
  rintro e w5 ⟨rfl, T⟩
  have HT2 := Lib.hid T; clear T HT
  go_wp2
  go_end0
  exact ⟨rfl, HT2.out⟩
theorem sorts12 : SortsTo 12 := by
  intro w W F R b gc gd g c m q d n hd h12 hm T
  have h := sortSmallT hd h12 hm T
  have e : pdq (ltM m) d 0 n (bitsLen n) true true = insertionSort (ltM m) d 0 n := by
    rw [pdq, if_pos (by omega)]
  rw [e]
  exact h
end
end Go.Proofs.Ytnjgjhjilolanaa
/- A graph's order of items is an order; what is sorted by it. No walk stands here. -/
namespace Go.Proofs.Ytnjgjhjilolanaa
open Go.RowKit
open Go.Sort (pdq bitsLen SWO PermIn SortedIn pdq_sorts)
set_option linter.unusedVariables false
noncomputable def sortM (m : RowsMK) (l : List Item) : List Item := (pdq (ltM m) l.toArray 0 l.length (bitsLen l.length) true true).toList
theorem IV_eq {x y : Item} (h : IV x = IV y) : x = y := by
  unfold IV at h
  obtain ⟨a, b⟩ := x
  obtain ⟨c, d⟩ := y
  simp at h
  obtain ⟨rfl, rfl⟩ := h
  rfl
theorem ltM_iff (m : RowsMK) (x y : Item) : ltM m x y = true ↔ seqK m x < seqK m y ∨ seqK m x = seqK m y ∧ (x.num < y.num ∨ x.num = y.num ∧ x.rep < y.rep) := by
  unfold ltM befM
  by_cases h : eqA (IV x) (IV y) = true
  · rw [if_pos h]
    have := IV_eq (eqA_iff.1 h)
    subst this
    simp
  · rw [if_neg h]
    by_cases hb : befB m x y = true
    · rw [if_pos hb]
      unfold befB at hb
      simp [lessI] at hb
      exact ⟨fun _ => hb, fun _ => by decide⟩
    · rw [if_neg hb]
      unfold befB at hb
      simp [lessI] at hb
      have : ¬ ((1:Int) < 0) := by omega
      simp only [this, decide_false, Bool.false_eq_true, false_iff]
      omega
theorem ltM_swo (m : RowsMK) : SWO (ltM m) where
  irrefl x := by
    cases h : ltM m x x with
    | false => rfl
    | true => rw [ltM_iff] at h; omega
  trans x y z h1 h2 := by
    rw [ltM_iff] at h1 h2 ⊢
    omega
  ntrans x y z h1 h2 := by
    rw [← Bool.not_eq_true, ltM_iff] at h1 h2 ⊢
    omega
theorem ltM_total (m : RowsMK) (x y : Item) (h1 : ltM m x y = false) (h2 : ltM m y x = false) : x = y := by
  rw [← Bool.not_eq_true, ltM_iff] at h1 h2
  obtain ⟨a, b⟩ := x
  obtain ⟨c, d⟩ := y
  simp only at h1 h2
  have e1 : b = d := by omega
  have e2 : a = c := by omega
  rw [e1, e2]
theorem pdqM_sorts (m : RowsMK) (l : List Item) : PermIn 0 l.length l.toArray (pdq (ltM m) l.toArray 0 l.length (bitsLen l.length) true true) ∧ SortedIn (ltM m) 0 l.length (pdq (ltM m) l.toArray 0 l.length (bitsLen l.length) true true) :=
  pdq_sorts (ltM m) (ltM_swo m) l.toArray 0 l.length _ true true (Nat.zero_le _) (by simp) (.inl rfl)
theorem pdqM_size (m : RowsMK) (d : Array Item) (k : Nat) (hk : d.size = k) : (pdq (ltM m) d 0 k (bitsLen k) true true).size = k := by
  subst hk
  have := (pdqM_sorts m d.toList).1.1
  simpa using this
theorem sortM_length (m : RowsMK) (l : List Item) : (sortM m l).length = l.length := by
  unfold sortM
  rw [Array.length_toList, pdqM_size m _ _ (by simp)]
theorem sortM_perm (m : RowsMK) (l : List Item) : (sortM m l).Perm l := by
  have h := (pdqM_sorts m l).1.2.2
  have hs := (pdqM_sorts m l).1.1
  unfold sortM
  generalize pdq (ltM m) l.toArray 0 l.length (bitsLen l.length) true true = d at *
  simp at hs
  rw [← hs] at h
  simp at h
  rw [List.take_of_length_le (by omega)] at h
  exact h
theorem sortM_sorted (m : RowsMK) (l : List Item) : ∀ i j (hi : i < j) (hj : j < (sortM m l).length), ltM m (sortM m l)[j] (sortM m l)[i] = false := by
  intro i j hij hj
  have hl := sortM_length m l
  have h := (pdqM_sorts m l).2 i j (Nat.zero_le _) hij (by omega)
  have h2 : ∀ (d : Array Item) (k : List Item), d.toList = k → ∀ (i j : Nat) (hi : i < k.length) (hj : j < k.length), ltM m d[j]! d[i]! = false → ltM m k[j] k[i] = false := by
    rintro d k rfl i j hi hj h
    rw [Array.length_toList] at hi hj
    rw [getElem!_pos d j hj, getElem!_pos d i hi] at h
    simpa using h
  exact h2 _ _ rfl i j (by rw [hl] at hj; rw [Array.length_toList]; unfold sortM at hl; rw [Array.length_toList] at hl; omega) hj h
end Go.Proofs.Ytnjgjhjilolanaa
