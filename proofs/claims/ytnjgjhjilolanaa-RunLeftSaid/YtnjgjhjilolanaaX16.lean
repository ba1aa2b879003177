/- Several texts in one. -/
import Derived.Test.YtnjgjhjilolanaaX15
import Derived.Test.YtnjgjhjilolanaaX4
/- Slices of items: where one stands, whether it does, and a copy. -/
namespace Go.Proofs.Ytnjgjhjilolanaa
open Go.RowKit Go.Shelf
set_option linter.unusedVariables false
set_option maxRecDepth 20000
attribute [local go_sem] row_alloc row_drew row_drewN row_ext row_setCell row_setRow size_ext setRow_alloc setRow_drew loadOf storeOf piece_lit loadVal_at storeVal_at allOne_lit buildOf buildRes_some
attribute [local go_sem high] cell_alloc frozen_alloc setCell_alloc cell_ext frozen_ext cell_setRow frozen_setRow
attribute [local go_sem ↓] TDeed_ld0 TDeed_st0 TDeed_fd0 TDeed_bd0
attribute [local go_sem] TDeed_size TDeed_one TDeed_piece TDeed_c0 TDeed_c1 TDeed_c2 TDeed_c3 TDeed_c4 TDeed_c5 TDeed_set_kind TDeed_set_key TDeed_set_val TDeed_set_ver TDeed_set_ses TDeed_set_num TDeed_ld TDeed_st TDeed_f_kind TDeed_f_key TDeed_f_val TDeed_f_ver TDeed_f_ses TDeed_f_num TDeed_bd TDeed_fl TDeed_fl_kind TDeed_fl_key TDeed_fl_val TDeed_fl_ver TDeed_fl_ses TDeed_fl_num
attribute [local go_sem high] TDeed_eql TDeed_neq
attribute [local go_sem ↓] index_deps0 load_deps0 store_deps0
attribute [local go_sem] DV_piece DV_size DV_one index_deps load_deps store_deps
attribute [local go_sem high] TDeps_eql TDeps_neq
attribute [local go_sem ↓] TCall_ld0 TCall_st0 TCall_fd0 TCall_bd0
attribute [local go_sem] TCall_size TCall_one TCall_piece TCall_c0 TCall_c1 TCall_c2 TCall_c3 TCall_c4 TCall_c5 TCall_c6 TCall_c7 TCall_c8 TCall_c9 TCall_c10 TCall_c11 TCall_c12 TCall_c13 TCall_p_deed TCall_put_deed TCall_p_deps TCall_put_deps TCall_set_seq TCall_ld TCall_st TCall_f_deed TCall_f_deps TCall_f_seq TCall_bd TCall_fl TCall_fl_deed TCall_fl_deps TCall_fl_seq
attribute [local go_sem high] TCall_eql TCall_neq
attribute [local go_sem ↓] TItem_ld0 TItem_st0 TItem_fd0 TItem_bd0
attribute [local go_sem] TItem_size TItem_one TItem_piece TItem_c0 TItem_c1 TItem_set_rep TItem_set_num TItem_ld TItem_st TItem_f_rep TItem_f_num TItem_bd TItem_fl TItem_fl_rep TItem_fl_num
attribute [local go_sem high] TItem_eql TItem_neq
attribute [local go_sem ↓] itm_slice0
/-- Where an item stands: as many as there are, if nowhere. -/
noncomputable def idxN (x : Item) (l : List Item) : Nat := l.findIdx fun y => eqA (IV x) (IV y)
noncomputable def idxI (x : Item) (l : List Item) : Int := if idxN x l < l.length then (idxN x l : Int) else -1
theorem itm_slice2 (w : World) : (buildSem 30 0 #[]).run Try.prog w = .ok (.slice (some ⟨w.heap.size, 0, none⟩) 0 0) (w.alloc (.cells #[] 35)) := by
  unfold buildSem
  kernel_rfl
attribute [local go_sem] itm_slice2
section
variable {w W : World} {F : Nat → Prop} {R : List Res}
set_option maxHeartbeats 4000000 in
theorem indexR (v : Value) (l : List Item) (hl : l.length ≤ 1000000) (x : Item) : Reads Try.prog 71 #[v, .agg (IV x)] [vecR 35 2 v l.length (vl IV l)] (.int .i64 (idxI x l)) := by
  intro W G hS
  have T := (Sts.start0 W).new (IV x) 35
  have TS : Sts W G W [vecR 35 2 v l.length (vl IV l)] := Sts.start hS
  obtain ⟨A, c, rfl, hA, hlc, hA0⟩ := vec_rows TItem_size TS (by omega) (by omega)
  have hA1 : A = none ∨ ∃ g, A = some ⟨g, 0, none⟩ := by
    cases hh : A with
    | none => exact .inl rfl
    | some a => obtain ⟨g, rfl⟩ := hA0 a hh; exact .inr ⟨g, rfl⟩
  rcases hA1 with rfl | ⟨g, rfl⟩
  · have := hA.nil rfl
    subst this
    have HT := Lib.hid T; clear T TS hS hA hA0 hlc
    go_enter Try.func71, Try.ntmps71
    go_wp2_with fail
    go_loopw [8] (fun u8 wr => u8 = .int .i64 0 ∧ Sts W (fun _ => False) wr [rowR W.heap.size (IV x)]) (fun _ _ => 0)
    case atStart => exact ⟨rfl, HT.out⟩
    case round =>
      obtain ⟨rfl, T1⟩ := hrel
      have HT1 := Lib.hid T1; clear T1
      go_wp2
      go_ret
      exact ⟨rfl, HT1.out.below⟩
  · have FL : ∀ W' R', Sts W (fun _ => False) W' R' → ∀ (k : Nat) (y : Item), l[k]? = some y → loadVal Try.prog 35 2 W' (.pointer (some ⟨g, k * 2, none⟩)) = .ok (.agg (IV y)) W' := fun W' R' T k y hk => by
      obtain ⟨hk1, rfl⟩ := List.getElem?_eq_some_iff.1 hk
      have h := hA.load (P := Try.prog) (T := 35) TItem_size TItem_und rfl (by kernel_rfl) T.below rfl hk1
      rw [add_none, Nat.zero_add] at h
      exact h
    have HFL := Lib.hid FL; have HT := Lib.hid T
    clear FL T TS hS hA hA0
    obtain ⟨n, hn⟩ : ∃ n, n = l.length := ⟨_, rfl⟩
    rw [← hn] at hl hlc
    have HN := Lib.hid hn
    have hsl : (Value.slice (some ⟨g, 0, none⟩) l.length c) = .slice (some ⟨g, 0, none⟩) n c := by rw [hn]
    rw [hsl]; clear hsl hn
    obtain ⟨vr, hvr⟩ : ∃ vr, vr = idxI x l := ⟨_, rfl⟩
    rw [← hvr]
    have HV := Lib.hid hvr; clear hvr
    go_enter Try.func71, Try.ntmps71
    go_wp2_with fail
    generalize W.heap.size = gx at *
    go_loopw [8] (fun u8 wr => ∃ k : Nat, u8 = .int .i64 k ∧ k ≤ n ∧ (∀ j y, j < k → l[j]? = some y → eqA (IV x) (IV y) = false) ∧ Sts W (fun _ => False) wr [rowR gx (IV x)]) (fun u8 _ => n - (intOf u8).toNat)
    case atStart => exact ⟨0, rfl, by omega, fun j y hj => by omega, HT.out⟩
    case round =>
      clear HT
      obtain ⟨k, rfl, hk, hno, T1⟩ := hrel
      have HNO := Lib.hid hno; clear hno
      by_cases hkn : k < n
      · have hk1 : (k : Int) < (n : Int) := by omega
        have hk0 : (0 : Int) ≤ (k : Int) := by omega
        obtain ⟨y, hy⟩ : ∃ y, l[k]? = some y := ⟨l[k]'(by rw [← HN.out]; exact hkn), List.getElem?_eq_getElem _⟩
        have HY := Lib.hid hy
        have HT1 := Lib.hid T1.drew
        have S0 : (fun W' => row? W' gx = some (IV x) ∧ loadVal Try.prog 35 2 W' (.pointer (some ⟨g, k * 2, none⟩)) = .ok (.agg (IV y)) W') wr.drew := ⟨HT1.out.row, HFL.out _ _ HT1.out k y hy⟩
        clear T1 hy
        go_upto_region 4 with fail
        refine wp_region_held_drew (S := fun W' => row? W' gx = some (IV x) ∧ loadVal Try.prog 35 2 W' (.pointer (some ⟨g, k * 2, none⟩)) = .ok (.agg (IV y)) W') (by kernel_rfl) S0 (fun hHeld => ?_)
        clear S0
        refine wpAnyH_take (i := 0) (oi := _) (v := ?_) rfl (by kernel_rfl) (by kernel_rfl) (by kernel_rfl) (fun _ _ _ h => h) (Or.inl ⟨by kernel_rfl, ?_⟩) (by assumption) ?_
        rotate_left
        · (intro w hSw; (try dsimp only at hSw); go_simp; try (with_reducible rfl))
        simp only [Act.put, List.getElem_toArray, List.getElem_cons_zero, List.setIfInBounds_toArray, List.set_cons_zero, List.set_cons_succ]
        refine wpAnyH_take (i := 1) (oi := _) (v := ?_) rfl (by kernel_rfl) (by kernel_rfl) (by kernel_rfl) (fun _ _ _ h => h) (Or.inl ⟨by kernel_rfl, ?_⟩) (by assumption) ?_
        rotate_left
        · (intro w hSw; (try dsimp only at hSw); go_simp; try (with_reducible rfl))
        simp only [Act.put, List.getElem_toArray, List.getElem_cons_succ, List.getElem_cons_zero, List.setIfInBounds_toArray, List.set_cons_zero, List.set_cons_succ]
        refine wpAnyH_take (i := 2) (oi := _) (v := ?_) rfl (by kernel_rfl) (by kernel_rfl) (by kernel_rfl) (fun _ _ _ h => h) (Or.inl ⟨by kernel_rfl, ?_⟩) (by assumption) ?_
        rotate_left
        · (intro w hSw; (try dsimp only at hSw); go_simp; try (with_reducible rfl))
        simp only [Act.put, List.getElem_toArray, List.getElem_cons_succ, List.getElem_cons_zero, List.setIfInBounds_toArray, List.set_cons_zero, List.set_cons_succ]
        refine wpAnyH_take (i := 3) (oi := _) (v := ?_) rfl (by kernel_rfl) (by kernel_rfl) (by kernel_rfl) (fun _ _ _ h => h) (Or.inl ⟨by kernel_rfl, ?_⟩) (by assumption) ?_
        rotate_left
        · (intro w hSw; (try dsimp only at hSw); go_simp; try (with_reducible rfl))
        simp only [Act.put, List.getElem_toArray, List.getElem_cons_succ, List.getElem_cons_zero, List.setIfInBounds_toArray, List.set_cons_zero, List.set_cons_succ]
        refine wpAnyH_take (i := 4) (oi := _) (v := ?_) rfl (by kernel_rfl) (by kernel_rfl) (by kernel_rfl) (fun _ _ _ h => h) (Or.inl ⟨by kernel_rfl, ?_⟩) (by assumption) ?_
        rotate_left
        · (intro w hSw; (try dsimp only at hSw); go_simp; try (with_reducible rfl))
        simp only [Act.put, List.getElem_toArray, List.getElem_cons_succ, List.getElem_cons_zero, List.setIfInBounds_toArray, List.set_cons_zero, List.set_cons_succ]
        refine wpAnyH_take (i := 5) (oi := _) (v := ?_) rfl (by kernel_rfl) (by kernel_rfl) (by kernel_rfl) (fun _ _ _ h => h) (Or.inl ⟨by kernel_rfl, ?_⟩) (by assumption) ?_
        rotate_left
        · (intro w hSw; (try dsimp only at hSw); go_simp; try (with_reducible rfl))
        simp only [Act.put, List.getElem_toArray, List.getElem_cons_succ, List.getElem_cons_zero, List.setIfInBounds_toArray, List.set_cons_zero, List.set_cons_succ]
        refine wpAnyH_done (by kernel_rfl) ?_ _
        try simp only [Exit.then]
        cases he : eqA (IV x) (IV y)
        case true =>
          have hv : vr = (k : Int) := by
            have hf : idxN x l = k := by
              unfold idxN
              obtain ⟨hkl, rfl⟩ := List.getElem?_eq_some_iff.1 HY.out
              rw [List.findIdx_eq hkl]
              exact ⟨he, fun j hj => HNO.out j _ hj (List.getElem?_eq_getElem _)⟩
            rw [HV.out, idxI, hf, if_pos (by rw [← HN.out]; exact hkn)]
          have HVV := Lib.hid hv
          clear hv
          go_wp2
          go_ret
          exact ⟨by rw [HVV.out]; rfl, HT1.out.below⟩
        case false =>
          go_wp2
          go_roundw
          case rel => exact ⟨k + 1, by go_num, by omega, fun j z hj hz => by
            rcases Nat.lt_succ_iff_lt_or_eq.1 hj with h | h
            · exact HNO.out j z h hz
            · subst h; rw [HY.out] at hz; injection hz with hz; subst hz; exact he, HT1.out⟩
          case measure => simp [intOf]; omega
      · have hk1 : ¬ (k : Int) < (n : Int) := by omega
        have HT1 := Lib.hid T1; clear T1
        have hv : vr = -1 := by
          have hf : idxN x l = l.length := by
            unfold idxN
            rw [List.findIdx_eq_length]
            intro z hz
            obtain ⟨j, hj, rfl⟩ := List.getElem_of_mem hz
            exact HNO.out j _ (by rw [← HN.out] at hj; omega) (List.getElem?_eq_getElem hj)
          rw [HV.out, idxI, hf, if_neg (by omega)]
        have HVV := Lib.hid hv
        clear hv
        go_wp2
        go_ret
        exact ⟨by rw [HVV.out]; rfl, HT1.out.below⟩
theorem containsR (v : Value) (l : List Item) (hl : l.length ≤ 1000000) (x : Item) : Reads Try.prog 59 #[v, .agg (IV x)] [vecR 35 2 v l.length (vl IV l)] (.bool (decide (0 ≤ idxI x l))) := by
  intro W G hS
  have T := (Sts.start0 W).new (IV x) 35
  have TS : Sts W G W [vecR 35 2 v l.length (vl IV l)] := Sts.start hS
  have HI := Lib.hid ((indexR v l hl x).at1 (TS.pure T.below))
  have hr := T.row; have hlt := row_lt hr
  have HT := Lib.hid T
  clear T TS hS
  generalize idxI x l = ii at *
  go_enter Try.func59, Try.ntmps59
  go_wp2_with fail
  refine HI.out.mono ?_
  clear HI hr hlt
  rintro e w5 ⟨rfl, hb⟩
  have HT2 := Lib.hid (HT.out.pure hb)
  clear hb HT
  go_wp2
  go_ret
  exact ⟨rfl, HT2.out.below⟩
theorem cloneT {l : List Item} {g k n c : Nat} (hn : l.length = n) (hl : n ≤ 1000000) (h0 : 0 < n) (hc : ∀ j y, l[j]? = some y → W.cell? ⟨g, k + j * 2, none⟩ = some (.int .i64 y.rep) ∧ W.cell? ⟨g, k + j * 2 + 1, none⟩ = some (.int .i64 y.num)) (T : Sts w F W R) :
    Calls Try.prog 56 #[.slice (some ⟨g, k, none⟩) n c] W fun e W' => ∃ g1 c1, e = .returned (.slice (some ⟨g1, 0, none⟩) n c1) ∧ Sts w F W' (vecR 35 2 (.slice (some ⟨g1, 0, none⟩) n c1) n (vl IV l) :: R) := by
  have HC := Lib.hid hc
  have T1 : Sts w F (W.alloc (.cells #[] 35)) (vecR 35 2 (.slice (some ⟨W.heap.size, 0, none⟩) 0 0) 0 [] :: R) := T.vecNew #[] _ _ _ rfl (by omega)
  have HT := Lib.hid T1
  clear hc T T1
  go_enter Try.func56, Try.ntmps56
  have hnil : ∀ w : World, (binOp .eql 30 (.slice (some ⟨g, k, none⟩) n c) (.slice none 0 0)).run Try.prog w = .ok (.bool false) w := fun w => by kernel_rfl
  obtain ⟨i0, hi, hz0, hz1, hz2⟩ := itm_i
  have hnews : ∀ j u, (vl IV l)[j]? = some u → W.cell? ((⟨g, k, none⟩ : Addr).add j) = some u := fun j u hj => by
    have hjl : j < l.length * 2 := by
      have := (List.getElem?_eq_some_iff.1 hj).1
      unfold vl at this
      rw [Array.length_toList, flatV_size TItem_size] at this
      exact this
    have hq : j / 2 < l.length := by omega
    have h2 := flatV_get TItem_size l (j / 2) hq (j % 2) (by omega)
    have hjj : j / 2 * 2 + j % 2 = j := by omega
    rw [hjj] at h2
    unfold vl at hj
    rw [Array.getElem?_toList, h2] at hj
    obtain ⟨c0, c1⟩ := HC.out (j / 2) l[j / 2] (List.getElem?_eq_getElem hq)
    rw [add_none]
    rcases Nat.mod_two_eq_zero_or_one j with h | h
    · rw [h] at hj
      rw [show k + j = k + j / 2 * 2 by omega, c0]
      exact hj
    · rw [h] at hj
      rw [show k + j = k + j / 2 * 2 + 1 by omega, c1]
      exact hj
  have hone : ∀ u ∈ vl IV l, u.oneCell' = true := fun u hu => by
    obtain ⟨j, hj⟩ := List.getElem?_of_mem hu
    have hjl : j < l.length * 2 := by
      have := (List.getElem?_eq_some_iff.1 hj).1
      unfold vl at this
      rw [Array.length_toList, flatV_size TItem_size] at this
      exact this
    have hq : j / 2 < l.length := by omega
    have h2 := flatV_get TItem_size l (j / 2) hq (j % 2) (by omega)
    rw [show j / 2 * 2 + j % 2 = j by omega] at h2
    unfold vl at hj
    rw [Array.getElem?_toList, h2] at hj
    have hm := List.mem_of_getElem? (l := (IV l[j / 2]).toList) (i := j % 2) (by rw [Array.getElem?_toList]; exact hj)
    exact itm_one _ _ hm
  have HNW := Lib.hid hnews; have HONE := Lib.hid hone
  have hlen : (vl IV l).length = n * 2 := by unfold vl; rw [Array.length_toList, flatV_size TItem_size, hn]
  have HLEN := Lib.hid hlen
  have h63 : n ≤ maxLen := by unfold maxLen; omega
  clear hnews hone hlen hn
  go_wp2_with (at_builtin; refine wpList_append_vec rfl _ _ 30 rfl 35 i0 _ 2 16 Try.underlying30 hi hz0 hz1 hz2 rfl (by omega) _ 0 [] rfl HT.out ⟨g, k, none⟩ n c (vl IV l) rfl HLEN.out ?c0 HONE.out ?c3 ?c4 ?_)
  case c0 =>
    intro j u hj
    have h1 := HNW.out j u hj
    exact (((Below.refl W.heap.size W).alloc (Nat.le_refl _) (.cells #[] 35)).cell (World.block_lt_of_cell? W _ h1)).trans h1
  case c3 => omega
  case c4 => omega
  intro v' w' T2
  have hsh : ∃ g1 c1, v' = .slice (some ⟨g1, 0, none⟩) n c1 := by
    rcases T2.vec.2 with ⟨rfl, h⟩ | ⟨g1, cap, cur, rfl, _⟩
    · omega
    · exact ⟨g1, cap, rfl⟩
  obtain ⟨g1, c1, rfl⟩ := hsh
  have HT2 := Lib.hid T2
  clear T2 HT HNW HONE HLEN hi hz0 hz1 hz2
  go_wp2
  go_ret
  exact ⟨g1, c1, rfl, HT2.out⟩
end
end Go.Proofs.Ytnjgjhjilolanaa
