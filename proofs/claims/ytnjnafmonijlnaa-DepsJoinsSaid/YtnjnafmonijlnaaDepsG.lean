import Derived.Test.YtnjnafmonijlnaaDepsD
import Derived.Test.YtnjnafmonijlnaaDepsB
import Derived.Test.YtnjnafmonijlnaaKitb
import Derived.Deep.DeepCutAuto
namespace Go.Proofs.Ytnjnafmonijlnaa
open Go.RowKit
attribute [local go_sem] row_alloc row_drew row_drewN row_ext row_setCell row_setRow size_ext setRow_alloc setRow_drew loadOf storeOf piece_lit DV_piece loadVal_at storeVal_at allOne_lit DV_size DV_one
attribute [local go_sem high] cell_alloc frozen_alloc setCell_alloc cell_ext frozen_ext
attribute [local go_sem ↓] index_deps0 load_deps0 store_deps0 slice_deps0
attribute [local go_sem] index_deps load_deps store_deps slice_deps2 slice_deps3 LV_size


attribute [local go_sem high] run_eql_deps

/-! plain facts on rows -/
theorem rjoin_comm (a b : Nat → Int) : rjoin a b = rjoin b a := by funext i; unfold rjoin; omega
theorem joinL_three (a b c : Nat → Int) : joinL [a, b, c] = rjoin (rjoin a b) c := by
  funext i; simp only [joinL, List.foldl, join2, rjoin]; omega
theorem joinL_rev (a b c : Nat → Int) : joinL [c, b, a] = joinL [a, b, c] := by
  funext i; simp only [joinL, List.foldl, join2]; omega
theorem within_all (a b c : Nat → Int) : eqD (rjoin a (joinL [a, b, c])) (joinL [a, b, c]) = true := by
  rw [eqD_iff]; intro i _; simp only [joinL, List.foldl, join2, rjoin]; omega
theorem within_all3 (a b c : Nat → Int) : eqD (rjoin c (joinL [a, b, c])) (joinL [a, b, c]) = true := by
  rw [eqD_iff]; intro i _; simp only [joinL, List.foldl, join2, rjoin]; omega
theorem zeros_deps : #[Value.int .i64 0, Value.int .i64 0, Value.int .i64 0, Value.int .i64 0, Value.int .i64 0, Value.int .i64 0, Value.int .i64 0] = DV fun _ => 0 := rfl
attribute [local go_sem] zeros_deps
def lowTo (k : Nat) (b : Nat → Int) : Bool := (List.range k).any fun i => decide (b i < 0)
theorem lowTo_succ (k : Nat) (b : Nat → Int) : lowTo (k + 1) b = (lowTo k b || decide (b k < 0)) := by
  simp [lowTo, List.range_succ]
theorem within_is (a b : Nat → Int) : eqD (rjoin a b) b = (eqD (rjoin (rjoin a a) b) b && !(lowTo 7 b)) := by
  have e : rjoin (rjoin a a) b = rjoin a b := by funext i; unfold rjoin; omega
  rw [e]
  cases h : eqD (rjoin a b) b
  · rfl
  · rw [eqD_iff] at h
    have : lowTo 7 b = false := by
      unfold lowTo
      rw [List.any_eq_false]
      intro i hi
      have hi : i < 7 := by simpa using hi
      have := h i hi
      unfold rjoin at this
      simp; omega
    rw [this]; rfl
theorem join_two' (a b : Nat → Int) (W : World) (g cap : Nat) (hg : row? W g = some (LV [a, b])) : Calls Try.prog 19 #[.slice (some ⟨g, 0, none⟩) 2 cap] W fun e w' => e = .returned (.agg (DV (rjoin a b))) ∧ Below W.heap.size W w' :=
  (join_any [a, b] W g cap (by simp) hg).mono fun _ _ ⟨he, hb⟩ => ⟨he, hb⟩
theorem join_three' (a b c : Nat → Int) (W : World) (g cap : Nat) (hg : row? W g = some (LV [a, b, c])) : Calls Try.prog 19 #[.slice (some ⟨g, 0, none⟩) 3 cap] W fun e w' => e = .returned (.agg (DV (joinL [a, b, c]))) ∧ Below W.heap.size W w' :=
  (join_any [a, b, c] W g cap (by simp) hg).mono fun _ _ ⟨he, hb⟩ => ⟨he, hb⟩
set_option maxHeartbeats 2000000 in
theorem law_joins (a b c : Nat → Int) (n : Int) : Ans Try.prog 6 #[.agg (DV a), .agg (DV b), .agg (DV c), .int .i64 n] (.bool true) := by
  intro w
  obtain ⟨j, hj⟩ : ∃ j, j = rjoin a b := ⟨_, rfl⟩
  obtain ⟨al, hal⟩ : ∃ al, al = joinL [a, b, c] := ⟨_, rfl⟩
  obtain ⟨z, hz⟩ : ∃ z, z = rjoin a a := ⟨_, rfl⟩
  have c1 := fun (g cap : Nat) (W : World) => join_two' a b W g cap
  have c2 := fun (g cap : Nat) (W : World) => join_three' a b c W g cap
  have c3 := rjoin_any a a
  have c4 := rjoin_any z b
  rw [← hj] at c1; rw [← hal] at c2; rw [← hz] at c3
  have hwi := within_is a b
  rw [← hz, ← hj] at hwi
  have C1 := Lib.hid c1; have C2 := Lib.hid c2; have C3 := Lib.hid c3; have C4 := Lib.hid c4; have Hj := Lib.hid hj; have Hal := Lib.hid hal; have Hwi := Lib.hid hwi
  clear c1 c2 c3 c4 hj hal hz hwi
  go_enter Try.func6, Try.ntmps6
  go_wp2_with fail
  have T := ((St.start w).new (DV a) 23).new (DV b) 23 |>.new (DV c) 23
  refine (alive5 _).mono ?_
  rintro e w1 ⟨rfl, hb⟩
  replace T := T.call hb; clear hb
  have k := T.2; simp only [Knows, World.size_alloc] at k T
  go_wp2_with fail
  refine (C1.out _ _ _ (by go_simp)).mono ?_
  rintro e w2 ⟨rfl, hb⟩
  replace T := (T.keep _).call hb; clear hb k
  have k := T.2; simp only [Knows] at k
  go_wp2_with fail
  refine (C2.out _ _ _ (by go_simp)).mono ?_
  rintro e w3 ⟨rfl, hb⟩
  replace T := ((T.new _ _).keep _).call hb; clear hb k
  have k := T.2; simp only [Knows] at k
  go_wp2_with fail
  refine (C3.out _).mono ?_
  rintro e w4 ⟨rfl, hb⟩
  replace T := (T.new _ _).call hb; clear hb k
  have k := T.2; simp only [Knows] at k
  go_wp2_with fail
  replace T := T.new (DV z) 23; clear k
  refine forget (fun W => St w W _) T ?_
  clear T
  rintro w5 T
  have k := T.2; simp only [Knows] at k
  have hlow0 : lowTo 0 b = false := rfl
  go_loop [12, 29] (fun s i => ∃ m : Nat, m ≤ 7 ∧ i = .int .i64 m ∧ s = .bool (lowTo m b)) (fun _ i => 7 - (intOf i).toNat)
  case atStart => exact ⟨0, by omega, rfl, rfl⟩
  case round =>
    obtain ⟨m, hm, rfl, rfl⟩ := hrel
    by_cases hm7 : m < 7
    · have hD := DV_get b m hm7
      have hcell := row_cell k.2.2.2.2.1.1
      have hs := lowTo_succ m b
      have Hs := Lib.hid hs; clear hs
      cases hlo : lowTo m b
      · rw [hlo] at Hs
        go_wp2
        go_round
        case rel => exact ⟨m + 1, by omega, by go_num, congrArg Value.bool (by rw [Hs.out]; simp)⟩
        case measure => simp [intOf]; omega
      · rw [hlo] at Hs
        go_wp2
        go_round
        case rel => exact ⟨m + 1, by omega, by go_num, congrArg Value.bool (by rw [Hs.out]; simp)⟩
        case measure => simp [intOf]; omega
    · obtain rfl : m = 7 := by omega
      go_upto_region 12 with fail
      obtain ⟨L, hL⟩ : ∃ L, L = [(w4.heap.size, DV z), (w3.heap.size, DV al), (w2.heap.size, DV j), (w.heap.size + 1 + 1, DV c), (w.heap.size + 1, DV b), (w.heap.size, DV a)] := ⟨_, rfl⟩
      rw [← hL] at T
      have HL := Lib.hid hL; clear hL
      have R1 : Hid (Ans Try.prog 21 #[.agg (DV a), .agg (DV b)] (.agg (DV j))) := by rw [Hj.out]; exact rjoin_any a b
      have R2 : Hid (Ans Try.prog 21 #[.agg (DV j), .agg (DV c)] (.agg (DV al))) := by rw [Hal.out, joinL_three, ← Hj.out]; exact rjoin_any j c
      have R3 : Hid (∀ (W : World) (g cap : Nat), row? W g = some (LV [b, a]) → Calls Try.prog 19 #[.slice (some ⟨g, 0, none⟩) 2 cap] W fun e w' => e = .returned (.agg (DV j)) ∧ Below W.heap.size W w') := by rw [Hj.out, rjoin_comm]; exact join_two' b a
      have R4 : Hid (∀ (W : World) (g cap : Nat), row? W g = some (LV [c, b, a]) → Calls Try.prog 19 #[.slice (some ⟨g, 0, none⟩) 3 cap] W fun e w' => e = .returned (.agg (DV al)) ∧ Below W.heap.size W w') := by rw [Hal.out, ← joinL_rev]; exact join_three' c b a
      have R5 : Hid (Ans Try.prog 24 #[.agg (DV a), .agg (DV b)] (.bool (eqD j b))) := by rw [Hj.out]; exact within_any a b
      have R6 : Hid (Ans Try.prog 24 #[.agg (DV a), .agg (DV al)] (.bool true)) := by have := within_any a al; rw [Hal.out, within_all] at this; rw [Hal.out]; exact this
      have R7 : Hid (Ans Try.prog 24 #[.agg (DV c), .agg (DV al)] (.bool true)) := by have := within_any c al; rw [Hal.out, within_all3] at this; rw [Hal.out]; exact this
      have hself : ∀ d, eqD d d = true := eqD_self
      go_cut [12, 14] (fun _ v W => v = .bool (eqD j b) ∧ St w W L)
      case first =>
        clear R1 R2 R3 R4 R5 R6 R7 hself
        cases hE : eqD (rjoin z b) b
        · refine wp_region_ext (by kernel_rfl) (by kernel_rfl) ?_
          repeat (go_big_quiet_step (first | (go_at_call 21; with_reducible exact C4.out.quiet)))
          refine wpQuiet_nil ?_
          rintro _ ⟨x6, rfl⟩
          simp only [Exit.then]
          go_step
          go_meet
          case rel => exact ⟨congrArg Value.bool (by rw [Hwi.out, hE]; rfl), T.ext x6⟩
        · cases hlo : lowTo 7 b
          all_goals
            refine wp_region_ext (by kernel_rfl) (by kernel_rfl) ?_
            repeat (go_big_quiet_step (first | (go_at_call 21; with_reducible exact C4.out.quiet)))
            refine wpQuiet_nil ?_
            rintro _ ⟨x6, rfl⟩
            simp only [Exit.then]
            go_step
            go_meet
            case rel => exact ⟨congrArg Value.bool (by rw [Hwi.out, hE, hlo]; rfl), T.ext x6⟩
      case rest =>
        obtain ⟨rfl, T6⟩ := hcut
        have hbb : (eqD j b == eqD j b) = true := by simp
        generalize eqD j b = wi at *
        clear T k Hwi C1 C2 C3 C4 Hj Hal hlow0
        have q1 : ∀ W, St w W L → row? W w3.heap.size = some (DV al) := fun W h => by rw [HL.out] at h; exact h.2.2.1.1
        have q2 : ∀ W, St w W L → row? W w2.heap.size = some (DV j) := fun W h => by rw [HL.out] at h; exact h.2.2.2.1.1
        have q3 : ∀ W, St w W L → row? W (w.heap.size + 1 + 1) = some (DV c) := fun W h => by rw [HL.out] at h; exact h.2.2.2.2.1.1
        have q4 : ∀ W, St w W L → row? W (w.heap.size + 1) = some (DV b) := fun W h => by rw [HL.out] at h; exact h.2.2.2.2.2.1.1
        have q5 : ∀ W, St w W L → row? W w.heap.size = some (DV a) := fun W h => by rw [HL.out] at h; exact h.2.2.2.2.2.2.1.1
        clear HL
        go_wp2_with fail
        go_region_held3 (fun W => St w W L)
          (first | assumption | exact T6.drew | exact St.keep (by assumption) _ | exact St.call (by assumption) hb)
          (first
            | (go_at_call 22; refine (good_any a n _).mono ?_; rintro e w' ⟨rfl, hb⟩)
            | (go_at_call 23; refine (rgood_any a n _).mono ?_; rintro e w' ⟨rfl, hb⟩)
            | (go_at_call 21; with_reducible refine (Ans.call R1.out _).mono ?_; rintro e w' ⟨rfl, hb⟩)
            | (go_at_call 21; with_reducible refine (Ans.call R2.out _).mono ?_; rintro e w' ⟨rfl, hb⟩)
            | (go_at_call 19; with_reducible refine (R3.out _ _ _ (by first | rw [row_alloc, if_pos rfl] | rw [row_drew, row_alloc, if_pos rfl])).mono ?_; rintro e w' ⟨rfl, hb⟩)
            | (go_at_call 19; with_reducible refine (R4.out _ _ _ (by first | rw [row_alloc, if_pos rfl] | rw [row_drew, row_alloc, if_pos rfl])).mono ?_; rintro e w' ⟨rfl, hb⟩)
            | (go_at_call 19; with_reducible refine (join_none _ _).mono ?_; rintro e w' ⟨rfl, hb⟩)
            | (go_at_call 24; with_reducible refine (Ans.call R5.out _).mono ?_; rintro e w' ⟨rfl, hb⟩)
            | (go_at_call 24; with_reducible refine (Ans.call R6.out _).mono ?_; rintro e w' ⟨rfl, hb⟩)
            | (go_at_call 24; with_reducible refine (Ans.call R7.out _).mono ?_; rintro e w' ⟨rfl, hb⟩))
        go_wp2
        go_ret
        exact ⟨rfl, (show St w _ L by assumption).below⟩
end Go.Proofs.Ytnjnafmonijlnaa
