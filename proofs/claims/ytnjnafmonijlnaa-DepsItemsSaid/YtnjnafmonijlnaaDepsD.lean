import Derived.Test.YtnjnafmonijlnaaDepsC
import Derived.ChangeKeysEq
import Derived.Deep.RegionHeld3
namespace Go.Proofs.Ytnjnafmonijlnaa
open Go.RowKit
attribute [local go_sem] row_alloc row_drew row_drewN row_ext row_setCell row_setRow size_ext setRow_alloc setRow_drew loadOf storeOf piece_lit DV_piece loadVal_at storeVal_at allOne_lit DV_size DV_one
attribute [local go_sem high] cell_alloc frozen_alloc setCell_alloc cell_ext frozen_ext
attribute [local go_sem ↓] index_deps0 load_deps0 store_deps0 slice_deps0
attribute [local go_sem] index_deps load_deps store_deps slice_deps2 slice_deps3 LV_size


def eqD (a b : Nat → Int) : Bool := (List.range 7).all fun i => a i == b i
theorem eqD_self (a : Nat → Int) : eqD a a = true := by simp [eqD]
theorem eqD_iff (a b : Nat → Int) : eqD a b = true ↔ ∀ i, i < 7 → a i = b i := by simp [eqD]
theorem run_eql_deps (w : World) (a b : Nat → Int) : (binOp .eql 23 (.agg (DV a)) (.agg (DV b))).run Try.prog w = .ok (.bool (eqD a b)) w := by
  rw [run_eql_struct]
  obtain ⟨i, hi, hz⟩ : ∃ i, Try.prog.info? 3 = some i ∧ i.size = 1 := by
    have h : (Try.prog.info? 3).map (·.size) = some 1 := by kernel_rfl
    cases hq : Try.prog.info? 3 with
    | none => rw [hq] at h; cases h
    | some i => rw [hq] at h; exact ⟨i, rfl, by simpa using h⟩
  have hC : Try.prog.cellsOf 3 = 1 := by kernel_rfl
  rw [run_equalIn_array w 9999 (DV a) (DV b) Try.underlying23 hi, hC]
  have key : ∀ is : List Nat, (∀ i ∈ is, i < 7) → (Op.eqItems 9999 3 1 (DV a) (DV b) is).run Try.prog w = .ok (is.all fun i => a i == b i) w := by
    intro is
    induction is with
    | nil => intro _; rfl
    | cons i is ih =>
      intro h
      have hi7 := h i (by simp)
      have ha : (isAgg 3).run Try.prog w = .ok false w := by
        unfold isAgg
        simp only [Sem.run_bind, run_underlying Try.underlying3, Result.andThen_ok]
        rfl
      have p1 : ∀ d : Nat → Int, (part 3 (DV d) (i * 1)).run Try.prog w = .ok (.int .i64 (d i)) w := fun d => by
        simp [part, ha, DV_get d i hi7]
      have e1 : (Op.equalIn 9999 3 (.int .i64 (a i)) (.int .i64 (b i))).run Try.prog w = .ok (a i == b i) w := run_equalIn_int w 9998 _ .i64 .i64 _ _ Try.underlying3
      simp only [Op.eqItems, Sem.run_bind, p1, e1, Result.andThen_ok, List.all_cons]
      cases hb : (a i == b i)
      · simp
      · simp only [Bool.not_true, Bool.false_eq_true, if_false, Bool.true_and]
        exact ih fun j hj => h j (by simp [hj])
  rw [key _ (fun i hi => by simpa using hi)]
  rfl
attribute [local go_sem high] run_eql_deps
def goodAt (d : Nat → Int) (n : Int) (i : Nat) : Bool := decide (0 ≤ d i ∧ d i ≤ 64 ∧ (n ≤ i → d i = 0))
def goodD (d : Nat → Int) (n : Int) : Bool := (List.range 7).all (goodAt d n)
theorem goodD_no {d : Nat → Int} {n : Int} (j : Nat) (hj : j < 7) (h : ¬ (0 ≤ d j ∧ d j ≤ 64 ∧ (n ≤ j → d j = 0))) : goodD d n = false := by
  rw [goodD, List.all_eq_false]
  exact ⟨j, by simpa using hj, by unfold goodAt; simpa only [decide_eq_true_eq] using h⟩
theorem goodD_yes {d : Nat → Int} {n : Int} (h : ∀ i, i < 7 → 0 ≤ d i ∧ d i ≤ 64 ∧ (n ≤ i → d i = 0)) : goodD d n = true := by
  rw [goodD, List.all_eq_true]
  intro i hi
  unfold goodAt
  rw [decide_eq_true_eq]
  exact h i (by simpa using hi)
set_option maxHeartbeats 1000000 in
theorem good_any (d : Nat → Int) (n : Int) : Ans Try.prog 22 #[.agg (DV d), .int .i64 n] (.bool (goodD d n)) := by
  intro w
  go_enter Try.func22, Try.ntmps22
  go_wp2
  go_loop [8] (fun i => ∃ j : Nat, j ≤ 7 ∧ i = .int .i64 j ∧ Hid (∀ k, k < j → 0 ≤ d k ∧ d k ≤ 64 ∧ (n ≤ k → d k = 0))) (fun i => 7 - (intOf i).toNat)
  case atStart => exact ⟨0, by omega, rfl, fun k hk => by omega⟩
  case round =>
    obtain ⟨j, hj, rfl, hG⟩ := hrel
    by_cases hlt : j < 7
    · have hno := @goodD_no d n j hlt
      have Hno := Lib.hid hno; clear hno
      by_cases hz : d j = 0
      · have hz' : (d j != 0) = false := by simp [hz]
        have Hz := Lib.hid hz; clear hz
        go_wp2
        all_goals first
          | (go_ret
             refine ⟨?_, (Below.refl _ _).alloc (Nat.le_refl _) _⟩
             exact congrArg (fun b => Ending.returned (.bool b)) (Hno.out (by omega)).symm)
          | (go_round
             case rel =>
               refine ⟨j + 1, by omega, by go_num, fun k hk => ?_⟩
               by_cases e : k = j
               · subst e; exact ⟨by omega, by omega, fun _ => Hz.out⟩
               · exact hG k (by omega)
             case measure => simp [intOf]; omega)
      · have hz' : (d j != 0) = true := by simp [hz]
        go_wp2
        all_goals first
          | (go_ret
             refine ⟨?_, (Below.refl _ _).alloc (Nat.le_refl _) _⟩
             exact congrArg (fun b => Ending.returned (.bool b)) (Hno.out (by omega)).symm)
          | (go_round
             case rel =>
               refine ⟨j + 1, by omega, by go_num, fun k hk => ?_⟩
               by_cases e : k = j
               · subst e; omega
               · exact hG k (by omega)
             case measure => simp [intOf]; omega)
    · obtain rfl : j = 7 := by omega
      have hy := goodD_yes hG
      have Hy := Lib.hid hy; clear hy
      go_wp2
      go_ret
      exact ⟨congrArg (fun b => Ending.returned (.bool b)) Hy.out.symm, (Below.refl _ _).alloc (Nat.le_refl _) _⟩
set_option maxHeartbeats 1000000 in
theorem rgood_any (d : Nat → Int) (n : Int) : Ans Try.prog 23 #[.agg (DV d), .int .i64 n] (.bool (goodD d n)) := by
  intro w
  go_enter Try.func23, Try.ntmps23
  go_wp2
  go_loop [5] (fun i => ∃ j : Nat, j ≤ 7 ∧ i = .int .i64 j ∧ Hid (∀ k, k < j → 0 ≤ d k ∧ d k ≤ 64 ∧ (n ≤ k → d k = 0))) (fun i => 7 - (intOf i).toNat)
  case atStart => exact ⟨0, by omega, rfl, fun k hk => by omega⟩
  case round =>
    obtain ⟨j, hj, rfl, hG⟩ := hrel
    by_cases hlt : j < 7
    · have hno := @goodD_no d n j hlt
      have Hno := Lib.hid hno; clear hno
      have hD := DV_get d j hlt
      by_cases hz : d j = 0
      · have hz' : (d j != 0) = false := by simp [hz]
        have Hz := Lib.hid hz; clear hz
        go_wp2
        all_goals first
          | (go_ret
             refine ⟨?_, (Below.refl _ _).alloc (Nat.le_refl _) _⟩
             exact congrArg (fun b => Ending.returned (.bool b)) (Hno.out (by omega)).symm)
          | (go_round
             case rel =>
               refine ⟨j + 1, by omega, by go_num, fun k hk => ?_⟩
               by_cases e : k = j
               · subst e; exact ⟨by omega, by omega, fun _ => Hz.out⟩
               · exact hG k (by omega)
             case measure => simp [intOf]; omega)
      · have hz' : (d j != 0) = true := by simp [hz]
        go_wp2
        all_goals first
          | (go_ret
             refine ⟨?_, (Below.refl _ _).alloc (Nat.le_refl _) _⟩
             exact congrArg (fun b => Ending.returned (.bool b)) (Hno.out (by omega)).symm)
          | (go_round
             case rel =>
               refine ⟨j + 1, by omega, by go_num, fun k hk => ?_⟩
               by_cases e : k = j
               · subst e; omega
               · exact hG k (by omega)
             case measure => simp [intOf]; omega)
    · obtain rfl : j = 7 := by omega
      have hy := goodD_yes hG
      have Hy := Lib.hid hy; clear hy
      go_wp2
      go_ret
      exact ⟨congrArg (fun b => Ending.returned (.bool b)) Hy.out.symm, (Below.refl _ _).alloc (Nat.le_refl _) _⟩
set_option maxHeartbeats 1000000 in
theorem within_any (a b : Nat → Int) : Ans Try.prog 24 #[.agg (DV a), .agg (DV b)] (.bool (eqD (rjoin a b) b)) := by
  intro w
  go_enter Try.func24, Try.ntmps24
  go_wp2
  obtain ⟨w1, hw1⟩ : ∃ w1, w1 = (w.alloc (.cells (DV a) 23)).alloc (.cells (DV b) 23) := ⟨_, rfl⟩
  have hb1 : Below w.heap.size w w1 := by rw [hw1]; exact ((Below.refl _ _).alloc (Nat.le_refl _) _).alloc (by simp) _
  have hz : w.heap.size + 1 < w1.heap.size := by rw [hw1]; simp
  have l1 : row? w1 w.heap.size = some (DV a) := by rw [hw1, row_alloc, if_neg (by simp), row_alloc, if_pos rfl]
  have l2 : row? w1 (w.heap.size + 1) = some (DV b) := by rw [hw1, row_alloc, if_pos (by simp)]
  rw [← hw1]
  clear hw1
  have k1 : ∀ W, Below w1.heap.size w1 W → row? W w.heap.size = some (DV a) := fun W h => (row_below h (by omega)).trans l1
  have k2 : ∀ W, Below w1.heap.size w1 W → row? W (w.heap.size + 1) = some (DV b) := fun W h => (row_below h (by omega)).trans l2
  clear l1 l2
  have hret : rjoin a b = joinL [a, b] := (joinL_two a b).symm
  have Hret := Lib.hid hret; clear hret
  go_region_held3 (fun W => Below w1.heap.size w1 W)
    (first | assumption | exact (Below.refl _ _).drew | exact Below.alloc (by assumption) (Below.size (by assumption)) _ | exact Below.trans (by assumption) (Below.mono hb (Below.size (by assumption))))
    (first | (go_at_call 19; refine (join_any [a, b] _ _ _ (by simp) (by first | rw [row_alloc, if_pos rfl] | rw [row_drew, row_alloc, if_pos rfl])).mono ?_; rintro e w' ⟨rfl, hb⟩))
  go_wp2
  go_ret
  exact ⟨congrArg (fun d => Ending.returned (.bool (eqD d b))) Hret.out.symm, hb1.trans ((‹Below w1.heap.size w1 w'›).mono (by omega))⟩
end Go.Proofs.Ytnjnafmonijlnaa
