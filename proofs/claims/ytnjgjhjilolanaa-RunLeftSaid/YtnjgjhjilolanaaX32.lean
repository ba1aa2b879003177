/- Several texts in one. -/
import Derived.Test.YtnjgjhjilolanaaX18
import Derived.Test.YtnjgjhjilolanaaX27
import Derived.Test.YtnjgjhjilolanaaX28
import Derived.Test.YtnjgjhjilolanaaX29
import Derived.Test.YtnjgjhjilolanaaX30
import Derived.Test.YtnjgjhjilolanaaX31
import Derived.Sort.AssemblyPlain
/- pdqsort's round, at so few items that nothing is shifted. No walk stands here. -/
namespace Go.Proofs.Ytnjgjhjilolanaa
open Go.RowKit
open Go.Sort (swp insertionSort heapSort breakPatterns choosePivot reverseRange partialInsertionSort partition partitionEqual pdq Hint partEqLoop_spec partition_holds choosePivot_holds)
set_option linter.unusedVariables false
theorem pdq_unC (lt : Item → Item → Bool) (d : Array Item) (a b limit : Nat) (wb wp : Bool) (h : ¬ b - a ≤ 12) (h0 : ¬ limit = 0) {d1 d2 : Array Item} {lim1 pv : Nat} {hint : Hint} {t : Bool}
    (hd1 : d1 = if (!wb) = true then breakPatterns d a b else d) (hl : lim1 = if (!wb) = true then limit - 1 else limit)
    (hd2 : d2 = if (choosePivot lt d1 a b).2 = .decreasing then reverseRange d1 a b else d1)
    (hpv : pv = if (choosePivot lt d1 a b).2 = .decreasing then (b - 1) - ((choosePivot lt d1 a b).1 - a) else (choosePivot lt d1 a b).1)
    (hh : hint = if (choosePivot lt d1 a b).2 = .decreasing then Hint.increasing else (choosePivot lt d1 a b).2)
    (hpi : (if (wb && wp && decide (hint = .increasing)) = true then partialInsertionSort lt d2 a b else (d2, false)) = (d2, t)) :
    pdq lt d a b limit wb wp = if t = true then d2 else
      if (decide (a > 0) && !lt d2[a - 1]! d2[pv]!) = true then
        (if a < (partitionEqual lt d2 a b pv).1 ∧ (partitionEqual lt d2 a b pv).1 ≤ b then pdq lt (partitionEqual lt d2 a b pv).2 (partitionEqual lt d2 a b pv).1 b lim1 wb wp else (partitionEqual lt d2 a b pv).2)
      else
        (if a ≤ (partition lt d2 a b pv).1 ∧ (partition lt d2 a b pv).1 < b then
          (if (partition lt d2 a b pv).1 - a < b - (partition lt d2 a b pv).1 then
            pdq lt (pdq lt (partition lt d2 a b pv).2.2 a (partition lt d2 a b pv).1 lim1 true true) ((partition lt d2 a b pv).1 + 1) b lim1 (decide ((partition lt d2 a b pv).1 - a ≥ (b - a) / 8)) (partition lt d2 a b pv).2.1
          else pdq lt (pdq lt (partition lt d2 a b pv).2.2 ((partition lt d2 a b pv).1 + 1) b lim1 true true) a (partition lt d2 a b pv).1 lim1 (decide (b - (partition lt d2 a b pv).1 ≥ (b - a) / 8)) (partition lt d2 a b pv).2.1)
        else (partition lt d2 a b pv).2.2) := by
  subst hd1 hl hd2 hpv hh
  rw [pdq, if_neg h, if_neg h0]
  simp only [Bool.and_eq_true, decide_eq_true_eq] at hpi ⊢
  rw [hpi]
  cases t
  · simp only [Bool.false_eq_true, if_false]
    congr 1
  · simp
theorem pe_rangeC (lt : Item → Item → Bool) (d : Array Item) (a b pv : Nat) (hab : a + 1 < b) (hb : b ≤ d.size) : a < (partitionEqual lt d a b pv).1 ∧ (partitionEqual lt d a b pv).1 ≤ b := by
  unfold partitionEqual
  have h := partEqLoop_spec lt a b _ (a + 1) (b - 1) (swp d a pv) (Nat.le_refl _) (Nat.lt_succ_self a) (by omega) (by omega) (by rw [swp_sz]; exact hb) (fun t h1 h2 => by omega) (fun t h1 h2 => by omega)
  exact ⟨h.1, h.2.1⟩
theorem pt_rangeC (CM : CmpK) (hm : CM.Ok) (d : Array Item) (a b pv : Nat) (h1 : a ≤ pv) (h2 : pv < b) (hb : b ≤ d.size) : a ≤ (partition CM.lt d a b pv).1 ∧ (partition CM.lt d a b pv).1 < b := by
  have h := partition_holds CM.lt (hm.swo) d a b pv h1 h2 hb
  exact ⟨h.1, h.2.1⟩
theorem rev_sizeC (d : Array Item) (a b : Nat) : (reverseRange d a b).size = d.size := reverseLoop_sizeC _ _ _ _ (Nat.le_refl _)
theorem pi_anyC (lt : Item → Item → Bool) (d : Array Item) (a b : Nat) (hn : b - a < 50) (c : Bool) : ∃ t, (if c = true then partialInsertionSort lt d a b else (d, false)) = (d, t) := by
  cases c
  · exact ⟨false, by simp⟩
  · rw [if_pos rfl, partial_eqC lt d a b hn]
    exact ⟨_, rfl⟩
theorem pdq_szC (lt : Item → Item → Bool) {n : Nat} (hn : n < 50) : ∀ (K a b : Nat), b - a ≤ K → b ≤ n → ∀ (d : Array Item) (lim : Nat) (wb wp : Bool), d.size = n → (pdq lt d a b lim wb wp).size = n := by
  intro K
  induction K with
  | zero =>
    intro a b hk hb d lim wb wp hd
    rw [pdq, if_pos (by omega), insertionSort_szC, hd]
  | succ K ih =>
    intro a b hk hb d lim wb wp hd
    by_cases h12 : b - a ≤ 12
    · rw [pdq, if_pos h12, insertionSort_szC, hd]
    · by_cases h0 : lim = 0
      · rw [pdq, if_neg h12, if_pos h0, heapSort_sizeC, hd]
      · have hs1 : (if (!wb) = true then breakPatterns d a b else d).size = n := by split <;> simp [breakPatterns_sizeC, hd]
        generalize hd1 : (if (!wb) = true then breakPatterns d a b else d) = d1 at hs1
        have hs2 : (if (choosePivot lt d1 a b).2 = .decreasing then reverseRange d1 a b else d1).size = n := by split <;> simp [rev_sizeC, hs1]
        generalize hd2 : (if (choosePivot lt d1 a b).2 = .decreasing then reverseRange d1 a b else d1) = d2 at hs2
        obtain ⟨t, ht⟩ := pi_anyC lt d2 a b (by omega) (wb && wp && decide ((if (choosePivot lt d1 a b).2 = .decreasing then Hint.increasing else (choosePivot lt d1 a b).2) = .increasing))
        obtain ⟨pv, hpv⟩ : ∃ pv, pv = (if (choosePivot lt d1 a b).2 = .decreasing then (b - 1) - ((choosePivot lt d1 a b).1 - a) else (choosePivot lt d1 a b).1) := ⟨_, rfl⟩
        rw [pdq_unC lt d a b lim wb wp h12 h0 hd1.symm rfl hd2.symm hpv rfl ht]
        split
        · exact hs2
        · split
          · split
            · rename_i hr
              exact ih _ _ (by omega) hb _ _ _ _ (by rw [partitionEqual_sizeC, hs2])
            · rw [partitionEqual_sizeC, hs2]
          · split
            · rename_i hr
              split
              · exact ih _ _ (by omega) hb _ _ _ _ (ih _ _ (by omega) (by omega) _ _ _ _ (by rw [partition_sizeC, hs2]))
              · exact ih _ _ (by omega) (by omega) _ _ _ _ (ih _ _ (by omega) hb _ _ _ _ (by rw [partition_sizeC, hs2]))
            · rw [partition_sizeC, hs2]
end Go.Proofs.Ytnjgjhjilolanaa
