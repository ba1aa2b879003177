/- DepsReach: the cases together. -/
import Derived.Test.YtnjnafmonijlnaaDepsE
import Derived.Test.YtnjnafmonijlnaaDepsF
namespace Go.Proofs.Ytnjnafmonijlnaa
open Go.RowKit
theorem hasD_join (a b : Nat → Int) (q m : Int) : hasD (rjoin a b) q m = (hasD a q m || hasD b q m) := by
  rw [Bool.eq_iff_iff]
  simp only [hasD, Bool.or_eq_true, decide_eq_true_eq]
  rw [show rjoin a b q.toNat = max (max 0 (a q.toNat)) (b q.toNat) from rfl]
  generalize a q.toNat = x
  generalize b q.toNat = y
  constructor <;> intro h <;> omega
theorem hasD_with (a : Nat → Int) (r n q m : Int) : hasD (withD a r n) q m = (hasD a q m || decide ((0 ≤ r ∧ r < 7 ∧ 0 < n) ∧ q = r ∧ 0 < m ∧ m ≤ n)) := by
  rw [Bool.eq_iff_iff]
  simp only [hasD, Bool.or_eq_true, decide_eq_true_eq]
  constructor
  · rintro ⟨h1, h2, h3, h4⟩
    have := withD_at a r n q.toNat (by omega)
    rw [this] at h4
    split at h4 <;> omega
  · intro h
    have hq : 0 ≤ q ∧ q < 7 := by omega
    have := withD_at a r n q.toNat (by omega)
    refine ⟨hq.1, hq.2, by omega, ?_⟩
    rw [this]
    split <;> omega
theorem law_reach (a b : Nat → Int) (r n q m : Int) : Ans Try.prog 4 #[.agg (DV a), .agg (DV b), .agg #[.int .i64 r, .int .i64 n], .agg #[.int .i64 q, .int .i64 m]] (.bool true) := by
  have h1 := hasD_join a b q m
  have h4 := hasD_with a r n r n
  have h5 := hasD_with a r n q m
  have hsub : hasD a r n = true → (0 ≤ r ∧ r < 7 ∧ 0 < n) := by
    intro h; simp only [hasD, decide_eq_true_eq] at h; omega
  by_cases cx1 : 0 ≤ r
  · by_cases cx2 : r < 7
    · by_cases cx3 : 0 < n
      · have e4 : hasD (withD a r n) r n = true := by rw [h4]; simp [cx1, cx2, cx3]
        cases h2 : hasD a q m
        · rw [h2] at h1 h5
          by_cases hqr : q = r
          · by_cases hm : 0 < m
            · by_cases hmn : m ≤ n
              · exact reach_5 a b r n q m _ _ _ rfl rfl h1 h2 rfl cx1 cx2 cx3 hqr hm hmn e4 (by rw [h5]; simp [cx1, cx2, cx3, hqr, hm, hmn])
              · exact reach_4 a b r n q m _ _ _ rfl rfl h1 h2 rfl cx1 cx2 cx3 hqr hm hmn e4 (by rw [h5]; simp [hmn])
            · exact reach_3 a b r n q m _ _ _ rfl rfl h1 h2 rfl cx1 cx2 cx3 hqr hm e4 (by rw [h5]; simp [hm])
          · exact reach_2 a b r n q m _ _ _ rfl rfl h1 h2 rfl cx1 cx2 cx3 hqr e4 (by rw [h5]; simp [hqr])
        · rw [h2] at h1 h5
          exact reach_1 a b r n q m _ _ _ rfl rfl h1 h2 rfl cx1 cx2 cx3 e4 (by rw [h5]; rfl)
      · have e4 : hasD (withD a r n) r n = false := by
          rw [h4, show hasD a r n = false by cases h : hasD a r n with | false => rfl | true => exact absurd (hsub h).2.2 cx3]; simp [cx3]
        cases h2 : hasD a q m
        · rw [h2] at h1 h5
          exact reach_11 a b r n q m _ _ _ rfl rfl h1 h2 rfl cx1 cx2 cx3 e4 (by rw [h5]; simp [cx3])
        · rw [h2] at h1 h5
          exact reach_8 a b r n q m _ _ _ rfl rfl h1 h2 rfl cx1 cx2 cx3 e4 (by rw [h5]; rfl)
    · have e4 : hasD (withD a r n) r n = false := by
        rw [h4, show hasD a r n = false by cases h : hasD a r n with | false => rfl | true => exact absurd (hsub h).2.1 cx2]; simp [cx2]
      cases h2 : hasD a q m
      · rw [h2] at h1 h5
        exact reach_10 a b r n q m _ _ _ rfl rfl h1 h2 rfl cx1 cx2 e4 (by rw [h5]; simp [cx2])
      · rw [h2] at h1 h5
        exact reach_7 a b r n q m _ _ _ rfl rfl h1 h2 rfl cx1 cx2 e4 (by rw [h5]; rfl)
  · have e4 : hasD (withD a r n) r n = false := by
      rw [h4, show hasD a r n = false by cases h : hasD a r n with | false => rfl | true => exact absurd (hsub h).1 cx1]; simp [cx1]
    cases h2 : hasD a q m
    · rw [h2] at h1 h5
      exact reach_9 a b r n q m _ _ _ rfl rfl h1 h2 rfl cx1 e4 (by rw [h5]; simp [cx1])
    · rw [h2] at h1 h5
      exact reach_6 a b r n q m _ _ _ rfl rfl h1 h2 rfl cx1 e4 (by rw [h5]; rfl)
end Go.Proofs.Ytnjnafmonijlnaa
