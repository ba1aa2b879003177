/- Layer 1: the plain law of numbers as bytes, seven bits at a time. No program stands here. -/
import Derived.Test.YtnjnafmonijlnaaOwn
namespace Go.Proofs.Ytnjnafmonijlnaa
set_option linter.unusedVariables false
/-- A number's bytes. -/
def enc (n : Nat) : List UInt8 :=
  if h : n < 128 then [UInt8.ofNat n] else UInt8.ofNat (128 + n % 128) :: enc (n / 128)
termination_by n
decreasing_by omega
/-- The number with which bytes begin, read from place i on, u being what stands so far; and what follows. -/
def dec (most : Nat) : Nat → Nat → List UInt8 → Option (Nat × List UInt8)
  | _, _, [] => none
  | i, u, x :: s =>
    if 8 < i then none
    else if x.toNat < 128 then
      if x.toNat = 0 ∧ 0 < i ∨ most < u + x.toNat * 128 ^ i then none else some (u + x.toNat * 128 ^ i, s)
    else dec most (i + 1) (u + (x.toNat - 128) * 128 ^ i) s
theorem enc_small {n : Nat} (h : n < 128) : enc n = [UInt8.ofNat n] := by rw [enc, dif_pos h]
theorem enc_great {n : Nat} (h : ¬ n < 128) : enc n = UInt8.ofNat (128 + n % 128) :: enc (n / 128) := by rw [enc, dif_neg h]
theorem enc_pos (n : Nat) : 0 < (enc n).length := by
  by_cases h : n < 128
  · rw [enc_small h]; simp
  · rw [enc_great h]; simp
/-- What was written is read, if it is not too great and fits. -/
theorem dec_enc (most : Nat) : ∀ (k i u n : Nat) (s : List UInt8), n < 128 ^ k → i + k ≤ 9 → (0 < i → 0 < n) → u + n * 128 ^ i ≤ most → dec most i u (enc n ++ s) = some (u + n * 128 ^ i, s)
  | 0, i, u, n, s, hk, hi, hp, hm => by
    have h0 : n = 0 := by simp at hk; exact hk
    have hi0 : i = 0 := by omega
    subst h0; subst hi0
    rw [enc_small (by omega)]
    simp [dec]
    omega
  | k + 1, i, u, n, s, hk, hi, hp, hm => by
    by_cases h : n < 128
    · rw [enc_small h]
      have hx : (UInt8.ofNat n).toNat = n := by rw [UInt8.toNat_ofNat']; omega
      simp only [List.singleton_append, dec, hx]
      rw [if_neg (by omega), if_pos h, if_neg (by omega)]
    · rw [enc_great h]
      have hx : (UInt8.ofNat (128 + n % 128)).toNat = 128 + n % 128 := by rw [UInt8.toNat_ofNat']; omega
      simp only [List.cons_append, dec, hx]
      have hsplit : u + (128 + n % 128 - 128) * 128 ^ i + n / 128 * 128 ^ (i + 1) = u + n * 128 ^ i := by
        have e1 : 128 + n % 128 - 128 = n % 128 := by omega
        have e2 : n / 128 * 128 ^ (i + 1) = (n / 128 * 128) * 128 ^ i := by rw [Nat.pow_succ, Nat.mul_comm (128 ^ i) 128, Nat.mul_assoc]
        have e3 : n % 128 + n / 128 * 128 = n := by omega
        rw [e1, e2, Nat.add_assoc, ← Nat.add_mul, e3]
      rw [if_neg (by omega), if_neg (by omega)]
      have hk2 : n / 128 < 128 ^ k := by rw [Nat.pow_succ] at hk; omega
      have hm2 : u + (128 + n % 128 - 128) * 128 ^ i + n / 128 * 128 ^ (i + 1) ≤ most := by rw [hsplit]; exact hm
      have ih := dec_enc most k (i + 1) _ (n / 128) s hk2 (by omega) (by omega) hm2
      rw [hsplit] at ih
      exact ih
/-- What is read was written so. -/
theorem dec_some (most : Nat) : ∀ (s : List UInt8) (i u v : Nat) (r : List UInt8), dec most i u s = some (v, r) →
    ∃ n, v = u + n * 128 ^ i ∧ v ≤ most ∧ s = enc n ++ r ∧ (0 < i → 0 < n) ∧ n < 128 ^ (9 - i)
  | [], i, u, v, r, h => by simp [dec] at h
  | x :: s, i, u, v, r, h => by
    simp only [dec] at h
    have hxb := x.toNat_lt
    split at h
    · simp at h
    · split at h
      · rename_i h8 hx
        split at h
        · simp at h
        · rename_i hc
          injection h with h
          injection h with h1 h2
          subst h1; subst h2
          refine ⟨x.toNat, rfl, by omega, ?_, by omega, ?_⟩
          · rw [enc_small hx]; simp
          · obtain ⟨j, hj⟩ : ∃ j, 9 - i = j + 1 := ⟨8 - i, by omega⟩
            rw [hj, Nat.pow_succ]
            have : 0 < 128 ^ j := Nat.pow_pos (by omega)
            omega
      · rename_i h8 hx
        obtain ⟨n, hv, hm, hs, hp, hn⟩ := dec_some most s _ _ v r h
        have hn0 := hp (by omega)
        refine ⟨n * 128 + (x.toNat - 128), ?_, hm, ?_, by omega, ?_⟩
        · rw [hv, Nat.pow_succ, Nat.add_mul, Nat.mul_assoc, Nat.mul_comm 128 (128 ^ i)]; omega
        · rw [enc_great (by omega)]
          have e1 : (n * 128 + (x.toNat - 128)) / 128 = n := by omega
          have e2 : 128 + (n * 128 + (x.toNat - 128)) % 128 = x.toNat := by omega
          rw [e1, e2, hs]; simp
        · obtain ⟨j, hj⟩ : ∃ j, 9 - i = j + 1 := ⟨8 - i, by omega⟩
          have hj2 : 9 - (i + 1) = j := by omega
          rw [hj2] at hn
          rw [hj, Nat.pow_succ]; omega
end Go.Proofs.Ytnjnafmonijlnaa
