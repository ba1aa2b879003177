/- The plain laws of reading what was written: numbers, texts, deeds. -/
import Derived.Test.YtnjnafmonijlnaaPut
namespace Go.Proofs.Ytnjnafmonijlnaa
set_option linter.unusedVariables false
theorem enc_inj {v n : Nat} {r r' : List UInt8} (hv : v < 128 ^ 9) (hn : n < 128 ^ 9) (h : enc v ++ r = enc n ++ r') : v = n ∧ r = r' := by
  have h1 := dec_enc (128 ^ 9) 9 0 0 v r hv (by omega) (by omega) (by omega)
  have h2 := dec_enc (128 ^ 9) 9 0 0 n r' hn (by omega) (by omega) (by omega)
  rw [h, h2] at h1
  simp at h1
  exact ⟨h1.1.symm, h1.2.symm⟩
theorem natS_dry (most : Nat) : natS dryS most = (0, dryS) := by simp [natS, dryS]
theorem textS_dry (most : Nat) : textS dryS most = ([], dryS) := by unfold textS; rw [natS_dry]; simp [rawS, dryS]
theorem natS_enc {v : Nat} (hv : v < 128 ^ 9) (r : List UInt8) (most : Nat) : natS ⟨enc v ++ r, false⟩ most = if v ≤ most then (v, ⟨r, false⟩) else (0, dryS) := by
  unfold natS
  rw [if_neg (by simp)]
  by_cases h : v ≤ most
  · rw [if_pos h]
    have := dec_enc most 9 0 0 v r hv (by omega) (by omega) (by omega)
    simp only [Nat.zero_add, Nat.pow_zero, Nat.mul_one] at this
    rw [this]
  · rw [if_neg h]
    cases hd : dec most 0 0 (enc v ++ r) with
    | none => rfl
    | some x =>
      obtain ⟨u, r'⟩ := x
      obtain ⟨n, h1, h2, h3, _, h5⟩ := dec_some most _ _ _ _ _ hd
      have := enc_inj hv h5 h3
      omega
theorem natS_inv {s : Src} {most : Nat} (h : (natS s most).2.dry = false) : s.dry = false ∧ s.left = enc (natS s most).1 ++ (natS s most).2.left ∧ (natS s most).1 ≤ most ∧ (natS s most).1 < 128 ^ 9 := by
  unfold natS at h ⊢
  split at h
  · simp [dryS] at h
  · rename_i hd
    rw [if_neg hd]
    split at h
    · simp [dryS] at h
    · rename_i v r hdec
      obtain ⟨n, h1, h2, h3, _, h5⟩ := dec_some most _ _ _ _ _ hdec
      simp at h1
      subst h1
      exact ⟨by simpa using hd, h3, h2, h5⟩
theorem natS_stay {s : Src} {most : Nat} (h : s.dry = true) : natS s most = (0, dryS) := by unfold natS; rw [if_pos h]
theorem textS_enc {t : List UInt8} (ht : t.length < 128 ^ 9) (r : List UInt8) (most : Nat) : textS ⟨enc t.length ++ t ++ r, false⟩ most = if t.length ≤ most then (t, ⟨r, false⟩) else ([], dryS) := by
  unfold textS
  rw [List.append_assoc, natS_enc ht]
  split
  · unfold rawS
    rw [if_neg (by simp; omega)]
    simp
  · simp [rawS, dryS]
theorem rawS_inv {s : Src} {n : Int} (h : (rawS s n).2.dry = false) : s.dry = false ∧ s.left = (rawS s n).1 ++ (rawS s n).2.left ∧ ((rawS s n).1.length : Int) = n := by
  unfold rawS at h ⊢
  split at h
  · simp [dryS] at h
  · rename_i hc
    rw [if_neg hc]
    refine ⟨by simp at hc; exact hc.1, by simp, ?_⟩
    simp at hc ⊢
    omega
theorem textS_inv {s : Src} {most : Nat} (h : (textS s most).2.dry = false) : s.dry = false ∧ s.left = enc (textS s most).1.length ++ (textS s most).1 ++ (textS s most).2.left ∧ (textS s most).1.length ≤ most := by
  unfold textS at h ⊢
  obtain ⟨h1, h2, h3⟩ := rawS_inv h
  obtain ⟨h4, h5, h6, _⟩ := natS_inv h1
  have e : (rawS (natS s most).2 ↑(natS s most).1).1.length = (natS s most).1 := by omega
  refine ⟨h4, ?_, by omega⟩
  rw [e, h5, List.append_assoc, ← h2]
theorem strL_list (t : List UInt8) : (strL t).data.toList = t := rfl
theorem strL_self (b : ByteArray) : strL b.data.toList = b := by cases b; rfl
theorem rawDeed_inv {s : Src} (h : (rawDeed s).2.dry = false) : s.dry = false ∧ s.left = deedB (rawDeed s).1 ++ (rawDeed s).2.left ∧ DeedIn (rawDeed s).1 48 := by
  unfold rawDeed at h ⊢
  simp only at h ⊢
  obtain ⟨a1, a2, a3, a4⟩ := natS_inv h
  obtain ⟨b1, b2, b3, b4⟩ := natS_inv a1
  obtain ⟨c1, c2, c3, c4⟩ := natS_inv b1
  obtain ⟨d1, d2, d3⟩ := textS_inv c1
  obtain ⟨e1, e2, e3⟩ := textS_inv d1
  obtain ⟨f1, f2, f3, f4⟩ := natS_inv e1
  refine ⟨f1, ?_, ⟨by simp; omega, by simp; omega, by simp; omega, by simp; omega, by simp [strL_size]; omega⟩⟩
  rw [f2, e2, d2, c2, b2, a2]
  simp [deedB, txt, encs, strL_size, strL_list]
theorem rawDeed_enc {d : Deed} {more : List UInt8} {N : Nat} (hN : N ≤ 1000000) (h : DeedIn d N) (h0 : 0 ≤ d.kind ∧ 0 ≤ d.ver ∧ 0 ≤ d.ses ∧ 0 ≤ d.num) :
    (rawDeed ⟨deedB d ++ more, false⟩ = (d, ⟨more, false⟩)) ∨ (rawDeed ⟨deedB d ++ more, false⟩).2 = dryS ∧ ¬ (d.kind ≤ 5 ∧ d.key.size ≤ 16 ∧ d.val.size ≤ 32 ∧ d.ver ≤ 1099511627776 ∧ d.ses ≤ 1099511627776 ∧ d.num ≤ 1099511627776) := by
  have p9 : (128 : Nat) ^ 9 = 9223372036854775808 := by decide
  obtain ⟨hk, hv, hs, hn⟩ := h0
  have k1 := h.kind; have k2 := h.ver; have k3 := h.ses; have k4 := h.num; have k5 := h.txt
  unfold rawDeed
  simp only
  rw [show deedB d ++ more = enc d.kind.toNat ++ (enc d.key.data.toList.length ++ d.key.data.toList ++ (enc d.val.data.toList.length ++ d.val.data.toList ++ (enc d.ver.toNat ++ (enc d.ses.toNat ++ (enc d.num.toNat ++ more))))) by
    simp [deedB, txt, encs]]
  have e1 : d.key.data.toList.length = d.key.size := rfl
  have e2 : d.val.data.toList.length = d.val.size := rfl
  rw [natS_enc (by omega)]
  by_cases c1 : d.kind.toNat ≤ 5
  · rw [if_pos c1, textS_enc (by omega)]
    by_cases c2 : d.key.data.toList.length ≤ 16
    · rw [if_pos c2, textS_enc (by omega)]
      by_cases c3 : d.val.data.toList.length ≤ 32
      · rw [if_pos c3, natS_enc (by omega)]
        by_cases c4 : d.ver.toNat ≤ 1099511627776
        · rw [if_pos c4, natS_enc (by omega)]
          by_cases c5 : d.ses.toNat ≤ 1099511627776
          · rw [if_pos c5, natS_enc (by omega)]
            by_cases c6 : d.num.toNat ≤ 1099511627776
            · rw [if_pos c6]
              left
              have : ({ kind := ↑d.kind.toNat, key := strL d.key.data.toList, val := strL d.val.data.toList, ver := ↑d.ver.toNat, ses := ↑d.ses.toNat, num := ↑d.num.toNat } : Deed) = d := by
                cases d; simp only [strL_self] at *; simp; try omega
              rw [this]
            · right; rw [if_neg c6]; exact ⟨rfl, by omega⟩
          · right; rw [if_neg c5]; exact ⟨by simp only [natS_dry], by omega⟩
        · right; rw [if_neg c4]; exact ⟨by simp only [natS_dry], by omega⟩
      · right; rw [if_neg c3]; exact ⟨by simp only [natS_dry], by omega⟩
    · right; rw [if_neg c2]; exact ⟨by simp only [natS_dry, textS_dry], by omega⟩
  · right; rw [if_neg c1]; exact ⟨by simp only [natS_dry, textS_dry], by omega⟩
theorem getD_inv {s : Src} (h : (getD s).2.dry = false) : s.dry = false ∧ s.left = deedB (getD s).1 ++ (getD s).2.left ∧ DeedIn (getD s).1 48 ∧ goodB (getD s).1 = true := by
  unfold getD at h ⊢
  split at h
  · simp [dryS] at h
  · rename_i hc
    rw [if_neg hc]
    obtain ⟨h1, h2, h3⟩ := rawDeed_inv h
    simp at hc
    exact ⟨h1, h2, h3, by simpa using hc.2⟩
theorem getD_dry {s : Src} (h : (getD s).2.dry = true) : getD s = (noDeed, dryS) := by
  unfold getD at h ⊢
  split
  · rfl
  · rename_i hc
    rw [if_neg hc] at h
    exact absurd (.inl h) hc
end Go.Proofs.Ytnjnafmonijlnaa
