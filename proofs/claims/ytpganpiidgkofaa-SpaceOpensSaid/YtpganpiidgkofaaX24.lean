/- Several texts in one. -/
import Derived.Test.YtpganpiidgkofaaX22
import Derived.Test.YtpganpiidgkofaaX15
import Derived.Test.YtpganpiidgkofaaX9
/- Layers 6, 9: what was sealed is opened, what was written is read, and the other way. No walk stands here. -/
namespace Go.Proofs.Ytpganpiidgkofaa
open Go.RowKit
set_option linter.unusedVariables false
theorem p128 : (128 : Nat) ^ 9 = 9223372036854775808 := by decide
theorem rawS_app {a r : List UInt8} {n : Int} (h : (a.length : Int) = n) : rawS ⟨a ++ r, false⟩ n = (a, ⟨r, false⟩) := by
  unfold rawS
  rw [if_neg (by simp; omega)]
  have : n.toNat = a.length := by omega
  rw [this, List.take_left, List.drop_left]
theorem fourB_len (c : Nat) : (fourB c).length = 4 := rfl
theorem sealS_eq {t : List UInt8} (h : t.length ≤ 16384) : sealS t = enc t.length ++ fourB (crc (enc t.length ++ t)) ++ t := by
  unfold sealS; rw [if_neg (by omega)]; rfl
theorem open_seal {t : List UInt8} (h : t.length ≤ 16384) (r : List UInt8) : openS (sealS t ++ r) = (t, (sealS t).length) := by
  have e1 : natS ⟨sealS t ++ r, false⟩ 16384 = (t.length, ⟨fourB (crc (enc t.length ++ t)) ++ (t ++ r), false⟩) := by
    rw [sealS_eq h, List.append_assoc, List.append_assoc, natS_enc (by rw [p128]; omega), if_pos h]
  have e2 : rawS ⟨fourB (crc (enc t.length ++ t)) ++ (t ++ r), false⟩ 4 = (fourB (crc (enc t.length ++ t)), ⟨t ++ r, false⟩) := rawS_app rfl
  have e3 : rawS ⟨t ++ r, false⟩ t.length = (t, ⟨r, false⟩) := rawS_app rfl
  unfold openS
  simp only [e1, e2, e3]
  rw [if_neg (by simp)]
  simp
theorem rawS_inv2 {s : Src} {n : Int} (h : (rawS s n).2.dry = false) : s.dry = false ∧ 0 ≤ n ∧ s.left = (rawS s n).1 ++ (rawS s n).2.left ∧ ((rawS s n).1.length : Int) = n := by
  unfold rawS at h ⊢
  split at h
  · simp [dryS] at h
  · rename_i hc
    rw [if_neg hc]
    simp only [not_or, Bool.not_eq_true] at hc
    refine ⟨hc.1, by omega, by simp, ?_⟩
    simp only [List.length_take]; omega
theorem rawS_dry {n : Int} {s : Src} (h : s.dry = true) : (rawS s n).2.dry = true := by
  unfold rawS; rw [if_pos (.inl h)]; rfl
theorem open_inv {b : List UInt8} (h : (openS b).2 ≠ 0) : (openS b).1.length ≤ 16384 ∧ ∃ r, b = sealS (openS b).1 ++ r ∧ (openS b).2 = (sealS (openS b).1).length := by
  obtain ⟨n, hn⟩ : ∃ n, n = natS ⟨b, false⟩ 16384 := ⟨_, rfl⟩
  obtain ⟨q, hq⟩ : ∃ q, q = rawS n.2 4 := ⟨_, rfl⟩
  obtain ⟨s, hs⟩ : ∃ s, s = rawS q.2 n.1 := ⟨_, rfl⟩
  have ho : openS b = if s.2.dry = true ∨ fourB (crc (enc n.1 ++ s.1)) ≠ q.1 then ([], 0) else (s.1, b.length - s.2.left.length) := by
    rw [hs, hq, hn]; rfl
  rw [ho] at h ⊢
  split at h
  · exact absurd rfl h
  rename_i hc
  rw [if_neg hc]
  simp only [not_or, ne_eq, Decidable.not_not, Bool.not_eq_true] at hc
  obtain ⟨c1, c2⟩ := hc
  have a := rawS_inv2 (s := q.2) (n := n.1) (by rw [← hs]; exact c1)
  rw [← hs] at a
  have b2 := rawS_inv2 (s := n.2) (n := 4) (by rw [← hq]; exact a.1)
  rw [← hq] at b2
  have c := natS_inv (s := ⟨b, false⟩) (most := 16384) (by rw [← hn]; exact b2.1)
  rw [← hn] at c
  have hl : s.1.length = n.1 := by omega
  have hle : s.1.length ≤ 16384 := by omega
  refine ⟨hle, s.2.left, ?_, ?_⟩
  · rw [sealS_eq hle, hl, c2]
    have : b = enc n.1 ++ n.2.left := c.2.1
    rw [this, b2.2.2.1, a.2.2.1]; simp
  · rw [sealS_eq hle, hl, c2]
    have : b.length = (enc n.1 ++ n.2.left).length := congrArg List.length c.2.1
    rw [this, b2.2.2.1, a.2.2.1]; simp; omega
theorem open_short {b : List UInt8} : (openS b).2 ≤ b.length := by
  by_cases h : (openS b).2 = 0
  · omega
  · obtain ⟨_, r, h2, h3⟩ := open_inv h
    rw [h3]
    have := congrArg List.length h2
    rw [List.length_append] at this; omega
theorem open_cut {t p r : List UInt8} (h : t.length ≤ 16384) (hp : sealS t = p ++ r) (hr : r ≠ []) : (openS p).2 = 0 ∨ (openS p).2 ≠ p.length := by
  by_cases h0 : (openS p).2 = 0
  · exact .inl h0
  right
  intro hl
  obtain ⟨h1, r2, h2, h3⟩ := open_inv h0
  have h4 : r2 = [] := by
    have := congrArg List.length h2
    rw [List.length_append] at this
    exact List.eq_nil_of_length_eq_zero (by omega)
  subst h4
  rw [List.append_nil] at h2
  have e1 : openS (p ++ r) = (t, (sealS t).length) := by rw [← hp]; have := open_seal h []; rwa [List.append_nil] at this
  have e3 : openS (p ++ r) = ((openS p).1, p.length) := by have := open_seal h1 r; rwa [← h2] at this
  have e4 := congrArg Prod.snd (e1.symm.trans e3)
  simp only at e4
  have e2 := congrArg List.length hp
  rw [List.length_append] at e2
  have : r.length = 0 := by omega
  exact hr (List.eq_nil_of_length_eq_zero this)
theorem sealS_pos {t : List UInt8} (h : t.length ≤ 16384) : 0 < (sealS t).length := by
  rw [sealS_eq h, List.length_append, List.length_append, fourB_len]; omega
theorem sealS_len {t : List UInt8} (h : t.length ≤ 16384) : (sealS t).length ≤ t.length + 13 := by
  rw [sealS_eq h]
  have := enc_len9 (n := t.length) (by omega)
  simp only [List.length_append, fourB_len]; omega
theorem sealS_inj {a b : List UInt8} (ha : a.length ≤ 16384) (hb : b.length ≤ 16384) (h : sealS a = sealS b) : a = b := by
  have e1 := open_seal ha []
  have e2 := open_seal hb []
  rw [h, e2] at e1
  exact (congrArg Prod.fst e1).symm
theorem enc2 (v : Int) (r : List UInt8) (m : Nat) (h0 : 0 ≤ v) (h1 : v ≤ m) (hm : m < 9223372036854775808) : natS ⟨enc v.toNat ++ r, false⟩ m = (v.toNat, ⟨r, false⟩) := by
  rw [natS_enc (by rw [p128]; omega), if_pos (by omega)]
theorem getI_enc (x : Item) (r : List UInt8) (h1 : 0 ≤ x.rep ∧ x.rep ≤ 6) (h2 : 0 ≤ x.num ∧ x.num ≤ 64) : getI ⟨encs [x.rep, x.num] ++ r, false⟩ = (x, ⟨r, false⟩) := by
  have e : encs [x.rep, x.num] ++ r = enc x.rep.toNat ++ (enc x.num.toNat ++ r) := by simp [encs]
  unfold getI
  rw [e, enc2 _ _ 6 h1.1 (by omega) (by omega)]
  simp only
  rw [enc2 _ _ 64 h2.1 (by omega) (by omega)]
  obtain ⟨a, b⟩ := x
  simp at h1 h2 ⊢; omega
theorem getBal_enc (x : Ballot) (r : List UInt8) (h1 : 0 ≤ x.round ∧ x.round ≤ 1099511627776) (h2 : 0 ≤ x.rep ∧ x.rep ≤ 6) : getBal ⟨encs [x.round, x.rep] ++ r, false⟩ = (x, ⟨r, false⟩) := by
  have e : encs [x.round, x.rep] ++ r = enc x.round.toNat ++ (enc x.rep.toNat ++ r) := by simp [encs]
  unfold getBal
  rw [e, enc2 _ _ 1099511627776 h1.1 (by omega) (by omega)]
  simp only
  rw [enc2 _ _ 6 h2.1 (by omega) (by omega)]
  obtain ⟨a, b⟩ := x
  simp at h1 h2 ⊢; omega
theorem getBit_enc (b : Bool) (r : List UInt8) : natS ⟨bitB b ++ r, false⟩ 1 = (if b then 1 else 0, ⟨r, false⟩) := by
  cases b
  · rw [show bitB false = enc 0 by rw [enc_small (by omega)]; rfl, natS_enc (by rw [p128]; omega), if_pos (by omega)]; rfl
  · rw [show bitB true = enc 1 by rw [enc_small (by omega)]; rfl, natS_enc (by rw [p128]; omega), if_pos (by omega)]; rfl
theorem goodC_7 {c : Call} {n : Int} (h : goodC c n = true) (hn : n ≤ 7) : goodC c 7 = true := by
  unfold goodC at h ⊢
  simp only [Bool.and_eq_true, decide_eq_true_eq] at h ⊢
  obtain ⟨⟨⟨h1, h2⟩, h3⟩, h4⟩ := h
  refine ⟨⟨⟨h1, goodD_yes fun i hi => ?_⟩, h3⟩, h4⟩
  have := goodD_of h2 i hi
  exact ⟨this.1, this.2.1, fun h => by omega⟩
theorem call_congr {a b : Call} (h : CV a = CV b) : a.deed = b.deed ∧ (∀ i, i < 7 → a.deps i = b.deps i) ∧ a.seq = b.seq := by
  obtain ⟨h1, h2, h3⟩ := (TCall_ext a b).1 h
  refine ⟨?_, DV_inj h2, h3⟩
  obtain ⟨x1, x2, x3, x4, x5, x6⟩ := (TDeed_ext a.deed b.deed).1 h1
  cases ha : a.deed; cases hb : b.deed
  rw [ha, hb] at x1 x2 x3 x4 x5 x6
  simp only at x1 x2 x3 x4 x5 x6
  rw [x1, x2, x3, x4, x5, x6]
theorem goodC_congr {a b : Call} (h : CV a = CV b) (n : Int) (hg : goodC a n = true) : goodC b n = true := by
  obtain ⟨h1, h2, h3⟩ := call_congr h
  unfold goodC at hg ⊢
  simp only [Bool.and_eq_true, decide_eq_true_eq] at hg ⊢
  obtain ⟨⟨⟨g1, g2⟩, g3⟩, g4⟩ := hg
  refine ⟨⟨⟨h1 ▸ g1, goodD_yes fun i hi => ?_⟩, h3 ▸ g3⟩, h3 ▸ g4⟩
  rw [← h2 i hi]; exact goodD_of g2 i hi
theorem getI_inv {s : Src} (h : (getI s).2.dry = false) : s.dry = false ∧ s.left = encs [(getI s).1.rep, (getI s).1.num] ++ (getI s).2.left ∧ 0 ≤ (getI s).1.rep ∧ (getI s).1.rep ≤ 6 ∧ 0 ≤ (getI s).1.num ∧ (getI s).1.num ≤ 64 := by
  unfold getI at h ⊢
  simp only at h ⊢
  obtain ⟨a1, a2, a3, _⟩ := natS_inv h
  obtain ⟨b1, b2, b3, _⟩ := natS_inv a1
  refine ⟨b1, ?_, by omega, by omega, by omega, by omega⟩
  rw [b2, a2]; simp [encs]
theorem getBal_inv {s : Src} (h : (getBal s).2.dry = false) : s.dry = false ∧ s.left = encs [(getBal s).1.round, (getBal s).1.rep] ++ (getBal s).2.left ∧ 0 ≤ (getBal s).1.round ∧ (getBal s).1.round ≤ 1099511627776 ∧ 0 ≤ (getBal s).1.rep ∧ (getBal s).1.rep ≤ 6 := by
  unfold getBal at h ⊢
  simp only at h ⊢
  obtain ⟨a1, a2, a3, _⟩ := natS_inv h
  obtain ⟨b1, b2, b3, _⟩ := natS_inv a1
  refine ⟨b1, ?_, by omega, by omega, by omega, by omega⟩
  rw [b2, a2]; simp [encs]
theorem getBit_inv {s : Src} (h : (natS s 1).2.dry = false) : s.dry = false ∧ s.left = bitB ((natS s 1).1 == 1) ++ (natS s 1).2.left := by
  obtain ⟨a1, a2, a3, _⟩ := natS_inv h
  refine ⟨a1, ?_⟩
  generalize natS s 1 = x at *
  have : x.1 = 0 ∨ x.1 = 1 := by omega
  rcases this with e | e
  · rw [a2, e, show bitB ((0 : Nat) == 1) = enc 0 by rw [enc_small (by omega)]; rfl]
  · rw [a2, e, show bitB ((1 : Nat) == 1) = enc 1 by rw [enc_small (by omega)]; rfl]
theorem in64 {a : Int} (h0 : 0 ≤ a) (h1 : a ≤ 1099511627776) : In64 a := by unfold In64; omega
theorem callB_congr {a b : Call} (h : CV a = CV b) : callB a = callB b := by
  obtain ⟨h1, h2, h3⟩ := call_congr h
  unfold callB depsL
  rw [h1, h3, h2 0 (by omega), h2 1 (by omega), h2 2 (by omega), h2 3 (by omega), h2 4 (by omega), h2 5 (by omega), h2 6 (by omega)]
theorem status_enc (v : Int) (r : List UInt8) (h0 : 0 ≤ v) (h1 : v ≤ 3) : natS ⟨encs [v] ++ r, false⟩ 3 = (v.toNat, ⟨r, false⟩) := by
  have e : encs [v] ++ r = enc v.toNat ++ r := by simp [encs]
  rw [e, enc2 v r 3 h0 h1 (by omega)]
theorem inst_congr {a b : Inst} (h : NV a = NV b) : a.prom = b.prom ∧ a.vote = b.vote ∧ a.status = b.status ∧ CV a.call = CV b.call ∧ a.same = b.same := by
  obtain ⟨h1, h2, h3, h4, h5⟩ := (TInst_ext a b).1 h
  have e1 := (TBallot_ext _ _).1 h1
  have e2 := (TBallot_ext _ _).1 h2
  refine ⟨?_, ?_, h3, h4, h5⟩
  · cases ha : a.prom; cases hb : b.prom; rw [ha, hb] at e1; simp at e1 ⊢; exact e1
  · cases ha : a.vote; cases hb : b.vote; rw [ha, hb] at e2; simp at e2 ⊢; exact e2
theorem recB_congr {x : Item} {a b : Inst} (h : NV a = NV b) : recB x a = recB x b := by
  obtain ⟨h1, h2, h3, h4, h5⟩ := inst_congr h
  unfold recB
  rw [h1, h2, h3, h5, callB_congr h4]
theorem goodN_congr {a b : Inst} (h : NV a = NV b) (n : Int) : goodN a n = goodN b n := by
  have key : ∀ {a b : Inst}, NV a = NV b → goodN a n = true → goodN b n = true := fun {a b} h hg => by
    obtain ⟨h1, h2, h3, h4, h5⟩ := inst_congr h
    unfold goodN at hg ⊢
    simp only [Bool.and_eq_true] at hg ⊢
    obtain ⟨⟨⟨⟨g1, g2⟩, g3⟩, g4⟩, g5⟩ := hg
    refine ⟨⟨⟨⟨h1 ▸ g1, h2 ▸ g2⟩, h3 ▸ g3⟩, goodC_congr h4 n g4⟩, ?_⟩
    have hb : bareI a = bareI b := by unfold bareI; rw [h1]
    rw [← h3, ← h, ← hb]; exact g5
  rw [Bool.eq_iff_iff]
  exact ⟨key h, key h.symm⟩
/-- A record is read as it was written. -/
theorem read_rec {x : Item} {i : Inst} {n : Int} (hn : n ≤ 7) (hx : goodI x n = true) (hi : goodN i n = true) : okT n (recB x i) = true ∧ (readS ⟨recB x i, false⟩).1 = x ∧ NV (readS ⟨recB x i, false⟩).2.1 = NV i := by
  have hin := goodN_in hi hn
  have hgx := hx
  unfold goodI at hgx
  rw [decide_eq_true_iff] at hgx
  have hgi := hi
  unfold goodN at hgi
  simp only [Bool.and_eq_true, decide_eq_true_eq] at hgi
  obtain ⟨⟨⟨⟨g1, g2⟩, g3⟩, g4⟩, g5⟩ := hgi
  unfold goodBal at g1 g2
  rw [decide_eq_true_iff] at g1 g2
  obtain ⟨c', hc, hcv⟩ := getC_enc (N := 100) (by omega) hin.call (goodC_7 g4 hn) []
  rw [List.append_nil] at hc
  have e : readS ⟨recB x i, false⟩ = (x, ⟨i.prom, i.vote, i.status.toNat, c', i.same⟩, ⟨[], false⟩) := by
    unfold readS recB
    simp only [List.append_assoc]
    rw [getI_enc x _ (by omega) (by omega)]
    simp only
    rw [getBal_enc i.prom _ (by omega) (by omega)]
    simp only
    rw [getBal_enc i.vote _ (by omega) (by omega)]
    simp only
    rw [status_enc i.status _ (by omega) (by omega)]
    simp only
    rw [getBit_enc i.same _]
    simp only
    rw [hc]
    cases i.same <;> rfl
  have hnv : NV (⟨i.prom, i.vote, i.status.toNat, c', i.same⟩ : Inst) = NV i := (TInst_ext _ _).2 ⟨rfl, rfl, by simp only; omega, hcv, rfl⟩
  refine ⟨?_, by rw [e], by rw [e]; exact hnv⟩
  unfold okT
  rw [e]
  simp only [hx, goodN_congr hnv n, hi]
  rfl
end Go.Proofs.Ytpganpiidgkofaa
/- Layers 6, 8, 9: records behind one another; what a loss of power leaves of them. No walk stands here. -/
namespace Go.Proofs.Ytpganpiidgkofaa
open Go.RowKit
set_option linter.unusedVariables false
/-! a sum tells one byte from another -/
theorem crc1_inj {c d : Nat} (hc : c < 4294967296) (hd : d < 4294967296) (h : crc1 c = crc1 d) : c = d := by
  have hi : ∀ x, x < 2147483648 → 2147483648 ≤ x ^^^ crcP := fun x hx => by
    have h1 : (x ^^^ crcP) / 2147483648 = x / 2147483648 ^^^ crcP / 2147483648 := by
      have := Nat.shiftRight_xor_distrib (a := x) (b := crcP) (i := 31)
      simpa [Nat.shiftRight_eq_div_pow] using this
    rw [Nat.div_eq_of_lt hx] at h1
    have h2 : crcP / 2147483648 = 1 := by decide
    rw [h2] at h1
    have h3 : (0 : Nat) ^^^ 1 = 1 := by decide
    rw [h3] at h1
    omega
  unfold crc1 at h
  by_cases h1 : c % 2 = 1 <;> by_cases h2 : d % 2 = 1
  · rw [if_pos h1, if_pos h2] at h
    have := congrArg (· ^^^ crcP) h
    simp only [Nat.xor_assoc, Nat.xor_self, Nat.xor_zero] at this
    omega
  · rw [if_pos h1, if_neg h2] at h
    have := hi (c / 2) (by omega)
    omega
  · rw [if_neg h1, if_pos h2] at h
    have := hi (d / 2) (by omega)
    omega
  · rw [if_neg h1, if_neg h2] at h
    omega
theorem crcN_inj {c d : Nat} (hc : c < 4294967296) (hd : d < 4294967296) : ∀ k, crcN k c = crcN k d → c = d
  | 0, h => h
  | k + 1, h => crcN_inj hc hd k (crc1_inj (crcN_lt hc k) (crcN_lt hd k) h)
theorem crcB_inj {c a b : Nat} (hc : c < 4294967296) (ha : a < 256) (hb : b < 256) (h : crcB c a = crcB c b) : a = b := by
  unfold crcB at h
  have h1 := crcN_inj (Nat.xor_lt_two_pow (n := 32) (by omega) (by omega)) (Nat.xor_lt_two_pow (n := 32) (by omega) (by omega)) 8 h
  have := congrArg (c ^^^ ·) h1
  simpa [← Nat.xor_assoc] using this
theorem crc_last {l : List UInt8} {a b : UInt8} (h : crc (l ++ [a]) = crc (l ++ [b])) : a = b := by
  have hl := crcL_lt (l := l) (c := 4294967295) (by omega)
  unfold crc at h
  rw [crcL_snoc, crcL_snoc] at h
  have h1 := crcB_lt hl a.toNat_lt
  have h2 := crcB_lt hl b.toNat_lt
  have := crcB_inj hl a.toNat_lt b.toNat_lt (by omega)
  exact UInt8.toNat_inj.1 this
theorem fourB_inj {c d : Nat} (hc : c < 4294967296) (hd : d < 4294967296) (h : fourB c = fourB d) : c = d := by
  unfold fourB at h
  simp only [List.cons.injEq, and_true] at h
  obtain ⟨h0, h1, h2, h3⟩ := h
  have e : ∀ x y : Nat, UInt8.ofNat x = UInt8.ofNat y → x % 256 = y % 256 := fun x y h => by
    have := congrArg UInt8.toNat h
    simpa using this
  have := e _ _ h0; have := e _ _ h1; have := e _ _ h2; have := e _ _ h3
  omega
/-! texts behind one another -/
theorem seals_cons {t r : List UInt8} (h : t.length ≤ 16384) (f at' : Nat) : seals (f + 1) at' (sealS t ++ r) = (at' + (sealS t).length, t) :: seals f (at' + (sealS t).length) r := by
  have h1 := open_seal h r
  have h2 := sealS_pos h
  conv => lhs; unfold seals
  rw [h1]
  rw [if_neg (by simp only; omega)]
  simp only [List.drop_left]
theorem seals_none {r : List UInt8} (h : (openS r).2 = 0) (f at' : Nat) : seals f at' r = [] := by
  cases f with
  | zero => rfl
  | succ f => unfold seals; rw [if_pos h]
/-- The texts of records, with how far each reaches. -/
def recT : Nat → List Ent → List (Nat × List UInt8)
  | _, [] => []
  | at', e :: t => (at' + (recOf e).length, recB e.1 e.2) :: recT (at' + (recOf e).length) t
/-- Entries that can be, among n replicas. -/
def GoodE (n : Int) (rs : List Ent) : Prop := ∀ e ∈ rs, goodI e.1 n = true ∧ goodN e.2 n = true
theorem recB_le {n : Int} (hn : n ≤ 7) {e : Ent} (h : goodI e.1 n = true ∧ goodN e.2 n = true) : (recB e.1 e.2).length ≤ 290 := by
  have h1 := goodI_in h.1 hn
  exact recB_len h1.1 h1.2 (goodN_in h.2 hn) (by omega)
theorem recOf_eq (e : Ent) : recOf e = sealS (recB e.1 e.2) := rfl
theorem recsOf_cons (e : Ent) (t : List Ent) : recsOf (e :: t) = recOf e ++ recsOf t := by simp [recsOf]
theorem recsOf_app (a b : List Ent) : recsOf (a ++ b) = recsOf a ++ recsOf b := by simp [recsOf]
theorem seals_recs {n : Int} (hn : n ≤ 7) : ∀ (rs : List Ent) (r : List UInt8) (f at' : Nat), GoodE n rs → rs.length ≤ f → seals f at' (recsOf rs ++ r) = recT at' rs ++ seals (f - rs.length) (at' + (recsOf rs).length) r
  | [], r, f, at', _, _ => by simp [recsOf, recT]
  | e :: t, r, f, at', hg, hf => by
    have he := hg e (by simp)
    have hl := recB_le hn he
    obtain ⟨f, rfl⟩ : ∃ f', f = f' + 1 := ⟨f - 1, by simp at hf; omega⟩
    rw [recsOf_cons, List.append_assoc, recOf_eq, seals_cons (by omega)]
    rw [seals_recs hn t r f _ (fun x hx => hg x (by simp [hx])) (by simpa using hf)]
    simp only [recT, recOf_eq, List.cons_append, List.length_append, List.length_cons]
    rw [show f + 1 - (t.length + 1) = f - t.length by omega, Nat.add_assoc]
theorem recs_long {n : Int} (hn : n ≤ 7) : ∀ (rs : List Ent), GoodE n rs → rs.length ≤ (recsOf rs).length
  | [], _ => by simp
  | e :: t, hg => by
    have h1 := recs_long hn t fun x hx => hg x (by simp [hx])
    have h2 := sealS_pos (t := recB e.1 e.2) (by have := recB_le hn (hg e (by simp)); omega)
    rw [recsOf_cons, List.length_append, List.length_cons, recOf_eq]
    omega
theorem recT_ok {n : Int} (hn : n ≤ 7) : ∀ (rs : List Ent) (at' : Nat), GoodE n rs → (recT at' rs).all (fun t => okT n t.2) = true
  | [], _, _ => rfl
  | e :: t, at', hg => by
    have he := hg e (by simp)
    simp only [recT, List.all_cons, Bool.and_eq_true]
    exact ⟨(read_rec hn he.1 he.2).1, recT_ok hn t _ fun x hx => hg x (by simp [hx])⟩
/-- Bytes at which no record that can be stands. -/
def NoRec (n : Int) (r : List UInt8) : Prop := (openS r).2 = 0 ∨ okT n (openS r).1 = false
theorem takeWhile_app {α : Type} {p : α → Bool} : ∀ {a b : List α}, a.all p = true → (a ++ b).takeWhile p = a ++ b.takeWhile p
  | [], b, _ => rfl
  | x :: a, b, h => by
    simp at h
    simp [h.1]
    exact takeWhile_app (by simpa using h.2)
theorem goT_recs {n : Int} (hn : n ≤ 7) {rs : List Ent} (hg : GoodE n rs) {r : List UInt8} (hr : NoRec n r) : goT n (recsOf rs ++ r) = recT 0 rs := by
  unfold goT allS
  rw [seals_recs hn rs r _ 0 hg (by have := recs_long hn rs hg; rw [List.length_append]; omega), takeWhile_app (recT_ok hn rs 0 hg)]
  have hnil : ∀ f at', (seals f at' r).takeWhile (fun t => okT n t.2) = [] := fun f at' => by
    rcases hr with h | h
    · rw [seals_none h]; rfl
    · cases f with
      | zero => rfl
      | succ f =>
        unfold seals
        split
        · rfl
        · rw [List.takeWhile_cons]; simp only [h, Bool.false_eq_true, if_false]
  rw [hnil, List.append_nil]
theorem recT_last : ∀ (rs : List Ent) (at' : Nat), ((recT at' rs).getLast?.map (·.1)).getD at' = at' + (recsOf rs).length
  | [], at' => by simp [recT, recsOf]
  | e :: t, at' => by
    have h := recT_last t (at' + (recOf e).length)
    rw [recsOf_cons, List.length_append, ← Nat.add_assoc, ← h]
    simp only [recT, List.getLast?_cons]
    cases hl : (recT (at' + (recOf e).length) t).getLast? <;> simp
theorem eK_recs (rs : List Ent) : eK (recT 0 rs) = (recsOf rs).length := by
  have := recT_last rs 0
  rw [Nat.zero_add] at this
  exact this
/-! what is left, its last byte spoiled -/
def spoilL (l : List UInt8) (s : UInt8) : List UInt8 := if l = [] then [] else l.set (l.length - 1) (l.getD (l.length - 1) 0 ^^^ s)
theorem spoil_snoc (p : List UInt8) (c s : UInt8) : spoilL (p ++ [c]) s = p ++ [c ^^^ s] := by
  unfold spoilL
  rw [if_neg (by simp)]
  simp [List.getD]
theorem spoil_app (a : List UInt8) {b : List UInt8} (hb : b ≠ []) (s : UInt8) : spoilL (a ++ b) s = a ++ spoilL b s := by
  obtain ⟨p, c, rfl⟩ : ∃ p c, b = p ++ [c] := ⟨b.dropLast, b.getLast hb, (List.dropLast_concat_getLast hb).symm⟩
  rw [← List.append_assoc, spoil_snoc, spoil_snoc, List.append_assoc]
theorem spoil_nil (s : UInt8) : spoilL [] s = [] := rfl
theorem open_nil : (openS []).2 = 0 := by have := openS_le []; simpa using this
theorem no_enc {n m : Nat} {a b : List UInt8} (hn : n ≤ 16384) (hm : m ≤ 16384) (h : enc n ++ a = enc m ++ b) : n = m := by
  have h1 := natS_enc (v := n) (by rw [p128]; omega) a 16384
  have h2 := natS_enc (v := m) (by rw [p128]; omega) b 16384
  rw [if_pos hn] at h1
  rw [if_pos hm] at h2
  rw [h, h2] at h1
  exact (congrArg Prod.fst h1).symm
/-- A sealed text cut short, its last byte spoiled, is none. -/
theorem open_part {t p q : List UInt8} {c d : UInt8} (h : t.length ≤ 16384) (hp : sealS t = p ++ c :: q) (hq : q ≠ []) : (openS (p ++ [d])).2 = 0 := by
  by_cases h0 : (openS (p ++ [d])).2 = 0
  · exact h0
  exfalso
  obtain ⟨h1, r, h2, h3⟩ := open_inv h0
  generalize (openS (p ++ [d])).1 = t2 at *
  rw [sealS_eq h1] at h2
  rw [sealS_eq h] at hp
  -- the length's bytes are the same
  have hlen := congrArg List.length h2
  simp only [List.length_append, fourB_len, List.length_cons, List.length_nil] at hlen
  have hpre : ∃ z, p = enc t2.length ++ z := by
    have h4 : (p ++ [d]).take (enc t2.length).length = enc t2.length := by
      rw [h2]; simp only [List.append_assoc]; exact List.take_left
    rw [List.take_append_of_le_length (by omega)] at h4
    exact ⟨p.drop (enc t2.length).length, by conv => lhs; rw [← List.take_append_drop (enc t2.length).length p, h4]⟩
  obtain ⟨z, rfl⟩ := hpre
  have hnn := no_enc (a := fourB (crc (enc t.length ++ t)) ++ t) (b := z ++ c :: q) h h1 (by rw [← List.append_assoc, hp, List.append_assoc])
  have hl2 := congrArg List.length hp
  simp only [List.length_append, fourB_len, List.length_cons] at hl2 hlen
  have : 0 < q.length := List.length_pos_iff.2 hq
  rw [hnn] at hl2
  omega
/-- A sealed text, its last byte turned, is none. -/
theorem open_turned {t p : List UInt8} {c d : UInt8} (h : (p ++ [c]).length ≤ 16384) (hcd : c ≠ d) (ht : t = p ++ [c]) : (openS (enc t.length ++ fourB (crc (enc t.length ++ t)) ++ (p ++ [d]))).2 = 0 := by
  subst ht
  have e1 : natS ⟨enc (p ++ [c]).length ++ fourB (crc (enc (p ++ [c]).length ++ (p ++ [c]))) ++ (p ++ [d]), false⟩ 16384 = ((p ++ [c]).length, ⟨fourB (crc (enc (p ++ [c]).length ++ (p ++ [c]))) ++ (p ++ [d]), false⟩) := by
    rw [List.append_assoc, natS_enc (by rw [p128]; omega), if_pos h]
  have e2 : rawS ⟨fourB (crc (enc (p ++ [c]).length ++ (p ++ [c]))) ++ (p ++ [d]), false⟩ 4 = (fourB (crc (enc (p ++ [c]).length ++ (p ++ [c]))), ⟨p ++ [d], false⟩) := rawS_app rfl
  have e3 : rawS ⟨p ++ [d], false⟩ (p ++ [c]).length = (p ++ [d], ⟨[], false⟩) := by
    have := rawS_app (a := p ++ [d]) (r := []) (n := ((p ++ [c]).length : Int)) (by simp)
    rwa [List.append_nil] at this
  unfold openS
  simp only [e1, e2, e3]
  rw [if_pos]
  right
  intro hf
  have := fourB_inj (crc_lt _) (crc_lt _) hf
  rw [← List.append_assoc, ← List.append_assoc] at this
  exact hcd (crc_last this).symm
/-- What a loss of power leaves of records: some of them, in order, and nothing that is one. -/
theorem spoiled {n : Int} (hn : n ≤ 7) (s : UInt8) : ∀ (rs : List Ent) (k : Nat), GoodE n rs → k ≤ (recsOf rs).length → ∃ j r, j ≤ rs.length ∧ spoilL ((recsOf rs).take k) s = recsOf (rs.take j) ++ r ∧ NoRec n r
  | [], k, _, hk => ⟨0, [], Nat.le_refl _, by simp [recsOf, spoil_nil], .inl open_nil⟩
  | e :: t, k, hg, hk => by
    have he := hg e (by simp)
    have hl := recB_le hn he
    have hlt : (recB e.1 e.2).length ≤ 16384 := by omega
    by_cases h0 : k = 0
    · subst h0
      exact ⟨0, [], Nat.zero_le _, by simp [recsOf, spoil_nil], .inl open_nil⟩
    by_cases hgt : (recOf e).length < k
    · have hk2 : k - (recOf e).length ≤ (recsOf t).length := by rw [recsOf_cons, List.length_append] at hk; omega
      obtain ⟨j, r, hj, hs, hr⟩ := spoiled hn s t (k - (recOf e).length) (fun x hx => hg x (by simp [hx])) hk2
      refine ⟨j + 1, r, by simpa using hj, ?_, hr⟩
      rw [recsOf_cons, List.take_append, List.take_of_length_le (by omega), spoil_app _ (fun h => ?_), hs, List.take_succ_cons, recsOf_cons, List.append_assoc]
      have := congrArg List.length h
      rw [List.length_take] at this
      simp only [List.length_nil] at this
      omega
    · -- within the first record
      rw [recsOf_cons, List.take_append_of_le_length (by omega)]
      by_cases heq : k = (recOf e).length
      · rw [heq, List.take_length]
        have hb0 : 0 < (recB e.1 e.2).length := by
          have h2 := enc_pos e.1.rep.toNat
          unfold recB
          simp only [encs, List.flatMap_cons, List.length_append]
          omega
        have hb : recB e.1 e.2 ≠ [] := fun h => by rw [h] at hb0; simp at hb0
        obtain ⟨p, c, hpc⟩ : ∃ p c, recB e.1 e.2 = p ++ [c] := ⟨(recB e.1 e.2).dropLast, (recB e.1 e.2).getLast hb, (List.dropLast_concat_getLast hb).symm⟩
        have hsp : spoilL (recOf e) s = enc (recB e.1 e.2).length ++ fourB (crc (enc (recB e.1 e.2).length ++ recB e.1 e.2)) ++ (p ++ [c ^^^ s]) := by
          rw [recOf_eq, sealS_eq hlt]
          conv => lhs; rw [spoil_app _ hb]
          rw [hpc, spoil_snoc]
        by_cases hcs : c = c ^^^ s
        · refine ⟨1, [], by simp, ?_, .inl open_nil⟩
          rw [hsp, ← hcs, ← hpc, ← sealS_eq hlt]
          simp [recsOf, recOf_eq]
        · refine ⟨0, spoilL (recOf e) s, Nat.zero_le _, by simp [recsOf], .inl ?_⟩
          rw [hsp]
          exact open_turned (by rw [← hpc]; exact hlt) hcs hpc
      · refine ⟨0, spoilL ((recOf e).take k) s, Nat.zero_le _, by simp [recsOf], .inl ?_⟩
        have hlt2 : k < (recOf e).length := by omega
        obtain ⟨k', rfl⟩ : ∃ k', k = k' + 1 := ⟨k - 1, by omega⟩
        have hk3 : k' < (recOf e).length := by omega
        have htk : (recOf e).take (k' + 1) = (recOf e).take k' ++ [(recOf e)[k']] := (List.take_succ_eq_append_getElem hk3)
        rw [htk, spoil_snoc]
        refine open_part (t := recB e.1 e.2) (c := (recOf e)[k']) (q := (recOf e).drop (k' + 1)) hlt ?_ ?_
        · rw [← recOf_eq]
          conv => lhs; rw [← List.take_append_drop k' (recOf e), List.drop_eq_getElem_cons hk3]
        · intro h
          have := congrArg List.length h
          rw [List.length_drop] at this
          simp at this
          omega
theorem lost_eq {D : List UInt8} {safe : Nat} (h : safe ≤ D.length) (keep : Int) (s : UInt8) : lost D safe keep s = D.take safe ++ spoilL ((D.drop safe).take (keptN D.length safe keep)) s := by
  have hk := kept_le D.length safe keep h
  unfold lost
  simp only
  generalize keptN D.length safe keep = k at *
  have e : D.take (safe + k) = D.take safe ++ (D.drop safe).take k := List.take_add ..
  by_cases h0 : k = 0
  · subst h0
    rw [if_pos rfl]
    simp [spoil_nil]
  · rw [if_neg h0, e]
    have hl : ((D.drop safe).take k).length = k := by rw [List.length_take, List.length_drop]; omega
    have hls : (D.take safe).length = safe := by rw [List.length_take]; omega
    have hne : (D.drop safe).take k ≠ [] := fun hh => by rw [hh] at hl; simp at hl; omega
    have h2 := spoil_app (D.take safe) hne s
    rw [← h2]
    unfold spoilL
    rw [if_neg (by intro hh; have := congrArg List.length hh; rw [List.length_append, hl] at this; simp at this; omega)]
    rw [List.length_append, hl, hls]
end Go.Proofs.Ytpganpiidgkofaa
