/- Several texts in one. -/
import Derived.Test.YtahajjfbkdocaaaDoorZ22
/- Layers 6, 7: what was sealed is opened, what was written is read, and the other way. No walk stands here. -/
namespace Go.Proofs.YtahajjfbkdocaaaDoor
open Go.RowKit
set_option linter.unusedVariables false
theorem p128 : (128 : Nat) ^ 9 = 9223372036854775808 := by decide
theorem rawS_app {a r : List UInt8} {n : Int} (h : (a.length : Int) = n) : rawS ⟨a ++ r, false⟩ n = (a, ⟨r, false⟩) := by
  unfold rawS
  rw [if_neg (by simp; omega)]
  have : n.toNat = a.length := by omega
  rw [this, List.take_left, List.drop_left]
theorem fourB_len (c : Nat) : (fourB c).length = 4 := rfl
theorem sealS_eq {t : List UInt8} (h : t.length ≤ 16384) : sealS t = enc t.length ++ fourB (crc (enc t.length ++ t)) ++ t := by
  unfold sealS; rw [if_neg (by omega)]; rfl
theorem open_seal {t : List UInt8} (h : t.length ≤ 16384) (r : List UInt8) : openS (sealS t ++ r) = (t, (sealS t).length) := by
  have e1 : natS ⟨sealS t ++ r, false⟩ 16384 = (t.length, ⟨fourB (crc (enc t.length ++ t)) ++ (t ++ r), false⟩) := by
    rw [sealS_eq h, List.append_assoc, List.append_assoc, natS_enc (by rw [p128]; omega), if_pos h]
  have e2 : rawS ⟨fourB (crc (enc t.length ++ t)) ++ (t ++ r), false⟩ 4 = (fourB (crc (enc t.length ++ t)), ⟨t ++ r, false⟩) := rawS_app rfl
  have e3 : rawS ⟨t ++ r, false⟩ t.length = (t, ⟨r, false⟩) := rawS_app rfl
  unfold openS
  simp only [e1, e2, e3]
  rw [if_neg (by simp)]
  simp
theorem rawS_inv2 {s : Src} {n : Int} (h : (rawS s n).2.dry = false) : s.dry = false ∧ 0 ≤ n ∧ s.left = (rawS s n).1 ++ (rawS s n).2.left ∧ ((rawS s n).1.length : Int) = n := by
  unfold rawS at h ⊢
  split at h
  · simp [dryS] at h
  · rename_i hc
    rw [if_neg hc]
    simp only [not_or, Bool.not_eq_true] at hc
    refine ⟨hc.1, by omega, by simp, ?_⟩
    simp only [List.length_take]; omega
theorem rawS_dry {n : Int} {s : Src} (h : s.dry = true) : (rawS s n).2.dry = true := by
  unfold rawS; rw [if_pos (.inl h)]; rfl
/-- What is opened was sealed. -/
theorem open_inv {b : List UInt8} (h : (openS b).2 ≠ 0) : (openS b).1.length ≤ 16384 ∧ ∃ r, b = sealS (openS b).1 ++ r ∧ (openS b).2 = (sealS (openS b).1).length := by
  obtain ⟨n, hn⟩ : ∃ n, n = natS ⟨b, false⟩ 16384 := ⟨_, rfl⟩
  obtain ⟨q, hq⟩ : ∃ q, q = rawS n.2 4 := ⟨_, rfl⟩
  obtain ⟨s, hs⟩ : ∃ s, s = rawS q.2 n.1 := ⟨_, rfl⟩
  have ho : openS b = if s.2.dry = true ∨ fourB (crc (enc n.1 ++ s.1)) ≠ q.1 then ([], 0) else (s.1, b.length - s.2.left.length) := by
    rw [hs, hq, hn]; rfl
  rw [ho] at h ⊢
  split at h
  · exact absurd rfl h
  rename_i hc
  rw [if_neg hc]
  simp only [not_or, ne_eq, Decidable.not_not, Bool.not_eq_true] at hc
  obtain ⟨c1, c2⟩ := hc
  have a := rawS_inv2 (s := q.2) (n := n.1) (by rw [← hs]; exact c1)
  rw [← hs] at a
  have b2 := rawS_inv2 (s := n.2) (n := 4) (by rw [← hq]; exact a.1)
  rw [← hq] at b2
  have c := natS_inv (s := ⟨b, false⟩) (most := 16384) (by rw [← hn]; exact b2.1)
  rw [← hn] at c
  have hl : s.1.length = n.1 := by omega
  have hle : s.1.length ≤ 16384 := by omega
  refine ⟨hle, s.2.left, ?_, ?_⟩
  · rw [sealS_eq hle, hl, c2]
    have : b = enc n.1 ++ n.2.left := c.2.1
    rw [this, b2.2.2.1, a.2.2.1]; simp
  · rw [sealS_eq hle, hl, c2]
    have : b.length = (enc n.1 ++ n.2.left).length := congrArg List.length c.2.1
    rw [this, b2.2.2.1, a.2.2.1]; simp; omega
theorem open_short {b : List UInt8} : (openS b).2 ≤ b.length := by
  by_cases h : (openS b).2 = 0
  · omega
  · obtain ⟨_, r, h2, h3⟩ := open_inv h
    rw [h3]
    have := congrArg List.length h2
    rw [List.length_append] at this; omega
/-- A proper beginning of what was sealed is none. -/
theorem open_cut {t p r : List UInt8} (h : t.length ≤ 16384) (hp : sealS t = p ++ r) (hr : r ≠ []) : (openS p).2 = 0 ∨ (openS p).2 ≠ p.length := by
  by_cases h0 : (openS p).2 = 0
  · exact .inl h0
  right
  intro hl
  obtain ⟨h1, r2, h2, h3⟩ := open_inv h0
  have h4 : r2 = [] := by
    have := congrArg List.length h2
    rw [List.length_append] at this
    exact List.eq_nil_of_length_eq_zero (by omega)
  subst h4
  rw [List.append_nil] at h2
  have e1 : openS (p ++ r) = (t, (sealS t).length) := by rw [← hp]; have := open_seal h []; rwa [List.append_nil] at this
  have e3 : openS (p ++ r) = ((openS p).1, p.length) := by have := open_seal h1 r; rwa [← h2] at this
  have e4 := congrArg Prod.snd (e1.symm.trans e3)
  simp only at e4
  have e2 := congrArg List.length hp
  rw [List.length_append] at e2
  have : r.length = 0 := by omega
  exact hr (List.eq_nil_of_length_eq_zero this)
theorem sealS_pos {t : List UInt8} (h : t.length ≤ 16384) : 0 < (sealS t).length := by
  rw [sealS_eq h, List.length_append, List.length_append, fourB_len]; omega
theorem sealS_len {t : List UInt8} (h : t.length ≤ 16384) : (sealS t).length ≤ t.length + 13 := by
  rw [sealS_eq h]
  have := enc_len9 (n := t.length) (by omega)
  simp only [List.length_append, fourB_len]; omega
theorem sealS_inj {a b : List UInt8} (ha : a.length ≤ 16384) (hb : b.length ≤ 16384) (h : sealS a = sealS b) : a = b := by
  have e1 := open_seal ha []
  have e2 := open_seal hb []
  rw [h, e2] at e1
  exact (congrArg Prod.fst e1).symm
/-! items and ballots -/
theorem enc2 (v : Int) (r : List UInt8) (m : Nat) (h0 : 0 ≤ v) (h1 : v ≤ m) (hm : m < 9223372036854775808) : natS ⟨enc v.toNat ++ r, false⟩ m = (v.toNat, ⟨r, false⟩) := by
  rw [natS_enc (by rw [p128]; omega), if_pos (by omega)]
theorem getI_enc (x : Item) (r : List UInt8) (h1 : 0 ≤ x.rep ∧ x.rep ≤ 6) (h2 : 0 ≤ x.num ∧ x.num ≤ 64) : getI ⟨encs [x.rep, x.num] ++ r, false⟩ = (x, ⟨r, false⟩) := by
  have e : encs [x.rep, x.num] ++ r = enc x.rep.toNat ++ (enc x.num.toNat ++ r) := by simp [encs]
  unfold getI
  rw [e, enc2 _ _ 6 h1.1 (by omega) (by omega)]
  simp only
  rw [enc2 _ _ 64 h2.1 (by omega) (by omega)]
  obtain ⟨a, b⟩ := x
  simp at h1 h2 ⊢; omega
theorem getBal_enc (x : Ballot) (r : List UInt8) (h1 : 0 ≤ x.round ∧ x.round ≤ 1099511627776) (h2 : 0 ≤ x.rep ∧ x.rep ≤ 6) : getBal ⟨encs [x.round, x.rep] ++ r, false⟩ = (x, ⟨r, false⟩) := by
  have e : encs [x.round, x.rep] ++ r = enc x.round.toNat ++ (enc x.rep.toNat ++ r) := by simp [encs]
  unfold getBal
  rw [e, enc2 _ _ 1099511627776 h1.1 (by omega) (by omega)]
  simp only
  rw [enc2 _ _ 6 h2.1 (by omega) (by omega)]
  obtain ⟨a, b⟩ := x
  simp at h1 h2 ⊢; omega
theorem getBit_enc (b : Bool) (r : List UInt8) : natS ⟨bitB b ++ r, false⟩ 1 = (if b then 1 else 0, ⟨r, false⟩) := by
  cases b
  · rw [show bitB false = enc 0 by rw [enc_small (by omega)]; rfl, natS_enc (by rw [p128]; omega), if_pos (by omega)]; rfl
  · rw [show bitB true = enc 1 by rw [enc_small (by omega)]; rfl, natS_enc (by rw [p128]; omega), if_pos (by omega)]; rfl
/-! what a good message is -/
theorem goodC_7 {c : Call} {n : Int} (h : goodC c n = true) (hn : n ≤ 7) : goodC c 7 = true := by
  unfold goodC at h ⊢
  simp only [Bool.and_eq_true, decide_eq_true_eq] at h ⊢
  obtain ⟨⟨⟨h1, h2⟩, h3⟩, h4⟩ := h
  refine ⟨⟨⟨h1, goodD_yes fun i hi => ?_⟩, h3⟩, h4⟩
  have := goodD_of h2 i hi
  exact ⟨this.1, this.2.1, fun h => by omega⟩
structure GoodM (m : Msg) (n : Int) : Prop where
  kind : 1 ≤ m.kind ∧ m.kind ≤ 8
  frm : 0 ≤ m.frm ∧ m.frm < n
  to : 0 ≤ m.to ∧ m.to < n
  rep : 0 ≤ m.item.rep ∧ m.item.rep < n
  num : 1 ≤ m.item.num ∧ m.item.num ≤ 64
  round : 0 ≤ m.bal.round ∧ m.bal.round ≤ 1099511627776
  brep : 0 ≤ m.bal.rep ∧ m.bal.rep < n
  call : callsB m.kind = true → goodC m.call n = true
  none : callsB m.kind = false → CV m.call = CV noCall
  bare : knownB m.kind = false → BV m.vote = BV noBallot ∧ m.status = 0
  same : m.same = true → m.kind = 2 ∨ knownB m.kind = true
  known : knownB m.kind = true → (0 ≤ m.vote.round ∧ m.vote.round ≤ 1099511627776 ∧ 0 ≤ m.vote.rep ∧ m.vote.rep < n) ∧ (0 ≤ m.status ∧ m.status ≤ 3) ∧ (m.status = 0 → BV m.vote = BV noBallot ∧ CV m.call = CV noCall ∧ m.same = false)
theorem goodM_iff (m : Msg) (n : Int) : goodM m n = true ↔ GoodM m n := by
  have hg : goodM m n = (decide (1 ≤ m.kind ∧ m.kind ≤ 8 ∧ 0 ≤ m.frm ∧ m.frm < n ∧ 0 ≤ m.to ∧ m.to < n) && goodI m.item n && goodBal m.bal n &&
    (if callsB m.kind then goodC m.call n else noC m) && (knownB m.kind || (noVote m && m.status == 0)) && (!m.same || m.kind == 2 || knownB m.kind) &&
    (!knownB m.kind || (goodBal m.vote n && decide (0 ≤ m.status ∧ m.status ≤ 3) && (m.status != 0 || (noVote m && noC m && !m.same))))) := rfl
  rw [hg]
  have hi : goodI m.item n = true ↔ 0 ≤ m.item.rep ∧ m.item.rep < n ∧ 1 ≤ m.item.num ∧ m.item.num ≤ 64 := by simp [goodI]
  have hb : ∀ b, goodBal b n = true ↔ 0 ≤ b.round ∧ b.round ≤ 1099511627776 ∧ 0 ≤ b.rep ∧ b.rep < n := by intro b; simp [goodBal]
  have hv : noVote m = true ↔ BV m.vote = BV noBallot := eqA_iff
  have hc : noC m = true ↔ CV m.call = CV noCall := eqA_iff
  simp only [Bool.and_eq_true, Bool.or_eq_true, decide_eq_true_eq, hi, hb, hv, hc, bne_iff_ne, beq_iff_eq, Bool.not_eq_true']
  constructor
  · rintro ⟨⟨⟨⟨⟨⟨h1, h2⟩, h3⟩, h4⟩, h5⟩, h6⟩, h7⟩
    refine ⟨by omega, by omega, by omega, by omega, by omega, by omega, by omega, fun h => ?_, fun h => ?_, fun h => ?_, fun h => ?_, fun h => ?_⟩
    · rw [if_pos h] at h4; exact h4
    · rw [if_neg (by simp [h])] at h4; exact hc.1 h4
    · rcases h5 with h5 | h5
      · rw [h] at h5; cases h5
      · exact h5
    · rcases h6 with (h6 | h6) | h6
      · rw [h] at h6; cases h6
      · exact .inl h6
      · exact .inr h6
    · rcases h7 with h7 | ⟨⟨h7, h8⟩, h9⟩
      · rw [h] at h7; cases h7
      · refine ⟨h7, h8, fun hs => ?_⟩
        rcases h9 with h9 | ⟨⟨h9, h10⟩, h11⟩
        · exact absurd hs h9
        · exact ⟨h9, h10, h11⟩
  · intro h
    refine ⟨⟨⟨⟨⟨⟨?_, ?_⟩, ?_⟩, ?_⟩, ?_⟩, ?_⟩, ?_⟩
    · exact ⟨h.kind.1, h.kind.2, h.frm.1, h.frm.2, h.to.1, h.to.2⟩
    · exact ⟨h.rep.1, h.rep.2, h.num.1, h.num.2⟩
    · exact ⟨h.round.1, h.round.2, h.brep.1, h.brep.2⟩
    · cases hcb : callsB m.kind
      · rw [if_neg (by simp)]; exact hc.2 (h.none hcb)
      · rw [if_pos rfl]; exact h.call hcb
    · cases hkb : knownB m.kind
      · exact .inr (h.bare hkb)
      · exact .inl rfl
    · cases hs : m.same
      · exact .inl (.inl rfl)
      · rcases h.same hs with h | h
        · exact .inl (.inr h)
        · exact .inr h
    · cases hkb : knownB m.kind
      · exact .inl rfl
      · obtain ⟨h1, h2, h3⟩ := h.known hkb
        refine .inr ⟨⟨h1, h2⟩, ?_⟩
        by_cases hs : m.status = 0
        · obtain ⟨a, b, c⟩ := h3 hs; exact .inr ⟨⟨a, b⟩, c⟩
        · exact .inl hs
/-- What was written is read. -/
theorem getM_mail {m : Msg} {n : Int} {N : Nat} (hN : N ≤ 1000) (h : MsgIn m N) (hg : goodM m n = true) (hn : n ≤ 7) (r : List UInt8) : ∃ m', getM ⟨mailB m ++ r, false⟩ = (m', ⟨r, false⟩) ∧ MV m' = MV m := by
  have g := (goodM_iff m n).1 hg
  have k1 : ((m.kind.toNat : Nat) : Int) = m.kind := by have := g.kind; omega
  have k2 : ((m.frm.toNat : Nat) : Int) = m.frm := by have := g.frm; omega
  have k3 : ((m.to.toNat : Nat) : Int) = m.to := by have := g.to; omega
  obtain ⟨X, hX⟩ : ∃ X, X = (if knownB m.kind then encs [m.vote.round, m.vote.rep] ++ enc m.status.toNat else []) ++ ((if knownB m.kind || m.kind == 2 then bitB m.same else []) ++ ((if callsB m.kind then callB m.call else []) ++ r)) := ⟨_, rfl⟩
  have hm : mailB m ++ r = enc m.kind.toNat ++ (enc m.frm.toNat ++ (enc m.to.toNat ++ (encs [m.item.rep, m.item.num] ++ (encs [m.bal.round, m.bal.rep] ++ X)))) := by
    rw [hX]; unfold mailB
    rw [show encs [m.kind, m.frm, m.to] = enc m.kind.toNat ++ enc m.frm.toNat ++ enc m.to.toNat by simp [encs]]
    simp only [List.append_assoc]
  have hh : headM ⟨mailB m ++ r, false⟩ = ((m.kind.toNat, m.frm.toNat, m.to.toNat, m.item, m.bal), ⟨X, false⟩) := by
    unfold headM
    rw [hm, enc2 _ _ 8 (by have := g.kind; omega) (by have := g.kind; omega) (by omega)]
    simp only
    rw [enc2 _ _ 6 (by have := g.frm; omega) (by have := g.frm; omega) (by omega)]
    simp only
    rw [enc2 _ _ 6 (by have := g.to; omega) (by have := g.to; omega) (by omega)]
    simp only
    rw [getI_enc _ _ (by have := g.rep; omega) (by have := g.num; omega)]
    simp only
    rw [getBal_enc _ _ g.round (by have := g.brep; omega)]
  have hcall : callsB m.kind = true → ∃ c', getC ⟨callB m.call ++ r, false⟩ = (c', ⟨r, false⟩) ∧ CV c' = CV m.call := fun hc => getC_enc (by omega) h.call (goodC_7 (g.call hc) hn) r
  have hbit : ∀ (b : Bool), ((if b then 1 else 0 : Nat) == 1) = b := by intro b; cases b <;> rfl
  cases hkb : knownB m.kind
  · have hbare := g.bare hkb
    cases hcb : callsB m.kind
    · have hk2 : (m.kind == 2) = false := by rw [beq_eq_false_iff_ne]; intro e; rw [e] at hcb; simp [callsB] at hcb
      have hs : m.same = false := by
        cases hs : m.same
        · rfl
        · rcases g.same hs with h | h
          · rw [h] at hk2; simp at hk2
          · rw [hkb] at h; cases h
      have hXr : X = r := by rw [hX, hkb, hcb, hk2]; simp
      refine ⟨⟨m.kind.toNat, m.frm.toNat, m.to.toNat, m.item, m.bal, noBallot, 0, false, noCall⟩, ?_, ?_⟩
      · unfold getM; rw [hh]; simp only [k1, hkb, hcb, hk2, Bool.false_eq_true, if_false, hXr]
      · rw [TMsg_ext]; exact ⟨k1, k2, k3, rfl, rfl, hbare.1.symm, hbare.2.symm, hs.symm, (g.none hcb).symm⟩
    · obtain ⟨c', hc1, hc2⟩ := hcall hcb
      cases hk2 : (m.kind == 2)
      · have hs : m.same = false := by
          cases hs : m.same
          · rfl
          · rcases g.same hs with h | h
            · rw [h] at hk2; simp at hk2
            · rw [hkb] at h; cases h
        have hXr : X = callB m.call ++ r := by rw [hX, hkb, hcb, hk2]; simp
        refine ⟨⟨m.kind.toNat, m.frm.toNat, m.to.toNat, m.item, m.bal, noBallot, 0, false, c'⟩, ?_, ?_⟩
        · unfold getM; rw [hh]; simp only [k1, hkb, hcb, hk2, Bool.false_eq_true, if_false, if_true, hXr, hc1]
        · rw [TMsg_ext]; exact ⟨k1, k2, k3, rfl, rfl, hbare.1.symm, hbare.2.symm, hs.symm, hc2⟩
      · have hXr : X = bitB m.same ++ (callB m.call ++ r) := by rw [hX, hkb, hcb, hk2]; simp
        refine ⟨⟨m.kind.toNat, m.frm.toNat, m.to.toNat, m.item, m.bal, noBallot, 0, m.same, c'⟩, ?_, ?_⟩
        · unfold getM; rw [hh]; simp only [k1, hkb, hk2, Bool.false_eq_true, if_false, if_true, hXr, getBit_enc, hc1, hbit]
        · rw [TMsg_ext]; exact ⟨k1, k2, k3, rfl, rfl, hbare.1.symm, hbare.2.symm, rfl, hc2⟩
  · have hcb : callsB m.kind = true := by simp [knownB] at hkb; simp [callsB, hkb]
    obtain ⟨c', hc1, hc2⟩ := hcall hcb
    obtain ⟨g1, g2, g3⟩ := g.known hkb
    have k9 : ((m.status.toNat : Nat) : Int) = m.status := by omega
    have hXr : X = encs [m.vote.round, m.vote.rep] ++ (enc m.status.toNat ++ (bitB m.same ++ (callB m.call ++ r))) := by rw [hX, hkb, hcb]; simp
    refine ⟨⟨m.kind.toNat, m.frm.toNat, m.to.toNat, m.item, m.bal, m.vote, m.status.toNat, m.same, c'⟩, ?_, ?_⟩
    · unfold getM; rw [hh]
      simp only [k1, hkb, if_true, hXr]
      rw [getBal_enc _ _ ⟨g1.1, g1.2.1⟩ (by omega)]
      simp only
      rw [enc2 _ _ 3 (by omega) (by omega) (by omega)]
      simp only [getBit_enc, hc1, hbit]
    · rw [TMsg_ext]; exact ⟨k1, k2, k3, rfl, rfl, rfl, k9, rfl, hc2⟩
end Go.Proofs.YtahajjfbkdocaaaDoor
