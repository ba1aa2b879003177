/- Several texts in one. -/
import Derived.Test.YtahajjfbkdocaaaDoorZ23
/- Layer 7: what is read was written so; the laws of reading, with no walk. -/
namespace Go.Proofs.YtahajjfbkdocaaaDoor
open Go.RowKit
set_option linter.unusedVariables false
theorem call_congr {a b : Call} (h : CV a = CV b) : a.deed = b.deed ∧ (∀ i, i < 7 → a.deps i = b.deps i) ∧ a.seq = b.seq := by
  obtain ⟨h1, h2, h3⟩ := (TCall_ext a b).1 h
  refine ⟨?_, DV_inj h2, h3⟩
  obtain ⟨x1, x2, x3, x4, x5, x6⟩ := (TDeed_ext a.deed b.deed).1 h1
  cases ha : a.deed; cases hb : b.deed
  rw [ha, hb] at x1 x2 x3 x4 x5 x6
  simp only at x1 x2 x3 x4 x5 x6
  rw [x1, x2, x3, x4, x5, x6]
theorem goodC_congr {a b : Call} (h : CV a = CV b) (n : Int) (hg : goodC a n = true) : goodC b n = true := by
  obtain ⟨h1, h2, h3⟩ := call_congr h
  unfold goodC at hg ⊢
  simp only [Bool.and_eq_true, decide_eq_true_eq] at hg ⊢
  obtain ⟨⟨⟨g1, g2⟩, g3⟩, g4⟩ := hg
  refine ⟨⟨⟨h1 ▸ g1, goodD_yes fun i hi => ?_⟩, h3 ▸ g3⟩, h3 ▸ g4⟩
  rw [← h2 i hi]; exact goodD_of g2 i hi
theorem goodM_congr {a b : Msg} (h : MV a = MV b) (n : Int) (hg : goodM a n = true) : goodM b n = true := by
  obtain ⟨h1, h2, h3, h4, h5, h6, h7, h8, h9⟩ := (TMsg_ext a b).1 h
  have g := (goodM_iff a n).1 hg
  obtain ⟨i1, i2⟩ := (TItem_ext _ _).1 h4
  obtain ⟨b1, b2⟩ := (TBallot_ext _ _).1 h5
  obtain ⟨v1, v2⟩ := (TBallot_ext _ _).1 h6
  refine (goodM_iff b n).2 ⟨h1 ▸ g.kind, h2 ▸ g.frm, h3 ▸ g.to, i1 ▸ g.rep, i2 ▸ g.num, b1 ▸ g.round, b2 ▸ g.brep, fun hc => ?_, fun hc => ?_, fun hk => ?_, fun hs => ?_, fun hk => ?_⟩
  · exact goodC_congr h9 n (g.call (h1 ▸ hc))
  · exact h9 ▸ g.none (h1 ▸ hc)
  · have := g.bare (h1 ▸ hk); exact ⟨h6 ▸ this.1, h7 ▸ this.2⟩
  · exact h1 ▸ g.same (h8 ▸ hs)
  · obtain ⟨k1, k2, k3⟩ := g.known (h1 ▸ hk)
    rw [← v1, ← v2, ← h7, ← h6, ← h8, ← h9]
    exact ⟨k1, k2, k3⟩
theorem goodM_same {a b : Msg} (h : MV a = MV b) (n : Int) : goodM a n = goodM b n := by
  rw [Bool.eq_iff_iff]; exact ⟨goodM_congr h n, goodM_congr h.symm n⟩
/-! what is read was written so -/
theorem getI_inv {s : Src} (h : (getI s).2.dry = false) : s.dry = false ∧ s.left = encs [(getI s).1.rep, (getI s).1.num] ++ (getI s).2.left ∧ 0 ≤ (getI s).1.rep ∧ (getI s).1.rep ≤ 6 ∧ 0 ≤ (getI s).1.num ∧ (getI s).1.num ≤ 64 := by
  unfold getI at h ⊢
  simp only at h ⊢
  obtain ⟨a1, a2, a3, _⟩ := natS_inv h
  obtain ⟨b1, b2, b3, _⟩ := natS_inv a1
  refine ⟨b1, ?_, by omega, by omega, by omega, by omega⟩
  rw [b2, a2]; simp [encs]
theorem getBal_inv {s : Src} (h : (getBal s).2.dry = false) : s.dry = false ∧ s.left = encs [(getBal s).1.round, (getBal s).1.rep] ++ (getBal s).2.left ∧ 0 ≤ (getBal s).1.round ∧ (getBal s).1.round ≤ 1099511627776 ∧ 0 ≤ (getBal s).1.rep ∧ (getBal s).1.rep ≤ 6 := by
  unfold getBal at h ⊢
  simp only at h ⊢
  obtain ⟨a1, a2, a3, _⟩ := natS_inv h
  obtain ⟨b1, b2, b3, _⟩ := natS_inv a1
  refine ⟨b1, ?_, by omega, by omega, by omega, by omega⟩
  rw [b2, a2]; simp [encs]
theorem getBit_inv {s : Src} (h : (natS s 1).2.dry = false) : s.dry = false ∧ s.left = bitB ((natS s 1).1 == 1) ++ (natS s 1).2.left := by
  obtain ⟨a1, a2, a3, _⟩ := natS_inv h
  refine ⟨a1, ?_⟩
  generalize natS s 1 = x at *
  have : x.1 = 0 ∨ x.1 = 1 := by omega
  rcases this with e | e
  · rw [a2, e, show bitB ((0 : Nat) == 1) = enc 0 by rw [enc_small (by omega)]; rfl]
  · rw [a2, e, show bitB ((1 : Nat) == 1) = enc 1 by rw [enc_small (by omega)]; rfl]
theorem headM_inv {s : Src} (h : (headM s).2.dry = false) : s.dry = false ∧ s.left = encs [((headM s).1.1 : Int), ((headM s).1.2.1 : Int), ((headM s).1.2.2.1 : Int)] ++ (encs [(headM s).1.2.2.2.1.rep, (headM s).1.2.2.2.1.num] ++ (encs [(headM s).1.2.2.2.2.round, (headM s).1.2.2.2.2.rep] ++ (headM s).2.left)) ∧
    (headM s).1.1 ≤ 8 ∧ (headM s).1.2.1 ≤ 6 ∧ (headM s).1.2.2.1 ≤ 6 ∧ (0 ≤ (headM s).1.2.2.2.1.rep ∧ (headM s).1.2.2.2.1.rep ≤ 6 ∧ 0 ≤ (headM s).1.2.2.2.1.num ∧ (headM s).1.2.2.2.1.num ≤ 64) ∧ 0 ≤ (headM s).1.2.2.2.2.round ∧ (headM s).1.2.2.2.2.round ≤ 1099511627776 ∧ 0 ≤ (headM s).1.2.2.2.2.rep ∧ (headM s).1.2.2.2.2.rep ≤ 6 := by
  unfold headM at h ⊢
  simp only at h ⊢
  obtain ⟨a1, a2, a3⟩ := getBal_inv h
  obtain ⟨b1, b2, b3⟩ := getI_inv a1
  obtain ⟨c1, c2, c3, _⟩ := natS_inv b1
  obtain ⟨d1, d2, d3, _⟩ := natS_inv c1
  obtain ⟨e1, e2, e3, _⟩ := natS_inv d1
  refine ⟨e1, ?_, e3, d3, c3, b3, a3⟩
  rw [e2, d2, c2, b2, a2]
  simp [encs]
theorem in64 {a : Int} (h0 : 0 ≤ a) (h1 : a ≤ 1099511627776) : In64 a := by unfold In64; omega
theorem getM_inv {s : Src} (h : (getM s).2.dry = false) : s.dry = false ∧ s.left = mailB (getM s).1 ++ (getM s).2.left ∧ MsgIn (getM s).1 48 := by
  have noIn : CallIn noCall 48 := ⟨⟨by decide, by decide, by decide, by decide, by decide⟩, fun i hi => by show _ ≤ (0 : Int) ∧ (0 : Int) < _; omega, by decide⟩
  obtain ⟨hd, hh⟩ : ∃ hd, hd = headM s := ⟨_, rfl⟩
  have hm : getM s = (
    let m : Msg := ⟨hd.1.1, hd.1.2.1, hd.1.2.2.1, hd.1.2.2.2.1, hd.1.2.2.2.2, noBallot, 0, false, noCall⟩
    if knownB hd.1.1 = true then
      let v := getBal hd.2
      let st := natS v.2 3
      let sm := natS st.2 1
      let c := getC sm.2
      ({ m with vote := v.1, status := st.1, same := sm.1 == 1, call := c.1 }, c.2)
    else if ((hd.1.1 : Int) == 2) = true then
      let sm := natS hd.2 1
      let c := getC sm.2
      ({ m with same := sm.1 == 1, call := c.1 }, c.2)
    else if callsB hd.1.1 = true then
      let c := getC hd.2
      ({ m with call := c.1 }, c.2)
    else (m, hd.2)) := by rw [hh]; rfl
  have HI : hd.2.dry = false → _ := fun h => by rw [hh] at h; have := headM_inv h; rw [← hh] at this; exact this
  clear hh
  rw [hm] at h ⊢
  clear hm
  simp only at h ⊢
  have hmi : ∀ (v : Ballot) (st : Int) (sm : Bool) (c : Call), hd.2.dry = false → (0 ≤ v.round ∧ v.round ≤ 1099511627776 ∧ 0 ≤ v.rep ∧ v.rep ≤ 6) → (0 ≤ st ∧ st ≤ 3) → CallIn c 48 → MsgIn ⟨hd.1.1, hd.1.2.1, hd.1.2.2.1, hd.1.2.2.2.1, hd.1.2.2.2.2, v, st, sm, c⟩ 48 := by
    intro v st sm c hdr hv hs hc
    obtain ⟨_, _, k1, k2, k3, k4, k5⟩ := HI hdr
    exact ⟨in64 (by simp only; omega) (by simp only; omega), in64 (by simp only; omega) (by simp only; omega), in64 (by simp only; omega) (by simp only; omega), in64 (by simp only; omega) (by simp only; omega), in64 (by simp only; omega) (by simp only; omega), in64 (by simp only; omega) (by simp only; omega), in64 (by simp only; omega) (by simp only; omega), in64 (by simp only; omega) (by simp only; omega), in64 (by simp only; omega) (by simp only; omega), in64 (by simp only; omega) (by simp only; omega), hc⟩
  by_cases hk : knownB hd.1.1 = true
  · rw [if_pos hk] at h ⊢
    simp only at h ⊢
    obtain ⟨a1, a2, a3, _⟩ := getC_inv h
    obtain ⟨b1, b2⟩ := getBit_inv a1
    obtain ⟨c1, c2, c3, _⟩ := natS_inv b1
    obtain ⟨d1, d2, d3⟩ := getBal_inv c1
    obtain ⟨e1, e2, _⟩ := HI d1
    have hcb : callsB hd.1.1 = true := by simp [knownB] at hk; simp [callsB, hk]
    refine ⟨e1, ?_, hmi _ _ _ _ d1 d3 (by omega) a3⟩
    rw [e2, d2, c2, b2, a2]
    unfold mailB
    simp only [hk, hcb, if_true, Bool.true_or, Int.toNat_natCast, List.append_assoc]
  · rw [if_neg hk] at h ⊢
    have hk : knownB hd.1.1 = false := by simpa using hk
    by_cases h2 : ((hd.1.1 : Int) == 2) = true
    · rw [if_pos h2] at h ⊢
      simp only at h ⊢
      obtain ⟨a1, a2, a3, _⟩ := getC_inv h
      obtain ⟨b1, b2⟩ := getBit_inv a1
      obtain ⟨e1, e2, _⟩ := HI b1
      have hcb : callsB hd.1.1 = true := by rw [beq_iff_eq] at h2; simp [callsB, h2]
      refine ⟨e1, ?_, hmi _ _ _ _ b1 ⟨by decide, by decide, by decide, by decide⟩ (by omega) a3⟩
      rw [e2, b2, a2]
      unfold mailB
      simp only [hk, hcb, h2, if_true, if_false, Bool.false_or, Bool.false_eq_true, List.append_assoc, List.nil_append]
    · rw [if_neg h2] at h ⊢
      have h2 : ((hd.1.1 : Int) == 2) = false := by simpa using h2
      by_cases hcb : callsB hd.1.1 = true
      · rw [if_pos hcb] at h ⊢
        simp only at h ⊢
        obtain ⟨a1, a2, a3, _⟩ := getC_inv h
        obtain ⟨e1, e2, _⟩ := HI a1
        refine ⟨e1, ?_, hmi _ _ _ _ a1 ⟨by decide, by decide, by decide, by decide⟩ (by omega) a3⟩
        rw [e2, a2]
        unfold mailB
        simp only [hk, hcb, h2, if_true, if_false, Bool.false_or, Bool.false_eq_true, List.append_assoc, List.nil_append]
      · rw [if_neg hcb] at h ⊢
        have hcb : callsB hd.1.1 = false := by simpa using hcb
        simp only at h ⊢
        obtain ⟨e1, e2, _⟩ := HI h
        refine ⟨e1, ?_, hmi _ _ _ _ h ⟨by decide, by decide, by decide, by decide⟩ (by omega) noIn⟩
        rw [e2]
        unfold mailB
        simp only [hk, hcb, h2, if_false, Bool.false_or, Bool.false_eq_true, List.append_assoc, List.nil_append]
/-! reading -/
theorem read_or (b : List UInt8) (n : Int) : (readM b n).2 = 0 ∨ readM b n = (noMsg, 4) := by
  unfold readM
  split
  · exact .inr rfl
  · split
    · exact .inl rfl
    · exact .inr rfl
theorem read_no {b : List UInt8} {n : Int} (h : (openS b).2 = 0 ∨ (openS b).2 ≠ b.length) : readM b n = (noMsg, 4) := by unfold readM; rw [if_pos h]
theorem read_inv {b : List UInt8} {n : Int} (h : (readM b n).2 = 0) : n ≤ 7 ∧ goodM (readM b n).1 n = true ∧ MsgIn (readM b n).1 48 ∧ sealS (mailB (readM b n).1) = b := by
  unfold readM at h ⊢
  split at h
  · simp at h
  rename_i h1
  rw [if_neg h1]
  split at h
  · rename_i h2
    rw [if_pos h2]
    simp only [not_or, ne_eq, Decidable.not_not] at h1
    obtain ⟨o1, o2⟩ := h1
    obtain ⟨p1, p2, p3⟩ := h2
    simp only [Bool.and_eq_true, Bool.not_eq_true', List.isEmpty_iff] at p1
    obtain ⟨g1, g2, g3⟩ := getM_inv p1.1
    simp only at g2
    refine ⟨p3, p2, g3, ?_⟩
    obtain ⟨q1, r, q2, q3⟩ := open_inv o1
    rw [p1.2, List.append_nil] at g2
    rw [← g2]
    have : r = [] := by
      have := congrArg List.length q2
      rw [List.length_append] at this
      exact List.eq_nil_of_length_eq_zero (by omega)
    rw [this, List.append_nil] at q2
    exact q2.symm
  · simp at h
theorem read_mail {m : Msg} {n : Int} {N : Nat} (hN : N ≤ 1000) (h : MsgIn m N) (hg : goodM m n = true) (hn : n ≤ 7) : (readM (sealS (mailB m)) n).2 = 0 ∧ MV (readM (sealS (mailB m)) n).1 = MV m := by
  have hl := mailB_len h hN
  have ho := open_seal (t := mailB m) (by omega) []
  rw [List.append_nil] at ho
  have hp := sealS_pos (t := mailB m) (by omega)
  obtain ⟨m', h1, h2⟩ := getM_mail hN h hg hn []
  rw [List.append_nil] at h1
  have hg' := goodM_congr h2.symm n hg
  unfold readM
  simp only [ho, h1]
  rw [if_neg (by omega), if_pos (by simp [hg', hn])]
  exact ⟨rfl, h2⟩
theorem read_fewer {m : Msg} {n k : Int} {N : Nat} (hN : N ≤ 1000) (h : MsgIn m N) (hg : goodM m n = true) (hn : n ≤ 7) (hk : goodM m k = false) : readM (sealS (mailB m)) k = (noMsg, 4) := by
  have hl := mailB_len h hN
  have ho := open_seal (t := mailB m) (by omega) []
  rw [List.append_nil] at ho
  have hp := sealS_pos (t := mailB m) (by omega)
  obtain ⟨m', h1, h2⟩ := getM_mail hN h hg hn []
  rw [List.append_nil] at h1
  have hg' := goodM_same h2 k
  unfold readM
  simp only [ho, h1]
  rw [if_neg (by omega), if_neg (by rw [hg', hk]; simp)]
end Go.Proofs.YtahajjfbkdocaaaDoor
