/- Several texts in one. -/
import Derived.Test.YtpganpiidgkofaaX24
import Derived.Test.YtpganpiidgkofaaX25
import Derived.Test.YtpganpiidgkofaaX9
/- Layer 9, plain: what is read of a record is what was written, or it is none. No walk stands here. -/
namespace Go.Proofs.Ytpganpiidgkofaa
open Go.RowKit
set_option linter.unusedVariables false
/-- So much was read, or the source ran dry. -/
def OrDry {β : Type} (p : β × Src) (v : β) (r : List UInt8) : Prop := p = (v, ⟨r, false⟩) ∨ p.2.dry = true
theorem natOr {a : Int} (h0 : 0 ≤ a) (h1 : a < 9223372036854775808) (r : List UInt8) (most : Nat) : OrDry (natS ⟨enc a.toNat ++ r, false⟩ most) a.toNat r := by
  unfold OrDry
  rw [natS_enc (by rw [p128]; omega)]
  split
  · exact .inl rfl
  · exact .inr rfl
theorem natDry {s : Src} (h : s.dry = true) (most : Nat) : (natS s most).2.dry = true := by rw [natS_stay h]; rfl
theorem textOr {t : ByteArray} (ht : t.size < 9223372036854775808) (r : List UInt8) (most : Nat) : OrDry (textS ⟨txt t ++ r, false⟩ most) t.data.toList r := by
  unfold OrDry
  have e : txt t ++ r = enc t.data.toList.length ++ t.data.toList ++ r := by unfold txt; rw [Array.length_toList]; rfl
  rw [e, textS_enc (by rw [p128, Array.length_toList]; exact ht)]
  split
  · exact .inl rfl
  · exact .inr rfl
theorem textDry {s : Src} (h : s.dry = true) (most : Nat) : (textS s most).2.dry = true := by
  unfold textS rawS
  rw [natS_stay h]
  simp [dryS]
def P64 (a : Int) : Prop := 0 ≤ a ∧ a < 9223372036854775808
theorem itemOr {x : Item} (h1 : P64 x.rep) (h2 : P64 x.num) (r : List UInt8) : OrDry (getI ⟨encs [x.rep, x.num] ++ r, false⟩) x r := by
  have e : encs [x.rep, x.num] ++ r = enc x.rep.toNat ++ (enc x.num.toNat ++ r) := by simp [encs]
  unfold OrDry getI
  rw [e]
  rcases natOr h1.1 h1.2 (enc x.num.toNat ++ r) 6 with h | h
  · rw [h]
    simp only
    rcases natOr h2.1 h2.2 r 64 with k | k
    · left
      rw [k]
      simp only
      rw [show ((x.rep.toNat : Nat) : Int) = x.rep by have := h1.1; omega, show ((x.num.toNat : Nat) : Int) = x.num by have := h2.1; omega]
    · exact .inr k
  · exact .inr (natDry h _)
theorem balOr {x : Ballot} (h1 : P64 x.round) (h2 : P64 x.rep) (r : List UInt8) : OrDry (getBal ⟨encs [x.round, x.rep] ++ r, false⟩) x r := by
  have e : encs [x.round, x.rep] ++ r = enc x.round.toNat ++ (enc x.rep.toNat ++ r) := by simp [encs]
  unfold OrDry getBal
  rw [e]
  rcases natOr h1.1 h1.2 (enc x.rep.toNat ++ r) 1099511627776 with h | h
  · rw [h]
    simp only
    rcases natOr h2.1 h2.2 r 6 with k | k
    · left
      rw [k]
      simp only
      rw [show ((x.round.toNat : Nat) : Int) = x.round by have := h1.1; omega, show ((x.rep.toNat : Nat) : Int) = x.rep by have := h2.1; omega]
    · exact .inr k
  · exact .inr (natDry h _)
theorem itemDry {s : Src} (h : s.dry = true) : (getI s).2.dry = true := natDry (natDry h _) _
theorem balDry {s : Src} (h : s.dry = true) : (getBal s).2.dry = true := natDry (natDry h _) _
structure DeedP (d : Deed) : Prop where
  kind : P64 d.kind
  ver : P64 d.ver
  ses : P64 d.ses
  num : P64 d.num
  key : d.key.size < 9223372036854775808
  val : d.val.size < 9223372036854775808
theorem rawDeedOr {d : Deed} (h : DeedP d) (r : List UInt8) : OrDry (rawDeed ⟨deedB d ++ r, false⟩) d r := by
  have e : deedB d ++ r = enc d.kind.toNat ++ (txt d.key ++ (txt d.val ++ (enc d.ver.toNat ++ (enc d.ses.toNat ++ (enc d.num.toNat ++ r))))) := by simp [deedB, encs]
  unfold OrDry rawDeed
  rw [e]
  dsimp only
  rcases natOr h.kind.1 h.kind.2 (txt d.key ++ (txt d.val ++ (enc d.ver.toNat ++ (enc d.ses.toNat ++ (enc d.num.toNat ++ r))))) 5 with q | q
  · rw [q]
    dsimp only
    rcases textOr h.key (txt d.val ++ (enc d.ver.toNat ++ (enc d.ses.toNat ++ (enc d.num.toNat ++ r)))) 16 with q | q
    · rw [q]
      dsimp only
      rcases textOr h.val (enc d.ver.toNat ++ (enc d.ses.toNat ++ (enc d.num.toNat ++ r))) 32 with q | q
      · rw [q]
        dsimp only
        rcases natOr h.ver.1 h.ver.2 (enc d.ses.toNat ++ (enc d.num.toNat ++ r)) 1099511627776 with q | q
        · rw [q]
          dsimp only
          rcases natOr h.ses.1 h.ses.2 (enc d.num.toNat ++ r) 1099511627776 with q | q
          · rw [q]
            dsimp only
            rcases natOr h.num.1 h.num.2 r 1099511627776 with q | q
            · left
              rw [q]
              dsimp only
              have g1 := h.kind.1; have g2 := h.ver.1; have g3 := h.ses.1; have g4 := h.num.1
              rw [show ((d.kind.toNat : Nat) : Int) = d.kind by omega, show ((d.ver.toNat : Nat) : Int) = d.ver by omega, show ((d.ses.toNat : Nat) : Int) = d.ses by omega, show ((d.num.toNat : Nat) : Int) = d.num by omega]
              rfl
            · exact .inr q
          · exact .inr (natDry q _)
        · exact .inr (natDry (natDry q _) _)
      · exact .inr (natDry (natDry (natDry q _) _) _)
    · exact .inr (natDry (natDry (natDry (textDry q _) _) _) _)
  · exact .inr (natDry (natDry (natDry (textDry (textDry q _) _) _) _) _)
theorem deedOr {d : Deed} (h : DeedP d) (r : List UInt8) : OrDry (getD ⟨deedB d ++ r, false⟩) d r := by
  unfold OrDry getD
  rcases rawDeedOr h r with q | q
  · rw [q]
    by_cases hg : goodB d = false
    · right; rw [if_pos (.inr hg)]; rfl
    · left; rw [if_neg (by simp; simpa using hg)]
  · right; rw [if_pos (.inl q)]; rfl
theorem deedDry {s : Src} (h : s.dry = true) : (getD s).2.dry = true := by
  unfold getD
  rw [if_pos (.inl (natDry (natDry (natDry (textDry (textDry (natDry h _) _) _) _) _) _))]
  rfl
theorem natsDry {s : Src} (h : s.dry = true) (m : Nat) : ∀ k, (natsS k s m).2.dry = true
  | 0 => h
  | k + 1 => natDry (natsDry h m k) _
theorem natsOr (m : Nat) (ns : List Int) (rest : List UInt8) (h : ∀ n ∈ ns, P64 n) : ∀ k, k ≤ ns.length → OrDry (natsS k ⟨encs ns ++ rest, false⟩ m) ((ns.take k).map Int.toNat) (encs (ns.drop k) ++ rest)
  | 0, _ => .inl (by simp [natsS])
  | k + 1, hk => by
    have h2 := h ns[k] (List.getElem_mem (by omega))
    rcases natsOr m ns rest h k (by omega) with q | q
    · unfold OrDry
      rw [natsS, q]
      simp only
      rw [List.drop_eq_getElem_cons (i := k) (by omega), encs_cons, List.append_assoc]
      rcases natOr h2.1 h2.2 (encs (ns.drop (k + 1)) ++ rest) m with u | u
      · left
        rw [u, List.take_succ_eq_append_getElem (show k < ns.length by omega)]
        simp only [List.map_append, List.map_cons, List.map_nil]
      · exact .inr u
    · exact .inr (natDry q _)
structure CallP (c : Call) : Prop where
  deed : DeedP c.deed
  deps : ∀ i, i < 7 → P64 (c.deps i)
  seq : P64 c.seq
theorem callOr {c : Call} (h : CallP c) (r : List UInt8) : ∃ c', CV c' = CV c ∧ OrDry (getC ⟨callB c ++ r, false⟩) c' r := by
  refine ⟨⟨c.deed, ofL ((depsL c.deps).map Int.toNat), c.seq.toNat⟩, CV_eq rfl ?_ (by have := h.seq.1; simp; omega), ?_⟩
  · intro i hi
    have := (h.deps i hi).1
    match i, hi with
    | 0, _ => simp [ofL, depsL]; omega
    | 1, _ => simp [ofL, depsL]; omega
    | 2, _ => simp [ofL, depsL]; omega
    | 3, _ => simp [ofL, depsL]; omega
    | 4, _ => simp [ofL, depsL]; omega
    | 5, _ => simp [ofL, depsL]; omega
    | 6, _ => simp [ofL, depsL]; omega
  · have hn : ∀ n ∈ depsL c.deps, P64 n := by
      intro n hn
      simp only [depsL, List.mem_cons, List.not_mem_nil, or_false] at hn
      rcases hn with rfl | rfl | rfl | rfl | rfl | rfl | rfl
      all_goals exact h.deps _ (by omega)
    have e : callB c ++ r = deedB c.deed ++ (encs (depsL c.deps) ++ (enc c.seq.toNat ++ r)) := by simp [callB]
    have hraw : OrDry (rawCall ⟨callB c ++ r, false⟩) ⟨c.deed, ofL ((depsL c.deps).map Int.toNat), c.seq.toNat⟩ r := by
      unfold OrDry rawCall
      rw [e]
      dsimp only
      rcases deedOr h.deed (encs (depsL c.deps) ++ (enc c.seq.toNat ++ r)) with q | q
      · rw [q]
        dsimp only
        rcases natsOr 64 (depsL c.deps) (enc c.seq.toNat ++ r) hn 7 (Nat.le_refl 7) with u | u
        · rw [show (depsL c.deps).take 7 = depsL c.deps from rfl, show (depsL c.deps).drop 7 = [] from rfl] at u
          rw [u]
          dsimp only
          rw [show encs [] ++ (enc c.seq.toNat ++ r) = enc c.seq.toNat ++ r from rfl]
          rcases natOr h.seq.1 h.seq.2 r 1099511627776 with v | v
          · left; rw [v]
          · exact .inr v
        · exact .inr (natDry u _)
      · exact .inr (natDry (natsDry q _ _) _)
    unfold OrDry getC
    rcases hraw with q | q
    · left; rw [q, if_neg (by simp)]
    · right; rw [if_pos q]; exact q
theorem callDry {s : Src} (h : s.dry = true) : (getC s).2.dry = true := by
  unfold getC
  rw [if_pos ?_]
  all_goals exact natDry (natsDry (deedDry h) _ _) _
structure InstP (i : Inst) : Prop where
  p1 : P64 i.prom.round
  p2 : P64 i.prom.rep
  v1 : P64 i.vote.round
  v2 : P64 i.vote.rep
  status : P64 i.status
  call : CallP i.call
theorem readOr {x : Item} {i : Inst} (h1 : P64 x.rep) (h2 : P64 x.num) (h : InstP i) : ∃ i', NV i' = NV i ∧ (readS ⟨recB x i, false⟩ = (x, i', ⟨[], false⟩) ∨ (readS ⟨recB x i, false⟩).2.2.dry = true) := by
  obtain ⟨c', hc, hcv⟩ := callOr h.call []
  rw [List.append_nil] at hcv
  refine ⟨⟨i.prom, i.vote, i.status.toNat, c', i.same⟩, (TInst_ext _ _).2 ⟨rfl, rfl, by have := h.status.1; simp only; omega, hc, rfl⟩, ?_⟩
  unfold readS recB
  simp only [List.append_assoc]
  rcases itemOr h1 h2 (encs [i.prom.round, i.prom.rep] ++ (encs [i.vote.round, i.vote.rep] ++ (encs [i.status] ++ (bitB i.same ++ callB i.call)))) with q | q
  · rw [q]
    dsimp only
    rcases balOr h.p1 h.p2 (encs [i.vote.round, i.vote.rep] ++ (encs [i.status] ++ (bitB i.same ++ callB i.call))) with q | q
    · rw [q]
      dsimp only
      rcases balOr h.v1 h.v2 (encs [i.status] ++ (bitB i.same ++ callB i.call)) with q | q
      · rw [q]
        dsimp only
        rw [show encs [i.status] ++ (bitB i.same ++ callB i.call) = enc i.status.toNat ++ (bitB i.same ++ callB i.call) by simp [encs]]
        rcases natOr h.status.1 h.status.2 (bitB i.same ++ callB i.call) 3 with q | q
        · rw [q]
          dsimp only
          rw [getBit_enc]
          dsimp only
          rcases hcv with q | q
          · left
            rw [q]
            cases i.same <;> rfl
          · exact .inr q
        · exact .inr (callDry (natDry q _))
      · exact .inr (callDry (natDry (natDry q _) _))
    · exact .inr (callDry (natDry (natDry (balDry q) _) _))
  · exact .inr (callDry (natDry (natDry (balDry (balDry q)) _) _))
/-- A record of what can't be is none. -/
theorem okT_any {x : Item} {i : Inst} {n : Int} (h1 : P64 x.rep) (h2 : P64 x.num) (h : InstP i) (hn : (goodI x n && goodN i n) = false) : okT n (recB x i) = false := by
  obtain ⟨i', hi, q | q⟩ := readOr h1 h2 h
  · unfold okT
    rw [q]
    dsimp only
    rw [goodN_congr hi n]
    rw [Bool.and_assoc, hn, Bool.and_false]
  · unfold okT
    rw [q]
    rfl
theorem read_nil : (readS ⟨[], false⟩).2.2.dry = true := by
  have h : (natS ⟨[], false⟩ 6).2.dry = true := by unfold natS; rw [if_neg (by simp)]; rfl
  have hI : (getI ⟨[], false⟩).2.dry = true := natDry h 64
  unfold readS
  exact callDry (natDry (natDry (balDry (balDry hI)) 3) 1)
theorem rawS_zero (s : Src) : (rawS s ((0 : Nat) : Int)).1 = [] := by
  unfold rawS
  split
  · rfl
  · simp
theorem okT_nil (n : Int) : okT n [] = false := by
  unfold okT
  rw [read_nil]
  rfl
theorem noRec_nil (n : Int) : NoRec n [] := by
  right
  have h : (openS []).1 = [] := by
    by_cases h : (openS []).2 = 0
    · unfold openS at h ⊢
      simp only at h ⊢
      split
      · rfl
      · unfold rawS
        split
        · rfl
        · rename_i h1 h2
          have : (natS ⟨[], false⟩ 16384) = (0, dryS) := by unfold natS; rw [if_neg (by simp)]; rfl
          rw [this]; rfl
    · obtain ⟨_, r, hb, _⟩ := open_inv h
      have h2 := sealS_pos (t := (openS []).1) (open_inv h).1
      have h3 := congrArg List.length hb
      rw [List.length_append] at h3
      simp only [List.length_nil] at h3
      omega
  rw [h]
  exact okT_nil n
/-- Behind a byte 0 no record stands. -/
theorem noRec_zero (n : Int) (r : List UInt8) : NoRec n (0 :: r) := by
  right
  have h : (openS (0 :: r)).1 = [] := by
    have e : natS ⟨0 :: r, false⟩ 16384 = (0, ⟨r, false⟩) := by
      have := natS_enc (v := 0) (by rw [p128]; omega) r 16384
      rw [enc_small (by omega), if_pos (by omega)] at this
      exact this
    unfold openS
    simp only [e]
    split
    · rfl
    · exact rawS_zero _
  rw [h]
  exact okT_nil n
/-- A record of what can't be, and whatever stands behind it. -/
theorem noRec_bad {x : Item} {i : Inst} {n : Int} (h1 : P64 x.rep) (h2 : P64 x.num) (h : InstP i) (hl : (recB x i).length ≤ 16384) (hn : (goodI x n && goodN i n) = false) (r : List UInt8) : NoRec n (recOf (x, i) ++ r) := by
  right
  have e : recOf (x, i) ++ r = sealS (recB x i) ++ r := rfl
  rw [e, open_seal hl]
  exact okT_any h1 h2 h hn
end Go.Proofs.Ytpganpiidgkofaa
/- Layer 9, plain: a book of records knows what the rows know. No walk stands here. -/
namespace Go.Proofs.Ytpganpiidgkofaa
open Go.RowKit
set_option linter.unusedVariables false
attribute [local instance 10] Classical.propDecidable
noncomputable def foldB (L : List Ent) : List Ent := L.foldl (fun b e => setB b e.1 e.2) []
theorem foldB_snoc (L : List Ent) (e : Ent) : foldB (L ++ [e]) = setB (foldB L) e.1 e.2 := by unfold foldB; rw [List.foldl_append]; rfl
theorem eqA_IV {x y : Item} : eqA (IV x) (IV y) = true ↔ x = y := by
  rw [eqA_iff]
  exact ⟨IV_inj, fun h => by rw [h]⟩
noncomputable def getB : List Ent → Item → Option Inst
  | [], _ => none
  | e :: t, x => if eqA (IV x) (IV e.1) = true then some e.2 else getB t x
theorem getB_set (x y : Item) (i : Inst) : ∀ L, getB (setB L x i) y = if x = y then some i else getB L y
  | [] => by
    unfold setB getB
    simp only [eqA_IV]
    by_cases h : x = y
    · rw [if_pos h.symm, if_pos h]
    · rw [if_neg (fun e2 => h e2.symm), if_neg h]; rfl
  | e :: t => by
    unfold setB
    by_cases h : x = e.1
    · rw [if_pos (eqA_IV.2 h)]
      unfold getB
      simp only [eqA_IV]
      by_cases h2 : y = e.1
      · rw [if_pos h2, if_pos (h.trans h2.symm)]
      · rw [if_neg h2, if_neg (fun e2 => h2 (e2.symm.trans h)), if_neg h2]
    · rw [if_neg (fun e2 => h (eqA_IV.1 e2))]
      unfold getB
      simp only [eqA_IV]
      by_cases h2 : y = e.1
      · rw [if_pos h2, if_neg (fun e2 => h (e2.trans h2)), if_pos h2]
      · rw [if_neg h2, getB_set x y i t, if_neg h2]
theorem setB_keys (x : Item) (i : Inst) : ∀ L : List Ent, (setB L x i).map Prod.fst = if x ∈ L.map Prod.fst then L.map Prod.fst else L.map Prod.fst ++ [x]
  | [] => by simp [setB]
  | e :: t => by
    unfold setB
    by_cases h : x = e.1
    · rw [if_pos (eqA_IV.2 h), if_pos (by simp [h])]; rfl
    · rw [if_neg (fun e2 => h (eqA_IV.1 e2)), List.map_cons, setB_keys x i t, show (e :: t).map Prod.fst = e.1 :: t.map Prod.fst from rfl]
      by_cases h2 : x ∈ t.map Prod.fst
      · rw [if_pos h2, if_pos (List.mem_cons_of_mem _ h2)]
      · rw [if_neg h2, if_neg (fun h3 => (List.mem_cons.1 h3).elim h h2)]; rfl
theorem foldB_keys (L : List Ent) : ((foldB L).map Prod.fst).Pairwise (· ≠ ·) := by
  have : ∀ (L B : List Ent), (B.map Prod.fst).Pairwise (· ≠ ·) → ((L.foldl (fun b e => setB b e.1 e.2) B).map Prod.fst).Pairwise (· ≠ ·) := by
    intro L
    induction L with
    | nil => intro B h; exact h
    | cons e t ih =>
      intro B h
      refine ih _ ?_
      rw [setB_keys]
      split
      · exact h
      · rename_i hn
        rw [List.pairwise_append]
        exact ⟨h, by simp, fun a ha b hb e2 => by simp at hb; subst hb; exact hn (e2 ▸ ha)⟩
  exact this L [] (by simp)
theorem getB_mem : ∀ {L : List Ent} {x : Item} {t : Inst}, getB L x = some t → (x, t) ∈ L
  | [], _, _, h => by simp [getB] at h
  | e :: l, x, t, h => by
    unfold getB at h
    split at h
    · rename_i h2
      have h3 := eqA_IV.1 h2
      injection h with h
      subst h3 h
      simp
    · exact List.mem_cons_of_mem _ (getB_mem h)
theorem mem_getB {L : List Ent} {e : Ent} : (L.map Prod.fst).Pairwise (· ≠ ·) → e ∈ L → getB L e.1 = some e.2 := by
  induction L with
  | nil => intro _ he; simp at he
  | cons a l ih =>
    intro hp he
    rw [List.map_cons, List.pairwise_cons] at hp
    rcases List.mem_cons.1 he with h | h
    · subst h
      exact if_pos (eqA_refl _)
    · have hne : ¬ eqA (IV e.1) (IV a.1) = true := fun h2 => hp.1 e.1 (List.mem_map.2 ⟨e, h, rfl⟩) (eqA_IV.1 h2).symm
      exact (if_neg hne).trans (ih hp.2 h)
theorem getB_fold {n : Int} : ∀ {L : List Ent}, GoodE n L → ∀ x, getB (foldB L) x = getM (foldE n L) x := by
  have : ∀ (k : Nat) (L : List Ent), L.length = k → GoodE n L → ∀ x, getB (foldB L) x = getM (foldE n L) x := by
    intro k
    induction k with
    | zero =>
      intro L hL _ x
      have : L = [] := List.eq_nil_of_length_eq_zero hL
      subst this
      exact (getM_new n x).symm
    | succ k ih =>
      intro L hL hg x
      have hne : L ≠ [] := by rintro rfl; simp at hL
      rw [← List.dropLast_concat_getLast hne] at hg ⊢
      have hg2 := hg (L.getLast hne) (by simp)
      rw [foldB_snoc, foldE_snoc, getB_set]
      have hi := ih L.dropLast (by simp; omega) (fun e he => hg e (by simp [he])) x
      split
      · rename_i h
        subst h
        rw [getM_set_same _ (by rw [foldE_n]; exact hg2.1)]
      · rename_i h
        rw [hi, getM_set_other _ (by rw [foldE_n]; exact hg2.1) h]
  exact fun {L} => this _ L rfl
/-- Unlike things among things: not more. -/
theorem len_le_of_sub : ∀ {a b : List Item}, a.Pairwise (· ≠ ·) → (∀ x ∈ a, x ∈ b) → a.length ≤ b.length
  | [], _, _, _ => by simp
  | x :: t, b, hp, hs => by
    rw [List.pairwise_cons] at hp
    obtain ⟨l1, l2, rfl⟩ := List.append_of_mem (hs x (by simp))
    have h := len_le_of_sub (b := l1 ++ l2) hp.2 fun y hy => by
      have h1 := hs y (by simp [hy])
      have h2 := hp.1 y hy
      rcases List.mem_append.1 h1 with h | h
      · simp [h]
      · rcases List.mem_cons.1 h with h | h
        · exact absurd h.symm h2
        · simp [h]
    simp only [List.length_append, List.length_cons] at h ⊢
    omega
theorem sameB_fold {n : Int} {m : RowsM} {L : List Ent} (hm : RowsOk m) (hg : GoodE n L) (h : RowsEq m (foldE n L)) : sameB (ents m) (foldB L) = true := by
  have hk : ((ents m).map Prod.fst).Pairwise (· ≠ ·) := by
    rw [List.pairwise_map]
    exact ents_apart hm
  have hl : ∀ x, (getM m x).map NV = (getB (foldB L) x).map NV := fun x => by rw [getB_fold hg]; exact h.2 x
  have h1 : (ents m).length ≤ (foldB L).length := by
    have := len_le_of_sub (a := (ents m).map Prod.fst) (b := (foldB L).map Prod.fst) hk fun x hx => by
      obtain ⟨e, he, rfl⟩ := List.mem_map.1 hx
      have h1 := ents_mem he
      have h2 := hl e.1
      rw [h1] at h2
      cases hb : getB (foldB L) e.1 with
      | none => rw [hb] at h2; simp at h2
      | some t => exact List.mem_map.2 ⟨_, getB_mem hb, rfl⟩
    simpa using this
  have h2 : (foldB L).length ≤ (ents m).length := by
    have := len_le_of_sub (a := (foldB L).map Prod.fst) (b := (ents m).map Prod.fst) (foldB_keys L) fun x hx => by
      obtain ⟨e, he, rfl⟩ := List.mem_map.1 hx
      have h1 := mem_getB (foldB_keys L) he
      have h2 := hl e.1
      rw [h1] at h2
      cases hb : getM m e.1 with
      | none => rw [hb] at h2; simp at h2
      | some t => exact List.mem_map.2 ⟨_, ents_has hm hb, rfl⟩
    simpa using this
  unfold sameB
  rw [decide_eq_true (by omega), Bool.true_and, List.all_eq_true]
  intro e he
  have h1 := ents_mem he
  have h2 := hl e.1
  rw [h1] at h2
  cases hb : getB (foldB L) e.1 with
  | none => rw [hb] at h2; simp at h2
  | some t =>
    rw [hb] at h2
    simp at h2
    rw [List.any_eq_true]
    refine ⟨_, getB_mem hb, ?_⟩
    rw [h2, eqA_refl, eqA_refl]
    rfl
end Go.Proofs.Ytpganpiidgkofaa
/- Layer 9, plain: what is known goes by replicas, then by numbers; how much it is. No walk stands here. -/
namespace Go.Proofs.Ytpganpiidgkofaa
open Go.RowKit
set_option linter.unusedVariables false
attribute [local instance 10] Classical.propDecidable
def entLt (a b : Ent) : Prop := a.1.rep < b.1.rep ∨ (a.1.rep = b.1.rep ∧ a.1.num < b.1.num)
theorem ents_sorted {m : RowsM} (hm : RowsOk m) : (ents m).Pairwise entLt := by
  rw [ents_C hm]
  unfold entsC
  rw [List.pairwise_flatMap]
  refine ⟨fun r _ => ?_, ?_⟩
  · rw [List.pairwise_filterMap]
    refine (List.pairwise_lt_range (n := 64)).imp fun {k j} hkj b hb b' hb' => ?_
    cases h1 : getM m ⟨((r : Nat) : Int), ((k : Nat) : Int) + 1⟩ with
    | none => rw [h1] at hb; simp at hb
    | some t =>
      cases h2 : getM m ⟨((r : Nat) : Int), ((j : Nat) : Int) + 1⟩ with
      | none => rw [h2] at hb'; simp at hb'
      | some t' =>
        rw [h1] at hb; rw [h2] at hb'
        simp at hb hb'
        subst hb; subst hb'
        right
        simp
        omega
  · refine (List.pairwise_lt_range (n := 7)).imp fun {r s} hrs x hx y hy => ?_
    rw [List.mem_filterMap] at hx hy
    obtain ⟨k, _, hx⟩ := hx
    obtain ⟨j, _, hy⟩ := hy
    cases h1 : getM m ⟨((r : Nat) : Int), ((k : Nat) : Int) + 1⟩ with
    | none => rw [h1] at hx; simp at hx
    | some t =>
      cases h2 : getM m ⟨((s : Nat) : Int), ((j : Nat) : Int) + 1⟩ with
      | none => rw [h2] at hy; simp at hy
      | some t' =>
        rw [h1] at hx; rw [h2] at hy
        simp at hx hy
        subst hx; subst hy
        left
        simp
        omega
theorem ents_next {m : RowsM} (hm : RowsOk m) {j : Nat} (h : j + 1 < (ents m).length) : entLt (ents m)[j] (ents m)[j + 1] :=
  List.pairwise_iff_getElem.1 (ents_sorted hm) j (j + 1) (by omega) h (by omega)
theorem ents_keys {m : RowsM} (hm : RowsOk m) : ((ents m).map Prod.fst).Pairwise (· ≠ ·) := by
  rw [List.pairwise_map]; exact ents_apart hm
theorem ents_key {m : RowsM} (hm : RowsOk m) (x : Item) : x ∈ (ents m).map Prod.fst ↔ (getM m x).isSome = true := by
  constructor
  · intro h
    obtain ⟨e, he, rfl⟩ := List.mem_map.1 h
    rw [ents_mem he]; rfl
  · intro h
    cases hg : getM m x with
    | none => rw [hg] at h; cases h
    | some t => exact List.mem_map.2 ⟨_, ents_has hm hg, rfl⟩
/-- How much is known, once an item is set. -/
theorem ents_set_len {m : RowsM} (hm : RowsOk m) {x : Item} (i : Inst) (hx : goodI x m.n = true) : (ents (setM m x i)).length = if (getM m x).isSome then (ents m).length else (ents m).length + 1 := by
  have hm2 := hm.set x i
  have hk1 := ents_keys hm
  have hk2 := ents_keys hm2
  have hget : ∀ y, (getM (setM m x i) y).isSome = true ↔ (y = x ∨ (getM m y).isSome = true) := fun y => by
    by_cases h : x = y
    · subst h; rw [getM_set_same i hx]; simp
    · rw [getM_set_other i hx h]
      constructor
      · exact fun h => .inr h
      · rintro (rfl | h2)
        · exact absurd rfl h
        · exact h2
  split
  · rename_i hs
    have h1 := len_le_of_sub hk1 (b := (ents (setM m x i)).map Prod.fst) fun y hy => (ents_key hm2 y).2 ((hget y).2 (.inr ((ents_key hm y).1 hy)))
    have h2 := len_le_of_sub hk2 (b := (ents m).map Prod.fst) fun y hy => by
      rcases (hget y).1 ((ents_key hm2 y).1 hy) with rfl | h
      · exact (ents_key hm y).2 hs
      · exact (ents_key hm y).2 h
    simp at h1 h2
    omega
  · rename_i hs
    have hn : x ∉ (ents m).map Prod.fst := fun h => hs ((ents_key hm x).1 h)
    have hk3 : (x :: (ents m).map Prod.fst).Pairwise (· ≠ ·) := by
      rw [List.pairwise_cons]; exact ⟨fun y hy e => hn (e ▸ hy), hk1⟩
    have h1 := len_le_of_sub hk3 (b := (ents (setM m x i)).map Prod.fst) fun y hy => by
      rcases List.mem_cons.1 hy with rfl | h
      · exact (ents_key hm2 _).2 ((hget _).2 (.inl rfl))
      · exact (ents_key hm2 y).2 ((hget y).2 (.inr ((ents_key hm y).1 h)))
    have h2 := len_le_of_sub hk2 (b := x :: (ents m).map Prod.fst) fun y hy => by
      rcases (hget y).1 ((ents_key hm2 y).1 hy) with rfl | h
      · simp
      · exact List.mem_cons_of_mem _ ((ents_key hm y).2 h)
    simp at h1 h2
    omega
theorem putF_set {m : RowsM} {x : Item} {i : Inst} (hx : goodI x m.n = true) : putF (getM m) x i = getM (setM m x i) := by
  funext y
  by_cases h : x = y
  · subst h; rw [putF_same, getM_set_same i hx]
  · rw [putF_other _ _ (fun e => h e.symm), getM_set_other i hx h]
theorem ents_nil {n : Int} (h : 0 ≤ n ∧ n ≤ 7) : ents ⟨n, fun _ => []⟩ = [] := by
  have := ents_key (RowsOk.new h)
  cases hl : ents ⟨n, fun _ => []⟩ with
  | nil => rfl
  | cons e t =>
    have h1 := (this e.1).1 (by rw [hl]; simp)
    rw [getM_new] at h1; cases h1
end Go.Proofs.Ytpganpiidgkofaa
