/- Several texts in one. -/
import Derived.Test.YtomlilkobhkoiaaGreatDoorQ22
import Derived.Test.YtomlilkobhkoiaaGreatDoorQ11
import Derived.Test.YtomlilkobhkoiaaGreatDoorQ3
import Derived.Test.YtomlilkobhkoiaaGreatDoorQ10
/- Layers 6, 8, 9: records behind one another; what a loss of power leaves of them. No walk stands here. -/
namespace Go.Proofs.YtomlilkobhkoiaaGreatDoor
open Go.RowKit
set_option linter.unusedVariables false
/-! a sum tells one byte from another -/
theorem crc1_inj {c d : Nat} (hc : c < 4294967296) (hd : d < 4294967296) (h : crc1 c = crc1 d) : c = d := by
 have hi : ∀ x, x < 2147483648 → 2147483648 ≤ x ^^^ crcP := fun x hx => by
  have h1 : (x ^^^ crcP) / 2147483648 = x / 2147483648 ^^^ crcP / 2147483648 := by
   have := Nat.shiftRight_xor_distrib (a := x) (b := crcP) (i := 31)
   simpa [Nat.shiftRight_eq_div_pow] using this
  rw [Nat.div_eq_of_lt hx] at h1
  have h2 : crcP / 2147483648 = 1 := by decide
  rw [h2] at h1
  have h3 : (0 : Nat) ^^^ 1 = 1 := by decide
  rw [h3] at h1
  omega
 unfold crc1 at h
 by_cases h1 : c % 2 = 1 <;> by_cases h2 : d % 2 = 1
 ·rw [if_pos h1, if_pos h2] at h
  have := congrArg (· ^^^ crcP) h
  simp only [Nat.xor_assoc, Nat.xor_self, Nat.xor_zero] at this
  omega
 ·rw [if_pos h1, if_neg h2] at h
  have := hi (c / 2) (by omega)
  omega
 ·rw [if_neg h1, if_pos h2] at h
  have := hi (d / 2) (by omega)
  omega
 ·rw [if_neg h1, if_neg h2] at h
  omega
theorem crcN_inj {c d : Nat} (hc : c < 4294967296) (hd : d < 4294967296) : ∀ k, crcN k c = crcN k d → c = d
 | 0, h => h
 | k + 1, h => crcN_inj hc hd k (crc1_inj (crcN_lt hc k) (crcN_lt hd k) h)
theorem crcB_inj {c a b : Nat} (hc : c < 4294967296) (ha : a < 256) (hb : b < 256) (h : crcB c a = crcB c b) : a = b := by
 unfold crcB at h
 have h1 := crcN_inj (Nat.xor_lt_two_pow (n := 32) (by omega) (by omega)) (Nat.xor_lt_two_pow (n := 32) (by omega) (by omega)) 8 h
 have := congrArg (c ^^^ ·) h1
 simpa [← Nat.xor_assoc] using this
theorem crc_last {l : List UInt8} {a b : UInt8} (h : crc (l ++ [a]) = crc (l ++ [b])) : a = b := by
 have hl := crcL_lt (l := l) (c := 4294967295) (by omega)
 unfold crc at h
 rw [crcL_snoc, crcL_snoc] at h
 have h1 := crcB_lt hl a.toNat_lt
 have h2 := crcB_lt hl b.toNat_lt
 have := crcB_inj hl a.toNat_lt b.toNat_lt (by omega)
 exact UInt8.toNat_inj.1 this
theorem fourB_inj {c d : Nat} (hc : c < 4294967296) (hd : d < 4294967296) (h : fourB c = fourB d) : c = d := by
 unfold fourB at h
 simp only [List.cons.injEq, and_true] at h
 obtain ⟨h0, h1, h2, h3⟩ := h
 have e : ∀ x y : Nat, UInt8.ofNat x = UInt8.ofNat y → x % 256 = y % 256 := fun x y h => by
  have := congrArg UInt8.toNat h
  simpa using this
 have := e _ _ h0; have := e _ _ h1; have := e _ _ h2; have := e _ _ h3
 omega
/-! texts behind one another -/
/-- Entries that can be, among n replicas. -/
def GoodE (n : Int) (rs : List Ent) : Prop := ∀ e ∈ rs, goodI e.1 n = true ∧ goodN e.2 n = true
theorem recB_le {n : Int} (hn : n ≤ 7) {e : Ent} (h : goodI e.1 n = true ∧ goodN e.2 n = true) : (recB e.1 e.2).length ≤ 290 := by
 have h1 := goodI_in h.1 hn
 exact recB_len h1.1 h1.2 (goodN_in h.2 hn) (by omega)
theorem recOf_eq (e : Ent) : recOf e = sealS (recB e.1 e.2) := rfl
theorem recsOf_cons (e : Ent) (t : List Ent) : recsOf (e :: t) = recOf e ++ recsOf t := by simp [recsOf]
theorem recsOf_app (a b : List Ent) : recsOf (a ++ b) = recsOf a ++ recsOf b := by simp [recsOf]
/-- Bytes at which no record that can be stands. -/
def NoRec (n : Int) (r : List UInt8) : Prop := (openS r).2 = 0 ∨ okT n (openS r).1 = false
/-! what is left, its last byte spoiled -/
def spoilL (l : List UInt8) (s : UInt8) : List UInt8 := if l = [] then [] else l.set (l.length - 1) (l.getD (l.length - 1) 0 ^^^ s)
theorem spoil_snoc (p : List UInt8) (c s : UInt8) : spoilL (p ++ [c]) s = p ++ [c ^^^ s] := by
 unfold spoilL
 rw [if_neg (by simp)]
 simp [List.getD]
theorem spoil_app (a : List UInt8) {b : List UInt8} (hb : b ≠ []) (s : UInt8) : spoilL (a ++ b) s = a ++ spoilL b s := by
 obtain ⟨p, c, rfl⟩ : ∃ p c, b = p ++ [c] := ⟨b.dropLast, b.getLast hb, (List.dropLast_concat_getLast hb).symm⟩
 rw [← List.append_assoc, spoil_snoc, spoil_snoc, List.append_assoc]
theorem spoil_nil (s : UInt8) : spoilL [] s = [] := rfl
theorem open_nil : (openS []).2 = 0 := by have := openS_le []; simpa using this
theorem no_enc {n m : Nat} {a b : List UInt8} (hn : n ≤ 16384) (hm : m ≤ 16384) (h : enc n ++ a = enc m ++ b) : n = m := by
 have h1 := natS_enc (v := n) (by rw [p128]; omega) a 16384
 have h2 := natS_enc (v := m) (by rw [p128]; omega) b 16384
 rw [if_pos hn] at h1
 rw [if_pos hm] at h2
 rw [h, h2] at h1
 exact (congrArg Prod.fst h1).symm
/-- A sealed text cut short, its last byte spoiled, is none. -/
theorem open_part {t p q : List UInt8} {c d : UInt8} (h : t.length ≤ 16384) (hp : sealS t = p ++ c :: q) (hq : q ≠ []) : (openS (p ++ [d])).2 = 0 := by
 by_cases h0 : (openS (p ++ [d])).2 = 0
 ·exact h0
 exfalso
 obtain ⟨h1, r, h2, h3⟩ := open_inv h0
 generalize (openS (p ++ [d])).1 = t2 at *
 rw [sealS_eq h1] at h2
 rw [sealS_eq h] at hp
 -- the length's bytes are the same
 have hlen := congrArg List.length h2
 simp only [List.length_append, fourB_len, List.length_cons, List.length_nil] at hlen
 have hpre : ∃ z, p = enc t2.length ++ z := by
  have h4 : (p ++ [d]).take (enc t2.length).length = enc t2.length := by
   rw [h2]; simp only [List.append_assoc]; exact List.take_left
  rw [List.take_append_of_le_length (by omega)] at h4
  exact ⟨p.drop (enc t2.length).length, by conv => lhs; rw [← List.take_append_drop (enc t2.length).length p, h4]⟩
 obtain ⟨z, rfl⟩ := hpre
 have hnn := no_enc (a := fourB (crc (enc t.length ++ t)) ++ t) (b := z ++ c :: q) h h1 (by rw [← List.append_assoc, hp, List.append_assoc])
 have hl2 := congrArg List.length hp
 simp only [List.length_append, fourB_len, List.length_cons] at hl2 hlen
 have : 0 < q.length := List.length_pos_iff.2 hq
 rw [hnn] at hl2
 omega
/-- A sealed text, its last byte turned, is none. -/
theorem open_turned {t p : List UInt8} {c d : UInt8} (h : (p ++ [c]).length ≤ 16384) (hcd : c ≠ d) (ht : t = p ++ [c]) : (openS (enc t.length ++ fourB (crc (enc t.length ++ t)) ++ (p ++ [d]))).2 = 0 := by
 subst ht
 have e1 : natS ⟨enc (p ++ [c]).length ++ fourB (crc (enc (p ++ [c]).length ++ (p ++ [c]))) ++ (p ++ [d]), false⟩ 16384 = ((p ++ [c]).length, ⟨fourB (crc (enc (p ++ [c]).length ++ (p ++ [c]))) ++ (p ++ [d]), false⟩) := by
  rw [List.append_assoc, natS_enc (by rw [p128]; omega), if_pos h]
 have e2 : rawS ⟨fourB (crc (enc (p ++ [c]).length ++ (p ++ [c]))) ++ (p ++ [d]), false⟩ 4 = (fourB (crc (enc (p ++ [c]).length ++ (p ++ [c]))), ⟨p ++ [d], false⟩) := rawS_app rfl
 have e3 : rawS ⟨p ++ [d], false⟩ (p ++ [c]).length = (p ++ [d], ⟨[], false⟩) := by
  have := rawS_app (a := p ++ [d]) (r := []) (n := ((p ++ [c]).length : Int)) (by simp)
  rwa [List.append_nil] at this
 unfold openS
 simp only [e1, e2, e3]
 rw [if_pos]
 right
 intro hf
 have := fourB_inj (crc_lt _) (crc_lt _) hf
 rw [← List.append_assoc, ← List.append_assoc] at this
 exact hcd (crc_last this).symm
/-- What a loss of power leaves of records: some of them, in order, and nothing that is one. -/
theorem spoiled {n : Int} (hn : n ≤ 7) (s : UInt8) : ∀ (rs : List Ent) (k : Nat), GoodE n rs → k ≤ (recsOf rs).length → ∃ j r, j ≤ rs.length ∧ spoilL ((recsOf rs).take k) s = recsOf (rs.take j) ++ r ∧ NoRec n r
 | [], k, _, hk => ⟨0, [], Nat.le_refl _, by simp [recsOf, spoil_nil], .inl open_nil⟩
 | e :: t, k, hg, hk => by
  have he := hg e (by simp)
  have hl := recB_le hn he
  have hlt : (recB e.1 e.2).length ≤ 16384 := by omega
  by_cases h0 : k = 0
  ·subst h0
   exact ⟨0, [], Nat.zero_le _, by simp [recsOf, spoil_nil], .inl open_nil⟩
  by_cases hgt : (recOf e).length < k
  ·have hk2 : k - (recOf e).length ≤ (recsOf t).length := by rw [recsOf_cons, List.length_append] at hk; omega
   obtain ⟨j, r, hj, hs, hr⟩ := spoiled hn s t (k - (recOf e).length) (fun x hx => hg x (by simp [hx])) hk2
   refine ⟨j + 1, r, by simpa using hj, ?_, hr⟩
   rw [recsOf_cons, List.take_append, List.take_of_length_le (by omega), spoil_app _ (fun h => ?_), hs, List.take_succ_cons, recsOf_cons, List.append_assoc]
   have := congrArg List.length h
   rw [List.length_take] at this
   simp only [List.length_nil] at this
   omega
  ·-- within the first record
   rw [recsOf_cons, List.take_append_of_le_length (by omega)]
   by_cases heq : k = (recOf e).length
   ·rw [heq, List.take_length]
    have hb0 : 0 < (recB e.1 e.2).length := by
     have h2 := enc_pos e.1.rep.toNat
     unfold recB
     simp only [encs, List.flatMap_cons, List.length_append]
     omega
    have hb : recB e.1 e.2 ≠ [] := fun h => by rw [h] at hb0; simp at hb0
    obtain ⟨p, c, hpc⟩ : ∃ p c, recB e.1 e.2 = p ++ [c] := ⟨(recB e.1 e.2).dropLast, (recB e.1 e.2).getLast hb, (List.dropLast_concat_getLast hb).symm⟩
    have hsp : spoilL (recOf e) s = enc (recB e.1 e.2).length ++ fourB (crc (enc (recB e.1 e.2).length ++ recB e.1 e.2)) ++ (p ++ [c ^^^ s]) := by
     rw [recOf_eq, sealS_eq hlt]
     conv => lhs; rw [spoil_app _ hb]
     rw [hpc, spoil_snoc]
    by_cases hcs : c = c ^^^ s
    ·refine ⟨1, [], by simp, ?_, .inl open_nil⟩
     rw [hsp, ← hcs, ← hpc, ← sealS_eq hlt]
     simp [recsOf, recOf_eq]
    ·refine ⟨0, spoilL (recOf e) s, Nat.zero_le _, by simp [recsOf], .inl ?_⟩
     rw [hsp]
     exact open_turned (by rw [← hpc]; exact hlt) hcs hpc
   ·refine ⟨0, spoilL ((recOf e).take k) s, Nat.zero_le _, by simp [recsOf], .inl ?_⟩
    have hlt2 : k < (recOf e).length := by omega
    obtain ⟨k', rfl⟩ : ∃ k', k = k' + 1 := ⟨k - 1, by omega⟩
    have hk3 : k' < (recOf e).length := by omega
    have htk : (recOf e).take (k' + 1) = (recOf e).take k' ++ [(recOf e)[k']] := (List.take_succ_eq_append_getElem hk3)
    rw [htk, spoil_snoc]
    refine open_part (t := recB e.1 e.2) (c := (recOf e)[k']) (q := (recOf e).drop (k' + 1)) hlt ?_ ?_
    ·rw [← recOf_eq]
     conv => lhs; rw [← List.take_append_drop k' (recOf e), List.drop_eq_getElem_cons hk3]
    ·intro h
     have := congrArg List.length h
     rw [List.length_drop] at this
     simp at this
     omega
end Go.Proofs.YtomlilkobhkoiaaGreatDoor
/- Layer 9, plain: a ledger's plate and its rows go together, whatever happens. No walk stands here. -/
namespace Go.Proofs.YtomlilkobhkoiaaGreatDoor
open Go.RowKit
set_option linter.unusedVariables false
/-- Rows that know the same. -/
def RowsEq (a b : RowsM) : Prop := a.n = b.n ∧ ∀ x, (getM a x).map NV = (getM b x).map NV
theorem RowsEq.refl (a : RowsM) : RowsEq a a := ⟨rfl, fun _ => rfl⟩
theorem RowsEq.symm {a b : RowsM} (h : RowsEq a b) : RowsEq b a := ⟨h.1.symm, fun x => (h.2 x).symm⟩
theorem RowsEq.trans {a b c : RowsM} (h : RowsEq a b) (k : RowsEq b c) : RowsEq a c := ⟨h.1.trans k.1, fun x => (h.2 x).trans (k.2 x)⟩
theorem RowsEq.set {a b : RowsM} (h : RowsEq a b) (x : Item) {i j : Inst} (hij : NV i = NV j) : RowsEq (setM a x i) (setM b x j) := by
 refine ⟨by rw [setM_n, setM_n]; exact h.1, fun y => ?_⟩
 by_cases hg : goodI x a.n = true
 ·have hg2 : goodI x b.n = true := h.1 ▸ hg
  by_cases e : x = y
  ·subst e; rw [getM_set_same _ hg, getM_set_same _ hg2]; simp [hij]
  ·rw [getM_set_other _ hg e, getM_set_other _ hg2 e]; exact h.2 y
 ·have hg2 : ¬ goodI x b.n = true := h.1 ▸ hg
  have e1 : setM a x i = a := by unfold setM; rw [if_neg hg]
  have e2 : setM b x j = b := by unfold setM; rw [if_neg hg2]
  rw [e1, e2]; exact h.2 y
/-- What is known behind records. -/
noncomputable def foldM (m : RowsM) (rs : List Ent) : RowsM := rs.foldl (fun m e => setM m e.1 e.2) m
noncomputable def foldE (n : Int) (rs : List Ent) : RowsM := foldM ⟨n, fun _ => []⟩ rs
theorem foldM_n (rs : List Ent) : ∀ m, (foldM m rs).n = m.n := by
 induction rs with
 | nil => intro m; rfl
 | cons e t ih => intro m; show (foldM (setM m e.1 e.2) t).n = _; rw [ih, setM_n]
theorem foldE_n (n : Int) (rs : List Ent) : (foldE n rs).n = n := foldM_n rs _
theorem foldE_snoc (n : Int) (rs : List Ent) (e : Ent) : foldE n (rs ++ [e]) = setM (foldE n rs) e.1 e.2 := by
 unfold foldE foldM; rw [List.foldl_append]; rfl
/-! all that is known, in its order -/
noncomputable def entsC (g : Item → Option Inst) : List Ent := (List.range 7).flatMap fun r => (List.range 64).filterMap fun k => (g ⟨((r : Nat) : Int), ((k : Nat) : Int) + 1⟩).map fun t => (⟨((r : Nat) : Int), ((k : Nat) : Int) + 1⟩, t)
theorem filterMap_pre {α β : Type} (f : α → Option β) {l m : List α} (h : ∀ x ∈ m, f x = none) : (l ++ m).filterMap f = l.filterMap f := by
 rw [List.filterMap_append]
 have : m.filterMap f = [] := List.filterMap_eq_nil_iff.2 h
 rw [this, List.append_nil]
theorem getM_top {m : RowsM} {r k : Nat} (h : (topM m r).toNat ≤ k) : getM m ⟨(r : Int), (k : Int) + 1⟩ = none := by
 unfold getM
 split
 ·rename_i hg
  unfold goodI at hg
  rw [decide_eq_true_iff] at hg
  simp only at hg
  unfold topM at h
  rw [if_pos ⟨by omega, hg.2.1⟩] at h
  simp only
  rw [List.getElem?_eq_none (by omega)]
  rfl
 ·rfl
theorem ents_C {m : RowsM} (hm : RowsOk m) : ents m = entsC (getM m) := by
 have hr : ∀ r : Nat, entR m r (topM m r).toNat = (List.range 64).filterMap fun k => (getM m ⟨((r : Nat) : Int), ((k : Nat) : Int) + 1⟩).map fun t => (⟨((r : Nat) : Int), ((k : Nat) : Int) + 1⟩, t) := fun r => by
  have ht := hm.top (r : Int)
  obtain ⟨d, hd⟩ := Nat.exists_eq_add_of_le (show (topM m r).toNat ≤ 64 by omega)
  rw [hd, List.range_add, filterMap_pre]
  ·rfl
  ·intro x hx
   obtain ⟨j, _, rfl⟩ := List.mem_map.1 hx
   rw [getM_top (by omega)]; rfl
 have hto : ∀ n, entsTo m n = (List.range n).flatMap fun r => (List.range 64).filterMap fun k => (getM m ⟨((r : Nat) : Int), ((k : Nat) : Int) + 1⟩).map fun t => (⟨((r : Nat) : Int), ((k : Nat) : Int) + 1⟩, t) := fun n => by
  induction n with
  | zero => rfl
  | succ n ih => rw [entsTo, ih, hr, show List.range (n + 1) = List.range n ++ [n] from List.range_succ, List.flatMap_append]; simp
 exact hto 7
theorem ents_has {m : RowsM} (hm : RowsOk m) {x : Item} {t : Inst} (h : getM m x = some t) : (x, t) ∈ ents m := by
 rw [ents_C hm]
 have hg := getM_good h
 unfold goodI at hg
 rw [decide_eq_true_iff] at hg
 have hn := hm.n
 unfold entsC
 rw [List.mem_flatMap]
 refine ⟨x.rep.toNat, by rw [List.mem_range]; omega, ?_⟩
 rw [List.mem_filterMap]
 refine ⟨x.num.toNat - 1, by rw [List.mem_range]; omega, ?_⟩
 have e : (⟨((x.rep.toNat : Nat) : Int), ((x.num.toNat - 1 : Nat) : Int) + 1⟩ : Item) = x := by
  obtain ⟨a, b⟩ := x
  simp only at hg ⊢
  congr 1 <;> omega
 rw [e, h]; rfl
theorem fold_same {m : RowsM} : ∀ (L : List Ent) (m0 : RowsM), m0.n = m.n → (∀ e ∈ L, getM m e.1 = some e.2) → ∀ x, ((∃ e ∈ L, e.1 = x) → getM (foldM m0 L) x = getM m x) ∧ ((¬ ∃ e ∈ L, e.1 = x) → getM (foldM m0 L) x = getM m0 x)
 | [], m0, _, _, x => ⟨fun ⟨_, h, _⟩ => by simp at h, fun _ => rfl⟩
 | e :: t, m0, hn, hL, x => by
  have he := hL e (by simp)
  have hg : goodI e.1 m0.n = true := hn ▸ getM_good he
  have ih := fold_same t (setM m0 e.1 e.2) (by rw [setM_n]; exact hn) (fun y hy => hL y (by simp [hy])) x
  show (_ → getM (foldM (setM m0 e.1 e.2) t) x = _) ∧ (_ → getM (foldM (setM m0 e.1 e.2) t) x = _)
  by_cases h1 : ∃ y ∈ t, y.1 = x
  ·refine ⟨fun _ => ih.1 h1, fun h2 => ?_⟩
   obtain ⟨y, hy, hx⟩ := h1
   exact absurd ⟨y, by simp [hy], hx⟩ h2
  ·rw [ih.2 h1]
   by_cases h2 : e.1 = x
   ·subst h2
    rw [getM_set_same _ hg]
    exact ⟨fun _ => he.symm, fun h => absurd ⟨e, by simp, rfl⟩ h⟩
   ·rw [getM_set_other _ hg h2]
    refine ⟨fun ⟨y, hy, hx⟩ => ?_, fun _ => rfl⟩
    rcases List.mem_cons.1 hy with rfl | hy
    ·exact absurd hx h2
    ·exact absurd ⟨y, hy, hx⟩ h1
/-- Written anew: the records of all that is known. -/
theorem fold_ents {m : RowsM} (hm : RowsOk m) : RowsEq (foldE m.n (ents m)) m := by
 refine ⟨foldE_n _ _, fun x => ?_⟩
 have h := fold_same (m := m) (ents m) ⟨m.n, fun _ => []⟩ rfl (fun e he => ents_mem he) x
 by_cases hx : ∃ e ∈ ents m, e.1 = x
 ·unfold foldE; rw [h.1 hx]
 ·unfold foldE
  rw [h.2 hx, getM_new]
  cases hg : getM m x with
  | none => rfl
  | some t => exact absurd ⟨(x, t), ents_has hm hg, rfl⟩ hx
/-! a ledger: its plate's records, and its rows -/
structure LedI (n : Int) (D : List UInt8) (safe : Nat) (m : RowsM) (r1 r2 : List Ent) : Prop where
 n7 : 0 ≤ n ∧ n ≤ 7
 mn : m.n = n
 ok : RowsOk m
 good : RowsGood m
 recs : GoodE n (r1 ++ r2)
 data : D = recsOf (r1 ++ r2)
 at' : safe = (recsOf r1).length
 len : D.length ≤ 65536
 same : RowsEq m (foldE n (r1 ++ r2))
theorem LedI.new {n : Int} (h : 0 ≤ n ∧ n ≤ 7) : LedI n [] 0 ⟨n, fun _ => []⟩ [] [] :=
 ⟨h, rfl, RowsOk.new h, RowsGood.new n, fun _ h => by simp at h, rfl, rfl, by simp, RowsEq.refl _⟩
theorem GoodE.app {n : Int} {a b : List Ent} (ha : GoodE n a) (hb : GoodE n b) : GoodE n (a ++ b) := fun e he => by
 rcases List.mem_append.1 he with h | h
 ·exact ha e h
 ·exact hb e h
theorem LedI.goodEnts {n : Int} {D : List UInt8} {safe : Nat} {m : RowsM} {r1 r2 : List Ent} (h : LedI n D safe m r1 r2) : GoodE n (ents m) := fun e he => by
 have h1 := ents_mem he
 rw [← h.mn]
 exact ⟨getM_good h1, h.good _ _ h1⟩
theorem LedI.tidy {n : Int} {D : List UInt8} {safe : Nat} {m : RowsM} {r1 r2 : List Ent} (h : LedI n D safe m r1 r2) (k : Nat) :
  (tightP D safe m k = (D, safe, 0)) ∨ (LedI n (tightP D safe m k).1 (tightP D safe m k).2.1 m (ents m) [] ∧ (tightP D safe m k).2.2 = 0) ∨ (tightP D safe m k = (D, safe, 6)) := by
 unfold tightP
 split
 ·unfold tidyP
  split
  ·right; left
   refine ⟨⟨h.n7, h.mn, h.ok, h.good, by rw [List.append_nil]; exact h.goodEnts, by rw [List.append_nil], rfl, by assumption, ?_⟩, rfl⟩
   rw [List.append_nil]
   have := fold_ents h.ok
   rw [h.mn] at this
   exact this.symm
  ·exact .inr (.inr rfl)
 ·exact .inl rfl
/-- What is behind an Add: refused, or full, or added. -/
theorem LedI.add {n : Int} {D : List UInt8} {safe : Nat} {m : RowsM} {r1 r2 : List Ent} (h : LedI n D safe m r1 r2) (x : Item) (i : Inst) :
  ((addM D safe m x i).2.2.2 ≠ 0 ∧ (addM D safe m x i).2.2.1 = m ∧ (LedI n (addM D safe m x i).1 (addM D safe m x i).2.1 m r1 r2 ∨ LedI n (addM D safe m x i).1 (addM D safe m x i).2.1 m (ents m) [])) ∨
  ((addM D safe m x i).2.2.2 = 0 ∧ (addM D safe m x i).2.2.1 = setM m x i ∧ (LedI n (addM D safe m x i).1 (addM D safe m x i).2.1 (setM m x i) r1 (r2 ++ [(x, i)]) ∨ LedI n (addM D safe m x i).1 (addM D safe m x i).2.1 (setM m x i) (ents m) [(x, i)])) := by
 have step : ∀ {D' : List UInt8} {safe' : Nat} {a b : List Ent}, LedI n D' safe' m a b → goodI x m.n = true → goodN i m.n = true → D'.length + (recOf (x, i)).length ≤ 65536 → LedI n (D' ++ recOf (x, i)) safe' (setM m x i) a (b ++ [(x, i)]) := fun {D' safe' a b} h hx hi hl => by
  refine ⟨h.n7, by rw [setM_n]; exact h.mn, h.ok.set x i, h.good.set hx hi, ?_, ?_, h.at', by rw [List.length_append]; exact hl, ?_⟩
  ·rw [← List.append_assoc]
   exact h.recs.app fun e he => by simp at he; subst he; rw [← h.mn]; exact ⟨hx, hi⟩
  ·rw [← List.append_assoc, recsOf_app, ← h.data]; simp [recsOf]
  ·rw [← List.append_assoc, foldE_snoc]; exact h.same.set x rfl
 by_cases hg : goodI x m.n = true ∧ goodN i m.n = true
 ·have e : addM D safe m x i = if (tightP D safe m (recOf (x, i)).length).2.2 = 0 then
     if (tightP D safe m (recOf (x, i)).length).1.length + (recOf (x, i)).length ≤ 65536 then ((tightP D safe m (recOf (x, i)).length).1 ++ recOf (x, i), (tightP D safe m (recOf (x, i)).length).2.1, setM m x i, 0)
     else ((tightP D safe m (recOf (x, i)).length).1, (tightP D safe m (recOf (x, i)).length).2.1, m, 6)
    else ((tightP D safe m (recOf (x, i)).length).1, (tightP D safe m (recOf (x, i)).length).2.1, m, (tightP D safe m (recOf (x, i)).length).2.2) := by unfold addM; rw [if_pos hg]
  rw [e]
  rcases h.tidy (recOf (x, i)).length with ht | ⟨hI, ht⟩ | ht
  ·rw [ht, if_pos rfl]
   split
   ·exact .inr ⟨rfl, rfl, .inl (step h hg.1 hg.2 (by assumption))⟩
   ·exact .inl ⟨by simp, rfl, .inl h⟩
  ·rw [if_pos ht]
   split
   ·exact .inr ⟨rfl, rfl, .inr (step hI hg.1 hg.2 (by assumption))⟩
   ·exact .inl ⟨by simp, rfl, .inr hI⟩
  ·rw [ht, if_neg (by simp)]
   exact .inl ⟨by simp, rfl, .inl h⟩
 ·have e : addM D safe m x i = (D, safe, m, 1) := by unfold addM; rw [if_neg hg]
  rw [e]
  exact .inl ⟨by simp, rfl, .inl h⟩
/-- Whatever the plate holds, what is opened goes with it. -/
theorem mK_ok {n : Int} (h : 0 ≤ n ∧ n ≤ 7) : ∀ (ts : List (Nat × List UInt8)), ts.all (fun t => okT n t.2) = true → ∀ m : RowsM, m.n = n → RowsOk m → RowsGood m → RowsOk (ts.foldl (fun m t => setM m (readS ⟨t.2, false⟩).1 (readS ⟨t.2, false⟩).2.1) m) ∧ RowsGood (ts.foldl (fun m t => setM m (readS ⟨t.2, false⟩).1 (readS ⟨t.2, false⟩).2.1) m)
 | [], _, m, _, h1, h2 => ⟨h1, h2⟩
 | t :: ts, hok, m, hn, h1, h2 => by
  simp at hok
  have ho := hok.1
  unfold okT at ho
  simp only [Bool.and_eq_true] at ho
  refine mK_ok h ts (by simpa using hok.2) _ (by rw [setM_n]; exact hn) (h1.set _ _) (h2.set (by rw [hn]; exact ho.1.2) (by rw [hn]; exact ho.2))
theorem takeWhile_good {α : Type} (p : α → Bool) : ∀ l : List α, (l.takeWhile p).all p = true
 | [] => rfl
 | a :: t => by
  rw [List.takeWhile_cons]
  split
  ·rename_i h
   rw [List.all_cons, h, takeWhile_good p t]; rfl
  ·rfl
theorem goT_all (n : Int) (D : List UInt8) : (goT n D).all (fun t => okT n t.2) = true := by
 unfold goT
 exact takeWhile_good _ _
theorem mK_rows {n : Int} (h : 0 ≤ n ∧ n ≤ 7) (D : List UInt8) : RowsOk (mK n (goT n D)) ∧ RowsGood (mK n (goT n D)) := mK_ok h _ (goT_all n D) _ rfl (RowsOk.new h) (RowsGood.new n)
noncomputable def openD (n : Int) (D : List UInt8) : List UInt8 := if eK (goT n D) < D.length then D.take (eK (goT n D)) else D
noncomputable def openF (n : Int) (D : List UInt8) (safe : Nat) : Nat := if eK (goT n D) < D.length then eK (goT n D) else safe
end Go.Proofs.YtomlilkobhkoiaaGreatDoor
/- Layer 9, plain: books of what a ledger knows. No walk stands here. -/
namespace Go.Proofs.YtomlilkobhkoiaaGreatDoor
open Go.RowKit
set_option linter.unusedVariables false
end Go.Proofs.YtomlilkobhkoiaaGreatDoor
/- Layer 9: what a ledger knows, as a book. -/
namespace Go.Proofs.YtomlilkobhkoiaaGreatDoor
open Go.RowKit Go.Shelf
set_option linter.unusedVariables false
set_option maxRecDepth 20000
attribute [local go_sem] Oper.semAt_some
attribute [local go_sem] row_alloc row_drew row_drewN row_ext row_setCell row_setRow size_ext setRow_alloc setRow_drew loadOf storeOf piece_lit loadVal_at storeVal_at allOne_lit buildOf buildRes_some
attribute [local go_sem high] cell_alloc frozen_alloc setCell_alloc cell_ext frozen_ext cell_setRow frozen_setRow
attribute [local go_sem ↓] TDeed_ld0 TDeed_st0 TDeed_fd0 TDeed_bd0
attribute [local go_sem] TDeed_size TDeed_one TDeed_piece TDeed_c0 TDeed_c1 TDeed_c2 TDeed_c3 TDeed_c4 TDeed_c5 TDeed_set_kind TDeed_set_key TDeed_set_val TDeed_set_ver TDeed_set_ses TDeed_set_num TDeed_ld TDeed_st TDeed_f_kind TDeed_f_key TDeed_f_val TDeed_f_ver TDeed_f_ses TDeed_f_num TDeed_bd TDeed_fl TDeed_fl_kind TDeed_fl_key TDeed_fl_val TDeed_fl_ver TDeed_fl_ses TDeed_fl_num
attribute [local go_sem high] TDeed_eql TDeed_neq
attribute [local go_sem ↓] index_deps0 load_deps0 store_deps0
attribute [local go_sem] DV_piece DV_size DV_one index_deps load_deps store_deps
attribute [local go_sem high] TDeps_eql TDeps_neq
attribute [local go_sem ↓] TCall_ld0 TCall_st0 TCall_fd0 TCall_bd0
attribute [local go_sem] TCall_size TCall_one TCall_piece TCall_c0 TCall_c1 TCall_c2 TCall_c3 TCall_c4 TCall_c5 TCall_c6 TCall_c7 TCall_c8 TCall_c9 TCall_c10 TCall_c11 TCall_c12 TCall_c13 TCall_p_deed TCall_put_deed TCall_p_deps TCall_put_deps TCall_set_seq TCall_ld TCall_st TCall_f_deed TCall_f_deps TCall_f_seq TCall_bd TCall_fl TCall_fl_deed TCall_fl_deps TCall_fl_seq
attribute [local go_sem high] TCall_eql TCall_neq
attribute [local go_sem ↓] TItem_ld0 TItem_st0 TItem_fd0 TItem_bd0
attribute [local go_sem] TItem_size TItem_one TItem_piece TItem_c0 TItem_c1 TItem_set_rep TItem_set_num TItem_ld TItem_st TItem_f_rep TItem_f_num TItem_bd TItem_fl TItem_fl_rep TItem_fl_num
attribute [local go_sem high] TItem_eql TItem_neq
attribute [local go_sem ↓] TBallot_ld0 TBallot_st0 TBallot_fd0 TBallot_bd0
attribute [local go_sem] TBallot_size TBallot_one TBallot_piece TBallot_c0 TBallot_c1 TBallot_set_round TBallot_set_rep TBallot_ld TBallot_st TBallot_f_round TBallot_f_rep TBallot_bd TBallot_fl TBallot_fl_round TBallot_fl_rep
attribute [local go_sem high] TBallot_eql TBallot_neq
attribute [local go_sem ↓] TInst_ld0 TInst_st0 TInst_fd0 TInst_bd0
attribute [local go_sem] TInst_size TInst_one TInst_piece TInst_c0 TInst_c1 TInst_c2 TInst_c3 TInst_c4 TInst_c5 TInst_c6 TInst_c7 TInst_c8 TInst_c9 TInst_c10 TInst_c11 TInst_c12 TInst_c13 TInst_c14 TInst_c15 TInst_c16 TInst_c17 TInst_c18 TInst_c19 TInst_p_prom TInst_put_prom TInst_p_vote TInst_put_vote TInst_set_status TInst_p_call TInst_put_call TInst_set_same TInst_ld TInst_st TInst_f_prom TInst_f_vote TInst_f_status TInst_f_call TInst_f_same TInst_bd TInst_fl TInst_fl_prom TInst_fl_vote TInst_fl_status TInst_fl_call TInst_fl_same
attribute [local go_sem high] TInst_eql TInst_neq
section
variable {w W : World} {F : Nat → Prop} {R : List Res} {l p g : Nat} {D : List UInt8} {safe : Nat} {m : RowsM}
end
end Go.Proofs.YtomlilkobhkoiaaGreatDoor
/- Layer 9: do two books know the same? The walk. -/
namespace Go.Proofs.YtomlilkobhkoiaaGreatDoor
open Go.RowKit Go.Shelf
set_option linter.unusedVariables false
set_option maxRecDepth 20000
attribute [local go_sem] row_alloc row_drew row_drewN row_ext row_setCell row_setRow size_ext setRow_alloc setRow_drew loadOf storeOf piece_lit loadVal_at storeVal_at allOne_lit buildOf buildRes_some
attribute [local go_sem high] cell_alloc frozen_alloc setCell_alloc cell_ext frozen_ext cell_setRow frozen_setRow
attribute [local go_sem ↓] TDeed_ld0 TDeed_st0 TDeed_fd0 TDeed_bd0
attribute [local go_sem] TDeed_size TDeed_one TDeed_piece TDeed_c0 TDeed_c1 TDeed_c2 TDeed_c3 TDeed_c4 TDeed_c5 TDeed_set_kind TDeed_set_key TDeed_set_val TDeed_set_ver TDeed_set_ses TDeed_set_num TDeed_ld TDeed_st TDeed_f_kind TDeed_f_key TDeed_f_val TDeed_f_ver TDeed_f_ses TDeed_f_num TDeed_bd TDeed_fl TDeed_fl_kind TDeed_fl_key TDeed_fl_val TDeed_fl_ver TDeed_fl_ses TDeed_fl_num
attribute [local go_sem high] TDeed_eql TDeed_neq
attribute [local go_sem ↓] index_deps0 load_deps0 store_deps0
attribute [local go_sem] DV_piece DV_size DV_one index_deps load_deps store_deps
attribute [local go_sem high] TDeps_eql TDeps_neq
attribute [local go_sem ↓] TCall_ld0 TCall_st0 TCall_fd0 TCall_bd0
attribute [local go_sem] TCall_size TCall_one TCall_piece TCall_c0 TCall_c1 TCall_c2 TCall_c3 TCall_c4 TCall_c5 TCall_c6 TCall_c7 TCall_c8 TCall_c9 TCall_c10 TCall_c11 TCall_c12 TCall_c13 TCall_p_deed TCall_put_deed TCall_p_deps TCall_put_deps TCall_set_seq TCall_ld TCall_st TCall_f_deed TCall_f_deps TCall_f_seq TCall_bd TCall_fl TCall_fl_deed TCall_fl_deps TCall_fl_seq
attribute [local go_sem high] TCall_eql TCall_neq
attribute [local go_sem ↓] TItem_ld0 TItem_st0 TItem_fd0 TItem_bd0
attribute [local go_sem] TItem_size TItem_one TItem_piece TItem_c0 TItem_c1 TItem_set_rep TItem_set_num TItem_ld TItem_st TItem_f_rep TItem_f_num TItem_bd TItem_fl TItem_fl_rep TItem_fl_num
attribute [local go_sem high] TItem_eql TItem_neq
attribute [local go_sem ↓] TBallot_ld0 TBallot_st0 TBallot_fd0 TBallot_bd0
attribute [local go_sem] TBallot_size TBallot_one TBallot_piece TBallot_c0 TBallot_c1 TBallot_set_round TBallot_set_rep TBallot_ld TBallot_st TBallot_f_round TBallot_f_rep TBallot_bd TBallot_fl TBallot_fl_round TBallot_fl_rep
attribute [local go_sem high] TBallot_eql TBallot_neq
attribute [local go_sem ↓] TInst_ld0 TInst_st0 TInst_fd0 TInst_bd0
attribute [local go_sem] TInst_size TInst_one TInst_piece TInst_c0 TInst_c1 TInst_c2 TInst_c3 TInst_c4 TInst_c5 TInst_c6 TInst_c7 TInst_c8 TInst_c9 TInst_c10 TInst_c11 TInst_c12 TInst_c13 TInst_c14 TInst_c15 TInst_c16 TInst_c17 TInst_c18 TInst_c19 TInst_p_prom TInst_put_prom TInst_p_vote TInst_put_vote TInst_set_status TInst_p_call TInst_put_call TInst_set_same TInst_ld TInst_st TInst_f_prom TInst_f_vote TInst_f_status TInst_f_call TInst_f_same TInst_bd TInst_fl TInst_fl_prom TInst_fl_vote TInst_fl_status TInst_fl_call TInst_fl_same
attribute [local go_sem high] TInst_eql TInst_neq
end Go.Proofs.YtomlilkobhkoiaaGreatDoor
/- LedgerSynced: what was synced is known behind any loss of power. -/
namespace Go.Proofs.YtomlilkobhkoiaaGreatDoor
open Go.RowKit
set_option linter.unusedVariables false
set_option maxRecDepth 20000
theorem sizeB_n {n : Int} (h : sizeB n = true) : 0 ≤ n ∧ n ≤ 7 := by
 unfold sizeB at h; simp at h; omega
theorem openT2 {w W : World} {F : Nat → Prop} {R : List Res} {p safe : Nat} {D : List UInt8} (T : Sts w F W (plR p D safe :: R)) (hD : D.length ≤ 65536) (n : Int) (hn : sizeB n = true) :
  Calls Tryz.prog 30 #[.pointer (some ⟨p, 0, none⟩), .int .i64 n] W fun e W' => ∃ l g, e = .returned (.tuple #[.pointer (some ⟨l, 0, none⟩), .int .i64 0]) ∧ Sts w F W' (ledL l p g (openD n D) (openF n D safe) (mK n (goT n D)) ++ R) := openT T hD n hn
end Go.Proofs.YtomlilkobhkoiaaGreatDoor
