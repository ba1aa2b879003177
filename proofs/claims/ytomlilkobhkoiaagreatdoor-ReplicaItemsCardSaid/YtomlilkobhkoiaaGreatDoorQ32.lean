/- Several texts in one. -/
import Derived.Test.YtomlilkobhkoiaaGreatDoorQ26
import Derived.Test.YtomlilkobhkoiaaGreatDoorQ24
import Derived.Test.YtomlilkobhkoiaaGreatDoorQ12
import Derived.Test.YtomlilkobhkoiaaGreatDoorQ3
import Derived.Maps.Range
/- Layer 12, plain: what is in a deed's way depends on what is known alone. No walk stands here. -/
namespace Go.Proofs.YtomlilkobhkoiaaGreatDoor
open Go.RowKit
set_option linter.unusedVariables false
attribute [local instance 10] Classical.propDecidable
noncomputable def mx {α : Type} (f : α → Int) (l : List α) : Int := l.foldl (fun a x => maxI a (f x)) 0
theorem le_maxI_left (a b : Int) : a ≤ maxI a b := by unfold maxI; split <;> omega
theorem le_maxI_right (a b : Int) : b ≤ maxI a b := by unfold maxI; split <;> omega
theorem maxI_cases (a b : Int) : maxI a b = a ∨ maxI a b = b := by unfold maxI; split <;> simp
section
variable {α : Type} {f : α → Int}
theorem mx_snoc (f : α → Int) (l : List α) (x : α) : mx f (l ++ [x]) = maxI (mx f l) (f x) := by unfold mx; rw [List.foldl_append]; rfl
theorem mx_all (f : α → Int) : ∀ (n : Nat) (l : List α), l.length = n → 0 ≤ mx f l ∧ (∀ x ∈ l, f x ≤ mx f l) ∧ (mx f l = 0 ∨ ∃ x ∈ l, mx f l = f x)
 | 0, l, h => by
  have : l = [] := List.eq_nil_of_length_eq_zero h
  subst this
  exact ⟨Int.le_refl _, fun x h => by simp at h, .inl rfl⟩
 | n + 1, l, h => by
  have hne : l ≠ [] := by rintro rfl; simp at h
  obtain ⟨h0, h1, h2⟩ := mx_all f n l.dropLast (by simp; omega)
  have hd := List.dropLast_concat_getLast hne
  generalize l.dropLast = p at *
  generalize l.getLast hne = y at *
  subst hd
  rw [mx_snoc]
  have hl := le_maxI_left (mx f p) (f y)
  have hr := le_maxI_right (mx f p) (f y)
  refine ⟨by omega, fun x hx => ?_, ?_⟩
  ·rcases List.mem_append.1 hx with h | h
   ·have := h1 x h; omega
   ·simp at h; subst h; exact hr
  ·rcases maxI_cases (mx f p) (f y) with e | e
   ·rw [e]
    rcases h2 with h2 | ⟨x, hx, h2⟩
    ·exact .inl h2
    ·exact .inr ⟨x, by simp [hx], h2⟩
   ·rw [e]; exact .inr ⟨y, by simp, rfl⟩
theorem mx_nonneg (f : α → Int) (l : List α) : 0 ≤ mx f l := (mx_all f _ l rfl).1
theorem mx_ge {l : List α} {x : α} (h : x ∈ l) : f x ≤ mx f l := (mx_all f _ l rfl).2.1 x h
theorem mx_hit (f : α → Int) (l : List α) : mx f l = 0 ∨ ∃ x ∈ l, mx f l = f x := (mx_all f _ l rfl).2.2
theorem mx_le {l : List α} {v : Int} (h0 : 0 ≤ v) (h : ∀ x ∈ l, f x ≤ v) : mx f l ≤ v := by
 rcases mx_hit f l with e | ⟨x, hx, e⟩
 ·omega
 ·have := h x hx; omega
theorem mx_congr {l m : List α} (h1 : ∀ x ∈ l, 0 < f x → x ∈ m) (h2 : ∀ x ∈ m, 0 < f x → x ∈ l) : mx f l = mx f m := by
 have a : mx f l ≤ mx f m := mx_le (mx_nonneg f m) fun x hx => by
  by_cases h : 0 < f x
  ·exact mx_ge (h1 x hx h)
  ·have := mx_nonneg f m; omega
 have b : mx f m ≤ mx f l := mx_le (mx_nonneg f l) fun x hx => by
  by_cases h : 0 < f x
  ·exact mx_ge (h2 x hx h)
  ·have := mx_nonneg f l; omega
 omega
end
/-- An item that is in the way, by what is known. -/
def hitG (g : Item → Option Inst) (d : Deed) (but x : Item) : Prop := eqA (IV x) (IV but) = false ∧ clashB ((g x).getD noInst).call.deed d = true
noncomputable def outG (g : Item → Option Inst) (d : Deed) (but : Item) (r : Nat) (x : Item) : Int := if hitG g d but x ∧ x.rep = (r : Int) then x.num else 0
noncomputable def seqG (g : Item → Option Inst) (d : Deed) (but x : Item) : Int := if hitG g d but x then lowI (((g x).getD noInst).call.seq + 1) 1099511627776 else 0
theorem noDeed_clash (d : Deed) : clashB noInst.call.deed d = false := by
 show clashB noDeed d = false
 unfold clashB
 simp [noDeed]
theorem hit_some {g : Item → Option Inst} {d : Deed} {but x : Item} (h : hitG g d but x) : ∃ i, g x = some i := by
 cases hg : g x with
 | none =>
  have h2 := h.2
  rw [hg] at h2
  have h3 := noDeed_clash d
  rw [show (none.getD noInst : Inst) = noInst from rfl, h3] at h2
  cases h2
 | some i => exact ⟨i, rfl⟩
/-- What stands in the way, over a row of items. -/
noncomputable def wayG (g : Item → Option Inst) (d : Deed) (but : Item) (xs : List Item) : WayR := ⟨fun r => mx (outG g d but r) xs, mx (seqG g d but) xs⟩
theorem wayM_G {m : RowsM} (hm : m.n ≤ 7) (hs : ∀ x i, getM m x = some i → 0 ≤ i.call.seq) (d : Deed) (but : Item) : ∀ (n : Nat) (xs : List Item), xs.length = n → wayM m d but xs = wayG (getM m) d but xs
 | 0, xs, h => by
  have : xs = [] := List.eq_nil_of_length_eq_zero h
  subst this
  rfl
 | n + 1, xs, h => by
  have hne : xs ≠ [] := by rintro rfl; simp at h
  have ih := wayM_G hm hs d but n xs.dropLast (by simp; omega)
  have hd := List.dropLast_concat_getLast hne
  generalize xs.dropLast = p at *
  generalize xs.getLast hne = x at *
  subst hd
  rw [wayM_snoc, ih]
  unfold wayG
  have hseq := mx_nonneg (seqG (getM m) d but) p
  have hout := fun r => mx_nonneg (outG (getM m) d but r) p
  have e1 : mx (seqG (getM m) d but) (p ++ [x]) = _ := mx_snoc _ _ _
  have e2 : ∀ r, mx (outG (getM m) d but r) (p ++ [x]) = _ := fun r => mx_snoc _ _ _
  rw [e1, show (fun r => mx (outG (getM m) d but r) (p ++ [x])) = fun r => maxI (mx (outG (getM m) d but r) p) (outG (getM m) d but r x) from funext e2]
  unfold wayStep
  by_cases hh : hitG (getM m) d but x
  ·obtain ⟨i, hi⟩ := hit_some hh
   have hg := getM_good hi
   unfold goodI at hg
   rw [decide_eq_true_iff] at hg
   refine Eq.trans (if_pos hh) ?_
   congr 1
   ·funext r
    show withD (fun r => mx (outG (getM m) d but r) p) x.rep x.num r = _
    unfold withD outG
    rw [if_pos (by omega)]
    unfold upd
    by_cases hr : r = x.rep.toNat
    ·subst hr
     rw [if_pos rfl, if_pos ⟨hh, by omega⟩]
     unfold maxI
     dsimp only
     generalize mx _ p = a
     split <;> omega
    ·rw [if_neg hr, if_neg (fun h => hr (by omega))]
     have := hout r
     unfold outG at this
     unfold maxI
     rw [if_neg (by omega)]
   ·unfold seqG
    rw [if_pos hh]
  ·refine Eq.trans (if_neg hh) ?_
   congr 1
   ·funext r
    have := hout r
    unfold outG at this ⊢
    rw [if_neg (fun h => hh h.1)]
    unfold maxI
    rw [if_neg (by omega)]
   ·unfold seqG at hseq ⊢
    rw [if_neg hh]
    unfold maxI
    rw [if_neg (by omega)]
theorem outG_pos {g : Item → Option Inst} {d : Deed} {but x : Item} {r : Nat} (h : 0 < outG g d but r x) : hitG g d but x := by
 unfold outG at h
 split at h
 ·rename_i h2; exact h2.1
 ·omega
theorem seqG_pos {g : Item → Option Inst} {d : Deed} {but x : Item} (h : 0 < seqG g d but x) : hitG g d but x := by
 unfold seqG at h
 split at h
 ·assumption
 ·omega
/-- Over two rows that bear the same of what is in the way. -/
theorem wayG_rows {g : Item → Option Inst} {d : Deed} {but : Item} {xs ys : List Item} (h1 : ∀ x ∈ xs, hitG g d but x → x ∈ ys) (h2 : ∀ x ∈ ys, hitG g d but x → x ∈ xs) : wayG g d but xs = wayG g d but ys := by
 unfold wayG
 congr 1
 ·funext r
  exact mx_congr (fun x hx h => h1 x hx (outG_pos h)) (fun x hx h => h2 x hx (outG_pos h))
 ·exact mx_congr (fun x hx h => h1 x hx (seqG_pos h)) (fun x hx h => h2 x hx (seqG_pos h))
theorem NV_call {i j : Inst} (h : NV i = NV j) : EV i.call.deed = EV j.call.deed ∧ i.call.seq = j.call.seq := by
 have h1 : piece (NV i) 5 6 = piece (NV j) 5 6 := by rw [h]
 refine ⟨h1, ?_⟩
 have h2 : (NV i)[18]? = (NV j)[18]? := by rw [h]
 have e1 : ∀ i : Inst, (NV i)[18]? = some (.int .i64 i.call.seq) := fun i => rfl
 rw [e1, e1] at h2
 simpa using h2
theorem EV_inj {a b : Deed} (h : EV a = EV b) : a = b := by
 cases a; cases b
 simp [EV] at h
 obtain ⟨h1, h2, h3, h4, h5, h6⟩ := h
 simp [*]
/-! where deeds are found: all that is known is -/
structure IdxCov (I : Idx) (m : RowsM) : Prop where
 lists : ∀ x i, getM m x = some i → i.call.deed.kind = 5 → x ∈ I.lists
 keys : ∀ x i, getM m x = some i → i.call.deed.kind ≠ 0 → i.call.deed.kind ≠ 5 → x ∈ I.keys i.call.deed.key
 ses : ∀ x i, getM m x = some i → i.call.deed.kind ≠ 0 → i.call.deed.ses ≠ 0 → x ∈ I.ses i.call.deed.ses
theorem updK_mem {α β : Type} {f : α → List β} {k : α} {x : β} {k' : α} {y : β} (h : y ∈ f k') : y ∈ updK f k (f k ++ [x]) k' := by
 by_cases e : k' = k
 ·subst e; rw [updK_same]; simp [h]
 ·rw [updK_other _ _ e]; exact h
theorem updK_new {α β : Type} {f : α → List β} {k : α} {x : β} : x ∈ updK f k (f k ++ [x]) k := by rw [updK_same]; simp
theorem findM_sub (I : Idx) (x : Item) (d : Deed) : (∀ y ∈ I.lists, y ∈ (findM I x d).lists) ∧ (∀ k, ∀ y ∈ I.keys k, y ∈ (findM I x d).keys k) ∧ (∀ k, ∀ y ∈ I.ses k, y ∈ (findM I x d).ses k) ∧
  (d.kind = 5 → x ∈ (findM I x d).lists) ∧ (d.kind ≠ 0 → d.kind ≠ 5 → x ∈ (findM I x d).keys d.key) ∧ (d.kind ≠ 0 → d.ses ≠ 0 → x ∈ (findM I x d).ses d.ses) := by
 have hS : ∀ J : Idx, (findS J x d).lists = J.lists ∧ (findS J x d).keys = J.keys ∧ (∀ k, ∀ y ∈ J.ses k, y ∈ (findS J x d).ses k) ∧ (d.ses ≠ 0 → x ∈ (findS J x d).ses d.ses) := fun J => by
  unfold findS
  split
  ·rename_i h
   exact ⟨rfl, rfl, fun _ _ h => h, fun h2 => absurd h h2⟩
  ·exact ⟨rfl, rfl, fun k y h => updK_mem h, fun _ => updK_new⟩
 unfold findM
 split
 ·rename_i h0
  exact ⟨fun _ h => h, fun _ _ h => h, fun _ _ h => h, fun h5 => by omega, fun h => absurd h0 h, fun h => absurd h0 h⟩
 ·rename_i h0
  split
  ·rename_i h5
   obtain ⟨a, b, c, e⟩ := hS { I with lists := I.lists ++ [x] }
   rw [a, b]
   exact ⟨fun y h => by simp [h], fun _ _ h => h, c, fun _ => by simp, fun _ h => absurd h5 h, fun _ h => e h⟩
  ·rename_i h5
   obtain ⟨a, b, c, e⟩ := hS { I with keys := updK I.keys d.key (I.keys d.key ++ [x]) }
   rw [a, b]
   exact ⟨fun y h => h, fun _ _ h => updK_mem h, c, fun h => absurd h h5, fun _ _ => updK_new, fun _ h => e h⟩
theorem IdxCov.grow {I J : Idx} {m : RowsM} (h : IdxCov I m) (h1 : ∀ y ∈ I.lists, y ∈ J.lists) (h2 : ∀ k, ∀ y ∈ I.keys k, y ∈ J.keys k) (h3 : ∀ k, ∀ y ∈ I.ses k, y ∈ J.ses k) : IdxCov J m :=
 ⟨fun x i a b => h1 x (h.lists x i a b), fun x i a b c => h2 _ x (h.keys x i a b c), fun x i a b c => h3 _ x (h.ses x i a b c)⟩
/-- An item's deed is found, and is known now. -/
theorem IdxCov.find {I : Idx} {m : RowsM} (h : IdxCov I m) {x : Item} (i : Inst) (hx : goodI x m.n = true) : IdxCov (findM I x i.call.deed) (setM m x i) := by
 obtain ⟨a, b, c, e, f, g⟩ := findM_sub I x i.call.deed
 have hJ := h.grow a b c
 refine ⟨fun y j hy => ?_, fun y j hy => ?_, fun y j hy => ?_⟩ <;>
 ·by_cases hxy : x = y
  ·subst hxy
   rw [getM_set_same i hx] at hy
   injection hy with hy
   subst hy
   first | exact e | exact f | exact g
  ·rw [getM_set_other i hx hxy] at hy
   first | exact hJ.lists y j hy | exact hJ.keys y j hy | exact hJ.ses y j hy
theorem IdxCov.same {I : Idx} {m : RowsM} (h : IdxCov I m) {x : Item} (i : Inst) (hx : goodI x m.n = true) (hd : wasM m x = i.call.deed) : IdxCov I (setM m x i) := by
 have old : ∀ k, i.call.deed.kind = k → k ≠ 0 → ∃ t, getM m x = some t ∧ t.call.deed = i.call.deed := fun k hk h0 => by
  unfold wasM at hd
  cases hg : getM m x with
  | none =>
   rw [hg] at hd
   have : i.call.deed.kind = 0 := by rw [← hd]; rfl
   omega
  | some t => rw [hg] at hd; exact ⟨t, rfl, hd⟩
 have get : ∀ y j, getM (setM m x i) y = some j → (x = y ∧ i = j) ∨ getM m y = some j := fun y j hy => by
  by_cases hxy : x = y
  ·subst hxy
   rw [getM_set_same i hx] at hy
   injection hy with hy
   exact .inl ⟨rfl, hy⟩
  ·rw [getM_set_other i hx hxy] at hy
   exact .inr hy
 refine ⟨fun y j hy h5 => ?_, fun y j hy h0 h5 => ?_, fun y j hy h0 hs => ?_⟩
 ·rcases get y j hy with ⟨rfl, rfl⟩ | hy
  ·obtain ⟨t, ht, hte⟩ := old 5 h5 (by omega)
   exact h.lists x t ht (hte ▸ h5)
  ·exact h.lists y j hy h5
 ·rcases get y j hy with ⟨rfl, rfl⟩ | hy
  ·obtain ⟨t, ht, hte⟩ := old _ rfl h0
   rw [← hte] at h0 h5 ⊢
   exact h.keys x t ht h0 h5
  ·exact h.keys y j hy h0 h5
 ·rcases get y j hy with ⟨rfl, rfl⟩ | hy
  ·obtain ⟨t, ht, hte⟩ := old _ rfl h0
   rw [← hte] at h0 hs ⊢
   exact h.ses x t ht h0 hs
  ·exact h.ses y j hy h0 hs
theorem idxF_cov (n : Int) : ∀ (k : Nat) (L : List Ent), L.length = k → (∀ e ∈ L, goodI e.1 n = true) → IdxCov (idxF L) (foldE n L)
 | 0, L, h, _ => by
  have : L = [] := List.eq_nil_of_length_eq_zero h
  subst this
  have hno : ∀ x i, getM (foldE n []) x = some i → False := fun x i h => by have := (getM_new n x).symm.trans h; cases this
  exact ⟨fun x i h => (hno x i h).elim, fun x i h => (hno x i h).elim, fun x i h => (hno x i h).elim⟩
 | k + 1, L, h, hg => by
  have hne : L ≠ [] := by rintro rfl; simp at h
  have ih := idxF_cov n k L.dropLast (by simp; omega) (fun e he => hg e ((List.dropLast_sublist L).subset he))
  have hx := hg (L.getLast hne) (List.getLast_mem hne)
  rw [← List.dropLast_concat_getLast hne, idxF_snoc, foldE_snoc]
  exact ih.find _ (by rw [foldE_n]; exact hx)
theorem IdxCov.known {I : Idx} {m m' : RowsM} (h : IdxCov I m) (hk : ∀ x, (getM m' x).map NV = (getM m x).map NV) : IdxCov I m' := by
 have old : ∀ x i, getM m' x = some i → ∃ t, getM m x = some t ∧ t.call.deed = i.call.deed := fun x i hi => by
  have hx := hk x
  rw [hi] at hx
  cases hg : getM m x with
  | none => rw [hg] at hx; simp at hx
  | some t =>
   rw [hg] at hx
   simp at hx
   exact ⟨t, rfl, EV_inj (NV_call hx.symm).1⟩
 refine ⟨fun x i hi a => ?_, fun x i hi a b => ?_, fun x i hi a b => ?_⟩
 ·obtain ⟨t, ht, hte⟩ := old x i hi
  rw [← hte] at a
  exact h.lists x t ht a
 ·obtain ⟨t, ht, hte⟩ := old x i hi
  rw [← hte] at a b ⊢
  exact h.keys x t ht a b
 ·obtain ⟨t, ht, hte⟩ := old x i hi
  rw [← hte] at a b ⊢
  exact h.ses x t ht a b
/-- The opened space finds all that is known. -/
theorem IdxCov.ents {m : RowsM} (hm : RowsOk m) : IdxCov (idxF (ents m)) m :=
 (idxF_cov m.n _ (Go.Proofs.YtomlilkobhkoiaaGreatDoor.ents m) rfl (fun e he => getM_good (ents_mem he))).known fun x => ((fold_ents hm).2 x).symm
/-- What near gives. -/
def nearO (I : Idx) (d : Deed) (xs : List Item) : Prop := ∀ x, x ∈ xs ↔ x ∈ I.lists ∨ x ∈ I.ses d.ses ∨ ∃ k, aboutB d k = true ∧ x ∈ I.keys k
theorem str_toList {a b : ByteArray} : (a.toList == b.toList) = true ↔ a = b := by
 constructor
 ·intro h
  have h := eq_of_beq h
  rw [ByteArray.toList_eq, ByteArray.toList_eq] at h
  exact ByteArray.ext (Array.ext' h)
 ·rintro rfl; simp
theorem near_hit {I : Idx} {m : RowsM} (h : IdxCov I m) {d : Deed} {but x : Item} {xs : List Item} (hO : nearO I d xs) (hh : hitG (getM m) d but x) : x ∈ xs := by
 obtain ⟨i, hi⟩ := hit_some hh
 have hc := hh.2
 rw [hi] at hc
 simp only [Option.getD_some] at hc
 rw [hO]
 unfold clashB at hc
 by_cases h0 : i.call.deed.kind = 0
 ·simp [h0] at hc
 by_cases h5 : i.call.deed.kind = 5
 ·exact .inl (h.lists x i hi h5)
 by_cases hs : i.call.deed.ses ≠ 0 ∧ i.call.deed.ses = d.ses
 ·right; left
  rw [← hs.2]
  exact h.ses x i hi h0 hs.1
 ·right; right
  refine ⟨i.call.deed.key, ?_, h.keys x i hi h0 h5⟩
  have hs' : (!(i.call.deed.ses == 0) && (i.call.deed.ses == d.ses)) = false := by
   by_cases e : i.call.deed.ses = 0
   ·simp [e]
   ·have : ¬ i.call.deed.ses = d.ses := fun e2 => hs ⟨e, e2⟩
    simp [this]
  rw [hs', Bool.false_or] at hc
  simp only [Bool.and_eq_true, Bool.or_eq_true] at hc
  rcases hc.2 with h1 | h1
  ·unfold touchB at h1
   simp only [Bool.and_eq_true] at h1
   have hd5 : ¬ d.kind = 5 := fun e => by
    have := h1.1.1
    simp [writes, e] at this
   have h2 := h1.2
   rw [show aboutB i.call.deed d.key = (i.call.deed.key.toList == d.key.toList) from if_neg h5] at h2
   have e := str_toList.1 h2
   rw [show aboutB d i.call.deed.key = (d.key.toList == i.call.deed.key.toList) from if_neg hd5, e]
   simp
  ·unfold touchB at h1
   simp only [Bool.and_eq_true] at h1
   exact h1.2
theorem nearO_key {I : Idx} {d : Deed} (h5 : ¬ d.kind = 5) : nearO I d (I.lists ++ I.ses d.ses ++ I.keys d.key) := fun x => by
 rw [List.mem_append, List.mem_append, or_assoc]
 have e : (∃ k, aboutB d k = true ∧ x ∈ I.keys k) ↔ x ∈ I.keys d.key := by
  constructor
  ·rintro ⟨k, hk, hx⟩
   rw [show aboutB d k = (d.key.toList == k.toList) from if_neg h5] at hk
   rw [str_toList.1 hk]; exact hx
  ·intro hx
   exact ⟨d.key, by rw [show aboutB d d.key = (d.key.toList == d.key.toList) from if_neg h5]; simp, hx⟩
 rw [e]
theorem way_all {I : Idx} {m : RowsM} (h : IdxCov I m) (hm : m.n ≤ 7) (hs : ∀ x i, getM m x = some i → 0 ≤ i.call.seq) {d : Deed} {but : Item} {xs ys : List Item} (hO : nearO I d xs) (hY : ∀ x i, getM m x = some i → x ∈ ys) : wayM m d but xs = wayG (getM m) d but ys := by
 rw [wayM_G hm hs d but _ xs rfl]
 exact wayG_rows (fun x _ hh => let ⟨i, hi⟩ := hit_some hh; hY x i hi) (fun x _ hh => near_hit h hO hh)
end Go.Proofs.YtomlilkobhkoiaaGreatDoor
/- A range over a map of the call's own that is held fast, as a thing. Nothing of the program's functions stands here. -/
namespace Go.Proofs.YtomlilkobhkoiaaGreatDoor
open Go.RowKit
open Go.Maps (Keyed)
set_option linter.unusedVariables false
theorem ranges_congr {P : Program} {k : TypeId} {b r n : Nat} {D : DataW Value} {left : Lit → Bool} {cnt : Nat} {W W' : World} (h : W.ranges P k RV b r n D left cnt) (hb : W'.heap[b]? = W.heap[b]?) (hr : W'.heap[r]? = W.heap[r]?) : W'.ranges P k RV b r n D left cnt := by
 obtain ⟨es, clock, since, seen, c0, h1, h2, h3, h4, h5, h6⟩ := h
 exact ⟨es, clock, since, seen, c0, hb.trans h1, h2, h3, h4, hr.trans h5, h6⟩
theorem owns_congr {P : Program} {k : TypeId} {b n : Nat} {D : DataW Value} {W W' : World} (h : W.ownsMap P k RV b n D) (hb : W'.heap[b]? = W.heap[b]?) : W'.ownsMap P k RV b n D := by
 obtain ⟨es, clock, h1, h2⟩ := h
 exact ⟨es, clock, hb.trans h1, h2⟩
/-- In block r an iterator over the map in block b, which is as in W0. -/
def iterR (W0 : World) (P : Program) (k : TypeId) (b r n : Nat) (D : DataW Value) (left : Lit → Bool) (cnt : Nat) : Res where
 sat F W := (∀ j, F j ↔ j = r) ∧ r < W.heap.size ∧ ∀ W' : World, W'.heap[r]? = W.heap[r]? → W'.heap[b]? = W0.heap[b]? → W'.ranges P k RV b r n D left cnt
 stay := fun {F W W'} h hs => by
  have h1 := h r ((hs.1 r).2 rfl)
  have h2 : r < W'.heap.size := by
   have := hs.2.1
   rw [Array.getElem?_eq_getElem this] at h1
   exact (Array.getElem?_eq_some_iff.1 h1).1
  exact ⟨hs.1, h2, fun W2 e1 e2 => hs.2.2 W2 (e1.trans h1) e2⟩
 lt hs j hj := by rw [(hs.1 j).1 hj]; exact hs.2.1
section
variable {P : Program} {k t e : TypeId} {w W W0 : World} {F H : Nat → Prop} {R L : List Res} {b r n : Nat} {D : DataW Value} {left : Lit → Bool} {cnt : Nat}
/-- A thing that a call has left in new blocks. -/
theorem Sts.foundR {s : Res} {A : Nat → Prop} {W' : World} (h : Sts w F W L) (hb : Below W.heap.size W W') (hg : ∀ j, A j → W.heap.size ≤ j) (hr : s.sat A W') : Sts w F W' (s :: L) := by
 obtain ⟨⟨G, hs, hG⟩, m⟩ := h.pure hb
 obtain ⟨⟨G0, hs0, hg0⟩, m0⟩ := h
 have hlt := hs0.lt
 have hs1 : Sat W' L G0 := hs0.stay fun k hk => hb.block k (hlt k hk)
 refine ⟨⟨fun k => A k ∨ G0 k, ⟨A, G0, hr, hs1, ?_, fun _ => Iff.rfl⟩, ?_⟩, m⟩
 ·intro j hj h; have := hlt _ h; have := hg j hj; omega
 ·rintro j (h | h)
  ·right; have := m0.size; have := hg j h; omega
  ·exact hg0 j h
theorem Sts.pinAt (T : Sts w F W (pinR H W0 :: R)) (hb : H b) : W.heap[b]? = W0.heap[b]? := by
 obtain ⟨A, ha⟩ := T.at0
 exact (ha.2 b hb).2
theorem Sts.rangeNew (T : Sts w F W (pinR H W0 :: R)) (hb : H b) (hown : W.ownsMap P k RV b n D) (K : Keyed P k) (ht : P.underlying t = some (.map k e)) :
  ∃ W', (Instr.range t (.map (some b))).run P W = .ok (.pointer (some ⟨W.heap.size, 0, none⟩)) W' ∧ Sts w F W' (iterR W0 P k b W.heap.size n D (Maps.has D) (Maps.size D) :: pinR H W0 :: R) ∧ W'.heap.size = W.heap.size + 1 := by
 obtain ⟨W', hrun, hrg, hgr, hsz⟩ := hown.range K ht
 refine ⟨W', hrun, T.foundR (A := fun j => j = W.heap.size) ⟨hgr.os, hgr.tape, hgr.output, hgr.size, fun j hj => hgr.block j hj (by simp)⟩ (fun j hj => by omega) ⟨fun _ => Iff.rfl, by omega, fun W2 h1 h2 => ranges_congr hrg (h2.trans ?_) h1⟩, hsz⟩
 rw [hgr.block b hown.lt (by simp)]
 exact (T.pinAt hb).symm
theorem Sts.ranges (T : Sts w F W (iterR W0 P k b r n D left cnt :: pinR H W0 :: R)) (hb : H b) : W.ranges P k RV b r n D left cnt := by
 obtain ⟨A, ha⟩ := T.at0
 exact ha.2.2 W rfl (T.drop.pinAt hb)
theorem Sts.rangeNext (T : Sts w F W (iterR W0 P k b r n D left cnt :: pinR H W0 :: R)) (hb : H b) (K : Keyed P k) (ty : TypeId) :
  (cnt = 0 ∧ (∀ kl, left kl = false) ∧ (Instr.next (.pointer (some ⟨r, 0, none⟩)) false ty).run P W = .ok (.tuple #[.bool false]) W) ∨
  ∃ key v kl w' cnt', keyOf P k key = some kl ∧ left kl = true ∧ (∀ zd, D.atKey kl zd = .held v) ∧ (Instr.next (.pointer (some ⟨r, 0, none⟩)) false ty).run P W = .ok (.tuple #[.bool true, key, v]) w' ∧
   Sts w F w' (iterR W0 P k b r n D (fun x => left x && !x.sameKey kl) cnt' :: pinR H W0 :: R) ∧ cnt' < cnt ∧ (Instr.entry (.pointer (some ⟨r, 0, none⟩))).run P w' = .ok (.tuple #[key, v]) w' := by
 have hrg := T.ranges hb
 rcases hrg.next K ty with h | ⟨key, v, kl, y, w', cnt', h1, h2, h3, h4, h5, h6, h7, h8, h9, h10⟩
 ·exact .inl h
 ·refine .inr ⟨key, v, kl, w', cnt', h1, h2, fun zd => ?_, h5, ?_, h7, h10⟩
  ·rw [h4 zd]
   unfold RV at h3
   injection h3 with h3
   rw [← h3]
  ·refine T.turn fun A ha => ⟨A, ⟨ha.1, h6.lt, fun W2 e1 e2 => ranges_congr h6 ?_ e1⟩, fun _ h => .inl h, h8.os, h8.tape, h8.output, h8.size, fun j hj hn => h8.block j hj fun e => hn ((ha.1 j).2 (by injection e))⟩
   rw [h8.block b hrg.owns.lt (fun e => hrg.ne (by injection e with e; exact e.symm)), e2]
   exact (T.drop.pinAt hb).symm
end
theorem keyOf_string_inv {P : Program} {k : TypeId} (hk : P.underlying k = some .string) {key : Value} {kl : Lit} (h : keyOf P k key = some kl) : ∃ x : ByteArray, key = .string x ∧ x.size ≤ maxLen ∧ kl = .string x.data.toList := by
 cases key <;> simp [keyOf, hk, mapKey] at h
 obtain ⟨h1, rfl⟩ := h
 exact ⟨_, rfl, h1, rfl⟩
section
variable {α β : Type} {P : Program} {kt e : TypeId} {size : Nat} {V : β → Array Value} {kv : α → Value} {ok : α → Prop} {w W W0 : World} {F H : Nat → Prop} {R L : List Res} {b N : Nat} {f : α → List β}
theorem Sts.famPick {L : List (α × Value × List β)} {q : α × Value × List β} (hq : q ∈ L) (T : Sts w F W (famR e size V L :: R)) : ∃ O, Sts w F W (vecR e size q.2.1 q.2.2.length (vl V q.2.2) :: O) := by
 obtain ⟨l1, l2, rfl⟩ := List.append_of_mem hq
 have T1 := T.unpack
 rw [List.map_append, List.map_cons, List.append_assoc, List.cons_append] at T1
 exact ⟨_, T1.perm List.perm_middle⟩
/-- What a range over a map of slices, held fast, reads. -/
structure KRead (P : Program) (kt : TypeId) (size : Nat) (V : β → Array Value) (kv : α → Value) (ok : α → Prop) (H : Nat → Prop) (W0 : World) (b N : Nat) (f : α → List β) (n : Nat) (D : DataW Value) : Prop where
 le : n ≤ N
 cnt : Maps.size D ≤ n
 blk : H b
 own : ∀ w F W R, Sts w F W (pinR H W0 :: R) → W.ownsMap P kt RV b n D
 bad : ∀ x, ¬ ok x → f x = []
 none : ∀ x l, ok x → keyOf P kt (kv x) = some l → Maps.has D l = false → f x = []
 rows : ∀ x l v, ok x → keyOf P kt (kv x) = some l → Maps.has D l = true → (∀ z, D.atKey l z = .held v) → ∃ A c, v = .slice A (f x).length c ∧ ∀ w F W R, Sts w F W (pinR H W0 :: R) → RowsIn W A size V (f x)
theorem kmapRead (K : KeyOk P kt kv ok) (hV : ∀ x, (V x).size = size) (h0 : 0 < size) (hl : ∀ x, (f x).length ≤ 9223372036854775807) {G : Nat → Prop} (hS : Sat W0 (kmapR P kt e size V kv ok b N f :: R) G) (hGH : ∀ k, G k → H k) : ∃ n D, KRead P kt size V kv ok H W0 b N f n D := by
 obtain ⟨⟨⟨n, g, L⟩, hf⟩, T⟩ := (Sts.start hS).open
 dsimp only at T hf
 have T : Sts W0 G W0 (mapR P kt kv id ok b n g :: famR e size V L :: R) := T.unpack
 obtain ⟨D, hown, hD⟩ := T.map
 have hb : H b := by
  obtain ⟨G1, hG1, hG2⟩ := Sts.among hS T
  obtain ⟨A, B, ha, _, _, hfb⟩ := hG1
  exact hGH b (hG2 b ((hfb b).2 (.inl ((ha.1 b).2 rfl))))
 have hit : ∀ x l, ok x → keyOf P kt (kv x) = some l → (∃ q ∈ L, q.1 = x) ∨ (Maps.has D l = false ∧ f x = []) := fun x l hx hl => by
  by_cases h : ∃ q ∈ L, q.1 = x
  ·exact .inl h
  ·have h1 := hf.none x (fun q hq e => h ⟨q, hq, e⟩)
   have h2 := hD x l hx hl
   rw [h1.1] at h2
   exact .inr ⟨h2, h1.2⟩
 refine ⟨n, D, hf.n, hown.size_le, hb, fun w F W R T' => owns_congr hown (T'.pinAt hb), fun x hx => (hf.none x fun q hq e => hx (e ▸ (hf.has q hq).2.2)).2, fun x l hx hl hh => ?_, fun x l v hx hl2 hh hv => ?_⟩
 ·rcases hit x l hx hl with ⟨q, hq, rfl⟩ | h
  ·have h2 := hD q.1 l hx hl
   rw [(hf.has q hq).1] at h2
   rw [h2.1] at hh; cases hh
  ·exact h.2
 ·rcases hit x l hx hl2 with ⟨q, hq, rfl⟩ | h
  ·obtain ⟨g1, g2, _⟩ := hf.has q hq
   have h2 := hD q.1 l hx hl2
   rw [g1] at h2
   have h3 := (hv (.held (.bool true))).symm.trans (h2.2 _)
   injection h3 with h3
   subst h3
   obtain ⟨O, T2⟩ := T.drop.famPick hq
   obtain ⟨G1, hG1, hG2⟩ := Sts.among hS T2
   rw [← g2] at T2 hG1
   obtain ⟨A, c, e1, R1, -, -⟩ := vec_rows hV T2 h0 (hl _)
   refine ⟨A, c, e1, fun w F W R T' => ?_⟩
   have T3 := Sts.start (T'.pinned hG1 fun k hk => hGH k (hG2 k hk))
   obtain ⟨A', c', e1', R1', -, -⟩ := vec_rows hV T3 h0 (hl _)
   rw [e1] at e1'
   injection e1' with e2
   subst e2
   exact R1'
  ·rw [h.1] at hh; cases hh
end
end Go.Proofs.YtomlilkobhkoiaaGreatDoor
