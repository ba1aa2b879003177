/- Several texts in one. -/
import Derived.Test.YtpganpiidgkofaaY33
import Derived.Test.YtpganpiidgkofaaY25
import Derived.Test.YtpganpiidgkofaaY9
import Derived.Maps.Views
import Derived.Test.YtpganpiidgkofaaY5
/- Layer 9, plain: a book of records knows what the rows know. No walk stands here. -/
namespace Go.Proofs.Ytpganpiidgkofaa
open Go.RowKit
set_option linter.unusedVariables false
attribute [local instance 10] Classical.propDecidable
noncomputable def foldB (L : List Ent) : List Ent := L.foldl (fun b e => setB b e.1 e.2) []
theorem foldB_snoc (L : List Ent) (e : Ent) : foldB (L ++ [e]) = setB (foldB L) e.1 e.2 := by unfold foldB; rw [List.foldl_append]; rfl
theorem eqA_IV {x y : Item} : eqA (IV x) (IV y) = true ↔ x = y := by
  rw [eqA_iff]
  exact ⟨IV_inj, fun h => by rw [h]⟩
noncomputable def getB : List Ent → Item → Option Inst
  | [], _ => none
  | e :: t, x => if eqA (IV x) (IV e.1) = true then some e.2 else getB t x
theorem getB_set (x y : Item) (i : Inst) : ∀ L, getB (setB L x i) y = if x = y then some i else getB L y
  | [] => by
    unfold setB getB
    simp only [eqA_IV]
    by_cases h : x = y
    · rw [if_pos h.symm, if_pos h]
    · rw [if_neg (fun e2 => h e2.symm), if_neg h]; rfl
  | e :: t => by
    unfold setB
    by_cases h : x = e.1
    · rw [if_pos (eqA_IV.2 h)]
      unfold getB
      simp only [eqA_IV]
      by_cases h2 : y = e.1
      · rw [if_pos h2, if_pos (h.trans h2.symm)]
      · rw [if_neg h2, if_neg (fun e2 => h2 (e2.symm.trans h)), if_neg h2]
    · rw [if_neg (fun e2 => h (eqA_IV.1 e2))]
      unfold getB
      simp only [eqA_IV]
      by_cases h2 : y = e.1
      · rw [if_pos h2, if_neg (fun e2 => h (e2.trans h2)), if_pos h2]
      · rw [if_neg h2, getB_set x y i t, if_neg h2]
theorem setB_keys (x : Item) (i : Inst) : ∀ L : List Ent, (setB L x i).map Prod.fst = if x ∈ L.map Prod.fst then L.map Prod.fst else L.map Prod.fst ++ [x]
  | [] => by simp [setB]
  | e :: t => by
    unfold setB
    by_cases h : x = e.1
    · rw [if_pos (eqA_IV.2 h), if_pos (by simp [h])]; rfl
    · rw [if_neg (fun e2 => h (eqA_IV.1 e2)), List.map_cons, setB_keys x i t, show (e :: t).map Prod.fst = e.1 :: t.map Prod.fst from rfl]
      by_cases h2 : x ∈ t.map Prod.fst
      · rw [if_pos h2, if_pos (List.mem_cons_of_mem _ h2)]
      · rw [if_neg h2, if_neg (fun h3 => (List.mem_cons.1 h3).elim h h2)]; rfl
theorem foldB_keys (L : List Ent) : ((foldB L).map Prod.fst).Pairwise (· ≠ ·) := by
  have : ∀ (L B : List Ent), (B.map Prod.fst).Pairwise (· ≠ ·) → ((L.foldl (fun b e => setB b e.1 e.2) B).map Prod.fst).Pairwise (· ≠ ·) := by
    intro L
    induction L with
    | nil => intro B h; exact h
    | cons e t ih =>
      intro B h
      refine ih _ ?_
      rw [setB_keys]
      split
      · exact h
      · rename_i hn
        rw [List.pairwise_append]
        exact ⟨h, by simp, fun a ha b hb e2 => by simp at hb; subst hb; exact hn (e2 ▸ ha)⟩
  exact this L [] (by simp)
theorem getB_mem : ∀ {L : List Ent} {x : Item} {t : Inst}, getB L x = some t → (x, t) ∈ L
  | [], _, _, h => by simp [getB] at h
  | e :: l, x, t, h => by
    unfold getB at h
    split at h
    · rename_i h2
      have h3 := eqA_IV.1 h2
      injection h with h
      subst h3 h
      simp
    · exact List.mem_cons_of_mem _ (getB_mem h)
theorem mem_getB {L : List Ent} {e : Ent} : (L.map Prod.fst).Pairwise (· ≠ ·) → e ∈ L → getB L e.1 = some e.2 := by
  induction L with
  | nil => intro _ he; simp at he
  | cons a l ih =>
    intro hp he
    rw [List.map_cons, List.pairwise_cons] at hp
    rcases List.mem_cons.1 he with h | h
    · subst h
      exact if_pos (eqA_refl _)
    · have hne : ¬ eqA (IV e.1) (IV a.1) = true := fun h2 => hp.1 e.1 (List.mem_map.2 ⟨e, h, rfl⟩) (eqA_IV.1 h2).symm
      exact (if_neg hne).trans (ih hp.2 h)
theorem getB_fold {n : Int} : ∀ {L : List Ent}, GoodE n L → ∀ x, getB (foldB L) x = getM (foldE n L) x := by
  have : ∀ (k : Nat) (L : List Ent), L.length = k → GoodE n L → ∀ x, getB (foldB L) x = getM (foldE n L) x := by
    intro k
    induction k with
    | zero =>
      intro L hL _ x
      have : L = [] := List.eq_nil_of_length_eq_zero hL
      subst this
      exact (getM_new n x).symm
    | succ k ih =>
      intro L hL hg x
      have hne : L ≠ [] := by rintro rfl; simp at hL
      rw [← List.dropLast_concat_getLast hne] at hg ⊢
      have hg2 := hg (L.getLast hne) (by simp)
      rw [foldB_snoc, foldE_snoc, getB_set]
      have hi := ih L.dropLast (by simp; omega) (fun e he => hg e (by simp [he])) x
      split
      · rename_i h
        subst h
        rw [getM_set_same _ (by rw [foldE_n]; exact hg2.1)]
      · rename_i h
        rw [hi, getM_set_other _ (by rw [foldE_n]; exact hg2.1) h]
  exact fun {L} => this _ L rfl
/-- Unlike things among things: not more. -/
theorem len_le_of_sub : ∀ {a b : List Item}, a.Pairwise (· ≠ ·) → (∀ x ∈ a, x ∈ b) → a.length ≤ b.length
  | [], _, _, _ => by simp
  | x :: t, b, hp, hs => by
    rw [List.pairwise_cons] at hp
    obtain ⟨l1, l2, rfl⟩ := List.append_of_mem (hs x (by simp))
    have h := len_le_of_sub (b := l1 ++ l2) hp.2 fun y hy => by
      have h1 := hs y (by simp [hy])
      have h2 := hp.1 y hy
      rcases List.mem_append.1 h1 with h | h
      · simp [h]
      · rcases List.mem_cons.1 h with h | h
        · exact absurd h.symm h2
        · simp [h]
    simp only [List.length_append, List.length_cons] at h ⊢
    omega
theorem sameB_fold {n : Int} {m : RowsM} {L : List Ent} (hm : RowsOk m) (hg : GoodE n L) (h : RowsEq m (foldE n L)) : sameB (ents m) (foldB L) = true := by
  have hk : ((ents m).map Prod.fst).Pairwise (· ≠ ·) := by
    rw [List.pairwise_map]
    exact ents_apart hm
  have hl : ∀ x, (getM m x).map NV = (getB (foldB L) x).map NV := fun x => by rw [getB_fold hg]; exact h.2 x
  have h1 : (ents m).length ≤ (foldB L).length := by
    have := len_le_of_sub (a := (ents m).map Prod.fst) (b := (foldB L).map Prod.fst) hk fun x hx => by
      obtain ⟨e, he, rfl⟩ := List.mem_map.1 hx
      have h1 := ents_mem he
      have h2 := hl e.1
      rw [h1] at h2
      cases hb : getB (foldB L) e.1 with
      | none => rw [hb] at h2; simp at h2
      | some t => exact List.mem_map.2 ⟨_, getB_mem hb, rfl⟩
    simpa using this
  have h2 : (foldB L).length ≤ (ents m).length := by
    have := len_le_of_sub (a := (foldB L).map Prod.fst) (b := (ents m).map Prod.fst) (foldB_keys L) fun x hx => by
      obtain ⟨e, he, rfl⟩ := List.mem_map.1 hx
      have h1 := mem_getB (foldB_keys L) he
      have h2 := hl e.1
      rw [h1] at h2
      cases hb : getM m e.1 with
      | none => rw [hb] at h2; simp at h2
      | some t => exact List.mem_map.2 ⟨_, ents_has hm hb, rfl⟩
    simpa using this
  unfold sameB
  rw [decide_eq_true (by omega), Bool.true_and, List.all_eq_true]
  intro e he
  have h1 := ents_mem he
  have h2 := hl e.1
  rw [h1] at h2
  cases hb : getB (foldB L) e.1 with
  | none => rw [hb] at h2; simp at h2
  | some t =>
    rw [hb] at h2
    simp at h2
    rw [List.any_eq_true]
    refine ⟨_, getB_mem hb, ?_⟩
    rw [h2, eqA_refl, eqA_refl]
    rfl
end Go.Proofs.Ytpganpiidgkofaa
/- Layer 9, plain: what is known goes by replicas, then by numbers; how much it is. No walk stands here. -/
namespace Go.Proofs.Ytpganpiidgkofaa
open Go.RowKit
set_option linter.unusedVariables false
attribute [local instance 10] Classical.propDecidable
def entLt (a b : Ent) : Prop := a.1.rep < b.1.rep ∨ (a.1.rep = b.1.rep ∧ a.1.num < b.1.num)
theorem ents_sorted {m : RowsM} (hm : RowsOk m) : (ents m).Pairwise entLt := by
  rw [ents_C hm]
  unfold entsC
  rw [List.pairwise_flatMap]
  refine ⟨fun r _ => ?_, ?_⟩
  · rw [List.pairwise_filterMap]
    refine (List.pairwise_lt_range (n := 64)).imp fun {k j} hkj b hb b' hb' => ?_
    cases h1 : getM m ⟨((r : Nat) : Int), ((k : Nat) : Int) + 1⟩ with
    | none => rw [h1] at hb; simp at hb
    | some t =>
      cases h2 : getM m ⟨((r : Nat) : Int), ((j : Nat) : Int) + 1⟩ with
      | none => rw [h2] at hb'; simp at hb'
      | some t' =>
        rw [h1] at hb; rw [h2] at hb'
        simp at hb hb'
        subst hb; subst hb'
        right
        simp
        omega
  · refine (List.pairwise_lt_range (n := 7)).imp fun {r s} hrs x hx y hy => ?_
    rw [List.mem_filterMap] at hx hy
    obtain ⟨k, _, hx⟩ := hx
    obtain ⟨j, _, hy⟩ := hy
    cases h1 : getM m ⟨((r : Nat) : Int), ((k : Nat) : Int) + 1⟩ with
    | none => rw [h1] at hx; simp at hx
    | some t =>
      cases h2 : getM m ⟨((s : Nat) : Int), ((j : Nat) : Int) + 1⟩ with
      | none => rw [h2] at hy; simp at hy
      | some t' =>
        rw [h1] at hx; rw [h2] at hy
        simp at hx hy
        subst hx; subst hy
        left
        simp
        omega
theorem ents_next {m : RowsM} (hm : RowsOk m) {j : Nat} (h : j + 1 < (ents m).length) : entLt (ents m)[j] (ents m)[j + 1] :=
  List.pairwise_iff_getElem.1 (ents_sorted hm) j (j + 1) (by omega) h (by omega)
theorem ents_keys {m : RowsM} (hm : RowsOk m) : ((ents m).map Prod.fst).Pairwise (· ≠ ·) := by
  rw [List.pairwise_map]; exact ents_apart hm
theorem ents_key {m : RowsM} (hm : RowsOk m) (x : Item) : x ∈ (ents m).map Prod.fst ↔ (getM m x).isSome = true := by
  constructor
  · intro h
    obtain ⟨e, he, rfl⟩ := List.mem_map.1 h
    rw [ents_mem he]; rfl
  · intro h
    cases hg : getM m x with
    | none => rw [hg] at h; cases h
    | some t => exact List.mem_map.2 ⟨_, ents_has hm hg, rfl⟩
/-- How much is known, once an item is set. -/
theorem ents_set_len {m : RowsM} (hm : RowsOk m) {x : Item} (i : Inst) (hx : goodI x m.n = true) : (ents (setM m x i)).length = if (getM m x).isSome then (ents m).length else (ents m).length + 1 := by
  have hm2 := hm.set x i
  have hk1 := ents_keys hm
  have hk2 := ents_keys hm2
  have hget : ∀ y, (getM (setM m x i) y).isSome = true ↔ (y = x ∨ (getM m y).isSome = true) := fun y => by
    by_cases h : x = y
    · subst h; rw [getM_set_same i hx]; simp
    · rw [getM_set_other i hx h]
      constructor
      · exact fun h => .inr h
      · rintro (rfl | h2)
        · exact absurd rfl h
        · exact h2
  split
  · rename_i hs
    have h1 := len_le_of_sub hk1 (b := (ents (setM m x i)).map Prod.fst) fun y hy => (ents_key hm2 y).2 ((hget y).2 (.inr ((ents_key hm y).1 hy)))
    have h2 := len_le_of_sub hk2 (b := (ents m).map Prod.fst) fun y hy => by
      rcases (hget y).1 ((ents_key hm2 y).1 hy) with rfl | h
      · exact (ents_key hm y).2 hs
      · exact (ents_key hm y).2 h
    simp at h1 h2
    omega
  · rename_i hs
    have hn : x ∉ (ents m).map Prod.fst := fun h => hs ((ents_key hm x).1 h)
    have hk3 : (x :: (ents m).map Prod.fst).Pairwise (· ≠ ·) := by
      rw [List.pairwise_cons]; exact ⟨fun y hy e => hn (e ▸ hy), hk1⟩
    have h1 := len_le_of_sub hk3 (b := (ents (setM m x i)).map Prod.fst) fun y hy => by
      rcases List.mem_cons.1 hy with rfl | h
      · exact (ents_key hm2 _).2 ((hget _).2 (.inl rfl))
      · exact (ents_key hm2 y).2 ((hget y).2 (.inr ((ents_key hm y).1 h)))
    have h2 := len_le_of_sub hk2 (b := x :: (ents m).map Prod.fst) fun y hy => by
      rcases (hget y).1 ((ents_key hm2 y).1 hy) with rfl | h
      · simp
      · exact List.mem_cons_of_mem _ ((ents_key hm y).2 h)
    simp at h1 h2
    omega
theorem putF_set {m : RowsM} {x : Item} {i : Inst} (hx : goodI x m.n = true) : putF (getM m) x i = getM (setM m x i) := by
  funext y
  by_cases h : x = y
  · subst h; rw [putF_same, getM_set_same i hx]
  · rw [putF_other _ _ (fun e => h e.symm), getM_set_other i hx h]
theorem ents_nil {n : Int} (h : 0 ≤ n ∧ n ≤ 7) : ents ⟨n, fun _ => []⟩ = [] := by
  have := ents_key (RowsOk.new h)
  cases hl : ents ⟨n, fun _ => []⟩ with
  | nil => rfl
  | cons e t =>
    have h1 := (this e.1).1 (by rw [hl]; simp)
    rw [getM_new] at h1; cases h1
end Go.Proofs.Ytpganpiidgkofaa
/- A map of the call's own, and how many entries it has. Nothing of the program stands here. -/
namespace Go.Proofs.Ytpganpiidgkofaa
open Go.RowKit
open Go.Maps (Keyed)
set_option linter.unusedVariables false
section
variable {α β : Type}
def mapIsC (P : Program) (k : TypeId) (kv : α → Value) (ev : β → Value) (ok : α → Prop) (W : World) (b n c : Nat) (f : α → Option β) : Prop :=
  ∃ D : DataW Value, W.ownsMap P k RV b n D ∧ Maps.size D = c ∧ ∀ x l, ok x → keyOf P k (kv x) = some l → match f x with
    | none => Maps.has D l = false
    | some y => Maps.has D l = true ∧ ∀ z, D.atKey l z = .held (ev y)
/-- A map in block b, of c entries. -/
def mapCR (P : Program) (k : TypeId) (kv : α → Value) (ev : β → Value) (ok : α → Prop) (b n c : Nat) (f : α → Option β) : Res where
  sat F W := (∀ j, F j ↔ j = b) ∧ mapIsC P k kv ev ok W b n c f
  stay := fun {F W W'} h ⟨hF, D, ⟨es, clock, hb, rest⟩, hD⟩ => ⟨hF, D, ⟨es, clock, by rw [h b ((hF b).2 rfl)]; exact hb, rest⟩, hD⟩
  lt := fun ⟨hF, D, hown, hD⟩ j hj => by rw [(hF j).1 hj]; exact hown.lt
variable {P : Program} {k t e : TypeId} {kv : α → Value} {ev : β → Value} {ok : α → Prop} {w W : World} {F : Nat → Prop} {R L : List Res} {b n c : Nat} {f : α → Option β}
theorem mapIsC.is (h : mapIsC P k kv ev ok W b n c f) : mapIs P k kv ev ok W b n f := let ⟨D, h1, _, h3⟩ := h; ⟨D, h1, h3⟩
theorem mapIsC.len (h : mapIsC P k kv ev ok W b n c f) (ht : P.underlying t = some (.map k e)) (ty : TypeId) : (Builtin.len_ #[t] ty #[.map (some b)]).run P W = .ok (.int .i64 c) W := by
  obtain ⟨D, h1, h2, _⟩ := h
  rw [h1.len ht ty, h2]
theorem mapIsC.put (K : KeyOk P k kv ok) (ht : P.underlying t = some (.map k e)) (h : mapIsC P k kv ev ok W b n c f) (hn : n < maxLen) (x : α) (hx : ok x) (y : β) :
    ∃ W', (Instr.mapUpdate t (.map (some b)) (kv x) (ev y)).run P W = .ok () W' ∧ mapIsC P k kv ev ok W' b (n + 1) (if (f x).isSome then c else c + 1) (putF f x y) ∧ W.grownBy W' (some b) := by
  obtain ⟨D, hown, hsz, hD⟩ := h
  obtain ⟨l, hl⟩ := K.lit x hx
  obtain ⟨W', hrun, hown', hg⟩ := hown.update K.keyed ht hn hl (d := .held (ev y)) (ps := []) (val := ev y) rfl
  have hk : WideAt.IsKeyLit l := K.keyed.key hl
  refine ⟨W', hrun, ⟨_, hown', ?_, fun x' l' hx' hl' => ?_⟩, hg⟩
  · rw [Maps.size_put (hown.tidy K.keyed), hsz]
    have hd := hD x l hx hl
    cases hf : f x with
    | none => rw [hf] at hd; simp only at hd; rw [hd]; rfl
    | some y' => rw [hf] at hd; simp only at hd; rw [hd.1]; rfl
  by_cases hxx : x' = x
  · subst hxx
    have : l' = l := Option.some.inj (hl'.symm.trans hl)
    subst this
    rw [putF_same]
    exact ⟨Maps.has_put_same hown.isMap hk _, fun z => Maps.atKey_put_same hown.isMap hk _ _⟩
  · have hne : l' ≠ l := fun e => hxx (K.inj x' x l hx' hx (e ▸ hl') hl)
    rw [putF_other f y hxx]
    have hd := hD x' l' hx' hl'
    cases hf : f x' with
    | none =>
      rw [hf] at hd
      simp only at hd ⊢
      rw [Maps.has_put_other hne]; exact hd
    | some y' =>
      rw [hf] at hd
      simp only at hd ⊢
      exact ⟨by rw [Maps.has_put_other hne]; exact hd.1, fun z => by rw [Maps.atKey_put_other hne]; exact hd.2 z⟩
theorem Sts.mapC (T : Sts w F W (mapCR P k kv ev ok b n c f :: R)) : mapIsC P k kv ev ok W b n c f := let ⟨_, ha⟩ := T.at0; ha.2
theorem Sts.mapCNew (T : Sts w F W L) : Sts w F (W.alloc (.map #[] 0)) (mapCR P k kv ev ok W.heap.size 0 0 (fun _ => none) :: L) := by
  obtain ⟨⟨G, hs, hG⟩, m⟩ := T.keep (.map #[] 0)
  obtain ⟨⟨G0, hs0, hg0⟩, m0⟩ := T
  have hlt := hs0.lt
  have hs1 : Sat (W.alloc (.map #[] 0)) L G0 := hs0.stay fun j hj => Below.heap_alloc _ _ _ (hlt j hj)
  refine ⟨⟨fun j => j = W.heap.size ∨ G0 j, ⟨fun j => j = W.heap.size, G0, ⟨fun _ => Iff.rfl, .map [], World.ownsMap_made W P k RV, rfl, fun x l _ _ => rfl⟩, hs1, ?_, fun _ => Iff.rfl⟩, ?_⟩, m⟩
  · rintro j rfl h; have := hlt _ h; omega
  · rintro j (rfl | h)
    · right; exact m0.size
    · exact hg0 j h
theorem Sts.mapCPut (T : Sts w F W (mapCR P k kv ev ok b n c f :: R)) (K : KeyOk P k kv ok) (ht : P.underlying t = some (.map k e)) (hn : n < maxLen) (x : α) (hx : ok x) (y : β) :
    ∃ W', (Instr.mapUpdate t (.map (some b)) (kv x) (ev y)).run P W = .ok () W' ∧ Sts w F W' (mapCR P k kv ev ok b (n + 1) (if (f x).isSome then c else c + 1) (putF f x y) :: R) ∧ W'.heap.size = W.heap.size := by
  obtain ⟨D, hown, hsz, hD⟩ := T.mapC
  obtain ⟨l, hl⟩ := K.lit x hx
  obtain ⟨W1, hrun1, _, ht1⟩ := hown.store K.keyed ht hn hl (d := .held (ev y)) (ps := []) (val := ev y) rfl
  obtain ⟨W', hrun, hm, hg⟩ := T.mapC.put K ht hn x hx y
  have he : W1 = W' := by rw [hrun] at hrun1; injection hrun1 with _ e; exact e.symm
  refine ⟨W', hrun, T.turn fun A ha => ⟨fun j => j = b, ⟨fun _ => Iff.rfl, hm⟩, fun j hj => .inl ((ha.1 j).2 hj), hg.os, hg.tape, hg.output, hg.size, fun j hj hn => hg.block j hj fun e => hn ((ha.1 j).2 (by injection e))⟩, ?_⟩
  subst he
  obtain ⟨es, c, es', c', hb, rfl⟩ := ht1
  simp [Go.ChangeMaps.setBlock]
end
end Go.Proofs.Ytpganpiidgkofaa
/- AuditDumps: Dump tells all that a space knows, by replicas, then by numbers. -/
namespace Go.Proofs.Ytpganpiidgkofaa
open Go.RowKit
set_option linter.unusedVariables false
set_option maxRecDepth 20000
attribute [local go_sem] row_alloc row_drew row_drewN row_ext row_setCell row_setRow size_ext setRow_alloc setRow_drew loadOf storeOf piece_lit loadVal_at storeVal_at allOne_lit buildOf buildRes_some
attribute [local go_sem high] cell_alloc frozen_alloc setCell_alloc cell_ext frozen_ext cell_setRow frozen_setRow
attribute [local go_sem ↓] TDeed_ld0 TDeed_st0 TDeed_fd0 TDeed_bd0
attribute [local go_sem] TDeed_size TDeed_one TDeed_piece TDeed_c0 TDeed_c1 TDeed_c2 TDeed_c3 TDeed_c4 TDeed_c5 TDeed_set_kind TDeed_set_key TDeed_set_val TDeed_set_ver TDeed_set_ses TDeed_set_num TDeed_ld TDeed_st TDeed_f_kind TDeed_f_key TDeed_f_val TDeed_f_ver TDeed_f_ses TDeed_f_num TDeed_bd TDeed_fl TDeed_fl_kind TDeed_fl_key TDeed_fl_val TDeed_fl_ver TDeed_fl_ses TDeed_fl_num
attribute [local go_sem high] TDeed_eql TDeed_neq
attribute [local go_sem ↓] index_deps0 load_deps0 store_deps0
attribute [local go_sem] DV_piece DV_size DV_one index_deps load_deps store_deps
attribute [local go_sem high] TDeps_eql TDeps_neq
attribute [local go_sem ↓] TCall_ld0 TCall_st0 TCall_fd0 TCall_bd0
attribute [local go_sem] TCall_size TCall_one TCall_piece TCall_c0 TCall_c1 TCall_c2 TCall_c3 TCall_c4 TCall_c5 TCall_c6 TCall_c7 TCall_c8 TCall_c9 TCall_c10 TCall_c11 TCall_c12 TCall_c13 TCall_p_deed TCall_put_deed TCall_p_deps TCall_put_deps TCall_set_seq TCall_ld TCall_st TCall_f_deed TCall_f_deps TCall_f_seq TCall_bd TCall_fl TCall_fl_deed TCall_fl_deps TCall_fl_seq
attribute [local go_sem high] TCall_eql TCall_neq
attribute [local go_sem ↓] TItem_ld0 TItem_st0 TItem_fd0 TItem_bd0
attribute [local go_sem] TItem_size TItem_one TItem_piece TItem_c0 TItem_c1 TItem_set_rep TItem_set_num TItem_ld TItem_st TItem_f_rep TItem_f_num TItem_bd TItem_fl TItem_fl_rep TItem_fl_num
attribute [local go_sem high] TItem_eql TItem_neq
attribute [local go_sem ↓] TBallot_ld0 TBallot_st0 TBallot_fd0 TBallot_bd0
attribute [local go_sem] TBallot_size TBallot_one TBallot_piece TBallot_c0 TBallot_c1 TBallot_set_round TBallot_set_rep TBallot_ld TBallot_st TBallot_f_round TBallot_f_rep TBallot_bd TBallot_fl TBallot_fl_round TBallot_fl_rep
attribute [local go_sem high] TBallot_eql TBallot_neq
attribute [local go_sem ↓] TInst_ld0 TInst_st0 TInst_fd0 TInst_bd0
attribute [local go_sem] TInst_size TInst_one TInst_piece TInst_c0 TInst_c1 TInst_c2 TInst_c3 TInst_c4 TInst_c5 TInst_c6 TInst_c7 TInst_c8 TInst_c9 TInst_c10 TInst_c11 TInst_c12 TInst_c13 TInst_c14 TInst_c15 TInst_c16 TInst_c17 TInst_c18 TInst_c19 TInst_p_prom TInst_put_prom TInst_p_vote TInst_put_vote TInst_set_status TInst_p_call TInst_put_call TInst_set_same TInst_ld TInst_st TInst_f_prom TInst_f_vote TInst_f_status TInst_f_call TInst_f_same TInst_bd TInst_fl TInst_fl_prom TInst_fl_vote TInst_fl_status TInst_fl_call TInst_fl_same
attribute [local go_sem high] TInst_eql TInst_neq
attribute [local go_sem ↓] TEntry_ld0 TEntry_st0 TEntry_fd0 TEntry_bd0
attribute [local go_sem] TEntry_size TEntry_one TEntry_piece TEntry_c0 TEntry_c1 TEntry_c2 TEntry_c3 TEntry_c4 TEntry_c5 TEntry_c6 TEntry_c7 TEntry_c8 TEntry_c9 TEntry_c10 TEntry_c11 TEntry_c12 TEntry_c13 TEntry_c14 TEntry_c15 TEntry_c16 TEntry_c17 TEntry_c18 TEntry_c19 TEntry_c20 TEntry_c21 TEntry_p_item TEntry_put_item TEntry_p_inst TEntry_put_inst TEntry_ld TEntry_st TEntry_f_item TEntry_f_inst TEntry_bd TEntry_fl TEntry_fl_item TEntry_fl_inst
attribute [local go_sem high] TEntry_eql TEntry_neq
attribute [local go_sem ↓] TKnown_ld0 TKnown_st0 TKnown_fd0 TKnown_bd0
attribute [local go_sem] TKnown_size TKnown_one TKnown_piece TKnown_c0 TKnown_c1 TKnown_c2 TKnown_c3 TKnown_c4 TKnown_c5 TKnown_c6 TKnown_c7 TKnown_c8 TKnown_c9 TKnown_c10 TKnown_c11 TKnown_c12 TKnown_c13 TKnown_c14 TKnown_c15 TKnown_c16 TKnown_c17 TKnown_c18 TKnown_c19 TKnown_c20 TKnown_c21 TKnown_p_item TKnown_put_item TKnown_p_inst TKnown_put_inst TKnown_ld TKnown_st TKnown_f_item TKnown_f_inst TKnown_bd TKnown_fl TKnown_fl_item TKnown_fl_inst
attribute [local go_sem high] TKnown_eql TKnown_neq
attribute [local go_sem] mkMapS
abbrev knownR (b n c : Nat) (f : Item → Option Inst) : Res := mapCR Try.prog 42 (fun x : Item => Value.agg (IV x)) (fun i : Inst => Value.agg (NV i)) InI b n c f
theorem zeroI (w : World) : (zeroValue 39).run Try.prog w = .ok (.agg (NV noInst)) w := by kernel_rfl
def overK (x : Known) : Bool := decide ((100 : Int) < (x.inst.call.deed.key.size : Int) + (x.inst.call.deed.val.size : Int))
theorem EnV_c0 (e : Ent) : (EnV e)[0]? = some (.int .i64 e.1.rep) := rfl
theorem EnV_c1 (e : Ent) : (EnV e)[1]? = some (.int .i64 e.1.num) := rfl
theorem prev_cells {w W : World} {L : List Ent} {ga : Nat} (h : RowsIn w (some ⟨ga, 0, none⟩) 22 EnV L) (hb : Below w.heap.size w W) {j : Nat} (hj : j < L.length) :
    W.cell? ⟨ga, j * 22, none⟩ = some (.int .i64 L[j].1.rep) ∧ W.cell? ⟨ga, j * 22 + 1, none⟩ = some (.int .i64 L[j].1.num) := by
  have h0 := h.one hb hj 0 _ (EnV_c0 L[j])
  have h1 := h.one hb hj 1 _ (EnV_c1 L[j])
  rw [Nat.add_zero] at h0
  exact ⟨h0, h1⟩
theorem new_rows {n : Int} (h : 0 ≤ n ∧ n ≤ 7) : ents (mK n (goT n [])) = [] ∧ ∀ x, getM (mK n (goT n [])) x = none := by
  rw [goT_nil]
  exact ⟨ents_nil h, fun x => getM_new n x⟩
set_option maxHeartbeats 8000000 in
theorem law_dumps (n : Int) (A : Option Addr) (c : Nat) (ks : List Known) (W : World) (hx : RowsIn W A 22 KwV ks) (hf : ∀ x ∈ ks, KnownFits x) :
    Calls Try.prog 9 #[.int .i64 n, .slice A ks.length c] W fun e W' => e = .returned (.bool true) ∧ Below W.heap.size W W' := by
  have HT9 := alive_any
  have hlen := hx.len
  have HX := Lib.hid hx; have HF := Lib.hid hf; clear hx hf
  go_enter Try.func9, Try.ntmps9
  go_wp2_with fail
  refine (HT9 W).mono ?_
  rintro e w1 ⟨rfl, hb⟩
  have T := (Sts.start0 W).pure hb
  clear hb HT9
  cases h40 : decide ((40 : Int) < (ks.length : Int))
  case true =>
    go_wp2
    go_ret
    exact ⟨rfl, T.below⟩
  case false =>
    have h40' : ks.length ≤ 40 := by have := of_decide_eq_false h40; omega
    go_wp2_with fail
    refine (newT T).mono ?_
    clear T
    rintro e w3 ⟨rfl, T⟩
    generalize w1.heap.size = p at *
    cases hs : sizeB n
    case false =>
      have HB := Lib.hid (Ans.at (spBad p n hs) T); clear T
      go_wp2_with fail
      refine HB.out.mono ?_
      clear HB
      rintro e w4 ⟨rfl, T⟩
      have hz : ents noRows = [] := ents_nil (by omega)
      have HD := Lib.hid (dumpEntT (L := []) (M := []) (R := [plR p [] 0]) (m := noRows) (RowsOk.new (by omega)) (.pointer none) (fun T => spAllNil T) T)
      clear T
      go_wp2_with fail
      refine HD.out.mono ?_
      clear HD
      rintro e w5 ⟨v, g, rfl, T⟩
      obtain ⟨A5, c5, rfl⟩ := vec_shape2 T
      rw [hz]
      have HT := Lib.hid T.below; clear T
      go_wp2
      go_ret
      exact ⟨rfl, HT.out⟩
    case true =>
      have hnn := sizeB_n hs
      have HB := Lib.hid (spOpenT T (by simp) n hs); clear T
      go_wp2_with fail
      refine HB.out.mono ?_
      clear HB
      rintro e w4 ⟨s, lg, g, bk, bs, rfl, T⟩
      have HI := LedI.open0 hs
      have hr0 := new_rows hnn
      generalize openD n [] = D0 at *
      generalize openF n [] 0 = s0 at *
      generalize mK n (goT n []) = m0 at *
      have T : Sts W (fun _ => False) w4 (spL s lg p g bk bs idx0 D0 s0 m0) := by
        have := T
        rw [hr0.1] at this
        exact this
      have T := T.mapCNew (P := Try.prog) (k := 42) (kv := fun x : Item => Value.agg (IV x)) (ev := fun i : Inst => Value.agg (NV i)) (ok := InI)
      have hg0 : (fun _ => none : Item → Option Inst) = getM m0 := funext fun x => (hr0.2 x).symm
      have hl0 : 0 = (ents m0).length := by rw [hr0.1]; rfl
      have T : Sts W (fun _ => False) (w4.alloc (.map #[] 0)) (knownR w4.heap.size 0 (ents m0).length (getM m0) :: spL s lg p g bk bs idx0 D0 s0 m0) := by
        rw [← hg0, ← hl0]; exact T
      have HT := Lib.hid T; have HI := Lib.hid HI
      clear T hr0 hg0 hl0
      go_wp2_with fail
      generalize hw5 : w4.alloc _ = w5 at *
      generalize w4.heap.size = b at *
      clear hw5
      go_loopw [33] (fun sl wr => ∃ (k nn : Nat) (I : Idx) (D : List UInt8) (safe : Nat) (m : RowsM) (r1 r2 : List Ent), k ≤ ks.length ∧ sl = .int .i64 k ∧ nn ≤ k ∧ LedI n D safe m r1 r2 ∧ IdxOk I ∧ I.N ≤ k ∧ Sts W (fun _ => False) wr (knownR b nn (ents m).length (getM m) :: spL s lg p g bk bs I D safe m)) (fun sl _ => ks.length - (intOf sl).toNat)
      case atStart => exact ⟨0, 0, idx0, D0, s0, m0, [], [], Nat.zero_le _, rfl, Nat.le_refl _, HI.out, idx0_ok, Nat.le_refl _, HT.out⟩
      case round =>
        clear HT HI
        obtain ⟨k, nn, I, D, safe, m, r1, r2, hk, rfl, hnn2, hI, hix, hiN, T⟩ := hrel
        by_cases hkl : k < ks.length
        · cases hA : A with
          | none => have := HX.out.nil hA; subst this; simp at hkl
          | some a =>
            have hld := HX.out.load (P := Try.prog) (T := 84) TKnown_size TKnown_und rfl (by kernel_rfl) T.below hA hkl
            have hfk := HF.out ks[k] (List.getElem_mem hkl)
            have hk3 : (k : Int) < (ks.length : Int) := by omega
            have hk0 : (0 : Int) ≤ (k : Int) := by omega
            generalize ks[k] = x at *
            have hkey := hfk.inst.call.deed.key; have hval := hfk.inst.call.deed.val
            obtain ⟨a1, b1, hI1⟩ := hI.addI x.item x.inst
            have hkn := spKnowD s lg p g bk bs I hix (by omega) D safe m hI.ok hI.good hI.len x.item x.inst
            have hrw := addM_rows D safe m x.item x.inst
            have hgd : (addM D safe m x.item x.inst).2.2.2 = 0 → goodI x.item m.n = true ∧ goodN x.inst m.n = true := addM_good
            have hIok : IdxOk (knowI I D safe m x.item x.inst) ∧ (knowI I D safe m x.item x.inst).N ≤ I.N + 1 := by
              unfold knowI
              split
              · exact hix.find (by omega)
              · exact ⟨hix, Nat.le_succ _⟩
            have T2 := T.new (KwV x) 84
            have r0 := T2.row; have l0 := row_lt r0; have c0 := row_cell r0
            generalize knowI I D safe m x.item x.inst = I1 at *
            generalize addM D safe m x.item x.inst = q at *
            obtain ⟨D1, s1, m1, e1⟩ := q
            dsimp only at hkn hrw hgd hI1
            have HT2 := Lib.hid T2; have HKN := Lib.hid hkn; have HI1 := Lib.hid hI1; have HRW := Lib.hid hrw; have HGD := Lib.hid hgd; have HIK := Lib.hid hIok; have HI := Lib.hid hI; have HNN := Lib.hid hnn2; have HIN := Lib.hid hiN
            clear T T2 hkn hI1 hrw hgd hIok hI hnn2 hiN hix
            cases hov : overK x
            case true =>
              have hov2 : decide ((100 : Int) < (x.inst.call.deed.key.size : Int) + (x.inst.call.deed.val.size : Int)) = true := hov
              go_wp2
              go_ret
              exact ⟨rfl, HT2.out.below⟩
            case false =>
              have hov2 : decide ((100 : Int) < (x.inst.call.deed.key.size : Int) + (x.inst.call.deed.val.size : Int)) = false := hov
              go_wp2_with fail
              have T3 := HT2.out.ord [2, 3, 4, 5, 0, 1]
              have HT3 := Lib.hid T3; clear T3 HT2
              refine (Does.at (R := [rowR wr.heap.size (KwV x), knownR b nn (ents m).length (getM m)]) HKN.out HT3.out).mono ?_
              clear HT3 HKN hld r0 l0 c0
              rintro e w6 ⟨rfl, T⟩
              have T : Sts W (fun _ => False) w6 [idxR s lg bk bs I1, rowR lg (ledCells p g m1.n), plR p D1 s1, rowsIR g m1, rowR wr.heap.size (KwV x), knownR b nn (ents m).length (getM m)] := T
              generalize wr.heap.size = g9 at *
              cases he : (e1 == 0)
              case false =>
                have hne : ¬ e1 = 0 := by simpa using he
                have hm1 := HRW.out
                rw [if_neg hne] at hm1
                subst hm1
                have T4 := T.ord [4, 5, 0, 1, 2, 3]
                have HT := Lib.hid T4.drop; clear T T4
                go_wp2
                go_roundw
                case rel => exact ⟨k + 1, nn, I1, D1, s1, m1, a1, b1, by omega, by go_num, Nat.le_succ_of_le HNN.out, HI1.out, HIK.out.1, Nat.le_trans HIK.out.2 (Nat.succ_le_succ HIN.out), HT.out⟩
                case measure => simp [intOf]; omega
              case true =>
                have he0 : e1 = 0 := by simpa using he
                have hm1 := HRW.out
                rw [if_pos he0] at hm1
                have hgx := HGD.out he0
                have hin := goodI_in hgx.1 HI.out.ok.n.2
                have hInI : InI x.item := by obtain ⟨h1, h2⟩ := hin; unfold In64 at h1 h2; unfold InI; omega
                have T4 := T.ord [5, 4, 0, 1, 2, 3]
                have r0 := T4.row1; have l0 := row_lt r0; have c0 := row_cell r0
                have hnm : nn < maxLen := by have := HNN.out; unfold maxLen; omega
                obtain ⟨W9, hput, T9, -⟩ := T4.mapCPut itemOk Try.underlying82 hnm x.item hInI x.inst
                have hsl := ents_set_len HI.out.ok x.inst hgx.1
                have hpf := putF_set (i := x.inst) hgx.1
                rw [hpf, ← hsl, ← hm1] at T9
                have T10 := (T9.ord [1, 0, 2, 3, 4, 5]).drop
                have HT := Lib.hid T10
                clear T T4 T9 T10 hsl hpf hgx hin hInI hm1 hnm
                go_wp2
                go_roundw
                case rel => exact ⟨k + 1, nn + 1, I1, D1, s1, m1, a1, b1, by omega, by go_num, Nat.succ_le_succ HNN.out, HI1.out, HIK.out.1, Nat.le_trans HIK.out.2 (Nat.succ_le_succ HIN.out), HT.out⟩
                case measure => simp [intOf]; omega
        · obtain rfl : k = ks.length := by omega
          have hm := hI.ok
          have hT : Sts W (fun _ => False) wr (spL s lg p g bk bs I D safe m ++ [knownR b nn (ents m).length (getM m)]) := by
            have T : Sts W (fun _ => False) wr [knownR b nn (ents m).length (getM m), idxR s lg bk bs I, rowR lg (ledCells p g m.n), plR p D safe, rowsIR g m] := T
            have T1 := T.ord [1, 2, 3, 4, 0]
            exact T1
          have HD := Lib.hid (dumpEntT (L := spL s lg p g bk bs I D safe m) (M := [idxR s lg bk bs I, rowR lg (ledCells p g m.n), plR p D safe]) (R := [knownR b nn (ents m).length (getM m)]) hm (.pointer (some ⟨s, 0, none⟩)) (fun T => (spAllT T).mono fun e W' ⟨c, he, h⟩ => ⟨c, g, he, h⟩) hT)
          have HM := Lib.hid hm
          clear T hT hI hix hiN hnn2 hm
          go_wp2_with fail
          refine HD.out.mono ?_
          clear HD
          rintro e w7 ⟨v, g7, rfl, T⟩
          obtain ⟨A7, c7, rfl⟩ := vec_shape2 T
          have T1 : Sts W (fun _ => False) w7 [vecR 85 22 (.slice A7 (ents m).length c7) (ents m).length (vl EnV (ents m)), rowsIR g7 m, idxR s lg bk bs I, rowR lg (ledCells p g m.n), plR p D safe, knownR b nn (ents m).length (getM m)] := T
          have T2 := T1.ord [1, 2, 3, 4, 0, 5]
          have T3 := T2.drop.drop.drop.drop
          clear T T1 T2
          have hlen7 := ents_len HM.out
          have hN0 : ∀ (j : Nat) (h : j + 1 < (ents m).length), entLt ((ents m)[j]'(Nat.lt_of_succ_lt h)) ((ents m)[j + 1]'h) := fun j h => ents_next HM.out h
          have HN := Lib.hid hN0; clear hN0
          have HG := Lib.hid (fun (e : Ent) (h : e ∈ ents m) => ents_mem h)
          have HMN := HM.out.n.2
          generalize ents m = L at *
          have HT := Lib.hid T3; clear T3
          go_wp2_with fail
          go_loopw [68] (fun sl wr => ∃ k : Nat, k ≤ L.length ∧ sl = .int .i64 k ∧ Sts W (fun _ => False) wr [vecR 85 22 (.slice A7 L.length c7) L.length (vl EnV L), knownR b nn L.length (getM m)]) (fun sl _ => L.length - (intOf sl).toNat)
          case atStart => exact ⟨0, Nat.zero_le _, rfl, HT.out⟩
          case round =>
            clear HT
            obtain ⟨k, hk, rfl, T⟩ := hrel
            by_cases hkl : k < L.length
            · obtain ⟨A', c', hv, hR, -, hRa⟩ := vec_rows (V := EnV) (fun _ => rfl) T (by omega) (by omega)
              obtain ⟨rfl, -, rfl⟩ := Value.slice.inj hv; clear hv
              cases hA7 : A7 with
              | none => rw [hA7] at hR; rw [hR.nil rfl] at hkl; simp at hkl
              | some a7 =>
                obtain ⟨ga, rfl⟩ := hRa a7 hA7
                subst hA7
                have hld0 := hR.load (P := Try.prog) (T := 85) (fun _ => rfl) TEntry_und rfl (by kernel_rfl) (Below.refl _ _) rfl hkl
                rw [add_none, Nat.zero_add] at hld0
                have hld : loadVal Try.prog 85 22 wr (.pointer (some ⟨ga, k * 22, none⟩)) = .ok (.agg (AV ⟨L[k].1, L[k].2⟩)) wr := hld0
                clear hld0
                have hmem := List.getElem_mem hkl
                have hgk := HG.out L[k] hmem
                have hprev : ∀ j, k = j + 1 → ∃ y : Ent, wr.cell? ⟨ga, j * 22, none⟩ = some (.int .i64 y.1.rep) ∧ wr.cell? ⟨ga, j * 22 + 1, none⟩ = some (.int .i64 y.1.num) ∧ entLt y L[k] := fun j hj => by
                  subst hj
                  have hpc := prev_cells hR (Below.refl _ _) (Nat.lt_of_succ_lt hkl)
                  exact ⟨L[j], hpc.1, hpc.2, HN.out j hkl⟩
                have hk3 : (k : Int) < (L.length : Int) := by omega
                have hk0 : (0 : Int) ≤ (k : Int) := by omega
                generalize L[k] = x at *
                have hgi := goodI_in (getM_good hgk) HMN
                have hInI : InI x.1 := by obtain ⟨h1, h2⟩ := hgi; unfold In64 at h1 h2; unfold InI; omega
                have T2 := T.new (AV ⟨x.1, x.2⟩) 85
                have hlk : ∀ q, (Instr.lookup 82 (.map (some b)) (.agg (IV x.1)) false).run Try.prog ((wr.alloc (.cells (AV ⟨x.1, x.2⟩) 85)).drewN q) = .ok (.agg (NV x.2)) ((wr.alloc (.cells (AV ⟨x.1, x.2⟩) 85)).drewN q) := fun q => by
                  have h := ((T2.ord [2, 0, 1]).drewN q).mapC.is.look1 itemOk Try.underlying82 zeroI x.1 hInI
                  rw [hgk] at h
                  exact h
                have hpv : ∀ j, k = j + 1 → ∃ y : Ent, (wr.alloc (.cells (AV ⟨x.1, x.2⟩) 85)).cell? ⟨ga, j * 22, none⟩ = some (.int .i64 y.1.rep) ∧ (wr.alloc (.cells (AV ⟨x.1, x.2⟩) 85)).cell? ⟨ga, j * 22 + 1, none⟩ = some (.int .i64 y.1.num) ∧ entLt y x := fun j hj => by
                  obtain ⟨y, h1, h2, h3⟩ := hprev j hj
                  have hb := (Below.refl wr.heap.size wr).alloc (Nat.le_refl _) (.cells (AV ⟨x.1, x.2⟩) 85)
                  exact ⟨y, (hb.cell (World.block_lt_of_cell? _ _ h1)).trans h1, (hb.cell (World.block_lt_of_cell? _ _ h2)).trans h2, h3⟩
                have HT2 := Lib.hid T2; have HPV := Lib.hid hpv
                clear T T2 hR hRa hprev hpv hgk hgi hInI hmem
                go_wp2_with fail
                clear hld
                generalize hw8 : wr.alloc _ = w8 at *
                generalize wr.heap.size = g12 at *
                have r0 := HT2.out.row; have l0 := row_lt r0; have c0 := row_cell r0
                have hee : eqA (NV x.2) (NV x.2) = true := eqA_refl _
                refine wp_region_quiet_lit (by as_aux_lemma => kernel_rfl) (by as_aux_lemma => kernel_rfl) ?_
                cases k with
                | zero =>
                  repeat (go_big_quiet_step (fail))
                  refine wpQuiet_nil ?_
                  rintro _ ⟨x9, rfl⟩
                  clear hlk hee r0 l0 c0 HPV
                  go_wp2
                  go_roundw
                  case rel => exact ⟨0 + 1, by omega, by go_num, (HT2.out.drewN x9).drop⟩
                  case measure => simp [intOf]; omega
                | succ j =>
                  obtain ⟨y, f1, f2, hlt⟩ := HPV.out j rfl
                  have h1 : decide ((0 : Int) < ((j + 1 : Nat) : Int)) = true := by rw [decide_eq_true_iff]; omega
                  have h2 : ((j + 1 : Nat) : Int) - 1 = (j : Int) := by omega
                  have h3 : (0 : Int) ≤ (j : Int) := by omega
                  have h4 : (j : Int) < (L.length : Int) := by omega
                  rcases hlt with hlt | ⟨hlt, hlu⟩
                  · have b1 : decide (x.1.rep < y.1.rep) = false := by rw [decide_eq_false_iff_not]; omega
                    have b2 : (y.1.rep == x.1.rep) = false := by rw [beq_eq_false_iff_ne]; omega
                    repeat (go_big_quiet_step (fail))
                    refine wpQuiet_nil ?_
                    rintro _ ⟨x9, rfl⟩
                    clear hlk hee r0 l0 c0 HPV f1 f2 h1 h2 h3 h4 b1 b2
                    go_wp2
                    go_roundw
                    case rel => exact ⟨j + 1 + 1, by omega, by go_num, (HT2.out.drewN x9).drop⟩
                    case measure => simp [intOf]; omega
                  · have b1 : decide (x.1.rep < y.1.rep) = false := by rw [decide_eq_false_iff_not]; omega
                    have b2 : (y.1.rep == x.1.rep) = true := by rw [beq_iff_eq]; exact hlt
                    have b3 : decide (x.1.num ≤ y.1.num) = false := by rw [decide_eq_false_iff_not]; omega
                    repeat (go_big_quiet_step (fail))
                    refine wpQuiet_nil ?_
                    rintro _ ⟨x9, rfl⟩
                    clear hlk hee r0 l0 c0 HPV f1 f2 h1 h2 h3 h4 b1 b2 b3
                    go_wp2
                    go_roundw
                    case rel => exact ⟨j + 1 + 1, by omega, by go_num, (HT2.out.drewN x9).drop⟩
                    case measure => simp [intOf]; omega
            · obtain rfl : k = L.length := by omega
              have hmc := T.drop.mapC.len Try.underlying82 3
              have HT := Lib.hid T; clear T
              go_wp2
              go_ret
              exact ⟨by simp, HT.out.below⟩
end Go.Proofs.Ytpganpiidgkofaa
