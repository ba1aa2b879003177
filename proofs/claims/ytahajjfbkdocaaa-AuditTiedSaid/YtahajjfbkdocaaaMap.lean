/- A map of the call's own as a thing: a function from keys. Nothing of the program stands here. -/
import Derived.Test.YtahajjfbkdocaaaRes
import Derived.Maps.OwnSet
namespace Go.Proofs.Ytahajjfbkdocaaa
open Go.RowKit
open Go.Maps (Keyed)
set_option linter.unusedVariables false
/-- How an element reads: as itself. -/
def RV (v : Value) : Option (DataW Value × List MemPlace) := some (.held v, [])
/-- What is asked of keys. -/
structure KeyOk {α : Type} (P : Program) (k : TypeId) (kv : α → Value) (ok : α → Prop) : Prop where
  lit : ∀ x, ok x → ∃ l, keyOf P k (kv x) = some l
  inj : ∀ x y l, ok x → ok y → keyOf P k (kv x) = some l → keyOf P k (kv y) = some l → x = y
  keyed : Keyed P k
section
variable {α β : Type}
def mapIs (P : Program) (k : TypeId) (kv : α → Value) (ev : β → Value) (ok : α → Prop) (W : World) (b n : Nat) (f : α → Option β) : Prop :=
  ∃ D : DataW Value, W.ownsMap P k RV b n D ∧ ∀ x l, ok x → keyOf P k (kv x) = some l → match f x with
    | none => Maps.has D l = false
    | some y => Maps.has D l = true ∧ ∀ z, D.atKey l z = .held (ev y)
/-- A map in block b, of at most n entries. -/
def mapR (P : Program) (k : TypeId) (kv : α → Value) (ev : β → Value) (ok : α → Prop) (b n : Nat) (f : α → Option β) : Res where
  sat F W := (∀ j, F j ↔ j = b) ∧ mapIs P k kv ev ok W b n f
  stay := fun {F W W'} h ⟨hF, D, ⟨es, clock, hb, rest⟩, hD⟩ => ⟨hF, D, ⟨es, clock, by rw [h b ((hF b).2 rfl)]; exact hb, rest⟩, hD⟩
  lt := fun ⟨hF, D, hown, hD⟩ j hj => by rw [(hF j).1 hj]; exact hown.lt
variable {P : Program} {k t e : TypeId} {kv : α → Value} {ev : β → Value} {ok : α → Prop} {w W : World} {F : Nat → Prop} {R L : List Res} {b n : Nat} {f : α → Option β}
theorem mapIs.look (K : KeyOk P k kv ok) (ht : P.underlying t = some (.map k e)) {z : Value} (hz : ∀ w, (zeroValue e).run P w = .ok z w) (h : mapIs P k kv ev ok W b n f) (x : α) (hx : ok x) :
    (Instr.lookup t (.map (some b)) (kv x) true).run P W = .ok (.tuple #[(match f x with | none => z | some y => ev y), .bool (f x).isSome]) W := by
  obtain ⟨D, hown, hD⟩ := h
  obtain ⟨l, hl⟩ := K.lit x hx
  obtain ⟨v, ps, hrun, hv⟩ := hown.look_ok K.keyed ht (hz W) (zd := .held z) (zp := []) rfl hl
  have hd := hD x l hx hl
  unfold RV at hv
  simp only [Option.some.injEq, Prod.mk.injEq] at hv
  rw [hrun]
  cases hf : f x with
  | none =>
    rw [hf] at hd
    simp only at hd
    rw [hd]
    rw [Maps.atKey_of_not_has hd] at hv
    injection hv.1 with e1
    rw [e1]; rfl
  | some y =>
    rw [hf] at hd
    simp only at hd
    rw [hd.1]
    rw [hd.2] at hv
    injection hv.1 with e1
    rw [e1]; rfl
theorem mapIs.look1 (K : KeyOk P k kv ok) (ht : P.underlying t = some (.map k e)) {z : Value} (hz : ∀ w, (zeroValue e).run P w = .ok z w) (h : mapIs P k kv ev ok W b n f) (x : α) (hx : ok x) :
    (Instr.lookup t (.map (some b)) (kv x) false).run P W = .ok (match f x with | none => z | some y => ev y) W := by
  obtain ⟨D, hown, hD⟩ := h
  obtain ⟨l, hl⟩ := K.lit x hx
  obtain ⟨v, ps, hrun, hv⟩ := hown.lookup K.keyed ht (hz W) (zd := .held z) (zp := []) rfl hl
  have hd := hD x l hx hl
  unfold RV at hv
  simp only [Option.some.injEq, Prod.mk.injEq] at hv
  rw [hrun]
  cases hf : f x with
  | none =>
    rw [hf] at hd
    simp only at hd
    rw [Maps.atKey_of_not_has hd] at hv
    injection hv.1 with e1
    rw [e1]
  | some y =>
    rw [hf] at hd
    simp only at hd
    rw [hd.2] at hv
    injection hv.1 with e1
    rw [e1]
open Classical in
noncomputable def putF (f : α → Option β) (x : α) (y : β) : α → Option β := fun x' => if x' = x then some y else f x'
theorem putF_same (f : α → Option β) (x : α) (y : β) : putF f x y x = some y := by unfold putF; rw [if_pos rfl]
theorem putF_other (f : α → Option β) {x x' : α} (y : β) (h : x' ≠ x) : putF f x y x' = f x' := by unfold putF; rw [if_neg h]
theorem mapIs.put (K : KeyOk P k kv ok) (ht : P.underlying t = some (.map k e)) (h : mapIs P k kv ev ok W b n f) (hn : n < maxLen) (x : α) (hx : ok x) (y : β) :
    ∃ W', (Instr.mapUpdate t (.map (some b)) (kv x) (ev y)).run P W = .ok () W' ∧ mapIs P k kv ev ok W' b (n + 1) (putF f x y) ∧ W.grownBy W' (some b) := by
  obtain ⟨D, hown, hD⟩ := h
  obtain ⟨l, hl⟩ := K.lit x hx
  obtain ⟨W', hrun, hown', hg⟩ := hown.update K.keyed ht hn hl (d := .held (ev y)) (ps := []) (val := ev y) rfl
  have hk : WideAt.IsKeyLit l := K.keyed.key hl
  refine ⟨W', hrun, ⟨_, hown', fun x' l' hx' hl' => ?_⟩, hg⟩
  by_cases hxx : x' = x
  · subst hxx
    have : l' = l := Option.some.inj (hl'.symm.trans hl)
    subst this
    rw [putF_same]
    exact ⟨Maps.has_put_same hown.isMap hk _, fun z => Maps.atKey_put_same hown.isMap hk _ _⟩
  · have hne : l' ≠ l := fun e => hxx (K.inj x' x l hx' hx (e ▸ hl') hl)
    rw [putF_other f y hxx]
    have hd := hD x' l' hx' hl'
    cases hf : f x' with
    | none =>
      rw [hf] at hd
      simp only at hd ⊢
      rw [Maps.has_put_other hne]; exact hd
    | some y' =>
      rw [hf] at hd
      simp only at hd ⊢
      exact ⟨by rw [Maps.has_put_other hne]; exact hd.1, fun z => by rw [Maps.atKey_put_other hne]; exact hd.2 z⟩
theorem Sts.map (T : Sts w F W (mapR P k kv ev ok b n f :: R)) : mapIs P k kv ev ok W b n f := let ⟨_, ha⟩ := T.at0; ha.2
theorem Sts.mapNew (T : Sts w F W L) : Sts w F (W.alloc (.map #[] 0)) (mapR P k kv ev ok W.heap.size 0 (fun _ => none) :: L) := by
  obtain ⟨⟨G, hs, hG⟩, m⟩ := T.keep (.map #[] 0)
  obtain ⟨⟨G0, hs0, hg0⟩, m0⟩ := T
  have hlt := hs0.lt
  have hs1 : Sat (W.alloc (.map #[] 0)) L G0 := hs0.stay fun j hj => Below.heap_alloc _ _ _ (hlt j hj)
  refine ⟨⟨fun j => j = W.heap.size ∨ G0 j, ⟨fun j => j = W.heap.size, G0, ⟨fun _ => Iff.rfl, .map [], World.ownsMap_made W P k RV, fun x l _ _ => rfl⟩, hs1, ?_, fun _ => Iff.rfl⟩, ?_⟩, m⟩
  · rintro j rfl h; have := hlt _ h; omega
  · rintro j (rfl | h)
    · right; exact m0.size
    · exact hg0 j h
theorem Sts.mapPut (T : Sts w F W (mapR P k kv ev ok b n f :: R)) (K : KeyOk P k kv ok) (ht : P.underlying t = some (.map k e)) (hn : n < maxLen) (x : α) (hx : ok x) (y : β) :
    ∃ W', (Instr.mapUpdate t (.map (some b)) (kv x) (ev y)).run P W = .ok () W' ∧ Sts w F W' (mapR P k kv ev ok b (n + 1) (putF f x y) :: R) ∧ W'.heap.size = W.heap.size := by
  obtain ⟨D, hown, hD⟩ := T.map
  obtain ⟨l, hl⟩ := K.lit x hx
  obtain ⟨W1, hrun1, _, ht1⟩ := hown.store K.keyed ht hn hl (d := .held (ev y)) (ps := []) (val := ev y) rfl
  obtain ⟨W', hrun, hm, hg⟩ := T.map.put K ht hn x hx y
  have he : W1 = W' := by rw [hrun] at hrun1; injection hrun1 with _ e; exact e.symm
  refine ⟨W', hrun, T.turn fun A ha => ⟨fun j => j = b, ⟨fun _ => Iff.rfl, hm⟩, fun j hj => .inl ((ha.1 j).2 hj), hg.os, hg.tape, hg.output, hg.size, fun j hj hn => hg.block j hj fun e => hn ((ha.1 j).2 (by injection e))⟩, ?_⟩
  subst he
  obtain ⟨es, c, es', c', hb, rfl⟩ := ht1
  simp [Go.ChangeMaps.setBlock]
end
end Go.Proofs.Ytahajjfbkdocaaa
