/- Loops over iterators: what lies in memory abides the loop's own records. Nothing of the program stands here. -/
import Derived.Test.YtnjnafmonijlnaaStruct
import Derived.RangeFuncNested
import Derived.RangeFuncBound
import Derived.RangeFuncCalls
import Derived.RangeFuncLeaves
import Derived.Shelf.Abstract
import Derived.Shelf.RegionOpen
import Derived.OwnWalkIn
import Derived.TacticsInMore
import Derived.LoopNIn
import Derived.LoopIn
namespace Go.Proofs.Ytnjnafmonijlnaa
open Go.RowKit Go.Shelf
set_option linter.unusedVariables false
/-- All blocks of a thing are cells. -/
def Res.plain (r : Res) : Prop := ∀ {F : Nat → Prop} {W : World}, r.sat F W → ∀ k, F k → ∃ o, W.heap[k]? = some o ∧ o.isCells = true
def plainL (L : List Res) : Prop := ∀ r ∈ L, r.plain
theorem rowR_plain (g : Nat) (X : Array Value) : (rowR g X).plain := fun hs k hk => by
  rw [(hs.1 k).1 hk]
  obtain ⟨t, ht⟩ := row_some hs.2
  exact ⟨_, ht, rfl⟩
theorem vecR_plain (e : TypeId) (size : Nat) (v : Value) (n : Nat) (xs : List Value) : (vecR e size v n xs).plain := fun hs k hk => by
  have := (hs.2 k).1 hk
  rcases hs.1.2 with ⟨rfl, hn⟩ | ⟨g, cap, cur, rfl, hb, hg, rest⟩
  · simp [Value.ownBlock] at this
  · simp [Value.ownBlock] at this; subst this; exact ⟨_, hg, rfl⟩
theorem plainL_nil : plainL [] := fun _ h => by simp at h
theorem plainL_cons {r : Res} {L : List Res} (h : r.plain) (hl : plainL L) : plainL (r :: L) := fun s hs => by
  rcases List.mem_cons.1 hs with rfl | h'
  · exact h
  · exact hl s h'
theorem Sat.plain : ∀ {L : List Res}, plainL L → ∀ {F : Nat → Prop} {W : World}, Sat W L F → ∀ k, F k → ∃ o, W.heap[k]? = some o ∧ o.isCells = true
  | [], _, _, _, h, k, hk => (h k hk).elim
  | r :: L, hp, F, W, ⟨A, B, ha, hb, hd, hf⟩, k, hk => by
    rcases (hf k).1 hk with h | h
    · exact hp r (by simp) ha k h
    · exact Sat.plain (fun s hs => hp s (by simp [hs])) hb k h
theorem starR_plain {r s : Res} (hr : r.plain) (hs : s.plain) : (starR r s).plain := fun h k hk => Sat.plain (plainL_cons hr (plainL_cons hs plainL_nil)) h k hk
theorem exR_plain {α : Type} {f : α → Res} (h : ∀ a, (f a).plain) : (exR f).plain := fun hs k hk => let ⟨a, ha⟩ := hs; h a ha k hk
theorem andR_plain {p : Prop} {r : Res} (h : r.plain) : (andR p r).plain := fun hs k hk => h hs.2 k hk
section
variable {w W W' : World} {F G : Nat → Prop} {L R L' : List Res} {r s t u : Res}
theorem Sts.grown' (h : Sts w F W L) (hp : plainL L) {row : Option Nat} (hg : W.grownBy W' row) (hr : ∀ r, row = some r → w.heap.size ≤ r ∧ ∃ o : Obj, W.heap[r]? = some o ∧ o.isCells = false) : Sts w F W' L := by
  obtain ⟨⟨G, hs, hG⟩, m⟩ := h
  have hpl := hs.plain hp
  refine ⟨⟨G, hs.stay fun k hk => hg.block k (hs.lt k hk) fun e => ?_, hG⟩, hg.os.trans m.os, hg.tape.trans m.tape, hg.output.trans m.output, Nat.le_trans m.size hg.size, fun k hk hn => (hg.block k (Nat.lt_of_lt_of_le hk m.size) fun e => ?_).trans (m.block k hk hn)⟩
  · obtain ⟨_, o, ho, hc⟩ := hr k e.symm
    obtain ⟨o', ho', hc'⟩ := hpl k hk
    rw [ho] at ho'; injection ho' with e2; subst e2; rw [hc] at hc'; cases hc'
  · have := (hr k e.symm).1; omega
/-- What a loop's round knows of memory abides the loop's records. -/
theorem Sts.own {β : Type} (w : World) (F : Nat → Prop) {B : Nat} (L : β → List Res) (hp : ∀ s, plainL (L s)) (hB : w.heap.size ≤ B) : OwnFrom B (fun s W => Sts w F W (L s)) := fun s W W' row hs hg hr =>
  hs.grown' (hp s) hg fun r e => ⟨Nat.le_trans hB (hr r e).1, (hr r e).2⟩
/-- What a round leaves. -/
theorem Sts.keepsFrom (hs : Sat W L G) (hp : plainL L) (h : Sts W G W' L') (B : Nat) : KeepsFrom B W W' :=
  ⟨h.2.size, fun k o _ hk ho => by
    have hlt : k < W.heap.size := (Array.getElem?_eq_some_iff.1 hk).1
    rw [h.2.block k hlt fun hg => ?_]
    · exact hk
    · obtain ⟨o', ho', hc'⟩ := hs.plain hp k hg
      rw [hk] at ho'; injection ho' with e; subst e; rw [ho] at hc'; cases hc'⟩
theorem Sts.below_putObj {l : Nat} {o : Obj} (h : Sts w F W L) (hp : plainL L) (o' : Obj) (hl : w.heap.size ≤ l) (ho : W.heap[l]? = some o) (hc : o.isCells = false) : Sts w F (W.putObj l o') L :=
  h.grown' hp (grownBy_putObj' W l o') fun r e => by cases e; exact ⟨hl, o, ho, hc⟩
end
section
variable {n : Nat} {P : Program} {fn : Func} {R : Ending → World → Prop} {a : Act} {w : World} {v : Value}
/-- A return ahead of every loop over an iterator. -/
theorem retM0 (hr : (results fn a.tmps).run P w = .ok v w) (hR : R (.returned v) w) (hd : a.defers = []) : bodyPostM Fence.wide n P fn R .ret a w := by
  show LeavesInM _ _ _ _ _ _ a.defers _ _
  rw [hd]
  exact ⟨v, hr, hR⟩
/-- A return behind one. -/
theorem retM1 {D : Nat} {ar : Array Value} (hK : w.heap[D]? = some (.deferred (some []))) (hr : (results fn a.tmps).run P (w.putObj D (.deferred none)) = .ok v (w.putObj D (.deferred none))) (hR : R (.returned v) (w.putObj D (.deferred none))) (hd : a.defers = [{ target := .collected D, args := ar }]) : bodyPostM Fence.wide n P fn R .ret a w := by
  show LeavesInM _ _ _ _ _ _ a.defers _ _
  rw [hd]
  exact ⟨by simp, .inl ⟨_, _, rfl, run_takeDeferred hK, v, hr, hR⟩⟩
end
section
variable {w W W' : World} {F G : Nat → Prop} {L R L' : List Res} {r s t u : Res}
theorem Sts.put {D : Nat} {ds : Option (List Deferred)} (h : Sts w F W L) (hp : plainL L) (hD : w.heap.size ≤ D) (hK : W.heap[D]? = some (.deferred ds)) (o : Obj) : Sts w F (W.putObj D o) L := h.below_putObj hp o hD hK rfl
/-- A round's own part. -/
theorem Sts.round (h : Sts w F W L) (hp : plainL L) : ∃ G, Sts W G W L ∧ ∀ {W' L'}, Sts W G W' L' → Sts w F W' L' ∧ ∀ B, KeepsFrom B W W' := by
  obtain ⟨G, hG, k⟩ := Sts.call (L := L) (R := []) (by simpa using h)
  exact ⟨G, Sts.start hG, fun {W' L'} hS => ⟨by simpa using k hS, fun B => Sts.keepsFrom hG hp hS B⟩⟩
end
/-- A loop's own variable, in a block of its own. -/
def Fresh1 (B : Nat) (b : Nat) (X : Array Value) (W : World) : Prop := B ≤ b ∧ row? W b = some X
theorem fresh1_own {B B' b : Nat} {X : Array Value} : OwnFrom (β := Unit) B (fun _ W => Fresh1 B' b X W) := fun _ W W' row hs hg hr => by
  refine ⟨hs.1, ?_⟩
  rw [row_of_block (hg.block b (row_lt hs.2) fun e => ?_)]
  · exact hs.2
  · obtain ⟨_, o, ho, hc⟩ := hr b e.symm
    obtain ⟨t, ht⟩ := row_some hs.2
    rw [ht] at ho; injection ho with e2; subst e2; cases hc
theorem Sts.found1 {w W : World} {F : Nat → Prop} {L : List Res} {B b : Nat} {X : Array Value} (h : Sts w F W L) (hf : Fresh1 B b X W) (hF : ∀ G, Sat W L G → ¬ G b) (hw : w.heap.size ≤ B) : Sts w F W (rowR b X :: L) := by
  obtain ⟨⟨G, hs, hG⟩, m⟩ := h
  refine ⟨⟨fun k => k = b ∨ G k, ⟨fun k => k = b, G, ⟨fun _ => Iff.rfl, hf.2⟩, hs, ?_, fun _ => Iff.rfl⟩, ?_⟩, m⟩
  · rintro k rfl h; exact hF G hs h
  · rintro k (rfl | h)
    · right; have := hf.1; omega
    · exact hG k h
end Go.Proofs.Ytnjnafmonijlnaa
