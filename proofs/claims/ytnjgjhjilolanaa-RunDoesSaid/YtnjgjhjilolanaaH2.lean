/- Several texts in one. -/
import Derived.Test.YtnjgjhjilolanaaH1
import Derived.Maps.AppendAt
import Derived.ChangeKeysEq
/- Things in memory, each with the blocks that are its own; what a call does to some of them leaves the others alone. Nothing of the program stands here. -/
namespace Go.Proofs.Ytnjgjhjilolanaa
open Go.RowKit Go.Lib
set_option linter.unusedVariables false
/-- A thing in memory: when a world bears it, with just these blocks its own. -/
structure Res where
  sat : (Nat → Prop) → World → Prop
  stay : ∀ {F : Nat → Prop} {W W' : World}, (∀ k, F k → W'.heap[k]? = W.heap[k]?) → sat F W → sat F W'
  lt : ∀ {F : Nat → Prop} {W : World}, sat F W → ∀ k, F k → k < W.heap.size
/-- Things side by side, with blocks of their own. -/
def Sat (W : World) : List Res → (Nat → Prop) → Prop
  | [], F => ∀ k, ¬ F k
  | r :: L, F => ∃ A B, r.sat A W ∧ Sat W L B ∧ (∀ k, A k → ¬ B k) ∧ ∀ k, F k ↔ A k ∨ B k
/-- Nothing has turned but blocks in F, and what is new. -/
structure Mod (w W : World) (F : Nat → Prop) : Prop where
  os : W.os = w.os
  tape : W.tape = w.tape
  output : W.output = w.output
  size : w.heap.size ≤ W.heap.size
  block : ∀ k, k < w.heap.size → ¬ F k → W.heap[k]? = w.heap[k]?
/-- W has come of w, where F was ours: these things are ours now. -/
def Sts (w : World) (F : Nat → Prop) (W : World) (L : List Res) : Prop := (∃ G, Sat W L G ∧ ∀ k, G k → F k ∨ w.heap.size ≤ k) ∧ Mod w W F
/-- A cell row, whole. -/
def rowR (g : Nat) (X : Array Value) : Res where
  sat F W := (∀ k, F k ↔ k = g) ∧ row? W g = some X
  stay h hs := ⟨hs.1, by rw [row_of_block (h g ((hs.1 g).2 rfl))]; exact hs.2⟩
  lt hs k hk := by rw [(hs.1 k).1 hk]; exact row_lt hs.2
theorem Mod.refl (w : World) (F : Nat → Prop) : Mod w w F := ⟨rfl, rfl, rfl, Nat.le_refl _, fun _ _ _ => rfl⟩
theorem Mod.below {w W : World} {F : Nat → Prop} (h : Mod w W F) (hF : ∀ k, ¬ F k) : Below w.heap.size w W := ⟨h.os, h.tape, h.output, h.size, fun k hk => h.block k hk (hF k)⟩
section
variable {w W W' : World} {F G : Nat → Prop} {L R L1 L2 : List Res} {r s t u : Res}
theorem Sat.stay : ∀ {L : List Res} {F : Nat → Prop}, (∀ k, F k → W'.heap[k]? = W.heap[k]?) → Sat W L F → Sat W' L F
  | [], _, _, h => h
  | r :: L, F, hk, ⟨A, B, ha, hb, hd, hf⟩ => ⟨A, B, r.stay (fun k h => hk k ((hf k).2 (.inl h))) ha, Sat.stay (fun k h => hk k ((hf k).2 (.inr h))) hb, hd, hf⟩
theorem Sat.lt : ∀ {L : List Res} {F : Nat → Prop}, Sat W L F → ∀ k, F k → k < W.heap.size
  | [], _, h, k, hk => (h k hk).elim
  | r :: L, F, ⟨A, B, ha, hb, hd, hf⟩, k, hk => by
    rcases (hf k).1 hk with h | h
    · exact r.lt ha k h
    · exact Sat.lt hb k h
theorem Sat.one (h : r.sat F W) : Sat W [r] F := ⟨F, fun _ => False, h, fun _ h => h, fun _ _ h => h, fun k => by simp⟩
theorem Sat.append : ∀ {L1 : List Res} {A B : Nat → Prop}, Sat W L1 A → Sat W L2 B → (∀ k, A k → ¬ B k) → Sat W (L1 ++ L2) (fun k => A k ∨ B k)
  | [], A, B, h, hb, _ => by
    have e : (fun k => A k ∨ B k) = B := by funext k; simp [h k]
    rw [e]; exact hb
  | r :: L1, A, B, ⟨A1, A2, h1, h2, hd, hf⟩, hb, hdis => by
    refine ⟨A1, fun k => A2 k ∨ B k, h1, Sat.append h2 hb (fun k h => hdis k ((hf k).2 (.inr h))), fun k hk => ?_, fun k => ?_⟩
    · rintro (h | h)
      · exact hd k hk h
      · exact hdis k ((hf k).2 (.inl hk)) h
    · show A k ∨ B k ↔ A1 k ∨ A2 k ∨ B k
      rw [hf k, or_assoc]
theorem Sat.parts : ∀ {L1 : List Res} {F : Nat → Prop}, Sat W (L1 ++ L2) F → ∃ A B, Sat W L1 A ∧ Sat W L2 B ∧ (∀ k, A k → ¬ B k) ∧ ∀ k, F k ↔ A k ∨ B k
  | [], F, h => ⟨fun _ => False, F, fun _ h => h, h, fun _ h => h.elim, fun k => by simp⟩
  | r :: L1, F, ⟨A, B, ha, hb, hd, hf⟩ => by
    obtain ⟨C, D, hc, hdd, hcd, hbf⟩ := Sat.parts hb
    refine ⟨fun k => A k ∨ C k, D, ⟨A, C, ha, hc, fun k h h' => hd k h ((hbf k).2 (.inl h')), fun k => Iff.rfl⟩, hdd, ?_, fun k => ?_⟩
    · rintro k (h | h) h'
      · exact hd k h ((hbf k).2 (.inr h'))
      · exact hcd k h h'
    · rw [hf k, hbf k, or_assoc]
theorem Sat.congr {F G : Nat → Prop} (h : Sat W L F) (e : ∀ k, F k ↔ G k) : Sat W L G := by
  have : F = G := by funext k; exact propext (e k)
  rw [← this]; exact h
theorem Sat.perm {L L' : List Res} (p : L.Perm L') : ∀ {F : Nat → Prop}, Sat W L F → Sat W L' F := by
  induction p with
  | nil => exact fun h => h
  | cons r _ ih => exact fun ⟨A, B, ha, hb, hd, hf⟩ => ⟨A, B, ha, ih hb, hd, hf⟩
  | swap r s L =>
    rintro F ⟨A, B, ha, ⟨C, D, hc, hdd, hcd, hbf⟩, hd, hf⟩
    refine ⟨C, fun k => A k ∨ D k, hc, ⟨A, D, ha, hdd, fun k h h' => hd k h ((hbf k).2 (.inr h')), fun k => Iff.rfl⟩, ?_, fun k => ?_⟩
    · rintro k h (h' | h')
      · exact hd k h' ((hbf k).2 (.inl h))
      · exact hcd k h h'
    · rw [hf k, hbf k, or_left_comm]
  | trans _ _ ih1 ih2 => exact fun h => ih2 (ih1 h)
theorem Sts.start (h : Sat w L F) : Sts w F w L := ⟨⟨F, h, fun _ h => .inl h⟩, Mod.refl _ _⟩
theorem Sts.start0 (w : World) : Sts w (fun _ => False) w [] := Sts.start fun _ h => h
theorem Sts.perm (h : Sts w F W L) (p : L.Perm L1) : Sts w F W L1 := let ⟨⟨G, hs, hg⟩, m⟩ := h; ⟨⟨G, hs.perm p, hg⟩, m⟩
theorem Sts.mod (h : Sts w F W L) : Mod w W F := h.2
theorem Sts.size (h : Sts w F W L) : w.heap.size ≤ W.heap.size := h.2.size
theorem Sts.below (h : Sts w (fun _ => False) W L) : Below w.heap.size w W := h.2.below fun _ h => h
/-- Some of the things are handed to a call; the others stay as they are. -/
theorem Sts.call (h : Sts w F W (L ++ R)) : ∃ G, Sat W L G ∧ ∀ {W' L'}, Sts W G W' L' → Sts w F W' (L' ++ R) := by
  obtain ⟨⟨H, hs, hh⟩, m⟩ := h
  obtain ⟨A, B, ha, hb, hd, hf⟩ := hs.parts
  refine ⟨A, ha, fun {W' L'} hS => ?_⟩
  obtain ⟨⟨C, hc, hcc⟩, m2⟩ := hS
  have hbl := hb.lt
  refine ⟨⟨fun k => C k ∨ B k, hc.append (hb.stay fun k hk => m2.block k (hbl k hk) fun h => hd k h hk) ?_, ?_⟩, ?_⟩
  · intro k hk hbk
    rcases hcc k hk with h | h
    · exact hd k h hbk
    · have := hbl k hbk; omega
  · rintro k (hk | hk)
    · rcases hcc k hk with h | h
      · exact hh k ((hf k).2 (.inl h))
      · right; have := m.size; omega
    · exact hh k ((hf k).2 (.inr hk))
  · refine ⟨m2.os.trans m.os, m2.tape.trans m.tape, m2.output.trans m.output, Nat.le_trans m.size m2.size, fun k hk hn => ?_⟩
    refine (m2.block k (Nat.lt_of_lt_of_le hk m.size) fun ha' => ?_).trans (m.block k hk hn)
    rcases hh k ((hf k).2 (.inl ha')) with h | h
    · exact hn h
    · omega
theorem Sts.mono (h : Sts w F W L) (hm : Mod W W' (fun _ => False)) : Sts w F W' L := by
  obtain ⟨G, hG, k⟩ := Sts.call (L := []) (R := L) h
  have := k (W' := W') (L' := []) ⟨⟨fun _ => False, fun _ h => h, fun _ h => h.elim⟩, hm.os, hm.tape, hm.output, hm.size, fun k hk _ => hm.block k hk fun h => h⟩
  exact this
theorem Sts.pure (h : Sts w F W L) (hb : Below W.heap.size W W') : Sts w F W' L := h.mono ⟨hb.os, hb.tape, hb.output, hb.size, fun k hk _ => hb.block k hk⟩
theorem Sts.keep (h : Sts w F W L) (o : Obj) : Sts w F (W.alloc o) L := h.pure ((Below.refl _ _).alloc (Nat.le_refl _) _)
theorem Sts.drew (h : Sts w F W L) : Sts w F W.drew L := h.pure (Below.refl W.heap.size W).drew
theorem Sts.drewN (h : Sts w F W L) (n : Nat) : Sts w F (W.drewN n) L := h.pure (below_drewN (Below.refl _ _) n)
theorem Sts.ext (h : Sts w F W L) (x : World) : Sts w F (Go.Proofs.Ytnjgjhjilolanaa.ext W x) L := h.pure (ext_below W x)
theorem Sts.new (h : Sts w F W L) (c : Array Value) (t : TypeId) : Sts w F (W.alloc (.cells c t)) (rowR W.heap.size c :: L) := by
  obtain ⟨⟨G, hs, hg⟩, m⟩ := h.keep (.cells c t)
  obtain ⟨⟨G0, hs0, hg0⟩, m0⟩ := h
  have hlt := hs0.lt
  have hs1 : Sat (W.alloc (.cells c t)) L G0 := hs0.stay fun k hk => Below.heap_alloc _ _ _ (hlt k hk)
  refine ⟨⟨fun k => k = W.heap.size ∨ G0 k, ⟨fun k => k = W.heap.size, G0, ⟨fun _ => Iff.rfl, row_alloc_at W _ c t rfl⟩, hs1, ?_, fun _ => Iff.rfl⟩, ?_⟩, m⟩
  · rintro k rfl h; have := hlt _ h; omega
  · rintro k (rfl | h)
    · right; exact m0.size
    · exact hg0 k h
/-- The first thing turns, by writes to its own blocks. -/
theorem Sts.turn (h : Sts w F W (r :: R)) (hr : ∀ A, r.sat A W → ∃ A', s.sat A' W' ∧ (∀ k, A' k → A k ∨ W.heap.size ≤ k) ∧ Mod W W' A) : Sts w F W' (s :: R) := by
  obtain ⟨G, hG, k⟩ := Sts.call (L := [r]) (R := R) h
  obtain ⟨A, B, ha, hb, hd, hf⟩ := hG
  obtain ⟨A', hs, hA, hm⟩ := hr A ha
  refine k (L' := [s]) ⟨⟨A', Sat.one hs, fun k hk => ?_⟩, hm.os, hm.tape, hm.output, hm.size, fun k hk hn => hm.block k hk fun h => hn ((hf k).2 (.inl h))⟩
  rcases hA k hk with h | h
  · exact .inl ((hf k).2 (.inl h))
  · exact .inr h
theorem Sts.setRow {g : Nat} {X : Array Value} (h : Sts w F W (rowR g X :: R)) (Y : Array Value) : Sts w F (W.setRow g Y) (rowR g Y :: R) :=
  h.turn fun A ha => ⟨A, ⟨ha.1, row_setRow_same W g X Y ha.2⟩, fun _ h => .inl h, rfl, rfl, rfl, by simp, fun k hk hn => setRow_other W g k Y fun e => hn ((ha.1 k).2 e)⟩
theorem Sts.setCell {g : Nat} {X : Array Value} (h : Sts w F W (rowR g X :: R)) (i : Nat) (v : Value) : Sts w F (W.setCell ⟨g, i, none⟩ v) (rowR g (X.setIfInBounds i v) :: R) :=
  h.turn fun A ha => ⟨A, ⟨ha.1, by rw [row_setCell_same, ha.2]; rfl⟩, fun _ h => .inl h, rfl, rfl, rfl, by simp, fun k hk hn => heap_setCell_other W ⟨g, i, none⟩ k v (fun e => hn ((ha.1 k).2 e))⟩
theorem Sts.drop (h : Sts w F W (r :: R)) : Sts w F W R := by
  obtain ⟨⟨G, ⟨A, B, ha, hb, hd, hf⟩, hg⟩, m⟩ := h
  exact ⟨⟨B, hb, fun k hk => hg k ((hf k).2 (.inr hk))⟩, m⟩
theorem Sts.nil (h : Sts w F W L) : Sts w F W [] := ⟨⟨fun _ => False, fun _ h => h, fun _ h => h.elim⟩, h.2⟩
theorem Sts.to (h : Sts w F W (r :: R)) (hr : ∀ A, r.sat A W → s.sat A W) : Sts w F W (s :: R) :=
  h.turn fun A ha => ⟨A, hr A ha, fun _ h => .inl h, Mod.refl _ _⟩
theorem Sts.at0 (h : Sts w F W (r :: R)) : ∃ A, r.sat A W := let ⟨⟨_, ⟨A, _, ha, _⟩, _⟩, _⟩ := h; ⟨A, ha⟩
theorem Sts.row {g : Nat} {X : Array Value} (h : Sts w F W (rowR g X :: R)) : row? W g = some X := let ⟨_, ha⟩ := h.at0; ha.2
theorem Sts.row1 {g : Nat} {X : Array Value} (h : Sts w F W (r :: rowR g X :: R)) : row? W g = some X := h.drop.row
theorem Sts.row2 {g : Nat} {X : Array Value} (h : Sts w F W (r :: s :: rowR g X :: R)) : row? W g = some X := h.drop.drop.row
theorem Sts.row3 {g : Nat} {X : Array Value} (h : Sts w F W (r :: s :: t :: rowR g X :: R)) : row? W g = some X := h.drop.drop.drop.row
theorem Sts.row4 {g : Nat} {X : Array Value} (h : Sts w F W (r :: s :: t :: u :: rowR g X :: R)) : row? W g = some X := h.drop.drop.drop.drop.row
theorem Sts.ne {g k : Nat} {X Y : Array Value} (h : Sts w F W (rowR g X :: rowR k Y :: R)) : g ≠ k := by
  obtain ⟨⟨G, ⟨A, B, ha, ⟨C, D, hc, _, _, hf2⟩, hd, hf⟩, hg⟩, m⟩ := h
  intro e
  exact hd g ((ha.1 g).2 rfl) ((hf2 g).2 (.inl ((hc.1 g).2 e)))
theorem Sts.swap (h : Sts w F W (r :: s :: R)) : Sts w F W (s :: r :: R) := h.perm (.swap ..)
theorem Sts.rot2 (h : Sts w F W (r :: s :: t :: R)) : Sts w F W (t :: r :: s :: R) := (h.perm (.cons _ (.swap ..))).swap
end
/-- A call that turns some things into others, and leaves all else alone. -/
def Does (P : Program) (f : FuncId) (args : Array Value) (L : List Res) (v : Value) (L' : List Res) : Prop :=
  ∀ W G, Sat W L G → Calls P f args W fun e W' => e = .returned v ∧ Sts W G W' L'
section
variable {P : Program} {f : FuncId} {args : Array Value} {v : Value} {w W : World} {F : Nat → Prop} {L L' R : List Res} {r r' s s' : Res}
theorem Does.at (h : Does P f args L v L') (T : Sts w F W (L ++ R)) : Calls P f args W fun e W' => e = .returned v ∧ Sts w F W' (L' ++ R) := by
  obtain ⟨G, hG, k⟩ := T.call
  exact (h W G hG).mono fun e W' ⟨he, hS⟩ => ⟨he, k hS⟩
theorem Does.at1 (h : Does P f args [r] v [r']) (T : Sts w F W (r :: R)) : Calls P f args W fun e W' => e = .returned v ∧ Sts w F W' (r' :: R) := Does.at (R := R) h T
theorem Ans.at (h : Ans P f args v) (T : Sts w F W L) : Calls P f args W fun e W' => e = .returned v ∧ Sts w F W' L := (h W).mono fun _ _ ⟨he, hb⟩ => ⟨he, T.pure hb⟩
theorem Ans.of_sts (h : ∀ W, Calls P f args W fun e W' => e = .returned v ∧ Sts W (fun _ => False) W' []) : Ans P f args v := fun W => (h W).mono fun _ _ ⟨he, hS⟩ => ⟨he, hS.below⟩
theorem Does.ret (h : Does P f args L v L') {u : Value} (e : v = u) : Does P f args L u L' := e ▸ h
end
/-! things made of things -/
def starR (r s : Res) : Res where
  sat F W := Sat W [r, s] F
  stay h hs := hs.stay h
  lt hs := hs.lt
def exR {α : Type} (f : α → Res) : Res where
  sat F W := ∃ a, (f a).sat F W
  stay h := fun ⟨a, hs⟩ => ⟨a, (f a).stay h hs⟩
  lt := fun ⟨a, hs⟩ => (f a).lt hs
/-- A fact beside a thing. -/
def andR (p : Prop) (r : Res) : Res where
  sat F W := p ∧ r.sat F W
  stay h hs := ⟨hs.1, r.stay h hs.2⟩
  lt hs := r.lt hs.2
/-- A slice of the call's own: nil, or from the head of a block of its own on. -/
def vecR (e : TypeId) (size : Nat) (v : Value) (n : Nat) (xs : List Value) : Res where
  sat F W := W.ownsRow 0 e size v n xs ∧ ∀ k, F k ↔ v.ownBlock = some k
  stay := fun {F W W'} h hs => by
    refine ⟨?_, hs.2⟩
    refine ⟨hs.1.1, ?_⟩
    rcases hs.1.2 with hn | ⟨g, cap, cur, rfl, hb, hg, rest⟩
    · exact .inl hn
    · exact .inr ⟨g, cap, cur, rfl, hb, (h g ((hs.2 g).2 rfl)).trans hg, rest⟩
  lt := fun {F W} hs k hk => by
    have := (hs.2 k).1 hk
    rcases hs.1.2 with ⟨rfl, hn⟩ | ⟨g, cap, cur, rfl, hb, hg, rest⟩
    · simp [Value.ownBlock] at this
    · simp [Value.ownBlock] at this; subst this; exact (Array.getElem?_eq_some_iff.1 hg).1
section
variable {w W W' : World} {F : Nat → Prop} {L R : List Res} {r s : Res}
theorem Sts.split (h : Sts w F W (starR r s :: R)) : Sts w F W (r :: s :: R) := by
  obtain ⟨⟨G, ⟨A, B, ha, hb, hd, hf⟩, hg⟩, m⟩ := h
  exact ⟨⟨G, (Sat.append (L1 := [r, s]) ha hb hd).congr fun k => (hf k).symm, hg⟩, m⟩
theorem Sts.join (h : Sts w F W (r :: s :: R)) : Sts w F W (starR r s :: R) := by
  obtain ⟨⟨G, hs, hg⟩, m⟩ := h
  obtain ⟨A, B, ha, hb, hd, hf⟩ := Sat.parts (L1 := [r, s]) hs
  exact ⟨⟨G, ⟨A, B, ha, hb, hd, hf⟩, hg⟩, m⟩
theorem Sts.open {α : Type} {f : α → Res} (h : Sts w F W (exR f :: R)) : ∃ a, Sts w F W (f a :: R) := by
  obtain ⟨⟨G, ⟨A, B, ⟨a, ha⟩, hb, hd, hf⟩, hg⟩, m⟩ := h
  exact ⟨a, ⟨G, ⟨A, B, ha, hb, hd, hf⟩, hg⟩, m⟩
theorem Sts.close {α : Type} {f : α → Res} (a : α) (h : Sts w F W (f a :: R)) : Sts w F W (exR f :: R) := by
  obtain ⟨⟨G, ⟨A, B, ha, hb, hd, hf⟩, hg⟩, m⟩ := h
  exact ⟨⟨G, ⟨A, B, ⟨a, ha⟩, hb, hd, hf⟩, hg⟩, m⟩
theorem Sts.and {p : Prop} (h : Sts w F W (andR p r :: R)) : p ∧ Sts w F W (r :: R) := by
  obtain ⟨⟨G, ⟨A, B, ⟨hp, ha⟩, hb, hd, hf⟩, hg⟩, m⟩ := h
  exact ⟨hp, ⟨G, ⟨A, B, ha, hb, hd, hf⟩, hg⟩, m⟩
theorem Sts.with {p : Prop} (hp : p) (h : Sts w F W (r :: R)) : Sts w F W (andR p r :: R) := by
  obtain ⟨⟨G, ⟨A, B, ha, hb, hd, hf⟩, hg⟩, m⟩ := h
  exact ⟨⟨G, ⟨A, B, ⟨hp, ha⟩, hb, hd, hf⟩, hg⟩, m⟩
theorem Sts.swap2 {t : Res} (h : Sts w F W (r :: s :: t :: R)) : Sts w F W (r :: t :: s :: R) := h.perm (.cons _ (.swap ..))
/-- A new slice, nil. -/
theorem Sts.vecNil (h : Sts w F W L) (e : TypeId) (size : Nat) : Sts w F W (vecR e size (.slice none 0 0) 0 [] :: L) := by
  obtain ⟨⟨G, hs, hg⟩, m⟩ := h
  exact ⟨⟨G, ⟨fun _ => False, G, ⟨World.ownsRow_nil W 0 e size, fun k => by simp [Value.ownBlock]⟩, hs, fun _ h => h.elim, fun k => by simp⟩, hg⟩, m⟩
theorem Sts.vec {e : TypeId} {size n : Nat} {v : Value} {xs : List Value} (h : Sts w F W (vecR e size v n xs :: R)) : W.ownsRow 0 e size v n xs := let ⟨_, ha⟩ := h.at0; ha.1
/-- A whole new block is a slice of the call's own. -/
theorem Sts.vecNew (h : Sts w F W L) (c : Array Value) (e : TypeId) (size n : Nat) (hc : c.size = n * size) (hn : n ≤ maxLen) : Sts w F (W.alloc (.cells c e)) (vecR e size (.slice (some ⟨W.heap.size, 0, none⟩) n n) n c.toList :: L) := by
  refine (h.new c e).to fun A ha => ⟨⟨by simpa using hc, .inr ⟨W.heap.size, n, c, rfl, Nat.zero_le _, heap_alloc_new W _, Nat.le_refl _, hn, hc, ?_⟩⟩, fun k => ?_⟩
  · rw [List.take_of_length_le (by simp [hc])]
  · rw [ha.1 k]; simp [Value.ownBlock, eq_comm]
theorem Sts.grown {e : TypeId} {size n m : Nat} {v v' : Value} {xs ys : List Value} (h : Sts w F W (vecR e size v n xs :: R)) (ho : W'.ownsRow 0 e size v' m ys) (hg : W.grownBy W' v.ownBlock) (hf : v'.ownBlock = v.ownBlock ∨ v'.ownBlock = some W.heap.size) :
    Sts w F W' (vecR e size v' m ys :: R) :=
  h.turn fun A ha => ⟨fun k => v'.ownBlock = some k, ⟨ho, fun _ => Iff.rfl⟩, fun k hk => by
    rcases hf with e | e
    · exact .inl ((ha.2 k).2 (e ▸ hk))
    · rw [e] at hk; injection hk with hk; right; omega, hg.os, hg.tape, hg.output, hg.size, fun k hk hn => hg.block k hk fun e => hn ((ha.2 k).2 e.symm)⟩
end
section
variable {P : Program} {w W : World} {F : Nat → Prop} {R : List Res}
/-- append of cells that stand somewhere. -/
theorem wpList_append_vec {ops : Array Oper} {rest : List Oper} {o : Oper} {a : Act} {Q : Exit → Act → World → Prop} (hgd : o.guard = none) (s x : Operand) (t : TypeId)
    (ho : o.op = .call { callee := .builtin .append, args := #[s, x], argTypes := #[t, t] })
    (e : TypeId) (i : TypeInfo) (z : Value) (size bytes : Nat) (ht : P.underlying t = some (.slice e)) (hi : P.info? e = some i) (hz : i.zero = some z)
    (hsize : i.size = size) (hby : i.bytes = bytes) (hzs : z.cells.size = size) (hsz : 0 < size)
    (v : Value) (n : Nat) (xs : List Value) (hs : a.eval s = v) (T : Sts w F W (vecR e size v n xs :: R))
    (ad : Addr) (m c : Nat) (news : List Value) (hx : a.eval x = .slice (some ad) m c) (hl : news.length = m * size) (hnews : ∀ j u, news[j]? = some u → W.cell? (ad.add j) = some u) (h1 : ∀ u ∈ news, u.oneCell' = true)
    (h63 : n + m ≤ maxLen) (hbytes : (n + m) * bytes ≤ 140737488355328)
    (h : ∀ v' w', Sts w F w' (vecR e size v' (n + m) (xs ++ news) :: R) → wpList P ops Q rest (a.put o.dst v') w') :
    wpList P ops Q (o :: rest) a W :=
  wpList_append_own_at (P := P) W hgd s x t ho 0 e i z size bytes ht hi hz hsize hby hzs hsz v n xs hs T.vec ad m c news hx hl hnews h1 h63 hbytes (Nat.zero_le _)
    fun v' w' ho' hg' _ hf' => h v' w' (T.grown ho' hg' hf')
end
end Go.Proofs.Ytnjgjhjilolanaa
/- Structs as rows of cells: parts, fields, equality, building; rows of structs, one behind the other. Nothing of the program stands here. -/
namespace Go.Proofs.Ytnjgjhjilolanaa
open Go.RowKit
set_option linter.unusedVariables false
section
open Classical in
/-- Whether two rows of cells are the same. -/
noncomputable def eqA (X Y : Array Value) : Bool := decide (X = Y)
theorem eqA_iff {X Y : Array Value} : eqA X Y = true ↔ X = Y := by unfold eqA; simp
theorem eqA_no {X Y : Array Value} : eqA X Y = false ↔ X ≠ Y := by unfold eqA; simp
theorem eqA_refl (X : Array Value) : eqA X X = true := eqA_iff.2 rfl
theorem eqA_of {X Y : Array Value} {b : Bool} (h : b = true ↔ X = Y) : b = eqA X Y := by
  cases hb : b
  · cases he : eqA X Y
    · rfl
    · have := h.2 (eqA_iff.1 he); rw [hb] at this; cases this
  · rw [eqA_iff.2 (h.1 hb)]
end
theorem toList_inj_iff {a b : ByteArray} : a.toList = b.toList ↔ a = b := by
  constructor
  · intro h
    rw [ByteArray.toList_eq, ByteArray.toList_eq] at h
    obtain ⟨⟨x⟩⟩ := a
    obtain ⟨⟨y⟩⟩ := b
    simp at h; subst h; rfl
  · rintro rfl; rfl
section
variable {P : Program} {T : TypeId} {n : Nat} {d : TypeDesc}
theorem part_row (hu : P.underlying T = some d) (hd : d.isRow = true) (hi : (P.info? T).map (·.size) = some n) (X : Array Value) (o : Nat) (w : World) : (part T X o).run P w = .ok (.agg (piece X o n)) w := by
  cases hq : P.info? T with
  | none => simp [hq] at hi
  | some f =>
    have hs : f.size = n := by simpa [hq] using hi
    have ha : (isAgg T).run P w = .ok true w := by
      unfold isAgg
      simp only [Sem.run_bind, run_underlying hu, Result.andThen_ok]
      cases d <;> first | rfl | (cases hd; done)
    simp [part, sizeOf, typeInfo, hq, hs, ha, piece]
theorem part_cell (hu : P.underlying T = some d) (hd : d.isRow = false) (hi : (P.info? T).map (·.size) = some 1) {X : Array Value} {o : Nat} {v : Value} (h : X[o]? = some v) (w : World) : (part T X o).run P w = .ok v w := by
  cases hq : P.info? T with
  | none => simp [hq] at hi
  | some f =>
    have hs : f.size = 1 := by simpa [hq] using hi
    have ha : (isAgg T).run P w = .ok false w := by
      unfold isAgg
      simp only [Sem.run_bind, run_underlying hu, Result.andThen_ok]
      cases d <;> first | rfl | (cases hd; done)
    simp [part, sizeOf, typeInfo, hq, hs, ha, h]
theorem eqFields_run {P : Program} {d : Nat} {xs ys : Array Value} : ∀ {fs : List Field} {L : List (TypeId × Nat × Bool)}, fs.map (fun f => (f.name != "_", f.type, f.offset)) = L.map (fun x => (true, x.1, x.2.1)) →
    (∀ x ∈ L, ∃ a b, (∀ w, (part x.1 xs x.2.1).run P w = .ok a w) ∧ (∀ w, (part x.1 ys x.2.1).run P w = .ok b w) ∧ ∀ w, (Op.equalIn d x.1 a b).run P w = .ok x.2.2 w) →
    ∀ w, (Op.eqFields d xs ys fs).run P w = .ok (L.all (·.2.2)) w
  | [], L, hm, h, w => by
    cases L with
    | nil => simp [Op.eqFields]
    | cons x L => simp at hm
  | f :: fs, L, hm, h, w => by
    cases L with
    | nil => simp at hm
    | cons x L =>
      simp only [List.map_cons, List.cons.injEq, Prod.mk.injEq] at hm
      obtain ⟨⟨h1, h2, h3⟩, h4⟩ := hm
      obtain ⟨a, b, ha, hb, he⟩ := h x (by simp)
      have hn : f.name ≠ "_" := by simpa using h1
      have ih := eqFields_run (P := P) (d := d) (xs := xs) (ys := ys) h4 (fun y hy => h y (by simp [hy])) w
      simp only [Op.eqFields, if_pos hn, Sem.run_bind, h2, h3, ha, hb, he, Result.andThen_ok, Sem.run_ite, List.all_cons]
      cases x.2.2
      · simp
      · simp [ih]
theorem eq_struct {d : Nat} {t : TypeId} {xs ys : Array Value} {L : List (TypeId × Nat × Bool)} {b : Bool} (ht : P.underlying t = some (.struct (P.fieldsOf t))) (hp : P.stoodInHeld t = false)
    (hm : (P.fieldsOf t).toList.map (fun f => (f.name != "_", f.type, f.offset)) = L.map (fun x => (true, x.1, x.2.1)))
    (h : ∀ x ∈ L, ∃ a b, (∀ w, (part x.1 xs x.2.1).run P w = .ok a w) ∧ (∀ w, (part x.1 ys x.2.1).run P w = .ok b w) ∧ ∀ w, (Op.equalIn d x.1 a b).run P w = .ok x.2.2 w) (hb : L.all (·.2.2) = b) (w : World) :
    (Op.equalIn (d + 1) t (.agg xs) (.agg ys)).run P w = .ok b w := by
  rw [run_equalIn_struct w d t xs ys ht hp, eqFields_run hm h, hb]
theorem eql_of {t : TypeId} {X Y : Array Value} {b : Bool} (h : ∀ w, (Op.equalIn 10000 t (.agg X) (.agg Y)).run P w = .ok b w) (w : World) : (binOp .eql t (.agg X) (.agg Y)).run P w = .ok (.bool b) w := by
  rw [run_eql_struct, h]; rfl
theorem neq_of {t : TypeId} {X Y : Array Value} {b : Bool} (h : ∀ w, (Op.equalIn 10000 t (.agg X) (.agg Y)).run P w = .ok b w) (w : World) : (binOp .neq t (.agg X) (.agg Y)).run P w = .ok (.bool (!b)) w := by
  rw [run_neq_struct, h]; rfl
end
/-! a field of a value -/
def fieldSem (T : TypeId) (x : Value) (i : Nat) : Sem Value := Instr.field T x i
theorem field_of {P : Program} {T : TypeId} {X : Array Value} {i : Nat} {t : TypeId} {o : Nat} {v : Value} (hT : P.underlying T = some (.struct (P.fieldsOf T))) (hf : (P.fieldsOf T)[i]?.map (fun f => (f.type, f.offset)) = some (t, o))
    (hp : ∀ w, (part t X o).run P w = .ok v w) (w : World) : (fieldSem T (.agg X) i).run P w = .ok v w := by
  cases hq : (P.fieldsOf T)[i]? with
  | none => rw [hq] at hf; simp at hf
  | some f =>
    rw [hq] at hf
    simp only [Option.map_some, Option.some.injEq, Prod.mk.injEq] at hf
    unfold fieldSem Instr.field
    simp only [Sem.run_bind, run_underlying hT, Result.andThen_ok, hq, hf.1, hf.2]
    show ((asAgg (.agg X)).run P w).andThen _ = _
    have : (asAgg (.agg X)).run P w = .ok X w := rfl
    rw [this]
    exact hp w
/-! a value built of parts -/
def buildS (T : TypeId) (parts : Array (Nat × Value)) : Sem Value := Instr.build T parts
def buildSlow (P : Program) (T : TypeId) (parts : Array (Nat × Value)) (w : World) : Result Value := (buildS T parts).run P w
def fillS (pl : Nat → Option (Nat × Nat)) (Z : Array Value) (l : List (Nat × Value)) : Option (Array Value) := Instr.fill pl Z l
def buildRes (P : Program) (T : TypeId) (parts : Array (Nat × Value)) (w : World) : Option (Array Value) → Result Value
  | some X => .ok (.agg X) w
  | none => buildSlow P T parts w
theorem buildRes_some (P : Program) (T : TypeId) (parts : Array (Nat × Value)) (w : World) (X : Array Value) : buildRes P T parts w (some X) = .ok (.agg X) w := rfl
def buildOf (P : Program) (T : TypeId) (pl : Nat → Option (Nat × Nat)) (Z : Array Value) (parts : Array (Nat × Value)) (w : World) : Result Value := buildRes P T parts w (fillS pl Z parts.toList)
theorem build_struct {P : Program} {T : TypeId} {Z : Array Value} {PL : Array (Nat × Nat)} (hT : P.underlying T = some (.struct (P.fieldsOf T))) (hz : (P.info? T).map (·.zero) = some (some (.agg Z)))
    (hpl : ∀ w, ((P.fieldsOf T).mapM fun f => (do pure (f.offset, ← sizeOf f.type) : Sem (Nat × Nat))).run P w = .ok PL w) (w : World) (parts : Array (Nat × Value)) :
    (buildS T parts).run P w = buildOf P T (fun i => PL[i]?) Z parts w := by
  unfold buildOf fillS
  cases hf : Instr.fill (fun i => PL[i]?) Z parts.toList with
  | none => rfl
  | some X =>
    cases hq : P.info? T with
    | none => simp [hq] at hz
    | some f =>
      have hzz : (zeroValue T).run P w = .ok (.agg Z) w := by
        have : f.zero = some (.agg Z) := by simpa [hq] using hz
        simp [zeroValue, typeInfo, hq, this]
      unfold buildS Instr.build
      simp only [Sem.run_bind, hzz, Result.andThen_ok, run_underlying hT, hpl, Value.cells, hf]
      rfl
def cellSet (w : World) (n i : Nat) (X : Array Value) : Option Value := (w.setRow n X).cell? ⟨n, i, none⟩
def frozenSet (w : World) (n i : Nat) (X : Array Value) : Bool := (w.setRow n X).frozen? ⟨n, i, none⟩
theorem cell_setRow (w : World) (n m i : Nat) (X : Array Value) : (w.setRow n X).cell? ⟨m, i, none⟩ = if n = m then cellSet w n i X else w.cell? ⟨m, i, none⟩ := by
  split
  · rename_i h; subst h; rfl
  · exact World.cell?_of_block (w := w) (setRow_other w n m X (fun e => absurd e.symm ‹_›))
theorem frozen_setRow (w : World) (n m i : Nat) (X : Array Value) : (w.setRow n X).frozen? ⟨m, i, none⟩ = if n = m then frozenSet w n i X else w.frozen? ⟨m, i, none⟩ := by
  split
  · rename_i h; subst h; rfl
  · exact World.frozen?_of_block (w := w) (setRow_other w n m X (fun e => absurd e.symm ‹_›))
/-! rows of structs -/
def flatV {α : Type} (V : α → Array Value) : List α → Array Value
  | [] => #[]
  | a :: l => V a ++ flatV V l
section
variable {α : Type} {V : α → Array Value} {n : Nat} (hV : ∀ a, (V a).size = n)
include hV
theorem flatV_size : ∀ l : List α, (flatV V l).size = l.length * n
  | [] => by simp [flatV]
  | a :: l => by rw [flatV, Array.size_append, hV, flatV_size l, List.length_cons, Nat.succ_mul]; omega
theorem flatV_get : ∀ (l : List α) (k : Nat) (hk : k < l.length) (j : Nat), j < n → (flatV V l)[k * n + j]? = (V l[k])[j]?
  | a :: l, 0, hk, j, hj => by
    rw [flatV, Array.getElem?_append, if_pos (by rw [hV]; omega)]
    simp
  | a :: l, k + 1, hk, j, hj => by
    rw [flatV, Array.getElem?_append, if_neg (by rw [hV, Nat.succ_mul]; omega), hV]
    have e : (k + 1) * n + j - n = k * n + j := by rw [Nat.succ_mul]; omega
    rw [e, flatV_get l k (by simpa using hk) j hj]
    simp
end
theorem flatV_append {α : Type} (V : α → Array Value) : ∀ (l m : List α), flatV V (l ++ m) = flatV V l ++ flatV V m
  | [], m => by simp [flatV]
  | a :: l, m => by rw [List.cons_append, flatV, flatV, flatV_append V l m, Array.append_assoc]
theorem flatV_one {α : Type} (V : α → Array Value) (a : α) : flatV V [a] = V a := by simp [flatV]
end Go.Proofs.Ytnjgjhjilolanaa
/- Item as a value, as cells: its parts, equality, loads, stores, building. Printed by types.py. -/
namespace Go.Proofs.Ytnjgjhjilolanaa
open Go.RowKit
set_option linter.unusedVariables false
structure Item where
  rep : Int
  num : Int
def IV (x : Item) : Array Value := #[.int .i64 x.rep, .int .i64 x.num]
def noItem : Item := ⟨0, 0⟩
section
variable (x y : Item)
theorem TItem_size : (IV x).size = 2 := rfl
theorem TItem_one : allOne (IV x) = true := by simp [allOne, IV, Value.oneCell']
theorem TItem_piece : piece (IV x) 0 2 = IV x := piece_all _ _ rfl
theorem TItem_c0 : (IV x)[0]? = some (.int .i64 x.rep) := rfl
theorem TItem_c1 : (IV x)[1]? = some (.int .i64 x.num) := rfl
theorem TItem_set_rep (v : Int) : (IV x).setIfInBounds 0 (.int .i64 v) = IV { x with rep := v } := rfl
theorem TItem_set_num (v : Int) : (IV x).setIfInBounds 1 (.int .i64 v) = IV { x with num := v } := rfl
theorem TItem_cat : IV x = #[.int .i64 x.rep] ++ #[.int .i64 x.num] := by kernel_rfl
theorem TItem_ext : IV x = IV y ↔ x.rep = y.rep ∧ x.num = y.num := by
  constructor
  · intro h
    refine ⟨?_, ?_⟩
    · have := congrArg (·[0]?) h; simpa [TItem_c0, TItem_size] using this
    · have := congrArg (·[1]?) h; simpa [TItem_c1, TItem_size] using this
  · rintro ⟨h0, h1⟩
    rw [TItem_cat x, TItem_cat y, h0, h1]
end
theorem TItem_und : Try.prog.underlying 35 = some (.struct (Try.prog.fieldsOf 35)) := by kernel_rfl
theorem TItem_eq (d : Nat) (x y : Item) (w : World) : (Op.equalIn (d + 2) 35 (.agg (IV x)) (.agg (IV y))).run Try.prog w = .ok (eqA (IV x) (IV y)) w := by
  refine eq_struct (d := d + 1) (L := [(3, 0, x.rep == y.rep), (3, 1, x.num == y.num)]) TItem_und (by kernel_rfl) (by kernel_rfl) ?_ ?_ w
  · simp only [List.forall_mem_cons]
    exact ⟨⟨_, _, part_cell Try.underlying3 rfl (by kernel_rfl) (TItem_c0 x), part_cell Try.underlying3 rfl (by kernel_rfl) (TItem_c0 y), fun w => run_equalIn_int w (d + 0) _ _ _ _ _ Try.underlying3⟩, ⟨_, _, part_cell Try.underlying3 rfl (by kernel_rfl) (TItem_c1 x), part_cell Try.underlying3 rfl (by kernel_rfl) (TItem_c1 y), fun w => run_equalIn_int w (d + 0) _ _ _ _ _ Try.underlying3⟩, by simp⟩
  · refine eqA_of ?_
    rw [TItem_ext]
    simp
theorem TItem_eql (x y : Item) (w : World) : (binOp .eql 35 (.agg (IV x)) (.agg (IV y))).run Try.prog w = .ok (.bool (eqA (IV x) (IV y))) w := eql_of (TItem_eq 9998 x y) w
theorem TItem_neq (x y : Item) (w : World) : (binOp .neq 35 (.agg (IV x)) (.agg (IV y))).run Try.prog w = .ok (.bool (!eqA (IV x) (IV y))) w := neq_of (TItem_eq 9998 x y) w
theorem TItem_ld0 (v : Value) : Instr.loadAt 35 v = loadSem 35 v := rfl
theorem TItem_st0 (v u : Value) : Instr.storeAt 35 v u = storeSem 35 v u := rfl
theorem TItem_fd0 (x : Value) (i : Nat) : Instr.field 35 x i = fieldSem 35 x i := rfl
theorem TItem_bd0 (p : Array (Nat × Value)) : Instr.build 35 p = buildS 35 p := rfl
theorem TItem_ld (w : World) (v : Value) : (loadSem 35 v).run Try.prog w = loadVal Try.prog 35 2 w v := load_val TItem_und rfl (by kernel_rfl) w v
theorem TItem_st (w : World) (v u : Value) : (storeSem 35 v u).run Try.prog w = storeVal Try.prog 35 2 w v u := store_val (by kernel_rfl) w v u
theorem TItem_f_rep (x : Item) (w : World) : (fieldSem 35 (.agg (IV x)) 0).run Try.prog w = .ok (.int .i64 x.rep) w := field_of TItem_und (by kernel_rfl) (part_cell Try.underlying3 rfl (by kernel_rfl) (TItem_c0 x)) w
theorem TItem_f_num (x : Item) (w : World) : (fieldSem 35 (.agg (IV x)) 1).run Try.prog w = .ok (.int .i64 x.num) w := field_of TItem_und (by kernel_rfl) (part_cell Try.underlying3 rfl (by kernel_rfl) (TItem_c1 x)) w
def TItem_pl : Nat → Option (Nat × Nat) := fun i => (#[(0, 1), (1, 1)] : Array (Nat × Nat))[i]?
theorem TItem_bd (w : World) (p : Array (Nat × Value)) : (buildS 35 p).run Try.prog w = buildOf Try.prog 35 TItem_pl (IV noItem) p w := build_struct TItem_und (by kernel_rfl) (fun w => by kernel_rfl) w p
theorem TItem_fl (X : Array Value) : fillS TItem_pl X [] = some X := rfl
theorem TItem_fl_rep (x : Item) (v : Int) (r : List (Nat × Value)) : fillS TItem_pl (IV x) ((0, .int .i64 v) :: r) = fillS TItem_pl (IV { x with rep := v }) r := rfl
theorem TItem_fl_num (x : Item) (v : Int) (r : List (Nat × Value)) : fillS TItem_pl (IV x) ((1, .int .i64 v) :: r) = fillS TItem_pl (IV { x with num := v }) r := rfl
end Go.Proofs.Ytnjgjhjilolanaa
/- Layer 5, first part: a row of numbers, an item, as values; With and Has, and the document's Has: what each call answers. -/
namespace Go.Proofs.Ytnjgjhjilolanaa
open Go.RowKit
/-- a row as a value -/
def DV (d : Nat → Int) : Array Value := #[.int .i64 (d 0), .int .i64 (d 1), .int .i64 (d 2), .int .i64 (d 3), .int .i64 (d 4), .int .i64 (d 5), .int .i64 (d 6)]
theorem DV_size (d : Nat → Int) : (DV d).size = 7 := rfl
theorem DV_piece (d : Nat → Int) : piece (DV d) 0 7 = DV d := piece_all _ _ rfl
theorem DV_one (d : Nat → Int) : allOne (DV d) = true := by simp [allOne, DV, Value.oneCell']
theorem DV_get (d : Nat → Int) (i : Nat) (h : i < 7) : (DV d)[i]? = some (.int .i64 (d i)) := by
  match i, h with
  | 0, _ => rfl
  | 1, _ => rfl
  | 2, _ => rfl
  | 3, _ => rfl
  | 4, _ => rfl
  | 5, _ => rfl
  | 6, _ => rfl
theorem DV_congr {d e : Nat → Int} (h : ∀ i, i < 7 → d i = e i) : DV d = DV e := by
  simp only [DV, h 0 (by omega), h 1 (by omega), h 2 (by omega), h 3 (by omega), h 4 (by omega), h 5 (by omega), h 6 (by omega)]
theorem DV_inj {d e : Nat → Int} (h : DV d = DV e) : ∀ i, i < 7 → d i = e i := fun i hi => by
  have := congrArg (·[i]?) h
  simp only [DV_get _ i hi, Option.some.injEq, Value.int.injEq, true_and] at this
  exact this
theorem load_deps0 (v : Value) : Instr.loadAt 45 v = loadSem 45 v := rfl
theorem store_deps0 (v u : Value) : Instr.storeAt 45 v u = storeSem 45 v u := rfl
theorem load_deps (w : World) (v : Value) : (loadSem 45 v).run Try.prog w = loadVal Try.prog 45 7 w v :=
  load_val Try.underlying45 rfl (by kernel_rfl) w v
theorem store_deps (w : World) (v u : Value) : (storeSem 45 v u).run Try.prog w = storeVal Try.prog 45 7 w v u :=
  store_val (by kernel_rfl) w v u
theorem index_deps0 (x i : Value) : Instr.index 45 x i = indexSem 45 x i := rfl
theorem index_deps (w : World) (d : Nat → Int) (i : Int) : (indexSem 45 (.agg (DV d)) (.int .i64 i)).run Try.prog w = if 0 ≤ i ∧ i < 7 then .ok (.int .i64 (d i.toNat)) w else indexSlow Try.prog 45 (DV d) i w := by
  split
  · rename_i h
    exact index_row Try.underlying45 Try.underlying3 rfl (by kernel_rfl) w (DV d) i _ h.1 h.2 (DV_get d _ (by omega))
  · rfl
end Go.Proofs.Ytnjgjhjilolanaa
/- A row of numbers as a value: equality, loads, stores, building. -/
namespace Go.Proofs.Ytnjgjhjilolanaa
open Go.RowKit
set_option linter.unusedVariables false
set_option maxRecDepth 20000
theorem TDeps_ext (x y : Nat → Int) : DV x = DV y ↔ ∀ i, i < 7 → x i = y i := ⟨DV_inj, DV_congr⟩
theorem TDeps_eq (d : Nat) (a b : Nat → Int) (w : World) : (Op.equalIn (d + 2) 45 (.agg (DV a)) (.agg (DV b))).run Try.prog w = .ok (eqA (DV a) (DV b)) w := by
  obtain ⟨i, hi, hz⟩ : ∃ i, Try.prog.info? 3 = some i ∧ i.size = 1 := by
    have h : (Try.prog.info? 3).map (·.size) = some 1 := by kernel_rfl
    cases hq : Try.prog.info? 3 with
    | none => rw [hq] at h; cases h
    | some i => rw [hq] at h; exact ⟨i, rfl, by simpa using h⟩
  have hC : Try.prog.cellsOf 3 = 1 := by kernel_rfl
  rw [run_equalIn_array w (d + 1) (DV a) (DV b) Try.underlying45 hi, hC]
  have key : ∀ is : List Nat, (∀ i ∈ is, i < 7) → (Op.eqItems (d + 1) 3 1 (DV a) (DV b) is).run Try.prog w = .ok (is.all fun i => a i == b i) w := by
    intro is
    induction is with
    | nil => intro _; rfl
    | cons i is ih =>
      intro h
      have hi7 := h i (by simp)
      have ha : (isAgg 3).run Try.prog w = .ok false w := by
        unfold isAgg
        simp only [Sem.run_bind, run_underlying Try.underlying3, Result.andThen_ok]
        rfl
      have p1 : ∀ d : Nat → Int, (part 3 (DV d) (i * 1)).run Try.prog w = .ok (.int .i64 (d i)) w := fun d => by
        simp [part, ha, DV_get d i hi7]
      have e1 : (Op.equalIn (d + 1) 3 (.int .i64 (a i)) (.int .i64 (b i))).run Try.prog w = .ok (a i == b i) w := run_equalIn_int w d _ .i64 .i64 _ _ Try.underlying3
      simp only [Op.eqItems, Sem.run_bind, p1, e1, Result.andThen_ok, List.all_cons]
      cases hb : (a i == b i)
      · simp
      · simp only [Bool.not_true, Bool.false_eq_true, if_false, Bool.true_and]
        exact ih fun j hj => h j (by simp [hj])
  rw [key _ (fun i hi => by simpa using hi)]
  congr 1
  refine eqA_of ?_
  rw [TDeps_ext]
  simp [List.all_eq_true]
theorem TDeps_eql (x y : Nat → Int) (w : World) : (binOp .eql 45 (.agg (DV x)) (.agg (DV y))).run Try.prog w = .ok (.bool (eqA (DV x) (DV y))) w := eql_of (TDeps_eq 9998 x y) w
theorem TDeps_neq (x y : Nat → Int) (w : World) : (binOp .neq 45 (.agg (DV x)) (.agg (DV y))).run Try.prog w = .ok (.bool (!eqA (DV x) (DV y))) w := neq_of (TDeps_eq 9998 x y) w
end Go.Proofs.Ytnjgjhjilolanaa
/- Layer 4: a deed as a value; its fields. -/
namespace Go.Proofs.Ytnjgjhjilolanaa
open Go.RowKit
structure Deed where
  kind : Int
  key : ByteArray
  val : ByteArray
  ver : Int
  ses : Int
  num : Int
/-- a deed as a value -/
def EV (d : Deed) : Array Value := #[.int .i64 d.kind, .string d.key, .string d.val, .int .i64 d.ver, .int .i64 d.ses, .int .i64 d.num]
section
variable (d : Deed)
theorem EV_size : (EV d).size = 6 := rfl
theorem EV_piece : piece (EV d) 0 6 = EV d := piece_all _ _ rfl
theorem EV_one : allOne (EV d) = true := by simp [allOne, EV, Value.oneCell']
theorem EV_0 : (EV d)[0]? = some (.int .i64 d.kind) := rfl
theorem EV_1 : (EV d)[1]? = some (.string d.key) := rfl
theorem EV_2 : (EV d)[2]? = some (.string d.val) := rfl
theorem EV_3 : (EV d)[3]? = some (.int .i64 d.ver) := rfl
theorem EV_4 : (EV d)[4]? = some (.int .i64 d.ses) := rfl
theorem EV_5 : (EV d)[5]? = some (.int .i64 d.num) := rfl
end
theorem load_deed0 (v : Value) : Instr.loadAt 43 v = loadSem 43 v := rfl
theorem store_deed0 (v u : Value) : Instr.storeAt 43 v u = storeSem 43 v u := rfl
theorem load_deed (w : World) (v : Value) : (loadSem 43 v).run Try.prog w = loadVal Try.prog 43 6 w v :=
  load_val Try.underlying43 rfl (by kernel_rfl) w v
theorem store_deed (w : World) (v u : Value) : (storeSem 43 v u).run Try.prog w = storeVal Try.prog 43 6 w v u :=
  store_val (by kernel_rfl) w v u
end Go.Proofs.Ytnjgjhjilolanaa

namespace Go.Proofs.Ytnjgjhjilolanaa
open Go.RowKit
attribute [local go_sem] row_alloc row_drew row_drewN row_ext row_setCell row_setRow size_ext setRow_alloc setRow_drew loadOf storeOf piece_lit loadVal_at storeVal_at allOne_lit EV_size EV_one EV_piece EV_0 EV_1 EV_2 EV_3 EV_4 EV_5
attribute [local go_sem high] cell_alloc frozen_alloc setCell_alloc cell_ext frozen_ext
attribute [local go_sem ↓] load_deed0 store_deed0
attribute [local go_sem] load_deed store_deed
def Kinds (d : Deed) : Prop := (d.kind = 0 ∧ d.val.size = 0 ∧ d.ver = 0 ∧ d.key.size = 0 ∧ d.ses = 0) ∨ ((d.kind = 1 ∨ d.kind = 4) ∧ d.val.size = 0 ∧ d.ver = 0 ∧ ¬ d.key.size = 0) ∨
  (d.kind = 2 ∧ ¬ d.key.size = 0 ∧ d.ver = 0) ∨ (d.kind = 3 ∧ ¬ d.key.size = 0) ∨ (d.kind = 5 ∧ d.val.size = 0 ∧ d.ver = 0)
instance (d : Deed) : Decidable (Kinds d) := by unfold Kinds; exact inferInstance
end Go.Proofs.Ytnjgjhjilolanaa

namespace Go.Proofs.Ytnjgjhjilolanaa
open Go.RowKit
attribute [local go_sem] row_alloc row_drew row_drewN row_ext row_setCell row_setRow size_ext setRow_alloc setRow_drew loadOf storeOf piece_lit loadVal_at storeVal_at allOne_lit EV_size EV_one EV_piece EV_0 EV_1 EV_2 EV_3 EV_4 EV_5
attribute [local go_sem high] cell_alloc frozen_alloc setCell_alloc cell_ext frozen_ext
attribute [local go_sem ↓] load_deed0 store_deed0
attribute [local go_sem] load_deed store_deed

def noDeed : Deed := ⟨0, ByteArray.empty, ByteArray.empty, 0, 0, 0⟩
def eqE (a b : Deed) : Bool := decide (a.kind = b.kind ∧ a.key.toList = b.key.toList ∧ a.val.toList = b.val.toList ∧ a.ver = b.ver ∧ a.ses = b.ses ∧ a.num = b.num)
theorem run_eql_deed (w : World) (a b : Deed) : (binOp .eql 43 (.agg (EV a)) (.agg (EV b))).run Try.prog w = .ok (.bool (eqE a b)) w := by
  rw [run_eql_struct]
  unfold EV eqE
  simp [go_sem]
  repeat' split
  all_goals simp_all
theorem zero_deed : #[Value.int .i64 0, Value.string ⟨#[]⟩, Value.string ⟨#[]⟩, Value.int .i64 0, Value.int .i64 0, Value.int .i64 0] = EV noDeed := rfl
attribute [local go_sem high] run_eql_deed
attribute [local go_sem] zero_deed
end Go.Proofs.Ytnjgjhjilolanaa
