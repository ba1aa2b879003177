/- Several texts in one. -/
import Derived.Test.YtfgacjglfdehbaaGreatDoorZ3
import Derived.RangeFuncNested
import Derived.RangeFuncBound
import Derived.RangeFuncCalls
import Derived.RangeFuncLeaves
import Derived.Shelf.Abstract
import Derived.Shelf.RegionOpen
import Derived.OwnWalkIn
import Derived.TacticsInMore
import Derived.LoopNIn
import Derived.LoopIn
import Derived.Test.YtfgacjglfdehbaaGreatDoorZ6
import Derived.Test.YtfgacjglfdehbaaGreatDoorZ7
/- Loops over iterators: what lies in memory abides the loop's own records. Nothing of the program stands here. -/
namespace Go.Proofs.YtfgacjglfdehbaaGreatDoor
open Go.RowKit Go.Shelf
set_option linter.unusedVariables false
/-- All blocks of a thing are cells. -/
def Res.plain (r : Res) : Prop := ∀ {F : Nat → Prop} {W : World}, r.sat F W → ∀ k, F k → ∃ o, W.heap[k]? = some o ∧ o.isCells = true
def plainL (L : List Res) : Prop := ∀ r ∈ L, r.plain
theorem rowR_plain (g : Nat) (X : Array Value) : (rowR g X).plain := fun hs k hk => by
  rw [(hs.1 k).1 hk]
  obtain ⟨t, ht⟩ := row_some hs.2
  exact ⟨_, ht, rfl⟩
theorem vecR_plain (e : TypeId) (size : Nat) (v : Value) (n : Nat) (xs : List Value) : (vecR e size v n xs).plain := fun hs k hk => by
  have := (hs.2 k).1 hk
  rcases hs.1.2 with ⟨rfl, hn⟩ | ⟨g, cap, cur, rfl, hb, hg, rest⟩
  · simp [Value.ownBlock] at this
  · simp [Value.ownBlock] at this; subst this; exact ⟨_, hg, rfl⟩
theorem Sat.plain : ∀ {L : List Res}, plainL L → ∀ {F : Nat → Prop} {W : World}, Sat W L F → ∀ k, F k → ∃ o, W.heap[k]? = some o ∧ o.isCells = true
  | [], _, _, _, h, k, hk => (h k hk).elim
  | r :: L, hp, F, W, ⟨A, B, ha, hb, hd, hf⟩, k, hk => by
    rcases (hf k).1 hk with h | h
    · exact hp r (by simp) ha k h
    · exact Sat.plain (fun s hs => hp s (by simp [hs])) hb k h
section
variable {w W W' : World} {F G : Nat → Prop} {L R L' : List Res} {r s t u : Res}
theorem Sts.grown' (h : Sts w F W L) (hp : plainL L) {row : Option Nat} (hg : W.grownBy W' row) (hr : ∀ r, row = some r → w.heap.size ≤ r ∧ ∃ o : Obj, W.heap[r]? = some o ∧ o.isCells = false) : Sts w F W' L := by
  obtain ⟨⟨G, hs, hG⟩, m⟩ := h
  have hpl := hs.plain hp
  refine ⟨⟨G, hs.stay fun k hk => hg.block k (hs.lt k hk) fun e => ?_, hG⟩, hg.os.trans m.os, hg.tape.trans m.tape, hg.output.trans m.output, Nat.le_trans m.size hg.size, fun k hk hn => (hg.block k (Nat.lt_of_lt_of_le hk m.size) fun e => ?_).trans (m.block k hk hn)⟩
  · obtain ⟨_, o, ho, hc⟩ := hr k e.symm
    obtain ⟨o', ho', hc'⟩ := hpl k hk
    rw [ho] at ho'; injection ho' with e2; subst e2; rw [hc] at hc'; cases hc'
  · have := (hr k e.symm).1; omega
/-- What a loop's round knows of memory abides the loop's records. -/
theorem Sts.own {β : Type} (w : World) (F : Nat → Prop) {B : Nat} (L : β → List Res) (hp : ∀ s, plainL (L s)) (hB : w.heap.size ≤ B) : OwnFrom B (fun s W => Sts w F W (L s)) := fun s W W' row hs hg hr =>
  hs.grown' (hp s) hg fun r e => ⟨Nat.le_trans hB (hr r e).1, (hr r e).2⟩
/-- What a round leaves. -/
theorem Sts.keepsFrom (hs : Sat W L G) (hp : plainL L) (h : Sts W G W' L') (B : Nat) : KeepsFrom B W W' :=
  ⟨h.2.size, fun k o _ hk ho => by
    have hlt : k < W.heap.size := (Array.getElem?_eq_some_iff.1 hk).1
    rw [h.2.block k hlt fun hg => ?_]
    · exact hk
    · obtain ⟨o', ho', hc'⟩ := hs.plain hp k hg
      rw [hk] at ho'; injection ho' with e; subst e; rw [ho] at hc'; cases hc'⟩
theorem Sts.below_putObj {l : Nat} {o : Obj} (h : Sts w F W L) (hp : plainL L) (o' : Obj) (hl : w.heap.size ≤ l) (ho : W.heap[l]? = some o) (hc : o.isCells = false) : Sts w F (W.putObj l o') L :=
  h.grown' hp (grownBy_putObj' W l o') fun r e => by cases e; exact ⟨hl, o, ho, hc⟩
end
section
variable {n : Nat} {P : Program} {fn : Func} {R : Ending → World → Prop} {a : Act} {w : World} {v : Value}
/-- A return ahead of every loop over an iterator. -/
theorem retM0 (hr : (results fn a.tmps).run P w = .ok v w) (hR : R (.returned v) w) (hd : a.defers = []) : bodyPostM Fence.wide n P fn R .ret a w := by
  show LeavesInM _ _ _ _ _ _ a.defers _ _
  rw [hd]
  exact ⟨v, hr, hR⟩
/-- A return behind one. -/
theorem retM1 {D : Nat} {ar : Array Value} (hK : w.heap[D]? = some (.deferred (some []))) (hr : (results fn a.tmps).run P (w.putObj D (.deferred none)) = .ok v (w.putObj D (.deferred none))) (hR : R (.returned v) (w.putObj D (.deferred none))) (hd : a.defers = [{ target := .collected D, args := ar }]) : bodyPostM Fence.wide n P fn R .ret a w := by
  show LeavesInM _ _ _ _ _ _ a.defers _ _
  rw [hd]
  exact ⟨by simp, .inl ⟨_, _, rfl, run_takeDeferred hK, v, hr, hR⟩⟩
end
section
variable {w W W' : World} {F G : Nat → Prop} {L R L' : List Res} {r s t u : Res}
theorem Sts.put {D : Nat} {ds : Option (List Deferred)} (h : Sts w F W L) (hp : plainL L) (hD : w.heap.size ≤ D) (hK : W.heap[D]? = some (.deferred ds)) (o : Obj) : Sts w F (W.putObj D o) L := h.below_putObj hp o hD hK rfl
/-- A round's own part. -/
theorem Sts.round (h : Sts w F W L) (hp : plainL L) : ∃ G, Sts W G W L ∧ ∀ {W' L'}, Sts W G W' L' → Sts w F W' L' ∧ ∀ B, KeepsFrom B W W' := by
  obtain ⟨G, hG, k⟩ := Sts.call (L := L) (R := []) (by simpa using h)
  exact ⟨G, Sts.start hG, fun {W' L'} hS => ⟨by simpa using k hS, fun B => Sts.keepsFrom hG hp hS B⟩⟩
end
end Go.Proofs.YtfgacjglfdehbaaGreatDoor
/- Loops over iterators, over things in memory: an iterator gives a row of elements, one by one; the loop's law. Nothing of the program stands here. -/
namespace Go.Proofs.YtfgacjglfdehbaaGreatDoor
open Go.RowKit Go.Shelf
set_option linter.unusedVariables false
/-- A block with just this in it. -/
def objR (k : Nat) (o : Obj) : Res where
  sat F W := (∀ j, F j ↔ j = k) ∧ W.heap[k]? = some o
  stay h hs := ⟨hs.1, (h k ((hs.1 k).2 rfl)).trans hs.2⟩
  lt hs j hj := by rw [(hs.1 j).1 hj]; exact (Array.getElem?_eq_some_iff.1 hs.2).1
/-- No block of the thing, from block B on, is a map or an iterator. -/
def Res.calm (B : Nat) (r : Res) : Prop := ∀ {F : Nat → Prop} {W : World}, r.sat F W → ∀ k, F k → k < B ∨ ∃ o, W.heap[k]? = some o ∧ o.isWalk = false
def calmL (B : Nat) (L : List Res) : Prop := ∀ r ∈ L, r.calm B
theorem not_walk_of_cells {o : Obj} (h : o.isCells = true) : o.isWalk = false := by cases o <;> simp_all [Obj.isWalk, Obj.isCells]
theorem Res.plain.calm {r : Res} (h : r.plain) (B : Nat) : r.calm B := fun hs k hk => by
  obtain ⟨o, ho, hc⟩ := h hs k hk
  exact .inr ⟨o, ho, not_walk_of_cells hc⟩
theorem rowR_calm (B g : Nat) (X : Array Value) : (rowR g X).calm B := Res.plain.calm (rowR_plain g X) B
theorem vecR_calm (B : Nat) (e : TypeId) (size : Nat) (v : Value) (n : Nat) (xs : List Value) : (vecR e size v n xs).calm B := Res.plain.calm (vecR_plain e size v n xs) B
theorem calmL_nil (B : Nat) : calmL B [] := fun _ h => by simp at h
theorem calmL_cons {B : Nat} {r : Res} {L : List Res} (h : r.calm B) (hl : calmL B L) : calmL B (r :: L) := fun s hs => by
  rcases List.mem_cons.1 hs with rfl | h'
  · exact h
  · exact hl s h'
theorem objR_calm {B k : Nat} {o : Obj} (h : o.isWalk = false) : (objR k o).calm B := fun hs j hj => by
  rw [(hs.1 j).1 hj]; exact .inr ⟨o, hs.2, h⟩
theorem exR_calm {B : Nat} {α : Type} {f : α → Res} (h : ∀ a, (f a).calm B) : (exR f).calm B := fun hs k hk => let ⟨a, ha⟩ := hs; h a ha k hk
theorem andR_calm {B : Nat} {p : Prop} {r : Res} (h : r.calm B) : (andR p r).calm B := fun hs k hk => h hs.2 k hk
theorem Sat.calm {B : Nat} : ∀ {L : List Res}, calmL B L → ∀ {F : Nat → Prop} {W : World}, Sat W L F → ∀ k, F k → k < B ∨ ∃ o, W.heap[k]? = some o ∧ o.isWalk = false
  | [], _, _, _, h, k, hk => (h k hk).elim
  | r :: L, hp, F, W, ⟨A, B', ha, hb, hd, hf⟩, k, hk => by
    rcases (hf k).1 hk with h | h
    · exact hp r (by simp) ha k h
    · exact Sat.calm (fun s hs => hp s (by simp [hs])) hb k h
theorem packR_calm {B : Nat} {L : List Res} (h : calmL B L) : (packR L).calm B := fun hs k hk => Sat.calm h hs k hk
theorem starR_calm {B : Nat} {r s : Res} (hr : r.calm B) (hs : s.calm B) : (starR r s).calm B := fun h k hk => Sat.calm (calmL_cons hr (calmL_cons hs (calmL_nil B))) h k hk
/-- What never is. -/
def noR : Res := andR False (packR [])
theorem noR_calm (B : Nat) : noR.calm B := andR_calm (packR_calm (calmL_nil B))
theorem Sts.no {w W : World} {F : Nat → Prop} {R : List Res} (h : Sts w F W (noR :: R)) : False := (Sts.and h).1
section
variable {w W W' : World} {F : Nat → Prop} {L R L' : List Res} {r : Res} {k : Nat} {o o' : Obj}
theorem Sts.newObj (h : Sts w F W L) (o : Obj) : Sts w F (W.alloc o) (objR W.heap.size o :: L) := by
  obtain ⟨⟨G, hs, hg⟩, m⟩ := h.keep o
  obtain ⟨⟨G0, hs0, hg0⟩, m0⟩ := h
  have hlt := hs0.lt
  have hs1 : Sat (W.alloc o) L G0 := hs0.stay fun k hk => Below.heap_alloc _ _ _ (hlt k hk)
  refine ⟨⟨fun k => k = W.heap.size ∨ G0 k, ⟨fun k => k = W.heap.size, G0, ⟨fun _ => Iff.rfl, World.alloc_heap_new W o⟩, hs1, ?_, fun _ => Iff.rfl⟩, ?_⟩, m⟩
  · rintro k rfl h; have := hlt _ h; omega
  · rintro k (rfl | h)
    · right; exact m0.size
    · exact hg0 k h
theorem Sts.obj (h : Sts w F W (objR k o :: R)) : W.heap[k]? = some o := let ⟨_, ha⟩ := h.at0; ha.2
theorem Sts.putObj (h : Sts w F W (objR k o :: R)) (o' : Obj) : Sts w F (W.putObj k o') (objR k o' :: R) :=
  h.turn fun A ha => ⟨A, ⟨ha.1, World.putObj_heap_same (Array.getElem?_eq_some_iff.1 ha.2).1⟩, fun _ h => .inl h, rfl, rfl, rfl, by simp, fun j hj hn => World.putObj_heap_other (fun e => hn ((ha.1 j).2 e))⟩
/-- Things of which no block turns abide. -/
theorem Sts.grownCalm {B : Nat} (h : Sts w F W L) (hw : w.heap.size ≤ B) (hp : calmL B L) {row : Option Nat} (hg : W.grownBy W' row) (hr : ∀ r, row = some r → B ≤ r ∧ ∃ o : Obj, W.heap[r]? = some o ∧ o.isWalk = true) : Sts w F W' L := by
  obtain ⟨⟨G, hs, hG⟩, m⟩ := h
  have hpl := hs.calm hp
  refine ⟨⟨G, hs.stay fun k hk => hg.block k (hs.lt k hk) fun e => ?_, hG⟩, hg.os.trans m.os, hg.tape.trans m.tape, hg.output.trans m.output, Nat.le_trans m.size hg.size, fun k hk hn => (hg.block k (Nat.lt_of_lt_of_le hk m.size) fun e => ?_).trans (m.block k hk hn)⟩
  · obtain ⟨hB, o, ho, hc⟩ := hr k e.symm
    rcases hpl k hk with h | ⟨o', ho', hc'⟩
    · omega
    · rw [ho] at ho'; injection ho' with e2; subst e2; rw [hc] at hc'; cases hc'
  · have := (hr k e.symm).1; omega
theorem Sts.call2 (h : Sts w F W (L ++ R)) : ∃ G H, Sat W L G ∧ Sat W R H ∧ (∀ k, H k → ¬ G k ∧ k < W.heap.size) ∧ ∀ {W' L'}, Sts W G W' L' → Sts w F W' (L' ++ R) ∧ Sat W' R H := by
  obtain ⟨⟨H, hs, hh⟩, m⟩ := h
  obtain ⟨A, B, ha, hb, hd, hf⟩ := hs.parts
  have hbl := hb.lt
  refine ⟨A, B, ha, hb, fun k hk => ⟨fun h => hd k h hk, hbl k hk⟩, fun {W' L'} hS => ?_⟩
  obtain ⟨⟨C, hc, hcc⟩, m2⟩ := hS
  have hst : Sat W' R B := hb.stay fun k hk => m2.block k (hbl k hk) fun h => hd k h hk
  refine ⟨⟨⟨fun k => C k ∨ B k, hc.append hst ?_, ?_⟩, ?_⟩, hst⟩
  · intro k hk hbk
    rcases hcc k hk with h | h
    · exact hd k h hbk
    · have := hbl k hbk; omega
  · rintro k (hk | hk)
    · rcases hcc k hk with h | h
      · exact hh k ((hf k).2 (.inl h))
      · right; have := m.size; omega
    · exact hh k ((hf k).2 (.inr hk))
  · refine ⟨m2.os.trans m.os, m2.tape.trans m.tape, m2.output.trans m.output, Nat.le_trans m.size m2.size, fun k hk hn => ?_⟩
    refine (m2.block k (Nat.lt_of_lt_of_le hk m.size) fun ha' => ?_).trans (m.block k hk hn)
    rcases hh k ((hf k).2 (.inl ha')) with h | h
    · exact hn h
    · omega
end
/-- An iterator that gives just these elements, one by one, if what a round leaves is kept. -/
def Gives {α : Type} (P : Program) (gf : Nat) (lb : Array Value) (enc : α → Array Value) (Kp : World → World → Prop) (xs : List α) (w : World) : Prop :=
  ∀ (l : Nat) (J Jx : Nat → World → Prop) (W : World), Below w.heap.size w W → AbidesFrom W.heap.size J → AbidesFrom W.heap.size Jx →
    (∀ k x W1, xs[k]? = some x → J k W1 → YieldAt Fence.wide 2 P l (enc x) W1 fun e W' => (e = .returned (.bool true) ∧ J (k + 1) W' ∧ Kp W1 W') ∨ (e = .returned (.bool false) ∧ Jx (k + 1) W')) →
    J 0 W →
    CallsIn Fence.wide 3 P gf (#[.func (.yield l) #[] #[]] ++ lb) W fun e W' => (∃ v, e = .returned v) ∧ (J xs.length W' ∨ ∃ k, 0 < k ∧ k ≤ xs.length ∧ Jx k W')
theorem Gives.mono {α : Type} {P : Program} {gf : Nat} {lb : Array Value} {enc : α → Array Value} {Kp Kp' : World → World → Prop} {xs : List α} {w : World} (h : Gives P gf lb enc Kp xs w) (hk : ∀ A B, Kp' A B → Kp A B) : Gives P gf lb enc Kp' xs w :=
  fun l J Jx W hW hJ hJx hY h0 => h l J Jx W hW hJ hJx (fun k x W1 hx hj => (hY k x W1 hx hj).mono fun e W' hr => hr.imp (fun ⟨a, b, c⟩ => ⟨a, b, hk _ _ c⟩) id) h0
/-- An iterator that reads the first of these things. -/
theorem Gives.part {α : Type} {P : Program} {gf : Nat} {lb : Array Value} {enc : α → Array Value} {xs : List α} {W : World} {L R : List Res} (h : ∀ H, Sat W L H → Gives P gf lb enc (fun A B => ∀ k, H k → B.heap[k]? = A.heap[k]?) xs W) :
    ∀ H, Sat W (L ++ R) H → Gives P gf lb enc (fun A B => ∀ k, H k → B.heap[k]? = A.heap[k]?) xs W := fun H hS => by
  obtain ⟨A, B, ha, hb, hd, hf⟩ := hS.parts
  exact (h A ha).mono fun X Y hk j hj => hk j ((hf j).2 (.inl hj))
/-- How a round's body may be left. -/
def roundQ (own : Nat → List Res) (ownX : Code → Nat → List Res) (k : Nat) (W : World) (G : Nat → Prop) : Exit → Act → World → Prop
  | .normal, _, W' => Sts W G W' (own (k + 1))
  | .ret, _, W' => Sts W G W' (ownX .ret (k + 1))
  | .exit id, _, W' => Sts W G W' (ownX (.exit id) (k + 1))
  | .goto t, _, W' => Sts W G W' (ownX (.goto t) (k + 1))
  | .panic _, _, _ => False
  | .outgrown, _, _ => False
section
variable {P : Program} {w W : World} {F : Nat → Prop}
/-- A LOOP OVER AN ITERATOR: the things L are read (by the iterator, by the body); the things 'own' are the loop's. -/
theorem wp_rangeSts {α : Type} {g : Operand} {ps : Array Tmp} {assign body : Code} {Q : Exit → Act → World → Prop} {a : Act} {gf : Nat} {lb : Array Value} {enc : α → Array Value} {xs : List α}
    (own : Nat → List Res) (ownX : Code → Nat → List Res) (L : List Res) (Ax : Nat → α → Act → List Res → Prop)
    (hg : a.eval g = .func (.func gf) #[] lb) (eg : ∀ args w, (callFunc gf args).run P w = .ok (.enter gf args) w) (hps : ∀ x, (enc x).size = ps.size)
    (hseq : ∀ H, Sat W L H → Gives P gf lb enc (fun A B => ∀ k, H k → B.heap[k]? = A.heap[k]?) xs W)
    (T : Sts w F W (own 0 ++ L)) (hcalm : ∀ k, calmL (W.heap.size + 2) (own k)) (hcalmX : ∀ c k, calmL (W.heap.size + 2) (ownX c k))
    (hassign : ∀ (l k : Nat) (x : α) (W1 : World) (G : Nat → Prop) (K : Act → World → Prop), xs[k]? = some x → Sts W1 G W1 (own k) → (∀ a' W' own', Ax k x a' own' → Sts W1 G W' own' → K a' W') →
      assign.wpIn (Fence.wide.inRound l) 2 P (Exit.then K (fun _ _ _ => False)) { tmps := (ps.zip (enc x)).foldl (fun t (p, v) => t.setIfInBounds p v) a.tmps, defers := [] } W1)
    (hbody : ∀ (l k : Nat) (x : α) (a' : Act) (own' : List Res) (W1 : World) (G : Nat → Prop), xs[k]? = some x → Ax k x a' own' → Sts W1 G W1 own' → (∀ {W' L'}, Sts W1 G W' L' → ∃ F' w', Sts w' F' W' (L' ++ L)) →
      body.wpIn (Fence.wide.inRound l) 2 P (roundQ own ownX k W1 G) a' W1)
    (hdone : ∀ (D : Nat) (W1 : World), Sts w F W1 (objR D (.deferred (some [])) :: (own xs.length ++ L)) → Q .normal { a with defers := { target := .collected D, args := #[] } :: a.defers } W1)
    (hstop : ∀ (D : Nat) (c : Code) (k : Nat) (W1 : World), 0 < k → k ≤ xs.length → Sts w F W1 (objR D (.deferred (some [])) :: (ownX c k ++ L)) → c.wpIn Fence.wide 4 P Q { a with defers := { target := .collected D, args := #[] } :: a.defers } W1) :
    (Code.rangeFunc g ps assign body).wpIn Fence.wide 4 P Q a W := by
  obtain ⟨G, H, hO, hL, hdis, kL⟩ := T.call2
  have hsq := hseq H hL
  refine wpIn_rangeFunc fun fn hfn => ?_
  generalize hD : W.heap.size = D
  obtain ⟨rec, hrec⟩ : ∃ rec : LoopState → Option Code → Loop, rec = fun st pe => { state := st, pending := pe, fn, tmps := a.tmps, params := ps, assign, body, defers := D } := ⟨_, rfl⟩
  have T1 : Sts W G ((W.alloc (.deferred (some []))).alloc (.loop (rec .ready none))) (objR (D + 1) (.loop (rec .ready none)) :: objR D (.deferred (some [])) :: own 0) := by
    have := ((Sts.start hO).newObj (.deferred (some []))).newObj (.loop (rec .ready none))
    rw [World.size_alloc, hD] at this
    exact this
  have hb1 : Below W.heap.size W ((W.alloc (.deferred (some []))).alloc (.loop (rec .ready none))) := ((Below.refl _ W).alloc (Nat.le_refl _) _).alloc (by simp) _
  have hz1 : ((W.alloc (.deferred (some []))).alloc (.loop (rec .ready none))).heap.size = W.heap.size + 2 := by simp
  refine ⟨D + 1, [{ target := .collected D, args := #[] }], (W.alloc (.deferred (some []))).alloc (.loop (rec .ready none)), { target := .fn (.func gf) lb, args := #[.func (.yield (D + 1)) #[] #[]] }, (W.alloc (.deferred (some []))).alloc (.loop (rec .ready none)), gf,
    #[.func (.yield (D + 1)) #[] #[]] ++ lb, (W.alloc (.deferred (some []))).alloc (.loop (rec .ready none)), ?_, ?_, ?_, ?_, fun _ => by omega, ?_⟩
  · have := run_enterLoop_outer (P := P) (w := W) fn a.tmps ps assign body
    rw [hD] at this
    rw [hrec]; exact this
  · simp only [resolve, hg]
    simp [go_sem]
  · intro f' hf'; simp [Target.leads] at hf'; subst hf'; trivial
  · simp [invoke, go_sem, eg]
  generalize (W.alloc (.deferred (some []))).alloc (.loop (rec .ready none)) = W1 at *
  have hcl : ∀ st pe, (objR (D + 1) (.loop (rec st pe))).calm (W.heap.size + 2) := fun _ _ => objR_calm rfl
  have hcd : (objR D (.deferred (some []))).calm (W.heap.size + 2) := objR_calm rfl
  have hab : ∀ (J : Nat → List Res), (∀ k, calmL (W.heap.size + 2) (J k)) → AbidesFrom W1.heap.size (fun k X => Sts W G X (J k)) := fun J hJ k A B row hs hg' hr => by
    rw [hz1] at hr
    exact hs.grownCalm (by omega) (hJ k) hg' hr
  refine (hsq (D + 1) (fun k X => Sts W G X (objR (D + 1) (.loop (rec .ready none)) :: objR D (.deferred (some [])) :: own k))
    (fun k X => ∃ c, Sts W G X (objR (D + 1) (.loop (rec .done (some c))) :: objR D (.deferred (some [])) :: ownX c k)) W1 hb1
    (hab _ fun k => calmL_cons (hcl _ _) (calmL_cons hcd (hcalm k)))
    (fun k A B row hs hg' hr => let ⟨c, hc⟩ := hs; ⟨c, hab (fun k => _ :: _ :: ownX c k) (fun k => calmL_cons (hcl _ _) (calmL_cons hcd (hcalmX c k))) k A B row hc hg' hr⟩) ?_ T1).mono ?_
  · intro k x Wa hx Ta
    have hy := run_yield (P := P) (args := enc x) Ta.obj (by rw [hrec]; exact hps x)
    have hst : ∀ {X : World} {M : List Res}, Sts W G X M → ∀ j, H j → X.heap[j]? = W.heap[j]? := fun TX j hj => TX.mod.block j (hdis j hj).2 (hdis j hj).1
    have hsta := hst Ta
    rw [hrec] at hy
    refine ⟨fn, _, assign, body, hy, roundIn_of_wpIn hfn ?_⟩
    have Tb : Sts W G Wa (own k ++ [objR (D + 1) (.loop (rec .ready none)), objR D (.deferred (some []))]) := Ta.perm (List.perm_append_comm (l₁ := [objR (D + 1) (.loop (rec .ready none)), objR D (.deferred (some []))]))
    obtain ⟨G2, hO2, k2⟩ := Tb.call
    refine hassign (D + 1) k x Wa G2 _ hx (Sts.start hO2) fun a' W' own' hax T' => ?_
    have Tc := k2 T'
    have Td : Sts W G W' (objR (D + 1) (.loop (rec .ready none)) :: (objR D (.deferred (some [])) :: own')) := Tc.perm (List.perm_append_comm (l₂ := [objR (D + 1) (.loop (rec .ready none)), objR D (.deferred (some []))]))
    refine ⟨_, run_beginRound Td.obj (by rw [hrec]), ?_⟩
    have Te := Td.putObj (.loop (rec .busy none))
    have er : ({ rec .ready none with state := .busy } : Loop) = rec .busy none := by rw [hrec]
    rw [er]
    have Tf : Sts W G (W'.putObj (D + 1) (.loop (rec .busy none))) (own' ++ [objR (D + 1) (.loop (rec .busy none)), objR D (.deferred (some []))]) := Te.perm (List.perm_append_comm (l₁ := [objR (D + 1) (.loop (rec .busy none)), objR D (.deferred (some []))]))
    obtain ⟨G3, hO3, k3⟩ := Tf.call
    have fin : ∀ (jump : Option Code) (M : List Res) (W3 : World), Sts (W'.putObj (D + 1) (.loop (rec .busy none))) G3 W3 M →
        (Instr.endRound (D + 1) jump).run P W3 = .ok (.bool jump.isNone) (W3.putObj (D + 1) (.loop (rec (if jump.isNone then .ready else .done) jump))) ∧
        Sts W G (W3.putObj (D + 1) (.loop (rec (if jump.isNone then .ready else .done) jump))) (objR (D + 1) (.loop (rec (if jump.isNone then .ready else .done) jump)) :: objR D (.deferred (some [])) :: M) := fun jump M W3 hS => by
      have Tg := k3 hS
      have Th : Sts W G W3 (objR (D + 1) (.loop (rec .busy none)) :: (objR D (.deferred (some [])) :: M)) := Tg.perm (List.perm_append_comm (l₂ := [objR (D + 1) (.loop (rec .busy none)), objR D (.deferred (some []))]))
      have h1 := run_endRound (P := P) jump Th.obj
      have e2 : ({ rec .busy none with state := if jump.isNone then .ready else .done, pending := jump } : Loop) = rec (if jump.isNone then .ready else .done) jump := by rw [hrec]
      rw [e2] at h1
      exact ⟨h1, Th.putObj _⟩
    refine wpIn_mono (hbody (D + 1) k x a' own' _ G3 hx hax (Sts.start hO3) (fun hS => ?_)) ?_
    · have Tg := (kL (k3 hS)).1
      exact ⟨F, w, by
        have Th := Tg.perm ((List.perm_append_comm (l₂ := [objR (D + 1) (.loop (rec .busy none)), objR D (.deferred (some []))])).append_right L)
        exact Th.drop.drop⟩
    · rintro e a3 W3 hp
      cases e with
      | normal =>
        obtain ⟨h1, h2⟩ := fin none _ W3 hp
        exact ⟨_, _, h1, .inl ⟨rfl, h2, fun j hj => (hst h2 j hj).trans (hsta j hj).symm⟩⟩
      | ret =>
        obtain ⟨h1, h2⟩ := fin (some .ret) _ W3 hp
        exact ⟨_, _, h1, .inr ⟨rfl, _, h2⟩⟩
      | exit id =>
        obtain ⟨h1, h2⟩ := fin (some (.exit id)) _ W3 hp
        exact ⟨_, _, h1, .inr ⟨rfl, _, h2⟩⟩
      | goto t =>
        obtain ⟨h1, h2⟩ := fin (some (.goto t)) _ W3 hp
        exact ⟨_, _, h1, .inr ⟨rfl, _, h2⟩⟩
      | panic ch => exact hp.elim
      | outgrown => exact hp.elim
  · rintro e W2 ⟨⟨v, rfl⟩, (hJ | ⟨k, h0, hk, c, hJ⟩)⟩
    · have h1 := run_endLoop (P := P) hJ.obj (by rw [hrec]; simp)
      have e1 : (rec .ready none).pending = none := by rw [hrec]
      rw [e1] at h1
      exact ⟨none, _, h1, hdone D _ (kL (hJ.putObj _).drop).1⟩
    · have h1 := run_endLoop (P := P) hJ.obj (by rw [hrec]; simp)
      have e1 : (rec .done (some c)).pending = some c := by rw [hrec]
      rw [e1] at h1
      exact ⟨some c, _, h1, hstop D c k _ h0 hk (kL (hJ.putObj _).drop).1⟩
end
end Go.Proofs.YtfgacjglfdehbaaGreatDoor
/- Layer 3: rows of items: all that stand there, one by one. -/
namespace Go.Proofs.YtfgacjglfdehbaaGreatDoor
open Go.RowKit Go.Shelf
set_option linter.unusedVariables false
set_option maxRecDepth 20000
attribute [local go_sem] Oper.semAt_some
attribute [local go_sem] row_alloc row_drew row_drewN row_ext row_setCell row_setRow size_ext setRow_alloc setRow_drew loadOf storeOf piece_lit loadVal_at storeVal_at allOne_lit buildOf buildRes_some
attribute [local go_sem high] cell_alloc frozen_alloc setCell_alloc cell_ext frozen_ext cell_setRow frozen_setRow
attribute [local go_sem ↓] TDeed_ld0 TDeed_st0 TDeed_fd0 TDeed_bd0
attribute [local go_sem] TDeed_size TDeed_one TDeed_piece TDeed_c0 TDeed_c1 TDeed_c2 TDeed_c3 TDeed_c4 TDeed_c5 TDeed_set_kind TDeed_set_key TDeed_set_val TDeed_set_ver TDeed_set_ses TDeed_set_num TDeed_ld TDeed_st TDeed_f_kind TDeed_f_key TDeed_f_val TDeed_f_ver TDeed_f_ses TDeed_f_num TDeed_bd TDeed_fl TDeed_fl_kind TDeed_fl_key TDeed_fl_val TDeed_fl_ver TDeed_fl_ses TDeed_fl_num
attribute [local go_sem high] TDeed_eql TDeed_neq
attribute [local go_sem ↓] index_deps0 load_deps0 store_deps0
attribute [local go_sem] DV_piece DV_size DV_one index_deps load_deps store_deps
attribute [local go_sem high] TDeps_eql TDeps_neq
attribute [local go_sem ↓] TCall_ld0 TCall_st0 TCall_fd0 TCall_bd0
attribute [local go_sem] TCall_size TCall_one TCall_piece TCall_c0 TCall_c1 TCall_c2 TCall_c3 TCall_c4 TCall_c5 TCall_c6 TCall_c7 TCall_c8 TCall_c9 TCall_c10 TCall_c11 TCall_c12 TCall_c13 TCall_p_deed TCall_put_deed TCall_p_deps TCall_put_deps TCall_set_seq TCall_ld TCall_st TCall_f_deed TCall_f_deps TCall_f_seq TCall_bd TCall_fl TCall_fl_deed TCall_fl_deps TCall_fl_seq
attribute [local go_sem high] TCall_eql TCall_neq
attribute [local go_sem ↓] TItem_ld0 TItem_st0 TItem_fd0 TItem_bd0
attribute [local go_sem] TItem_size TItem_one TItem_piece TItem_c0 TItem_c1 TItem_set_rep TItem_set_num TItem_ld TItem_st TItem_f_rep TItem_f_num TItem_bd TItem_fl TItem_fl_rep TItem_fl_num
attribute [local go_sem high] TItem_eql TItem_neq
attribute [local go_sem ↓] TBallot_ld0 TBallot_st0 TBallot_fd0 TBallot_bd0
attribute [local go_sem] TBallot_size TBallot_one TBallot_piece TBallot_c0 TBallot_c1 TBallot_set_round TBallot_set_rep TBallot_ld TBallot_st TBallot_f_round TBallot_f_rep TBallot_bd TBallot_fl TBallot_fl_round TBallot_fl_rep
attribute [local go_sem high] TBallot_eql TBallot_neq
attribute [local go_sem ↓] TInst_ld0 TInst_st0 TInst_fd0 TInst_bd0
attribute [local go_sem] TInst_size TInst_one TInst_piece TInst_c0 TInst_c1 TInst_c2 TInst_c3 TInst_c4 TInst_c5 TInst_c6 TInst_c7 TInst_c8 TInst_c9 TInst_c10 TInst_c11 TInst_c12 TInst_c13 TInst_c14 TInst_c15 TInst_c16 TInst_c17 TInst_c18 TInst_c19 TInst_p_prom TInst_put_prom TInst_p_vote TInst_put_vote TInst_set_status TInst_p_call TInst_put_call TInst_set_same TInst_ld TInst_st TInst_f_prom TInst_f_vote TInst_f_status TInst_f_call TInst_f_same TInst_bd TInst_fl TInst_fl_prom TInst_fl_vote TInst_fl_status TInst_fl_call TInst_fl_same
attribute [local go_sem high] TInst_eql TInst_neq
/-- What stands at a place, with it. -/
noncomputable def entAt (m : RowsM) (r k : Nat) : Option (Item × Inst) := (getM m ⟨(r : Int), (k : Int) + 1⟩).map fun t => (⟨(r : Int), (k : Int) + 1⟩, t)
noncomputable def entR (m : RowsM) (r k : Nat) : List (Item × Inst) := (List.range k).filterMap (entAt m r)
noncomputable def entsTo (m : RowsM) : Nat → List (Item × Inst)
  | 0 => []
  | r + 1 => entsTo m r ++ entR m r (topM m r).toNat
noncomputable def ents (m : RowsM) : List (Item × Inst) := entsTo m 7
theorem entR_none {m : RowsM} {r k : Nat} (h : getM m ⟨(r : Int), (k : Int) + 1⟩ = none) : entR m r (k + 1) = entR m r k := by
  unfold entR; rw [List.range_succ, List.filterMap_append]; simp [entAt, h]
theorem entR_some {m : RowsM} {r k : Nat} {t : Inst} (h : getM m ⟨(r : Int), (k : Int) + 1⟩ = some t) : entR m r (k + 1) = entR m r k ++ [(⟨(r : Int), (k : Int) + 1⟩, t)] := by
  unfold entR; rw [List.range_succ, List.filterMap_append]; simp [entAt, h]
theorem entR_pre (m : RowsM) (r : Nat) {k n : Nat} (h : k ≤ n) : entR m r k <+: entR m r n := by
  obtain ⟨j, rfl⟩ := Nat.exists_eq_add_of_le h
  unfold entR
  rw [List.range_add, List.filterMap_append]
  exact List.prefix_append _ _
theorem entsTo_pre (m : RowsM) {r n : Nat} (h : r ≤ n) : entsTo m r <+: entsTo m n := by
  induction n with
  | zero => obtain rfl : r = 0 := by omega
            exact List.prefix_refl _
  | succ n ih =>
    by_cases e : r = n + 1
    · subst e; exact List.prefix_refl _
    · exact (ih (by omega)).trans (List.prefix_append _ _)
theorem ents_pre (m : RowsM) {r k : Nat} (hr : r < 7) (hk : k ≤ (topM m r).toNat) : entsTo m r ++ entR m r k <+: ents m := by
  refine List.IsPrefix.trans ?_ (entsTo_pre m (show r + 1 ≤ 7 by omega))
  exact (List.prefix_append_right_inj _).2 (entR_pre m r hk)
theorem ents_at (m : RowsM) {r k : Nat} {t : Inst} (hr : r < 7) (hk : k < (topM m r).toNat) (h : getM m ⟨(r : Int), (k : Int) + 1⟩ = some t) : (ents m)[(entsTo m r ++ entR m r k).length]? = some (⟨(r : Int), (k : Int) + 1⟩, t) := by
  have h1 := ents_pre m hr (k := k + 1) (by omega)
  rw [entR_some h, ← List.append_assoc] at h1
  obtain ⟨z, hz⟩ := h1
  rw [← hz, List.append_assoc, List.getElem?_append_right (Nat.le_refl _)]
  simp
/-- Rows as they can be. -/
structure RowsOk (m : RowsM) : Prop where
  n : 0 ≤ m.n ∧ m.n ≤ 7
  len : ∀ r, (m.f r).length ≤ 64
theorem RowsOk.top {m : RowsM} (h : RowsOk m) (r : Int) : 0 ≤ topM m r ∧ topM m r ≤ 64 := by
  unfold topM; have := h.len r.toNat; split <;> omega
theorem RowsOk.new {n : Int} (h : 0 ≤ n ∧ n ≤ 7) : RowsOk ⟨n, fun _ => []⟩ := ⟨h, fun _ => by simp⟩
theorem putL_len (l : List (Option Inst)) (i : Nat) (t : Inst) : (putL l i t).length = max l.length (i + 1) := by
  unfold putL; rw [List.length_set, List.length_append, List.length_replicate]; omega
theorem RowsOk.set {m : RowsM} (h : RowsOk m) (x : Item) (t : Inst) : RowsOk (setM m x t) := by
  unfold setM
  split
  · rename_i hg
    unfold goodI at hg
    rw [decide_eq_true_iff] at hg
    refine ⟨h.n, fun r => ?_⟩
    show (updF m.f x.rep.toNat _ r).length ≤ 64
    unfold updF
    split
    · rw [putL_len]; have := h.len x.rep.toNat; omega
    · exact h.len r
  · exact h
def iterIR (c g : Nat) (m : RowsM) : List Res := [rowR c #[.pointer (some ⟨g, 0, none⟩)], rowsIR g m]
set_option maxHeartbeats 2000000 in
theorem irAllG (c g : Nat) (m : RowsM) (hm : RowsOk m) (W0 : World) (H : Nat → Prop) (hS : Sat W0 (iterIR c g m) H) :
    Gives Tryz.prog 65 #[.pointer (some ⟨c, 0, none⟩)] (fun x : Item × Inst => #[.agg (IV x.1), .agg (NV x.2)]) (fun A B => ∀ k, H k → B.heap[k]? = A.heap[k]?) (ents m) W0 := by
  intro l J Jx W hW hJ hJx hY h0
  have hn := hm.n
  have hS1 : Sat W (iterIR c g m) H := hS.stay fun k hk => hW.block k (hS.lt k hk)
  have hab : ∀ k A B, J k A → Below A.heap.size A B → J k B := fun k A B h hb => hJ k A B none h ⟨hb.os, hb.tape, hb.output, hb.size, fun j hj _ => hb.block j hj⟩ (fun r e => by cases e)
  have hsb : ∀ A B, Sat A (iterIR c g m) H → Below A.heap.size A B → Sat B (iterIR c g m) H := fun A B h hb => h.stay fun j hj => hb.block j (h.lt j hj)
  have HSB := Lib.hid hsb; clear hsb
  have HAB := Lib.hid hab; have HJY := Lib.hid hY
  clear hS hab hJ hJx hW hY
  refine callsIn_of_wp Tryz.func65 rfl trivial ?_ rfl
  simp only [Tryz.ntmps65, List.size_toArray, List.length_cons, List.length_nil, Nat.reduceAdd, Nat.reduceSub, Array.replicate_succ, Array.replicate_zero, List.push_toArray, List.append_toArray, List.nil_append, List.cons_append]
  gi_wp2
  gi_loopw [8] (fun i wr => ∃ r : Nat, r ≤ 7 ∧ i = .int .i64 r ∧ J (entsTo m r).length wr ∧ Sat wr (iterIR c g m) H) (fun i _ => 7 - (intOf i).toNat)
  case atStart => exact ⟨0, by omega, rfl, h0, hS1⟩
  case round =>
    clear hS1 h0
    obtain ⟨r, hr7, rfl, hJr, hSr⟩ := hrel
    by_cases hlt : r < 7
    · have hlt' : (0 : Int) ≤ (r : Int) ∧ (r : Int) < 7 := by omega
      gi_wp2
      gi_loopw [4] (fun i wr => ∃ k : Nat, k ≤ (topM m r).toNat ∧ i = .int .i64 (k + 1) ∧ J (entsTo m r ++ entR m r k).length wr ∧ Sat wr (iterIR c g m) H) (fun i _ => ((topM m r).toNat + 1 - (intOf i).toNat))
      case atStart => exact ⟨0, by omega, rfl, by simpa [entR] using hJr, hSr⟩
      case round =>
        clear hJr hSr
        obtain ⟨k, hk, rfl, hJk, hSk⟩ := hrel
        have hstay : ∀ W', Below wr.heap.size wr W' → Sat W' (iterIR c g m) H := fun W' hb => hSk.stay fun j hj => hb.block j (hSk.lt j hj)
        have T := Sts.start hSk
        unfold iterIR at T
        have hc := row_cell T.row 0
        have hlc := row_lt T.row
        have htop := (irTopR g m hn r).at1 T.swap
        have ht0 := hm.top (r : Int)
        have HST := Lib.hid hstay; have HTOP := Lib.hid htop
        clear hstay htop T hSk
        gi_wp2_with fail
        refine ⟨trivial, ?_⟩
        refine (callsIn_wide.2 HTOP.out).mono ?_
        rintro e w1 ⟨rfl, hb1⟩
        clear hc hlc HTOP
        have hJ1 := HAB.out _ _ _ hJk hb1
        have hS1 := HST.out _ hb1
        clear hb1 HST hJk
        by_cases hlt2 : (k : Int) + 1 ≤ topM m r
        · have hlt3 : k + 1 ≤ (topM m r).toNat := by omega
          have T := Sts.start hS1
          unfold iterIR at T
          have T1 := ((T.new (IV ⟨(r : Int), (k : Int) + 1⟩) 32))
          have hc := row_cell T1.row1 0
          have hlc := row_lt T1.row1
          have hrx := T1.row
          have hat := (irAtR g m hn ⟨(r : Int), (k : Int) + 1⟩).at1 (T1.ord [2, 0, 1])
          have hJ2 := HAB.out _ _ _ hJ1 ((Below.refl w1.heap.size w1).alloc (Nat.le_refl _) (.cells (IV ⟨(r : Int), (k : Int) + 1⟩) 32))
          have hS2 := HSB.out _ _ hS1 ((Below.refl w1.heap.size w1).alloc (Nat.le_refl _) (.cells (IV ⟨(r : Int), (k : Int) + 1⟩) 32))
          have HAT := Lib.hid hat; have HT1 := Lib.hid T1
          clear hat T1 T hS1 hJ1
          gi_wp2_with fail
          refine ⟨trivial, ?_⟩
          refine (callsIn_wide.2 HAT.out).mono ?_
          rintro e w2 ⟨rfl, hb2⟩
          have hJ3 := HAB.out _ _ _ hJ2 hb2
          have hS3 := HSB.out _ _ hS2 hb2
          have T2 := HT1.out.pure hb2
          clear hJ2 hS2 hb2 HT1 HAT hrx hc hlc
          generalize w1.heap.size = bx at *
          have hJ4 := HAB.out _ _ _ hJ3 ((Below.refl w2.heap.size w2).alloc (Nat.le_refl _) (.cells (NV ((getM m ⟨(r : Int), (k : Int) + 1⟩).getD noInst)) 52))
          have hS4 := HSB.out _ _ hS3 ((Below.refl w2.heap.size w2).alloc (Nat.le_refl _) (.cells (NV ((getM m ⟨(r : Int), (k : Int) + 1⟩).getD noInst)) 52))
          have T3 := T2.new (NV ((getM m ⟨(r : Int), (k : Int) + 1⟩).getD noInst)) 52
          have r1 := T3.row; have r2 := T3.row1; have l1 := row_lt r1; have l2 := row_lt r2
          clear hJ3 hS3 T2 T3
          cases hgm : getM m ⟨(r : Int), (k : Int) + 1⟩ with
          | none =>
            have hes := entR_none hgm
            have hJ5 : J (entsTo m r ++ entR m r (k + 1)).length (w2.alloc (.cells (NV noInst) 52)) := by rw [hes]; rw [hgm] at hJ4; exact hJ4
            have hS5 : Sat (w2.alloc (.cells (NV noInst) 52)) (iterIR c g m) H := by rw [hgm] at hS4; exact hS4
            clear hes hJ4 hS4 r1 r2 l1 l2
            have H5 := Lib.hid hJ5; have H6 := Lib.hid hS5
            clear hJ5 hS5
            simp only [Option.getD, Option.isSome]
            gi_wp2
            refine ⟨fun f h => (by cases h), ?_⟩
            gi_wp2
            go_roundw
            case rel => exact ⟨k + 1, by omega, by go_num, H5.out, H6.out⟩
            case measure => simp [intOf]; omega
          | some t =>
            rw [hgm] at hJ4 hS4 r1 l1 r2 l2
            simp only [Option.getD] at hJ4 hS4 r1 l1 r2 l2
            have hen := ents_at m hlt (k := k) (by omega) hgm
            have hes : (entsTo m r ++ entR m r k).length + 1 = (entsTo m r ++ entR m r (k + 1)).length := by rw [entR_some hgm]; simp; omega
            have hle := (ents_pre m hlt (k := k + 1) (by omega)).length_le
            rw [← hes] at hle
            have hY := HJY.out _ _ _ hen hJ4
            have HES := Lib.hid hes; have HS4 := Lib.hid hS4; have HLE := Lib.hid hle
            clear hes hS4 hJ4 hen hle
            obtain ⟨fn, tmps, assign, body, hy, hR⟩ := hY
            simp only [Option.getD, Option.isSome]
            gi_wp2
            refine hR.mono ?_
            rintro e W3 (⟨rfl, hJ5, hk5⟩ | ⟨rfl, hJx5⟩)
            · have hS5 : Sat W3 (iterIR c g m) H := HS4.out.stay fun j hj => hk5 j hj
              rw [HES.out] at hJ5
              clear hk5 HES HS4 r1 r2 l1 l2 hy hR
              have H5 := Lib.hid hJ5; have H6 := Lib.hid hS5
              clear hJ5 hS5
              gi_wp2
              go_roundw
              case rel => exact ⟨k + 1, by omega, by go_num, H5.out, H6.out⟩
              case measure => simp [intOf]; omega
            · have H5 := Lib.hid hJx5; clear hJx5 hy hR
              gi_wp2
              refine bodyPost_ret (results_none rfl _ _ _) rfl ?_
              exact ⟨⟨_, rfl⟩, .inr ⟨_, Nat.succ_pos _, HLE.out, H5.out⟩⟩
        · have he : k = (topM m r).toNat := by omega
          have hJn : J (entsTo m (r + 1)).length w1 := by rw [he] at hJ1; exact hJ1
          clear he hJ1
          gi_wp2
          go_roundw
          case rel => exact ⟨r + 1, by omega, by go_num, hJn, hS1⟩
          case measure => simp [intOf]; omega
    · obtain rfl : r = 7 := by omega
      gi_wp2
      go_end0
      exact ⟨⟨_, rfl⟩, .inl hJr⟩
end Go.Proofs.YtfgacjglfdehbaaGreatDoor
