/- Several texts in one. -/
import Derived.Test.YtomlilkobhkoiaaGreatDoorQ7
import Derived.Test.YtomlilkobhkoiaaGreatDoorQ4
import Derived.Deep.LoopGhost
/- Loops over iterators, over things in memory: an iterator gives a row of elements, one by one; the loop's law. Nothing of the program stands here. -/
namespace Go.Proofs.YtomlilkobhkoiaaGreatDoor
open Go.RowKit Go.Shelf
set_option linter.unusedVariables false
/-- A block with just this in it. -/
def objR (k : Nat) (o : Obj) : Res where
  sat F W := (∀ j, F j ↔ j = k) ∧ W.heap[k]? = some o
  stay h hs := ⟨hs.1, (h k ((hs.1 k).2 rfl)).trans hs.2⟩
  lt hs j hj := by rw [(hs.1 j).1 hj]; exact (Array.getElem?_eq_some_iff.1 hs.2).1
/-- No block of the thing, from block B on, is a map or an iterator. -/
def Res.calm (B : Nat) (r : Res) : Prop := ∀ {F : Nat → Prop} {W : World}, r.sat F W → ∀ k, F k → k < B ∨ ∃ o, W.heap[k]? = some o ∧ o.isWalk = false
def calmL (B : Nat) (L : List Res) : Prop := ∀ r ∈ L, r.calm B
theorem not_walk_of_cells {o : Obj} (h : o.isCells = true) : o.isWalk = false := by cases o <;> simp_all [Obj.isWalk, Obj.isCells]
theorem Res.plain.calm {r : Res} (h : r.plain) (B : Nat) : r.calm B := fun hs k hk => by
  obtain ⟨o, ho, hc⟩ := h hs k hk
  exact .inr ⟨o, ho, not_walk_of_cells hc⟩
theorem rowR_calm (B g : Nat) (X : Array Value) : (rowR g X).calm B := Res.plain.calm (rowR_plain g X) B
theorem vecR_calm (B : Nat) (e : TypeId) (size : Nat) (v : Value) (n : Nat) (xs : List Value) : (vecR e size v n xs).calm B := Res.plain.calm (vecR_plain e size v n xs) B
theorem calmL_nil (B : Nat) : calmL B [] := fun _ h => by simp at h
theorem calmL_cons {B : Nat} {r : Res} {L : List Res} (h : r.calm B) (hl : calmL B L) : calmL B (r :: L) := fun s hs => by
  rcases List.mem_cons.1 hs with rfl | h'
  · exact h
  · exact hl s h'
theorem objR_calm {B k : Nat} {o : Obj} (h : o.isWalk = false) : (objR k o).calm B := fun hs j hj => by
  rw [(hs.1 j).1 hj]; exact .inr ⟨o, hs.2, h⟩
theorem exR_calm {B : Nat} {α : Type} {f : α → Res} (h : ∀ a, (f a).calm B) : (exR f).calm B := fun hs k hk => let ⟨a, ha⟩ := hs; h a ha k hk
theorem andR_calm {B : Nat} {p : Prop} {r : Res} (h : r.calm B) : (andR p r).calm B := fun hs k hk => h hs.2 k hk
theorem Sat.calm {B : Nat} : ∀ {L : List Res}, calmL B L → ∀ {F : Nat → Prop} {W : World}, Sat W L F → ∀ k, F k → k < B ∨ ∃ o, W.heap[k]? = some o ∧ o.isWalk = false
  | [], _, _, _, h, k, hk => (h k hk).elim
  | r :: L, hp, F, W, ⟨A, B', ha, hb, hd, hf⟩, k, hk => by
    rcases (hf k).1 hk with h | h
    · exact hp r (by simp) ha k h
    · exact Sat.calm (fun s hs => hp s (by simp [hs])) hb k h
theorem packR_calm {B : Nat} {L : List Res} (h : calmL B L) : (packR L).calm B := fun hs k hk => Sat.calm h hs k hk
theorem starR_calm {B : Nat} {r s : Res} (hr : r.calm B) (hs : s.calm B) : (starR r s).calm B := fun h k hk => Sat.calm (calmL_cons hr (calmL_cons hs (calmL_nil B))) h k hk
/-- What never is. -/
def noR : Res := andR False (packR [])
theorem noR_calm (B : Nat) : noR.calm B := andR_calm (packR_calm (calmL_nil B))
theorem Sts.no {w W : World} {F : Nat → Prop} {R : List Res} (h : Sts w F W (noR :: R)) : False := (Sts.and h).1
section
variable {w W W' : World} {F : Nat → Prop} {L R L' : List Res} {r : Res} {k : Nat} {o o' : Obj}
theorem Sts.newObj (h : Sts w F W L) (o : Obj) : Sts w F (W.alloc o) (objR W.heap.size o :: L) := by
  obtain ⟨⟨G, hs, hg⟩, m⟩ := h.keep o
  obtain ⟨⟨G0, hs0, hg0⟩, m0⟩ := h
  have hlt := hs0.lt
  have hs1 : Sat (W.alloc o) L G0 := hs0.stay fun k hk => Below.heap_alloc _ _ _ (hlt k hk)
  refine ⟨⟨fun k => k = W.heap.size ∨ G0 k, ⟨fun k => k = W.heap.size, G0, ⟨fun _ => Iff.rfl, World.alloc_heap_new W o⟩, hs1, ?_, fun _ => Iff.rfl⟩, ?_⟩, m⟩
  · rintro k rfl h; have := hlt _ h; omega
  · rintro k (rfl | h)
    · right; exact m0.size
    · exact hg0 k h
theorem Sts.obj (h : Sts w F W (objR k o :: R)) : W.heap[k]? = some o := let ⟨_, ha⟩ := h.at0; ha.2
theorem Sts.putObj (h : Sts w F W (objR k o :: R)) (o' : Obj) : Sts w F (W.putObj k o') (objR k o' :: R) :=
  h.turn fun A ha => ⟨A, ⟨ha.1, World.putObj_heap_same (Array.getElem?_eq_some_iff.1 ha.2).1⟩, fun _ h => .inl h, rfl, rfl, rfl, by simp, fun j hj hn => World.putObj_heap_other (fun e => hn ((ha.1 j).2 e))⟩
/-- Things of which no block turns abide. -/
theorem Sts.grownCalm {B : Nat} (h : Sts w F W L) (hw : w.heap.size ≤ B) (hp : calmL B L) {row : Option Nat} (hg : W.grownBy W' row) (hr : ∀ r, row = some r → B ≤ r ∧ ∃ o : Obj, W.heap[r]? = some o ∧ o.isWalk = true) : Sts w F W' L := by
  obtain ⟨⟨G, hs, hG⟩, m⟩ := h
  have hpl := hs.calm hp
  refine ⟨⟨G, hs.stay fun k hk => hg.block k (hs.lt k hk) fun e => ?_, hG⟩, hg.os.trans m.os, hg.tape.trans m.tape, hg.output.trans m.output, Nat.le_trans m.size hg.size, fun k hk hn => (hg.block k (Nat.lt_of_lt_of_le hk m.size) fun e => ?_).trans (m.block k hk hn)⟩
  · obtain ⟨hB, o, ho, hc⟩ := hr k e.symm
    rcases hpl k hk with h | ⟨o', ho', hc'⟩
    · omega
    · rw [ho] at ho'; injection ho' with e2; subst e2; rw [hc] at hc'; cases hc'
  · have := (hr k e.symm).1; omega
theorem Sts.call2 (h : Sts w F W (L ++ R)) : ∃ G H, Sat W L G ∧ Sat W R H ∧ (∀ k, H k → ¬ G k ∧ k < W.heap.size) ∧ ∀ {W' L'}, Sts W G W' L' → Sts w F W' (L' ++ R) ∧ Sat W' R H := by
  obtain ⟨⟨H, hs, hh⟩, m⟩ := h
  obtain ⟨A, B, ha, hb, hd, hf⟩ := hs.parts
  have hbl := hb.lt
  refine ⟨A, B, ha, hb, fun k hk => ⟨fun h => hd k h hk, hbl k hk⟩, fun {W' L'} hS => ?_⟩
  obtain ⟨⟨C, hc, hcc⟩, m2⟩ := hS
  have hst : Sat W' R B := hb.stay fun k hk => m2.block k (hbl k hk) fun h => hd k h hk
  refine ⟨⟨⟨fun k => C k ∨ B k, hc.append hst ?_, ?_⟩, ?_⟩, hst⟩
  · intro k hk hbk
    rcases hcc k hk with h | h
    · exact hd k h hbk
    · have := hbl k hbk; omega
  · rintro k (hk | hk)
    · rcases hcc k hk with h | h
      · exact hh k ((hf k).2 (.inl h))
      · right; have := m.size; omega
    · exact hh k ((hf k).2 (.inr hk))
  · refine ⟨m2.os.trans m.os, m2.tape.trans m.tape, m2.output.trans m.output, Nat.le_trans m.size m2.size, fun k hk hn => ?_⟩
    refine (m2.block k (Nat.lt_of_lt_of_le hk m.size) fun ha' => ?_).trans (m.block k hk hn)
    rcases hh k ((hf k).2 (.inl ha')) with h | h
    · exact hn h
    · omega
end
/-- An iterator that gives just these elements, one by one, if what a round leaves is kept. -/
def Gives {α : Type} (P : Program) (gf : Nat) (lb : Array Value) (enc : α → Array Value) (Kp : World → World → Prop) (xs : List α) (w : World) : Prop :=
  ∀ (l : Nat) (J Jx : Nat → World → Prop) (W : World), Below w.heap.size w W → AbidesFrom W.heap.size J → AbidesFrom W.heap.size Jx →
    (∀ k x W1, xs[k]? = some x → J k W1 → YieldAt Fence.wide 2 P l (enc x) W1 fun e W' => (e = .returned (.bool true) ∧ J (k + 1) W' ∧ Kp W1 W') ∨ (e = .returned (.bool false) ∧ Jx (k + 1) W')) →
    J 0 W →
    CallsIn Fence.wide 3 P gf (#[.func (.yield l) #[] #[]] ++ lb) W fun e W' => (∃ v, e = .returned v) ∧ (J xs.length W' ∨ ∃ k, 0 < k ∧ k ≤ xs.length ∧ Jx k W')
theorem Gives.mono {α : Type} {P : Program} {gf : Nat} {lb : Array Value} {enc : α → Array Value} {Kp Kp' : World → World → Prop} {xs : List α} {w : World} (h : Gives P gf lb enc Kp xs w) (hk : ∀ A B, Kp' A B → Kp A B) : Gives P gf lb enc Kp' xs w :=
  fun l J Jx W hW hJ hJx hY h0 => h l J Jx W hW hJ hJx (fun k x W1 hx hj => (hY k x W1 hx hj).mono fun e W' hr => hr.imp (fun ⟨a, b, c⟩ => ⟨a, b, hk _ _ c⟩) id) h0
/-- An iterator that reads the first of these things. -/
theorem Gives.part {α : Type} {P : Program} {gf : Nat} {lb : Array Value} {enc : α → Array Value} {xs : List α} {W : World} {L R : List Res} (h : ∀ H, Sat W L H → Gives P gf lb enc (fun A B => ∀ k, H k → B.heap[k]? = A.heap[k]?) xs W) :
    ∀ H, Sat W (L ++ R) H → Gives P gf lb enc (fun A B => ∀ k, H k → B.heap[k]? = A.heap[k]?) xs W := fun H hS => by
  obtain ⟨A, B, ha, hb, hd, hf⟩ := hS.parts
  exact (h A ha).mono fun X Y hk j hj => hk j ((hf j).2 (.inl hj))
/-- How a round's body may be left. -/
def roundQ (own : Nat → List Res) (ownX : Code → Nat → List Res) (k : Nat) (W : World) (G : Nat → Prop) : Exit → Act → World → Prop
  | .normal, _, W' => Sts W G W' (own (k + 1))
  | .ret, _, W' => Sts W G W' (ownX .ret (k + 1))
  | .exit id, _, W' => Sts W G W' (ownX (.exit id) (k + 1))
  | .goto t, _, W' => Sts W G W' (ownX (.goto t) (k + 1))
  | .panic _, _, _ => False
  | .outgrown, _, _ => False
section
variable {P : Program} {w W : World} {F : Nat → Prop}
/-- A LOOP OVER AN ITERATOR: the things L are read (by the iterator, by the body); the things 'own' are the loop's. -/
theorem wp_rangeSts {α : Type} {g : Operand} {ps : Array Tmp} {assign body : Code} {Q : Exit → Act → World → Prop} {a : Act} {gf : Nat} {lb : Array Value} {enc : α → Array Value} {xs : List α}
    (own : Nat → List Res) (ownX : Code → Nat → List Res) (L : List Res) (Ax : Nat → α → Act → List Res → Prop)
    (hg : a.eval g = .func (.func gf) #[] lb) (eg : ∀ args w, (callFunc gf args).run P w = .ok (.enter gf args) w) (hps : ∀ x, (enc x).size = ps.size)
    (hseq : ∀ H, Sat W L H → Gives P gf lb enc (fun A B => ∀ k, H k → B.heap[k]? = A.heap[k]?) xs W)
    (T : Sts w F W (own 0 ++ L)) (hcalm : ∀ k, calmL (W.heap.size + 2) (own k)) (hcalmX : ∀ c k, calmL (W.heap.size + 2) (ownX c k))
    (hassign : ∀ (l k : Nat) (x : α) (W1 : World) (G : Nat → Prop) (K : Act → World → Prop), xs[k]? = some x → Sts W1 G W1 (own k) → (∀ a' W' own', Ax k x a' own' → Sts W1 G W' own' → K a' W') →
      assign.wpIn (Fence.wide.inRound l) 2 P (Exit.then K (fun _ _ _ => False)) { tmps := (ps.zip (enc x)).foldl (fun t (p, v) => t.setIfInBounds p v) a.tmps, defers := [] } W1)
    (hbody : ∀ (l k : Nat) (x : α) (a' : Act) (own' : List Res) (W1 : World) (G : Nat → Prop), xs[k]? = some x → Ax k x a' own' → Sts W1 G W1 own' → (∀ {W' L'}, Sts W1 G W' L' → ∃ F' w', Sts w' F' W' (L' ++ L)) →
      body.wpIn (Fence.wide.inRound l) 2 P (roundQ own ownX k W1 G) a' W1)
    (hdone : ∀ (D : Nat) (W1 : World), Sts w F W1 (objR D (.deferred (some [])) :: (own xs.length ++ L)) → Q .normal { a with defers := { target := .collected D, args := #[] } :: a.defers } W1)
    (hstop : ∀ (D : Nat) (c : Code) (k : Nat) (W1 : World), 0 < k → k ≤ xs.length → Sts w F W1 (objR D (.deferred (some [])) :: (ownX c k ++ L)) → c.wpIn Fence.wide 4 P Q { a with defers := { target := .collected D, args := #[] } :: a.defers } W1) :
    (Code.rangeFunc g ps assign body).wpIn Fence.wide 4 P Q a W := by
  obtain ⟨G, H, hO, hL, hdis, kL⟩ := T.call2
  have hsq := hseq H hL
  refine wpIn_rangeFunc fun fn hfn => ?_
  generalize hD : W.heap.size = D
  obtain ⟨rec, hrec⟩ : ∃ rec : LoopState → Option Code → Loop, rec = fun st pe => { state := st, pending := pe, fn, tmps := a.tmps, params := ps, assign, body, defers := D } := ⟨_, rfl⟩
  have T1 : Sts W G ((W.alloc (.deferred (some []))).alloc (.loop (rec .ready none))) (objR (D + 1) (.loop (rec .ready none)) :: objR D (.deferred (some [])) :: own 0) := by
    have := ((Sts.start hO).newObj (.deferred (some []))).newObj (.loop (rec .ready none))
    rw [World.size_alloc, hD] at this
    exact this
  have hb1 : Below W.heap.size W ((W.alloc (.deferred (some []))).alloc (.loop (rec .ready none))) := ((Below.refl _ W).alloc (Nat.le_refl _) _).alloc (by simp) _
  have hz1 : ((W.alloc (.deferred (some []))).alloc (.loop (rec .ready none))).heap.size = W.heap.size + 2 := by simp
  refine ⟨D + 1, [{ target := .collected D, args := #[] }], (W.alloc (.deferred (some []))).alloc (.loop (rec .ready none)), { target := .fn (.func gf) lb, args := #[.func (.yield (D + 1)) #[] #[]] }, (W.alloc (.deferred (some []))).alloc (.loop (rec .ready none)), gf,
    #[.func (.yield (D + 1)) #[] #[]] ++ lb, (W.alloc (.deferred (some []))).alloc (.loop (rec .ready none)), ?_, ?_, ?_, ?_, fun _ => by omega, ?_⟩
  · have := run_enterLoop_outer (P := P) (w := W) fn a.tmps ps assign body
    rw [hD] at this
    rw [hrec]; exact this
  · simp only [resolve, hg]
    simp [go_sem]
  · intro f' hf'; simp [Target.leads] at hf'; subst hf'; trivial
  · simp [invoke, go_sem, eg]
  generalize (W.alloc (.deferred (some []))).alloc (.loop (rec .ready none)) = W1 at *
  have hcl : ∀ st pe, (objR (D + 1) (.loop (rec st pe))).calm (W.heap.size + 2) := fun _ _ => objR_calm rfl
  have hcd : (objR D (.deferred (some []))).calm (W.heap.size + 2) := objR_calm rfl
  have hab : ∀ (J : Nat → List Res), (∀ k, calmL (W.heap.size + 2) (J k)) → AbidesFrom W1.heap.size (fun k X => Sts W G X (J k)) := fun J hJ k A B row hs hg' hr => by
    rw [hz1] at hr
    exact hs.grownCalm (by omega) (hJ k) hg' hr
  refine (hsq (D + 1) (fun k X => Sts W G X (objR (D + 1) (.loop (rec .ready none)) :: objR D (.deferred (some [])) :: own k))
    (fun k X => ∃ c, Sts W G X (objR (D + 1) (.loop (rec .done (some c))) :: objR D (.deferred (some [])) :: ownX c k)) W1 hb1
    (hab _ fun k => calmL_cons (hcl _ _) (calmL_cons hcd (hcalm k)))
    (fun k A B row hs hg' hr => let ⟨c, hc⟩ := hs; ⟨c, hab (fun k => _ :: _ :: ownX c k) (fun k => calmL_cons (hcl _ _) (calmL_cons hcd (hcalmX c k))) k A B row hc hg' hr⟩) ?_ T1).mono ?_
  · intro k x Wa hx Ta
    have hy := run_yield (P := P) (args := enc x) Ta.obj (by rw [hrec]; exact hps x)
    have hst : ∀ {X : World} {M : List Res}, Sts W G X M → ∀ j, H j → X.heap[j]? = W.heap[j]? := fun TX j hj => TX.mod.block j (hdis j hj).2 (hdis j hj).1
    have hsta := hst Ta
    rw [hrec] at hy
    refine ⟨fn, _, assign, body, hy, roundIn_of_wpIn hfn ?_⟩
    have Tb : Sts W G Wa (own k ++ [objR (D + 1) (.loop (rec .ready none)), objR D (.deferred (some []))]) := Ta.perm (List.perm_append_comm (l₁ := [objR (D + 1) (.loop (rec .ready none)), objR D (.deferred (some []))]))
    obtain ⟨G2, hO2, k2⟩ := Tb.call
    refine hassign (D + 1) k x Wa G2 _ hx (Sts.start hO2) fun a' W' own' hax T' => ?_
    have Tc := k2 T'
    have Td : Sts W G W' (objR (D + 1) (.loop (rec .ready none)) :: (objR D (.deferred (some [])) :: own')) := Tc.perm (List.perm_append_comm (l₂ := [objR (D + 1) (.loop (rec .ready none)), objR D (.deferred (some []))]))
    refine ⟨_, run_beginRound Td.obj (by rw [hrec]), ?_⟩
    have Te := Td.putObj (.loop (rec .busy none))
    have er : ({ rec .ready none with state := .busy } : Loop) = rec .busy none := by rw [hrec]
    rw [er]
    have Tf : Sts W G (W'.putObj (D + 1) (.loop (rec .busy none))) (own' ++ [objR (D + 1) (.loop (rec .busy none)), objR D (.deferred (some []))]) := Te.perm (List.perm_append_comm (l₁ := [objR (D + 1) (.loop (rec .busy none)), objR D (.deferred (some []))]))
    obtain ⟨G3, hO3, k3⟩ := Tf.call
    have fin : ∀ (jump : Option Code) (M : List Res) (W3 : World), Sts (W'.putObj (D + 1) (.loop (rec .busy none))) G3 W3 M →
        (Instr.endRound (D + 1) jump).run P W3 = .ok (.bool jump.isNone) (W3.putObj (D + 1) (.loop (rec (if jump.isNone then .ready else .done) jump))) ∧
        Sts W G (W3.putObj (D + 1) (.loop (rec (if jump.isNone then .ready else .done) jump))) (objR (D + 1) (.loop (rec (if jump.isNone then .ready else .done) jump)) :: objR D (.deferred (some [])) :: M) := fun jump M W3 hS => by
      have Tg := k3 hS
      have Th : Sts W G W3 (objR (D + 1) (.loop (rec .busy none)) :: (objR D (.deferred (some [])) :: M)) := Tg.perm (List.perm_append_comm (l₂ := [objR (D + 1) (.loop (rec .busy none)), objR D (.deferred (some []))]))
      have h1 := run_endRound (P := P) jump Th.obj
      have e2 : ({ rec .busy none with state := if jump.isNone then .ready else .done, pending := jump } : Loop) = rec (if jump.isNone then .ready else .done) jump := by rw [hrec]
      rw [e2] at h1
      exact ⟨h1, Th.putObj _⟩
    refine wpIn_mono (hbody (D + 1) k x a' own' _ G3 hx hax (Sts.start hO3) (fun hS => ?_)) ?_
    · have Tg := (kL (k3 hS)).1
      exact ⟨F, w, by
        have Th := Tg.perm ((List.perm_append_comm (l₂ := [objR (D + 1) (.loop (rec .busy none)), objR D (.deferred (some []))])).append_right L)
        exact Th.drop.drop⟩
    · rintro e a3 W3 hp
      cases e with
      | normal =>
        obtain ⟨h1, h2⟩ := fin none _ W3 hp
        exact ⟨_, _, h1, .inl ⟨rfl, h2, fun j hj => (hst h2 j hj).trans (hsta j hj).symm⟩⟩
      | ret =>
        obtain ⟨h1, h2⟩ := fin (some .ret) _ W3 hp
        exact ⟨_, _, h1, .inr ⟨rfl, _, h2⟩⟩
      | exit id =>
        obtain ⟨h1, h2⟩ := fin (some (.exit id)) _ W3 hp
        exact ⟨_, _, h1, .inr ⟨rfl, _, h2⟩⟩
      | goto t =>
        obtain ⟨h1, h2⟩ := fin (some (.goto t)) _ W3 hp
        exact ⟨_, _, h1, .inr ⟨rfl, _, h2⟩⟩
      | panic ch => exact hp.elim
      | outgrown => exact hp.elim
  · rintro e W2 ⟨⟨v, rfl⟩, (hJ | ⟨k, h0, hk, c, hJ⟩)⟩
    · have h1 := run_endLoop (P := P) hJ.obj (by rw [hrec]; simp)
      have e1 : (rec .ready none).pending = none := by rw [hrec]
      rw [e1] at h1
      exact ⟨none, _, h1, hdone D _ (kL (hJ.putObj _).drop).1⟩
    · have h1 := run_endLoop (P := P) hJ.obj (by rw [hrec]; simp)
      have e1 : (rec .done (some c)).pending = some c := by rw [hrec]
      rw [e1] at h1
      exact ⟨some c, _, h1, hstop D c k _ h0 hk (kL (hJ.putObj _).drop).1⟩
end
end Go.Proofs.YtomlilkobhkoiaaGreatDoor
/- A loop over an iterator, by things in memory: the iterator's contract is for all frames; the order of what it gives may be any of some. Nothing of the program stands here. -/
namespace Go.Proofs.YtomlilkobhkoiaaGreatDoor
open Go.RowKit Go.Shelf
set_option linter.unusedVariables false
/-- An iterator that reads the things L and gives one of the rows O of elements, whatever else there is. -/
def GivesD {α : Type} (P : Program) (gf : Nat) (lb : Array Value) (enc : α → Array Value) (L : List Res) (O : List α → Prop) : Prop :=
  ∀ (l : Nat) (own ownX : List α → List Res),
    (∀ (pre : List α) (x : α) (w : World) (F : Nat → Prop) (W1 : World) (R : List Res), (∃ post, O (pre ++ x :: post)) → Sts w F W1 (own pre ++ (L ++ R)) →
      YieldAt Fence.wide 2 P l (enc x) W1 fun e W' => (e = .returned (.bool true) ∧ Sts w F W' (own (pre ++ [x]) ++ (L ++ R))) ∨ (e = .returned (.bool false) ∧ Sts w F W' (ownX (pre ++ [x]) ++ (L ++ R)))) →
    ∀ (w : World) (F : Nat → Prop) (W : World) (R : List Res), Sts w F W (own [] ++ (L ++ R)) →
      CallsIn Fence.wide 3 P gf (#[.func (.yield l) #[] #[]] ++ lb) W fun e W' => (∃ v, e = .returned v) ∧ ((∃ xs, O xs ∧ Sts w F W' (own xs ++ (L ++ R))) ∨ ∃ pre, Sts w F W' (ownX pre ++ (L ++ R)))
theorem perm_front {X L R : List Res} {a b : Res} : (X ++ (L ++ (a :: b :: R))).Perm (a :: b :: (X ++ (L ++ R))) := by
  have h : ((X ++ L) ++ ([a, b] ++ R)).Perm ([a, b] ++ ((X ++ L) ++ R)) := by
    rw [← List.append_assoc (X ++ L), ← List.append_assoc [a, b]]
    exact List.perm_append_comm.append_right R
  rw [List.append_assoc X L ([a, b] ++ R), List.append_assoc X L R] at h
  exact h
/-- How a round's body may be left. -/
def roundD {α : Type} (own : List α → List Res) (ownX : Code → List α → List Res) (M : List Res) (pre : List α) (x : α) (w : World) (F : Nat → Prop) : Exit → Act → World → Prop
  | .normal, _, W' => Sts w F W' (own (pre ++ [x]) ++ M)
  | .ret, _, W' => Sts w F W' (ownX .ret (pre ++ [x]) ++ M)
  | .exit id, _, W' => Sts w F W' (ownX (.exit id) (pre ++ [x]) ++ M)
  | .goto t, _, W' => Sts w F W' (ownX (.goto t) (pre ++ [x]) ++ M)
  | .panic _, _, _ => False
  | .outgrown, _, _ => False
section
variable {P : Program} {w W : World} {F : Nat → Prop}
theorem wp_rangeD {α : Type} {g : Operand} {ps : Array Tmp} {assign body : Code} {Q : Exit → Act → World → Prop} {a : Act} {gf : Nat} {lb : Array Value} {enc : α → Array Value} {O : List α → Prop}
    (own : List α → List Res) (ownX : Code → List α → List Res) (L R : List Res) (Ax : List α → α → Act → List Res → Prop)
    (hg : a.eval g = .func (.func gf) #[] lb) (eg : ∀ args w, (callFunc gf args).run P w = .ok (.enter gf args) w) (hps : ∀ x, (enc x).size = ps.size)
    (hseq : GivesD P gf lb enc L O)
    (T : Sts w F W (own [] ++ (L ++ R)))
    (hassign : ∀ (l : Nat) (pre : List α) (x : α) (w : World) (F : Nat → Prop) (W1 : World) (R : List Res) (K : Act → World → Prop), (∃ post, O (pre ++ x :: post)) → Sts w F W1 (own pre ++ (L ++ R)) → (∀ a' W' own', Ax pre x a' own' → Sts w F W' (own' ++ (L ++ R)) → K a' W') →
      assign.wpIn (Fence.wide.inRound l) 2 P (Exit.then K (fun _ _ _ => False)) { tmps := (ps.zip (enc x)).foldl (fun t (p, v) => t.setIfInBounds p v) a.tmps, defers := [] } W1)
    (hbody : ∀ (l : Nat) (pre : List α) (x : α) (a' : Act) (own' : List Res) (w : World) (F : Nat → Prop) (W1 : World) (R : List Res), (∃ post, O (pre ++ x :: post)) → Ax pre x a' own' → Sts w F W1 (own' ++ (L ++ R)) →
      body.wpIn (Fence.wide.inRound l) 2 P (roundD own ownX (L ++ R) pre x w F) a' W1)
    (hdone : ∀ (D : Nat) (W1 : World) (xs : List α), O xs → Sts w F W1 (objR D (.deferred (some [])) :: (own xs ++ (L ++ R))) → Q .normal { a with defers := { target := .collected D, args := #[] } :: a.defers } W1)
    (hstop : ∀ (D : Nat) (c : Code) (pre : List α) (W1 : World), Sts w F W1 (objR D (.deferred (some [])) :: (ownX c pre ++ (L ++ R))) → c.wpIn Fence.wide 4 P Q { a with defers := { target := .collected D, args := #[] } :: a.defers } W1) :
    (Code.rangeFunc g ps assign body).wpIn Fence.wide 4 P Q a W := by
  refine wpIn_rangeFunc fun fn hfn => ?_
  generalize hD : W.heap.size = D
  obtain ⟨rec, hrec⟩ : ∃ rec : LoopState → Option Code → Loop, rec = fun st pe => { state := st, pending := pe, fn, tmps := a.tmps, params := ps, assign, body, defers := D } := ⟨_, rfl⟩
  have T1 : Sts w F ((W.alloc (.deferred (some []))).alloc (.loop (rec .ready none))) (objR (D + 1) (.loop (rec .ready none)) :: objR D (.deferred (some [])) :: (own [] ++ (L ++ R))) := by
    have := (T.newObj (.deferred (some []))).newObj (.loop (rec .ready none))
    rw [World.size_alloc, hD] at this
    exact this
  refine ⟨D + 1, [{ target := .collected D, args := #[] }], (W.alloc (.deferred (some []))).alloc (.loop (rec .ready none)), { target := .fn (.func gf) lb, args := #[.func (.yield (D + 1)) #[] #[]] }, (W.alloc (.deferred (some []))).alloc (.loop (rec .ready none)), gf,
    #[.func (.yield (D + 1)) #[] #[]] ++ lb, (W.alloc (.deferred (some []))).alloc (.loop (rec .ready none)), ?_, ?_, ?_, ?_, fun _ => by omega, ?_⟩
  · have := run_enterLoop_outer (P := P) (w := W) fn a.tmps ps assign body
    rw [hD] at this
    rw [hrec]; exact this
  · simp only [resolve, hg]
    simp [go_sem]
  · intro f' hf'; simp [Target.leads] at hf'; subst hf'; trivial
  · simp [invoke, go_sem, eg]
  generalize (W.alloc (.deferred (some []))).alloc (.loop (rec .ready none)) = W1 at *
  refine (hseq (D + 1) (fun pre => objR (D + 1) (.loop (rec .ready none)) :: objR D (.deferred (some [])) :: own pre)
    (fun pre => [exR fun c : Code => packR (objR (D + 1) (.loop (rec .done (some c))) :: objR D (.deferred (some [])) :: ownX c pre)]) ?_ w F W1 R T1).mono ?_
  · intro pre x w2 F2 Wa R2 hx Ta
    have Ta : Sts w2 F2 Wa (objR (D + 1) (.loop (rec .ready none)) :: objR D (.deferred (some [])) :: (own pre ++ (L ++ R2))) := Ta
    have hy := run_yield (P := P) (args := enc x) Ta.obj (by rw [hrec]; exact hps x)
    rw [hrec] at hy
    refine ⟨fn, _, assign, body, hy, roundIn_of_wpIn hfn ?_⟩
    refine hassign (D + 1) pre x w2 F2 Wa (objR (D + 1) (.loop (rec .ready none)) :: objR D (.deferred (some [])) :: R2) _ hx (Ta.perm perm_front.symm) fun a' W' own' hax T' => ?_
    have Td := T'.perm perm_front
    refine ⟨_, run_beginRound Td.obj (by rw [hrec]), ?_⟩
    have Te := Td.putObj (.loop (rec .busy none))
    have er : ({ rec .ready none with state := .busy } : Loop) = rec .busy none := by rw [hrec]
    rw [er]
    have Tf := Te.perm (perm_front (X := own') (L := L) (R := R2)).symm
    have fin : ∀ (jump : Option Code) (M : List Res) (W3 : World), Sts w2 F2 W3 (M ++ (L ++ (objR (D + 1) (.loop (rec .busy none)) :: objR D (.deferred (some [])) :: R2))) →
        (Instr.endRound (D + 1) jump).run P W3 = .ok (.bool jump.isNone) (W3.putObj (D + 1) (.loop (rec (if jump.isNone then .ready else .done) jump))) ∧
        Sts w2 F2 (W3.putObj (D + 1) (.loop (rec (if jump.isNone then .ready else .done) jump))) (objR (D + 1) (.loop (rec (if jump.isNone then .ready else .done) jump)) :: objR D (.deferred (some [])) :: (M ++ (L ++ R2))) := fun jump M W3 hS => by
      have Th := hS.perm perm_front
      have h1 := run_endRound (P := P) jump Th.obj
      have e2 : ({ rec .busy none with state := if jump.isNone then .ready else .done, pending := jump } : Loop) = rec (if jump.isNone then .ready else .done) jump := by rw [hrec]
      rw [e2] at h1
      exact ⟨h1, Th.putObj _⟩
    have finX : ∀ (c : Code) (W3 : World), Sts w2 F2 W3 (ownX c (pre ++ [x]) ++ (L ++ (objR (D + 1) (.loop (rec .busy none)) :: objR D (.deferred (some [])) :: R2))) → ∃ v W4, (Instr.endRound (D + 1) (some c)).run P W3 = .ok v W4 ∧ v = .bool false ∧ Sts w2 F2 W4 ([exR fun c : Code => packR (objR (D + 1) (.loop (rec .done (some c))) :: objR D (.deferred (some [])) :: ownX c (pre ++ [x]))] ++ (L ++ R2)) := fun c W3 hS => by
      obtain ⟨h1, h2⟩ := fin (some c) _ W3 hS
      exact ⟨_, _, h1, rfl, Sts.close c (Sts.pack (L := objR (D + 1) (.loop (rec .done (some c))) :: objR D (.deferred (some [])) :: ownX c (pre ++ [x])) h2)⟩
    refine wpIn_mono (hbody (D + 1) pre x a' own' w2 F2 _ (objR (D + 1) (.loop (rec .busy none)) :: objR D (.deferred (some [])) :: R2) hx hax Tf) ?_
    rintro e a3 W3 hp
    cases e with
    | normal =>
      obtain ⟨h1, h2⟩ := fin none _ W3 hp
      exact ⟨_, _, h1, .inl ⟨rfl, h2⟩⟩
    | ret =>
      obtain ⟨v, W4, h1, rfl, h2⟩ := finX .ret W3 hp
      exact ⟨_, _, h1, .inr ⟨rfl, h2⟩⟩
    | exit id =>
      obtain ⟨v, W4, h1, rfl, h2⟩ := finX (.exit id) W3 hp
      exact ⟨_, _, h1, .inr ⟨rfl, h2⟩⟩
    | goto t =>
      obtain ⟨v, W4, h1, rfl, h2⟩ := finX (.goto t) W3 hp
      exact ⟨_, _, h1, .inr ⟨rfl, h2⟩⟩
    | panic ch => exact hp.elim
    | outgrown => exact hp.elim
  · rintro e W2 ⟨⟨v, rfl⟩, (⟨xs, hxs, hJ⟩ | ⟨pre, hJ⟩)⟩
    · have hJ : Sts w F W2 (objR (D + 1) (.loop (rec .ready none)) :: objR D (.deferred (some [])) :: (own xs ++ (L ++ R))) := hJ
      have h1 := run_endLoop (P := P) hJ.obj (by rw [hrec]; simp)
      have e1 : (rec .ready none).pending = none := by rw [hrec]
      rw [e1] at h1
      exact ⟨none, _, h1, hdone D _ xs hxs (hJ.putObj _).drop⟩
    · obtain ⟨c, hJ⟩ := Sts.open hJ
      have hJ : Sts w F W2 (objR (D + 1) (.loop (rec .done (some c))) :: objR D (.deferred (some [])) :: (ownX c pre ++ (L ++ R))) := hJ.unpack
      have h1 := run_endLoop (P := P) hJ.obj (by rw [hrec]; simp)
      have e1 : (rec .done (some c)).pending = some c := by rw [hrec]
      rw [e1] at h1
      exact ⟨some c, _, h1, hstop D c pre _ (hJ.putObj _).drop⟩
end
end Go.Proofs.YtomlilkobhkoiaaGreatDoor
/- Layer 19: a run in which nothing is committed: it goes, and nothing is missing. -/
namespace Go.Proofs.YtomlilkobhkoiaaGreatDoor
open Go.RowKit Go.Shelf
set_option linter.unusedVariables false
set_option maxRecDepth 20000
attribute [local go_sem] Oper.semAt_some
attribute [local go_sem] row_alloc row_drew row_drewN row_ext row_setCell row_setRow size_ext setRow_alloc setRow_drew loadOf storeOf piece_lit loadVal_at storeVal_at allOne_lit buildOf buildRes_some
attribute [local go_sem high] cell_alloc frozen_alloc setCell_alloc cell_ext frozen_ext cell_setRow frozen_setRow
attribute [local go_sem ↓] TItem_ld0 TItem_st0 TItem_fd0 TItem_bd0
attribute [local go_sem] TItem_size TItem_one TItem_piece TItem_c0 TItem_c1 TItem_set_rep TItem_set_num TItem_ld TItem_st TItem_f_rep TItem_f_num TItem_bd TItem_fl TItem_fl_rep TItem_fl_num
attribute [local go_sem high] TItem_eql TItem_neq
attribute [local go_sem ↓] TCall_ld0 TCall_st0 TCall_fd0 TCall_bd0
attribute [local go_sem] TCall_size TCall_one TCall_piece TCall_c0 TCall_c1 TCall_c2 TCall_c3 TCall_c4 TCall_c5 TCall_c6 TCall_c7 TCall_c8 TCall_c9 TCall_c10 TCall_c11 TCall_c12 TCall_c13 TCall_p_deed TCall_put_deed TCall_p_deps TCall_put_deps TCall_set_seq TCall_ld TCall_st TCall_f_deed TCall_f_deps TCall_f_seq TCall_bd TCall_fl TCall_fl_deed TCall_fl_deps TCall_fl_seq
attribute [local go_sem high] TCall_eql TCall_neq
section
variable {w W : World} {F : Nat → Prop} {R : List Res} {br gg : Nat}
theorem rnGoT (T : Sts w F W R) :
    Calls Tryz.prog 43 #[.pointer (some ⟨br, 0, none⟩)] W fun e W' => ∃ g1, e = .returned (.func (.func 76) #[] #[.pointer (some ⟨g1, 0, none⟩)]) ∧ Sts w F W' (rowR g1 #[.pointer (some ⟨br, 0, none⟩)] :: R) := by
  have T1 := T.new #[.pointer (some ⟨br, 0, none⟩)] 51
  have HT := Lib.hid T1; clear T T1
  go_enter Tryz.func43, Tryz.ntmps43
  go_wp2
  go_ret
  exact ⟨_, rfl, HT.out⟩
theorem clone0 : Ans Tryz.prog 77 #[.slice none 0 0] (.slice none 0 0) := by
  intro W
  have hnil : ∀ w : World, (binOp .eql 89 (.slice none 0 0) (.slice none 0 0)).run Tryz.prog w = .ok (.bool true) w := fun w => by kernel_rfl
  go_enter Tryz.func77, Tryz.ntmps77
  go_wp2
  go_ret
  exact ⟨rfl, Below.refl _ _⟩
set_option maxHeartbeats 4000000 in
theorem rnGo1 {enc : Item × Call → Array Value} {g1 : Nat} : GivesD Tryz.prog 76 #[.pointer (some ⟨g1, 0, none⟩)] enc [rowR g1 #[.pointer (some ⟨br, 0, none⟩)], rnR br gg] (fun xs => xs = []) := by
  intro l own ownX _ w F W R T
  rw [callsIn_wide]
  have T1 : Sts w F W ((own [] ++ [rowR g1 #[.pointer (some ⟨br, 0, none⟩)], rnR br gg]) ++ R) := by simpa using T
  have T2 : Sts w F W (rowR g1 #[.pointer (some ⟨br, 0, none⟩)] :: rnR br gg :: (own [] ++ R)) := T.perm (by
    have := perm_front (X := own []) (L := []) (R := R) (a := rowR g1 #[.pointer (some ⟨br, 0, none⟩)]) (b := rnR br gg)
    simpa using this)
  have hr := T2.row; have hlt := row_lt hr; have hc := row_cell hr 0
  have hr2 := T2.row1; have hlt2 := row_lt hr2; have hc2 := row_cell hr2 2
  have HC := Lib.hid (clone0.at T)
  clear T T1 T2
  go_enter Tryz.func76, Tryz.ntmps76
  go_wp2_with fail
  refine HC.out.mono ?_
  clear HC
  rintro e w3 ⟨rfl, T⟩
  have HT := Lib.hid T; clear T hr hlt hc hr2 hlt2 hc2
  go_wp2_with fail
  go_loopw [3, 22] (fun u3 u22 wr => u3 = .slice none 0 0 ∧ u22 = .int .i64 0 ∧ Sts w F wr (own [] ++ ([rowR g1 #[.pointer (some ⟨br, 0, none⟩)], rnR br gg] ++ R))) (fun _ _ _ => 0)
  case atStart => exact ⟨rfl, rfl, HT.out⟩
  case round =>
    clear HT
    obtain ⟨rfl, rfl, T⟩ := hrel
    have HT := Lib.hid T; clear T
    go_wp2_with fail
    go_loopw [51] (fun u51 wr => u51 = .int .i64 0 ∧ Sts w F wr (own [] ++ ([rowR g1 #[.pointer (some ⟨br, 0, none⟩)], rnR br gg] ++ R))) (fun _ _ => 0)
    case atStart => exact ⟨rfl, HT.out⟩
    case round =>
      clear HT
      obtain ⟨rfl, T⟩ := hrel
      have HT := Lib.hid T; clear T
      go_wp2
      go_end0
      exact ⟨⟨_, rfl⟩, .inl ⟨[], rfl, HT.out⟩⟩
theorem len0 (w : World) : Calls Tryz.prog 70 #[.int .u64 0] w fun e w' => e = .returned (.int .i64 0) ∧ w' = w := by
  have H : Calls Tryz.prog 119 #[.int .u64 0] w fun e w' => e = .returned (.int .i64 0) ∧ w' = w := by
    go_enter Tryz.func119, Tryz.ntmps119
    go_upto_region 10 with fail
    go_step
    go_step
    go_step
    go_step
    go_step
    go_step
    go_step
    refine wpList_step (fun K hK => ?_)
    simp only [Region.wanted, reduceIte]
    go_step
    go_step
    refine wpList_step (fun K hK => ?_)
    simp only [Region.wanted, reduceIte]
    generalize hB : Value.string { data := List.toArray _ } = B at *
    have hx : ∀ w : World, (Instr.index 9 B (.int .u8 0)).run Tryz.prog w = .ok (.int .u8 0) w := by
      intro w
      rw [← hB]
      clear hB hK
      kernel_rfl
    clear hB
    go_simp
    go_wp2
    go_ret
    exact ⟨rfl, rfl⟩
  go_enter Tryz.func70, Tryz.ntmps70
  go_wp2_with fail
  refine H.mono ?_
  rintro e w5 ⟨rfl, rfl⟩
  go_wp2
  go_ret
  exact ⟨rfl, rfl⟩
set_option maxHeartbeats 4000000 in
theorem sort0 (fv : Value) (T : Sts w F W R) : Calls Tryz.prog 37 #[.slice none 0 0, fv] W fun e W' => e = .returned (.tuple #[]) ∧ Sts w F W' R := by
  have HI : Calls Tryz.prog 110 #[.slice none 0 0, .int .i64 0, .int .i64 0, fv] W fun e W' => e = .returned (.tuple #[]) ∧ Sts w F W' R := by
    have HT := Lib.hid T; clear T
    go_enter Tryz.func110, Tryz.ntmps110
    go_wp2_with fail
    go_loopw [8] (fun u8 wr => u8 = .int .i64 1 ∧ Sts w F wr R) (fun _ _ => 0)
    case atStart => exact ⟨rfl, HT.out⟩
    case round =>
      clear HT
      obtain ⟨rfl, T⟩ := hrel
      have HT := Lib.hid T; clear T
      go_wp2
      go_end0
      exact ⟨rfl, HT.out⟩
  have HP : Calls Tryz.prog 69 #[.slice none 0 0, .int .i64 0, .int .i64 0, .int .i64 0, fv] W fun e W' => e = .returned (.tuple #[]) ∧ Sts w F W' R := by
    have HI := Lib.hid HI; clear T
    go_enter Tryz.func69, Tryz.ntmps69
    go_wp2_with fail
    go_loopw [1, 2] (fun u1 u2 wr => u1 = .int .i64 0 ∧ u2 = .int .i64 0 ∧ wr = W) (fun _ _ _ => 0)
    case atStart => exact ⟨rfl, rfl, rfl⟩
    case round =>
      obtain ⟨rfl, rfl, rfl⟩ := hrel
      go_wp2_with fail
      refine HI.out.mono ?_
      clear HI
      rintro e w5 ⟨rfl, T⟩
      have HT2 := Lib.hid T; clear T
      go_wp2
      try simp only [Exit.inBlock, Exit.then]
      refine bodyPost_ret (results_none rfl _ _ _) rfl ?_
      exact ⟨rfl, HT2.out⟩
  have HP := Lib.hid HP; clear HI T
  go_enter Tryz.func37, Tryz.ntmps37
  go_wp2_with fail
  refine (len0 _).mono ?_
  rintro e w5 ⟨rfl, rfl⟩
  go_wp2_with fail
  refine HP.out.mono ?_
  clear HP
  rintro e w6 ⟨rfl, T⟩
  have HT2 := Lib.hid T; clear T
  go_wp2
  go_end0
  exact ⟨rfl, HT2.out⟩
theorem rnMissT (T : Sts w F W (rnR br gg :: R)) :
    Calls Tryz.prog 45 #[.pointer (some ⟨br, 0, none⟩)] W fun e W' => e = .returned (.slice none 0 0) ∧ Sts w F W' (rnR br gg :: R) := by
  have hr := T.row; have hlt := row_lt hr; have hc := row_cell hr 2
  have HT := Lib.hid T; clear T
  go_enter Tryz.func45, Tryz.ntmps45
  go_wp2_with fail
  go_loopw [3, 17] (fun u3 u17 wr => u3 = .slice none 0 0 ∧ u17 = .int .i64 0 ∧ Sts w F wr (rnR br gg :: R)) (fun _ _ _ => 0)
  case atStart => exact ⟨rfl, rfl, HT.out⟩
  case round =>
    clear HT hr hlt hc
    obtain ⟨rfl, rfl, T⟩ := hrel
    have HS := Lib.hid (sort0 (.func (.func 84) #[] #[]) T); clear T
    go_wp2_with fail
    refine HS.out.mono ?_
    clear HS
    rintro e w6 ⟨rfl, T⟩
    have HT := Lib.hid T; clear T
    go_wp2
    go_ret
    exact ⟨rfl, HT.out⟩
end
end Go.Proofs.YtomlilkobhkoiaaGreatDoor
/- A return behind many loops over iterators. Nothing of the program stands here. -/
namespace Go.Proofs.YtomlilkobhkoiaaGreatDoor
open Go.RowKit Go.Shelf
set_option linter.unusedVariables false
section
variable {P : Program} {fn : Func} {n : Nat} {w W : World} {F : Nat → Prop} {R : List Res}
end
end Go.Proofs.YtomlilkobhkoiaaGreatDoor
