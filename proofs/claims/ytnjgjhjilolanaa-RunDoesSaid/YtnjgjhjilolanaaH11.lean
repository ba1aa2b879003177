/- Several texts in one. -/
import Derived.Test.YtnjgjhjilolanaaH10
import Derived.Test.YtnjgjhjilolanaaH4
import Derived.Test.YtnjgjhjilolanaaH3
import Derived.Deep.LoopGhost
/- Loops over iterators, over things in memory: an iterator gives a row of elements, one by one; the loop's law. Nothing of the program stands here. -/
namespace Go.Proofs.Ytnjgjhjilolanaa
open Go.RowKit Go.Shelf
set_option linter.unusedVariables false
/-- A block with just this in it. -/
def objR (k : Nat) (o : Obj) : Res where
  sat F W := (∀ j, F j ↔ j = k) ∧ W.heap[k]? = some o
  stay h hs := ⟨hs.1, (h k ((hs.1 k).2 rfl)).trans hs.2⟩
  lt hs j hj := by rw [(hs.1 j).1 hj]; exact (Array.getElem?_eq_some_iff.1 hs.2).1
/-- No block of the thing, from block B on, is a map or an iterator. -/
def Res.calm (B : Nat) (r : Res) : Prop := ∀ {F : Nat → Prop} {W : World}, r.sat F W → ∀ k, F k → k < B ∨ ∃ o, W.heap[k]? = some o ∧ o.isWalk = false
def calmL (B : Nat) (L : List Res) : Prop := ∀ r ∈ L, r.calm B
theorem not_walk_of_cells {o : Obj} (h : o.isCells = true) : o.isWalk = false := by cases o <;> simp_all [Obj.isWalk, Obj.isCells]
theorem Res.plain.calm {r : Res} (h : r.plain) (B : Nat) : r.calm B := fun hs k hk => by
  obtain ⟨o, ho, hc⟩ := h hs k hk
  exact .inr ⟨o, ho, not_walk_of_cells hc⟩
theorem rowR_calm (B g : Nat) (X : Array Value) : (rowR g X).calm B := Res.plain.calm (rowR_plain g X) B
theorem vecR_calm (B : Nat) (e : TypeId) (size : Nat) (v : Value) (n : Nat) (xs : List Value) : (vecR e size v n xs).calm B := Res.plain.calm (vecR_plain e size v n xs) B
theorem calmL_nil (B : Nat) : calmL B [] := fun _ h => by simp at h
theorem calmL_cons {B : Nat} {r : Res} {L : List Res} (h : r.calm B) (hl : calmL B L) : calmL B (r :: L) := fun s hs => by
  rcases List.mem_cons.1 hs with rfl | h'
  · exact h
  · exact hl s h'
theorem objR_calm {B k : Nat} {o : Obj} (h : o.isWalk = false) : (objR k o).calm B := fun hs j hj => by
  rw [(hs.1 j).1 hj]; exact .inr ⟨o, hs.2, h⟩
theorem exR_calm {B : Nat} {α : Type} {f : α → Res} (h : ∀ a, (f a).calm B) : (exR f).calm B := fun hs k hk => let ⟨a, ha⟩ := hs; h a ha k hk
theorem andR_calm {B : Nat} {p : Prop} {r : Res} (h : r.calm B) : (andR p r).calm B := fun hs k hk => h hs.2 k hk
theorem Sat.calm {B : Nat} : ∀ {L : List Res}, calmL B L → ∀ {F : Nat → Prop} {W : World}, Sat W L F → ∀ k, F k → k < B ∨ ∃ o, W.heap[k]? = some o ∧ o.isWalk = false
  | [], _, _, _, h, k, hk => (h k hk).elim
  | r :: L, hp, F, W, ⟨A, B', ha, hb, hd, hf⟩, k, hk => by
    rcases (hf k).1 hk with h | h
    · exact hp r (by simp) ha k h
    · exact Sat.calm (fun s hs => hp s (by simp [hs])) hb k h
theorem packR_calm {B : Nat} {L : List Res} (h : calmL B L) : (packR L).calm B := fun hs k hk => Sat.calm h hs k hk
/-- What never is. -/
def noR : Res := andR False (packR [])
theorem noR_calm (B : Nat) : noR.calm B := andR_calm (packR_calm (calmL_nil B))
theorem Sts.no {w W : World} {F : Nat → Prop} {R : List Res} (h : Sts w F W (noR :: R)) : False := (Sts.and h).1
section
variable {w W W' : World} {F : Nat → Prop} {L R L' : List Res} {r : Res} {k : Nat} {o o' : Obj}
theorem Sts.newObj (h : Sts w F W L) (o : Obj) : Sts w F (W.alloc o) (objR W.heap.size o :: L) := by
  obtain ⟨⟨G, hs, hg⟩, m⟩ := h.keep o
  obtain ⟨⟨G0, hs0, hg0⟩, m0⟩ := h
  have hlt := hs0.lt
  have hs1 : Sat (W.alloc o) L G0 := hs0.stay fun k hk => Below.heap_alloc _ _ _ (hlt k hk)
  refine ⟨⟨fun k => k = W.heap.size ∨ G0 k, ⟨fun k => k = W.heap.size, G0, ⟨fun _ => Iff.rfl, World.alloc_heap_new W o⟩, hs1, ?_, fun _ => Iff.rfl⟩, ?_⟩, m⟩
  · rintro k rfl h; have := hlt _ h; omega
  · rintro k (rfl | h)
    · right; exact m0.size
    · exact hg0 k h
theorem Sts.obj (h : Sts w F W (objR k o :: R)) : W.heap[k]? = some o := let ⟨_, ha⟩ := h.at0; ha.2
theorem Sts.putObj (h : Sts w F W (objR k o :: R)) (o' : Obj) : Sts w F (W.putObj k o') (objR k o' :: R) :=
  h.turn fun A ha => ⟨A, ⟨ha.1, World.putObj_heap_same (Array.getElem?_eq_some_iff.1 ha.2).1⟩, fun _ h => .inl h, rfl, rfl, rfl, by simp, fun j hj hn => World.putObj_heap_other (fun e => hn ((ha.1 j).2 e))⟩
/-- Things of which no block turns abide. -/
theorem Sts.grownCalm {B : Nat} (h : Sts w F W L) (hw : w.heap.size ≤ B) (hp : calmL B L) {row : Option Nat} (hg : W.grownBy W' row) (hr : ∀ r, row = some r → B ≤ r ∧ ∃ o : Obj, W.heap[r]? = some o ∧ o.isWalk = true) : Sts w F W' L := by
  obtain ⟨⟨G, hs, hG⟩, m⟩ := h
  have hpl := hs.calm hp
  refine ⟨⟨G, hs.stay fun k hk => hg.block k (hs.lt k hk) fun e => ?_, hG⟩, hg.os.trans m.os, hg.tape.trans m.tape, hg.output.trans m.output, Nat.le_trans m.size hg.size, fun k hk hn => (hg.block k (Nat.lt_of_lt_of_le hk m.size) fun e => ?_).trans (m.block k hk hn)⟩
  · obtain ⟨hB, o, ho, hc⟩ := hr k e.symm
    rcases hpl k hk with h | ⟨o', ho', hc'⟩
    · omega
    · rw [ho] at ho'; injection ho' with e2; subst e2; rw [hc] at hc'; cases hc'
  · have := (hr k e.symm).1; omega
theorem Sts.call2 (h : Sts w F W (L ++ R)) : ∃ G H, Sat W L G ∧ Sat W R H ∧ (∀ k, H k → ¬ G k ∧ k < W.heap.size) ∧ ∀ {W' L'}, Sts W G W' L' → Sts w F W' (L' ++ R) ∧ Sat W' R H := by
  obtain ⟨⟨H, hs, hh⟩, m⟩ := h
  obtain ⟨A, B, ha, hb, hd, hf⟩ := hs.parts
  have hbl := hb.lt
  refine ⟨A, B, ha, hb, fun k hk => ⟨fun h => hd k h hk, hbl k hk⟩, fun {W' L'} hS => ?_⟩
  obtain ⟨⟨C, hc, hcc⟩, m2⟩ := hS
  have hst : Sat W' R B := hb.stay fun k hk => m2.block k (hbl k hk) fun h => hd k h hk
  refine ⟨⟨⟨fun k => C k ∨ B k, hc.append hst ?_, ?_⟩, ?_⟩, hst⟩
  · intro k hk hbk
    rcases hcc k hk with h | h
    · exact hd k h hbk
    · have := hbl k hbk; omega
  · rintro k (hk | hk)
    · rcases hcc k hk with h | h
      · exact hh k ((hf k).2 (.inl h))
      · right; have := m.size; omega
    · exact hh k ((hf k).2 (.inr hk))
  · refine ⟨m2.os.trans m.os, m2.tape.trans m.tape, m2.output.trans m.output, Nat.le_trans m.size m2.size, fun k hk hn => ?_⟩
    refine (m2.block k (Nat.lt_of_lt_of_le hk m.size) fun ha' => ?_).trans (m.block k hk hn)
    rcases hh k ((hf k).2 (.inl ha')) with h | h
    · exact hn h
    · omega
end
/-- An iterator that gives just these elements, one by one, if what a round leaves is kept. -/
def Gives {α : Type} (P : Program) (gf : Nat) (lb : Array Value) (enc : α → Array Value) (Kp : World → World → Prop) (xs : List α) (w : World) : Prop :=
  ∀ (l : Nat) (J Jx : Nat → World → Prop) (W : World), Below w.heap.size w W → AbidesFrom W.heap.size J → AbidesFrom W.heap.size Jx →
    (∀ k x W1, xs[k]? = some x → J k W1 → YieldAt Fence.wide 2 P l (enc x) W1 fun e W' => (e = .returned (.bool true) ∧ J (k + 1) W' ∧ Kp W1 W') ∨ (e = .returned (.bool false) ∧ Jx (k + 1) W')) →
    J 0 W →
    CallsIn Fence.wide 3 P gf (#[.func (.yield l) #[] #[]] ++ lb) W fun e W' => (∃ v, e = .returned v) ∧ (J xs.length W' ∨ ∃ k, 0 < k ∧ k ≤ xs.length ∧ Jx k W')
theorem Gives.mono {α : Type} {P : Program} {gf : Nat} {lb : Array Value} {enc : α → Array Value} {Kp Kp' : World → World → Prop} {xs : List α} {w : World} (h : Gives P gf lb enc Kp xs w) (hk : ∀ A B, Kp' A B → Kp A B) : Gives P gf lb enc Kp' xs w :=
  fun l J Jx W hW hJ hJx hY h0 => h l J Jx W hW hJ hJx (fun k x W1 hx hj => (hY k x W1 hx hj).mono fun e W' hr => hr.imp (fun ⟨a, b, c⟩ => ⟨a, b, hk _ _ c⟩) id) h0
/-- An iterator that reads the first of these things. -/
theorem Gives.part {α : Type} {P : Program} {gf : Nat} {lb : Array Value} {enc : α → Array Value} {xs : List α} {W : World} {L R : List Res} (h : ∀ H, Sat W L H → Gives P gf lb enc (fun A B => ∀ k, H k → B.heap[k]? = A.heap[k]?) xs W) :
    ∀ H, Sat W (L ++ R) H → Gives P gf lb enc (fun A B => ∀ k, H k → B.heap[k]? = A.heap[k]?) xs W := fun H hS => by
  obtain ⟨A, B, ha, hb, hd, hf⟩ := hS.parts
  exact (h A ha).mono fun X Y hk j hj => hk j ((hf j).2 (.inl hj))
/-- How a round's body may be left. -/
def roundQ (own : Nat → List Res) (ownX : Code → Nat → List Res) (k : Nat) (W : World) (G : Nat → Prop) : Exit → Act → World → Prop
  | .normal, _, W' => Sts W G W' (own (k + 1))
  | .ret, _, W' => Sts W G W' (ownX .ret (k + 1))
  | .exit id, _, W' => Sts W G W' (ownX (.exit id) (k + 1))
  | .goto t, _, W' => Sts W G W' (ownX (.goto t) (k + 1))
  | .panic _, _, _ => False
  | .outgrown, _, _ => False
section
variable {P : Program} {w W : World} {F : Nat → Prop}
/-- A LOOP OVER AN ITERATOR: the things L are read (by the iterator, by the body); the things 'own' are the loop's. -/
theorem wp_rangeSts {α : Type} {g : Operand} {ps : Array Tmp} {assign body : Code} {Q : Exit → Act → World → Prop} {a : Act} {gf : Nat} {lb : Array Value} {enc : α → Array Value} {xs : List α}
    (own : Nat → List Res) (ownX : Code → Nat → List Res) (L : List Res) (Ax : Nat → α → Act → List Res → Prop)
    (hg : a.eval g = .func (.func gf) #[] lb) (eg : ∀ args w, (callFunc gf args).run P w = .ok (.enter gf args) w) (hps : ∀ x, (enc x).size = ps.size)
    (hseq : ∀ H, Sat W L H → Gives P gf lb enc (fun A B => ∀ k, H k → B.heap[k]? = A.heap[k]?) xs W)
    (T : Sts w F W (own 0 ++ L)) (hcalm : ∀ k, calmL (W.heap.size + 2) (own k)) (hcalmX : ∀ c k, calmL (W.heap.size + 2) (ownX c k))
    (hassign : ∀ (l k : Nat) (x : α) (W1 : World) (G : Nat → Prop) (K : Act → World → Prop), xs[k]? = some x → Sts W1 G W1 (own k) → (∀ a' W' own', Ax k x a' own' → Sts W1 G W' own' → K a' W') →
      assign.wpIn (Fence.wide.inRound l) 2 P (Exit.then K (fun _ _ _ => False)) { tmps := (ps.zip (enc x)).foldl (fun t (p, v) => t.setIfInBounds p v) a.tmps, defers := [] } W1)
    (hbody : ∀ (l k : Nat) (x : α) (a' : Act) (own' : List Res) (W1 : World) (G : Nat → Prop), xs[k]? = some x → Ax k x a' own' → Sts W1 G W1 own' → (∀ {W' L'}, Sts W1 G W' L' → ∃ F' w', Sts w' F' W' (L' ++ L)) →
      body.wpIn (Fence.wide.inRound l) 2 P (roundQ own ownX k W1 G) a' W1)
    (hdone : ∀ (D : Nat) (W1 : World), Sts w F W1 (objR D (.deferred (some [])) :: (own xs.length ++ L)) → Q .normal { a with defers := { target := .collected D, args := #[] } :: a.defers } W1)
    (hstop : ∀ (D : Nat) (c : Code) (k : Nat) (W1 : World), 0 < k → k ≤ xs.length → Sts w F W1 (objR D (.deferred (some [])) :: (ownX c k ++ L)) → c.wpIn Fence.wide 4 P Q { a with defers := { target := .collected D, args := #[] } :: a.defers } W1) :
    (Code.rangeFunc g ps assign body).wpIn Fence.wide 4 P Q a W := by
  obtain ⟨G, H, hO, hL, hdis, kL⟩ := T.call2
  have hsq := hseq H hL
  refine wpIn_rangeFunc fun fn hfn => ?_
  generalize hD : W.heap.size = D
  obtain ⟨rec, hrec⟩ : ∃ rec : LoopState → Option Code → Loop, rec = fun st pe => { state := st, pending := pe, fn, tmps := a.tmps, params := ps, assign, body, defers := D } := ⟨_, rfl⟩
  have T1 : Sts W G ((W.alloc (.deferred (some []))).alloc (.loop (rec .ready none))) (objR (D + 1) (.loop (rec .ready none)) :: objR D (.deferred (some [])) :: own 0) := by
    have := ((Sts.start hO).newObj (.deferred (some []))).newObj (.loop (rec .ready none))
    rw [World.size_alloc, hD] at this
    exact this
  have hb1 : Below W.heap.size W ((W.alloc (.deferred (some []))).alloc (.loop (rec .ready none))) := ((Below.refl _ W).alloc (Nat.le_refl _) _).alloc (by simp) _
  have hz1 : ((W.alloc (.deferred (some []))).alloc (.loop (rec .ready none))).heap.size = W.heap.size + 2 := by simp
  refine ⟨D + 1, [{ target := .collected D, args := #[] }], (W.alloc (.deferred (some []))).alloc (.loop (rec .ready none)), { target := .fn (.func gf) lb, args := #[.func (.yield (D + 1)) #[] #[]] }, (W.alloc (.deferred (some []))).alloc (.loop (rec .ready none)), gf,
    #[.func (.yield (D + 1)) #[] #[]] ++ lb, (W.alloc (.deferred (some []))).alloc (.loop (rec .ready none)), ?_, ?_, ?_, ?_, fun _ => by omega, ?_⟩
  · have := run_enterLoop_outer (P := P) (w := W) fn a.tmps ps assign body
    rw [hD] at this
    rw [hrec]; exact this
  · simp only [resolve, hg]
    simp [go_sem]
  · intro f' hf'; simp [Target.leads] at hf'; subst hf'; trivial
  · simp [invoke, go_sem, eg]
  generalize (W.alloc (.deferred (some []))).alloc (.loop (rec .ready none)) = W1 at *
  have hcl : ∀ st pe, (objR (D + 1) (.loop (rec st pe))).calm (W.heap.size + 2) := fun _ _ => objR_calm rfl
  have hcd : (objR D (.deferred (some []))).calm (W.heap.size + 2) := objR_calm rfl
  have hab : ∀ (J : Nat → List Res), (∀ k, calmL (W.heap.size + 2) (J k)) → AbidesFrom W1.heap.size (fun k X => Sts W G X (J k)) := fun J hJ k A B row hs hg' hr => by
    rw [hz1] at hr
    exact hs.grownCalm (by omega) (hJ k) hg' hr
  refine (hsq (D + 1) (fun k X => Sts W G X (objR (D + 1) (.loop (rec .ready none)) :: objR D (.deferred (some [])) :: own k))
    (fun k X => ∃ c, Sts W G X (objR (D + 1) (.loop (rec .done (some c))) :: objR D (.deferred (some [])) :: ownX c k)) W1 hb1
    (hab _ fun k => calmL_cons (hcl _ _) (calmL_cons hcd (hcalm k)))
    (fun k A B row hs hg' hr => let ⟨c, hc⟩ := hs; ⟨c, hab (fun k => _ :: _ :: ownX c k) (fun k => calmL_cons (hcl _ _) (calmL_cons hcd (hcalmX c k))) k A B row hc hg' hr⟩) ?_ T1).mono ?_
  · intro k x Wa hx Ta
    have hy := run_yield (P := P) (args := enc x) Ta.obj (by rw [hrec]; exact hps x)
    have hst : ∀ {X : World} {M : List Res}, Sts W G X M → ∀ j, H j → X.heap[j]? = W.heap[j]? := fun TX j hj => TX.mod.block j (hdis j hj).2 (hdis j hj).1
    have hsta := hst Ta
    rw [hrec] at hy
    refine ⟨fn, _, assign, body, hy, roundIn_of_wpIn hfn ?_⟩
    have Tb : Sts W G Wa (own k ++ [objR (D + 1) (.loop (rec .ready none)), objR D (.deferred (some []))]) := Ta.perm (List.perm_append_comm (l₁ := [objR (D + 1) (.loop (rec .ready none)), objR D (.deferred (some []))]))
    obtain ⟨G2, hO2, k2⟩ := Tb.call
    refine hassign (D + 1) k x Wa G2 _ hx (Sts.start hO2) fun a' W' own' hax T' => ?_
    have Tc := k2 T'
    have Td : Sts W G W' (objR (D + 1) (.loop (rec .ready none)) :: (objR D (.deferred (some [])) :: own')) := Tc.perm (List.perm_append_comm (l₂ := [objR (D + 1) (.loop (rec .ready none)), objR D (.deferred (some []))]))
    refine ⟨_, run_beginRound Td.obj (by rw [hrec]), ?_⟩
    have Te := Td.putObj (.loop (rec .busy none))
    have er : ({ rec .ready none with state := .busy } : Loop) = rec .busy none := by rw [hrec]
    rw [er]
    have Tf : Sts W G (W'.putObj (D + 1) (.loop (rec .busy none))) (own' ++ [objR (D + 1) (.loop (rec .busy none)), objR D (.deferred (some []))]) := Te.perm (List.perm_append_comm (l₁ := [objR (D + 1) (.loop (rec .busy none)), objR D (.deferred (some []))]))
    obtain ⟨G3, hO3, k3⟩ := Tf.call
    have fin : ∀ (jump : Option Code) (M : List Res) (W3 : World), Sts (W'.putObj (D + 1) (.loop (rec .busy none))) G3 W3 M →
        (Instr.endRound (D + 1) jump).run P W3 = .ok (.bool jump.isNone) (W3.putObj (D + 1) (.loop (rec (if jump.isNone then .ready else .done) jump))) ∧
        Sts W G (W3.putObj (D + 1) (.loop (rec (if jump.isNone then .ready else .done) jump))) (objR (D + 1) (.loop (rec (if jump.isNone then .ready else .done) jump)) :: objR D (.deferred (some [])) :: M) := fun jump M W3 hS => by
      have Tg := k3 hS
      have Th : Sts W G W3 (objR (D + 1) (.loop (rec .busy none)) :: (objR D (.deferred (some [])) :: M)) := Tg.perm (List.perm_append_comm (l₂ := [objR (D + 1) (.loop (rec .busy none)), objR D (.deferred (some []))]))
      have h1 := run_endRound (P := P) jump Th.obj
      have e2 : ({ rec .busy none with state := if jump.isNone then .ready else .done, pending := jump } : Loop) = rec (if jump.isNone then .ready else .done) jump := by rw [hrec]
      rw [e2] at h1
      exact ⟨h1, Th.putObj _⟩
    refine wpIn_mono (hbody (D + 1) k x a' own' _ G3 hx hax (Sts.start hO3) (fun hS => ?_)) ?_
    · have Tg := (kL (k3 hS)).1
      exact ⟨F, w, by
        have Th := Tg.perm ((List.perm_append_comm (l₂ := [objR (D + 1) (.loop (rec .busy none)), objR D (.deferred (some []))])).append_right L)
        exact Th.drop.drop⟩
    · rintro e a3 W3 hp
      cases e with
      | normal =>
        obtain ⟨h1, h2⟩ := fin none _ W3 hp
        exact ⟨_, _, h1, .inl ⟨rfl, h2, fun j hj => (hst h2 j hj).trans (hsta j hj).symm⟩⟩
      | ret =>
        obtain ⟨h1, h2⟩ := fin (some .ret) _ W3 hp
        exact ⟨_, _, h1, .inr ⟨rfl, _, h2⟩⟩
      | exit id =>
        obtain ⟨h1, h2⟩ := fin (some (.exit id)) _ W3 hp
        exact ⟨_, _, h1, .inr ⟨rfl, _, h2⟩⟩
      | goto t =>
        obtain ⟨h1, h2⟩ := fin (some (.goto t)) _ W3 hp
        exact ⟨_, _, h1, .inr ⟨rfl, _, h2⟩⟩
      | panic ch => exact hp.elim
      | outgrown => exact hp.elim
  · rintro e W2 ⟨⟨v, rfl⟩, (hJ | ⟨k, h0, hk, c, hJ⟩)⟩
    · have h1 := run_endLoop (P := P) hJ.obj (by rw [hrec]; simp)
      have e1 : (rec .ready none).pending = none := by rw [hrec]
      rw [e1] at h1
      exact ⟨none, _, h1, hdone D _ (kL (hJ.putObj _).drop).1⟩
    · have h1 := run_endLoop (P := P) hJ.obj (by rw [hrec]; simp)
      have e1 : (rec .done (some c)).pending = some c := by rw [hrec]
      rw [e1] at h1
      exact ⟨some c, _, h1, hstop D c k _ h0 hk (kL (hJ.putObj _).drop).1⟩
end
end Go.Proofs.Ytnjgjhjilolanaa
/- Layer 5: the items to which a row reaches, as an iterator's contract. -/
namespace Go.Proofs.Ytnjgjhjilolanaa
open Go.RowKit Go.Shelf
set_option linter.unusedVariables false
set_option maxRecDepth 20000
attribute [local go_sem] Oper.semAt_some
attribute [local go_sem] row_alloc row_drew row_drewN row_ext row_setCell row_setRow size_ext setRow_alloc setRow_drew loadOf storeOf piece_lit loadVal_at storeVal_at allOne_lit buildOf buildRes_some
attribute [local go_sem high] cell_alloc frozen_alloc setCell_alloc cell_ext frozen_ext cell_setRow frozen_setRow
attribute [local go_sem ↓] TItem_ld0 TItem_st0 TItem_fd0 TItem_bd0
attribute [local go_sem] TItem_size TItem_one TItem_piece TItem_c0 TItem_c1 TItem_set_rep TItem_set_num TItem_ld TItem_st TItem_f_rep TItem_f_num TItem_bd TItem_fl TItem_fl_rep TItem_fl_num
attribute [local go_sem high] TItem_eql TItem_neq
attribute [local go_sem ↓] index_deps0 load_deps0 store_deps0
attribute [local go_sem] DV_piece DV_size DV_one index_deps load_deps store_deps
attribute [local go_sem high] TDeps_eql TDeps_neq
set_option maxHeartbeats 4000000 in
theorem itemsG (c : Nat) (d : Nat → Int) (hd : ∀ i, i < 7 → d i ≤ 1000000) (W0 : World) (H : Nat → Prop) (hS : Sat W0 [rowR c (DV d)] H) :
    Gives Try.prog 85 #[.pointer (some ⟨c, 0, none⟩)] (fun x : Item => #[.agg (IV x)]) (fun A B => ∀ k, H k → B.heap[k]? = A.heap[k]?) (itemsL d) W0 := by
  intro l J Jx W hW hJ hJx hY h0
  have hr0 := (Sts.start hS).row
  have hr : row? W c = some (DV d) := (row_below hW (row_lt hr0)).trans hr0
  have HJY := Lib.hid hY
  clear hS hJ hJx hW hY hr0
  refine callsIn_of_wp Try.func85 rfl trivial ?_ rfl
  simp only [Try.ntmps85, List.size_toArray, List.length_cons, List.length_nil, Nat.reduceAdd, Nat.reduceSub, Array.replicate_succ, Array.replicate_zero, List.push_toArray, List.append_toArray, List.nil_append, List.cons_append]
  gi_wp2
  gi_loopw [7] (fun i wr => ∃ r : Nat, r ≤ 7 ∧ i = .int .i64 r ∧ J (itemsTo d r).length wr) (fun i _ => 7 - (intOf i).toNat)
  case atStart => exact ⟨0, by omega, rfl, h0⟩
  case round =>
    obtain ⟨r, hr7, rfl, hJr⟩ := hrel
    by_cases hlt : r < 7
    · have hdr := hd r hlt
      have hlt' : (0 : Int) ≤ (r : Int) ∧ (r : Int) < 7 := by omega
      gi_wp2
      gi_loopw [5] (fun i wr => ∃ k : Nat, (k : Int) ≤ max (d r) 0 ∧ i = .int .i64 (k + 1) ∧ J (itemsTo d r ++ repL d r k).length wr) (fun i _ => (d r + 1 - intOf i).toNat)
      case atStart => exact ⟨0, by omega, rfl, by simpa [repL] using hJr⟩
      case round =>
        obtain ⟨k, hk, rfl, hJk⟩ := hrel
        by_cases hkd : (k : Int) < d r
        · have hpre := items_pre d hlt (k := k + 1) (by omega)
          rw [repL_succ, ← List.append_assoc] at hpre
          have hxk : (itemsL d)[(itemsTo d r ++ repL d r k).length]? = some ⟨(r : Int), (k : Int) + 1⟩ := by
            obtain ⟨t, ht⟩ := hpre
            rw [← ht]
            simp
          have hle : (itemsTo d r ++ repL d r k).length + 1 ≤ (itemsL d).length := by
            have := hpre.length_le
            rw [List.length_append, List.length_singleton] at this
            exact this
          have hs1 : (itemsTo d r ++ repL d r (k + 1)).length = (itemsTo d r ++ repL d r k).length + 1 := by rw [repL_succ]; simp; omega
          have HS := Lib.hid hs1; have HLE := Lib.hid hle; clear hpre hs1 hle
          obtain ⟨fn, tmps, assign, body, hy, hR⟩ := HJY.out (itemsTo d r ++ repL d r k).length ⟨(r : Int), (k : Int) + 1⟩ wr hxk hJk
          clear hxk
          gi_wp2
          refine hR.mono ?_
          rintro e W3 (⟨rfl, hJ3, hk3⟩ | ⟨rfl, hJx3⟩)
          · gi_wp2
            go_roundw
            case rel => exact ⟨k + 1, by omega, by go_num, by rw [HS.out]; exact hJ3⟩
            case measure => simp [intOf]; omega
          · gi_wp2
            refine bodyPost_ret (results_none rfl _ _ _) rfl ?_
            exact ⟨⟨_, rfl⟩, .inr ⟨_, Nat.succ_pos _, HLE.out, hJx3⟩⟩
        · have hfin : itemsTo d r ++ repL d r k = itemsTo d (r + 1) := by
            rw [itemsTo]; congr 1; congr 1; omega
          rw [hfin] at hJk
          clear hfin
          gi_wp2
          go_roundw
          case rel => exact ⟨r + 1, by omega, by go_num, hJk⟩
          case measure => simp [intOf]; omega
    · obtain rfl : r = 7 := by omega
      gi_wp2
      go_end0
      exact ⟨⟨_, rfl⟩, .inl hJr⟩
end Go.Proofs.Ytnjgjhjilolanaa
/- A loop over an iterator, by things in memory: the iterator's contract is for all frames; the order of what it gives may be any of some. Nothing of the program stands here. -/
namespace Go.Proofs.Ytnjgjhjilolanaa
open Go.RowKit Go.Shelf
set_option linter.unusedVariables false
theorem perm_front {X L R : List Res} {a b : Res} : (X ++ (L ++ (a :: b :: R))).Perm (a :: b :: (X ++ (L ++ R))) := by
  have h : ((X ++ L) ++ ([a, b] ++ R)).Perm ([a, b] ++ ((X ++ L) ++ R)) := by
    rw [← List.append_assoc (X ++ L), ← List.append_assoc [a, b]]
    exact List.perm_append_comm.append_right R
  rw [List.append_assoc X L ([a, b] ++ R), List.append_assoc X L R] at h
  exact h
/-- How a round's body may be left. -/
def roundD {α : Type} (own : List α → List Res) (ownX : Code → List α → List Res) (M : List Res) (pre : List α) (x : α) (w : World) (F : Nat → Prop) : Exit → Act → World → Prop
  | .normal, _, W' => Sts w F W' (own (pre ++ [x]) ++ M)
  | .ret, _, W' => Sts w F W' (ownX .ret (pre ++ [x]) ++ M)
  | .exit id, _, W' => Sts w F W' (ownX (.exit id) (pre ++ [x]) ++ M)
  | .goto t, _, W' => Sts w F W' (ownX (.goto t) (pre ++ [x]) ++ M)
  | .panic _, _, _ => False
  | .outgrown, _, _ => False
section
variable {P : Program} {w W : World} {F : Nat → Prop}
end
end Go.Proofs.Ytnjgjhjilolanaa
/- A return behind many loops over iterators. Nothing of the program stands here. -/
namespace Go.Proofs.Ytnjgjhjilolanaa
open Go.RowKit Go.Shelf
set_option linter.unusedVariables false
def collD (D : Nat) : Deferred := { target := .collected D, args := #[] }
def markR (D : Nat) : Res := objR D (.deferred (some []))
/-- The marks that loops over iterators have left. -/
def marksR (Ds : List Nat) : Res := packR (Ds.map markR)
section
variable {P : Program} {fn : Func} {n : Nat} {w W : World} {F : Nat → Prop} {R : List Res}
theorem Sts.marksNil (T : Sts w F W R) : Sts w F W (marksR [] :: R) := Sts.pack (L := []) T
theorem Sts.marksCons {D : Nat} {Ds : List Nat} (T : Sts w F W (objR D (.deferred (some [])) :: marksR Ds :: R)) : Sts w F W (marksR (D :: Ds) :: R) := by
  have T2 := (T.perm (List.Perm.swap _ _ _)).unpack
  refine Sts.pack (L := (D :: Ds).map markR) ?_
  exact T2.perm List.perm_middle
theorem leavesMs {tmps : Array Value} {Q : Ending → World → Prop} {v : Value} (hr : ∀ W', Sts w F W' R → (results fn tmps).run P W' = .ok v W' ∧ Q (.returned v) W') : ∀ (Ds : List Nat) (W : World), Sts w F W (Ds.map markR ++ R) → LeavesInM Fence.wide n P fn tmps Q (Ds.map collD) .returning W
  | [], W, T => by
    obtain ⟨h1, h2⟩ := hr W T
    exact ⟨v, h1, h2⟩
  | D :: Ds, W, T => by
    have T : Sts w F W (objR D (.deferred (some [])) :: (Ds.map markR ++ R)) := T
    have hD := T.obj
    exact ⟨by simp, .inl ⟨D, W.putObj D (.deferred none), rfl, run_takeDeferred hD, leavesMs hr Ds _ (T.putObj (.deferred none)).drop⟩⟩
/-- A return behind many marks. -/
theorem retMs {a : Act} {Q : Ending → World → Prop} {v : Value} {Ds : List Nat} (T : Sts w F W (marksR Ds :: R)) (hr : ∀ W', Sts w F W' R → (results fn a.tmps).run P W' = .ok v W' ∧ Q (.returned v) W') (hd : a.defers = Ds.map collD) : bodyPostM Fence.wide n P fn Q .ret a W := by
  show LeavesInM _ _ _ _ _ _ a.defers _ _
  rw [hd]
  exact leavesMs hr Ds W T.unpack
end
end Go.Proofs.Ytnjgjhjilolanaa
