/- Several texts in one. -/
import Derived.Test.YtnjgjhjilolanaaH19
import Derived.Test.YtnjgjhjilolanaaH28
import Derived.Test.YtnjgjhjilolanaaH26
import Derived.Test.YtnjgjhjilolanaaH11
import Derived.Test.YtnjgjhjilolanaaH18
import Derived.Test.YtnjgjhjilolanaaH1
import Derived.Test.YtnjgjhjilolanaaH14
import Derived.Sort.LotD5
import Derived.Laws.Bits64
import Derived.Laws.Bits64b
/- Layer 19, plain: what a run does when it goes. No walk stands here. -/
namespace Go.Proofs.Ytnjgjhjilolanaa
open Go.RowKit Go.Shelf
set_option linter.unusedVariables false
/-- A graph's order, as a function that compares. -/
noncomputable abbrev cmpG (b gc gd : Nat) (m : RowsMK) (q : RowsML) : CmpK := ⟨73, #[.pointer (some ⟨b, 0, none⟩)], grL b gc gd m q, befM m⟩
theorem cmpG_ok (b gc gd : Nat) (m : RowsMK) (q : RowsML) (hm : 0 ≤ m.n ∧ m.n ≤ 7) : (cmpG b gc gd m q).Ok where
  reads x y := grBeforeR b gc gd m q hm x y
  swo := ltM_swo m
  enter args w := by rfl
theorem sortsG {K : Nat} (hK : K ≤ 511) : SortsTo K := fun w W F R b gc gd g c m q d n hd hn hm T =>
  sorts511C w W F R g c (cmpG b gc gd m q) d n hd (by omega) (cmpG_ok b gc gd m q hm) T
theorem doneM_app (q : RowsML) (a c : List Item) : doneM q (a ++ c) = doneM (doneM q a) c := by unfold doneM; rw [List.foldl_append]
theorem doneM_is : ∀ (l : List Item) (q : RowsML), (∀ y ∈ l, goodI y q.n = true) → ∀ y, (getML (doneM q l) y).isSome = true ↔ (getML q y).isSome = true ∨ y ∈ l
  | [], q, h, y => by simp [doneM]
  | x :: l, q, h, y => by
    have hx : goodI x q.n = true := h x (by simp)
    have h1 := doneM_is l (setML q x true) (fun z hz => by rw [setML_n]; exact h z (by simp [hz])) y
    rw [show doneM q (x :: l) = doneM (setML q x true) l from rfl, h1]
    by_cases e : x = y
    · subst e; rw [getML_set_same _ hx]; simp
    · rw [getML_set_other _ hx e]
      have e2 : ¬ y = x := fun e' => e e'.symm
      simp [e2]
/-- What is open behind some parts. -/
noncomputable def finO : List (List Item) → RowsML → List Item → List Item
  | [], q, O => O
  | p :: P, q, O => finO P (doneM q p) (leftO (doneM q p) O)
theorem finO_snoc : ∀ (P : List (List Item)) (p : List Item) (q : RowsML) (O : List Item), finO (P ++ [p]) q O = leftO (doneM q (P ++ [p]).flatten) (finO P q O)
  | [], p, q, O => by simp [finO]
  | a :: P, p, q, O => by
    show finO (P ++ [p]) (doneM q a) (leftO (doneM q a) O) = leftO (doneM q (a ++ (P ++ [p]).flatten)) (finO P (doneM q a) (leftO (doneM q a) O))
    rw [finO_snoc P p, doneM_app]
theorem finO_sub : ∀ (P : List (List Item)) (q : RowsML) (O : List Item), (finO P q O).Sublist O
  | [], q, O => List.Sublist.refl _
  | p :: P, q, O => (finO_sub P _ _).trans List.filter_sublist
/-- What a run does, over some items. -/
def GoR (m : RowsMK) (its : List Item) : List Item → RowsML → List Item → RowsML → List Item → List Item → Prop
  | [], q, O, q', O', l => q' = q ∧ O' = O ∧ l = []
  | x :: xs, q, O, q', O', l => ∃ P M l2, OrdM m q its x P M ∧ l = P.flatten ++ l2 ∧ GoR m its xs (doneM q P.flatten) (finO P q O) q' O' l2
section
variable {m : RowsMK} {its : List Item}
theorem GoR.snoc : ∀ {xs : List Item} {q : RowsML} {O : List Item} {q1 : RowsML} {O1 l1 : List Item}, GoR m its xs q O q1 O1 l1 → ∀ {x : Item} {P : List (List Item)} {M : List Item}, OrdM m q1 its x P M → GoR m its (xs ++ [x]) q O (doneM q1 P.flatten) (finO P q1 O1) (l1 ++ P.flatten)
  | [], q, O, q1, O1, l1, h, x, P, M, ho => by
    obtain ⟨rfl, rfl, rfl⟩ := h
    exact ⟨P, M, [], ho, by simp, rfl, rfl, rfl⟩
  | a :: xs, q, O, q1, O1, l1, h, x, P, M, ho => by
    obtain ⟨P1, M1, l2, h1, rfl, h2⟩ := h
    exact ⟨P1, M1, l2 ++ P.flatten, h1, by rw [List.append_assoc], h2.snoc ho⟩
theorem GoR.done : ∀ {xs : List Item} {q : RowsML} {O : List Item} {q1 : RowsML} {O1 l1 : List Item}, GoR m its xs q O q1 O1 l1 → q1 = doneM q l1
  | [], q, O, q1, O1, l1, h => by obtain ⟨rfl, rfl, rfl⟩ := h; rfl
  | a :: xs, q, O, q1, O1, l1, h => by
    obtain ⟨P1, M1, l2, h1, rfl, h2⟩ := h
    rw [h2.done, doneM_app]
theorem GoR.sub : ∀ {xs : List Item} {q : RowsML} {O : List Item} {q1 : RowsML} {O1 l1 : List Item}, GoR m its xs q O q1 O1 l1 → O1.Sublist O
  | [], q, O, q1, O1, l1, h => by obtain ⟨rfl, rfl, rfl⟩ := h; exact List.Sublist.refl _
  | a :: xs, q, O, q1, O1, l1, h => by
    obtain ⟨P1, M1, l2, h1, rfl, h2⟩ := h
    exact h2.sub.trans (finO_sub _ _ _)
theorem GoR.one : ∀ {xs : List Item} {q : RowsML} {O : List Item} {q1 : RowsML} {O1 l1 : List Item} {q2 : RowsML} {O2 l2 : List Item}, GoR m its xs q O q1 O1 l1 → GoR m its xs q O q2 O2 l2 → q1 = q2 ∧ O1 = O2 ∧ l1 = l2
  | [], q, O, q1, O1, l1, q2, O2, l2, h, h' => by
    obtain ⟨rfl, rfl, rfl⟩ := h
    obtain ⟨rfl, rfl, rfl⟩ := h'
    exact ⟨rfl, rfl, rfl⟩
  | a :: xs, q, O, q1, O1, l1, q2, O2, l2, h, h' => by
    obtain ⟨P1, M1, k1, h1, rfl, h2⟩ := h
    obtain ⟨P2, M2, k2, h3, rfl, h4⟩ := h'
    obtain ⟨rfl, rfl⟩ := ord_unique h1 h3
    obtain ⟨rfl, rfl, rfl⟩ := h2.one h4
    exact ⟨rfl, rfl, rfl⟩
/-- Where nothing can be done, nothing is. -/
theorem GoR.none (G : GInv m its) : ∀ {xs : List Item} {q : RowsML} {O : List Item} {q1 : RowsML} {O1 l1 : List Item}, (∀ x ∈ xs, Bad m q x) → GoR m its xs q O q1 O1 l1 → q1 = q ∧ O1 = O ∧ l1 = []
  | [], q, O, q1, O1, l1, _, h => h
  | a :: xs, q, O, q1, O1, l1, hb, h => by
    obtain ⟨P1, M1, k1, h1, rfl, h2⟩ := h
    have hba := hb a (by simp)
    have hP : P1 = [] := by
      by_cases hM : M1 = []
      · rcases h1 with ⟨_, h, _⟩ | ⟨⟨a1, a2⟩, h⟩
        · exact h
        · exact absurd hM (ord_missing G a1 a2 (.inr ⟨⟨a1, a2⟩, h⟩) hba)
      · rcases h1 with ⟨_, h, _⟩ | ⟨⟨a1, a2⟩, h⟩
        · exact h
        · exact ((ord_all G a1 a2 (.inr ⟨⟨a1, a2⟩, h⟩)).2.2.2.1 hM).1
    subst hP
    have h3 := GoR.none G (fun x hx => hb x (by simp [hx])) h2
    obtain ⟨rfl, rfl, rfl⟩ := h3
    exact ⟨rfl, rfl, rfl⟩
theorem waits_done {m : RowsMK} {q : RowsML} {l : List Item} (hg : ∀ y ∈ l, goodI y q.n = true) {y z : Item} (hz : z ∈ waitsM m q y) (hn : z ∉ l) : z ∈ waitsM m (doneM q l) y := by
  unfold waitsM at hz ⊢
  rw [List.mem_filter] at hz ⊢
  refine ⟨hz.1, ?_⟩
  have h := hz.2
  unfold waitB at h ⊢
  simp only [Bool.and_eq_true, Bool.not_eq_true'] at h ⊢
  refine ⟨h.1, ?_⟩
  cases hc : (getML (doneM q l) z).isSome with
  | false => rfl
  | true =>
    rcases (doneM_is l q hg z).1 hc with h2 | h2
    · rw [h.2] at h2; cases h2
    · exact absurd h2 hn
/-- What can't be done still can't, behind what can be. -/
theorem Bad.done {m : RowsMK} {q : RowsML} {l : List Item} (hg : ∀ y ∈ l, goodI y q.n = true) (hl : ∀ y ∈ l, (getMK m y).isSome = true ∧ ¬ Bad m q y) {y : Item} (h : Bad m q y) : Bad m (doneM q l) y := by
  have nov : ∀ y, (getML q y).isSome = false → y ∉ l → (getML (doneM q l) y).isSome = false := fun y h1 h2 => by
    cases hc : (getML (doneM q l) y).isSome with
    | false => rfl
    | true =>
      rcases (doneM_is l q hg y).1 hc with h3 | h3
      · rw [h1] at h3; cases h3
      · exact absurd h3 h2
  induction h with
  | here c1 c2 c3 c4 =>
    refine .here c1 (nov _ c2 fun hc => (hl _ hc).2 (.here c1 c2 c3 c4)) (waits_done hg c3 fun hc => ?_) c4
    have := (hl _ hc).1
    rw [c4] at this; cases this
  | up c1 c2 c3 c4 ih =>
    exact .up c1 (nov _ c2 fun hc => (hl _ hc).2 (.up c1 c2 c3 c4)) (waits_done hg c3 fun hc => (hl _ hc).2 c4) ih
theorem ord_notBad (G : GInv m its) {q : RowsML} {x : Item} {P : List (List Item)} {M : List Item} (h : OrdM m q its x P M) : ∀ y ∈ P.flatten, (getMK m y).isSome = true ∧ (getML q y).isSome = false ∧ ¬ Bad m q y := by
  rcases h with ⟨_, rfl, _⟩ | ⟨⟨a1, a2⟩, h⟩
  · simp
  · have h : OrdM m q its x P M := .inr ⟨⟨a1, a2⟩, h⟩
    obtain ⟨-, -, h3, h4, h5, -⟩ := ord_all G a1 a2 h
    by_cases hM : M = []
    · obtain ⟨h6, h7⟩ := h5 hM
      have : ∀ y, Bad m q y → y ∈ P.flatten → False := by
        intro y hb
        induction hb with
        | here c1 c2 c3 c4 =>
          intro hy
          have := (h3 _ (h7 _ hy _ c3)).2
          rw [c4] at this; cases this
        | up c1 c2 c3 _ ih =>
          intro hy
          exact ih (h7 _ hy _ c3)
      exact fun y hy => ⟨(h3 y hy).2, (h3 y hy).1, fun hb => this y hb hy⟩
    · rw [(h4 hM).1]
      simp
theorem leftO_mem {q : RowsML} {O : List Item} {y : Item} : y ∈ leftO q O ↔ y ∈ O ∧ (getML q y).isSome = false := by
  unfold leftO
  rw [List.mem_filter]
  unfold ovB
  simp
theorem finO_mem : ∀ (P : List (List Item)) (q : RowsML) (O : List Item), (∀ y ∈ P.flatten, goodI y q.n = true) → (∀ y ∈ O, (getML q y).isSome = false) → ∀ y, y ∈ finO P q O ↔ y ∈ O ∧ (getML (doneM q P.flatten) y).isSome = false
  | [], q, O, hg, hO, y => ⟨fun h => ⟨h, hO y h⟩, fun h => h.1⟩
  | p :: P, q, O, hg, hO, y => by
    have hgp : ∀ y ∈ p, goodI y q.n = true := fun y hy => hg y (by simp [hy])
    have hgP : ∀ y ∈ P.flatten, goodI y (doneM q p).n = true := fun y hy => by
      rw [doneM_n]
      exact hg y (by rw [List.flatten_cons]; exact List.mem_append.2 (.inr hy))
    show y ∈ finO P (doneM q p) (leftO (doneM q p) O) ↔ _
    rw [finO_mem P (doneM q p) _ hgP (fun z hz => (leftO_mem.1 hz).2), leftO_mem, List.flatten_cons, doneM_app]
    constructor
    · rintro ⟨⟨h1, h2⟩, h3⟩
      exact ⟨h1, h3⟩
    · rintro ⟨h1, h3⟩
      refine ⟨⟨h1, ?_⟩, h3⟩
      cases hc : (getML (doneM q p) y).isSome with
      | false => rfl
      | true =>
        have := (doneM_is P.flatten (doneM q p) hgP y).2 (.inl hc)
        rw [h3] at this; cases this
/-- Behind a run what is left can't be done. -/
theorem GoR.bad (G : GInv m its) : ∀ {xs : List Item} {q : RowsML} {O : List Item} {q1 : RowsML} {O1 l1 : List Item}, m.n = q.n → (∀ y ∈ O, (getML q y).isSome = false) → (∀ y ∈ xs, (getMK m y).isSome = true) → GoR m its xs q O q1 O1 l1 →
    (∀ y, y ∈ O1 ↔ y ∈ O ∧ (getML q1 y).isSome = false) ∧ (∀ y, (getML q y).isSome = true → (getML q1 y).isSome = true) ∧ (∀ y, Bad m q y → Bad m q1 y) ∧ (∀ y ∈ xs, (getML q1 y).isSome = false → Bad m q1 y)
  | [], q, O, q1, O1, l1, hn, hO, hx, h => by
    obtain ⟨rfl, rfl, rfl⟩ := h
    exact ⟨fun y => ⟨fun h => ⟨h, hO y h⟩, fun h => h.1⟩, fun y h => h, fun y h => h, by simp⟩
  | a :: xs, q, O, q1, O1, l1, hn, hO, hx, h => by
    obtain ⟨P1, M1, k1, h1, rfl, h2⟩ := h
    have hnb := ord_notBad G h1
    have hgood : ∀ y ∈ P1.flatten, goodI y q.n = true := fun y hy => by rw [← hn]; exact getMK_good (hnb y hy).1
    have hfm := finO_mem P1 q O hgood hO
    obtain ⟨e1, e2, e3, e4⟩ := GoR.bad G (by rw [doneM_n]; exact hn) (fun y hy => ((hfm y).1 hy).2) (fun y hy => hx y (by simp [hy])) h2
    have hmono : ∀ y, (getML q y).isSome = true → (getML q1 y).isSome = true := fun y hy => e2 y ((doneM_is _ q hgood y).2 (.inl hy))
    have hbd : ∀ y, Bad m q y → Bad m q1 y := fun y hb => e3 y (hb.done hgood fun z hz => ⟨(hnb z hz).1, (hnb z hz).2.2⟩)
    refine ⟨fun y => ?_, hmono, hbd, fun y hy hov => ?_⟩
    · rw [e1 y, hfm y]
      constructor
      · rintro ⟨⟨c1, c2⟩, c3⟩; exact ⟨c1, c3⟩
      · rintro ⟨c1, c3⟩
        refine ⟨⟨c1, ?_⟩, c3⟩
        cases hc : (getML (doneM q P1.flatten) y).isSome with
        | false => rfl
        | true => rw [e2 y hc] at c3; cases c3
    · rcases List.mem_cons.1 hy with rfl | hy
      · have hyq : (getML q y).isSome = false := by
          cases hc : (getML q y).isSome with
          | false => rfl
          | true => rw [hmono y hc] at hov; cases hov
        have hyc : (getMK m y).isSome = true := hx y (by simp)
        obtain ⟨-, -, -, f4, f5, -⟩ := ord_all G hyc hyq h1
        by_cases hM : M1 = []
        · have := e2 y ((doneM_is _ q hgood y).2 (.inr (f5 hM).1))
          rw [hov] at this; cases this
        · exact hbd y (f4 hM).2
      · exact e4 y hy hov
end
end Go.Proofs.Ytnjgjhjilolanaa
/- A loop over an iterator that turns things ahead of its first element. Nothing of the program stands here. -/
namespace Go.Proofs.Ytnjgjhjilolanaa
open Go.RowKit Go.Shelf
set_option linter.unusedVariables false
/-- An iterator that turns the things L0 into L, and then gives one of the rows O of elements, whatever else there is. -/
def GivesT {α : Type} (P : Program) (gf : Nat) (lb : Array Value) (enc : α → Array Value) (L0 L : List Res) (O : List α → Prop) : Prop :=
  ∀ (l : Nat) (own ownX : List α → List Res),
    (∀ (pre : List α) (x : α) (w : World) (F : Nat → Prop) (W1 : World) (R : List Res), (∃ post, O (pre ++ x :: post)) → Sts w F W1 (own pre ++ (L ++ R)) →
      YieldAt Fence.wide 2 P l (enc x) W1 fun e W' => (e = .returned (.bool true) ∧ Sts w F W' (own (pre ++ [x]) ++ (L ++ R))) ∨ (e = .returned (.bool false) ∧ Sts w F W' (ownX (pre ++ [x]) ++ (L ++ R)))) →
    ∀ (w : World) (F : Nat → Prop) (W : World) (R : List Res), Sts w F W (own [] ++ (L0 ++ R)) →
      CallsIn Fence.wide 3 P gf (#[.func (.yield l) #[] #[]] ++ lb) W fun e W' => (∃ v, e = .returned v) ∧ ((∃ xs, O xs ∧ Sts w F W' (own xs ++ (L ++ R))) ∨ ∃ pre, Sts w F W' (ownX pre ++ (L ++ R)))
section
variable {P : Program} {w W : World} {F : Nat → Prop}
theorem wp_rangeT {α : Type} {g : Operand} {ps : Array Tmp} {assign body : Code} {Q : Exit → Act → World → Prop} {a : Act} {gf : Nat} {lb : Array Value} {enc : α → Array Value} {O : List α → Prop}
    (own : List α → List Res) (ownX : Code → List α → List Res) (L0 L R : List Res) (Ax : List α → α → Act → List Res → Prop)
    (hg : a.eval g = .func (.func gf) #[] lb) (eg : ∀ args w, (callFunc gf args).run P w = .ok (.enter gf args) w) (hps : ∀ x, (enc x).size = ps.size)
    (hseq : GivesT P gf lb enc L0 L O)
    (T : Sts w F W (own [] ++ (L0 ++ R)))
    (hassign : ∀ (l : Nat) (pre : List α) (x : α) (w : World) (F : Nat → Prop) (W1 : World) (R : List Res) (K : Act → World → Prop), (∃ post, O (pre ++ x :: post)) → Sts w F W1 (own pre ++ (L ++ R)) → (∀ a' W' own', Ax pre x a' own' → Sts w F W' (own' ++ (L ++ R)) → K a' W') →
      assign.wpIn (Fence.wide.inRound l) 2 P (Exit.then K (fun _ _ _ => False)) { tmps := (ps.zip (enc x)).foldl (fun t (p, v) => t.setIfInBounds p v) a.tmps, defers := [] } W1)
    (hbody : ∀ (l : Nat) (pre : List α) (x : α) (a' : Act) (own' : List Res) (w : World) (F : Nat → Prop) (W1 : World) (R : List Res), (∃ post, O (pre ++ x :: post)) → Ax pre x a' own' → Sts w F W1 (own' ++ (L ++ R)) →
      body.wpIn (Fence.wide.inRound l) 2 P (roundD own ownX (L ++ R) pre x w F) a' W1)
    (hdone : ∀ (D : Nat) (W1 : World) (xs : List α), O xs → Sts w F W1 (objR D (.deferred (some [])) :: (own xs ++ (L ++ R))) → Q .normal { a with defers := { target := .collected D, args := #[] } :: a.defers } W1)
    (hstop : ∀ (D : Nat) (c : Code) (pre : List α) (W1 : World), Sts w F W1 (objR D (.deferred (some [])) :: (ownX c pre ++ (L ++ R))) → c.wpIn Fence.wide 4 P Q { a with defers := { target := .collected D, args := #[] } :: a.defers } W1) :
    (Code.rangeFunc g ps assign body).wpIn Fence.wide 4 P Q a W := by
  refine wpIn_rangeFunc fun fn hfn => ?_
  generalize hD : W.heap.size = D
  obtain ⟨rec, hrec⟩ : ∃ rec : LoopState → Option Code → Loop, rec = fun st pe => { state := st, pending := pe, fn, tmps := a.tmps, params := ps, assign, body, defers := D } := ⟨_, rfl⟩
  have T1 : Sts w F ((W.alloc (.deferred (some []))).alloc (.loop (rec .ready none))) (objR (D + 1) (.loop (rec .ready none)) :: objR D (.deferred (some [])) :: (own [] ++ (L0 ++ R))) := by
    have := (T.newObj (.deferred (some []))).newObj (.loop (rec .ready none))
    rw [World.size_alloc, hD] at this
    exact this
  refine ⟨D + 1, [{ target := .collected D, args := #[] }], (W.alloc (.deferred (some []))).alloc (.loop (rec .ready none)), { target := .fn (.func gf) lb, args := #[.func (.yield (D + 1)) #[] #[]] }, (W.alloc (.deferred (some []))).alloc (.loop (rec .ready none)), gf,
    #[.func (.yield (D + 1)) #[] #[]] ++ lb, (W.alloc (.deferred (some []))).alloc (.loop (rec .ready none)), ?_, ?_, ?_, ?_, fun _ => by omega, ?_⟩
  · have := run_enterLoop_outer (P := P) (w := W) fn a.tmps ps assign body
    rw [hD] at this
    rw [hrec]; exact this
  · simp only [resolve, hg]
    simp [go_sem]
  · intro f' hf'; simp [Target.leads] at hf'; subst hf'; trivial
  · simp [invoke, go_sem, eg]
  generalize (W.alloc (.deferred (some []))).alloc (.loop (rec .ready none)) = W1 at *
  refine (hseq (D + 1) (fun pre => objR (D + 1) (.loop (rec .ready none)) :: objR D (.deferred (some [])) :: own pre)
    (fun pre => [exR fun c : Code => packR (objR (D + 1) (.loop (rec .done (some c))) :: objR D (.deferred (some [])) :: ownX c pre)]) ?_ w F W1 R T1).mono ?_
  · intro pre x w2 F2 Wa R2 hx Ta
    have Ta : Sts w2 F2 Wa (objR (D + 1) (.loop (rec .ready none)) :: objR D (.deferred (some [])) :: (own pre ++ (L ++ R2))) := Ta
    have hy := run_yield (P := P) (args := enc x) Ta.obj (by rw [hrec]; exact hps x)
    rw [hrec] at hy
    refine ⟨fn, _, assign, body, hy, roundIn_of_wpIn hfn ?_⟩
    refine hassign (D + 1) pre x w2 F2 Wa (objR (D + 1) (.loop (rec .ready none)) :: objR D (.deferred (some [])) :: R2) _ hx (Ta.perm perm_front.symm) fun a' W' own' hax T' => ?_
    have Td := T'.perm perm_front
    refine ⟨_, run_beginRound Td.obj (by rw [hrec]), ?_⟩
    have Te := Td.putObj (.loop (rec .busy none))
    have er : ({ rec .ready none with state := .busy } : Loop) = rec .busy none := by rw [hrec]
    rw [er]
    have Tf := Te.perm (perm_front (X := own') (L := L) (R := R2)).symm
    have fin : ∀ (jump : Option Code) (M : List Res) (W3 : World), Sts w2 F2 W3 (M ++ (L ++ (objR (D + 1) (.loop (rec .busy none)) :: objR D (.deferred (some [])) :: R2))) →
        (Instr.endRound (D + 1) jump).run P W3 = .ok (.bool jump.isNone) (W3.putObj (D + 1) (.loop (rec (if jump.isNone then .ready else .done) jump))) ∧
        Sts w2 F2 (W3.putObj (D + 1) (.loop (rec (if jump.isNone then .ready else .done) jump))) (objR (D + 1) (.loop (rec (if jump.isNone then .ready else .done) jump)) :: objR D (.deferred (some [])) :: (M ++ (L ++ R2))) := fun jump M W3 hS => by
      have Th := hS.perm perm_front
      have h1 := run_endRound (P := P) jump Th.obj
      have e2 : ({ rec .busy none with state := if jump.isNone then .ready else .done, pending := jump } : Loop) = rec (if jump.isNone then .ready else .done) jump := by rw [hrec]
      rw [e2] at h1
      exact ⟨h1, Th.putObj _⟩
    have finX : ∀ (c : Code) (W3 : World), Sts w2 F2 W3 (ownX c (pre ++ [x]) ++ (L ++ (objR (D + 1) (.loop (rec .busy none)) :: objR D (.deferred (some [])) :: R2))) → ∃ v W4, (Instr.endRound (D + 1) (some c)).run P W3 = .ok v W4 ∧ v = .bool false ∧ Sts w2 F2 W4 ([exR fun c : Code => packR (objR (D + 1) (.loop (rec .done (some c))) :: objR D (.deferred (some [])) :: ownX c (pre ++ [x]))] ++ (L ++ R2)) := fun c W3 hS => by
      obtain ⟨h1, h2⟩ := fin (some c) _ W3 hS
      exact ⟨_, _, h1, rfl, Sts.close c (Sts.pack (L := objR (D + 1) (.loop (rec .done (some c))) :: objR D (.deferred (some [])) :: ownX c (pre ++ [x])) h2)⟩
    refine wpIn_mono (hbody (D + 1) pre x a' own' w2 F2 _ (objR (D + 1) (.loop (rec .busy none)) :: objR D (.deferred (some [])) :: R2) hx hax Tf) ?_
    rintro e a3 W3 hp
    cases e with
    | normal =>
      obtain ⟨h1, h2⟩ := fin none _ W3 hp
      exact ⟨_, _, h1, .inl ⟨rfl, h2⟩⟩
    | ret =>
      obtain ⟨v, W4, h1, rfl, h2⟩ := finX .ret W3 hp
      exact ⟨_, _, h1, .inr ⟨rfl, h2⟩⟩
    | exit id =>
      obtain ⟨v, W4, h1, rfl, h2⟩ := finX (.exit id) W3 hp
      exact ⟨_, _, h1, .inr ⟨rfl, h2⟩⟩
    | goto t =>
      obtain ⟨v, W4, h1, rfl, h2⟩ := finX (.goto t) W3 hp
      exact ⟨_, _, h1, .inr ⟨rfl, h2⟩⟩
    | panic ch => exact hp.elim
    | outgrown => exact hp.elim
  · rintro e W2 ⟨⟨v, rfl⟩, (⟨xs, hxs, hJ⟩ | ⟨pre, hJ⟩)⟩
    · have hJ : Sts w F W2 (objR (D + 1) (.loop (rec .ready none)) :: objR D (.deferred (some [])) :: (own xs ++ (L ++ R))) := hJ
      have h1 := run_endLoop (P := P) hJ.obj (by rw [hrec]; simp)
      have e1 : (rec .ready none).pending = none := by rw [hrec]
      rw [e1] at h1
      exact ⟨none, _, h1, hdone D _ xs hxs (hJ.putObj _).drop⟩
    · obtain ⟨c, hJ⟩ := Sts.open hJ
      have hJ : Sts w F W2 (objR (D + 1) (.loop (rec .done (some c))) :: objR D (.deferred (some [])) :: (ownX c pre ++ (L ++ R))) := hJ.unpack
      have h1 := run_endLoop (P := P) hJ.obj (by rw [hrec]; simp)
      have e1 : (rec .done (some c)).pending = some c := by rw [hrec]
      rw [e1] at h1
      exact ⟨some c, _, h1, hstop D c pre _ (hJ.putObj _).drop⟩
end
end Go.Proofs.Ytnjgjhjilolanaa
/- Layer 18: what the document tells of a graph's order, at its smallest. -/
namespace Go.Proofs.Ytnjgjhjilolanaa
open Go.RowKit Go.Shelf
set_option linter.unusedVariables false
set_option maxRecDepth 20000
attribute [local go_sem] Oper.semAt_some
attribute [local go_sem] row_alloc row_drew row_drewN row_ext row_setCell row_setRow size_ext setRow_alloc setRow_drew loadOf storeOf piece_lit loadVal_at storeVal_at allOne_lit buildOf buildRes_some
attribute [local go_sem high] cell_alloc frozen_alloc setCell_alloc cell_ext frozen_ext cell_setRow frozen_setRow
attribute [local go_sem ↓] TDeed_ld0 TDeed_st0 TDeed_fd0 TDeed_bd0
attribute [local go_sem] TDeed_size TDeed_one TDeed_piece TDeed_c0 TDeed_c1 TDeed_c2 TDeed_c3 TDeed_c4 TDeed_c5 TDeed_set_kind TDeed_set_key TDeed_set_val TDeed_set_ver TDeed_set_ses TDeed_set_num TDeed_ld TDeed_st TDeed_f_kind TDeed_f_key TDeed_f_val TDeed_f_ver TDeed_f_ses TDeed_f_num TDeed_bd TDeed_fl TDeed_fl_kind TDeed_fl_key TDeed_fl_val TDeed_fl_ver TDeed_fl_ses TDeed_fl_num
attribute [local go_sem high] TDeed_eql TDeed_neq
attribute [local go_sem ↓] index_deps0 load_deps0 store_deps0
attribute [local go_sem] DV_piece DV_size DV_one index_deps load_deps store_deps
attribute [local go_sem high] TDeps_eql TDeps_neq
attribute [local go_sem ↓] TCall_ld0 TCall_st0 TCall_fd0 TCall_bd0
attribute [local go_sem] TCall_size TCall_one TCall_piece TCall_c0 TCall_c1 TCall_c2 TCall_c3 TCall_c4 TCall_c5 TCall_c6 TCall_c7 TCall_c8 TCall_c9 TCall_c10 TCall_c11 TCall_c12 TCall_c13 TCall_p_deed TCall_put_deed TCall_p_deps TCall_put_deps TCall_set_seq TCall_ld TCall_st TCall_f_deed TCall_f_deps TCall_f_seq TCall_bd TCall_fl TCall_fl_deed TCall_fl_deps TCall_fl_seq
attribute [local go_sem high] TCall_eql TCall_neq
attribute [local go_sem ↓] TItem_ld0 TItem_st0 TItem_fd0 TItem_bd0
attribute [local go_sem] TItem_size TItem_one TItem_piece TItem_c0 TItem_c1 TItem_set_rep TItem_set_num TItem_ld TItem_st TItem_f_rep TItem_f_num TItem_bd TItem_fl TItem_fl_rep TItem_fl_num
attribute [local go_sem high] TItem_eql TItem_neq
theorem dps_build0 (p : Array (Nat × Value)) : Instr.build 45 p = buildS 45 p := rfl
theorem dps_buildA (w : World) : (buildS 45 #[(0, .int .i64 0), (1, .int .i64 1)]).run Try.prog w = .ok (.agg (DV dpA)) w := by kernel_rfl
theorem dps_buildB (w : World) : (buildS 45 #[(0, .int .i64 1)]).run Try.prog w = .ok (.agg (DV dpB)) w := by kernel_rfl
attribute [local go_sem ↓] dps_build0
attribute [local go_sem] dps_buildA dps_buildB
section
variable {w W : World} {R : List Res}
end
end Go.Proofs.Ytnjgjhjilolanaa
/- Layer 18: what is more than is played. -/
namespace Go.Proofs.Ytnjgjhjilolanaa
open Go.RowKit Go.Shelf
set_option linter.unusedVariables false
set_option maxRecDepth 20000
attribute [local go_sem] Oper.semAt_some
def greatG (n : Int) (k : Nat) : Bool := (decide (n ≠ 3) && decide (n ≠ 5) && decide (n ≠ 7)) || decide (25 < k)
theorem great_no {n : Int} {k : Nat} (h : greatG n k = false) : (n = 3 ∨ n = 5 ∨ n = 7) ∧ k ≤ 25 := by
  unfold greatG at h
  simp at h
  constructor
  · by_cases h3 : n = 3
    · exact .inl h3
    · by_cases h5 : n = 5
      · exact .inr (.inl h5)
      · exact .inr (.inr (h.1 h3 h5))
  · omega
end Go.Proofs.Ytnjgjhjilolanaa
/- Items in a slice of the call's own, sorted in their place by a graph's order: the pivot. -/
namespace Go.Proofs.Ytnjgjhjilolanaa
open Go.RowKit Go.Shelf
open Go.Sort (swp order2 median choosePivot)
set_option linter.unusedVariables false
set_option maxRecDepth 20000
attribute [local go_sem] row_alloc row_drew row_drewN row_ext row_setCell row_setRow size_ext setRow_alloc setRow_drew loadOf storeOf piece_lit loadVal_at storeVal_at allOne_lit buildOf buildRes_some
attribute [local go_sem high] cell_alloc frozen_alloc setCell_alloc cell_ext frozen_ext cell_setRow frozen_setRow
attribute [local go_sem ↓] TDeed_ld0 TDeed_st0 TDeed_fd0 TDeed_bd0
attribute [local go_sem] TDeed_size TDeed_one TDeed_piece TDeed_c0 TDeed_c1 TDeed_c2 TDeed_c3 TDeed_c4 TDeed_c5 TDeed_set_kind TDeed_set_key TDeed_set_val TDeed_set_ver TDeed_set_ses TDeed_set_num TDeed_ld TDeed_st TDeed_f_kind TDeed_f_key TDeed_f_val TDeed_f_ver TDeed_f_ses TDeed_f_num TDeed_bd TDeed_fl TDeed_fl_kind TDeed_fl_key TDeed_fl_val TDeed_fl_ver TDeed_fl_ses TDeed_fl_num
attribute [local go_sem high] TDeed_eql TDeed_neq
attribute [local go_sem ↓] index_deps0 load_deps0 store_deps0
attribute [local go_sem] DV_piece DV_size DV_one index_deps load_deps store_deps
attribute [local go_sem high] TDeps_eql TDeps_neq
attribute [local go_sem ↓] TCall_ld0 TCall_st0 TCall_fd0 TCall_bd0
attribute [local go_sem] TCall_size TCall_one TCall_piece TCall_c0 TCall_c1 TCall_c2 TCall_c3 TCall_c4 TCall_c5 TCall_c6 TCall_c7 TCall_c8 TCall_c9 TCall_c10 TCall_c11 TCall_c12 TCall_c13 TCall_p_deed TCall_put_deed TCall_p_deps TCall_put_deps TCall_set_seq TCall_ld TCall_st TCall_f_deed TCall_f_deps TCall_f_seq TCall_bd TCall_fl TCall_fl_deed TCall_fl_deps TCall_fl_seq
attribute [local go_sem high] TCall_eql TCall_neq
attribute [local go_sem ↓] TItem_ld0 TItem_st0 TItem_fd0 TItem_bd0
attribute [local go_sem] TItem_size TItem_one TItem_piece TItem_c0 TItem_c1 TItem_set_rep TItem_set_num TItem_ld TItem_st TItem_f_rep TItem_f_num TItem_bd TItem_fl TItem_fl_rep TItem_fl_num
attribute [local go_sem high] TItem_eql TItem_neq
section
variable {w W : World} {F : Nat → Prop} {R : List Res} {b gc gd g c : Nat} {m : RowsMK} {q : RowsML} {d : Array Item}
end
end Go.Proofs.Ytnjgjhjilolanaa
/- Items in a slice of the call's own, sorted in their place by a graph's order: a part turned round, the heap. -/
namespace Go.Proofs.Ytnjgjhjilolanaa
open Go.RowKit Go.Shelf
open Go.Sort (swp reverseLoop reverseRange siftDown heapBuild heapPop heapSort)
set_option linter.unusedVariables false
set_option maxRecDepth 20000
attribute [local go_sem] row_alloc row_drew row_drewN row_ext row_setCell row_setRow size_ext setRow_alloc setRow_drew loadOf storeOf piece_lit loadVal_at storeVal_at allOne_lit buildOf buildRes_some
attribute [local go_sem high] cell_alloc frozen_alloc setCell_alloc cell_ext frozen_ext cell_setRow frozen_setRow
attribute [local go_sem ↓] TDeed_ld0 TDeed_st0 TDeed_fd0 TDeed_bd0
attribute [local go_sem] TDeed_size TDeed_one TDeed_piece TDeed_c0 TDeed_c1 TDeed_c2 TDeed_c3 TDeed_c4 TDeed_c5 TDeed_set_kind TDeed_set_key TDeed_set_val TDeed_set_ver TDeed_set_ses TDeed_set_num TDeed_ld TDeed_st TDeed_f_kind TDeed_f_key TDeed_f_val TDeed_f_ver TDeed_f_ses TDeed_f_num TDeed_bd TDeed_fl TDeed_fl_kind TDeed_fl_key TDeed_fl_val TDeed_fl_ver TDeed_fl_ses TDeed_fl_num
attribute [local go_sem high] TDeed_eql TDeed_neq
attribute [local go_sem ↓] index_deps0 load_deps0 store_deps0
attribute [local go_sem] DV_piece DV_size DV_one index_deps load_deps store_deps
attribute [local go_sem high] TDeps_eql TDeps_neq
attribute [local go_sem ↓] TCall_ld0 TCall_st0 TCall_fd0 TCall_bd0
attribute [local go_sem] TCall_size TCall_one TCall_piece TCall_c0 TCall_c1 TCall_c2 TCall_c3 TCall_c4 TCall_c5 TCall_c6 TCall_c7 TCall_c8 TCall_c9 TCall_c10 TCall_c11 TCall_c12 TCall_c13 TCall_p_deed TCall_put_deed TCall_p_deps TCall_put_deps TCall_set_seq TCall_ld TCall_st TCall_f_deed TCall_f_deps TCall_f_seq TCall_bd TCall_fl TCall_fl_deed TCall_fl_deps TCall_fl_seq
attribute [local go_sem high] TCall_eql TCall_neq
attribute [local go_sem ↓] TItem_ld0 TItem_st0 TItem_fd0 TItem_bd0
attribute [local go_sem] TItem_size TItem_one TItem_piece TItem_c0 TItem_c1 TItem_set_rep TItem_set_num TItem_ld TItem_st TItem_f_rep TItem_f_num TItem_bd TItem_fl TItem_fl_rep TItem_fl_num
attribute [local go_sem high] TItem_eql TItem_neq
-- HT : the things at hand (e the items) at the region's world; i, j < n = e.size (hes) and their bounds as Int facts
section
variable {w W : World} {F : Nat → Prop} {R : List Res} {b gc gd g c : Nat} {m : RowsMK} {q : RowsML} {d : Array Item}
end
end Go.Proofs.Ytnjgjhjilolanaa
/- Items in a slice of the call's own, sorted in their place by a graph's order: by a heap. -/
namespace Go.Proofs.Ytnjgjhjilolanaa
open Go.RowKit Go.Shelf
open Go.Sort (swp siftDown heapBuild heapPop heapSort)
set_option linter.unusedVariables false
set_option maxRecDepth 20000
attribute [local go_sem] row_alloc row_drew row_drewN row_ext row_setCell row_setRow size_ext setRow_alloc setRow_drew loadOf storeOf piece_lit loadVal_at storeVal_at allOne_lit buildOf buildRes_some
attribute [local go_sem high] cell_alloc frozen_alloc setCell_alloc cell_ext frozen_ext cell_setRow frozen_setRow
attribute [local go_sem ↓] TDeed_ld0 TDeed_st0 TDeed_fd0 TDeed_bd0
attribute [local go_sem] TDeed_size TDeed_one TDeed_piece TDeed_c0 TDeed_c1 TDeed_c2 TDeed_c3 TDeed_c4 TDeed_c5 TDeed_set_kind TDeed_set_key TDeed_set_val TDeed_set_ver TDeed_set_ses TDeed_set_num TDeed_ld TDeed_st TDeed_f_kind TDeed_f_key TDeed_f_val TDeed_f_ver TDeed_f_ses TDeed_f_num TDeed_bd TDeed_fl TDeed_fl_kind TDeed_fl_key TDeed_fl_val TDeed_fl_ver TDeed_fl_ses TDeed_fl_num
attribute [local go_sem high] TDeed_eql TDeed_neq
attribute [local go_sem ↓] index_deps0 load_deps0 store_deps0
attribute [local go_sem] DV_piece DV_size DV_one index_deps load_deps store_deps
attribute [local go_sem high] TDeps_eql TDeps_neq
attribute [local go_sem ↓] TCall_ld0 TCall_st0 TCall_fd0 TCall_bd0
attribute [local go_sem] TCall_size TCall_one TCall_piece TCall_c0 TCall_c1 TCall_c2 TCall_c3 TCall_c4 TCall_c5 TCall_c6 TCall_c7 TCall_c8 TCall_c9 TCall_c10 TCall_c11 TCall_c12 TCall_c13 TCall_p_deed TCall_put_deed TCall_p_deps TCall_put_deps TCall_set_seq TCall_ld TCall_st TCall_f_deed TCall_f_deps TCall_f_seq TCall_bd TCall_fl TCall_fl_deed TCall_fl_deps TCall_fl_seq
attribute [local go_sem high] TCall_eql TCall_neq
attribute [local go_sem ↓] TItem_ld0 TItem_st0 TItem_fd0 TItem_bd0
attribute [local go_sem] TItem_size TItem_one TItem_piece TItem_c0 TItem_c1 TItem_set_rep TItem_set_num TItem_ld TItem_st TItem_f_rep TItem_f_num TItem_bd TItem_fl TItem_fl_rep TItem_fl_num
attribute [local go_sem high] TItem_eql TItem_neq
section
variable {w W : World} {F : Nat → Prop} {R : List Res} {b gc gd g c : Nat} {m : RowsMK} {q : RowsML} {d : Array Item}
end
end Go.Proofs.Ytnjgjhjilolanaa
/- Items in a slice of the call's own, sorted in their place by a graph's order: parted. Printed by part.py. -/
namespace Go.Proofs.Ytnjgjhjilolanaa
open Go.RowKit Go.Shelf
open Go.Sort (swp scanUp scanDown partLoop partition partEqLoop partitionEqual partLoop_eq partEqLoop_eq scanUp_ge scanDown_le)
set_option linter.unusedVariables false
set_option maxRecDepth 20000
attribute [local go_sem] row_alloc row_drew row_drewN row_ext row_setCell row_setRow size_ext setRow_alloc setRow_drew loadOf storeOf piece_lit loadVal_at storeVal_at allOne_lit buildOf buildRes_some
attribute [local go_sem high] cell_alloc frozen_alloc setCell_alloc cell_ext frozen_ext cell_setRow frozen_setRow
attribute [local go_sem ↓] TDeed_ld0 TDeed_st0 TDeed_fd0 TDeed_bd0
attribute [local go_sem] TDeed_size TDeed_one TDeed_piece TDeed_c0 TDeed_c1 TDeed_c2 TDeed_c3 TDeed_c4 TDeed_c5 TDeed_set_kind TDeed_set_key TDeed_set_val TDeed_set_ver TDeed_set_ses TDeed_set_num TDeed_ld TDeed_st TDeed_f_kind TDeed_f_key TDeed_f_val TDeed_f_ver TDeed_f_ses TDeed_f_num TDeed_bd TDeed_fl TDeed_fl_kind TDeed_fl_key TDeed_fl_val TDeed_fl_ver TDeed_fl_ses TDeed_fl_num
attribute [local go_sem high] TDeed_eql TDeed_neq
attribute [local go_sem ↓] index_deps0 load_deps0 store_deps0
attribute [local go_sem] DV_piece DV_size DV_one index_deps load_deps store_deps
attribute [local go_sem high] TDeps_eql TDeps_neq
attribute [local go_sem ↓] TCall_ld0 TCall_st0 TCall_fd0 TCall_bd0
attribute [local go_sem] TCall_size TCall_one TCall_piece TCall_c0 TCall_c1 TCall_c2 TCall_c3 TCall_c4 TCall_c5 TCall_c6 TCall_c7 TCall_c8 TCall_c9 TCall_c10 TCall_c11 TCall_c12 TCall_c13 TCall_p_deed TCall_put_deed TCall_p_deps TCall_put_deps TCall_set_seq TCall_ld TCall_st TCall_f_deed TCall_f_deps TCall_f_seq TCall_bd TCall_fl TCall_fl_deed TCall_fl_deps TCall_fl_seq
attribute [local go_sem high] TCall_eql TCall_neq
attribute [local go_sem ↓] TItem_ld0 TItem_st0 TItem_fd0 TItem_bd0
attribute [local go_sem] TItem_size TItem_one TItem_piece TItem_c0 TItem_c1 TItem_set_rep TItem_set_num TItem_ld TItem_st TItem_f_rep TItem_f_num TItem_bd TItem_fl TItem_fl_rep TItem_fl_num
attribute [local go_sem high] TItem_eql TItem_neq
section
variable {w W : World} {F : Nat → Prop} {R : List Res} {b gc gd g c : Nat} {m : RowsMK} {q : RowsML} {d : Array Item}
end
end Go.Proofs.Ytnjgjhjilolanaa
/- Items in a slice of the call's own, sorted in their place by a graph's order: parted, equal ones. Printed by part.py. -/
namespace Go.Proofs.Ytnjgjhjilolanaa
open Go.RowKit Go.Shelf
open Go.Sort (swp scanUp scanDown partLoop partition partEqLoop partitionEqual partLoop_eq partEqLoop_eq scanUp_ge scanDown_le)
set_option linter.unusedVariables false
set_option maxRecDepth 20000
attribute [local go_sem] row_alloc row_drew row_drewN row_ext row_setCell row_setRow size_ext setRow_alloc setRow_drew loadOf storeOf piece_lit loadVal_at storeVal_at allOne_lit buildOf buildRes_some
attribute [local go_sem high] cell_alloc frozen_alloc setCell_alloc cell_ext frozen_ext cell_setRow frozen_setRow
attribute [local go_sem ↓] TDeed_ld0 TDeed_st0 TDeed_fd0 TDeed_bd0
attribute [local go_sem] TDeed_size TDeed_one TDeed_piece TDeed_c0 TDeed_c1 TDeed_c2 TDeed_c3 TDeed_c4 TDeed_c5 TDeed_set_kind TDeed_set_key TDeed_set_val TDeed_set_ver TDeed_set_ses TDeed_set_num TDeed_ld TDeed_st TDeed_f_kind TDeed_f_key TDeed_f_val TDeed_f_ver TDeed_f_ses TDeed_f_num TDeed_bd TDeed_fl TDeed_fl_kind TDeed_fl_key TDeed_fl_val TDeed_fl_ver TDeed_fl_ses TDeed_fl_num
attribute [local go_sem high] TDeed_eql TDeed_neq
attribute [local go_sem ↓] index_deps0 load_deps0 store_deps0
attribute [local go_sem] DV_piece DV_size DV_one index_deps load_deps store_deps
attribute [local go_sem high] TDeps_eql TDeps_neq
attribute [local go_sem ↓] TCall_ld0 TCall_st0 TCall_fd0 TCall_bd0
attribute [local go_sem] TCall_size TCall_one TCall_piece TCall_c0 TCall_c1 TCall_c2 TCall_c3 TCall_c4 TCall_c5 TCall_c6 TCall_c7 TCall_c8 TCall_c9 TCall_c10 TCall_c11 TCall_c12 TCall_c13 TCall_p_deed TCall_put_deed TCall_p_deps TCall_put_deps TCall_set_seq TCall_ld TCall_st TCall_f_deed TCall_f_deps TCall_f_seq TCall_bd TCall_fl TCall_fl_deed TCall_fl_deps TCall_fl_seq
attribute [local go_sem high] TCall_eql TCall_neq
attribute [local go_sem ↓] TItem_ld0 TItem_st0 TItem_fd0 TItem_bd0
attribute [local go_sem] TItem_size TItem_one TItem_piece TItem_c0 TItem_c1 TItem_set_rep TItem_set_num TItem_ld TItem_st TItem_f_rep TItem_f_num TItem_bd TItem_fl TItem_fl_rep TItem_fl_num
attribute [local go_sem high] TItem_eql TItem_neq
section
variable {w W : World} {F : Nat → Prop} {R : List Res} {b gc gd g c : Nat} {m : RowsMK} {q : RowsML} {d : Array Item}
end
end Go.Proofs.Ytnjgjhjilolanaa
/- Items in a slice of the call's own, sorted in their place by a graph's order: are they sorted already? -/
namespace Go.Proofs.Ytnjgjhjilolanaa
open Go.RowKit Go.Shelf
open Go.Sort (swp scanSorted partialIns partialInsertionSort)
set_option linter.unusedVariables false
set_option maxRecDepth 20000
attribute [local go_sem] row_alloc row_drew row_drewN row_ext row_setCell row_setRow size_ext setRow_alloc setRow_drew loadOf storeOf piece_lit loadVal_at storeVal_at allOne_lit buildOf buildRes_some
attribute [local go_sem high] cell_alloc frozen_alloc setCell_alloc cell_ext frozen_ext cell_setRow frozen_setRow
attribute [local go_sem ↓] TDeed_ld0 TDeed_st0 TDeed_fd0 TDeed_bd0
attribute [local go_sem] TDeed_size TDeed_one TDeed_piece TDeed_c0 TDeed_c1 TDeed_c2 TDeed_c3 TDeed_c4 TDeed_c5 TDeed_set_kind TDeed_set_key TDeed_set_val TDeed_set_ver TDeed_set_ses TDeed_set_num TDeed_ld TDeed_st TDeed_f_kind TDeed_f_key TDeed_f_val TDeed_f_ver TDeed_f_ses TDeed_f_num TDeed_bd TDeed_fl TDeed_fl_kind TDeed_fl_key TDeed_fl_val TDeed_fl_ver TDeed_fl_ses TDeed_fl_num
attribute [local go_sem high] TDeed_eql TDeed_neq
attribute [local go_sem ↓] index_deps0 load_deps0 store_deps0
attribute [local go_sem] DV_piece DV_size DV_one index_deps load_deps store_deps
attribute [local go_sem high] TDeps_eql TDeps_neq
attribute [local go_sem ↓] TCall_ld0 TCall_st0 TCall_fd0 TCall_bd0
attribute [local go_sem] TCall_size TCall_one TCall_piece TCall_c0 TCall_c1 TCall_c2 TCall_c3 TCall_c4 TCall_c5 TCall_c6 TCall_c7 TCall_c8 TCall_c9 TCall_c10 TCall_c11 TCall_c12 TCall_c13 TCall_p_deed TCall_put_deed TCall_p_deps TCall_put_deps TCall_set_seq TCall_ld TCall_st TCall_f_deed TCall_f_deps TCall_f_seq TCall_bd TCall_fl TCall_fl_deed TCall_fl_deps TCall_fl_seq
attribute [local go_sem high] TCall_eql TCall_neq
attribute [local go_sem ↓] TItem_ld0 TItem_st0 TItem_fd0 TItem_bd0
attribute [local go_sem] TItem_size TItem_one TItem_piece TItem_c0 TItem_c1 TItem_set_rep TItem_set_num TItem_ld TItem_st TItem_f_rep TItem_f_num TItem_bd TItem_fl TItem_fl_rep TItem_fl_num
attribute [local go_sem high] TItem_eql TItem_neq
section
variable {w W : World} {F : Nat → Prop} {R : List Res} {b gc gd g c : Nat} {m : RowsMK} {q : RowsML} {d : Array Item}
end
end Go.Proofs.Ytnjgjhjilolanaa
/- Items in a slice of the call's own, sorted in their place by a graph's order: patterns broken. -/
namespace Go.Proofs.Ytnjgjhjilolanaa
open Go.RowKit Go.Shelf
open Go.Sort (swp xorNext xorNextN xorNext_toNat xorNextN_lt bitsLen breakStep breakPatterns)
set_option linter.unusedVariables false
set_option maxRecDepth 20000
attribute [local go_sem] row_alloc row_drew row_drewN row_ext row_setCell row_setRow size_ext setRow_alloc setRow_drew loadOf storeOf piece_lit loadVal_at storeVal_at allOne_lit buildOf buildRes_some
attribute [local go_sem high] cell_alloc frozen_alloc setCell_alloc cell_ext frozen_ext cell_setRow frozen_setRow
attribute [local go_sem ↓] TDeed_ld0 TDeed_st0 TDeed_fd0 TDeed_bd0
attribute [local go_sem] TDeed_size TDeed_one TDeed_piece TDeed_c0 TDeed_c1 TDeed_c2 TDeed_c3 TDeed_c4 TDeed_c5 TDeed_set_kind TDeed_set_key TDeed_set_val TDeed_set_ver TDeed_set_ses TDeed_set_num TDeed_ld TDeed_st TDeed_f_kind TDeed_f_key TDeed_f_val TDeed_f_ver TDeed_f_ses TDeed_f_num TDeed_bd TDeed_fl TDeed_fl_kind TDeed_fl_key TDeed_fl_val TDeed_fl_ver TDeed_fl_ses TDeed_fl_num
attribute [local go_sem high] TDeed_eql TDeed_neq
attribute [local go_sem ↓] index_deps0 load_deps0 store_deps0
attribute [local go_sem] DV_piece DV_size DV_one index_deps load_deps store_deps
attribute [local go_sem high] TDeps_eql TDeps_neq
attribute [local go_sem ↓] TCall_ld0 TCall_st0 TCall_fd0 TCall_bd0
attribute [local go_sem] TCall_size TCall_one TCall_piece TCall_c0 TCall_c1 TCall_c2 TCall_c3 TCall_c4 TCall_c5 TCall_c6 TCall_c7 TCall_c8 TCall_c9 TCall_c10 TCall_c11 TCall_c12 TCall_c13 TCall_p_deed TCall_put_deed TCall_p_deps TCall_put_deps TCall_set_seq TCall_ld TCall_st TCall_f_deed TCall_f_deps TCall_f_seq TCall_bd TCall_fl TCall_fl_deed TCall_fl_deps TCall_fl_seq
attribute [local go_sem high] TCall_eql TCall_neq
attribute [local go_sem ↓] TItem_ld0 TItem_st0 TItem_fd0 TItem_bd0
attribute [local go_sem] TItem_size TItem_one TItem_piece TItem_c0 TItem_c1 TItem_set_rep TItem_set_num TItem_ld TItem_st TItem_f_rep TItem_f_num TItem_bd TItem_fl TItem_fl_rep TItem_fl_num
attribute [local go_sem high] TItem_eql TItem_neq
section
variable {w W : World} {F : Nat → Prop} {R : List Res} {b gc gd g c : Nat} {m : RowsMK} {q : RowsML} {d : Array Item}
end
end Go.Proofs.Ytnjgjhjilolanaa
