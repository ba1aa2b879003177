/- Several texts in one. -/
import Derived.Test.YtnjgjhjilolanaaH3
import Derived.Test.YtnjgjhjilolanaaH2
import Derived.Deep.RegionHeld3
import Derived.OrdersIn
import Derived.RangeFuncCalls
import Derived.Maps.RangeWalk
import Derived.Test.YtnjgjhjilolanaaH4
import Derived.Deep.LoopGhost
/- Slices of the call's own: a thing in its place. Nothing of the program stands here. -/
namespace Go.Proofs.Ytnjgjhjilolanaa
open Go.RowKit
set_option linter.unusedVariables false
/-- The block of such a slice, and the slice behind a store of one thing. -/
theorem vec_at {α : Type} {V : α → Array Value} {size : Nat} (hV : ∀ x, (V x).size = size) {e : TypeId} {v : Value} {l : List α} {w W : World} {F : Nat → Prop} {R : List Res} (T : Sts w F W (vecR e size v l.length (vl V l) :: R)) (h0 : 0 < size) {j : Nat} (hj : j < l.length) :
    ∃ g c cur, v = .slice (some ⟨g, 0, none⟩) l.length c ∧ row? W g = some cur ∧ j * size + size ≤ cur.size ∧ ∀ x, Sts w F (W.setRow g (splice cur (j * size) (V x))) (vecR e size v l.length (vl V (l.set j x)) :: R) := by
  have hown := T.vec
  rcases hown.2 with ⟨_, h⟩ | ⟨g, cap, cur, rfl, hb, hg, hn, hm, hc, ht⟩
  · omega
  · have hle : l.length * size ≤ cap * size := Nat.mul_le_mul_right _ hn
    have hjs : j * size + size ≤ l.length * size := by
      have := Nat.mul_le_mul_right size (show j + 1 ≤ l.length from hj)
      rw [Nat.succ_mul] at this
      exact this
    refine ⟨g, cap, cur, rfl, by unfold row?; rw [hg]; rfl, by rw [hc]; omega, fun x => ?_⟩
    have hset : (W.setRow g (splice cur (j * size) (V x))).heap[g]? = some (.cells (splice cur (j * size) (V x)) e (0, 0)) := setRow_heap W g cur _ e (0, 0) hg
    have hlen : (vl V (l.set j x)).length = l.length * size := by
      unfold vl
      rw [Array.length_toList, flatV_size hV, List.length_set]
    refine T.turn fun A ha => ⟨A, ⟨⟨hlen, .inr ⟨g, cap, _, rfl, hb, hset, hn, hm, by rw [splice_size, hc], ?_⟩⟩, fun k => ha.2 k⟩, fun _ h => .inl h, rfl, rfl, rfl, by simp, fun k hk hn' => setRow_other W g k _ fun e => hn' ((ha.2 k).2 (by rw [e]; rfl))⟩
    apply List.ext_getElem?
    intro i
    rw [List.getElem?_take]
    by_cases hi : i < l.length * size
    · rw [if_pos hi, Array.getElem?_toList, splice_get, hV]
      have hq : i / size < l.length := Nat.div_lt_of_lt_mul (by rw [Nat.mul_comm]; exact hi)
      have hr : i % size < size := Nat.mod_lt _ h0
      have hir : i / size * size + i % size = i := by rw [Nat.mul_comm]; exact Nat.div_add_mod i size
      have hold : cur[i]? = (V l[i / size])[i % size]? := by
        have h1 : (cur.toList.take (l.length * size))[i]? = (vl V l)[i]? := by rw [ht]
        rw [List.getElem?_take, if_pos hi, Array.getElem?_toList] at h1
        rw [h1]
        unfold vl
        rw [Array.getElem?_toList, ← flatV_get hV l (i / size) hq (i % size) hr, hir]
      have hq' : i / size < (l.set j x).length := by rw [List.length_set]; exact hq
      have hnew : (vl V (l.set j x))[i]? = (V ((l.set j x)[i / size]))[i % size]? := by
        unfold vl
        rw [Array.getElem?_toList, ← flatV_get hV (l.set j x) (i / size) hq' (i % size) hr, hir]
      rw [hnew, List.getElem_set]
      by_cases hqj : j = i / size
      · rw [if_pos hqj]
        have hji : j * size + i % size = i := by rw [hqj]; exact hir
        rw [if_pos ⟨by omega, by omega, by rw [hc]; omega⟩]
        congr 1
        omega
      · rw [if_neg hqj, hold, if_neg]
        rintro ⟨a, b, _⟩
        apply hqj
        exact (Nat.div_eq_of_lt_le a (by rw [Nat.succ_mul]; exact b)).symm
    · rw [if_neg hi, List.getElem?_eq_none (by rw [hlen]; omega)]
theorem setCell_row (W : World) (g j : Nat) (u : Value) (cur : Array Value) (h : row? W g = some cur) : W.setCell ⟨g, j, none⟩ u = W.setRow g (cur.setIfInBounds j u) := by
  have h1 := setCells_row g [u] W j cur h
  have h2 : setMany cur j [u] = cur.setIfInBounds j u := rfl
  rw [h2] at h1
  rw [← h1]
  rfl
/-- The same for things of one cell. -/
theorem vec_at1 {α : Type} {V : α → Array Value} (hV : ∀ x, (V x).size = 1) {e : TypeId} {v : Value} {l : List α} {w W : World} {F : Nat → Prop} {R : List Res} (T : Sts w F W (vecR e 1 v l.length (vl V l) :: R)) {j : Nat} (hj : j < l.length) :
    ∃ g c cur, v = .slice (some ⟨g, 0, none⟩) l.length c ∧ row? W g = some cur ∧ j < cur.size ∧ ∀ x u, V x = #[u] → Sts w F (W.setCell ⟨g, j, none⟩ u) (vecR e 1 v l.length (vl V (l.set j x)) :: R) := by
  obtain ⟨g, c, cur, hv, hr, hs, hx⟩ := vec_at hV T (by omega) hj
  refine ⟨g, c, cur, hv, hr, by omega, fun x u hu => ?_⟩
  have h1 := hx x
  rw [hu, Nat.mul_one] at h1
  rw [setCell_row W g j u cur hr]
  exact h1
end Go.Proofs.Ytnjgjhjilolanaa
/- Regions that draw their order: what holds ahead of one operation (a store), and what holds throughout. Nothing of the program stands here. -/
namespace Go.Proofs.Ytnjgjhjilolanaa
open Go.RowKit
set_option linter.unusedVariables false
theorem size_drew (w : World) : w.drew.heap.size = w.heap.size := rfl
section
variable {P : Program} {ops : Array Oper} {Q : Exit → Act → World → Prop} {md : Region.Mode} {S0 S1 : World → Prop} {s : Nat}
/-- What holds: ahead of operation s the one, behind it the other. -/
def stageS (S0 S1 : World → Prop) (s : Nat) (L : Array Bool) (w : World) : Prop := if L.getD s false = true then S1 w else S0 w
/-- Whatever order is picked from here on. -/
def wpAnyL (P : Program) (md : Region.Mode) (ops : Array Oper) (Q : Exit → Act → World → Prop) (S0 S1 : World → Prop) (s : Nat) : Nat → Array Bool → Act → World → Prop
  | 0, listed, a, w => Region.ready md ops listed = [] ∧ Q .normal a w
  | fuel + 1, listed, a, w =>
    (Region.ready md ops listed = [] → Q .normal a w) ∧
    ∀ i ∈ Region.ready md ops listed, wpOp P ops Q i (fun a' w' => stageS S0 S1 s (listed.setIfInBounds i true) w' ∧ wpAnyL P md ops Q S0 S1 s fuel (listed.setIfInBounds i true) a' w') a w
theorem wpAny_of_stage : ∀ (fuel : Nat) (listed : Array Bool) (a : Act) (w : World), wpAnyL P md ops Q S0 S1 s fuel listed a w → wpAny P md ops Q fuel listed a w
  | 0, _, _, _, h => h
  | fuel + 1, _, _, _, h => ⟨h.1, fun i hi => wpOp_mono (fun a' w' h' => wpAny_of_stage fuel _ a' w' h'.2) (h.2 i hi)⟩
theorem stage_take {i : Nat} {L : Array Bool} {w : World} (h : i ≠ s) (hs : stageS S0 S1 s L w) : stageS S0 S1 s (L.setIfInBounds i true) w := by
  unfold stageS at *
  rw [getD_set_ne false h]
  exact hs
theorem wpAnyL_first {Sy : World → Prop} {I : Array Bool → Prop} {i : Nat} {oi : Oper} {v : Value} (his : i ≠ s) (hI : ∀ L w, I L → stageS S0 S1 s L w → Sy w)
    (hstep : ∀ L j, I L → j ≠ i → i ∈ Region.ready md ops L → j ∈ Region.ready md ops L → I (L.setIfInBounds j true))
    (hi : ops[i]? = some oi) (hsel : ∀ (j : Nat) (o : Oper) cs b, ops[j]? = some o → o.op ≠ .select cs b)
    (hQ : ∀ c a w, Q (.panic c) (a.put oi.dst v) w → Q (.panic c) a w) :
    ∀ (fuel : Nat) (listed : Array Bool) (a : Act) (w : World),
      (∀ j oj, ops[j]? = some oj → j ≠ i → listed.getD j true = false → (∀ e ∈ oj.after, Region.binds md e = true → e.on ≠ i) → oi.apart ops oj = true) →
      i ∈ Region.ready md ops listed → YieldsIf P ops Sy oi v a → I listed → stageS S0 S1 s listed w →
      wpAnyL P md ops Q S0 S1 s fuel (listed.setIfInBounds i true) (a.put oi.dst v) w → wpAnyL P md ops Q S0 S1 s (fuel + 1) listed a w := by
  intro fuel
  induction fuel with
  | zero =>
    intro listed a w _ hr hy hl hS H
    refine ⟨fun h => (by rw [h] at hr; cases hr), fun j hj => ?_⟩
    by_cases hji : j = i
    · subst hji; exact hy.wpOp hi (hI _ _ hl hS) ⟨stage_take his hS, H⟩
    · have := ready_mono hj hji
      rw [H.1] at this
      cases this
  | succ fuel ih =>
    intro listed a w hfree hr hy hl hS H
    refine ⟨fun h => (by rw [h] at hr; cases hr), fun j hj => ?_⟩
    by_cases hji : j = i
    · subst hji; exact hy.wpOp hi (hI _ _ hl hS) ⟨stage_take his hS, H⟩
    · have h1 := H.2 j (ready_mono hj hji)
      obtain ⟨hjun, oj, hoj, hall⟩ := mem_ready.1 hj
      have hnot : ∀ e ∈ oj.after, Region.binds md e = true → e.on ≠ i := fun e he hb heq => by
        have h1 := hall e he hb
        have h0 := (mem_ready.1 hr).1
        rw [heq] at h1
        rcases Nat.lt_or_ge i listed.size with h' | h'
        · simp [h'] at h0 h1; rw [h0] at h1; cases h1
        · simp [Array.getElem?_eq_none h'] at h1
      have h2 := wpOp_putIf hoj (hfree j oj hoj hji hjun hnot) (fun cs b => hsel i oi cs b hi) (fun cs b => hsel j oj cs b hoj) hQ hy h1
      have hfree' : ∀ k ok, ops[k]? = some ok → k ≠ i → (listed.setIfInBounds j true).getD k true = false →
          (∀ e ∈ ok.after, Region.binds md e = true → e.on ≠ i) → oi.apart ops ok = true := fun k ok hk hki hun hno => by
        refine hfree k ok hk hki ?_ hno
        by_cases hjk : j = k
        · subst hjk; exact hjun
        · rw [getD_set_ne true hjk] at hun; exact hun
      refine wpOp_mono (fun a' w' h3 => ?_) h2
      have hst : stageS S0 S1 s (listed.setIfInBounds j true) w' := by
        have := h3.2.1
        unfold stageS at this ⊢
        rw [Array.setIfInBounds_comm _ _ (Ne.symm hji), getD_set_ne false his] at this
        exact this
      refine ⟨hst, ih (listed.setIfInBounds j true) a' w' hfree' (ready_mono hr (Ne.symm hji)) h3.1 (hstep _ _ hl hji hr hj) hst ?_⟩
      rw [Array.setIfInBounds_comm _ _ hji]
      exact h3.2.2
/-- Does operation s wait for operation i? -/
def waitsFor (md : Region.Mode) (ops : Array Oper) (s i : Nat) : Bool := match ops[s]? with
  | none => false
  | some o => o.after.any fun e => Region.binds md e && e.on == i
theorem waits_listed {i : Nat} (h : waitsFor md ops s i = true) {L : Array Bool} (hr : s ∈ Region.ready md ops L) : L.getD i false = true := by
  obtain ⟨_, o, ho, hall⟩ := mem_ready.1 hr
  unfold waitsFor at h
  rw [ho] at h
  simp only [Array.any_eq_true] at h
  obtain ⟨k, hk, h⟩ := h
  simp only [Bool.and_eq_true, beq_iff_eq] at h
  rw [← h.2]
  exact hall _ (Array.getElem_mem hk) h.1
/-- Operation number i is taken first, ahead of s, by what holds ahead of s. -/
theorem wpAnyL_take0 {i : Nat} {oi : Oper} {v : Value} {fuel : Nat} {listed : Array Bool} {a : Act} {w : World} (hi : ops[i]? = some oi)
    (hs : Region.noSelect ops = true) (hf : Region.free md ops listed i = true) (hr : (Region.ready md ops listed).contains i = true) (hw : waitsFor md ops s i = true) (hl : listed.getD s false = false)
    (hQ : ∀ c a w, Q (.panic c) (a.put oi.dst v) w → Q (.panic c) a w) (hy : YieldsIf P ops S0 oi v a) (hS : S0 w)
    (h : wpAnyL P md ops Q S0 S1 s fuel (listed.setIfInBounds i true) (a.put oi.dst v) w) : wpAnyL P md ops Q S0 S1 s (fuel + 1) listed a w := by
  have hri : i ∈ Region.ready md ops listed := by simpa using hr
  have hun : ∀ L : Array Bool, i ∈ Region.ready md ops L → L.getD i false = false := fun L h => by
    have h0 := (mem_ready.1 h).1
    rcases Nat.lt_or_ge i L.size with h' | h'
    · simp [h'] at h0 ⊢; exact h0
    · simp [Array.getElem?_eq_none h']
  refine wpAnyL_first (Sy := S0) (I := fun L => L.getD s false = false) ?_ (fun L w hl h => ?_) (fun L j hl hj hri hrj => ?_) hi (Region.noSelect_spec hs) hQ fuel listed a w (Region.free_spec hi hf) hri hy hl ?_ h
  · rintro rfl
    obtain ⟨_, o, ho, hall⟩ := mem_ready.1 hri
    have := waits_listed hw hri
    rw [hun _ hri] at this
    cases this
  · unfold stageS at h; rw [hl] at h; exact h
  · have hjs : j ≠ s := by
      rintro rfl
      have := waits_listed hw hrj
      rw [hun _ hri] at this
      cases this
    show (L.setIfInBounds j true).getD s false = false
    rw [getD_set_ne false hjs]; exact hl
  · unfold stageS; rw [hl]; exact hS
/-- Operation number i is taken first, by what holds throughout. -/
theorem wpAnyL_take1 {i : Nat} {oi : Oper} {v : Value} {fuel : Nat} {listed : Array Bool} {a : Act} {w : World} (hm : ∀ w, S0 w → S1 w) (hi : ops[i]? = some oi)
    (hs : Region.noSelect ops = true) (hf : Region.free md ops listed i = true) (hr : (Region.ready md ops listed).contains i = true) (his : (i == s) = false)
    (hQ : ∀ c a w, Q (.panic c) (a.put oi.dst v) w → Q (.panic c) a w) (hy : YieldsIf P ops S1 oi v a) (hS : stageS S0 S1 s listed w)
    (h : wpAnyL P md ops Q S0 S1 s fuel (listed.setIfInBounds i true) (a.put oi.dst v) w) : wpAnyL P md ops Q S0 S1 s (fuel + 1) listed a w := by
  have hri : i ∈ Region.ready md ops listed := by simpa using hr
  refine wpAnyL_first (Sy := S1) (I := fun _ => True) (by simpa using his) (fun L w _ h => ?_) (fun _ _ _ _ _ _ => trivial) hi (Region.noSelect_spec hs) hQ fuel listed a w (Region.free_spec hi hf) hri hy trivial hS h
  unfold stageS at h
  split at h
  · exact h
  · exact hm _ h
theorem wpAnyL_take1a {i : Nat} {oi : Oper} {v : Value} {fuel : Nat} {listed : Array Bool} {a : Act} {w : World} (hm : ∀ w, S0 w → S1 w) (hi : ops[i]? = some oi)
    (hs : Region.noSelect ops = true) (hf : Region.free md ops listed i = true) (hr : (Region.ready md ops listed).contains i = true) (his : (i == s) = false) (hl : listed.getD s false = false)
    (hQ : ∀ c a w, Q (.panic c) (a.put oi.dst v) w → Q (.panic c) a w) (hy : YieldsIf P ops S1 oi v a) (hS : S0 w)
    (h : wpAnyL P md ops Q S0 S1 s fuel (listed.setIfInBounds i true) (a.put oi.dst v) w) : wpAnyL P md ops Q S0 S1 s (fuel + 1) listed a w :=
  wpAnyL_take1 hm hi hs hf hr his hQ hy (by unfold stageS; rw [hl]; exact hS) h
theorem wpAnyL_take1b {i : Nat} {oi : Oper} {v : Value} {fuel : Nat} {listed : Array Bool} {a : Act} {w : World} (hm : ∀ w, S0 w → S1 w) (hi : ops[i]? = some oi)
    (hs : Region.noSelect ops = true) (hf : Region.free md ops listed i = true) (hr : (Region.ready md ops listed).contains i = true) (his : (i == s) = false) (hl : listed.getD s false = true)
    (hQ : ∀ c a w, Q (.panic c) (a.put oi.dst v) w → Q (.panic c) a w) (hy : YieldsIf P ops S1 oi v a) (hS : S1 w)
    (h : wpAnyL P md ops Q S0 S1 s fuel (listed.setIfInBounds i true) (a.put oi.dst v) w) : wpAnyL P md ops Q S0 S1 s (fuel + 1) listed a w :=
  wpAnyL_take1 hm hi hs hf hr his hQ hy (by unfold stageS; rw [hl, if_pos rfl]; exact hS) h
/-! the same, shorter to say -/
theorem tk0 (i : Nat) {oi : Oper} {d : Tmp} {v : Value} {fuel : Nat} {listed : Array Bool} {a : Act} {w : World} (hi : ops[i]? = some oi)
    (h : wpAnyL P md ops Q S0 S1 s fuel (listed.setIfInBounds i true) (a.put (some d) v) w) (hy : ∀ w, S0 w → (execOp a.eval oi).run P w = .ok (.value v) w := by intro w h; (try dsimp only at h); go_simp; try with_reducible rfl) (hd : oi.dst = some d := by rfl) (hs : Region.noSelect ops = true := by kernel_rfl) (hf : Region.free md ops listed i = true := by kernel_rfl) (hr : (Region.ready md ops listed).contains i = true := by kernel_rfl) (hws : waitsFor md ops s i = true := by kernel_rfl) (hl : listed.getD s false = false := by kernel_rfl) (hw : Region.wanted oi (yielded ops a.tmps) = true := by kernel_rfl)
    (hQ : ∀ c a w, Q (.panic c) (a.put oi.dst v) w → Q (.panic c) a w := by exact fun _ _ _ h => h) (hS : S0 w := by assumption) : wpAnyL P md ops Q S0 S1 s (fuel + 1) listed a w :=
  wpAnyL_take0 hi hs hf hr hws hl hQ (Or.inl ⟨hw, hy⟩) hS (by rw [hd]; exact h)
theorem tk1 (i : Nat) {oi : Oper} {d : Tmp} {v : Value} {fuel : Nat} {listed : Array Bool} {a : Act} {w : World} (hm : ∀ w, S0 w → S1 w) (hi : ops[i]? = some oi)
    (h : wpAnyL P md ops Q S0 S1 s fuel (listed.setIfInBounds i true) (a.put (some d) v) w) (hy : ∀ w, S1 w → (execOp a.eval oi).run P w = .ok (.value v) w := by intro w h; (try dsimp only at h); go_simp; try with_reducible rfl) (hd : oi.dst = some d := by rfl) (hs : Region.noSelect ops = true := by kernel_rfl) (hf : Region.free md ops listed i = true := by kernel_rfl) (hr : (Region.ready md ops listed).contains i = true := by kernel_rfl) (his : (i == s) = false := by kernel_rfl) (hl : listed.getD s false = false := by kernel_rfl) (hw : Region.wanted oi (yielded ops a.tmps) = true := by kernel_rfl)
    (hQ : ∀ c a w, Q (.panic c) (a.put oi.dst v) w → Q (.panic c) a w := by exact fun _ _ _ h => h) (hS : S0 w := by assumption) : wpAnyL P md ops Q S0 S1 s (fuel + 1) listed a w :=
  wpAnyL_take1a hm hi hs hf hr his hl hQ (Or.inl ⟨hw, hy⟩) hS (by rw [hd]; exact h)
theorem tk2 (i : Nat) {oi : Oper} {d : Tmp} {v : Value} {fuel : Nat} {listed : Array Bool} {a : Act} {w : World} (hm : ∀ w, S0 w → S1 w) (hi : ops[i]? = some oi)
    (h : wpAnyL P md ops Q S0 S1 s fuel (listed.setIfInBounds i true) (a.put (some d) v) w) (hy : ∀ w, S1 w → (execOp a.eval oi).run P w = .ok (.value v) w := by intro w h; (try dsimp only at h); go_simp; try with_reducible rfl) (hd : oi.dst = some d := by rfl) (hs : Region.noSelect ops = true := by kernel_rfl) (hf : Region.free md ops listed i = true := by kernel_rfl) (hr : (Region.ready md ops listed).contains i = true := by kernel_rfl) (his : (i == s) = false := by kernel_rfl) (hl : listed.getD s false = true := by kernel_rfl) (hw : Region.wanted oi (yielded ops a.tmps) = true := by kernel_rfl)
    (hQ : ∀ c a w, Q (.panic c) (a.put oi.dst v) w → Q (.panic c) a w := by exact fun _ _ _ h => h) (hS : S1 w := by assumption) : wpAnyL P md ops Q S0 S1 s (fuel + 1) listed a w :=
  wpAnyL_take1b hm hi hs hf hr his hl hQ (Or.inl ⟨hw, hy⟩) hS (by rw [hd]; exact h)
def AllReadyL (P : Program) (md : Region.Mode) (ops : Array Oper) (Q : Exit → Act → World → Prop) (S0 S1 : World → Prop) (s : Nat) (fuel : Nat) (listed : Array Bool) (a : Act) (w : World) (rs : List Nat) : Prop :=
  ∀ i ∈ rs, wpOp P ops Q i (fun a' w' => stageS S0 S1 s (listed.setIfInBounds i true) w' ∧ wpAnyL P md ops Q S0 S1 s fuel (listed.setIfInBounds i true) a' w') a w
theorem AllReadyL.nil {fuel : Nat} {listed : Array Bool} {a : Act} {w : World} : AllReadyL P md ops Q S0 S1 s fuel listed a w [] := fun _ h => by cases h
/-- Ahead of s. -/
theorem AllReadyL.cons0 {fuel : Nat} {listed : Array Bool} {a : Act} {w : World} {i : Nat} {o : Oper} {rs : List Nat} (ho : ops[i]? = some o) (hl : (listed.setIfInBounds i true).getD s false = false)
    (h : ∀ K' : Act → World → Prop, Shut (∀ a w, S0 w → (S0 w → wpAnyL P md ops Q S0 S1 s fuel (listed.setIfInBounds i true) a w) → K' a w) → if Region.wanted o (yielded ops a.tmps) = true then Oper.wp P o a w K' Q else K' (a.put o.dst undef) w)
    (hs : AllReadyL P md ops Q S0 S1 s fuel listed a w rs) : AllReadyL P md ops Q S0 S1 s fuel listed a w (i :: rs) := fun j hj => by
  rcases List.mem_cons.1 hj with rfl | hj
  · exact wpOp_step ho (fun K' hK => h K' (fun a w hS hW => hK a w ⟨by unfold stageS; rw [hl]; exact hS, hW hS⟩))
  · exact hs j hj
/-- Operation s itself, and what comes behind it. -/
theorem AllReadyL.cons1 {fuel : Nat} {listed : Array Bool} {a : Act} {w : World} {i : Nat} {o : Oper} {rs : List Nat} (ho : ops[i]? = some o) (hl : (listed.setIfInBounds i true).getD s false = true)
    (h : ∀ K' : Act → World → Prop, Shut (∀ a w, S1 w → (S1 w → wpAnyL P md ops Q S0 S1 s fuel (listed.setIfInBounds i true) a w) → K' a w) → if Region.wanted o (yielded ops a.tmps) = true then Oper.wp P o a w K' Q else K' (a.put o.dst undef) w)
    (hs : AllReadyL P md ops Q S0 S1 s fuel listed a w rs) : AllReadyL P md ops Q S0 S1 s fuel listed a w (i :: rs) := fun j hj => by
  rcases List.mem_cons.1 hj with rfl | hj
  · exact wpOp_step ho (fun K' hK => h K' (fun a w hS hW => hK a w ⟨by unfold stageS; rw [hl, if_pos rfl]; exact hS, hW hS⟩))
  · exact hs j hj
theorem wpAnyL_ready {rs : List Nat} {fuel : Nat} {listed : Array Bool} {a : Act} {w : World} (hr : Region.ready md ops listed = rs) (hne : rs ≠ [])
    (h : AllReadyL P md ops Q S0 S1 s fuel listed a w rs) : wpAnyL P md ops Q S0 S1 s (fuel + 1) listed a w :=
  ⟨fun h0 => absurd (hr ▸ h0) hne, hr ▸ h⟩
theorem wpAnyL_done {listed : Array Bool} {a : Act} {w : World} (hr : Region.ready md ops listed = []) (h : Q .normal a w) :
    ∀ fuel, wpAnyL P md ops Q S0 S1 s fuel listed a w
  | 0 => ⟨hr, h⟩
  | _ + 1 => ⟨fun _ => h, by rw [hr]; simp⟩
theorem wp_region_stage (S0 S1 : World → Prop) (s : Nat) {id : Nat} {a : Act} {w : World} (hm : P.follows .mixedOrders = true) (hS : S0 w.drew)
    (h : S0 w.drew → wpAnyL P .any ops Q S0 S1 s ops.size (Array.replicate ops.size false) a w.drew) : (Code.region id ops true).wp P Q a w :=
  wp_region_any hm (wpAny_of_stage _ _ _ _ (h hS))
end
/-- No operation of a region that is to be done when the function is left. -/
def noDefer (ops : Array Oper) : Bool := ops.all fun o => match o.op with | .defer _ => false | _ => true
/-- Q, but nothing of a stack that is outgrown. -/
def NoOut (Q : Exit → Act → World → Prop) : Exit → Act → World → Prop
  | .outgrown, _, _ => False
  | e, a, w => Q e a w
theorem noOut_lets (Q : Exit → Act → World → Prop) : ¬ LetsOut (NoOut Q) := fun ⟨_, _, h⟩ => h
section
variable {P : Program} {ops : Array Oper} {Q : Exit → Act → World → Prop} {md : Region.Mode} {S0 S1 : World → Prop} {s : Nat} {l n : Nat}
theorem wpOp_round {i : Nat} {K : Act → World → Prop} {a : Act} {w : World} (hd : noDefer ops = true) (h : wpOp P ops (NoOut Q) i K a w) : wpOpIn (Fence.wide.inRound l) n P ops Q i K a w := by
  unfold wpOp at h
  unfold wpOpIn
  cases ho : ops[i]? with
  | none => rw [ho] at h; exact h
  | some o =>
    rw [ho] at h
    have hdo : ∀ c, o.op ≠ .defer c := fun c e => by
      have := Array.all_eq_true_iff_forall_mem.1 hd o (Array.mem_of_getElem? ho)
      simp [e] at this
    simp only at h ⊢
    split
    · rename_i hw
      rw [if_pos hw] at h
      rcases h with h | h
      · refine ⟨fun _ _ => trivial, ?_⟩
        rw [Oper.semAt_eq _ _ _ hdo]
        unfold Oper.wp at h
        generalize (execOp a.eval o).run P w = r at *
        cases r with
        | ok x w' =>
          cases x <;> simp only [Oper.upon, Oper.uponIn] at h ⊢
          case value => exact h
          case skip => exact h
          case defer => exact h
          case enter f args =>
            refine ⟨fun h => by simp [Fence.wide] at h, CallsIn.inRound l (callsIn_wide.2 (h.mono fun e w'' he => ?_))⟩
            cases e with
            | returned v => exact he
            | panicked c => exact he
            | outgrown => exact (noOut_lets Q he).elim
          case row row args =>
            exact ⟨fun h => by simp [Fence.wide] at h, fun c cs _ => by
              obtain ⟨v, w', hr, st⟩ := h c cs
              exact ⟨v, w', hr, stepsIn_wide.2 st⟩⟩
        | halt x w' => cases x <;> simp only [Oper.upon, Oper.uponIn] at h ⊢ <;> exact h
      · exact (noOut_lets Q h.2).elim
    · rename_i hw
      rw [if_neg hw] at h
      exact ⟨fun _ _ => trivial, h⟩
theorem wpAny_round (hd : noDefer ops = true) : ∀ (fuel : Nat) (listed : Array Bool) (a : Act) (w : World), wpAny P md ops (NoOut Q) fuel listed a w → wpAnyIn (Fence.wide.inRound l) n P md ops Q fuel listed a w
  | 0, _, _, _, h => h
  | fuel + 1, _, _, _, h => ⟨h.1, fun i hi => wpOpIn_mono (fun a' w' h' => wpAny_round hd fuel _ a' w' h') (wpOp_round hd (h.2 i hi))⟩
theorem wpIn_region_stage (S0 S1 : World → Prop) (s : Nat) {id : Nat} {a : Act} {w : World} (hm : P.follows .mixedOrders = true) (hd : noDefer ops = true) (hS : S0 w.drew)
    (h : S0 w.drew → wpAnyL P .any ops (NoOut Q) S0 S1 s ops.size (Array.replicate ops.size false) a w.drew) : (Code.region id ops true).wpIn (Fence.wide.inRound l) n P Q a w :=
  wpIn_region_any hm (wpAny_round hd _ _ _ _ (wpAny_of_stage _ _ _ _ (h hS)))
theorem wpIn_region_held (S : World → Prop) {id : Nat} {a : Act} {w : World} (hm : P.follows .mixedOrders = true) (hd : noDefer ops = true) (hS : S w.drew)
    (h : S w.drew → wpAnyH P .any ops (NoOut Q) S ops.size (Array.replicate ops.size false) a w.drew) : (Code.region id ops true).wpIn (Fence.wide.inRound l) n P Q a w :=
  wpIn_region_any hm (wpAny_round hd _ _ _ _ (wpAny_of_held _ _ _ _ (h hS)))
end
section
variable {P : Program} {ops : Array Oper} {Q : Exit → Act → World → Prop} {md : Region.Mode} {S : World → Prop}
theorem tkH (i : Nat) {oi : Oper} {d : Tmp} {v : Value} {fuel : Nat} {listed : Array Bool} {a : Act} {w : World} (hi : ops[i]? = some oi)
    (h : wpAnyH P md ops Q S fuel (listed.setIfInBounds i true) (a.put (some d) v) w) (hy : ∀ w, S w → (execOp a.eval oi).run P w = .ok (.value v) w := by intro w h; (try dsimp only at h); go_simp; try with_reducible rfl) (hd : oi.dst = some d := by rfl) (hs : Region.noSelect ops = true := by kernel_rfl) (hf : Region.free md ops listed i = true := by kernel_rfl) (hr : (Region.ready md ops listed).contains i = true := by kernel_rfl) (hw : Region.wanted oi (yielded ops a.tmps) = true := by kernel_rfl)
    (hQ : ∀ c a w, Q (.panic c) (a.put oi.dst v) w → Q (.panic c) a w := by exact fun _ _ _ h => h) (hS : S w := by assumption) : wpAnyH P md ops Q S (fuel + 1) listed a w :=
  wpAnyH_take hi hs hf hr hQ (Or.inl ⟨hw, hy⟩) hS (by rw [hd]; exact h)
theorem skH (i : Nat) {oi : Oper} {d : Tmp} {fuel : Nat} {listed : Array Bool} {a : Act} {w : World} (hi : ops[i]? = some oi)
    (h : wpAnyH P md ops Q S fuel (listed.setIfInBounds i true) (a.put (some d) undef) w) (hd : oi.dst = some d := by rfl) (hs : Region.noSelect ops = true := by kernel_rfl) (hf : Region.free md ops listed i = true := by kernel_rfl) (hr : (Region.ready md ops listed).contains i = true := by kernel_rfl) (hw : Region.wanted oi (yielded ops a.tmps) = false := by kernel_rfl)
    (hQ : ∀ c a w, Q (.panic c) (a.put oi.dst undef) w → Q (.panic c) a w := by exact fun _ _ _ h => h) (hS : S w := by assumption) : wpAnyH P md ops Q S (fuel + 1) listed a w :=
  wpAnyH_take hi hs hf hr hQ (Or.inr ⟨hw, rfl⟩) hS (by rw [hd]; exact h)
end
end Go.Proofs.Ytnjgjhjilolanaa
/- Layer 3: rows of items: a thing at a place. -/
namespace Go.Proofs.Ytnjgjhjilolanaa
open Go.RowKit
set_option linter.unusedVariables false
set_option maxRecDepth 20000
attribute [local go_sem] row_alloc row_drew row_drewN row_ext row_setCell row_setRow size_ext setRow_alloc setRow_drew loadOf storeOf piece_lit loadVal_at storeVal_at allOne_lit buildOf buildRes_some
attribute [local go_sem high] cell_alloc frozen_alloc setCell_alloc cell_ext frozen_ext cell_setRow frozen_setRow
attribute [local go_sem ↓] TDeed_ld0 TDeed_st0 TDeed_fd0 TDeed_bd0
attribute [local go_sem] TDeed_size TDeed_one TDeed_piece TDeed_c0 TDeed_c1 TDeed_c2 TDeed_c3 TDeed_c4 TDeed_c5 TDeed_set_kind TDeed_set_key TDeed_set_val TDeed_set_ver TDeed_set_ses TDeed_set_num TDeed_ld TDeed_st TDeed_f_kind TDeed_f_key TDeed_f_val TDeed_f_ver TDeed_f_ses TDeed_f_num TDeed_bd TDeed_fl TDeed_fl_kind TDeed_fl_key TDeed_fl_val TDeed_fl_ver TDeed_fl_ses TDeed_fl_num
attribute [local go_sem high] TDeed_eql TDeed_neq
attribute [local go_sem ↓] index_deps0 load_deps0 store_deps0
attribute [local go_sem] DV_piece DV_size DV_one index_deps load_deps store_deps
attribute [local go_sem high] TDeps_eql TDeps_neq
attribute [local go_sem ↓] TCall_ld0 TCall_st0 TCall_fd0 TCall_bd0
attribute [local go_sem] TCall_size TCall_one TCall_piece TCall_c0 TCall_c1 TCall_c2 TCall_c3 TCall_c4 TCall_c5 TCall_c6 TCall_c7 TCall_c8 TCall_c9 TCall_c10 TCall_c11 TCall_c12 TCall_c13 TCall_p_deed TCall_put_deed TCall_p_deps TCall_put_deps TCall_set_seq TCall_ld TCall_st TCall_f_deed TCall_f_deps TCall_f_seq TCall_bd TCall_fl TCall_fl_deed TCall_fl_deps TCall_fl_seq
attribute [local go_sem high] TCall_eql TCall_neq
attribute [local go_sem ↓] TItem_ld0 TItem_st0 TItem_fd0 TItem_bd0
attribute [local go_sem] TItem_size TItem_one TItem_piece TItem_c0 TItem_c1 TItem_set_rep TItem_set_num TItem_ld TItem_st TItem_f_rep TItem_f_num TItem_bd TItem_fl TItem_fl_rep TItem_fl_num
attribute [local go_sem high] TItem_eql TItem_neq
attribute [local go_sem] TBallot_size TBallot_one TBallot_piece TBallot_c0 TBallot_c1 TBallot_set_round TBallot_set_rep TBallot_fl TBallot_fl_round TBallot_fl_rep
attribute [local go_sem] TInst_size TInst_one TInst_piece TInst_c0 TInst_c1 TInst_c2 TInst_c3 TInst_c4 TInst_c5 TInst_c6 TInst_c7 TInst_c8 TInst_c9 TInst_c10 TInst_c11 TInst_c12 TInst_c13 TInst_c14 TInst_c15 TInst_c16 TInst_c17 TInst_c18 TInst_c19 TInst_p_prom TInst_put_prom TInst_p_vote TInst_put_vote TInst_set_status TInst_p_call TInst_put_call TInst_set_same TInst_fl TInst_fl_prom TInst_fl_vote TInst_fl_status TInst_fl_call TInst_fl_same
attribute [local go_sem] rcells_n
theorem bool_i : ∃ i, Try.prog.info? 4 = some i ∧ i.zero = some (.bool false) ∧ i.size = 1 ∧ i.bytes = 1 := by
  have h : (Try.prog.info? 4).map (fun i => (i.zero, i.size, i.bytes)) = some (some (.bool false), 1, 1) := by kernel_rfl
  cases hi : Try.prog.info? 4 with
  | none => rw [hi] at h; simp at h
  | some i => rw [hi] at h; simp at h; exact ⟨i, rfl, h.1, h.2.1, h.2.2⟩
theorem add_lit0 (b j : Nat) : (⟨b, 0, none⟩ : Addr).add j = ⟨b, j, none⟩ := by unfold Addr.add; split <;> simp_all
/-- The cells of a new thing lie in its block. -/
theorem news_row {W : World} {b : Nat} {X : Array Value} (h : row? W b = some X) : ∀ j u, X.toList[j]? = some u → W.cell? ((⟨b, 0, none⟩ : Addr).add j) = some u := fun j u hu => by
  rw [add_lit0, row_cell h, ← Array.getElem?_toList]; exact hu
end Go.Proofs.Ytnjgjhjilolanaa
/- Layer 3: what is known of items, by their places, as a thing in memory. -/
namespace Go.Proofs.Ytnjgjhjilolanaa
open Go.RowKit
set_option linter.unusedVariables false
/-- Rows: of so many replicas; each replica's, by numbers. -/
structure RowsMK where
  n : Int
  f : Nat → List (Option Call)
section
variable (n : Int) (v h : Nat → Value) (k : Nat) (x : Value)
end
def CVo (o : Option Call) : Array Value := CV (o.getD noCall)
def HVoK (o : Option Call) : Array Value := #[.bool o.isSome]
theorem CVo_sizeK (o : Option Call) : (CVo o).size = 14 := rfl
theorem HVo_sizeK (o : Option Call) : (HVoK o).size = 1 := rfl
def instsRK (v : Value) (l : List (Option Call)) : Res := vecR 47 14 v l.length (vl CVo l)
def bitsRK (h : Value) (l : List (Option Call)) : Res := vecR 4 1 h l.length (vl HVoK l)
def pairRK (f : Nat → List (Option Call)) (v h : Nat → Value) (i : Nat) : Res := starR (instsRK (v i) (f i)) (bitsRK (h i) (f i))
/-- The other replicas' rows. -/
def othersRK (f : Nat → List (Option Call)) (v h : Nat → Value) (k : Nat) : Res := packR (((List.range 7).erase k).map (pairRK f v h))
/-- The rows in block g. -/
def rowsIRK (g : Nat) (m : RowsMK) : Res := exR fun q : (Nat → Value) × (Nat → Value) => packR (rowR g (rcells m.n q.1 q.2) :: (List.range 7).map (pairRK m.f q.1 q.2))
section
variable {w W : World} {F : Nat → Prop} {R : List Res} {g : Nat} {m : RowsMK}
theorem Sts.rowsOpenK (T : Sts w F W (rowsIRK g m :: R)) {k : Nat} (hk : k < 7) : ∃ v h, Sts w F W (rowR g (rcells m.n v h) :: instsRK (v k) (m.f k) :: bitsRK (h k) (m.f k) :: othersRK m.f v h k :: R) := by
  obtain ⟨⟨v, h⟩, T⟩ := T.open
  have T := T.unpack
  have T : Sts w F W (((pairRK m.f v h k :: ((List.range 7).erase k).map (pairRK m.f v h)) ++ (rowR g (rcells m.n v h) :: R))) :=
    T.perm (((row_take (pairRK m.f v h) hk).append_right R).cons (rowR g (rcells m.n v h)) |>.trans (List.perm_middle.symm))
  have T : Sts w F W ((((List.range 7).erase k).map (pairRK m.f v h)) ++ (pairRK m.f v h k :: rowR g (rcells m.n v h) :: R)) := T.perm (List.perm_middle.symm)
  have T := T.pack
  have T := T.swap.split
  exact ⟨v, h, T.perm (by
    show (instsRK (v k) (m.f k) :: bitsRK (h k) (m.f k) :: packR _ :: rowR g _ :: R).Perm _
    exact ((List.Perm.cons _ ((List.Perm.cons _ (.swap ..)).trans (.swap ..))).trans (.swap ..)))⟩
theorem Sts.rowsShutK {v h : Nat → Value} {k : Nat} (hk : k < 7) (T : Sts w F W (rowR g (rcells m.n v h) :: instsRK (v k) (m.f k) :: bitsRK (h k) (m.f k) :: othersRK m.f v h k :: R)) : Sts w F W (rowsIRK g m :: R) := by
  have T := T.perm ((List.Perm.swap ..).trans (List.Perm.cons _ ((List.Perm.swap ..).trans (List.Perm.cons _ (.swap ..)))))
  -- insts, bits, others, row
  have T := T.join.swap
  have T := T.unpack
  have T : Sts w F W (pairRK m.f v h k :: rowR g (rcells m.n v h) :: (((List.range 7).erase k).map (pairRK m.f v h) ++ R)) :=
    T.perm (List.perm_middle.trans (List.Perm.cons _ List.perm_middle))
  have T : Sts w F W ((rowR g (rcells m.n v h) :: (List.range 7).map (pairRK m.f v h)) ++ R) :=
    T.perm ((List.Perm.swap ..).trans (List.Perm.cons _ ((row_take (pairRK m.f v h) hk).symm.append_right R)))
  exact T.pack.close (v, h)
end
/-- What is known of an item. -/
noncomputable def getMK (m : RowsMK) (x : Item) : Option Call := if goodI x m.n = true then ((m.f x.rep.toNat)[x.num.toNat - 1]?).join else none
/-- A row with something at a place. -/
def putLK (l : List (Option Call)) (i : Nat) (t : Call) : List (Option Call) := (l ++ List.replicate (i + 1 - l.length) none).set i (some t)
/-- So much is added as is wanted. -/
theorem putL_ofK {l0 l : List (Option Call)} {j p : Nat} (t : Call) (h : l = l0 ++ List.replicate p none) (hp : p = 0 ∨ l.length ≤ j + 1) (hj : j + 1 ≤ l.length) : putLK l0 j t = l.set j (some t) := by
  unfold putLK
  have hl : l.length = l0.length + p := by rw [h, List.length_append, List.length_replicate]
  have e : j + 1 - l0.length = p := by omega
  rw [e, h]
noncomputable def setMK (m : RowsMK) (x : Item) (t : Call) : RowsMK := if goodI x m.n = true then { m with f := updF m.f x.rep.toNat (putLK (m.f x.rep.toNat) (x.num.toNat - 1) t) } else m
end Go.Proofs.Ytnjgjhjilolanaa
