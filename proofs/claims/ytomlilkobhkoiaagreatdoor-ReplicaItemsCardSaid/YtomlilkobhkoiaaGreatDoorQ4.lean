/- Several texts in one. -/
import Derived.Test.YtomlilkobhkoiaaGreatDoorQ2
import Derived.Deep.RegionHeld3
import Derived.OrdersIn
import Derived.RangeFuncCalls
import Derived.Maps.RangeWalk
import Derived.Test.YtomlilkobhkoiaaGreatDoorQ3
/- Regions that draw their order: what holds ahead of one operation (a store), and what holds throughout. Nothing of the program stands here. -/
namespace Go.Proofs.YtomlilkobhkoiaaGreatDoor
open Go.RowKit
set_option linter.unusedVariables false
theorem size_drew (w : World) : w.drew.heap.size = w.heap.size := rfl
section
variable {P : Program} {ops : Array Oper} {Q : Exit → Act → World → Prop} {md : Region.Mode} {S0 S1 : World → Prop} {s : Nat}
/-- What holds: ahead of operation s the one, behind it the other. -/
def stageS (S0 S1 : World → Prop) (s : Nat) (L : Array Bool) (w : World) : Prop := if L.getD s false = true then S1 w else S0 w
/-- Whatever order is picked from here on. -/
def wpAnyL (P : Program) (md : Region.Mode) (ops : Array Oper) (Q : Exit → Act → World → Prop) (S0 S1 : World → Prop) (s : Nat) : Nat → Array Bool → Act → World → Prop
 | 0, listed, a, w => Region.ready md ops listed = [] ∧ Q .normal a w
 | fuel + 1, listed, a, w =>
  (Region.ready md ops listed = [] → Q .normal a w) ∧
  ∀ i ∈ Region.ready md ops listed, wpOp P ops Q i (fun a' w' => stageS S0 S1 s (listed.setIfInBounds i true) w' ∧ wpAnyL P md ops Q S0 S1 s fuel (listed.setIfInBounds i true) a' w') a w
theorem wpAny_of_stage : ∀ (fuel : Nat) (listed : Array Bool) (a : Act) (w : World), wpAnyL P md ops Q S0 S1 s fuel listed a w → wpAny P md ops Q fuel listed a w
 | 0, _, _, _, h => h
 | fuel + 1, _, _, _, h => ⟨h.1, fun i hi => wpOp_mono (fun a' w' h' => wpAny_of_stage fuel _ a' w' h'.2) (h.2 i hi)⟩
theorem stage_take {i : Nat} {L : Array Bool} {w : World} (h : i ≠ s) (hs : stageS S0 S1 s L w) : stageS S0 S1 s (L.setIfInBounds i true) w := by
 unfold stageS at *
 rw [getD_set_ne false h]
 exact hs
theorem wpAnyL_first {Sy : World → Prop} {I : Array Bool → Prop} {i : Nat} {oi : Oper} {v : Value} (his : i ≠ s) (hI : ∀ L w, I L → stageS S0 S1 s L w → Sy w)
  (hstep : ∀ L j, I L → j ≠ i → i ∈ Region.ready md ops L → j ∈ Region.ready md ops L → I (L.setIfInBounds j true))
  (hi : ops[i]? = some oi) (hsel : ∀ (j : Nat) (o : Oper) cs b, ops[j]? = some o → o.op ≠ .select cs b)
  (hQ : ∀ c a w, Q (.panic c) (a.put oi.dst v) w → Q (.panic c) a w) :
  ∀ (fuel : Nat) (listed : Array Bool) (a : Act) (w : World),
   (∀ j oj, ops[j]? = some oj → j ≠ i → listed.getD j true = false → (∀ e ∈ oj.after, Region.binds md e = true → e.on ≠ i) → oi.apart ops oj = true) →
   i ∈ Region.ready md ops listed → YieldsIf P ops Sy oi v a → I listed → stageS S0 S1 s listed w →
   wpAnyL P md ops Q S0 S1 s fuel (listed.setIfInBounds i true) (a.put oi.dst v) w → wpAnyL P md ops Q S0 S1 s (fuel + 1) listed a w := by
 intro fuel
 induction fuel with
 | zero =>
  intro listed a w _ hr hy hl hS H
  refine ⟨fun h => (by rw [h] at hr; cases hr), fun j hj => ?_⟩
  by_cases hji : j = i
  ·subst hji; exact hy.wpOp hi (hI _ _ hl hS) ⟨stage_take his hS, H⟩
  ·have := ready_mono hj hji
   rw [H.1] at this
   cases this
 | succ fuel ih =>
  intro listed a w hfree hr hy hl hS H
  refine ⟨fun h => (by rw [h] at hr; cases hr), fun j hj => ?_⟩
  by_cases hji : j = i
  ·subst hji; exact hy.wpOp hi (hI _ _ hl hS) ⟨stage_take his hS, H⟩
  ·have h1 := H.2 j (ready_mono hj hji)
   obtain ⟨hjun, oj, hoj, hall⟩ := mem_ready.1 hj
   have hnot : ∀ e ∈ oj.after, Region.binds md e = true → e.on ≠ i := fun e he hb heq => by
    have h1 := hall e he hb
    have h0 := (mem_ready.1 hr).1
    rw [heq] at h1
    rcases Nat.lt_or_ge i listed.size with h' | h'
    ·simp [h'] at h0 h1; rw [h0] at h1; cases h1
    ·simp [Array.getElem?_eq_none h'] at h1
   have h2 := wpOp_putIf hoj (hfree j oj hoj hji hjun hnot) (fun cs b => hsel i oi cs b hi) (fun cs b => hsel j oj cs b hoj) hQ hy h1
   have hfree' : ∀ k ok, ops[k]? = some ok → k ≠ i → (listed.setIfInBounds j true).getD k true = false →
     (∀ e ∈ ok.after, Region.binds md e = true → e.on ≠ i) → oi.apart ops ok = true := fun k ok hk hki hun hno => by
    refine hfree k ok hk hki ?_ hno
    by_cases hjk : j = k
    ·subst hjk; exact hjun
    ·rw [getD_set_ne true hjk] at hun; exact hun
   refine wpOp_mono (fun a' w' h3 => ?_) h2
   have hst : stageS S0 S1 s (listed.setIfInBounds j true) w' := by
    have := h3.2.1
    unfold stageS at this ⊢
    rw [Array.setIfInBounds_comm _ _ (Ne.symm hji), getD_set_ne false his] at this
    exact this
   refine ⟨hst, ih (listed.setIfInBounds j true) a' w' hfree' (ready_mono hr (Ne.symm hji)) h3.1 (hstep _ _ hl hji hr hj) hst ?_⟩
   rw [Array.setIfInBounds_comm _ _ hji]
   exact h3.2.2
/-- Does operation s wait for operation i? -/
def waitsFor (md : Region.Mode) (ops : Array Oper) (s i : Nat) : Bool := match ops[s]? with
 | none => false
 | some o => o.after.any fun e => Region.binds md e && e.on == i
theorem waits_listed {i : Nat} (h : waitsFor md ops s i = true) {L : Array Bool} (hr : s ∈ Region.ready md ops L) : L.getD i false = true := by
 obtain ⟨_, o, ho, hall⟩ := mem_ready.1 hr
 unfold waitsFor at h
 rw [ho] at h
 simp only [Array.any_eq_true] at h
 obtain ⟨k, hk, h⟩ := h
 simp only [Bool.and_eq_true, beq_iff_eq] at h
 rw [← h.2]
 exact hall _ (Array.getElem_mem hk) h.1
/-- Operation number i is taken first, ahead of s, by what holds ahead of s. -/
theorem wpAnyL_take0 {i : Nat} {oi : Oper} {v : Value} {fuel : Nat} {listed : Array Bool} {a : Act} {w : World} (hi : ops[i]? = some oi)
  (hs : Region.noSelect ops = true) (hf : Region.free md ops listed i = true) (hr : (Region.ready md ops listed).contains i = true) (hw : waitsFor md ops s i = true) (hl : listed.getD s false = false)
  (hQ : ∀ c a w, Q (.panic c) (a.put oi.dst v) w → Q (.panic c) a w) (hy : YieldsIf P ops S0 oi v a) (hS : S0 w)
  (h : wpAnyL P md ops Q S0 S1 s fuel (listed.setIfInBounds i true) (a.put oi.dst v) w) : wpAnyL P md ops Q S0 S1 s (fuel + 1) listed a w := by
 have hri : i ∈ Region.ready md ops listed := by simpa using hr
 have hun : ∀ L : Array Bool, i ∈ Region.ready md ops L → L.getD i false = false := fun L h => by
  have h0 := (mem_ready.1 h).1
  rcases Nat.lt_or_ge i L.size with h' | h'
  ·simp [h'] at h0 ⊢; exact h0
  ·simp [Array.getElem?_eq_none h']
 refine wpAnyL_first (Sy := S0) (I := fun L => L.getD s false = false) ?_ (fun L w hl h => ?_) (fun L j hl hj hri hrj => ?_) hi (Region.noSelect_spec hs) hQ fuel listed a w (Region.free_spec hi hf) hri hy hl ?_ h
 ·rintro rfl
  obtain ⟨_, o, ho, hall⟩ := mem_ready.1 hri
  have := waits_listed hw hri
  rw [hun _ hri] at this
  cases this
 ·unfold stageS at h; rw [hl] at h; exact h
 ·have hjs : j ≠ s := by
   rintro rfl
   have := waits_listed hw hrj
   rw [hun _ hri] at this
   cases this
  show (L.setIfInBounds j true).getD s false = false
  rw [getD_set_ne false hjs]; exact hl
 ·unfold stageS; rw [hl]; exact hS
/-- Operation number i is taken first, by what holds throughout. -/
theorem wpAnyL_take1 {i : Nat} {oi : Oper} {v : Value} {fuel : Nat} {listed : Array Bool} {a : Act} {w : World} (hm : ∀ w, S0 w → S1 w) (hi : ops[i]? = some oi)
  (hs : Region.noSelect ops = true) (hf : Region.free md ops listed i = true) (hr : (Region.ready md ops listed).contains i = true) (his : (i == s) = false)
  (hQ : ∀ c a w, Q (.panic c) (a.put oi.dst v) w → Q (.panic c) a w) (hy : YieldsIf P ops S1 oi v a) (hS : stageS S0 S1 s listed w)
  (h : wpAnyL P md ops Q S0 S1 s fuel (listed.setIfInBounds i true) (a.put oi.dst v) w) : wpAnyL P md ops Q S0 S1 s (fuel + 1) listed a w := by
 have hri : i ∈ Region.ready md ops listed := by simpa using hr
 refine wpAnyL_first (Sy := S1) (I := fun _ => True) (by simpa using his) (fun L w _ h => ?_) (fun _ _ _ _ _ _ => trivial) hi (Region.noSelect_spec hs) hQ fuel listed a w (Region.free_spec hi hf) hri hy trivial hS h
 unfold stageS at h
 split at h
 ·exact h
 ·exact hm _ h
theorem wpAnyL_take1a {i : Nat} {oi : Oper} {v : Value} {fuel : Nat} {listed : Array Bool} {a : Act} {w : World} (hm : ∀ w, S0 w → S1 w) (hi : ops[i]? = some oi)
  (hs : Region.noSelect ops = true) (hf : Region.free md ops listed i = true) (hr : (Region.ready md ops listed).contains i = true) (his : (i == s) = false) (hl : listed.getD s false = false)
  (hQ : ∀ c a w, Q (.panic c) (a.put oi.dst v) w → Q (.panic c) a w) (hy : YieldsIf P ops S1 oi v a) (hS : S0 w)
  (h : wpAnyL P md ops Q S0 S1 s fuel (listed.setIfInBounds i true) (a.put oi.dst v) w) : wpAnyL P md ops Q S0 S1 s (fuel + 1) listed a w :=
 wpAnyL_take1 hm hi hs hf hr his hQ hy (by unfold stageS; rw [hl]; exact hS) h
theorem wpAnyL_take1b {i : Nat} {oi : Oper} {v : Value} {fuel : Nat} {listed : Array Bool} {a : Act} {w : World} (hm : ∀ w, S0 w → S1 w) (hi : ops[i]? = some oi)
  (hs : Region.noSelect ops = true) (hf : Region.free md ops listed i = true) (hr : (Region.ready md ops listed).contains i = true) (his : (i == s) = false) (hl : listed.getD s false = true)
  (hQ : ∀ c a w, Q (.panic c) (a.put oi.dst v) w → Q (.panic c) a w) (hy : YieldsIf P ops S1 oi v a) (hS : S1 w)
  (h : wpAnyL P md ops Q S0 S1 s fuel (listed.setIfInBounds i true) (a.put oi.dst v) w) : wpAnyL P md ops Q S0 S1 s (fuel + 1) listed a w :=
 wpAnyL_take1 hm hi hs hf hr his hQ hy (by unfold stageS; rw [hl, if_pos rfl]; exact hS) h
/-! the same, shorter to say -/
theorem tk0 (i : Nat) {oi : Oper} {d : Tmp} {v : Value} {fuel : Nat} {listed : Array Bool} {a : Act} {w : World} (hi : ops[i]? = some oi)
  (h : wpAnyL P md ops Q S0 S1 s fuel (listed.setIfInBounds i true) (a.put (some d) v) w) (hy : ∀ w, S0 w → (execOp a.eval oi).run P w = .ok (.value v) w := by intro w h; (try dsimp only at h); go_simp; try with_reducible rfl) (hd : oi.dst = some d := by rfl) (hs : Region.noSelect ops = true := by kernel_rfl) (hf : Region.free md ops listed i = true := by kernel_rfl) (hr : (Region.ready md ops listed).contains i = true := by kernel_rfl) (hws : waitsFor md ops s i = true := by kernel_rfl) (hl : listed.getD s false = false := by kernel_rfl) (hw : Region.wanted oi (yielded ops a.tmps) = true := by kernel_rfl)
  (hQ : ∀ c a w, Q (.panic c) (a.put oi.dst v) w → Q (.panic c) a w := by exact fun _ _ _ h => h) (hS : S0 w := by assumption) : wpAnyL P md ops Q S0 S1 s (fuel + 1) listed a w :=
 wpAnyL_take0 hi hs hf hr hws hl hQ (Or.inl ⟨hw, hy⟩) hS (by rw [hd]; exact h)
theorem sk0 (i : Nat) {oi : Oper} {d : Tmp} {fuel : Nat} {listed : Array Bool} {a : Act} {w : World} (hi : ops[i]? = some oi)
  (h : wpAnyL P md ops Q S0 S1 s fuel (listed.setIfInBounds i true) (a.put (some d) undef) w) (hd : oi.dst = some d := by rfl) (hs : Region.noSelect ops = true := by kernel_rfl) (hf : Region.free md ops listed i = true := by kernel_rfl) (hr : (Region.ready md ops listed).contains i = true := by kernel_rfl) (hws : waitsFor md ops s i = true := by kernel_rfl) (hl : listed.getD s false = false := by kernel_rfl) (hw : Region.wanted oi (yielded ops a.tmps) = false := by kernel_rfl)
  (hQ : ∀ c a w, Q (.panic c) (a.put oi.dst undef) w → Q (.panic c) a w := by exact fun _ _ _ h => h) (hS : S0 w := by assumption) : wpAnyL P md ops Q S0 S1 s (fuel + 1) listed a w :=
 wpAnyL_take0 hi hs hf hr hws hl hQ (Or.inr ⟨hw, rfl⟩) hS (by rw [hd]; exact h)
theorem tk1 (i : Nat) {oi : Oper} {d : Tmp} {v : Value} {fuel : Nat} {listed : Array Bool} {a : Act} {w : World} (hm : ∀ w, S0 w → S1 w) (hi : ops[i]? = some oi)
  (h : wpAnyL P md ops Q S0 S1 s fuel (listed.setIfInBounds i true) (a.put (some d) v) w) (hy : ∀ w, S1 w → (execOp a.eval oi).run P w = .ok (.value v) w := by intro w h; (try dsimp only at h); go_simp; try with_reducible rfl) (hd : oi.dst = some d := by rfl) (hs : Region.noSelect ops = true := by kernel_rfl) (hf : Region.free md ops listed i = true := by kernel_rfl) (hr : (Region.ready md ops listed).contains i = true := by kernel_rfl) (his : (i == s) = false := by kernel_rfl) (hl : listed.getD s false = false := by kernel_rfl) (hw : Region.wanted oi (yielded ops a.tmps) = true := by kernel_rfl)
  (hQ : ∀ c a w, Q (.panic c) (a.put oi.dst v) w → Q (.panic c) a w := by exact fun _ _ _ h => h) (hS : S0 w := by assumption) : wpAnyL P md ops Q S0 S1 s (fuel + 1) listed a w :=
 wpAnyL_take1a hm hi hs hf hr his hl hQ (Or.inl ⟨hw, hy⟩) hS (by rw [hd]; exact h)
theorem sk1 (i : Nat) {oi : Oper} {d : Tmp} {fuel : Nat} {listed : Array Bool} {a : Act} {w : World} (hm : ∀ w, S0 w → S1 w) (hi : ops[i]? = some oi)
  (h : wpAnyL P md ops Q S0 S1 s fuel (listed.setIfInBounds i true) (a.put (some d) undef) w) (hd : oi.dst = some d := by rfl) (hs : Region.noSelect ops = true := by kernel_rfl) (hf : Region.free md ops listed i = true := by kernel_rfl) (hr : (Region.ready md ops listed).contains i = true := by kernel_rfl) (his : (i == s) = false := by kernel_rfl) (hl : listed.getD s false = false := by kernel_rfl) (hw : Region.wanted oi (yielded ops a.tmps) = false := by kernel_rfl)
  (hQ : ∀ c a w, Q (.panic c) (a.put oi.dst undef) w → Q (.panic c) a w := by exact fun _ _ _ h => h) (hS : S0 w := by assumption) : wpAnyL P md ops Q S0 S1 s (fuel + 1) listed a w :=
 wpAnyL_take1a hm hi hs hf hr his hl hQ (Or.inr ⟨hw, rfl⟩) hS (by rw [hd]; exact h)
theorem tk2 (i : Nat) {oi : Oper} {d : Tmp} {v : Value} {fuel : Nat} {listed : Array Bool} {a : Act} {w : World} (hm : ∀ w, S0 w → S1 w) (hi : ops[i]? = some oi)
  (h : wpAnyL P md ops Q S0 S1 s fuel (listed.setIfInBounds i true) (a.put (some d) v) w) (hy : ∀ w, S1 w → (execOp a.eval oi).run P w = .ok (.value v) w := by intro w h; (try dsimp only at h); go_simp; try with_reducible rfl) (hd : oi.dst = some d := by rfl) (hs : Region.noSelect ops = true := by kernel_rfl) (hf : Region.free md ops listed i = true := by kernel_rfl) (hr : (Region.ready md ops listed).contains i = true := by kernel_rfl) (his : (i == s) = false := by kernel_rfl) (hl : listed.getD s false = true := by kernel_rfl) (hw : Region.wanted oi (yielded ops a.tmps) = true := by kernel_rfl)
  (hQ : ∀ c a w, Q (.panic c) (a.put oi.dst v) w → Q (.panic c) a w := by exact fun _ _ _ h => h) (hS : S1 w := by assumption) : wpAnyL P md ops Q S0 S1 s (fuel + 1) listed a w :=
 wpAnyL_take1b hm hi hs hf hr his hl hQ (Or.inl ⟨hw, hy⟩) hS (by rw [hd]; exact h)
def AllReadyL (P : Program) (md : Region.Mode) (ops : Array Oper) (Q : Exit → Act → World → Prop) (S0 S1 : World → Prop) (s : Nat) (fuel : Nat) (listed : Array Bool) (a : Act) (w : World) (rs : List Nat) : Prop :=
 ∀ i ∈ rs, wpOp P ops Q i (fun a' w' => stageS S0 S1 s (listed.setIfInBounds i true) w' ∧ wpAnyL P md ops Q S0 S1 s fuel (listed.setIfInBounds i true) a' w') a w
theorem AllReadyL.nil {fuel : Nat} {listed : Array Bool} {a : Act} {w : World} : AllReadyL P md ops Q S0 S1 s fuel listed a w [] := fun _ h => by cases h
/-- Ahead of s. -/
theorem AllReadyL.cons0 {fuel : Nat} {listed : Array Bool} {a : Act} {w : World} {i : Nat} {o : Oper} {rs : List Nat} (ho : ops[i]? = some o) (hl : (listed.setIfInBounds i true).getD s false = false)
  (h : ∀ K' : Act → World → Prop, Shut (∀ a w, S0 w → (S0 w → wpAnyL P md ops Q S0 S1 s fuel (listed.setIfInBounds i true) a w) → K' a w) → if Region.wanted o (yielded ops a.tmps) = true then Oper.wp P o a w K' Q else K' (a.put o.dst undef) w)
  (hs : AllReadyL P md ops Q S0 S1 s fuel listed a w rs) : AllReadyL P md ops Q S0 S1 s fuel listed a w (i :: rs) := fun j hj => by
 rcases List.mem_cons.1 hj with rfl | hj
 ·exact wpOp_step ho (fun K' hK => h K' (fun a w hS hW => hK a w ⟨by unfold stageS; rw [hl]; exact hS, hW hS⟩))
 ·exact hs j hj
/-- Operation s itself, and what comes behind it. -/
theorem AllReadyL.cons1 {fuel : Nat} {listed : Array Bool} {a : Act} {w : World} {i : Nat} {o : Oper} {rs : List Nat} (ho : ops[i]? = some o) (hl : (listed.setIfInBounds i true).getD s false = true)
  (h : ∀ K' : Act → World → Prop, Shut (∀ a w, S1 w → (S1 w → wpAnyL P md ops Q S0 S1 s fuel (listed.setIfInBounds i true) a w) → K' a w) → if Region.wanted o (yielded ops a.tmps) = true then Oper.wp P o a w K' Q else K' (a.put o.dst undef) w)
  (hs : AllReadyL P md ops Q S0 S1 s fuel listed a w rs) : AllReadyL P md ops Q S0 S1 s fuel listed a w (i :: rs) := fun j hj => by
 rcases List.mem_cons.1 hj with rfl | hj
 ·exact wpOp_step ho (fun K' hK => h K' (fun a w hS hW => hK a w ⟨by unfold stageS; rw [hl, if_pos rfl]; exact hS, hW hS⟩))
 ·exact hs j hj
theorem wpAnyL_ready {rs : List Nat} {fuel : Nat} {listed : Array Bool} {a : Act} {w : World} (hr : Region.ready md ops listed = rs) (hne : rs ≠ [])
  (h : AllReadyL P md ops Q S0 S1 s fuel listed a w rs) : wpAnyL P md ops Q S0 S1 s (fuel + 1) listed a w :=
 ⟨fun h0 => absurd (hr ▸ h0) hne, hr ▸ h⟩
theorem wpAnyL_done {listed : Array Bool} {a : Act} {w : World} (hr : Region.ready md ops listed = []) (h : Q .normal a w) :
  ∀ fuel, wpAnyL P md ops Q S0 S1 s fuel listed a w
 | 0 => ⟨hr, h⟩
 | _ + 1 => ⟨fun _ => h, by rw [hr]; simp⟩
theorem wp_region_stage (S0 S1 : World → Prop) (s : Nat) {id : Nat} {a : Act} {w : World} (hm : P.follows .mixedOrders = true) (hS : S0 w.drew)
  (h : S0 w.drew → wpAnyL P .any ops Q S0 S1 s ops.size (Array.replicate ops.size false) a w.drew) : (Code.region id ops true).wp P Q a w :=
 wp_region_any hm (wpAny_of_stage _ _ _ _ (h hS))
end
/-- No operation of a region that is to be done when the function is left. -/
def noDefer (ops : Array Oper) : Bool := ops.all fun o => match o.op with | .defer _ => false | _ => true
/-- Q, but nothing of a stack that is outgrown. -/
def NoOut (Q : Exit → Act → World → Prop) : Exit → Act → World → Prop
 | .outgrown, _, _ => False
 | e, a, w => Q e a w
theorem noOut_lets (Q : Exit → Act → World → Prop) : ¬ LetsOut (NoOut Q) := fun ⟨_, _, h⟩ => h
section
variable {P : Program} {ops : Array Oper} {Q : Exit → Act → World → Prop} {md : Region.Mode} {S0 S1 : World → Prop} {s : Nat} {l n : Nat}
theorem wpOp_round {i : Nat} {K : Act → World → Prop} {a : Act} {w : World} (hd : noDefer ops = true) (h : wpOp P ops (NoOut Q) i K a w) : wpOpIn (Fence.wide.inRound l) n P ops Q i K a w := by
 unfold wpOp at h
 unfold wpOpIn
 cases ho : ops[i]? with
 | none => rw [ho] at h; exact h
 | some o =>
  rw [ho] at h
  have hdo : ∀ c, o.op ≠ .defer c := fun c e => by
   have := Array.all_eq_true_iff_forall_mem.1 hd o (Array.mem_of_getElem? ho)
   simp [e] at this
  simp only at h ⊢
  split
  ·rename_i hw
   rw [if_pos hw] at h
   rcases h with h | h
   ·refine ⟨fun _ _ => trivial, ?_⟩
    rw [Oper.semAt_eq _ _ _ hdo]
    unfold Oper.wp at h
    generalize (execOp a.eval o).run P w = r at *
    cases r with
    | ok x w' =>
     cases x <;> simp only [Oper.upon, Oper.uponIn] at h ⊢
     case value => exact h
     case skip => exact h
     case defer => exact h
     case enter f args =>
      refine ⟨fun h => by simp [Fence.wide] at h, CallsIn.inRound l (callsIn_wide.2 (h.mono fun e w'' he => ?_))⟩
      cases e with
      | returned v => exact he
      | panicked c => exact he
      | outgrown => exact (noOut_lets Q he).elim
     case row row args =>
      exact ⟨fun h => by simp [Fence.wide] at h, fun c cs _ => by
       obtain ⟨v, w', hr, st⟩ := h c cs
       exact ⟨v, w', hr, stepsIn_wide.2 st⟩⟩
    | halt x w' => cases x <;> simp only [Oper.upon, Oper.uponIn] at h ⊢ <;> exact h
   ·exact (noOut_lets Q h.2).elim
  ·rename_i hw
   rw [if_neg hw] at h
   exact ⟨fun _ _ => trivial, h⟩
theorem wpAny_round (hd : noDefer ops = true) : ∀ (fuel : Nat) (listed : Array Bool) (a : Act) (w : World), wpAny P md ops (NoOut Q) fuel listed a w → wpAnyIn (Fence.wide.inRound l) n P md ops Q fuel listed a w
 | 0, _, _, _, h => h
 | fuel + 1, _, _, _, h => ⟨h.1, fun i hi => wpOpIn_mono (fun a' w' h' => wpAny_round hd fuel _ a' w' h') (wpOp_round hd (h.2 i hi))⟩
theorem wpIn_region_stage (S0 S1 : World → Prop) (s : Nat) {id : Nat} {a : Act} {w : World} (hm : P.follows .mixedOrders = true) (hd : noDefer ops = true) (hS : S0 w.drew)
  (h : S0 w.drew → wpAnyL P .any ops (NoOut Q) S0 S1 s ops.size (Array.replicate ops.size false) a w.drew) : (Code.region id ops true).wpIn (Fence.wide.inRound l) n P Q a w :=
 wpIn_region_any hm (wpAny_round hd _ _ _ _ (wpAny_of_stage _ _ _ _ (h hS)))
theorem wpIn_region_held (S : World → Prop) {id : Nat} {a : Act} {w : World} (hm : P.follows .mixedOrders = true) (hd : noDefer ops = true) (hS : S w.drew)
  (h : S w.drew → wpAnyH P .any ops (NoOut Q) S ops.size (Array.replicate ops.size false) a w.drew) : (Code.region id ops true).wpIn (Fence.wide.inRound l) n P Q a w :=
 wpIn_region_any hm (wpAny_round hd _ _ _ _ (wpAny_of_held _ _ _ _ (h hS)))
end
section
variable {P : Program} {ops : Array Oper} {Q : Exit → Act → World → Prop} {md : Region.Mode} {S : World → Prop}
theorem tkH (i : Nat) {oi : Oper} {d : Tmp} {v : Value} {fuel : Nat} {listed : Array Bool} {a : Act} {w : World} (hi : ops[i]? = some oi)
  (h : wpAnyH P md ops Q S fuel (listed.setIfInBounds i true) (a.put (some d) v) w) (hy : ∀ w, S w → (execOp a.eval oi).run P w = .ok (.value v) w := by intro w h; (try dsimp only at h); go_simp; try with_reducible rfl) (hd : oi.dst = some d := by rfl) (hs : Region.noSelect ops = true := by kernel_rfl) (hf : Region.free md ops listed i = true := by kernel_rfl) (hr : (Region.ready md ops listed).contains i = true := by kernel_rfl) (hw : Region.wanted oi (yielded ops a.tmps) = true := by kernel_rfl)
  (hQ : ∀ c a w, Q (.panic c) (a.put oi.dst v) w → Q (.panic c) a w := by exact fun _ _ _ h => h) (hS : S w := by assumption) : wpAnyH P md ops Q S (fuel + 1) listed a w :=
 wpAnyH_take hi hs hf hr hQ (Or.inl ⟨hw, hy⟩) hS (by rw [hd]; exact h)
theorem skH (i : Nat) {oi : Oper} {d : Tmp} {fuel : Nat} {listed : Array Bool} {a : Act} {w : World} (hi : ops[i]? = some oi)
  (h : wpAnyH P md ops Q S fuel (listed.setIfInBounds i true) (a.put (some d) undef) w) (hd : oi.dst = some d := by rfl) (hs : Region.noSelect ops = true := by kernel_rfl) (hf : Region.free md ops listed i = true := by kernel_rfl) (hr : (Region.ready md ops listed).contains i = true := by kernel_rfl) (hw : Region.wanted oi (yielded ops a.tmps) = false := by kernel_rfl)
  (hQ : ∀ c a w, Q (.panic c) (a.put oi.dst undef) w → Q (.panic c) a w := by exact fun _ _ _ h => h) (hS : S w := by assumption) : wpAnyH P md ops Q S (fuel + 1) listed a w :=
 wpAnyH_take hi hs hf hr hQ (Or.inr ⟨hw, rfl⟩) hS (by rw [hd]; exact h)
end
end Go.Proofs.YtomlilkobhkoiaaGreatDoor
/- Things in memory, many in one; one of a row of them taken out. Nothing of the program stands here. -/
namespace Go.Proofs.YtomlilkobhkoiaaGreatDoor
open Go.RowKit Go.Lib
set_option linter.unusedVariables false
/-- Many things as one. -/
def packR (L : List Res) : Res where
 sat F W := Sat W L F
 stay h hs := hs.stay h
 lt hs := hs.lt
section
variable {w W : World} {F : Nat → Prop} {L R : List Res}
theorem Sts.unpack (h : Sts w F W (packR L :: R)) : Sts w F W (L ++ R) := by
 obtain ⟨⟨G, ⟨A, B, ha, hb, hd, hf⟩, hg⟩, m⟩ := h
 exact ⟨⟨G, (Sat.append (L1 := L) ha hb hd).congr fun k => (hf k).symm, hg⟩, m⟩
theorem Sts.pack (h : Sts w F W (L ++ R)) : Sts w F W (packR L :: R) := by
 obtain ⟨⟨G, hs, hg⟩, m⟩ := h
 obtain ⟨A, B, ha, hb, hd, hf⟩ := Sat.parts (L1 := L) hs
 exact ⟨⟨G, ⟨A, B, ha, hb, hd, hf⟩, hg⟩, m⟩
end
/-- One of a row of things is taken out. -/
theorem row_take (f : Nat → Res) {n k : Nat} (hk : k < n) : ((List.range n).map f).Perm (f k :: ((List.range n).erase k).map f) :=
 (List.perm_cons_erase (List.mem_range.2 hk)).map f
/-- The others stay. -/
theorem row_others {f g : Nat → Res} {n k : Nat} (h : ∀ i, i ≠ k → f i = g i) : ((List.range n).erase k).map f = ((List.range n).erase k).map g :=
 List.map_congr_left fun i hi => h i ((List.nodup_range.mem_erase_iff.1 hi).1)
/-- A function, turned at one place. -/
def updF {α : Type} (f : Nat → α) (k : Nat) (x : α) : Nat → α := fun i => if i = k then x else f i
theorem updF_same {α : Type} (f : Nat → α) (k : Nat) (x : α) : updF f k x k = x := by unfold updF; rw [if_pos rfl]
theorem updF_other {α : Type} (f : Nat → α) {k i : Nat} (x : α) (h : i ≠ k) : updF f k x i = f i := by unfold updF; rw [if_neg h]
end Go.Proofs.YtomlilkobhkoiaaGreatDoor
/- Things in memory, in another order. Nothing of the program stands here. -/
namespace Go.Proofs.YtomlilkobhkoiaaGreatDoor
open Go.RowKit
set_option linter.unusedVariables false
/-- The first things, in another order. -/
def pickL (L : List Res) (p : List Nat) : List Res := p.filterMap (fun i => L[i]?) ++ L.drop p.length
theorem range_get {α : Type} (L : List α) : ∀ n, (List.range n).filterMap (fun i => L[i]?) = L.take n
 | 0 => by simp
 | n + 1 => by
  rw [List.range_succ, List.filterMap_append, range_get L n, List.take_add_one]
  cases h : L[n]? <;> simp [List.filterMap, h]
theorem pick_perm (L : List Res) (p : List Nat) (hp : p.isPerm (List.range p.length) = true) : L.Perm (pickL L p) := by
 have h : p.Perm (List.range p.length) := List.isPerm_iff.1 hp
 have h2 := (h.filterMap fun i => L[i]?).symm
 rw [range_get] at h2
 have h3 := h2.append_right (L.drop p.length)
 rw [List.take_append_drop] at h3
 exact h3
theorem Sts.ord {w W : World} {F : Nat → Prop} {L L' : List Res} (h : Sts w F W L) (p : List Nat) (hp : p.isPerm (List.range p.length) = true := by rfl) (e : pickL L p = L' := by dsimp only [pickL, List.filterMap, List.length_cons, List.length_nil, Nat.reduceAdd, List.drop, List.getElem?_cons_succ, List.getElem?_cons_zero, List.cons_append, List.nil_append]) : Sts w F W L' := by
 rw [← e]; exact h.perm (pick_perm L p hp)
example {w W : World} {F : Nat → Prop} {a b c d : Res} {R : List Res} (h : Sts w F W (a :: b :: c :: d :: R)) : Sts w F W (c :: a :: d :: b :: R) := by
 have T := h.ord [2, 0, 1]
 have T2 := T.ord [0, 1, 3, 2]
 with_reducible exact T2
example {w W : World} {F : Nat → Prop} {a b c d : Res} (h : Sts w F W [a, b, c, d]) : Sts w F W [d, a, b, c] := by
 have T := h.ord [3, 0, 1, 2]
 with_reducible exact T
end Go.Proofs.YtomlilkobhkoiaaGreatDoor
/- Layer 10: the wheel, where a thing is due that was not: it goes to the end. -/
namespace Go.Proofs.YtomlilkobhkoiaaGreatDoor
open Go.RowKit
set_option linter.unusedVariables false
set_option maxRecDepth 20000
attribute [local go_sem] row_alloc row_drew row_drewN row_ext row_setCell row_setRow size_ext setRow_alloc setRow_drew loadOf storeOf piece_lit loadVal_at storeVal_at allOne_lit buildOf buildRes_some
attribute [local go_sem high] cell_alloc frozen_alloc setCell_alloc cell_ext frozen_ext cell_setRow frozen_setRow
attribute [local go_sem ↓] TItem_ld0 TItem_st0 TItem_fd0 TItem_bd0
attribute [local go_sem] TItem_size TItem_one TItem_piece TItem_c0 TItem_c1 TItem_set_rep TItem_set_num TItem_ld TItem_st TItem_f_rep TItem_f_num TItem_bd TItem_fl TItem_fl_rep TItem_fl_num
attribute [local go_sem high] TItem_eql TItem_neq
attribute [local go_sem ↓] TSpoke_ld0 TSpoke_st0 TSpoke_fd0 TSpoke_bd0
attribute [local go_sem] TSpoke_size TSpoke_one TSpoke_piece TSpoke_c0 TSpoke_c1 TSpoke_c2 TSpoke_c3 TSpoke_p_key TSpoke_put_key TSpoke_set_due TSpoke_set_turn TSpoke_ld TSpoke_st TSpoke_f_key TSpoke_f_due TSpoke_f_turn TSpoke_bd TSpoke_fl TSpoke_fl_key TSpoke_fl_due TSpoke_fl_turn
attribute [local go_sem high] TSpoke_eql TSpoke_neq
theorem vec_get {α : Type} {V : α → Array Value} {size : Nat} {P : Program} {e : TypeId} {td : TypeDesc} {w W : World} {F : Nat → Prop} {R : List Res} {A : Option Addr} {k c : Nat} {l : List α} {i : Nat} {y : α} (hV : ∀ x, (V x).size = size) (h0 : 0 < size) (hu : P.underlying e = some td) (hd : td.isRow = true) (hi : (P.info? e).map (·.size) = some size) (T : Sts w F W (vecR e size (.slice A k c) k (vl V l) :: R)) (hk : k = l.length) (hy : l[i]? = some y) (hl : k ≤ 1000000) :
  ∃ g, A = some ⟨g, 0, none⟩ ∧ loadVal P e size W (.pointer (some ⟨g, i * size, none⟩)) = .ok (.agg (V y)) W := by
 subst hk
 obtain ⟨A', c', hv, hA, -, hA0⟩ := vec_rows hV T h0 (by omega)
 injection hv with e1 e2 e3
 subst e1
 obtain ⟨hil, rfl⟩ := List.getElem?_eq_some_iff.1 hy
 cases hh : A with
 | none => have := hA.nil hh; subst this; simp at hil
 | some a =>
  obtain ⟨g, rfl⟩ := hA0 a hh
  have hld := hA.load (P := P) (T := e) hV hu hd hi (Below.refl _ _) hh hil
  rw [add_none, Nat.zero_add] at hld
  exact ⟨g, rfl, hld⟩
/-- What a call does to the worlds of things: nothing but new blocks. -/
theorem vec_form {e : TypeId} {size n : Nat} {v : Value} {xs : List Value} {w W : World} {F : Nat → Prop} {R : List Res} (T : Sts w F W (vecR e size v n xs :: R)) : ∃ A c, v = .slice A n c ∧ n ≤ c := by
 rcases T.vec.2 with ⟨h, h0⟩ | ⟨g, c, cur, h, -, -, h1, -⟩
 ·exact ⟨none, 0, by rw [h, h0], by omega⟩
 ·exact ⟨_, c, h, h1⟩
/-- Spokes, one behind the other. -/
abbrev skR (v : Value) (l : List Spoke) : Res := vecR 184 4 v l.length (vl SKV l)
section
variable {w W : World} {F : Nat → Prop} {R : List Res}
theorem spk_eq (s : Spoke) (x : Item) (g : Nat) (T : Sts w F W (rowR g (IV x) :: R)) :
  Calls Tryz.prog 121 #[.agg (SKV s), .pointer (some ⟨g, 0, none⟩)] W fun e W' => e = .returned (.bool (eqA (IV s.key) (IV x))) ∧ Sts w F W' (rowR g (IV x) :: R) := by
 have T1 := T.new (SKV s) 184
 have hr := T1.row; have hlt := row_lt hr; have hc := row_cell hr
 have rg := T1.row1; have lg := row_lt rg; have ne := T1.ne
 have HT := Lib.hid T1.drop; clear T T1
 go_enter Tryz.func121, Tryz.ntmps121
 go_wp2
 go_ret
 exact ⟨rfl, HT.out⟩
set_option maxHeartbeats 4000000 in
theorem spk_index {v : Value} {l : List Spoke} (hl : l.length ≤ 1000) (x : Item) (g : Nat) (hno : ∀ s ∈ l, eqA (IV s.key) (IV x) = false) (T : Sts w F W (rowR g (IV x) :: skR v l :: R)) :
  Calls Tryz.prog 120 #[v, .func (.func 121) #[] #[.pointer (some ⟨g, 0, none⟩)]] W fun e W' => e = .returned (.int .i64 (-1)) ∧ Sts w F W' (rowR g (IV x) :: skR v l :: R) := by
 obtain ⟨A, c, rfl, hc⟩ := vec_form T.swap
 obtain ⟨n, hn⟩ : ∃ n, n = l.length := ⟨_, rfl⟩
 unfold skR at T ⊢
 rw [← hn] at hl hc T ⊢
 have HN := Lib.hid hn; have HNO := Lib.hid hno; have HT := Lib.hid T
 clear hn hno T
 go_enter Tryz.func120, Tryz.ntmps120
 go_wp2_with fail
 go_loopw [8] (fun u8 wr => ∃ k : Nat, u8 = .int .i64 k ∧ k ≤ n ∧ Sts w F wr (rowR g (IV x) :: vecR 184 4 (.slice A n c) n (vl SKV l) :: R)) (fun u8 _ => n - (intOf u8).toNat)
 case atStart => exact ⟨0, rfl, by omega, HT.out⟩
 case round =>
  clear HT
  obtain ⟨k, rfl, hk, T⟩ := hrel
  by_cases hkn : k < n
  ·have hk1 : (k : Int) < (n : Int) := by omega
   have hk0 : (0 : Int) ≤ (k : Int) := by omega
   obtain ⟨y, hy⟩ : ∃ y, l[k]? = some y := ⟨l[k]'(by rw [← HN.out]; exact hkn), List.getElem?_eq_getElem _⟩
   obtain ⟨g5, rfl, hld⟩ := vec_get (P := Tryz.prog) (e := 184) TSpoke_size (by omega) TSpoke_und rfl (by kernel_rfl) T.swap HN.out hy (by omega)
   have he := HNO.out y (List.mem_of_getElem? hy)
   have hcl := spk_eq y x g T
   rw [he] at hcl
   have HC := Lib.hid hcl
   clear T hy he hcl
   go_wp2_with fail
   refine HC.out.mono ?_
   clear HC hld
   rintro e w5 ⟨rfl, T⟩
   have HT := Lib.hid T; clear T
   go_wp2
   go_roundw
   case rel => exact ⟨k + 1, by go_num, by omega, HT.out⟩
   case measure => simp [intOf]; omega
  ·have hk1 : ¬ (k : Int) < (n : Int) := by omega
   have HT := Lib.hid T; clear T
   go_wp2
   go_ret
   exact ⟨rfl, HT.out⟩
section
variable {b : Nat} {v : Value} {turn : Int} {l : List Spoke}
set_option maxHeartbeats 4000000 in
theorem whFindT (hl : l.length ≤ 1000) (x : Item) (hno : ∀ s ∈ l, eqA (IV s.key) (IV x) = false) (T : Sts w F W (rowR b #[v, .int .i64 turn] :: skR v l :: R)) :
  Calls Tryz.prog 71 #[.pointer (some ⟨b, 0, none⟩), .agg (IV x)] W fun e W' => e = .returned (.int .i64 (-1)) ∧ Sts w F W' (rowR b #[v, .int .i64 turn] :: skR v l :: R) := by
 have T1 : Sts w F (W.alloc (.cells (IV x) 33)) (rowR W.heap.size (IV x) :: rowR b #[v, .int .i64 turn] :: skR v l :: R) := T.new (IV x) 33
 have r0 := T1.row1; have l0 := row_lt r0; have c0 := row_cell r0 0
 have T2 := T1.ord [0, 2, 1]
 have HX := Lib.hid (spk_index hl x W.heap.size hno T2)
 clear T T1 T2
 go_enter Tryz.func71, Tryz.ntmps71
 go_wp2_with fail
 refine HX.out.mono ?_
 clear HX r0 l0 c0
 rintro e w5 ⟨rfl, T⟩
 have HT := Lib.hid T; clear T
 go_wp2
 go_ret
 exact ⟨rfl, (HT.out.drop).swap⟩
set_option maxHeartbeats 4000000 in
theorem whDueT (hl : l.length ≤ 1000) (x : Item) (hno : ∀ s ∈ l, eqA (IV s.key) (IV x) = false) (T : Sts w F W (rowR b #[v, .int .i64 turn] :: skR v l :: R)) :
  Calls Tryz.prog 40 #[.pointer (some ⟨b, 0, none⟩), .agg (IV x)] W fun e W' => e = .returned (.tuple #[.int .i64 0, .bool false]) ∧ Sts w F W' (rowR b #[v, .int .i64 turn] :: skR v l :: R) := by
 have T1 : Sts w F (W.alloc (.cells (IV x) 33)) (rowR b #[v, .int .i64 turn] :: skR v l :: rowR W.heap.size (IV x) :: R) := (T.new (IV x) 33).ord [1, 2, 0]
 have r0 := (T1.ord [2, 0, 1]).row; have l0 := row_lt r0; have c0 := row_cell r0
 have HX := Lib.hid (whFindT hl x hno T1)
 clear T T1
 go_enter Tryz.func40, Tryz.ntmps40
 go_wp2_with fail
 refine HX.out.mono ?_
 clear HX r0 l0 c0
 rintro e w5 ⟨rfl, T⟩
 have HT := Lib.hid T; clear T
 go_wp2
 go_ret2
 exact ⟨rfl, (HT.out.ord [2, 0, 1]).drop⟩
set_option maxHeartbeats 4000000 in
theorem whDropT (hl : l.length ≤ 1000) (x : Item) (gk : Nat) (hno : ∀ s ∈ l, eqA (IV s.key) (IV x) = false) (T : Sts w F W (rowR gk (IV x) :: rowR b #[v, .int .i64 turn] :: skR v l :: R)) :
  Calls Tryz.prog 72 #[.pointer (some ⟨b, 0, none⟩), .slice (some ⟨gk, 0, none⟩) 1 1] W fun e W' => e = .returned (.int .i64 0) ∧ Sts w F W' (rowR gk (IV x) :: rowR b #[v, .int .i64 turn] :: skR v l :: R) := by
 have HT := Lib.hid T; clear T
 go_enter Tryz.func72, Tryz.ntmps72
 go_wp2_with fail
 go_loopw [5, 11] (fun u5 u11 wr => u5 = .int .i64 0 ∧ ∃ k : Nat, u11 = .int .i64 k ∧ k ≤ 1 ∧ Sts w F wr (rowR gk (IV x) :: rowR b #[v, .int .i64 turn] :: skR v l :: R)) (fun _ u11 _ => 1 - (intOf u11).toNat)
 case atStart => exact ⟨rfl, 0, rfl, by omega, HT.out⟩
 case round =>
  clear HT
  obtain ⟨rfl, k, rfl, hk, T⟩ := hrel
  by_cases hkn : k < 1
  ·obtain rfl : k = 0 := by omega
   have rk := T.row; have lk := row_lt rk; have ck := row_cell rk
   have T1 : Sts w F (wr.alloc (.cells (IV x) 33)) (rowR wr.heap.size (IV x) :: rowR gk (IV x) :: rowR b #[v, .int .i64 turn] :: skR v l :: R) := T.new (IV x) 33
   have r1 := T1.row; have l1 := row_lt r1
   have T2 : Sts w F (wr.alloc (.cells (IV x) 33)) (rowR b #[v, .int .i64 turn] :: skR v l :: rowR gk (IV x) :: R) := T1.drop.ord [1, 2, 0]
   have HX := Lib.hid (whFindT hl x hno T2)
   clear T T1 T2
   go_wp2_with fail
   refine HX.out.mono ?_
   clear HX rk lk ck r1 l1
   rintro e w5 ⟨rfl, T⟩
   have HT := Lib.hid T; clear T
   go_wp2
   go_roundw
   case rel => exact ⟨rfl, 1, by go_num, by omega, HT.out.ord [2, 0, 1]⟩
   case measure => simp [intOf]
  ·have hk1 : ¬ (k : Int) < 1 := by omega
   have HT := Lib.hid T; clear T
   go_wp2
   go_ret
   exact ⟨rfl, HT.out⟩
theorem before_any (s t : Spoke) (hd : s.due = t.due) (ht : s.turn < t.turn) : Ans Tryz.prog 74 #[.agg (SKV s), .agg (SKV t)] (.int .i64 (-1)) := by
 intro W
 have h1 : ¬ s.due < t.due := by omega
 have h2 : (s.due == t.due) = true := by simp [hd]
 have HD := Lib.hid hd; clear hd
 have T := ((Sts.start0 W).new (SKV s) 184).new (SKV t) 184
 have HT := Lib.hid T; clear T
 go_enter Tryz.func74, Tryz.ntmps74
 go_wp2
 go_ret
 exact ⟨rfl, HT.out.below⟩
end
end
end Go.Proofs.YtomlilkobhkoiaaGreatDoor
