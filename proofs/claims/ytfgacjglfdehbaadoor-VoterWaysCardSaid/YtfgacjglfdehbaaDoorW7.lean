/- Several texts in one. -/
import Derived.Test.YtfgacjglfdehbaaDoorW2
import Derived.Deep.RegionHeld3
import Derived.OrdersIn
import Derived.RangeFuncCalls
/- Regions that draw their order: what holds ahead of one operation (a store), and what holds throughout. Nothing of the program stands here. -/
namespace Go.Proofs.YtfgacjglfdehbaaDoor
open Go.RowKit
set_option linter.unusedVariables false
theorem size_drew (w : World) : w.drew.heap.size = w.heap.size := rfl
section
variable {P : Program} {ops : Array Oper} {Q : Exit → Act → World → Prop} {md : Region.Mode} {S0 S1 : World → Prop} {s : Nat}
/-- What holds: ahead of operation s the one, behind it the other. -/
def stageS (S0 S1 : World → Prop) (s : Nat) (L : Array Bool) (w : World) : Prop := if L.getD s false = true then S1 w else S0 w
/-- Whatever order is picked from here on. -/
def wpAnyL (P : Program) (md : Region.Mode) (ops : Array Oper) (Q : Exit → Act → World → Prop) (S0 S1 : World → Prop) (s : Nat) : Nat → Array Bool → Act → World → Prop
  | 0, listed, a, w => Region.ready md ops listed = [] ∧ Q .normal a w
  | fuel + 1, listed, a, w =>
    (Region.ready md ops listed = [] → Q .normal a w) ∧
    ∀ i ∈ Region.ready md ops listed, wpOp P ops Q i (fun a' w' => stageS S0 S1 s (listed.setIfInBounds i true) w' ∧ wpAnyL P md ops Q S0 S1 s fuel (listed.setIfInBounds i true) a' w') a w
theorem wpAny_of_stage : ∀ (fuel : Nat) (listed : Array Bool) (a : Act) (w : World), wpAnyL P md ops Q S0 S1 s fuel listed a w → wpAny P md ops Q fuel listed a w
  | 0, _, _, _, h => h
  | fuel + 1, _, _, _, h => ⟨h.1, fun i hi => wpOp_mono (fun a' w' h' => wpAny_of_stage fuel _ a' w' h'.2) (h.2 i hi)⟩
theorem stage_take {i : Nat} {L : Array Bool} {w : World} (h : i ≠ s) (hs : stageS S0 S1 s L w) : stageS S0 S1 s (L.setIfInBounds i true) w := by
  unfold stageS at *
  rw [getD_set_ne false h]
  exact hs
theorem wpAnyL_first {Sy : World → Prop} {I : Array Bool → Prop} {i : Nat} {oi : Oper} {v : Value} (his : i ≠ s) (hI : ∀ L w, I L → stageS S0 S1 s L w → Sy w)
    (hstep : ∀ L j, I L → j ≠ i → i ∈ Region.ready md ops L → j ∈ Region.ready md ops L → I (L.setIfInBounds j true))
    (hi : ops[i]? = some oi) (hsel : ∀ (j : Nat) (o : Oper) cs b, ops[j]? = some o → o.op ≠ .select cs b)
    (hQ : ∀ c a w, Q (.panic c) (a.put oi.dst v) w → Q (.panic c) a w) :
    ∀ (fuel : Nat) (listed : Array Bool) (a : Act) (w : World),
      (∀ j oj, ops[j]? = some oj → j ≠ i → listed.getD j true = false → (∀ e ∈ oj.after, Region.binds md e = true → e.on ≠ i) → oi.apart ops oj = true) →
      i ∈ Region.ready md ops listed → YieldsIf P ops Sy oi v a → I listed → stageS S0 S1 s listed w →
      wpAnyL P md ops Q S0 S1 s fuel (listed.setIfInBounds i true) (a.put oi.dst v) w → wpAnyL P md ops Q S0 S1 s (fuel + 1) listed a w := by
  intro fuel
  induction fuel with
  | zero =>
    intro listed a w _ hr hy hl hS H
    refine ⟨fun h => (by rw [h] at hr; cases hr), fun j hj => ?_⟩
    by_cases hji : j = i
    · subst hji; exact hy.wpOp hi (hI _ _ hl hS) ⟨stage_take his hS, H⟩
    · have := ready_mono hj hji
      rw [H.1] at this
      cases this
  | succ fuel ih =>
    intro listed a w hfree hr hy hl hS H
    refine ⟨fun h => (by rw [h] at hr; cases hr), fun j hj => ?_⟩
    by_cases hji : j = i
    · subst hji; exact hy.wpOp hi (hI _ _ hl hS) ⟨stage_take his hS, H⟩
    · have h1 := H.2 j (ready_mono hj hji)
      obtain ⟨hjun, oj, hoj, hall⟩ := mem_ready.1 hj
      have hnot : ∀ e ∈ oj.after, Region.binds md e = true → e.on ≠ i := fun e he hb heq => by
        have h1 := hall e he hb
        have h0 := (mem_ready.1 hr).1
        rw [heq] at h1
        rcases Nat.lt_or_ge i listed.size with h' | h'
        · simp [h'] at h0 h1; rw [h0] at h1; cases h1
        · simp [Array.getElem?_eq_none h'] at h1
      have h2 := wpOp_putIf hoj (hfree j oj hoj hji hjun hnot) (fun cs b => hsel i oi cs b hi) (fun cs b => hsel j oj cs b hoj) hQ hy h1
      have hfree' : ∀ k ok, ops[k]? = some ok → k ≠ i → (listed.setIfInBounds j true).getD k true = false →
          (∀ e ∈ ok.after, Region.binds md e = true → e.on ≠ i) → oi.apart ops ok = true := fun k ok hk hki hun hno => by
        refine hfree k ok hk hki ?_ hno
        by_cases hjk : j = k
        · subst hjk; exact hjun
        · rw [getD_set_ne true hjk] at hun; exact hun
      refine wpOp_mono (fun a' w' h3 => ?_) h2
      have hst : stageS S0 S1 s (listed.setIfInBounds j true) w' := by
        have := h3.2.1
        unfold stageS at this ⊢
        rw [Array.setIfInBounds_comm _ _ (Ne.symm hji), getD_set_ne false his] at this
        exact this
      refine ⟨hst, ih (listed.setIfInBounds j true) a' w' hfree' (ready_mono hr (Ne.symm hji)) h3.1 (hstep _ _ hl hji hr hj) hst ?_⟩
      rw [Array.setIfInBounds_comm _ _ hji]
      exact h3.2.2
/-- Does operation s wait for operation i? -/
def waitsFor (md : Region.Mode) (ops : Array Oper) (s i : Nat) : Bool := match ops[s]? with
  | none => false
  | some o => o.after.any fun e => Region.binds md e && e.on == i
theorem waits_listed {i : Nat} (h : waitsFor md ops s i = true) {L : Array Bool} (hr : s ∈ Region.ready md ops L) : L.getD i false = true := by
  obtain ⟨_, o, ho, hall⟩ := mem_ready.1 hr
  unfold waitsFor at h
  rw [ho] at h
  simp only [Array.any_eq_true] at h
  obtain ⟨k, hk, h⟩ := h
  simp only [Bool.and_eq_true, beq_iff_eq] at h
  rw [← h.2]
  exact hall _ (Array.getElem_mem hk) h.1
/-- Operation number i is taken first, ahead of s, by what holds ahead of s. -/
theorem wpAnyL_take0 {i : Nat} {oi : Oper} {v : Value} {fuel : Nat} {listed : Array Bool} {a : Act} {w : World} (hi : ops[i]? = some oi)
    (hs : Region.noSelect ops = true) (hf : Region.free md ops listed i = true) (hr : (Region.ready md ops listed).contains i = true) (hw : waitsFor md ops s i = true) (hl : listed.getD s false = false)
    (hQ : ∀ c a w, Q (.panic c) (a.put oi.dst v) w → Q (.panic c) a w) (hy : YieldsIf P ops S0 oi v a) (hS : S0 w)
    (h : wpAnyL P md ops Q S0 S1 s fuel (listed.setIfInBounds i true) (a.put oi.dst v) w) : wpAnyL P md ops Q S0 S1 s (fuel + 1) listed a w := by
  have hri : i ∈ Region.ready md ops listed := by simpa using hr
  have hun : ∀ L : Array Bool, i ∈ Region.ready md ops L → L.getD i false = false := fun L h => by
    have h0 := (mem_ready.1 h).1
    rcases Nat.lt_or_ge i L.size with h' | h'
    · simp [h'] at h0 ⊢; exact h0
    · simp [Array.getElem?_eq_none h']
  refine wpAnyL_first (Sy := S0) (I := fun L => L.getD s false = false) ?_ (fun L w hl h => ?_) (fun L j hl hj hri hrj => ?_) hi (Region.noSelect_spec hs) hQ fuel listed a w (Region.free_spec hi hf) hri hy hl ?_ h
  · rintro rfl
    obtain ⟨_, o, ho, hall⟩ := mem_ready.1 hri
    have := waits_listed hw hri
    rw [hun _ hri] at this
    cases this
  · unfold stageS at h; rw [hl] at h; exact h
  · have hjs : j ≠ s := by
      rintro rfl
      have := waits_listed hw hrj
      rw [hun _ hri] at this
      cases this
    show (L.setIfInBounds j true).getD s false = false
    rw [getD_set_ne false hjs]; exact hl
  · unfold stageS; rw [hl]; exact hS
/-- Operation number i is taken first, by what holds throughout. -/
theorem wpAnyL_take1 {i : Nat} {oi : Oper} {v : Value} {fuel : Nat} {listed : Array Bool} {a : Act} {w : World} (hm : ∀ w, S0 w → S1 w) (hi : ops[i]? = some oi)
    (hs : Region.noSelect ops = true) (hf : Region.free md ops listed i = true) (hr : (Region.ready md ops listed).contains i = true) (his : (i == s) = false)
    (hQ : ∀ c a w, Q (.panic c) (a.put oi.dst v) w → Q (.panic c) a w) (hy : YieldsIf P ops S1 oi v a) (hS : stageS S0 S1 s listed w)
    (h : wpAnyL P md ops Q S0 S1 s fuel (listed.setIfInBounds i true) (a.put oi.dst v) w) : wpAnyL P md ops Q S0 S1 s (fuel + 1) listed a w := by
  have hri : i ∈ Region.ready md ops listed := by simpa using hr
  refine wpAnyL_first (Sy := S1) (I := fun _ => True) (by simpa using his) (fun L w _ h => ?_) (fun _ _ _ _ _ _ => trivial) hi (Region.noSelect_spec hs) hQ fuel listed a w (Region.free_spec hi hf) hri hy trivial hS h
  unfold stageS at h
  split at h
  · exact h
  · exact hm _ h
theorem wpAnyL_take1a {i : Nat} {oi : Oper} {v : Value} {fuel : Nat} {listed : Array Bool} {a : Act} {w : World} (hm : ∀ w, S0 w → S1 w) (hi : ops[i]? = some oi)
    (hs : Region.noSelect ops = true) (hf : Region.free md ops listed i = true) (hr : (Region.ready md ops listed).contains i = true) (his : (i == s) = false) (hl : listed.getD s false = false)
    (hQ : ∀ c a w, Q (.panic c) (a.put oi.dst v) w → Q (.panic c) a w) (hy : YieldsIf P ops S1 oi v a) (hS : S0 w)
    (h : wpAnyL P md ops Q S0 S1 s fuel (listed.setIfInBounds i true) (a.put oi.dst v) w) : wpAnyL P md ops Q S0 S1 s (fuel + 1) listed a w :=
  wpAnyL_take1 hm hi hs hf hr his hQ hy (by unfold stageS; rw [hl]; exact hS) h
theorem wpAnyL_take1b {i : Nat} {oi : Oper} {v : Value} {fuel : Nat} {listed : Array Bool} {a : Act} {w : World} (hm : ∀ w, S0 w → S1 w) (hi : ops[i]? = some oi)
    (hs : Region.noSelect ops = true) (hf : Region.free md ops listed i = true) (hr : (Region.ready md ops listed).contains i = true) (his : (i == s) = false) (hl : listed.getD s false = true)
    (hQ : ∀ c a w, Q (.panic c) (a.put oi.dst v) w → Q (.panic c) a w) (hy : YieldsIf P ops S1 oi v a) (hS : S1 w)
    (h : wpAnyL P md ops Q S0 S1 s fuel (listed.setIfInBounds i true) (a.put oi.dst v) w) : wpAnyL P md ops Q S0 S1 s (fuel + 1) listed a w :=
  wpAnyL_take1 hm hi hs hf hr his hQ hy (by unfold stageS; rw [hl, if_pos rfl]; exact hS) h
def AllReadyL (P : Program) (md : Region.Mode) (ops : Array Oper) (Q : Exit → Act → World → Prop) (S0 S1 : World → Prop) (s : Nat) (fuel : Nat) (listed : Array Bool) (a : Act) (w : World) (rs : List Nat) : Prop :=
  ∀ i ∈ rs, wpOp P ops Q i (fun a' w' => stageS S0 S1 s (listed.setIfInBounds i true) w' ∧ wpAnyL P md ops Q S0 S1 s fuel (listed.setIfInBounds i true) a' w') a w
theorem AllReadyL.nil {fuel : Nat} {listed : Array Bool} {a : Act} {w : World} : AllReadyL P md ops Q S0 S1 s fuel listed a w [] := fun _ h => by cases h
/-- Ahead of s. -/
theorem AllReadyL.cons0 {fuel : Nat} {listed : Array Bool} {a : Act} {w : World} {i : Nat} {o : Oper} {rs : List Nat} (ho : ops[i]? = some o) (hl : (listed.setIfInBounds i true).getD s false = false)
    (h : ∀ K' : Act → World → Prop, Shut (∀ a w, S0 w → (S0 w → wpAnyL P md ops Q S0 S1 s fuel (listed.setIfInBounds i true) a w) → K' a w) → if Region.wanted o (yielded ops a.tmps) = true then Oper.wp P o a w K' Q else K' (a.put o.dst undef) w)
    (hs : AllReadyL P md ops Q S0 S1 s fuel listed a w rs) : AllReadyL P md ops Q S0 S1 s fuel listed a w (i :: rs) := fun j hj => by
  rcases List.mem_cons.1 hj with rfl | hj
  · exact wpOp_step ho (fun K' hK => h K' (fun a w hS hW => hK a w ⟨by unfold stageS; rw [hl]; exact hS, hW hS⟩))
  · exact hs j hj
/-- Operation s itself, and what comes behind it. -/
theorem AllReadyL.cons1 {fuel : Nat} {listed : Array Bool} {a : Act} {w : World} {i : Nat} {o : Oper} {rs : List Nat} (ho : ops[i]? = some o) (hl : (listed.setIfInBounds i true).getD s false = true)
    (h : ∀ K' : Act → World → Prop, Shut (∀ a w, S1 w → (S1 w → wpAnyL P md ops Q S0 S1 s fuel (listed.setIfInBounds i true) a w) → K' a w) → if Region.wanted o (yielded ops a.tmps) = true then Oper.wp P o a w K' Q else K' (a.put o.dst undef) w)
    (hs : AllReadyL P md ops Q S0 S1 s fuel listed a w rs) : AllReadyL P md ops Q S0 S1 s fuel listed a w (i :: rs) := fun j hj => by
  rcases List.mem_cons.1 hj with rfl | hj
  · exact wpOp_step ho (fun K' hK => h K' (fun a w hS hW => hK a w ⟨by unfold stageS; rw [hl, if_pos rfl]; exact hS, hW hS⟩))
  · exact hs j hj
theorem wpAnyL_ready {rs : List Nat} {fuel : Nat} {listed : Array Bool} {a : Act} {w : World} (hr : Region.ready md ops listed = rs) (hne : rs ≠ [])
    (h : AllReadyL P md ops Q S0 S1 s fuel listed a w rs) : wpAnyL P md ops Q S0 S1 s (fuel + 1) listed a w :=
  ⟨fun h0 => absurd (hr ▸ h0) hne, hr ▸ h⟩
theorem wpAnyL_done {listed : Array Bool} {a : Act} {w : World} (hr : Region.ready md ops listed = []) (h : Q .normal a w) :
    ∀ fuel, wpAnyL P md ops Q S0 S1 s fuel listed a w
  | 0 => ⟨hr, h⟩
  | _ + 1 => ⟨fun _ => h, by rw [hr]; simp⟩
theorem wp_region_stage (S0 S1 : World → Prop) (s : Nat) {id : Nat} {a : Act} {w : World} (hm : P.follows .mixedOrders = true) (hS : S0 w.drew)
    (h : S0 w.drew → wpAnyL P .any ops Q S0 S1 s ops.size (Array.replicate ops.size false) a w.drew) : (Code.region id ops true).wp P Q a w :=
  wp_region_any hm (wpAny_of_stage _ _ _ _ (h hS))
end
/-- No operation of a region that is to be done when the function is left. -/
def noDefer (ops : Array Oper) : Bool := ops.all fun o => match o.op with | .defer _ => false | _ => true
/-- Q, but nothing of a stack that is outgrown. -/
def NoOut (Q : Exit → Act → World → Prop) : Exit → Act → World → Prop
  | .outgrown, _, _ => False
  | e, a, w => Q e a w
theorem noOut_lets (Q : Exit → Act → World → Prop) : ¬ LetsOut (NoOut Q) := fun ⟨_, _, h⟩ => h
section
variable {P : Program} {ops : Array Oper} {Q : Exit → Act → World → Prop} {md : Region.Mode} {S0 S1 : World → Prop} {s : Nat} {l n : Nat}
theorem wpOp_round {i : Nat} {K : Act → World → Prop} {a : Act} {w : World} (hd : noDefer ops = true) (h : wpOp P ops (NoOut Q) i K a w) : wpOpIn (Fence.wide.inRound l) n P ops Q i K a w := by
  unfold wpOp at h
  unfold wpOpIn
  cases ho : ops[i]? with
  | none => rw [ho] at h; exact h
  | some o =>
    rw [ho] at h
    have hdo : ∀ c, o.op ≠ .defer c := fun c e => by
      have := Array.all_eq_true_iff_forall_mem.1 hd o (Array.mem_of_getElem? ho)
      simp [e] at this
    simp only at h ⊢
    split
    · rename_i hw
      rw [if_pos hw] at h
      rcases h with h | h
      · refine ⟨fun _ _ => trivial, ?_⟩
        rw [Oper.semAt_eq _ _ _ hdo]
        unfold Oper.wp at h
        generalize (execOp a.eval o).run P w = r at *
        cases r with
        | ok x w' =>
          cases x <;> simp only [Oper.upon, Oper.uponIn] at h ⊢
          case value => exact h
          case skip => exact h
          case defer => exact h
          case enter f args =>
            refine ⟨fun h => by simp [Fence.wide] at h, CallsIn.inRound l (callsIn_wide.2 (h.mono fun e w'' he => ?_))⟩
            cases e with
            | returned v => exact he
            | panicked c => exact he
            | outgrown => exact (noOut_lets Q he).elim
          case row row args =>
            exact ⟨fun h => by simp [Fence.wide] at h, fun c cs _ => by
              obtain ⟨v, w', hr, st⟩ := h c cs
              exact ⟨v, w', hr, stepsIn_wide.2 st⟩⟩
        | halt x w' => cases x <;> simp only [Oper.upon, Oper.uponIn] at h ⊢ <;> exact h
      · exact (noOut_lets Q h.2).elim
    · rename_i hw
      rw [if_neg hw] at h
      exact ⟨fun _ _ => trivial, h⟩
theorem wpAny_round (hd : noDefer ops = true) : ∀ (fuel : Nat) (listed : Array Bool) (a : Act) (w : World), wpAny P md ops (NoOut Q) fuel listed a w → wpAnyIn (Fence.wide.inRound l) n P md ops Q fuel listed a w
  | 0, _, _, _, h => h
  | fuel + 1, _, _, _, h => ⟨h.1, fun i hi => wpOpIn_mono (fun a' w' h' => wpAny_round hd fuel _ a' w' h') (wpOp_round hd (h.2 i hi))⟩
theorem wpIn_region_stage (S0 S1 : World → Prop) (s : Nat) {id : Nat} {a : Act} {w : World} (hm : P.follows .mixedOrders = true) (hd : noDefer ops = true) (hS : S0 w.drew)
    (h : S0 w.drew → wpAnyL P .any ops (NoOut Q) S0 S1 s ops.size (Array.replicate ops.size false) a w.drew) : (Code.region id ops true).wpIn (Fence.wide.inRound l) n P Q a w :=
  wpIn_region_any hm (wpAny_round hd _ _ _ _ (wpAny_of_stage _ _ _ _ (h hS)))
theorem wpIn_region_held (S : World → Prop) {id : Nat} {a : Act} {w : World} (hm : P.follows .mixedOrders = true) (hd : noDefer ops = true) (hS : S w.drew)
    (h : S w.drew → wpAnyH P .any ops (NoOut Q) S ops.size (Array.replicate ops.size false) a w.drew) : (Code.region id ops true).wpIn (Fence.wide.inRound l) n P Q a w :=
  wpIn_region_any hm (wpAny_round hd _ _ _ _ (wpAny_of_held _ _ _ _ (h hS)))
end
end Go.Proofs.YtfgacjglfdehbaaDoor
