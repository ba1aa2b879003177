/- Several texts in one. -/
import Derived.Test.YtnjgjhjilolanaaV34
/- Layer 18, plain: what the document's search leaves. No walk stands here. -/
namespace Go.Proofs.Ytnjgjhjilolanaa
open Go.RowKit
set_option linter.unusedVariables false
structure OvOk (its : List Item) (s : OvS) : Prop where
  nd : s.1.Nodup
  mem : ∀ y ∈ s.1, y ∈ its
/-- What is seen grows, what is told no faster. -/
def OvG (s t : OvS) : Prop := s.1 <+: t.1 ∧ t.2.length + s.1.length ≤ s.2.length + t.1.length
theorem OvG.refl (s : OvS) : OvG s s := ⟨List.prefix_refl _, Nat.le_refl _⟩
theorem OvG.trans {s t u : OvS} (h : OvG s t) (k : OvG t u) : OvG s u := ⟨h.1.trans k.1, by have := h.2; have := k.2; omega⟩
section
variable {m : RowsMK} {q : RowsML} {its : List Item} {x0 : Item} {pt : Item → List Item}
theorem OvOk.len {s : OvS} (h : OvOk its s) : s.1.length ≤ its.length := nodup_len _ _ h.nd h.mem
theorem OvOk.add {s : OvS} (h : OvOk its s) {x : Item} (hn : x ∉ s.1) (hm : x ∈ its) : OvOk its (s.1 ++ [x], s.2) where
  nd := by
    rw [List.nodup_append]
    exact ⟨h.nd, by simp, fun a ha b hb => by simp at hb; subst hb; exact fun e => hn (e ▸ ha)⟩
  mem y hy := by
    rcases List.mem_append.1 hy with hy | hy
    · exact h.mem y hy
    · simp at hy; subst hy; exact hm
theorem ovL_ok {f : Item → OvS → OvS} (hf : ∀ (x : Item) (s : OvS), OvOk its s → x ∉ s.1 → Rch m q x0 x → OvOk its (f x s) ∧ OvG s (f x s)) : ∀ (l : List Item) (s : OvS), OvOk its s → (∀ y ∈ l, Rch m q x0 y) → OvOk its (ovL f l s) ∧ OvG s (ovL f l s)
  | [], s, h, _ => ⟨h, .refl _⟩
  | y :: l, s, h, hl => by
    show OvOk its (ovL f l (if inB y s.1 = true then s else f y s)) ∧ OvG s (ovL f l (if inB y s.1 = true then s else f y s))
    by_cases hb : inB y s.1 = true
    · rw [if_pos hb]
      exact ovL_ok hf l s h (fun z hz => hl z (by simp [hz]))
    · rw [if_neg hb]
      obtain ⟨g1, g2⟩ := hf y s h (fun hc => hb (inB_iff.2 hc)) (hl y (by simp))
      obtain ⟨k1, k2⟩ := ovL_ok hf l (f y s) g1 (fun z hz => hl z (by simp [hz]))
      exact ⟨k1, g2.trans k2⟩
theorem ovF_ok (G : GInv m its) (HC : ∀ z, Rch m q x0 z → (getMK m z).isSome = true) : ∀ (n : Nat) (x : Item) (s : OvS), OvOk its s → x ∉ s.1 → Rch m q x0 x → OvOk its (ovF m q pt n x s) ∧ OvG s (ovF m q pt n x s)
  | 0, x, s, h, _, _ => ⟨h, .refl _⟩
  | n + 1, x, s, h, hx, hr => by
    have hA := h.add hx (G.mem x (HC x hr))
    obtain ⟨g1, g2⟩ := ovL_ok (fun x s h1 h2 h3 => ovF_ok G HC n x s h1 h2 h3) (waitsM m q x) (s.1 ++ [x], s.2) hA (fun y hy => .step hr hy)
    show OvOk its (ovE pt x s.1 _) ∧ OvG s (ovE pt x s.1 _)
    generalize ovL (ovF m q pt n) (waitsM m q x) (s.1 ++ [x], s.2) = t at *
    unfold ovE
    refine ⟨⟨g1.nd, g1.mem⟩, (List.prefix_append _ _).trans g2.1, ?_⟩
    have := g2.2
    simp only [List.length_append, List.length_singleton] at this
    dsimp only
    split
    · omega
    · simp; omega
theorem ovL_snoc (f : Item → OvS → OvS) (l : List Item) (y : Item) (s : OvS) : ovL f (l ++ [y]) s = if inB y (ovL f l s).1 = true then ovL f l s else f y (ovL f l s) := by
  unfold ovL
  rw [List.foldl_append]
  rfl
end
end Go.Proofs.Ytnjgjhjilolanaa
