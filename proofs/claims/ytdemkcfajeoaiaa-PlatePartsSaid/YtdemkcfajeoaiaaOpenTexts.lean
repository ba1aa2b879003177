/- What comes in as a row of texts. -/
import Derived.Test.YtdemkcfajeoaiaaOpenBase
import Derived.Test.YtdemkcfajeoaiaaTexts
import Derived.SliceStrings
namespace Go.Proofs.Ytdemkcfajeoaiaa
open Go.ChangeShapes Go.WideShapes Go.ChangeAt Go.RowKit Go.WideMaps Go.WideElems Go.Joins
open Go.ChangeMaps (open_string)
theorem weigh_texts {H : Type} {P : Program} {e : TypeId} : ∀ (l : List ByteArray) (s : ByteArray), s ∈ l → s.data.toList.length ∈ DataW.weightsAll P e (strs (H := H) l)
  | x :: l, s, h => by
    rcases List.mem_cons.1 h with rfl | h
    · simp [strs, DataW.weightsAll, DataW.weights]
    · have := weigh_texts (H := H) (P := P) (e := e) l s h
      simp only [strs] at this
      simp only [strs, List.map_cons, DataW.weightsAll, List.mem_append]
      exact .inr this
theorem open_texts {H : Type} {enc : TypeId × Value → H} {P : Program} {w : World} {base : Nat} {sp : Nat → Bool} {held : Bool} {r : Reach} {b0 : Nat} {v : Value} {d : DataW H} {p : List MemPlace} {t e : TypeId}
    (ht : P.underlying t = some (.slice e)) (he : P.underlying e = some .string) (hc : P.cellsOf e = 1)
    (hv : Value.okWide P w r b0 t v) (h : DataW.Trod enc P w base sp held t v d p) (hw : ∀ n ∈ d.weights P t, n ≤ reachBytes) :
    ∃ A l c, v = .slice A (List.length l) c ∧ TextsIn w A l := by
  obtain ⟨fuel, hf⟩ := h
  rcases open_strings ht he hc hf with ⟨hcs, hx⟩ | ⟨a, len, cap, ss, hcs, _, hlc, hcm, hss, hx, hcell, hm⟩
  · have hv1 : v = .slice none 0 0 := by
      cases v <;> simp [Value.okWide, Cell.okWide, Cell.ok, ht] at hv <;> simp_all [Value.cells]
    exact ⟨none, [], 0, hv1, fun _ => rfl, fun a ha => (by cases ha), by simp, fun s hs => (by cases hs)⟩
  · have hv1 : v = .slice (some a) len cap := by
      cases v <;> simp [Value.okWide, Cell.okWide, Cell.ok, ht] at hv <;> simp_all [Value.cells]
    have hle : len ≤ ss.length := by rw [hss]; split <;> omega
    have hlen : (ss.take len).length = len := by rw [List.length_take]; omega
    refine ⟨some a, ss.take len, cap, by rw [hlen]; exact hv1, fun ha => (by cases ha), fun a' ha j hj => ?_, ?_, fun s hs => ?_⟩
    · injection ha with ha; subst ha
      have hj2 : j < len := by omega
      rw [hcell j (by omega), List.getElem_take, List.getD, List.getElem?_eq_getElem (by omega)]
      rfl
    · have hm : maxLen = 9223372036854775807 := rfl
      omega
    · injection hx with hx1 hx2
      subst hx1
      have h1 := hw s.data.toList.length (by
        simp only [DataW.weights, ht]
        exact List.mem_cons_of_mem _ (List.mem_append_left _ (weigh_texts _ _ hs)))
      have hr : reachBytes = 140737488351232 := rfl
      rw [hr, Array.length_toList] at h1
      exact h1
end Go.Proofs.Ytdemkcfajeoaiaa
