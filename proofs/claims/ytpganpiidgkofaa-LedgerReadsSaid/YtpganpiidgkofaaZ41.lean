/- Several texts in one. -/
import Derived.Test.YtpganpiidgkofaaZ14
import Derived.Test.YtpganpiidgkofaaZ11
import Derived.ArgAppend
/- Slices of one-cell things that need not begin where their block begins: cut from behind, append. Nothing of the program stands here. -/
namespace Go.Proofs.Ytpganpiidgkofaa
open Go.RowKit
set_option linter.unusedVariables false
/-- A slice of the call's own, wherever it begins in its block. -/
def cutR (v : Value) (bs : List Value) : Res := exR fun q : Nat × Nat × Nat × Array Value => andR (v = .slice (some ⟨q.1, q.2.1, none⟩) bs.length q.2.2.1 ∧ bs.length ≤ q.2.2.1 ∧ q.2.1 + q.2.2.1 ≤ q.2.2.2.size ∧ ∀ j u, bs[j]? = some u → q.2.2.2[q.2.1 + j]? = some u) (rowR q.1 q.2.2.2)
section
variable {P : Program} {w W : World} {F : Nat → Prop} {R : List Res} {v : Value} {bs : List Value}
theorem Sts.cut (T : Sts w F W (cutR v bs :: R)) : ∃ g o c cur, v = .slice (some ⟨g, o, none⟩) bs.length c ∧ bs.length ≤ c ∧ o + c ≤ cur.size ∧ (∀ j u, bs[j]? = some u → cur[o + j]? = some u) ∧ Sts w F W (rowR g cur :: R) := by
  obtain ⟨⟨g, o, c, cur⟩, T⟩ := T.open
  obtain ⟨⟨h1, h2, h3, h4⟩, T⟩ := T.and
  exact ⟨g, o, c, cur, h1, h2, h3, h4, T⟩
theorem Sts.cutShut {g o c : Nat} {cur : Array Value} (T : Sts w F W (rowR g cur :: R)) (hv : v = .slice (some ⟨g, o, none⟩) bs.length c) (h2 : bs.length ≤ c) (h3 : o + c ≤ cur.size) (h4 : ∀ j u, bs[j]? = some u → cur[o + j]? = some u) : Sts w F W (cutR v bs :: R) :=
  Sts.close (f := fun q : Nat × Nat × Nat × Array Value => andR (v = .slice (some ⟨q.1, q.2.1, none⟩) bs.length q.2.2.1 ∧ bs.length ≤ q.2.2.1 ∧ q.2.1 + q.2.2.1 ≤ q.2.2.2.size ∧ ∀ j u, bs[j]? = some u → q.2.2.2[q.2.1 + j]? = some u) (rowR q.1 q.2.2.2)) (g, o, c, cur) (Sts.with ⟨hv, h2, h3, h4⟩ T)
theorem Sts.cut1 {g : Nat} {u : Value} (T : Sts w F W (rowR g #[u] :: R)) : Sts w F W (cutR (.slice (some ⟨g, 0, none⟩) 1 1) [u] :: R) :=
  T.cutShut rfl (Nat.le_refl _) (by simp) (fun j x h => by
    match j, h with
    | 0, h => simpa using h)
/-- What stands there. -/
theorem Sts.cutCell (T : Sts w F W (cutR v bs :: R)) : ∃ g o c, v = .slice (some ⟨g, o, none⟩) bs.length c ∧ bs.length ≤ c ∧ ∀ j u, bs[j]? = some u → W.cell? ⟨g, o + j, none⟩ = some u := by
  obtain ⟨g, o, c, cur, hv, h2, h3, h4, T⟩ := T.cut
  exact ⟨g, o, c, hv, h2, fun j u h => by rw [row_cell T.row]; exact h4 j u h⟩
/-- All but the last are cut off. -/
theorem Sts.cutLast {g o n c : Nat} {u : Value} (T : Sts w F W (cutR (.slice (some ⟨g, o, none⟩) n c) (bs ++ [u]) :: R)) : n = bs.length + 1 ∧ Sts w F W (cutR (.slice (some ⟨g, o + bs.length, none⟩) 1 (c - bs.length)) [u] :: R) := by
  obtain ⟨g', o', c', cur, hv, h2, h3, h4, T⟩ := T.cut
  injection hv with hv hn hc
  injection hv with hv
  injection hv with hg ho _
  subst hg ho hc
  rw [List.length_append] at h2 hn
  simp only [List.length_cons, List.length_nil] at h2 hn
  refine ⟨by omega, T.cutShut (o := o + bs.length) (c := c - bs.length) rfl (by simp; omega) (by omega) fun j x h => ?_⟩
  match j, h with
  | 0, h =>
    have := h4 bs.length x (by rw [List.getElem?_append_right (Nat.le_refl _), Nat.sub_self]; exact h)
    exact this
theorem Sts.vecCut {e : TypeId} {n : Nat} {xs : List Value} (T : Sts w F W (vecR e 1 v n xs :: R)) (hn : 0 < n) (hx : xs.length = n) : Sts w F W (cutR v xs :: R) := by
  obtain ⟨⟨G, ⟨A, B, ha, hb, hd, hf⟩, hg⟩, m⟩ := T
  refine ⟨⟨G, ⟨A, B, ?_, hb, hd, hf⟩, hg⟩, m⟩
  obtain ⟨⟨hl, ho⟩, hF⟩ := ha
  rcases ho with ⟨_, h⟩ | ⟨g, cap, cur, rfl, _, hgr, hnc, hm, hc, ht⟩
  · omega
  · refine ⟨(g, 0, cap, cur), ⟨⟨by rw [hx], by show xs.length ≤ cap; omega, by show 0 + cap ≤ cur.size; omega, fun j u h => ?_⟩, ⟨fun k => ?_, by show row? W g = some cur; unfold row?; rw [hgr]; rfl⟩⟩⟩
    · rw [← ht, List.getElem?_take] at h
      split at h
      · simpa using h
      · cases h
    · rw [hF k]; simp [Value.ownBlock]; exact eq_comm
/-- append to such a slice. -/
theorem wpList_append_cut {ops : Array Oper} {rest : List Oper} {o : Oper} {a : Act} {Q : Exit → Act → World → Prop} (hgd : o.guard = none) (s x : Operand) (t : TypeId)
    (ho : o.op = .call { callee := .builtin .append, args := #[s, x], argTypes := #[t, t] })
    (e : TypeId) (i : TypeInfo) (z : Value) (bytes : Nat) (ht : P.underlying t = some (.slice e)) (hi : P.info? e = some i) (hz : i.zero = some z)
    (hsize : i.size = 1) (hby : i.bytes = bytes) (hzs : z.cells.size = 1)
    (v : Value) (xs : List Value) (hs : a.eval s = v) (T : Sts w F W (cutR v xs :: R))
    (ad : Addr) (c : Nat) (u : Value) (hx : a.eval x = .slice (some ad) 1 c) (hnews : W.cell? (ad.add 0) = some u) (h1 : u.oneCell' = true)
    (h63 : xs.length + 1 ≤ maxLen) (hbytes : (xs.length + 1) * bytes ≤ 140737488355328)
    (h : ∀ v' w', Sts w F w' (cutR v' (xs ++ [u]) :: R) → wpList P ops Q rest (a.put o.dst v') w') :
    wpList P ops Q (o :: rest) a W := by
  obtain ⟨g, of, cp, cur, rfl, h2, h3, h4, T⟩ := T.cut
  have hr := T.row
  refine wpList_append_arg (P := P) W hgd s x t ho e i z 1 bytes ht hi hz hsize hby hzs (by omega) g of xs.length cp xs hs (by omega) (fun j u hj => by rw [row_cell hr]; exact h4 j u hj)
    ad 1 c [u] hx rfl (fun j y hj => ?_) (by simpa using h1) (fun hroom j hj => ?_) h63 hbytes ?_ ?_
  · match j, hj with
    | 0, hj => simp at hj; subst hj; exact hnews
  · have hj0 : j = 0 := by simp at hj; exact hj
    subst hj0
    refine ⟨?_, row_frozen hr _⟩
    rw [row_cell hr, Array.getElem?_eq_getElem (by omega)]; rfl
  · intro hroom
    refine h _ _ ?_
    have T2 := T.setCell (of + xs.length * 1) u
    have e1 : W.setCells g (of + xs.length * 1) [u] = W.setCell ⟨g, of + xs.length * 1, none⟩ u := rfl
    rw [e1]
    refine T2.cutShut (o := of) (c := cp) (by rw [List.length_append]; rfl) (by rw [List.length_append]; exact hroom) (by rw [Array.size_setIfInBounds]; exact h3) fun j y hj => ?_
    rw [Array.getElem?_setIfInBounds]
    by_cases hjl : j < xs.length
    · rw [if_neg (by omega)]
      rw [List.getElem?_append_left hjl] at hj
      exact h4 j y hj
    · have hj1 : j < (xs ++ [u]).length := (List.getElem?_eq_some_iff.1 hj).1
      rw [List.length_append] at hj1
      simp only [List.length_cons, List.length_nil] at hj1
      have hjx : j = xs.length := by omega
      subst hjx
      rw [List.getElem?_append_right (Nat.le_refl _), Nat.sub_self] at hj
      rw [if_pos (by omega), if_pos (by omega)]
      exact hj
  · intro hroom v' w' how hgw
    refine h _ _ ?_
    have T2 := T.drop.vecNil e 1
    refine Sts.vecCut (e := e) (n := xs.length + 1) (T2.turn fun A ha => ⟨fun k => v'.ownBlock = some k, ⟨⟨how.1, ?_⟩, fun _ => Iff.rfl⟩, fun k hk => ?_, hgw.os, hgw.tape, hgw.output, hgw.size, fun k hk hn => hgw.block k hk (by simp)⟩) (by omega) (by simp)
    · rcases how.2 with h | ⟨g2, c2, cu2, q1, q2, q3⟩
      · exact .inl h
      · exact .inr ⟨g2, c2, cu2, q1, Nat.zero_le _, q3⟩
    · right
      rcases how.2 with ⟨hq, _⟩ | ⟨g2, c2, cu2, q1, q2, q3⟩
      · rw [hq] at hk; simp [Value.ownBlock] at hk
      · rw [q1] at hk; simp [Value.ownBlock] at hk; omega
end
end Go.Proofs.Ytpganpiidgkofaa
