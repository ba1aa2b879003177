/- Several texts in one. -/
import Derived.Test.YtnjgjhjilolanaaJ16
/- Layer 18: what a search through a graph is, and that it ends. No walk stands here. -/
namespace Go.Proofs.Ytnjgjhjilolanaa
open Go.RowKit
set_option linter.unusedVariables false
theorem nodup_len : ∀ (ps its : List Item), ps.Nodup → (∀ y ∈ ps, y ∈ its) → ps.length ≤ its.length
  | [], _, _, _ => Nat.zero_le _
  | a :: t, its, hn, hs => by
    obtain ⟨l1, l2, rfl⟩ := List.append_of_mem (hs a (by simp))
    have h1 := nodup_len t (l1 ++ l2) (List.nodup_cons.1 hn).2 (fun y hy => by
      have h2 := hs y (by simp [hy])
      have h3 : y ≠ a := fun h => (List.nodup_cons.1 hn).1 (h ▸ hy)
      simp at h2 ⊢
      rcases h2 with h | h | h
      · exact .inl h
      · exact absurd h h3
      · exact .inr h)
    simp at h1 ⊢
    omega
theorem idxN_lt {x : Item} {l : List Item} : idxN x l < l.length ↔ x ∈ l := by
  unfold idxN
  rw [List.findIdx_lt_length]
  constructor
  · rintro ⟨y, hy, h⟩
    rw [IV_eq (eqA_iff.1 h)]; exact hy
  · intro h
    exact ⟨x, h, eqA_refl _⟩
theorem idxN_split {x : Item} {a c : List Item} (h : x ∉ a) : idxN x (a ++ x :: c) = a.length := by
  unfold idxN
  rw [List.findIdx_append]
  have h1 : a.findIdx (fun y => eqA (IV x) (IV y)) = a.length := by
    rw [List.findIdx_eq_length]
    intro y hy
    rw [eqA_no]
    intro e
    exact h (IV_eq e ▸ hy)
  rw [h1]
  simp [List.findIdx_cons, eqA_refl]
theorem putF_isSome {β : Type} (f : Item → Option β) (x : Item) (v : β) (y : Item) : (putF f x v y).isSome = true ↔ y = x ∨ (f y).isSome = true := by
  by_cases h : y = x
  · subst h; rw [putF_same]; simp
  · rw [putF_other f v h]; simp [h]
/-- From a search on the way to where it ends. -/
def EndsK (m : RowsMK) (q : RowsML) : Nat → WS → WS → Prop
  | 0, S, Z => S.fr = [] ∧ S = Z
  | k + 1, S, Z => (∃ frs x, S.fr = frs ++ [(x, [])] ∧ EndsK m q k (popM m S frs x) Z) ∨ (∃ frs x y l, S.fr = frs ++ [(x, y :: l)] ∧ EndsK m q k (nextM m q S frs x y l) Z)
def Ends (m : RowsMK) (q : RowsML) (S Z : WS) : Prop := ∃ k, EndsK m q k S Z
theorem Ends.done (m : RowsMK) (q : RowsML) {S : WS} (h : S.fr = []) : Ends m q S S := ⟨0, h, rfl⟩
theorem Ends.pop {m : RowsMK} {q : RowsML} {S Z : WS} {frs : List (Item × List Item)} {x : Item} (h : S.fr = frs ++ [(x, [])]) (e : Ends m q (popM m S frs x) Z) : Ends m q S Z := by
  obtain ⟨k, hk⟩ := e
  exact ⟨k + 1, .inl ⟨frs, x, h, hk⟩⟩
theorem Ends.next {m : RowsMK} {q : RowsML} {S Z : WS} {frs : List (Item × List Item)} {x y : Item} {l : List Item} (h : S.fr = frs ++ [(x, y :: l)]) (e : Ends m q (nextM m q S frs x y l) Z) : Ends m q S Z := by
  obtain ⟨k, hk⟩ := e
  exact ⟨k + 1, .inr ⟨frs, x, y, l, h, hk⟩⟩
/-- What is left to do. -/
def muF (fr : List (Item × List Item)) : Nat := (fr.map fun f => f.2.length + 1).sum
def muS (K : Nat) (S : WS) : Nat := (K - S.ci) * 450 + muF S.fr
theorem muF_snoc (frs : List (Item × List Item)) (f : Item × List Item) : muF (frs ++ [f]) = muF frs + (f.2.length + 1) := by simp [muF]
/-- What is known of the calls: which there are, that they fit. -/
structure GInv (m : RowsMK) (its : List Item) : Prop where
  mem : ∀ y, (getMK m y).isSome = true → y ∈ its
  fits : ∀ y ∈ its, InI y
  deps : ∀ y i, i < 7 → ((getMK m y).getD noCall).deps i ≤ 64
structure WInv (m : RowsMK) (q : RowsML) (its : List Item) (S : WS) (ps : List Item) : Prop where
  nodup : ps.Nodup
  is : ∀ y ∈ ps, (getMK m y).isSome = true
  ix : ∀ y, (S.ix y).isSome = true ↔ y ∈ ps
  ci : S.ci = ps.length
  st : ∀ y ∈ S.st, y ∈ ps
  stn : S.st.Nodup
  fr : (S.fr.map (·.1)).Sublist S.st
  nx : ∀ f ∈ S.fr, ∀ y ∈ f.2, InI y
  pa : S.pa.length + S.st.length ≤ S.ci
theorem itemsL_fit {d : Nat → Int} (hd : ∀ i, i < 7 → d i ≤ 64) : ∀ y ∈ itemsL d, InI y := by
  have h : ∀ r, r ≤ 7 → ∀ y ∈ itemsTo d r, InI y := by
    intro r
    induction r with
    | zero => intro _ y hy; simp [itemsTo] at hy
    | succ r ih =>
      intro hr y hy
      rw [itemsTo, List.mem_append] at hy
      rcases hy with hy | hy
      · exact ih (by omega) y hy
      · unfold repL at hy
        rw [List.mem_map] at hy
        obtain ⟨k, hk, rfl⟩ := hy
        rw [List.mem_range] at hk
        have := hd r (by omega)
        unfold InI
        dsimp only
        omega
  exact h 7 (Nat.le_refl _)
theorem waits_fit {m : RowsMK} {its : List Item} (G : GInv m its) (q : RowsML) (x : Item) : (∀ y ∈ waitsM m q x, InI y) ∧ (waitsM m q x).length ≤ 448 := by
  unfold waitsM
  constructor
  · intro y hy
    exact itemsL_fit (fun i hi => G.deps x i hi) y (List.mem_filter.1 hy).1
  · refine Nat.le_trans (List.length_filter_le _ _) ?_
    have := itemsTo_len (fun i hi => G.deps x i hi) 7 (Nat.le_refl _)
    unfold itemsL
    omega
section
variable {m : RowsMK} {q : RowsML} {its : List Item} {S : WS} {ps : List Item}
theorem WInv.le (h : WInv m q its S ps) (G : GInv m its) : S.ci ≤ its.length := by
  rw [h.ci]
  exact nodup_len ps its h.nodup fun y hy => G.mem y (h.is y hy)
theorem WInv.fit (h : WInv m q its S ps) (G : GInv m its) : ∀ y ∈ S.st, InI y := fun y hy => G.fits y (G.mem y (h.is y (h.st y hy)))
theorem WInv.top (h : WInv m q its S ps) {frs : List (Item × List Item)} {x : Item} {l : List Item} (hf : S.fr = frs ++ [(x, l)]) : x ∈ S.st :=
  h.fr.subset (by rw [hf]; simp)
theorem WInv.push (h : WInv m q its S ps) (G : GInv m its) {x : Item} (hx : (getMK m x).isSome = true) (hn : x ∉ ps) : WInv m q its (pushM m q x S) (ps ++ [x]) where
  nodup := by
    rw [List.nodup_append]
    exact ⟨h.nodup, by simp, fun a ha b hb => by simp at hb; subst hb; exact fun e => hn (e ▸ ha)⟩
  is y hy := by
    rcases List.mem_append.1 hy with hy | hy
    · exact h.is y hy
    · simp at hy; subst hy; exact hx
  ix y := by
    show (putF S.ix x S.ci y).isSome = true ↔ _
    rw [putF_isSome, h.ix]
    simp [or_comm]
  ci := by
    show (if (S.ix x).isSome then S.ci else S.ci + 1) = _
    rw [if_neg (by rw [h.ix]; exact hn), h.ci]
    simp
  st y hy := by
    rcases List.mem_append.1 hy with hy | hy
    · exact List.mem_append.2 (.inl (h.st y hy))
    · exact List.mem_append.2 (.inr hy)
  stn := by
    show (S.st ++ [x]).Nodup
    rw [List.nodup_append]
    exact ⟨h.stn, by simp, fun a ha b hb => by simp at hb; subst hb; exact fun e => hn (e ▸ h.st a ha)⟩
  fr := by
    show ((S.fr ++ [(x, waitsM m q x)]).map (·.1)).Sublist (S.st ++ [x])
    rw [List.map_append]
    exact h.fr.append (List.Sublist.refl _)
  nx f hf := by
    rcases List.mem_append.1 hf with hf | hf
    · exact h.nx f hf
    · simp at hf; subst hf; exact (waits_fit G q x).1
  pa := by
    show S.pa.length + (S.st ++ [x]).length ≤ (if (S.ix x).isSome then S.ci else S.ci + 1)
    rw [if_neg (by rw [h.ix]; exact hn)]
    have := h.pa
    simp
    omega
theorem push_mu {K : Nat} {x : Item} (G : GInv m its) (hx : (S.ix x).isSome = false) (hc : S.ci + 1 ≤ K) : muS K (pushM m q x S) + 1 ≤ muS K S := by
  have h1 : (pushM m q x S).ci = S.ci + 1 := by show (if (S.ix x).isSome then S.ci else S.ci + 1) = _; rw [hx]; simp
  have h2 : (pushM m q x S).fr = S.fr ++ [(x, waitsM m q x)] := rfl
  have h3 := (waits_fit G q x).2
  unfold muS
  rw [h1, h2, muF_snoc]
  have : K - S.ci = (K - (S.ci + 1)) + 1 := by omega
  have h4 : (x, waitsM m q x).2.length = (waitsM m q x).length := rfl
  rw [this, Nat.add_mul, h4]
  omega
theorem WInv.pop (h : WInv m q its S ps) {frs : List (Item × List Item)} {x : Item} (hf : S.fr = frs ++ [(x, [])]) : WInv m q its (popM m S frs x) ps := by
  have hfr : (frs.map (·.1) ++ [x]).Sublist S.st := by have := h.fr; rw [hf, List.map_append] at this; exact this
  have hfr2 : (frs.map (·.1)).Sublist S.st := (List.sublist_append_left _ _).trans hfr
  have hnx : ∀ f ∈ frs, ∀ y ∈ f.2, InI y := fun f hm => h.nx f (by rw [hf]; simp [hm])
  unfold popM
  split
  · obtain ⟨r1, r2, hst, hs1, hs2⟩ := List.append_sublist_iff.1 hfr
    have hx2 : x ∈ r2 := List.singleton_sublist.1 hs2
    obtain ⟨a, c, rfl⟩ := List.append_of_mem hx2
    have hn := h.stn
    rw [hst, ← List.append_assoc] at hn
    have hxa : x ∉ r1 ++ a := by
      intro hc
      rw [List.nodup_append] at hn
      exact hn.2.2 x hc x (by simp) rfl
    have hid : idxN x S.st = (r1 ++ a).length := by rw [hst, ← List.append_assoc]; exact idxN_split hxa
    have htk : S.st.take (idxN x S.st) = r1 ++ a := by
      rw [hid, hst, ← List.append_assoc, List.take_left]
    exact {
      nodup := h.nodup
      is := h.is
      ix := h.ix
      ci := h.ci
      st := fun y hy => h.st y (List.mem_of_mem_take hy)
      stn := h.stn.sublist (List.take_sublist _ _)
      fr := by
        show (frs.map (·.1)).Sublist (S.st.take (idxN x S.st))
        rw [htk]
        exact hs1.trans (List.sublist_append_left _ _)
      nx := hnx
      pa := by
        show (S.pa ++ [sortM m (S.st.drop (idxN x S.st))]).length + (S.st.take (idxN x S.st)).length ≤ S.ci
        have h1 := h.pa
        have h2 : idxN x S.st < S.st.length := idxN_lt.2 (h.top hf)
        simp
        omega }
  · exact { nodup := h.nodup, is := h.is, ix := h.ix, ci := h.ci, st := h.st, stn := h.stn, fr := hfr2, nx := hnx, pa := h.pa }
theorem pop_mu {K : Nat} {frs : List (Item × List Item)} {x : Item} (hf : S.fr = frs ++ [(x, [])]) : muS K (popM m S frs x) + 1 = muS K S := by
  have h1 : (popM m S frs x).ci = S.ci := by unfold popM; split <;> rfl
  have h2 : (popM m S frs x).fr = frs := by unfold popM; split <;> rfl
  unfold muS
  rw [h1, h2, hf, muF_snoc]
  simp
  omega
theorem pop_mi {frs : List (Item × List Item)} {x : Item} : (popM m S frs x).mi = S.mi := by unfold popM; split <;> rfl
theorem WInv.next (h : WInv m q its S ps) (G : GInv m its) {frs : List (Item × List Item)} {x y : Item} {l : List Item} (hf : S.fr = frs ++ [(x, y :: l)]) : ∃ ps', WInv m q its (nextM m q S frs x y l) ps' ∧ muS its.length (nextM m q S frs x y l) + 1 ≤ muS its.length S ∧ (nextM m q S frs x y l).mi.length ≤ S.mi.length + 1 := by
  have hW : WInv m q its { S with fr := frs ++ [(x, l)] } ps := {
    nodup := h.nodup
    is := h.is
    ix := h.ix
    ci := h.ci
    st := h.st
    stn := h.stn
    fr := by have := h.fr; rw [hf, List.map_append] at this; rw [List.map_append]; exact this
    nx := fun f hm z hz => by
      rcases List.mem_append.1 hm with hm | hm
      · exact h.nx f (by rw [hf]; simp [hm]) z hz
      · simp at hm; subst hm; exact h.nx (x, y :: l) (by rw [hf]; simp) z (by simp [hz])
    pa := h.pa }
  have hmu : muS its.length { S with fr := frs ++ [(x, l)] } + 1 = muS its.length S := by
    unfold muS
    rw [hf, muF_snoc, muF_snoc]
    simp
    omega
  unfold nextM
  dsimp only
  split
  · rename_i hy
    cases hix : S.ix y with
    | none =>
      have hn : y ∉ ps := fun hc => by rw [← h.ix, hix] at hc; simp at hc
      have hP := hW.push G hy hn
      have hc := hP.le G
      have hc2 : (pushM m q y { S with fr := frs ++ [(x, l)] }).ci = S.ci + 1 := by show (if (S.ix y).isSome then S.ci else S.ci + 1) = _; rw [hix]; simp
      rw [hc2] at hc
      have h8 := push_mu (S := { S with fr := frs ++ [(x, l)] }) (q := q) (x := y) G (by show (S.ix y).isSome = false; rw [hix]; rfl) hc
      have h9 : muS its.length (pushM m q y { S with fr := frs ++ [(x, l)] }) + 1 ≤ muS its.length S := Nat.le_trans h8 (Nat.le_of_lt (Nat.lt_of_succ_le (Nat.le_of_eq hmu)))
      exact ⟨_, hP, h9, Nat.le_succ _⟩
    | some at_ =>
      dsimp only
      split
      · exact ⟨ps, { nodup := hW.nodup, is := hW.is, ix := hW.ix, ci := hW.ci, st := hW.st, stn := hW.stn, fr := hW.fr, nx := hW.nx, pa := hW.pa }, Nat.le_of_eq hmu, Nat.le_succ _⟩
      · exact ⟨ps, hW, Nat.le_of_eq hmu, Nat.le_succ _⟩
  · split
    · exact ⟨ps, hW, Nat.le_of_eq hmu, Nat.le_succ _⟩
    · exact ⟨ps, { nodup := hW.nodup, is := hW.is, ix := hW.ix, ci := hW.ci, st := hW.st, stn := hW.stn, fr := hW.fr, nx := hW.nx, pa := hW.pa }, Nat.le_of_eq hmu, by simp⟩
end
end Go.Proofs.Ytnjgjhjilolanaa
