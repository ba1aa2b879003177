/- Several texts in one. -/
import Derived.Test.YtnjgjhjilolanaaH18
import Derived.Test.YtnjgjhjilolanaaH14
import Derived.Test.YtnjgjhjilolanaaH13
import Derived.Test.YtnjgjhjilolanaaH10
/- Layer 18, plain: what is told at a search's end: each once, nothing that is over; the item itself, if nothing is missing. -/
namespace Go.Proofs.Ytnjgjhjilolanaa
open Go.RowKit
set_option linter.unusedVariables false
structure DInv (m : RowsMK) (q : RowsML) (x : Item) (S : WS) (ps : List Item) : Prop where
  perm : (S.pa.flatten ++ S.st).Perm ps
  nov : ∀ y ∈ ps, (getML q y).isSome = false
  nxv : ∀ f ∈ S.fr, ∀ y ∈ f.2, (getML q y).isSome = false
  xin : x ∈ ps
  lo0 : ∀ y, 0 ≤ valN S.lo y
  ix0 : ∀ y, 0 ≤ valN S.ix y
  lox : valN S.lo x = 0
  ixx : valN S.ix x = 0
  last : S.fr = [] → x ∈ S.pa.flatten
  head : ∀ f fs, S.fr = f :: fs → f.1 = x
theorem valN_put (f : Item → Option Int) (x : Item) (v : Int) (y : Item) : valN (putF f x v) y = v ∧ y = x ∨ valN (putF f x v) y = valN f y ∧ y ≠ x := by
  by_cases h : y = x
  · subst h; left; exact ⟨by unfold valN; rw [putF_same]; rfl, rfl⟩
  · right; exact ⟨by unfold valN; rw [putF_other f v h], h⟩
theorem waits_nov (m : RowsMK) (q : RowsML) (x : Item) : ∀ y ∈ waitsM m q x, (getML q y).isSome = false := by
  intro y hy
  unfold waitsM at hy
  have h := (List.mem_filter.1 hy).2
  unfold waitB at h
  simp at h
  simp [h.2]
section
variable {m : RowsMK} {q : RowsML} {its : List Item} {S : WS} {ps : List Item} {x : Item}
theorem DInv.push (h : DInv m q x S ps) (hf : S.fr ≠ []) {y : Item} (hn : y ∉ ps) (hv : (getML q y).isSome = false) : DInv m q x (pushM m q y S) (ps ++ [y]) where
  perm := by
    show (S.pa.flatten ++ (S.st ++ [y])).Perm (ps ++ [y])
    rw [← List.append_assoc]
    exact h.perm.append_right [y]
  nov z hz := by
    rcases List.mem_append.1 hz with hz | hz
    · exact h.nov z hz
    · simp at hz; subst hz; exact hv
  nxv f hf z hz := by
    rcases List.mem_append.1 (show f ∈ S.fr ++ [(y, waitsM m q y)] from hf) with hf | hf
    · exact h.nxv f hf z hz
    · simp at hf; subst hf; exact waits_nov m q y z hz
  xin := by simp [h.xin]
  lo0 z := by
    show 0 ≤ valN (putF S.lo y S.ci) z
    rcases valN_put S.lo y S.ci z with ⟨e, _⟩ | ⟨e, _⟩
    · rw [e]; omega
    · rw [e]; exact h.lo0 z
  ix0 z := by
    show 0 ≤ valN (putF S.ix y S.ci) z
    rcases valN_put S.ix y S.ci z with ⟨e, _⟩ | ⟨e, _⟩
    · rw [e]; omega
    · rw [e]; exact h.ix0 z
  lox := by
    show valN (putF S.lo y S.ci) x = 0
    rcases valN_put S.lo y S.ci x with ⟨_, e⟩ | ⟨e, _⟩
    · exact absurd (e ▸ h.xin) hn
    · rw [e]; exact h.lox
  ixx := by
    show valN (putF S.ix y S.ci) x = 0
    rcases valN_put S.ix y S.ci x with ⟨_, e⟩ | ⟨e, _⟩
    · exact absurd (e ▸ h.xin) hn
    · rw [e]; exact h.ixx
  last hc := by
    have : S.fr ++ [(y, waitsM m q y)] = [] := hc
    simp at this
  head f fs hc := by
    have hc : S.fr ++ [(y, waitsM m q y)] = f :: fs := hc
    cases hS : S.fr with
    | nil => exact absurd hS hf
    | cons a b =>
      rw [hS] at hc
      simp at hc
      rw [← hc.1]
      exact h.head a b hS
theorem DInv.setLo (h : DInv m q x S ps) {u : Item} {v : Int} (hv : 0 ≤ v) (hx : u = x → v = 0) : DInv m q x { S with lo := putF S.lo u v } ps where
  perm := h.perm
  nov := h.nov
  nxv := h.nxv
  xin := h.xin
  lo0 z := by
    show 0 ≤ valN (putF S.lo u v) z
    rcases valN_put S.lo u v z with ⟨e, _⟩ | ⟨e, _⟩
    · rw [e]; exact hv
    · rw [e]; exact h.lo0 z
  ix0 := h.ix0
  lox := by
    show valN (putF S.lo u v) x = 0
    rcases valN_put S.lo u v x with ⟨e, e2⟩ | ⟨e, _⟩
    · rw [e]; exact hx e2.symm
    · rw [e]; exact h.lox
  ixx := h.ixx
  last := h.last
  head := h.head
theorem part_perm (m : RowsMK) (pa : List (List Item)) (st : List Item) (k : Nat) : ((pa ++ [sortM m (st.drop k)]).flatten ++ st.take k).Perm (pa.flatten ++ st) := by
  rw [List.flatten_append, List.flatten_singleton, List.append_assoc]
  refine List.Perm.append_left _ ?_
  have h1 : (sortM m (st.drop k) ++ st.take k).Perm (st.drop k ++ st.take k) := (sortM_perm m _).append_right _
  refine h1.trans ?_
  have h2 : (st.drop k ++ st.take k).Perm (st.take k ++ st.drop k) := List.perm_append_comm
  rw [List.take_append_drop] at h2
  exact h2
theorem DInv.pop (h : DInv m q x S ps) (hW : WInv m q its S ps) {frs : List (Item × List Item)} {y : Item} (hf : S.fr = frs ++ [(y, [])]) : DInv m q x (popM m S frs y) ps := by
  have hlo : (∀ z, 0 ≤ valN (upM S.lo frs y) z) ∧ valN (upM S.lo frs y) x = 0 := by
    rcases List.eq_nil_or_concat frs with rfl | ⟨fs, u, rfl⟩
    · rw [upM_nil]; exact ⟨h.lo0, h.lox⟩
    · rw [List.concat_eq_append, upM_snoc]
      have hmin : 0 ≤ min (valN S.lo u.1) (valN S.lo y) := by
        have := h.lo0 u.1; have := h.lo0 y; omega
      have := (h.setLo (u := u.1) (v := min (valN S.lo u.1) (valN S.lo y)) hmin (fun e => by rw [e, h.lox]; have := h.lo0 y; omega))
      exact ⟨this.lo0, this.lox⟩
  have hnx : ∀ f ∈ frs, ∀ z ∈ f.2, (getML q z).isSome = false := fun f hm => h.nxv f (by rw [hf]; simp [hm])
  have hhead : ∀ f fs, frs = f :: fs → f.1 = x := fun f fs he => h.head f (fs ++ [(y, [])]) (by rw [hf, he]; rfl)
  unfold popM
  split
  · rename_i hc
    exact {
      perm := by
        show ((S.pa ++ [sortM m (S.st.drop (idxN y S.st))]).flatten ++ S.st.take (idxN y S.st)).Perm ps
        exact (part_perm m _ _ _).trans h.perm
      nov := h.nov
      nxv := hnx
      xin := h.xin
      lo0 := hlo.1
      ix0 := h.ix0
      lox := hlo.2
      ixx := h.ixx
      last := fun he => by
        have he : frs = [] := he
        subst he
        have hy : y = x := h.head (y, []) [] (by rw [hf]; rfl)
        subst hy
        show y ∈ (S.pa ++ [sortM m (S.st.drop (idxN y S.st))]).flatten
        rw [List.flatten_append, List.flatten_singleton]
        refine List.mem_append.2 (.inr ((sortM_perm m _).mem_iff.2 ?_))
        have hlt : idxN y S.st < S.st.length := idxN_lt.2 (hW.top hf)
        have h1 : S.st[idxN y S.st]'hlt = y := by
          have := List.findIdx_getElem (xs := S.st) (p := fun z => eqA (IV y) (IV z)) (w := hlt)
          exact (IV_eq (eqA_iff.1 this)).symm
        rw [List.drop_eq_getElem_cons hlt, h1]
        simp
      head := hhead }
  · rename_i hc
    exact {
      perm := h.perm
      nov := h.nov
      nxv := hnx
      xin := h.xin
      lo0 := hlo.1
      ix0 := h.ix0
      lox := hlo.2
      ixx := h.ixx
      last := fun he => by
        have he : frs = [] := he
        subst he
        have hy : y = x := h.head (y, []) [] (by rw [hf]; rfl)
        subst hy
        exact absurd (by rw [hlo.2, h.ixx]) hc
      head := hhead }
theorem DInv.next (h : DInv m q x S ps) (hW : WInv m q its S ps) (G : GInv m its) {frs : List (Item × List Item)} {z y : Item} {l : List Item} (hf : S.fr = frs ++ [(z, y :: l)]) : ∃ ps', WInv m q its (nextM m q S frs z y l) ps' ∧ DInv m q x (nextM m q S frs z y l) ps' := by
  have hD : DInv m q x { S with fr := frs ++ [(z, l)] } ps := {
    perm := h.perm
    nov := h.nov
    nxv := fun f hm w hw => by
      rcases List.mem_append.1 hm with hm | hm
      · exact h.nxv f (by rw [hf]; simp [hm]) w hw
      · simp at hm; subst hm; exact h.nxv (z, y :: l) (by rw [hf]; simp) w (by simp [hw])
    xin := h.xin
    lo0 := h.lo0
    ix0 := h.ix0
    lox := h.lox
    ixx := h.ixx
    last := fun he => by
      have he : frs ++ [(z, l)] = [] := he
      simp at he
    head := fun f fs he => by
      have he : frs ++ [(z, l)] = f :: fs := he
      cases frs with
      | nil =>
        simp at he
        rw [← he.1]
        exact h.head (z, y :: l) [] (by rw [hf]; rfl)
      | cons a b =>
        simp at he
        rw [← he.1]
        exact h.head a (b ++ [(z, y :: l)]) (by rw [hf]; rfl) }
  have hW2 : WInv m q its { S with fr := frs ++ [(z, l)] } ps := {
    nodup := hW.nodup
    is := hW.is
    ix := hW.ix
    ci := hW.ci
    st := hW.st
    stn := hW.stn
    fr := by have := hW.fr; rw [hf, List.map_append] at this; rw [List.map_append]; exact this
    nx := fun f hm w hw => by
      rcases List.mem_append.1 hm with hm | hm
      · exact hW.nx f (by rw [hf]; simp [hm]) w hw
      · simp at hm; subst hm; exact hW.nx (z, y :: l) (by rw [hf]; simp) w (by simp [hw])
    pa := hW.pa }
  have hyv : (getML q y).isSome = false := h.nxv (z, y :: l) (by rw [hf]; simp) y (by simp)
  unfold nextM
  dsimp only
  split
  · rename_i hy
    cases hix : S.ix y with
    | none =>
      have hn : y ∉ ps := fun hc => by rw [← hW.ix, hix] at hc; simp at hc
      dsimp only
      exact ⟨_, hW2.push G hy hn, hD.push (by simp) hn hyv⟩
    | some at_ =>
      dsimp only
      split
      · have hat : 0 ≤ at_ := by have := h.ix0 y; unfold valN at this; rw [hix] at this; exact this
        have hmin : 0 ≤ min (valN S.lo z) at_ := by have := h.lo0 z; omega
        exact ⟨ps, { nodup := hW2.nodup, is := hW2.is, ix := hW2.ix, ci := hW2.ci, st := hW2.st, stn := hW2.stn, fr := hW2.fr, nx := hW2.nx, pa := hW2.pa }, hD.setLo hmin (fun e => by rw [e, h.lox]; omega)⟩
      · exact ⟨ps, hW2, hD⟩
  · split
    · exact ⟨ps, hW2, hD⟩
    · exact ⟨ps, { nodup := hW2.nodup, is := hW2.is, ix := hW2.ix, ci := hW2.ci, st := hW2.st, stn := hW2.stn, fr := hW2.fr, nx := hW2.nx, pa := hW2.pa }, { perm := hD.perm, nov := hD.nov, nxv := hD.nxv, xin := hD.xin, lo0 := hD.lo0, ix0 := hD.ix0, lox := hD.lox, ixx := hD.ixx, last := hD.last, head := hD.head }⟩
theorem ends_unique : ∀ (k : Nat) (S Z Z' : WS), EndsK m q k S Z → Ends m q S Z' → Z = Z'
  | 0, S, Z, Z', h, e => by
    obtain ⟨h1, rfl⟩ := h
    exact (e.done_inv h1).symm
  | k + 1, S, Z, Z', h, e => by
    rcases h with ⟨frs, y, hf, h1⟩ | ⟨frs, z, y, l, hf, h1⟩
    · exact ends_unique k _ Z Z' h1 (e.pop_inv hf)
    · exact ends_unique k _ Z Z' h1 (e.next_inv hf)
theorem ord_unique {P P' : List (List Item)} {M M' : List Item} (h : OrdM m q its x P M) (h' : OrdM m q its x P' M') : P = P' ∧ M = M' := by
  rcases h with ⟨a, rfl, rfl⟩ | ⟨⟨a1, a2⟩, Z, ps, hE, hf, hW, b1, b2⟩
  · rcases h' with ⟨_, rfl, rfl⟩ | ⟨⟨c1, c2⟩, _⟩
    · exact ⟨rfl, rfl⟩
    · rw [c1, c2] at a; simp at a
  · rcases h' with ⟨a, _⟩ | ⟨_, Z', ps', hE', hf', hW', b1', b2'⟩
    · rw [a1, a2] at a; simp at a
    · obtain ⟨k, hk⟩ := hE
      have := ends_unique k _ Z Z' hk hE'
      subst this
      by_cases hm : Z.mi = []
      · rw [(b2 hm).1, (b2 hm).2, (b2' hm).1, (b2' hm).2]; exact ⟨rfl, rfl⟩
      · rw [(b1 hm).1, (b1 hm).2, (b1' hm).1, (b1' hm).2]; exact ⟨rfl, rfl⟩
end
end Go.Proofs.Ytnjgjhjilolanaa
/- Layer 18, plain: what a search tells: all that its items wait for is told, too, or something is missing. No walk stands here. -/
namespace Go.Proofs.Ytnjgjhjilolanaa
open Go.RowKit
set_option linter.unusedVariables false
/-- An item that reaches one that isn't committed, over such as are committed, and not over. -/
inductive Bad (m : RowsMK) (q : RowsML) : Item → Prop
  | here {y z : Item} : (getMK m y).isSome = true → (getML q y).isSome = false → z ∈ waitsM m q y → (getMK m z).isSome = false → Bad m q y
  | up {y z : Item} : (getMK m y).isSome = true → (getML q y).isSome = false → z ∈ waitsM m q y → Bad m q z → Bad m q y
structure EInv (m : RowsMK) (q : RowsML) (x : Item) (S : WS) (ps : List Item) : Prop where
  ne : ∀ p ∈ S.pa, p ≠ []
  bb : ∀ y ∈ ps, Bad m q y → Bad m q x
  nxr : ∀ f ∈ S.fr, ∀ z ∈ f.2, z ∈ waitsM m q f.1
  clo : ∀ y ∈ ps, ∀ z ∈ waitsM m q y, z ∈ ps ∨ z ∈ S.mi ∨ ∃ f ∈ S.fr, f.1 = y ∧ z ∈ f.2
  mis : ∀ z ∈ S.mi, (getMK m z).isSome = false ∧ ∃ y ∈ ps, z ∈ waitsM m q y
  min : S.mi.Nodup
  sth : S.fr ≠ [] → ∃ t, S.st = x :: t
  stn : S.fr = [] → S.st = []
theorem idxN_nn {x : Item} {l : List Item} (h : ¬ idxN x l < l.length) : x ∉ l := fun hc => h (idxN_lt.2 hc)
section
variable {m : RowsMK} {q : RowsML} {its : List Item} {S : WS} {ps : List Item} {x : Item}
theorem EInv.push (h : EInv m q x S ps) {y : Item} (hf : S.fr ≠ []) (hb : Bad m q y → Bad m q x) : EInv m q x (pushM m q y S) (ps ++ [y]) where
  ne := h.ne
  bb z hz := by
    rcases List.mem_append.1 hz with hz | hz
    · exact h.bb z hz
    · simp at hz; subst hz; exact hb
  nxr f hf z hz := by
    rcases List.mem_append.1 (show f ∈ S.fr ++ [(y, waitsM m q y)] from hf) with hf | hf
    · exact h.nxr f hf z hz
    · simp at hf; subst hf; exact hz
  clo z hz u hu := by
    show u ∈ ps ++ [y] ∨ u ∈ S.mi ∨ ∃ f ∈ S.fr ++ [(y, waitsM m q y)], f.1 = z ∧ u ∈ f.2
    rcases List.mem_append.1 hz with hz | hz
    · rcases h.clo z hz u hu with h1 | h1 | ⟨f, hf, h1, h2⟩
      · exact .inl (by simp [h1])
      · exact .inr (.inl h1)
      · exact .inr (.inr ⟨f, by simp [hf], h1, h2⟩)
    · simp at hz
      subst hz
      exact .inr (.inr ⟨(z, waitsM m q z), by simp, rfl, hu⟩)
  mis z hz := by
    obtain ⟨h1, y', h2, h3⟩ := h.mis z hz
    exact ⟨h1, y', by simp [h2], h3⟩
  min := h.min
  sth _ := by
    obtain ⟨t, ht⟩ := h.sth hf
    exact ⟨t ++ [y], by show S.st ++ [y] = _; rw [ht]; rfl⟩
  stn hc := by
    have : S.fr ++ [(y, waitsM m q y)] = [] := hc
    simp at this
theorem EInv.lo (h : EInv m q x S ps) (f : Item → Option Int) : EInv m q x { S with lo := f } ps := ⟨h.ne, h.bb, h.nxr, h.clo, h.mis, h.min, h.sth, h.stn⟩
theorem EInv.pop (h : EInv m q x S ps) (hD : DInv m q x S ps) (hW : WInv m q its S ps) {frs : List (Item × List Item)} {y : Item} (hf : S.fr = frs ++ [(y, [])]) : EInv m q x (popM m S frs y) ps := by
  have hnx : ∀ f ∈ frs, ∀ z ∈ f.2, z ∈ waitsM m q f.1 := fun f hm => h.nxr f (by rw [hf]; simp [hm])
  have hclo : ∀ y ∈ ps, ∀ z ∈ waitsM m q y, z ∈ ps ∨ z ∈ S.mi ∨ ∃ f ∈ frs, f.1 = y ∧ z ∈ f.2 := fun u hu z hz => by
    rcases h.clo u hu z hz with h1 | h1 | ⟨f, hf2, h1, h2⟩
    · exact .inl h1
    · exact .inr (.inl h1)
    · rw [hf] at hf2
      rcases List.mem_append.1 hf2 with h3 | h3
      · exact .inr (.inr ⟨f, h3, h1, h2⟩)
      · simp at h3; subst h3; simp at h2
  obtain ⟨t, ht⟩ := h.sth (by rw [hf]; simp)
  have hyx : frs ≠ [] → y ≠ x := fun hne => by
    have hn : (frs.map (·.1) ++ [y]).Nodup := by
      have := hW.fr
      rw [hf, List.map_append] at this
      exact this.nodup hW.stn
    rw [List.nodup_append] at hn
    cases hfr : frs with
    | nil => exact absurd hfr hne
    | cons a b =>
      have ha : a.1 = x := hD.head a (b ++ [(y, [])]) (by rw [hf, hfr]; rfl)
      have := hn.2.2 a.1 (by rw [hfr]; simp) y (by simp)
      rw [ha] at this
      exact fun e => this e.symm
  have hxy : frs = [] → y = x := fun he => by
    subst he
    exact hD.head (y, []) [] (by rw [hf]; rfl)
  have hD' := hD.pop hW hf
  have hW' := hW.pop (its := its) hf
  unfold popM at hD' hW' ⊢
  split
  · rename_i hc
    rw [if_pos hc] at hD' hW'
    exact {
      ne := fun p hp => by
        rcases List.mem_append.1 (show p ∈ S.pa ++ [sortM m (S.st.drop (idxN y S.st))] from hp) with hp | hp
        · exact h.ne p hp
        · simp at hp
          intro he
          rw [he] at hp
          have h1 := congrArg List.length hp
          rw [sortM_length, List.length_drop] at h1
          have h2 : idxN y S.st < S.st.length := idxN_lt.2 (hW.top hf)
          simp at h1
          omega
      bb := h.bb
      nxr := hnx
      clo := hclo
      mis := h.mis
      min := h.min
      sth := fun hne => by
        have hne : frs ≠ [] := hne
        show ∃ t, S.st.take (idxN y S.st) = x :: t
        rw [ht]
        have hid : idxN y (x :: t) = idxN y t + 1 := by
          unfold idxN
          rw [List.findIdx_cons]
          have : eqA (IV y) (IV x) = false := eqA_no.2 fun e => hyx hne (IV_eq e)
          rw [this]
          rfl
        rw [hid]
        exact ⟨_, rfl⟩
      stn := fun he => by
        have hy := hxy he
        subst hy
        show S.st.take (idxN y S.st) = []
        rw [ht]
        have hid : idxN y (y :: t) = 0 := by
          unfold idxN
          rw [List.findIdx_cons, eqA_refl]
          rfl
        rw [hid]
        rfl }
  · rename_i hc
    rw [if_neg hc] at hD' hW'
    exact {
      ne := h.ne
      bb := h.bb
      nxr := hnx
      clo := hclo
      mis := h.mis
      min := h.min
      sth := fun _ => ⟨t, ht⟩
      stn := fun he => by
        exfalso
        have h1 : x ∈ S.pa.flatten := hD'.last he
        have hn : (S.pa.flatten ++ S.st).Nodup := hD.perm.nodup_iff.2 hW.nodup
        rw [List.nodup_append] at hn
        exact hn.2.2 x h1 x (by rw [ht]; simp) rfl }
theorem EInv.next (h : EInv m q x S ps) (hD : DInv m q x S ps) (hW : WInv m q its S ps) {frs : List (Item × List Item)} {z y : Item} {l : List Item} (hf : S.fr = frs ++ [(z, y :: l)]) :
    ∃ ps', EInv m q x (nextM m q S frs z y l) ps' ∧ ((ps' = ps ∧ ((getMK m y).isSome = true → (S.ix y).isSome = true)) ∨ ((getMK m y).isSome = true ∧ S.ix y = none ∧ ps' = ps ++ [y])) := by
  have hzy : y ∈ waitsM m q z := h.nxr (z, y :: l) (by rw [hf]; simp) y (by simp)
  have hzp : z ∈ ps := hW.st z (hW.top hf)
  have hbz : Bad m q y → Bad m q x := fun hb => h.bb z hzp (.up (hW.is z hzp) (hD.nov z hzp) hzy hb)
  have key : ∀ (mi : List Item), (∀ u ∈ mi, (getMK m u).isSome = false ∧ ∃ y ∈ ps, u ∈ waitsM m q y) → mi.Nodup → (∀ u ∈ S.mi, u ∈ mi) → (y ∈ ps ∨ y ∈ mi) → EInv m q x { S with fr := frs ++ [(z, l)], mi := mi } ps := fun mi hmi hnd hsub hy => {
    ne := h.ne
    bb := h.bb
    nxr := fun f hm u hu => by
      rcases List.mem_append.1 hm with hm | hm
      · exact h.nxr f (by rw [hf]; simp [hm]) u hu
      · simp at hm; subst hm; exact h.nxr (z, y :: l) (by rw [hf]; simp) u (by simp [show u ∈ l from hu])
    clo := fun v hv u hu => by
      show u ∈ ps ∨ u ∈ mi ∨ ∃ f ∈ frs ++ [(z, l)], f.1 = v ∧ u ∈ f.2
      rcases h.clo v hv u hu with h1 | h1 | ⟨f, hf2, h1, h2⟩
      · exact .inl h1
      · exact .inr (.inl (hsub u h1))
      · rw [hf] at hf2
        rcases List.mem_append.1 hf2 with h3 | h3
        · exact .inr (.inr ⟨f, by simp [h3], h1, h2⟩)
        · simp at h3
          subst h3
          dsimp only at h1 h2
          rcases List.mem_cons.1 h2 with rfl | h2
          · rcases hy with hy | hy
            · exact .inl hy
            · exact .inr (.inl hy)
          · exact .inr (.inr ⟨(z, l), by simp, h1, h2⟩)
    mis := hmi
    min := hnd
    sth := fun _ => h.sth (by rw [hf]; simp)
    stn := fun hc => by
      have : frs ++ [(z, l)] = [] := hc
      simp at this }
  unfold nextM
  dsimp only
  split
  · rename_i hyc
    cases hix : S.ix y with
    | none =>
      dsimp only
      refine ⟨ps ++ [y], ?_, .inr ⟨hyc, rfl, rfl⟩⟩
      have hS : EInv m q x (pushM m q y S) (ps ++ [y]) := h.push (by rw [hf]; simp) hbz
      exact {
        ne := h.ne
        bb := hS.bb
        nxr := fun f hm u hu => by
          rcases List.mem_append.1 (show f ∈ (frs ++ [(z, l)]) ++ [(y, waitsM m q y)] from hm) with hm | hm
          · rcases List.mem_append.1 hm with hm | hm
            · exact h.nxr f (by rw [hf]; simp [hm]) u hu
            · simp at hm; subst hm; exact h.nxr (z, y :: l) (by rw [hf]; simp) u (by simp [show u ∈ l from hu])
          · simp at hm; subst hm; exact hu
        clo := fun v hv u hu => by
          show u ∈ ps ++ [y] ∨ u ∈ S.mi ∨ ∃ f ∈ (frs ++ [(z, l)]) ++ [(y, waitsM m q y)], f.1 = v ∧ u ∈ f.2
          rcases List.mem_append.1 hv with hv | hv
          · rcases h.clo v hv u hu with h1 | h1 | ⟨f, hf2, h1, h2⟩
            · exact .inl (by simp [h1])
            · exact .inr (.inl h1)
            · rw [hf] at hf2
              rcases List.mem_append.1 hf2 with h3 | h3
              · exact .inr (.inr ⟨f, by simp [h3], h1, h2⟩)
              · simp at h3
                subst h3
                dsimp only at h1 h2
                rcases List.mem_cons.1 h2 with rfl | h2
                · exact .inl (by simp)
                · exact .inr (.inr ⟨(z, l), by simp, h1, h2⟩)
          · simp at hv
            subst hv
            exact .inr (.inr ⟨(v, waitsM m q v), by simp, rfl, hu⟩)
        mis := hS.mis
        min := h.min
        sth := fun _ => hS.sth (by show S.fr ++ [(y, waitsM m q y)] ≠ []; simp)
        stn := fun hc => by
          have : (frs ++ [(z, l)]) ++ [(y, waitsM m q y)] = [] := hc
          simp at this }
    | some at_ =>
      have hyp : y ∈ ps := by rw [← hW.ix, hix]; rfl
      dsimp only
      split
      · exact ⟨ps, (key S.mi h.mis h.min (fun _ h => h) (.inl hyp)).lo _, .inl ⟨rfl, fun _ => rfl⟩⟩
      · exact ⟨ps, key S.mi h.mis h.min (fun _ h => h) (.inl hyp), .inl ⟨rfl, fun _ => rfl⟩⟩
  · rename_i hyc
    have hyc : (getMK m y).isSome = false := by simpa using hyc
    split
    · rename_i hi
      exact ⟨ps, key S.mi h.mis h.min (fun _ h => h) (.inr (idxN_lt.1 hi)), .inl ⟨rfl, fun h => by rw [hyc] at h; cases h⟩⟩
    · rename_i hi
      refine ⟨ps, key (S.mi ++ [y]) (fun u hu => ?_) ?_ (fun u hu => by simp [hu]) (.inr (by simp)), .inl ⟨rfl, fun h => by rw [hyc] at h; cases h⟩⟩
      · rcases List.mem_append.1 hu with hu | hu
        · exact h.mis u hu
        · simp at hu; subst hu; exact ⟨hyc, z, hzp, hzy⟩
      · rw [List.nodup_append]
        exact ⟨h.min, by simp, fun a ha b hb => by simp at hb; subst hb; exact fun e => idxN_nn hi (e ▸ ha)⟩
theorem EInv.same (h : EInv m q x S ps) {ps' : List Item} (hs : ∀ y, y ∈ ps ↔ y ∈ ps') : EInv m q x S ps' where
  ne := h.ne
  bb y hy := h.bb y ((hs y).2 hy)
  nxr := h.nxr
  clo y hy z hz := by
    rcases h.clo y ((hs y).2 hy) z hz with h1 | h1
    · exact .inl ((hs z).1 h1)
    · exact .inr h1
  mis z hz := by
    obtain ⟨h1, y, h2, h3⟩ := h.mis z hz
    exact ⟨h1, y, (hs y).1 h2, h3⟩
  min := h.min
  sth := h.sth
  stn := h.stn
theorem next_ps (G : GInv m its) (hW : WInv m q its S ps) {frs : List (Item × List Item)} {z y : Item} {l : List Item} {ps' ps2 : List Item} (hf : S.fr = frs ++ [(z, y :: l)]) (hW' : WInv m q its (nextM m q S frs z y l) ps') (h2 : (ps2 = ps ∧ ((getMK m y).isSome = true → (S.ix y).isSome = true)) ∨ ((getMK m y).isSome = true ∧ S.ix y = none ∧ ps2 = ps ++ [y])) (hE : EInv m q x (nextM m q S frs z y l) ps2) : EInv m q x (nextM m q S frs z y l) ps' := by
  refine hE.same fun u => ?_
  rw [← hW'.ix]
  unfold nextM
  dsimp only
  rcases h2 with ⟨rfl, hno⟩ | ⟨hyc, hix, rfl⟩
  · split
    · rename_i hyc
      cases hix : S.ix y with
      | none => have := hno hyc; rw [hix] at this; cases this
      | some at_ =>
        dsimp only
        split <;> exact (hW.ix u).symm
    · split <;> exact (hW.ix u).symm
  · rw [if_pos hyc, hix]
    dsimp only
    show _ ↔ (putF S.ix y S.ci u).isSome = true
    rw [putF_isSome, hW.ix]
    simp [or_comm]
theorem ends_all (G : GInv m its) : ∀ (k : Nat) (S Z : WS) (ps : List Item), EndsK m q k S Z → WInv m q its S ps → DInv m q x S ps → EInv m q x S ps → ∃ ps', WInv m q its Z ps' ∧ DInv m q x Z ps' ∧ EInv m q x Z ps'
  | 0, S, Z, ps, h, hW, hD, hE => by
    obtain ⟨_, rfl⟩ := h
    exact ⟨ps, hW, hD, hE⟩
  | k + 1, S, Z, ps, h, hW, hD, hE => by
    rcases h with ⟨frs, y, hf, h1⟩ | ⟨frs, z, y, l, hf, h1⟩
    · exact ends_all G k _ Z ps h1 (hW.pop hf) (hD.pop hW hf) (hE.pop hD hW hf)
    · obtain ⟨ps', hW', hD'⟩ := hD.next hW G hf
      obtain ⟨ps2, hE2, h2⟩ := hE.next hD hW hf
      exact ends_all G k _ Z ps' h1 hW' hD' (next_ps G hW hf hW' h2 hE2)
theorem start_all (G : GInv m its) (a1 : (getMK m x).isSome = true) (a2 : (getML q x).isSome = false) : WInv m q its (startM m q x) ([] ++ [x]) ∧ DInv m q x (startM m q x) ([] ++ [x]) ∧ EInv m q x (startM m q x) ([] ++ [x]) := by
  have hW0 : WInv m q its noWS [] := { nodup := List.nodup_nil, is := by simp, ix := by simp [noWS], ci := rfl, st := by simp [noWS], stn := List.nodup_nil, fr := List.Sublist.refl _, nx := by simp [noWS], pa := Nat.le_refl _ }
  refine ⟨hW0.push G a1 (by simp), ?_, ?_⟩
  · exact {
      perm := List.Perm.refl _
      nov := fun y hy => by simp at hy; subst hy; exact a2
      nxv := fun f hf y hy => by
        have hf : f ∈ [] ++ [(x, waitsM m q x)] := hf
        simp at hf
        subst hf
        exact waits_nov m q x y hy
      xin := by simp
      lo0 := fun y => by
        show 0 ≤ valN (putF (fun _ => none) x ((0 : Nat) : Int)) y
        rcases valN_put (fun _ => none) x ((0 : Nat) : Int) y with ⟨e, _⟩ | ⟨e, _⟩
        · rw [e]; omega
        · rw [e]; simp [valN]
      ix0 := fun y => by
        show 0 ≤ valN (putF (fun _ => none) x ((0 : Nat) : Int)) y
        rcases valN_put (fun _ => none) x ((0 : Nat) : Int) y with ⟨e, _⟩ | ⟨e, _⟩
        · rw [e]; omega
        · rw [e]; simp [valN]
      lox := by show valN (putF (fun _ => none) x ((0 : Nat) : Int)) x = 0; unfold valN; rw [putF_same]; rfl
      ixx := by show valN (putF (fun _ => none) x ((0 : Nat) : Int)) x = 0; unfold valN; rw [putF_same]; rfl
      last := fun he => by
        have he : ([] : List (Item × List Item)) ++ [(x, waitsM m q x)] = [] := he
        simp at he
      head := fun f fs he => by
        have he : ([] : List (Item × List Item)) ++ [(x, waitsM m q x)] = f :: fs := he
        simp at he
        rw [← he.1] }
  · exact {
      ne := fun p hp => by
        have hp : p ∈ ([] : List (List Item)) := hp
        simp at hp
      bb := fun y hy hb => by simp at hy; subst hy; exact hb
      nxr := fun f hf z hz => by
        have hf : f ∈ [] ++ [(x, waitsM m q x)] := hf
        simp at hf
        subst hf
        exact hz
      clo := fun y hy z hz => by
        simp at hy
        subst hy
        exact .inr (.inr ⟨(y, waitsM m q y), by show _ ∈ [] ++ [(y, waitsM m q y)]; simp, rfl, hz⟩)
      mis := fun z hz => by
        have hz : z ∈ ([] : List Item) := hz
        simp at hz
      min := List.nodup_nil
      sth := fun _ => ⟨[], rfl⟩
      stn := fun he => by
        have he : ([] : List (Item × List Item)) ++ [(x, waitsM m q x)] = [] := he
        simp at he }
/-- What an order tells of an item that is to be done. -/
theorem ord_all (G : GInv m its) {P : List (List Item)} {M : List Item} (a1 : (getMK m x).isSome = true) (a2 : (getML q x).isSome = false) (h : OrdM m q its x P M) :
    (∀ p ∈ P, p ≠ []) ∧ P.flatten.Nodup ∧ (∀ y ∈ P.flatten, (getML q y).isSome = false ∧ (getMK m y).isSome = true) ∧ (M ≠ [] → P = [] ∧ Bad m q x) ∧
      (M = [] → x ∈ P.flatten ∧ ∀ y ∈ P.flatten, ∀ z ∈ waitsM m q y, z ∈ P.flatten) ∧ M.Nodup ∧ (∀ z ∈ M, (getMK m z).isSome = false) ∧ P.flatten.length ≤ its.length := by
  rcases h with ⟨a, _⟩ | ⟨_, Z, ps0, ⟨k, hk⟩, hf, hWZ, b1, b2⟩
  · rw [a1, a2] at a; simp at a
  · obtain ⟨s1, s2, s3⟩ := start_all (q := q) G a1 a2
    obtain ⟨ps, hW, hD, hE⟩ := ends_all G k _ Z _ hk s1 s2 s3
    have hst : Z.st = [] := hE.stn hf
    have hperm := hD.perm
    rw [hst, List.append_nil] at hperm
    have hnd : Z.pa.flatten.Nodup := hperm.nodup_iff.2 hW.nodup
    have hmem : ∀ y, y ∈ Z.pa.flatten ↔ y ∈ ps := fun y => hperm.mem_iff
    by_cases hm : Z.mi = []
    · rw [(b2 hm).1, (b2 hm).2]
      refine ⟨hE.ne, hnd, fun y hy => ⟨hD.nov y ((hmem y).1 hy), hW.is y ((hmem y).1 hy)⟩, fun hc => absurd rfl hc, fun _ => ⟨hD.last hf, fun y hy z hz => ?_⟩, List.nodup_nil, by simp, nodup_len _ its hnd fun y hy => G.mem y (hW.is y ((hmem y).1 hy))⟩
      rcases hE.clo y ((hmem y).1 hy) z hz with h1 | h1 | ⟨f, h1, _⟩
      · exact (hmem z).2 h1
      · rw [hm] at h1; simp at h1
      · rw [hf] at h1; simp at h1
    · rw [(b1 hm).1, (b1 hm).2]
      refine ⟨by simp, by simp, by simp, fun _ => ⟨rfl, ?_⟩, fun hc => absurd hc hm, hE.min, fun z hz => (hE.mis z hz).1, by simp⟩
      obtain ⟨z, hz⟩ := List.exists_mem_of_ne_nil _ hm
      obtain ⟨h1, y, h2, h3⟩ := hE.mis z hz
      exact hE.bb y h2 (.here (hW.is y h2) (hD.nov y h2) h3 h1)
/-- What is missing is all that isn't committed among what is reached. -/
theorem ord_missing (G : GInv m its) {P : List (List Item)} {M : List Item} (a1 : (getMK m x).isSome = true) (a2 : (getML q x).isSome = false) (h : OrdM m q its x P M) (hb : Bad m q x) : M ≠ [] := by
  intro hM
  obtain ⟨-, -, h3, -, h5, -⟩ := ord_all G a1 a2 h
  obtain ⟨h6, h7⟩ := h5 hM
  have : ∀ y, Bad m q y → y ∈ P.flatten → False := by
    intro y hb
    induction hb with
    | here c1 c2 c3 c4 =>
      intro hy
      have := (h3 _ (h7 _ hy _ c3)).2
      rw [c4] at this; cases this
    | up c1 c2 c3 _ ih =>
      intro hy
      exact ih (h7 _ hy _ c3)
  exact this x hb h6
end
end Go.Proofs.Ytnjgjhjilolanaa
/- Items in a slice of the call's own, sorted in their place by a function that compares them: what is asked of that. -/
namespace Go.Proofs.Ytnjgjhjilolanaa
open Go.RowKit Go.Shelf
open Go.Sort (SWO)
set_option linter.unusedVariables false
/-- A function value that compares items: what it is, what it reads, what it answers. -/
structure CmpK where
  f : Nat
  pre : Array Value
  L : List Res
  cmp : Item → Item → Int
abbrev CmpK.cv (C : CmpK) : Value := .func (.func C.f) C.pre #[]
noncomputable def CmpK.lt (C : CmpK) : Item → Item → Bool := fun x y => decide (C.cmp x y < 0)
structure CmpK.Ok (C : CmpK) : Prop where
  reads : ∀ x y, Reads Try.prog C.f (C.pre ++ #[.agg (IV x), .agg (IV y)]) C.L (.int .i64 (C.cmp x y))
  swo : SWO C.lt
  enter : ∀ args w, (callFunc C.f args).run Try.prog w = .ok (.enter C.f args) w
theorem Reads.itAtC {f : FuncId} {args : Array Value} {v : Value} {e : Array Item} {LL R : List Res} {w W : World} {F : Nat → Prop} (h : Reads Try.prog f args LL v) {L : List Res} (T : Sts w F W (L ++ (LL ++ R))) : Calls Try.prog f args W fun e W' => e = .returned v ∧ Below W.heap.size W W' := by
  refine h.at (R := L ++ R) (T.perm ?_)
  rw [← List.append_assoc, ← List.append_assoc]
  exact List.Perm.append_right _ List.perm_append_comm
end Go.Proofs.Ytnjgjhjilolanaa
/- Layer 19: in which order what is open stands; a new run; what was done, and is open, told. -/
namespace Go.Proofs.Ytnjgjhjilolanaa
open Go.RowKit Go.Shelf
open Go.Sort (SWO)
set_option linter.unusedVariables false
set_option maxRecDepth 20000
attribute [local go_sem] row_alloc row_drew row_drewN row_ext row_setCell row_setRow size_ext setRow_alloc setRow_drew loadOf storeOf piece_lit loadVal_at storeVal_at allOne_lit buildOf buildRes_some
attribute [local go_sem high] cell_alloc frozen_alloc setCell_alloc cell_ext frozen_ext cell_setRow frozen_setRow
attribute [local go_sem ↓] TDeed_ld0 TDeed_st0 TDeed_fd0 TDeed_bd0
attribute [local go_sem] TDeed_size TDeed_one TDeed_piece TDeed_c0 TDeed_c1 TDeed_c2 TDeed_c3 TDeed_c4 TDeed_c5 TDeed_set_kind TDeed_set_key TDeed_set_val TDeed_set_ver TDeed_set_ses TDeed_set_num TDeed_ld TDeed_st TDeed_f_kind TDeed_f_key TDeed_f_val TDeed_f_ver TDeed_f_ses TDeed_f_num TDeed_bd TDeed_fl TDeed_fl_kind TDeed_fl_key TDeed_fl_val TDeed_fl_ver TDeed_fl_ses TDeed_fl_num
attribute [local go_sem high] TDeed_eql TDeed_neq
attribute [local go_sem ↓] index_deps0 load_deps0 store_deps0
attribute [local go_sem] DV_piece DV_size DV_one index_deps load_deps store_deps
attribute [local go_sem high] TDeps_eql TDeps_neq
attribute [local go_sem ↓] TCall_ld0 TCall_st0 TCall_fd0 TCall_bd0
attribute [local go_sem] TCall_size TCall_one TCall_piece TCall_c0 TCall_c1 TCall_c2 TCall_c3 TCall_c4 TCall_c5 TCall_c6 TCall_c7 TCall_c8 TCall_c9 TCall_c10 TCall_c11 TCall_c12 TCall_c13 TCall_p_deed TCall_put_deed TCall_p_deps TCall_put_deps TCall_set_seq TCall_ld TCall_st TCall_f_deed TCall_f_deps TCall_f_seq TCall_bd TCall_fl TCall_fl_deed TCall_fl_deps TCall_fl_seq
attribute [local go_sem high] TCall_eql TCall_neq
attribute [local go_sem ↓] TItem_ld0 TItem_st0 TItem_fd0 TItem_bd0
attribute [local go_sem] TItem_size TItem_one TItem_piece TItem_c0 TItem_c1 TItem_set_rep TItem_set_num TItem_ld TItem_st TItem_f_rep TItem_f_num TItem_bd TItem_fl TItem_fl_rep TItem_fl_num
attribute [local go_sem high] TItem_eql TItem_neq
noncomputable def cmp1 (x y : Item) : Int := if lessI x y = true then -1 else if eqA (IV x) (IV y) = true then 0 else 1
set_option maxHeartbeats 2000000 in
theorem runCmp_any (x y : Item) : Ans Try.prog 54 #[.agg (IV x), .agg (IV y)] (.int .i64 (cmp1 x y)) := by
  refine Ans.of_sts fun W => ?_
  have T := ((Sts.start0 W).new (IV x) 35).new (IV y) 35
  simp only [World.size_alloc] at T
  have HL := Lib.hid (itemLess_any x y)
  have r2 := T.row; have l2 := row_lt r2; have c2 := row_cell r2
  have r1 := T.row1; have l1 := row_lt r1; have c1 := row_cell r1
  have HT := Lib.hid T; clear T
  obtain ⟨ls, hls⟩ : ∃ v, v = lessI x y := ⟨_, rfl⟩
  obtain ⟨eq, heq⟩ : ∃ v, v = eqA (IV x) (IV y) := ⟨_, rfl⟩
  have HV := Lib.hid (show cmp1 x y = if ls = true then -1 else if eq = true then 0 else 1 by rw [hls, heq]; rfl)
  rw [← hls] at HL
  clear hls
  go_enter Try.func54, Try.ntmps54
  go_wp2_with fail
  refine (Ans.at HL.out HT.out).mono ?_
  clear HL r1 r2 l1 l2 c1 c2
  rintro e w5 ⟨rfl, T⟩
  have r2 := T.row; have l2 := row_lt r2; have c2 := row_cell r2
  have r1 := T.row1; have l1 := row_lt r1; have c1 := row_cell r1
  have HT := Lib.hid T.nil; clear T
  cases ls with
  | true =>
    go_wp2
    go_ret
    exact ⟨by rw [HV.out]; rfl, HT.out⟩
  | false =>
    have heq2 : eqA (IV x) (IV y) = eq := heq.symm
    clear heq
    cases eq with
    | true =>
      go_wp2
      go_ret
      exact ⟨by rw [HV.out]; rfl, HT.out⟩
    | false =>
      go_wp2
      go_ret
      exact ⟨by rw [HV.out]; rfl, HT.out⟩
theorem cmp1_lt (x y : Item) : cmp1 x y < 0 ↔ x.num < y.num ∨ x.num = y.num ∧ x.rep < y.rep := by
  unfold cmp1
  by_cases h : lessI x y = true
  · rw [if_pos h]
    have h := of_decide_eq_true h
    exact ⟨fun _ => h, fun _ => by decide⟩
  · rw [if_neg h]
    have h : ¬ (x.num < y.num ∨ x.num = y.num ∧ x.rep < y.rep) := fun h2 => h (decide_eq_true h2)
    split
    · exact ⟨fun h2 => absurd h2 (by decide), fun h2 => absurd h2 h⟩
    · exact ⟨fun h2 => absurd h2 (by decide), fun h2 => absurd h2 h⟩
noncomputable abbrev cmpC : CmpK := ⟨54, #[], [], cmp1⟩
theorem cmpC_lt (x y : Item) : cmpC.lt x y = true ↔ x.num < y.num ∨ x.num = y.num ∧ x.rep < y.rep := by
  unfold CmpK.lt
  rw [decide_eq_true_eq]
  exact cmp1_lt x y
theorem cmpC_ok : cmpC.Ok where
  reads x y := by
    intro W G hS
    exact (runCmp_any x y W).mono fun e W' h => h
  swo := {
    irrefl := fun x => by
      cases h : cmpC.lt x x with
      | false => rfl
      | true => rw [cmpC_lt] at h; omega
    trans := fun x y z h1 h2 => by
      rw [cmpC_lt] at h1 h2 ⊢
      omega
    ntrans := fun x y z h1 h2 => by
      rw [← Bool.not_eq_true, cmpC_lt] at h1 h2 ⊢
      omega }
  enter args w := by rfl
section
variable {w W : World} {F : Nat → Prop} {R : List Res}
theorem cloneV {l : List Item} {g k n c : Nat} (hn : l.length = n) (hl : n ≤ 1000000) (hc : ∀ j y, l[j]? = some y → W.cell? ⟨g, k + j * 2, none⟩ = some (.int .i64 y.rep) ∧ W.cell? ⟨g, k + j * 2 + 1, none⟩ = some (.int .i64 y.num)) (T : Sts w F W R) :
    Calls Try.prog 56 #[.slice (some ⟨g, k, none⟩) n c] W fun e W' => ∃ v1, e = .returned v1 ∧ Sts w F W' (vecR 35 2 v1 n (vl IV l) :: R) := by
  have HC := Lib.hid hc
  have T1 : Sts w F (W.alloc (.cells #[] 35)) (vecR 35 2 (.slice (some ⟨W.heap.size, 0, none⟩) 0 0) 0 [] :: R) := T.vecNew #[] _ _ _ rfl (by omega)
  have HT := Lib.hid T1
  clear hc T T1
  go_enter Try.func56, Try.ntmps56
  have hnil : ∀ w : World, (binOp .eql 30 (.slice (some ⟨g, k, none⟩) n c) (.slice none 0 0)).run Try.prog w = .ok (.bool false) w := fun w => by kernel_rfl
  obtain ⟨i0, hi, hz0, hz1, hz2⟩ := itm_i
  have hnews : ∀ j u, (vl IV l)[j]? = some u → W.cell? ((⟨g, k, none⟩ : Addr).add j) = some u := fun j u hj => by
    have hjl : j < l.length * 2 := by
      have := (List.getElem?_eq_some_iff.1 hj).1
      unfold vl at this
      rw [Array.length_toList, flatV_size TItem_size] at this
      exact this
    have hq : j / 2 < l.length := by omega
    have h2 := flatV_get TItem_size l (j / 2) hq (j % 2) (by omega)
    have hjj : j / 2 * 2 + j % 2 = j := by omega
    rw [hjj] at h2
    unfold vl at hj
    rw [Array.getElem?_toList, h2] at hj
    obtain ⟨c0, c1⟩ := HC.out (j / 2) l[j / 2] (List.getElem?_eq_getElem hq)
    rw [add_none]
    rcases Nat.mod_two_eq_zero_or_one j with h | h
    · rw [h] at hj
      rw [show k + j = k + j / 2 * 2 by omega, c0]
      exact hj
    · rw [h] at hj
      rw [show k + j = k + j / 2 * 2 + 1 by omega, c1]
      exact hj
  have hone : ∀ u ∈ vl IV l, u.oneCell' = true := fun u hu => by
    obtain ⟨j, hj⟩ := List.getElem?_of_mem hu
    have hjl : j < l.length * 2 := by
      have := (List.getElem?_eq_some_iff.1 hj).1
      unfold vl at this
      rw [Array.length_toList, flatV_size TItem_size] at this
      exact this
    have hq : j / 2 < l.length := by omega
    have h2 := flatV_get TItem_size l (j / 2) hq (j % 2) (by omega)
    rw [show j / 2 * 2 + j % 2 = j by omega] at h2
    unfold vl at hj
    rw [Array.getElem?_toList, h2] at hj
    have hm := List.mem_of_getElem? (l := (IV l[j / 2]).toList) (i := j % 2) (by rw [Array.getElem?_toList]; exact hj)
    exact itm_one _ _ hm
  have HNW := Lib.hid hnews; have HONE := Lib.hid hone
  have hlen : (vl IV l).length = n * 2 := by unfold vl; rw [Array.length_toList, flatV_size TItem_size, hn]
  have HLEN := Lib.hid hlen
  have h63 : n ≤ maxLen := by unfold maxLen; omega
  clear hnews hone hlen hn
  go_wp2_with (at_builtin; refine wpList_append_vec rfl _ _ 30 rfl 35 i0 _ 2 16 Try.underlying30 hi hz0 hz1 hz2 rfl (by omega) _ 0 [] rfl HT.out ⟨g, k, none⟩ n c (vl IV l) rfl HLEN.out ?c0 HONE.out ?c3 ?c4 ?_)
  case c0 =>
    intro j u hj
    have h1 := HNW.out j u hj
    exact (((Below.refl W.heap.size W).alloc (Nat.le_refl _) (.cells #[] 35)).cell (World.block_lt_of_cell? W _ h1)).trans h1
  case c3 => omega
  case c4 => omega
  intro v' w' T2
  have HT2 := Lib.hid T2
  clear T2 HT HNW HONE HLEN hi hz0 hz1 hz2
  go_wp2
  go_ret
  exact ⟨v', rfl, HT2.out⟩
theorem cloneAny {l : List Item} {v : Value} (hl : l.length ≤ 1000000) (T : Sts w F W (vecR 35 2 v l.length (vl IV l) :: R)) :
    Calls Try.prog 56 #[v] W fun e W' => ∃ v1, e = .returned v1 ∧ Sts w F W' (vecR 35 2 v1 l.length (vl IV l) :: vecR 35 2 v l.length (vl IV l) :: R) := by
  rcases T.vec.2 with ⟨hv, h0⟩ | ⟨g, c, cur, hv, _⟩
  · subst hv
    have hl0 : l = [] := List.eq_nil_of_length_eq_zero (by simpa using h0)
    subst hl0
    have T2 : Sts w F W (vecR 35 2 (.slice none 0 0) 0 [] :: vecR 35 2 (.slice none 0 0) 0 [] :: R) := T.vecNil 35 2
    have hnil : ∀ w : World, (binOp .eql 30 (.slice none 0 0) (.slice none 0 0)).run Try.prog w = .ok (.bool true) w := fun w => by kernel_rfl
    have HT := Lib.hid T2
    clear T T2
    go_enter Try.func56, Try.ntmps56
    go_wp2
    go_ret
    exact ⟨_, rfl, HT.out⟩
  · subst hv
    have hc : ∀ j y, l[j]? = some y → W.cell? ⟨g, 0 + j * 2, none⟩ = some (.int .i64 y.rep) ∧ W.cell? ⟨g, 0 + j * 2 + 1, none⟩ = some (.int .i64 y.num) := fun j y hj => by
      obtain ⟨hj1, rfl⟩ := List.getElem?_eq_some_iff.1 hj
      obtain ⟨g', c', hv, -, hcell⟩ := vec_cell TItem_size T (by omega) hj1
      injection hv with e1 e2 e3
      injection e1 with e1
      injection e1 with e1
      subst e1
      have h0 := hcell 0 _ rfl
      have h1 := hcell 1 _ rfl
      rw [Nat.zero_add]
      exact ⟨h0, h1⟩
    exact cloneV rfl hl hc T
end
end Go.Proofs.Ytnjgjhjilolanaa
