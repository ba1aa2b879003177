/- Several texts in one. -/
import Derived.Test.YtnjgjhjilolanaaU32
import Derived.Test.YtnjgjhjilolanaaU37
import Derived.Test.YtnjgjhjilolanaaU20
import Derived.Test.YtnjgjhjilolanaaU3
/- Layer 19, plain: what a run has done, and in which order, hangs on what is committed alone. No walk stands here. -/
namespace Go.Proofs.Ytnjgjhjilolanaa
open Go.RowKit Go.Shelf
set_option linter.unusedVariables false
/-- Nothing is over. -/
def Q0 : RowsML := ⟨0, fun _ => []⟩
theorem Q0_no (y : Item) : (getML Q0 y).isSome = false := by unfold Q0; rw [getML_new]; rfl
section
variable {m m' : RowsMK} {q : RowsML} {its : List Item} {D : List Item} {x : Item}
theorem waits_q {v y : Item} : y ∈ waitsM m q v ↔ y ∈ waitsM m Q0 v ∧ (getML q y).isSome = false := by
  unfold waitsM
  rw [List.mem_filter, List.mem_filter]
  unfold waitB
  rw [Q0_no]
  simp only [Bool.and_eq_true, Bool.not_eq_true', Bool.not_false, and_true]
  exact ⟨fun ⟨a, b, c⟩ => ⟨⟨a, b⟩, c⟩, fun ⟨⟨a, b⟩, c⟩ => ⟨a, b, c⟩⟩
theorem Rch.full {a b : Item} (h : Rch m q a b) : Rch m Q0 a b := by
  induction h with
  | refl => exact .refl _
  | step _ h ih => exact .step ih (waits_q.1 h).1
/-- What is done is closed, and stands in its order. -/
structure DOk (m : RowsMK) (D : List Item) : Prop where
  nd : D.Nodup
  com : ∀ y ∈ D, (getMK m y).isSome = true
  clo : ∀ y ∈ D, ∀ z ∈ waitsM m Q0 y, z ∈ D
  ord : ∀ y ∈ D, ∀ z ∈ waitsM m Q0 y, (¬ Rch m Q0 z y → idxN z D < idxN y D) ∧ (Rch m Q0 z y → (idxN z D < idxN y D ↔ ltM m z y = true))
theorem DOk.reach (h : DOk m D) {y z : Item} (hy : y ∈ D) (hr : Rch m Q0 y z) : z ∈ D := by
  induction hr with
  | refl => exact hy
  | step _ hz ih => exact h.clo _ ih _ hz
theorem DOk.new (m : RowsMK) : DOk m [] := ⟨List.nodup_nil, by simp, by simp, by simp⟩
theorem waits_call {y : Item} (h : getMK m' y = getMK m y) (q : RowsML) : waitsM m' q y = waitsM m q y := by unfold waitsM; rw [h]
theorem DOk.commit (h : DOk m D) (hs : ∀ y, (getMK m y).isSome = true → getMK m' y = getMK m y) : DOk m' D := by
  have hw : ∀ y ∈ D, waitsM m' Q0 y = waitsM m Q0 y := fun y hy => waits_call (hs y (h.com y hy)) Q0
  have h1 : ∀ {y z : Item}, y ∈ D → (Rch m Q0 y z ↔ Rch m' Q0 y z) := fun {y z} hy => by
    constructor
    · intro hr
      induction hr with
      | refl => exact .refl _
      | step hr hz ih =>
        have := h.reach hy hr
        exact .step ih (by rw [hw _ this]; exact hz)
    · intro hr
      have key : Rch m Q0 y z ∧ z ∈ D := by
        induction hr with
        | refl => exact ⟨.refl _, hy⟩
        | step hr hz ih =>
          obtain ⟨i1, i2⟩ := ih
          rw [hw _ i2] at hz
          exact ⟨.step i1 hz, h.clo _ i2 _ hz⟩
      exact key.1
  have h2 : ∀ {y z : Item}, y ∈ D → z ∈ D → ltM m' z y = ltM m z y := fun {y z} hy hz => by
    have e1 : seqK m' y = seqK m y := by unfold seqK; rw [hs y (h.com y hy)]
    have e2 : seqK m' z = seqK m z := by unfold seqK; rw [hs z (h.com z hz)]
    rw [Bool.eq_iff_iff, ltM_iff, ltM_iff, e1, e2]
  refine ⟨h.nd, fun y hy => by rw [hs y (h.com y hy)]; exact h.com y hy, fun y hy z hz => ?_, fun y hy z hz => ?_⟩
  · rw [hw y hy] at hz
    exact h.clo y hy z hz
  · rw [hw y hy] at hz
    have hzD := h.clo y hy z hz
    rw [← h1 hzD, h2 hy hzD]
    exact h.ord y hy z hz
theorem idxN_app {z : Item} {a c : List Item} (h : z ∉ a) : idxN z (a ++ c) = a.length + idxN z c := by
  have h5 : ¬ idxN z a < a.length := fun hc => h (idxN_lt.1 hc)
  unfold idxN at h5 ⊢
  rw [List.findIdx_append, if_neg h5, Nat.add_comm]
theorem srt_idx {p : List Item} (h : Srt m p) {z y : Item} (hz : z ∈ p) (hy : y ∈ p) : idxN z p < idxN y p ↔ ltM m z y = true := by
  have h1 : ∀ x ∈ p, ∃ hx : idxN x p < p.length, p[idxN x p] = x := fun x hx => by
    have hlt := idxN_lt.2 hx
    refine ⟨hlt, ?_⟩
    have := List.findIdx_getElem (xs := p) (p := fun z => eqA (IV x) (IV z)) (w := hlt)
    exact (IV_eq (eqA_iff.1 this)).symm
  obtain ⟨a1, a2⟩ := h1 z hz
  obtain ⟨b1, b2⟩ := h1 y hy
  constructor
  · intro hlt
    have := (List.pairwise_iff_getElem.1 h) _ _ a1 b1 hlt
    rw [a2, b2] at this
    exact this
  · intro hlt
    rcases Nat.lt_trichotomy (idxN z p) (idxN y p) with c | c | c
    · exact c
    · exfalso
      have e : z = y := by
        rw [← a2, ← b2]
        congr 1
      exact ltM_ne hlt e
    · exfalso
      have := (List.pairwise_iff_getElem.1 h) _ _ b1 a1 c
      rw [a2, b2] at this
      exact ltM_ne ((ltM_swo m).trans _ _ _ this hlt) rfl
/-- Some parts more are done. -/
theorem DOk.parts (G : GInv m its) (h : DOk m D) (hx : x ∉ D) (hq : ∀ y, (getML q y).isSome = true ↔ y ∈ D) {P : List (List Item)} (hP : PartsOk m q x P) : DOk m (D ++ P.flatten) := by
  have hno : ∀ y ∈ P.flatten, y ∉ D := fun y hy hc => by
    have hr := (hP.mem y).1 hy
    cases hr with
    | refl => exact hx hc
    | step h1 h2 =>
      have := (waits_q.1 h2).2
      rw [(hq y).2 hc] at this; cases this
  have hfull : ∀ {z y : Item}, z ∈ P.flatten → y ∉ D → Rch m Q0 z y → Rch m q z y ∧ y ∈ P.flatten := fun {z y} hz hy hr => by
    have key : y ∉ D → Rch m q z y ∧ y ∈ P.flatten := by
      clear hy
      induction hr with
      | refl => exact fun _ => ⟨.refl _, hz⟩
      | step hr hw ih =>
        intro hy
        rename_i a b
        have ha : a ∉ D := fun hc => hy (h.clo _ hc _ hw)
        obtain ⟨i1, i2⟩ := ih ha
        have hw2 : b ∈ waitsM m q a := waits_q.2 ⟨hw, by
          cases hc : (getML q b).isSome with
          | false => rfl
          | true => exact absurd ((hq b).1 hc) hy⟩
        exact ⟨.step i1 hw2, (hP.mem b).2 (.step ((hP.mem a).1 i2) hw2)⟩
    exact key hy
  refine ⟨?_, fun y hy => ?_, fun y hy z hz => ?_, fun y hy z hz => ?_⟩
  · rw [List.nodup_append]
    exact ⟨h.nd, hP.nd, fun a ha b hb e => hno b hb (e ▸ ha)⟩
  · rcases List.mem_append.1 hy with hy | hy
    · exact h.com y hy
    · exact hP.com y hy
  · rcases List.mem_append.1 hy with hy | hy
    · exact List.mem_append.2 (.inl (h.clo y hy z hz))
    · by_cases hzD : z ∈ D
      · exact List.mem_append.2 (.inl hzD)
      · exact List.mem_append.2 (.inr (hfull hy hzD (.one hz)).2)
  · rcases List.mem_append.1 hy with hy | hy
    · have hzD := h.clo y hy z hz
      rw [idxN_in hy, idxN_in hzD]
      exact h.ord y hy z hz
    · have hyD := hno y hy
      by_cases hzD : z ∈ D
      · have h1 := idxN_lt.2 hzD
        rw [idxN_in hzD, idxN_app hyD]
        exact ⟨fun _ => by omega, fun hr => absurd (h.reach hzD hr) hyD⟩
      · obtain ⟨hzq, hzP⟩ := hfull hy hzD (.one hz)
        rw [idxN_app hyD, idxN_app hzD]
        obtain ⟨p, hp, hyp⟩ := List.mem_flatten.1 hy
        obtain ⟨k, hk, rfl⟩ := List.getElem_of_mem hp
        have hPk : P[k]? = some P[k] := List.getElem?_eq_getElem hk
        have hsame := hP.same hPk hyp hzq
        have hsp := hP.split hPk
        have hynot : y ∉ (P.take k).flatten := fun hc => by
          have := hP.fresh hPk hyp
          rw [inB_iff.2 hc] at this; cases this
        have hyi : idxN y P.flatten = (P.take k).flatten.length + idxN y P[k] := by
          conv => lhs; rw [hsp]
          rw [List.flatten_append, List.flatten_cons, idxN_app hynot, idxN_in hyp]
        constructor
        · intro hnr
          have hz1 := hsame.2 fun hr => hnr hr.full
          have : idxN z P.flatten = idxN z (P.take k).flatten := by
            conv => lhs; rw [hsp]
            rw [List.flatten_append, idxN_in hz1]
          have := idxN_lt.2 hz1
          omega
        · intro hr
          have hzp := hsame.1 (hfull hzP hyD hr).1
          have hznot : z ∉ (P.take k).flatten := fun hc => by
            have := hP.fresh hPk hzp
            rw [inB_iff.2 hc] at this; cases this
          have hzi : idxN z P.flatten = (P.take k).flatten.length + idxN z P[k] := by
            conv => lhs; rw [hsp]
            rw [List.flatten_append, List.flatten_cons, idxN_app hznot, idxN_in hzp]
          rw [← srt_idx (hP.srt _ hp) hzp hyp, hyi, hzi]
          omega
theorem GoR.dok (G : GInv m its) : ∀ {xs : List Item} {q : RowsML} {O : List Item} {q1 : RowsML} {O1 l1 D : List Item}, GoR m its xs q O q1 O1 l1 → DOk m D → (∀ y, (getML q y).isSome = true ↔ y ∈ D) → m.n = q.n → DOk m (D ++ l1) ∧ (∀ y, (getML q1 y).isSome = true ↔ y ∈ D ++ l1) ∧ q1.n = q.n
  | [], q, O, q1, O1, l1, D, h, hd, hq, hn => by
    obtain ⟨rfl, rfl, rfl⟩ := h
    rw [List.append_nil]
    exact ⟨hd, hq, rfl⟩
  | a :: xs, q, O, q1, O1, l1, D, h, hd, hq, hn => by
    obtain ⟨P, M, l2, h1, rfl, h2⟩ := h
    by_cases hP : P = []
    · subst hP
      exact GoR.dok G h2 hd hq hn
    · have key : (getMK m a).isSome = true ∧ (getML q a).isSome = false ∧ M = [] := by
        have h0 := h1
        rcases h1 with ⟨-, e, -⟩ | ⟨⟨a1, a2⟩, -⟩
        · exact absurd e hP
        · refine ⟨a1, a2, ?_⟩
          cases M with
          | nil => rfl
          | cons b t => exact absurd ((ord_all G a1 a2 h0).2.2.2.1 (by simp)).1 hP
      obtain ⟨a1, a2, rfl⟩ := key
      obtain ⟨hOK, -⟩ := parts_ok G a1 a2 h1
      have hgood : ∀ y ∈ P.flatten, goodI y q.n = true := fun y hy => by rw [← hn]; exact getMK_good (hOK.com y hy)
      have haD : a ∉ D := fun hc => by rw [(hq a).2 hc] at a2; cases a2
      have hq2 : ∀ y, (getML (doneM q P.flatten) y).isSome = true ↔ y ∈ D ++ P.flatten := fun y => by
        rw [doneM_is _ _ hgood, hq y, List.mem_append]
      obtain ⟨r1, r2, r3⟩ := GoR.dok G h2 (hd.parts G haD hq hOK) hq2 (by rw [doneM_n]; exact hn)
      rw [← List.append_assoc]
      exact ⟨r1, r2, by rw [r3, doneM_n]⟩
theorem Bad.reach {y : Item} (h : Bad m q y) : ∃ z, Rch m q y z ∧ (getMK m z).isSome = false := by
  induction h with
  | here _ _ h1 h2 => exact ⟨_, .one h1, h2⟩
  | up _ _ h1 _ ih =>
    obtain ⟨z, h2, h3⟩ := ih
    exact ⟨z, (Rch.one h1).trans h2, h3⟩
end
/-- A run, and the document's graph beside it. -/
structure RunI (n : Int) (k : Nat) (m : RowsMK) (q : RowsML) (items : List Item) (calls : List Call) (D O : List Item) : Prop where
  bld : GBld n k m q items calls D
  ok : DOk m D
  opn : ∀ y, y ∈ O ↔ y ∈ items ∧ y ∉ D
  ond : O.Nodup
section
variable {n : Int} {k : Nat} {m m' : RowsMK} {q q' : RowsML} {items : List Item} {calls : List Call} {D D' O O' : List Item}
theorem RunI.new (n : Int) : RunI n 0 ⟨n, fun _ => []⟩ ⟨n, fun _ => []⟩ [] [] [] [] := ⟨GBld.new n, DOk.new _, by simp, List.nodup_nil⟩
theorem RunI.olen (h : RunI n k m q items calls D O) : O.length ≤ items.length := nodup_len _ _ h.ond fun y hy => ((h.opn y).1 hy).1
theorem RunI.dlen (h : RunI n k m q items calls D O) : D.length ≤ items.length := nodup_len _ _ h.ok.nd fun y hy => (h.bld.is y).1 (h.ok.com y hy)
/-- What is open behind a commit. -/
noncomputable def nextP (m : RowsMK) (O : List Item) (x : Item) (c : Call) : List Item := if canC m x c = true then sortO (O ++ [x]) else O
theorem RunI.commit (h : RunI n k m q items calls D O) (x : Item) (c : Call) : ∃ items' calls', RunI n (k + 1) (comC m x c) q items' calls' D (nextP m O x c) ∧ (canC m x c = true → items' = items ++ [x] ∧ calls' = calls ++ [c]) ∧ (canC m x c = false → items' = items ∧ calls' = calls) := by
  unfold nextP
  cases hc : canC m x c with
  | false =>
    rw [if_neg (by simp)]
    refine ⟨items, calls, ⟨h.bld.same hc, ?_, h.opn, h.ond⟩, by simp, by simp⟩
    rw [comC_no hc]; exact h.ok
  | true =>
    rw [if_pos rfl]
    obtain ⟨hg, hd, hs⟩ := canC_good hc
    have hx : x ∉ items := fun hm => by rw [(h.bld.is x).2 hm] at hs; simp at hs
    have hxD : x ∉ D := fun hm => by rw [h.ok.com x hm] at hs; cases hs
    have hsame : ∀ y, (getMK m y).isSome = true → getMK (comC m x c) y = getMK m y := fun y hy => by
      rw [comC_yes hc, getMK_set_other c hg]
      rintro rfl
      rw [hs] at hy; cases hy
    refine ⟨_, _, ⟨h.bld.commit hc, h.ok.commit hsame, fun y => ?_, ?_⟩, by simp, by simp⟩
    · rw [(sortO_perm _).mem_iff, List.mem_append, List.mem_append, h.opn y]
      constructor
      · rintro (⟨a, b⟩ | a)
        · exact ⟨.inl a, b⟩
        · simp at a; subst a; exact ⟨.inr (by simp), hxD⟩
      · rintro ⟨a | a, b⟩
        · exact .inl ⟨a, b⟩
        · exact .inr a
    · rw [(sortO_perm _).nodup_iff, List.nodup_append]
      exact ⟨h.ond, by simp, fun a ha b hb => by simp at hb; subst hb; exact fun e => hx (e ▸ ((h.opn a).1 ha).1)⟩
theorem RunI.go (h : RunI n k m q items calls D O) (hn : n ≤ 7) {q1 : RowsML} {O1 l1 : List Item} (hg : GoR m items O q O q1 O1 l1) :
    RunI n k m q1 items calls (D ++ l1) O1 ∧ (∀ y, y ∈ D ++ l1 ↔ (getMK m y).isSome = true ∧ ∀ z, Rch m Q0 y z → (getMK m z).isSome = true) := by
  have G := h.bld.inv hn
  have hmn : m.n = q.n := by rw [h.bld.mn, h.bld.qn]
  obtain ⟨r1, r2, r3⟩ := hg.dok G h.ok h.bld.over hmn
  have hOn : ∀ y ∈ O, (getML q y).isSome = false := fun y hy => by
    cases hc : (getML q y).isSome with
    | false => rfl
    | true => exact absurd ((h.bld.over y).1 hc) ((h.opn y).1 hy).2
  have hb := hg.bad G hmn hOn (fun y hy => (h.bld.is y).2 ((h.opn y).1 hy).1)
  have hlen : (D ++ l1).length ≤ items.length := nodup_len _ _ r1.nd fun y hy => (h.bld.is y).1 (r1.com y hy)
  have hDD : ∀ y, y ∈ D → y ∈ D ++ l1 := fun y hy => List.mem_append.2 (.inl hy)
  have hO1 : ∀ y, y ∈ O1 ↔ y ∈ items ∧ y ∉ D ++ l1 := fun y => by
    rw [hb.1 y, h.opn y]
    constructor
    · rintro ⟨⟨a, _⟩, b⟩
      exact ⟨a, fun hc => by rw [(r2 y).2 hc] at b; cases b⟩
    · rintro ⟨a, b⟩
      refine ⟨⟨a, fun hc => b (hDD y hc)⟩, ?_⟩
      cases hc : (getML q1 y).isSome with
      | false => rfl
      | true => exact absurd ((r2 y).1 hc) b
  refine ⟨⟨{ h.bld with qn := by rw [r3, h.bld.qn], led := Nat.le_trans hlen h.bld.lei, dnodup := r1.nd, over := r2, dgood := fun x hx => ?_ }, r1, hO1, h.ond.sublist hg.sub⟩, fun y => ?_⟩
  · rw [← h.bld.mn]; exact getMK_good (r1.com x hx)
  · constructor
    · intro hy
      exact ⟨r1.com y hy, fun z hz => r1.com z (r1.reach hy hz)⟩
    · rintro ⟨a, b⟩
      by_cases hy : y ∈ D ++ l1
      · exact hy
      · exfalso
        have hyi := (h.bld.is y).1 a
        have hyO : y ∈ O := (h.opn y).2 ⟨hyi, fun hc => hy (hDD y hc)⟩
        have hov : (getML q1 y).isSome = false := by
          cases hc : (getML q1 y).isSome with
          | false => rfl
          | true => exact absurd ((r2 y).1 hc) hy
        obtain ⟨z, h1, h2⟩ := (hb.2.2.2 y hyO hov).reach
        rw [b z h1.full] at h2; cases h2
theorem waits_of {u v : Item} {c : Call} (hu : getMK m u = some c) (hv : goodI v n = true) (hn : n ≤ 7) (hne : v ≠ u) (hd : v.num ≤ c.deps v.rep.toNat) : v ∈ waitsM m Q0 u := by
  unfold waitsM
  rw [hu, Option.getD_some]
  unfold goodI at hv
  rw [decide_eq_true_iff] at hv
  refine List.mem_filter.2 ⟨(mem_itemsTo 7).2 ⟨v.rep.toNat, by omega, (v.num - 1).toNat, by omega, ?_⟩, ?_⟩
  · obtain ⟨a, b⟩ := v
    simp only at hv hd ⊢
    congr 1 <;> omega
  · unfold waitB
    rw [Q0_no]
    have : eqA (IV v) (IV u) = false := eqA_no.2 fun e => hne (IV_eq e)
    rw [this]; rfl
theorem idx_ne {u v : Item} {l : List Item} (hu : u ∈ l) (e : idxN u l = idxN v l) (hv : v ∈ l) : u = v := by
  have h1 : ∀ x ∈ l, l[idxN x l]? = some x := fun x hx => by
    have hlt := idxN_lt.2 hx
    have := List.findIdx_getElem (xs := l) (p := fun z => eqA (IV x) (IV z)) (w := hlt)
    rw [List.getElem?_eq_getElem hlt]
    exact congrArg some (IV_eq (eqA_iff.1 this)).symm
  have a := h1 u hu
  have b := h1 v hv
  rw [e, b] at a
  injection a with a
  exact a.symm
/-- Of two that were done, one of which waits for the other one, two runs tell the same order. -/
theorem same_order (h : DOk m D) (h' : DOk m' D') (hs : ∀ y, getMK m' y = getMK m y) {u v : Item} (hu : u ∈ D) (hv : v ∈ D) (hu' : u ∈ D') (hv' : v ∈ D') (hlt : idxN v D < idxN u D) (hd : v ∈ waitsM m Q0 u ∨ u ∈ waitsM m Q0 v) : idxN v D' < idxN u D' := by
  have k : DOk m D' := h'.commit fun y _ => (hs y).symm
  have hne : u ≠ v := fun e => by subst e; omega
  rcases hd with hd | hd
  · obtain ⟨a1, a2⟩ := h.ord u hu v hd
    obtain ⟨b1, b2⟩ := k.ord u hu' v hd
    by_cases hr : Rch m Q0 v u
    · exact (b2 hr).2 ((a2 hr).1 hlt)
    · exact b1 hr
  · obtain ⟨a1, a2⟩ := h.ord v hv u hd
    obtain ⟨b1, b2⟩ := k.ord v hv' u hd
    by_cases hr : Rch m Q0 u v
    · have hnl : ¬ ltM m u v = true := fun hc => by have := (a2 hr).2 hc; omega
      have hnl' : ¬ idxN u D' < idxN v D' := fun hc => hnl ((b2 hr).1 hc)
      have : idxN u D' ≠ idxN v D' := fun e => hne (idx_ne hu' e hv')
      omega
    · have := a1 hr; omega
theorem same_done (h : ∀ y, y ∈ D ↔ (getMK m y).isSome = true ∧ ∀ z, Rch m Q0 y z → (getMK m z).isSome = true) (h' : ∀ y, y ∈ D' ↔ (getMK m' y).isSome = true ∧ ∀ z, Rch m' Q0 y z → (getMK m' z).isSome = true) (hs : ∀ y, getMK m' y = getMK m y) : ∀ y, y ∈ D ↔ y ∈ D' := by
  have hr : ∀ {a b : Item}, Rch m Q0 a b ↔ Rch m' Q0 a b := fun {a b} => by
    constructor
    · intro hr
      induction hr with
      | refl => exact .refl _
      | step _ hz ih => exact .step ih (by rw [waits_call (hs _)]; exact hz)
    · intro hr
      induction hr with
      | refl => exact .refl _
      | step _ hz ih => exact .step ih (by rw [← waits_call (hs _)]; exact hz)
  intro y
  rw [h y, h' y, hs y]
  exact ⟨fun ⟨a, b⟩ => ⟨a, fun z hz => by rw [hs z]; exact b z (hr.2 hz)⟩, fun ⟨a, b⟩ => ⟨a, fun z hz => by rw [← hs z]; exact b z (hr.1 hz)⟩⟩
end
end Go.Proofs.Ytnjgjhjilolanaa
/- Layer 19, plain: what is committed behind steps of unlike items, in whatever order. No walk stands here. -/
namespace Go.Proofs.Ytnjgjhjilolanaa
open Go.RowKit
set_option linter.unusedVariables false
/-- What is committed behind so many steps, taken in an order. -/
def CMt (n : Int) (l : List RStep) (f : Nat → Nat) (i : Nat) (m : RowsMK) : Prop :=
  ∀ y c, getMK m y = some c ↔ ∃ j, j < i ∧ ∃ s, l[f j]? = some s ∧ s.item = y ∧ goodI y n = true ∧ goodD s.call.deps 7 = true ∧ s.call = c
theorem CMt.new (n : Int) (l : List RStep) (f : Nat → Nat) : CMt n l f 0 ⟨n, fun _ => []⟩ := fun y c => by
  rw [getMK_new]
  constructor
  · intro h; cases h
  · rintro ⟨j, hj, _⟩; omega
theorem CMt.step {n : Int} {l : List RStep} {f : Nat → Nat} {i : Nat} {m : RowsMK} (h : CMt n l f i m) (hn : m.n = n)
    (hd : ∀ (a b : Nat) (s t : RStep), l[a]? = some s → l[b]? = some t → s.item = t.item → a = b) (hf : ∀ j, j < i → f j ≠ f i) {s : RStep} (hs : l[f i]? = some s) : CMt n l f (i + 1) (comC m s.item s.call) := by
  have hnew : (getMK m s.item).isSome = false := by
    cases hc : getMK m s.item with
    | none => rfl
    | some c =>
      obtain ⟨j, hj, t, h1, h2, -⟩ := (h _ _).1 hc
      exact absurd (hd _ _ _ _ h1 hs h2) (hf j hj)
  intro y c
  cases hc : canC m s.item s.call with
  | false =>
    rw [comC_no hc, h y c]
    constructor
    · rintro ⟨j, hj, r⟩; exact ⟨j, by omega, r⟩
    · rintro ⟨j, hj, t, h1, h2, h3, h4, h5⟩
      by_cases e : j = i
      · exfalso
        subst e
        rw [hs] at h1
        injection h1 with h1
        subst h1
        unfold canC at hc
        rw [h4, hnew, hn, h2, h3] at hc
        simp at hc
      · exact ⟨j, by omega, t, h1, h2, h3, h4, h5⟩
  | true =>
    obtain ⟨g1, g2, g3⟩ := canC_good hc
    rw [comC_yes hc]
    by_cases e : s.item = y
    · subst e
      rw [getMK_set_same _ g1]
      constructor
      · intro h1
        injection h1 with h1
        exact ⟨i, by omega, s, hs, rfl, by rw [← hn]; exact g1, g2, h1⟩
      · rintro ⟨j, hj, t, h1, h2, h3, h4, h5⟩
        have hfe := hd _ _ _ _ h1 hs h2
        have hji : j = i := by
          by_cases e : j < i
          · exact absurd hfe (hf j e)
          · omega
        subst hji
        rw [hs] at h1
        injection h1 with h1
        subst h1
        rw [h5]
    · rw [getMK_set_other _ g1 e, h y c]
      constructor
      · rintro ⟨j, hj, r⟩; exact ⟨j, by omega, r⟩
      · rintro ⟨j, hj, t, h1, h2, r⟩
        by_cases e2 : j = i
        · subst e2
          rw [hs] at h1
          injection h1 with h1
          subst h1
          exact absurd h2 e
        · exact ⟨j, by omega, t, h1, h2, r⟩
/-- All steps, in two orders. -/
theorem CMt.same {n : Int} {l : List RStep} {f f' : Nat → Nat} {m m' : RowsMK} (h : CMt n l f l.length m) (h' : CMt n l f' l.length m') (hf : ∀ j, j < l.length → ∃ k, k < l.length ∧ f' k = f j) (hf' : ∀ j, j < l.length → ∃ k, k < l.length ∧ f k = f' j) : ∀ y, getMK m' y = getMK m y := by
  intro y
  have key : ∀ c, getMK m' y = some c ↔ getMK m y = some c := fun c => by
    rw [h y c, h' y c]
    constructor
    · rintro ⟨j, hj, s, r⟩
      obtain ⟨k, hk, e⟩ := hf' j hj
      exact ⟨k, hk, s, by rw [e]; exact r⟩
    · rintro ⟨j, hj, s, r⟩
      obtain ⟨k, hk, e⟩ := hf j hj
      exact ⟨k, hk, s, by rw [e]; exact r⟩
  cases hc : getMK m y with
  | some c => exact (key c).2 hc
  | none =>
    cases hc' : getMK m' y with
    | none => rfl
    | some c => rw [(key c).1 hc'] at hc; cases hc
theorem rot_ne {n at_ i j : Nat} (hi : i < n) (hj : j < i) : (j + at_) % n ≠ (i + at_) % n := by
  intro h
  have h1 := Nat.div_add_mod (j + at_) n
  have h2 := Nat.div_add_mod (i + at_) n
  rw [h] at h1
  have h3 : n * ((i + at_) / n) + (j + at_) = n * ((j + at_) / n) + (i + at_) := by omega
  have h4 : (j + at_) / n = (i + at_) / n := by
    have a1 : (j + at_) / n ≤ (i + at_) / n := Nat.div_le_div_right (by omega)
    rcases Nat.lt_or_ge ((j + at_) / n) ((i + at_) / n) with hlt | hge
    · exfalso
      have : n * ((j + at_) / n) + n ≤ n * ((i + at_) / n) := by rw [← Nat.mul_succ]; exact Nat.mul_le_mul_left n hlt
      omega
    · omega
  rw [h4] at h3
  omega
theorem rot_all {n at_ j : Nat} (hj : j < n) (ha : at_ ≤ n) : ∃ k, k < n ∧ (k + at_) % n = j := by
  by_cases h : at_ ≤ j
  · exact ⟨j - at_, by omega, by rw [Nat.sub_add_cancel h]; exact Nat.mod_eq_of_lt hj⟩
  · refine ⟨j + n - at_, by omega, ?_⟩
    have : j + n - at_ + at_ = j + n := by omega
    rw [this, Nat.add_mod_right]
    exact Nat.mod_eq_of_lt hj
end Go.Proofs.Ytnjgjhjilolanaa
