/- Several texts in one. -/
import Derived.Test.YtnjgjhjilolanaaH29
import Derived.Test.YtnjgjhjilolanaaH35
import Derived.Test.YtnjgjhjilolanaaH18
import Derived.Test.YtnjgjhjilolanaaH34
import Derived.Test.YtnjgjhjilolanaaH30
import Derived.Test.YtnjgjhjilolanaaH27
import Derived.Test.YtnjgjhjilolanaaH2
/- Layer 19, plain: what a run has done, and in which order, hangs on what is committed alone. No walk stands here. -/
namespace Go.Proofs.Ytnjgjhjilolanaa
open Go.RowKit Go.Shelf
set_option linter.unusedVariables false
/-- Nothing is over. -/
def Q0 : RowsML := ⟨0, fun _ => []⟩
theorem Q0_no (y : Item) : (getML Q0 y).isSome = false := by unfold Q0; rw [getML_new]; rfl
section
variable {m m' : RowsMK} {q : RowsML} {its : List Item} {D : List Item} {x : Item}
theorem waits_q {v y : Item} : y ∈ waitsM m q v ↔ y ∈ waitsM m Q0 v ∧ (getML q y).isSome = false := by
  unfold waitsM
  rw [List.mem_filter, List.mem_filter]
  unfold waitB
  rw [Q0_no]
  simp only [Bool.and_eq_true, Bool.not_eq_true', Bool.not_false, and_true]
  exact ⟨fun ⟨a, b, c⟩ => ⟨⟨a, b⟩, c⟩, fun ⟨⟨a, b⟩, c⟩ => ⟨a, b, c⟩⟩
theorem Rch.full {a b : Item} (h : Rch m q a b) : Rch m Q0 a b := by
  induction h with
  | refl => exact .refl _
  | step _ h ih => exact .step ih (waits_q.1 h).1
/-- What is done is closed, and stands in its order. -/
structure DOk (m : RowsMK) (D : List Item) : Prop where
  nd : D.Nodup
  com : ∀ y ∈ D, (getMK m y).isSome = true
  clo : ∀ y ∈ D, ∀ z ∈ waitsM m Q0 y, z ∈ D
  ord : ∀ y ∈ D, ∀ z, Rch m Q0 y z → (¬ Rch m Q0 z y → idxN z D < idxN y D) ∧ (Rch m Q0 z y → (idxN z D < idxN y D ↔ ltM m z y = true))
theorem DOk.reach (h : DOk m D) {y z : Item} (hy : y ∈ D) (hr : Rch m Q0 y z) : z ∈ D := by
  induction hr with
  | refl => exact hy
  | step _ hz ih => exact h.clo _ ih _ hz
theorem DOk.new (m : RowsMK) : DOk m [] := ⟨List.nodup_nil, by simp, by simp, by simp⟩
theorem waits_call {y : Item} (h : getMK m' y = getMK m y) (q : RowsML) : waitsM m' q y = waitsM m q y := by unfold waitsM; rw [h]
theorem DOk.commit (h : DOk m D) (hs : ∀ y, (getMK m y).isSome = true → getMK m' y = getMK m y) : DOk m' D := by
  have hw : ∀ y ∈ D, waitsM m' Q0 y = waitsM m Q0 y := fun y hy => waits_call (hs y (h.com y hy)) Q0
  have h1 : ∀ {y z : Item}, y ∈ D → (Rch m Q0 y z ↔ Rch m' Q0 y z) := fun {y z} hy => by
    constructor
    · intro hr
      induction hr with
      | refl => exact .refl _
      | step hr hz ih =>
        have := h.reach hy hr
        exact .step ih (by rw [hw _ this]; exact hz)
    · intro hr
      have key : Rch m Q0 y z ∧ z ∈ D := by
        induction hr with
        | refl => exact ⟨.refl _, hy⟩
        | step hr hz ih =>
          obtain ⟨i1, i2⟩ := ih
          rw [hw _ i2] at hz
          exact ⟨.step i1 hz, h.clo _ i2 _ hz⟩
      exact key.1
  have h2 : ∀ {y z : Item}, y ∈ D → z ∈ D → ltM m' z y = ltM m z y := fun {y z} hy hz => by
    have e1 : seqK m' y = seqK m y := by unfold seqK; rw [hs y (h.com y hy)]
    have e2 : seqK m' z = seqK m z := by unfold seqK; rw [hs z (h.com z hz)]
    rw [Bool.eq_iff_iff, ltM_iff, ltM_iff, e1, e2]
  refine ⟨h.nd, fun y hy => by rw [hs y (h.com y hy)]; exact h.com y hy, fun y hy z hz => ?_, fun y hy z hz => ?_⟩
  · rw [hw y hy] at hz
    exact h.clo y hy z hz
  · have hz := (h1 hy).2 hz
    have hzD := h.reach hy hz
    rw [← h1 hzD, h2 hy hzD]
    exact h.ord y hy z hz
theorem idxN_app {z : Item} {a c : List Item} (h : z ∉ a) : idxN z (a ++ c) = a.length + idxN z c := by
  have h5 : ¬ idxN z a < a.length := fun hc => h (idxN_lt.1 hc)
  unfold idxN at h5 ⊢
  rw [List.findIdx_append, if_neg h5, Nat.add_comm]
theorem srt_idx {p : List Item} (h : Srt m p) {z y : Item} (hz : z ∈ p) (hy : y ∈ p) : idxN z p < idxN y p ↔ ltM m z y = true := by
  have h1 : ∀ x ∈ p, ∃ hx : idxN x p < p.length, p[idxN x p] = x := fun x hx => by
    have hlt := idxN_lt.2 hx
    refine ⟨hlt, ?_⟩
    have := List.findIdx_getElem (xs := p) (p := fun z => eqA (IV x) (IV z)) (w := hlt)
    exact (IV_eq (eqA_iff.1 this)).symm
  obtain ⟨a1, a2⟩ := h1 z hz
  obtain ⟨b1, b2⟩ := h1 y hy
  constructor
  · intro hlt
    have := (List.pairwise_iff_getElem.1 h) _ _ a1 b1 hlt
    rw [a2, b2] at this
    exact this
  · intro hlt
    rcases Nat.lt_trichotomy (idxN z p) (idxN y p) with c | c | c
    · exact c
    · exfalso
      have e : z = y := by
        rw [← a2, ← b2]
        congr 1
      exact ltM_ne hlt e
    · exfalso
      have := (List.pairwise_iff_getElem.1 h) _ _ b1 a1 c
      rw [a2, b2] at this
      exact ltM_ne ((ltM_swo m).trans _ _ _ this hlt) rfl
/-- Some parts more are done. -/
theorem DOk.parts (G : GInv m its) (h : DOk m D) (hx : x ∉ D) (hq : ∀ y, (getML q y).isSome = true ↔ y ∈ D) {P : List (List Item)} (hP : PartsOk m q x P) : DOk m (D ++ P.flatten) := by
  have hno : ∀ y ∈ P.flatten, y ∉ D := fun y hy hc => by
    have hr := (hP.mem y).1 hy
    cases hr with
    | refl => exact hx hc
    | step h1 h2 =>
      have := (waits_q.1 h2).2
      rw [(hq y).2 hc] at this; cases this
  have hfull : ∀ {z y : Item}, z ∈ P.flatten → y ∉ D → Rch m Q0 z y → Rch m q z y ∧ y ∈ P.flatten := fun {z y} hz hy hr => by
    have key : y ∉ D → Rch m q z y ∧ y ∈ P.flatten := by
      clear hy
      induction hr with
      | refl => exact fun _ => ⟨.refl _, hz⟩
      | step hr hw ih =>
        intro hy
        rename_i a b
        have ha : a ∉ D := fun hc => hy (h.clo _ hc _ hw)
        obtain ⟨i1, i2⟩ := ih ha
        have hw2 : b ∈ waitsM m q a := waits_q.2 ⟨hw, by
          cases hc : (getML q b).isSome with
          | false => rfl
          | true => exact absurd ((hq b).1 hc) hy⟩
        exact ⟨.step i1 hw2, (hP.mem b).2 (.step ((hP.mem a).1 i2) hw2)⟩
    exact key hy
  refine ⟨?_, fun y hy => ?_, fun y hy z hz => ?_, fun y hy z hz => ?_⟩
  · rw [List.nodup_append]
    exact ⟨h.nd, hP.nd, fun a ha b hb e => hno b hb (e ▸ ha)⟩
  · rcases List.mem_append.1 hy with hy | hy
    · exact h.com y hy
    · exact hP.com y hy
  · rcases List.mem_append.1 hy with hy | hy
    · exact List.mem_append.2 (.inl (h.clo y hy z hz))
    · by_cases hzD : z ∈ D
      · exact List.mem_append.2 (.inl hzD)
      · exact List.mem_append.2 (.inr (hfull hy hzD (.one hz)).2)
  · rcases List.mem_append.1 hy with hy | hy
    · have hzD := h.reach hy hz
      rw [idxN_in hy, idxN_in hzD]
      exact h.ord y hy z hz
    · have hyD := hno y hy
      by_cases hzD : z ∈ D
      · have h1 := idxN_lt.2 hzD
        rw [idxN_in hzD, idxN_app hyD]
        exact ⟨fun _ => by omega, fun hr => absurd (h.reach hzD hr) hyD⟩
      · obtain ⟨hzq, hzP⟩ := hfull hy hzD hz
        rw [idxN_app hyD, idxN_app hzD]
        obtain ⟨p, hp, hyp⟩ := List.mem_flatten.1 hy
        obtain ⟨k, hk, rfl⟩ := List.getElem_of_mem hp
        have hPk : P[k]? = some P[k] := List.getElem?_eq_getElem hk
        have hsame := hP.same hPk hyp hzq
        have hsp := hP.split hPk
        have hynot : y ∉ (P.take k).flatten := fun hc => by
          have := hP.fresh hPk hyp
          rw [inB_iff.2 hc] at this; cases this
        have hyi : idxN y P.flatten = (P.take k).flatten.length + idxN y P[k] := by
          conv => lhs; rw [hsp]
          rw [List.flatten_append, List.flatten_cons, idxN_app hynot, idxN_in hyp]
        constructor
        · intro hnr
          have hz1 := hsame.2 fun hr => hnr hr.full
          have : idxN z P.flatten = idxN z (P.take k).flatten := by
            conv => lhs; rw [hsp]
            rw [List.flatten_append, idxN_in hz1]
          have := idxN_lt.2 hz1
          omega
        · intro hr
          have hzp := hsame.1 (hfull hzP hyD hr).1
          have hznot : z ∉ (P.take k).flatten := fun hc => by
            have := hP.fresh hPk hzp
            rw [inB_iff.2 hc] at this; cases this
          have hzi : idxN z P.flatten = (P.take k).flatten.length + idxN z P[k] := by
            conv => lhs; rw [hsp]
            rw [List.flatten_append, List.flatten_cons, idxN_app hznot, idxN_in hzp]
          rw [← srt_idx (hP.srt _ hp) hzp hyp, hyi, hzi]
          omega
theorem GoR.dok (G : GInv m its) : ∀ {xs : List Item} {q : RowsML} {O : List Item} {q1 : RowsML} {O1 l1 D : List Item}, GoR m its xs q O q1 O1 l1 → DOk m D → (∀ y, (getML q y).isSome = true ↔ y ∈ D) → m.n = q.n → DOk m (D ++ l1) ∧ (∀ y, (getML q1 y).isSome = true ↔ y ∈ D ++ l1) ∧ q1.n = q.n
  | [], q, O, q1, O1, l1, D, h, hd, hq, hn => by
    obtain ⟨rfl, rfl, rfl⟩ := h
    rw [List.append_nil]
    exact ⟨hd, hq, rfl⟩
  | a :: xs, q, O, q1, O1, l1, D, h, hd, hq, hn => by
    obtain ⟨P, M, l2, h1, rfl, h2⟩ := h
    by_cases hP : P = []
    · subst hP
      exact GoR.dok G h2 hd hq hn
    · have key : (getMK m a).isSome = true ∧ (getML q a).isSome = false ∧ M = [] := by
        have h0 := h1
        rcases h1 with ⟨-, e, -⟩ | ⟨⟨a1, a2⟩, -⟩
        · exact absurd e hP
        · refine ⟨a1, a2, ?_⟩
          cases M with
          | nil => rfl
          | cons b t => exact absurd ((ord_all G a1 a2 h0).2.2.2.1 (by simp)).1 hP
      obtain ⟨a1, a2, rfl⟩ := key
      obtain ⟨hOK, -⟩ := parts_ok G a1 a2 h1
      have hgood : ∀ y ∈ P.flatten, goodI y q.n = true := fun y hy => by rw [← hn]; exact getMK_good (hOK.com y hy)
      have haD : a ∉ D := fun hc => by rw [(hq a).2 hc] at a2; cases a2
      have hq2 : ∀ y, (getML (doneM q P.flatten) y).isSome = true ↔ y ∈ D ++ P.flatten := fun y => by
        rw [doneM_is _ _ hgood, hq y, List.mem_append]
      obtain ⟨r1, r2, r3⟩ := GoR.dok G h2 (hd.parts G haD hq hOK) hq2 (by rw [doneM_n]; exact hn)
      rw [← List.append_assoc]
      exact ⟨r1, r2, by rw [r3, doneM_n]⟩
theorem Bad.reach {y : Item} (h : Bad m q y) : ∃ z, Rch m q y z ∧ (getMK m z).isSome = false := by
  induction h with
  | here _ _ h1 h2 => exact ⟨_, .one h1, h2⟩
  | up _ _ h1 _ ih =>
    obtain ⟨z, h2, h3⟩ := ih
    exact ⟨z, (Rch.one h1).trans h2, h3⟩
end
/-- A run, and the document's graph beside it. -/
structure RunI (n : Int) (k : Nat) (m : RowsMK) (q : RowsML) (items : List Item) (calls : List Call) (D O : List Item) : Prop where
  bld : GBld n k m q items calls D
  ok : DOk m D
  opn : ∀ y, y ∈ O ↔ y ∈ items ∧ y ∉ D
  ond : O.Nodup
section
variable {n : Int} {k : Nat} {m m' : RowsMK} {q q' : RowsML} {items : List Item} {calls : List Call} {D D' O O' : List Item}
theorem RunI.new (n : Int) : RunI n 0 ⟨n, fun _ => []⟩ ⟨n, fun _ => []⟩ [] [] [] [] := ⟨GBld.new n, DOk.new _, by simp, List.nodup_nil⟩
theorem RunI.olen (h : RunI n k m q items calls D O) : O.length ≤ items.length := nodup_len _ _ h.ond fun y hy => ((h.opn y).1 hy).1
theorem RunI.dlen (h : RunI n k m q items calls D O) : D.length ≤ items.length := nodup_len _ _ h.ok.nd fun y hy => (h.bld.is y).1 (h.ok.com y hy)
/-- What is open behind a commit. -/
noncomputable def nextP (m : RowsMK) (O : List Item) (x : Item) (c : Call) : List Item := if canC m x c = true then sortO (O ++ [x]) else O
theorem RunI.commit (h : RunI n k m q items calls D O) (x : Item) (c : Call) : ∃ items' calls', RunI n (k + 1) (comC m x c) q items' calls' D (nextP m O x c) ∧ (canC m x c = true → items' = items ++ [x] ∧ calls' = calls ++ [c]) ∧ (canC m x c = false → items' = items ∧ calls' = calls) := by
  unfold nextP
  cases hc : canC m x c with
  | false =>
    rw [if_neg (by simp)]
    refine ⟨items, calls, ⟨h.bld.same hc, ?_, h.opn, h.ond⟩, by simp, by simp⟩
    rw [comC_no hc]; exact h.ok
  | true =>
    rw [if_pos rfl]
    obtain ⟨hg, hd, hs⟩ := canC_good hc
    have hx : x ∉ items := fun hm => by rw [(h.bld.is x).2 hm] at hs; simp at hs
    have hxD : x ∉ D := fun hm => by rw [h.ok.com x hm] at hs; cases hs
    have hsame : ∀ y, (getMK m y).isSome = true → getMK (comC m x c) y = getMK m y := fun y hy => by
      rw [comC_yes hc, getMK_set_other c hg]
      rintro rfl
      rw [hs] at hy; cases hy
    refine ⟨_, _, ⟨h.bld.commit hc, h.ok.commit hsame, fun y => ?_, ?_⟩, by simp, by simp⟩
    · rw [(sortO_perm _).mem_iff, List.mem_append, List.mem_append, h.opn y]
      constructor
      · rintro (⟨a, b⟩ | a)
        · exact ⟨.inl a, b⟩
        · simp at a; subst a; exact ⟨.inr (by simp), hxD⟩
      · rintro ⟨a | a, b⟩
        · exact .inl ⟨a, b⟩
        · exact .inr a
    · rw [(sortO_perm _).nodup_iff, List.nodup_append]
      exact ⟨h.ond, by simp, fun a ha b hb => by simp at hb; subst hb; exact fun e => hx (e ▸ ((h.opn a).1 ha).1)⟩
theorem RunI.go (h : RunI n k m q items calls D O) (hn : n ≤ 7) {q1 : RowsML} {O1 l1 : List Item} (hg : GoR m items O q O q1 O1 l1) :
    RunI n k m q1 items calls (D ++ l1) O1 ∧ (∀ y, y ∈ D ++ l1 ↔ (getMK m y).isSome = true ∧ ∀ z, Rch m Q0 y z → (getMK m z).isSome = true) := by
  have G := h.bld.inv hn
  have hmn : m.n = q.n := by rw [h.bld.mn, h.bld.qn]
  obtain ⟨r1, r2, r3⟩ := hg.dok G h.ok h.bld.over hmn
  have hOn : ∀ y ∈ O, (getML q y).isSome = false := fun y hy => by
    cases hc : (getML q y).isSome with
    | false => rfl
    | true => exact absurd ((h.bld.over y).1 hc) ((h.opn y).1 hy).2
  have hb := hg.bad G hmn hOn (fun y hy => (h.bld.is y).2 ((h.opn y).1 hy).1)
  have hlen : (D ++ l1).length ≤ items.length := nodup_len _ _ r1.nd fun y hy => (h.bld.is y).1 (r1.com y hy)
  have hDD : ∀ y, y ∈ D → y ∈ D ++ l1 := fun y hy => List.mem_append.2 (.inl hy)
  have hO1 : ∀ y, y ∈ O1 ↔ y ∈ items ∧ y ∉ D ++ l1 := fun y => by
    rw [hb.1 y, h.opn y]
    constructor
    · rintro ⟨⟨a, _⟩, b⟩
      exact ⟨a, fun hc => by rw [(r2 y).2 hc] at b; cases b⟩
    · rintro ⟨a, b⟩
      refine ⟨⟨a, fun hc => b (hDD y hc)⟩, ?_⟩
      cases hc : (getML q1 y).isSome with
      | false => rfl
      | true => exact absurd ((r2 y).1 hc) b
  refine ⟨⟨{ h.bld with qn := by rw [r3, h.bld.qn], led := Nat.le_trans hlen h.bld.lei, dnodup := r1.nd, over := r2, dgood := fun x hx => ?_ }, r1, hO1, h.ond.sublist hg.sub⟩, fun y => ?_⟩
  · rw [← h.bld.mn]; exact getMK_good (r1.com x hx)
  · constructor
    · intro hy
      exact ⟨r1.com y hy, fun z hz => r1.com z (r1.reach hy hz)⟩
    · rintro ⟨a, b⟩
      by_cases hy : y ∈ D ++ l1
      · exact hy
      · exfalso
        have hyi := (h.bld.is y).1 a
        have hyO : y ∈ O := (h.opn y).2 ⟨hyi, fun hc => hy (hDD y hc)⟩
        have hov : (getML q1 y).isSome = false := by
          cases hc : (getML q1 y).isSome with
          | false => rfl
          | true => exact absurd ((r2 y).1 hc) hy
        obtain ⟨z, h1, h2⟩ := (hb.2.2.2 y hyO hov).reach
        rw [b z h1.full] at h2; cases h2
end
end Go.Proofs.Ytnjgjhjilolanaa
/- Layer 19, plain: what was done when a run went, and in which order. No walk stands here. -/
namespace Go.Proofs.Ytnjgjhjilolanaa
open Go.RowKit Go.Shelf
set_option linter.unusedVariables false
/-- Can an item be done? -/
noncomputable def canL (m : RowsMK) (q : RowsML) (x : Item) : Bool := (getMK m x).isSome && (reachL m q x).all (fun y => (getMK m y).isSome)
section
variable {n : Int} {k : Nat} {m : RowsMK} {q : RowsML} {items : List Item} {calls : List Call} {D O : List Item} {x y : Item}
theorem RunI.reach (h : RunI n k m q items calls D O) {z : Item} (hr : Rch m Q0 x z) : z ∈ D ∨ Rch m q x z := by
  induction hr with
  | refl => exact .inr (.refl _)
  | step hr hz ih =>
    rename_i a b
    rcases ih with ih | ih
    · exact .inl (h.ok.clo _ ih _ hz)
    · by_cases hb : b ∈ D
      · exact .inl hb
      · refine .inr (.step ih (waits_q.2 ⟨hz, ?_⟩))
        cases hc : (getML q b).isSome with
        | false => rfl
        | true => exact absurd ((h.bld.over b).1 hc) hb
theorem went_can (h : RunI n k m q items calls D O) (hn : n ≤ 7) {l1 : List Item} (hd : ∀ y, y ∈ D ++ l1 ↔ (getMK m y).isSome = true ∧ ∀ z, Rch m Q0 y z → (getMK m z).isSome = true) (hx : x ∈ items) (hxD : x ∉ D) : canL m q x = inB x l1 := by
  have G := h.bld.inv hn
  have hxc : (getMK m x).isSome = true := (h.bld.is x).2 hx
  unfold canL
  rw [hxc, Bool.true_and, Bool.eq_iff_iff, inB_iff, List.all_eq_true]
  have hk : x ∈ l1 ↔ x ∈ D ++ l1 := by rw [List.mem_append]; exact ⟨.inr, fun h => h.resolve_left hxD⟩
  rw [hk, hd x]
  constructor
  · intro hall
    refine ⟨hxc, fun z hz => ?_⟩
    rcases h.reach hz with h1 | h1
    · exact h.ok.com z h1
    · by_cases e : z = x
      · rw [e]; exact hxc
      · exact hall z ((reach_iff G e).2 h1)
  · rintro ⟨-, hall⟩ z hz
    obtain ⟨u, h1, h2⟩ := (reach_mem G).1 hz
    exact hall z (Rch.full (.step h1 h2))
theorem idxN_take {l : List Item} {i : Nat} : inB y (l.take i) = true ↔ idxN y l < i ∧ y ∈ l := by
  rw [inB_iff]
  constructor
  · intro hy
    have h1 := idxN_lt.2 hy
    have hl := List.mem_of_mem_take hy
    refine ⟨?_, hl⟩
    have h2 : idxN y l = idxN y (l.take i) := by
      conv => lhs; rw [← List.take_append_drop i l]
      exact idxN_in hy
    rw [List.length_take] at h1
    omega
  · rintro ⟨h1, h2⟩
    have h3 := idxN_lt.2 h2
    have h4 := List.findIdx_getElem (xs := l) (p := fun z => eqA (IV y) (IV z)) (w := h3)
    have e : l[idxN y l] = y := by
      exact (IV_eq (eqA_iff.1 h4)).symm
    rw [List.mem_take_iff_getElem]
    exact ⟨idxN y l, by omega, e⟩
theorem went_ord (h : RunI n k m q items calls D O) (hn : n ≤ 7) {q1 : RowsML} {O1 l1 : List Item} (h1 : RunI n k m q1 items calls (D ++ l1) O1) {i : Nat} (hi : l1[i]? = some x) (hy : y ∈ reachL m q x) (hne : y ≠ x) :
    (inB x (reachL m q y) = false → inB y (l1.take i) = true) ∧ (inB x (reachL m q y) = true → inB y (l1.take i) = befB m y x) := by
  have G := h.bld.inv hn
  have hnd := List.nodup_append.1 h1.ok.nd
  obtain ⟨hil, rfl⟩ := List.getElem?_eq_some_iff.1 hi
  have hxl : l1[i] ∈ l1 := List.getElem_mem hil
  have hxD : l1[i] ∉ D := fun hc => hnd.2.2 _ hc _ hxl rfl
  obtain ⟨u, hu1, hu2⟩ := (reach_mem G).1 hy
  have hr : Rch m q l1[i] y := .step hu1 hu2
  have hyD : y ∉ D := fun hc => by
    have := (waits_q.1 hu2).2
    rw [(h.bld.over y).2 hc] at this; cases this
  have hyl : y ∈ l1 := (List.mem_append.1 (h1.ok.reach (List.mem_append.2 (.inr hxl)) hr.full)).resolve_left hyD
  have hxi : idxN l1[i] l1 = i := idxN_at hnd.2.1 hi
  have hmut : inB l1[i] (reachL m q y) = true ↔ Rch m Q0 y l1[i] := by
    rw [inB_iff, reach_iff G (fun e => hne e.symm)]
    exact ⟨Rch.full, fun h2 => (h.reach h2).resolve_left hxD⟩
  have ho := h1.ok.ord l1[i] (List.mem_append.2 (.inr hxl)) y hr.full
  rw [idxN_app hyD, idxN_app hxD, hxi] at ho
  have hah : inB y (l1.take i) = true ↔ idxN y l1 < i := by rw [idxN_take]; exact ⟨fun h => h.1, fun h => ⟨h, hyl⟩⟩
  constructor
  · intro hf
    rw [hah]
    have := ho.1 fun hc => by rw [hmut.2 hc] at hf; cases hf
    omega
  · intro ht
    rw [Bool.eq_iff_iff, hah, bef_lt, ← ho.2 (hmut.1 ht)]
    omega
end
end Go.Proofs.Ytnjgjhjilolanaa
/- Layer 18: the document's 'is an item among others', 'before'. -/
namespace Go.Proofs.Ytnjgjhjilolanaa
open Go.RowKit Go.Shelf
set_option linter.unusedVariables false
set_option maxRecDepth 20000
attribute [local go_sem] row_alloc row_drew row_drewN row_ext row_setCell row_setRow size_ext setRow_alloc setRow_drew loadOf storeOf piece_lit loadVal_at storeVal_at allOne_lit buildOf buildRes_some
attribute [local go_sem high] cell_alloc frozen_alloc setCell_alloc cell_ext frozen_ext cell_setRow frozen_setRow
attribute [local go_sem ↓] TDeed_ld0 TDeed_st0 TDeed_fd0 TDeed_bd0
attribute [local go_sem] TDeed_size TDeed_one TDeed_piece TDeed_c0 TDeed_c1 TDeed_c2 TDeed_c3 TDeed_c4 TDeed_c5 TDeed_set_kind TDeed_set_key TDeed_set_val TDeed_set_ver TDeed_set_ses TDeed_set_num TDeed_ld TDeed_st TDeed_f_kind TDeed_f_key TDeed_f_val TDeed_f_ver TDeed_f_ses TDeed_f_num TDeed_bd TDeed_fl TDeed_fl_kind TDeed_fl_key TDeed_fl_val TDeed_fl_ver TDeed_fl_ses TDeed_fl_num
attribute [local go_sem high] TDeed_eql TDeed_neq
attribute [local go_sem ↓] index_deps0 load_deps0 store_deps0
attribute [local go_sem] DV_piece DV_size DV_one index_deps load_deps store_deps
attribute [local go_sem high] TDeps_eql TDeps_neq
attribute [local go_sem ↓] TCall_ld0 TCall_st0 TCall_fd0 TCall_bd0
attribute [local go_sem] TCall_size TCall_one TCall_piece TCall_c0 TCall_c1 TCall_c2 TCall_c3 TCall_c4 TCall_c5 TCall_c6 TCall_c7 TCall_c8 TCall_c9 TCall_c10 TCall_c11 TCall_c12 TCall_c13 TCall_p_deed TCall_put_deed TCall_p_deps TCall_put_deps TCall_set_seq TCall_ld TCall_st TCall_f_deed TCall_f_deps TCall_f_seq TCall_bd TCall_fl TCall_fl_deed TCall_fl_deps TCall_fl_seq
attribute [local go_sem high] TCall_eql TCall_neq
attribute [local go_sem ↓] TItem_ld0 TItem_st0 TItem_fd0 TItem_bd0
attribute [local go_sem] TItem_size TItem_one TItem_piece TItem_c0 TItem_c1 TItem_set_rep TItem_set_num TItem_ld TItem_st TItem_f_rep TItem_f_num TItem_bd TItem_fl TItem_fl_rep TItem_fl_num
attribute [local go_sem high] TItem_eql TItem_neq
/-- A part of such a slice is one, too. -/
theorem RowsIn.cut {α : Type} {w : World} {a : Addr} {n : Nat} {V : α → Array Value} {l : List α} (h : RowsIn w (some a) n V l) (k : Nat) : RowsIn w (some (a.add (k * n))) n V (l.drop k) where
  nil := fun h => by cases h
  cell := fun a' ha j hj i v hv => by
    injection ha with ha; subst ha
    rw [List.length_drop] at hj
    rw [List.getElem_drop] at hv
    have hc := h.cell a rfl (k + j) (by omega) i v hv
    have e : (a.add (k * n)).add (j * n) = a.add ((k + j) * n) := by
      rw [Nat.add_mul]
      unfold Addr.add
      by_cases h1 : k * n = 0 <;> by_cases h2 : j * n = 0 <;> simp [h1, h2, Nat.add_assoc]
    rw [e]; exact hc
  len := by rw [List.length_drop]; have := h.len; omega
theorem RowsIn.take {α : Type} {w : World} {A : Option Addr} {n : Nat} {V : α → Array Value} {l : List α} (h : RowsIn w A n V l) (k : Nat) : RowsIn w A n V (l.take k) where
  nil := fun e => by rw [h.nil e]; simp
  cell := fun a' ha j hj i v hv => by
    rw [List.length_take] at hj
    rw [List.getElem_take] at hv
    exact h.cell a' ha j (by omega) i v hv
  len := by rw [List.length_take]; have := h.len; omega
section
variable {w W : World} {F : Nat → Prop} {R : List Res}
set_option maxHeartbeats 4000000 in
theorem docHasIn (A : Option Addr) (c : Nat) (l : List Item) (hl : l.length ≤ 1000000) (x : Item) (W : World) (hA : RowsIn W A 2 IV l) : Calls Try.prog 23 #[.slice A l.length c, .agg (IV x)] W fun e W' => e = .returned (.bool (inB x l)) ∧ Below W.heap.size W W' := by
  have T := (Sts.start0 W).new (IV x) 35
  have HT := Lib.hid T; have HA := Lib.hid hA
  clear T hA
  obtain ⟨vr, hvr⟩ : ∃ vr, vr = inB x l := ⟨_, rfl⟩
  rw [← hvr]
  have HV := Lib.hid hvr; clear hvr
  obtain ⟨n, hn⟩ : ∃ n, n = l.length := ⟨_, rfl⟩
  rw [← hn] at hl ⊢
  have HN := Lib.hid hn
  clear hn
  go_enter Try.func23, Try.ntmps23
  go_wp2_with fail
  generalize hgx : W.heap.size = gx at *
  go_loopw [9] (fun u9 wr => ∃ k : Nat, u9 = .int .i64 k ∧ k ≤ n ∧ (∀ j y, j < k → l[j]? = some y → eqA (IV x) (IV y) = false) ∧ Sts W (fun _ => False) wr [rowR gx (IV x)]) (fun u9 _ => n - (intOf u9).toNat)
  case atStart => exact ⟨0, rfl, by omega, fun j y hj => by omega, HT.out⟩
  case round =>
    clear HT
    obtain ⟨k, rfl, hk, hno, T1⟩ := hrel
    have HNO := Lib.hid hno; clear hno
    by_cases hkn : k < n
    · have hk1 : (k : Int) < (n : Int) := by omega
      have hk0 : (0 : Int) ≤ (k : Int) := by omega
      cases A with
      | none => have := HA.out.nil rfl; subst this; have := HN.out; simp at this; omega
      | some a =>
        have hkl : k < l.length := by rw [← HN.out]; exact hkn
        have hld := HA.out.load (P := Try.prog) (T := 35) TItem_size TItem_und rfl (by kernel_rfl) (by first | exact T1.below | (rw [hgx]; exact T1.below)) rfl hkl
        obtain ⟨y, hy⟩ : ∃ y, l[k]? = some y := ⟨l[k]'hkl, List.getElem?_eq_getElem _⟩
        have hyk : l[k] = y := by rw [List.getElem?_eq_getElem hkl] at hy; injection hy
        rw [hyk] at hld
        have HY := Lib.hid hy
        have T2 := T1.new (IV y) 35
        have rx := T2.row1; have lx := row_lt rx
        have HT2 := Lib.hid T2
        clear hy T1 T2 hyk hkl
        cases he : eqA (IV x) (IV y)
        case true =>
          have hv : vr = true := by
            have h := idx_hit HY.out he HNO.out
            rw [HV.out]
            exact decide_eq_true (by rw [h.1]; exact h.2)
          have HVV := Lib.hid hv; clear hv
          go_wp2
          go_ret
          exact ⟨by rw [HVV.out]; rfl, by first | exact HT2.out.below | (rw [← hgx]; exact HT2.out.below)⟩
        case false =>
          go_wp2
          go_roundw
          case rel => exact ⟨k + 1, by go_num, by omega, fun j z hj hz => by
            rcases Nat.lt_succ_iff_lt_or_eq.1 hj with h | h
            · exact HNO.out j z h hz
            · subst h; rw [HY.out] at hz; injection hz with hz; subst hz; exact he, HT2.out.drop⟩
          case measure => simp [intOf]; omega
    · have hk1 : ¬ (k : Int) < (n : Int) := by omega
      have HT1 := Lib.hid T1; clear T1
      have hv : vr = false := by
        have h := idx_miss (x := x) (l := l) (k := k) (by have := HN.out; omega) HNO.out
        rw [HV.out]
        exact decide_eq_false (by rw [h]; omega)
      have HVV := Lib.hid hv; clear hv
      go_wp2
      go_ret
      exact ⟨by rw [HVV.out]; rfl, by first | exact HT1.out.below | (rw [← hgx]; exact HT1.out.below)⟩
theorem docHasR (v : Value) (l : List Item) (hl : l.length ≤ 1000000) (x : Item) : Reads Try.prog 23 #[v, .agg (IV x)] [vecR 35 2 v l.length (vl IV l)] (.bool (inB x l)) := by
  intro W G hS
  have TS : Sts W G W [vecR 35 2 v l.length (vl IV l)] := Sts.start hS
  obtain ⟨A, c, rfl, hA, -, -⟩ := vec_rows TItem_size TS (by omega) (by omega)
  exact docHasIn A c l hl x W hA
set_option maxHeartbeats 2000000 in
theorem ritemLess_any (x y : Item) : Ans Try.prog 41 #[.agg (IV x), .agg (IV y)] (.bool (lessI x y)) := by
  refine Ans.of_sts fun W => ?_
  have T := ((Sts.start0 W).new (IV x) 35).new (IV y) 35
  simp only [World.size_alloc] at T
  have r2 := T.row; have l2 := row_lt r2; have c2 := row_cell r2
  have r1 := T.row1; have l1 := row_lt r1; have c1 := row_cell r1
  have HT := Lib.hid T.nil; clear T
  go_enter Try.func41, Try.ntmps41
  cases h2 : (x.num == y.num)
  case false =>
    have hv : lessI x y = decide (x.num < y.num) := by unfold lessI; simp at h2; simp [h2]
    have HV := Lib.hid hv; clear hv
    go_wp2
    go_ret
    exact ⟨by rw [HV.out]; rfl, HT.out⟩
  case true =>
    have hv : lessI x y = decide (x.rep < y.rep) := by unfold lessI; simp at h2; simp [h2]
    have HV := Lib.hid hv; clear hv
    go_wp2
    go_ret
    exact ⟨by rw [HV.out]; rfl, HT.out⟩
set_option maxHeartbeats 8000000 in
theorem docBeforeR (g : Nat) (vi vc vd : Value) (items : List Item) (calls : List Call) (dn : List Item) (hlen : items.length ≤ 1000000) (hlc : calls.length = items.length) {m : RowsMK} (hget : ∀ x, getMK m x = calls[idxN x items]?) (x y : Item) (hx : x ∈ items) (hy : y ∈ items) :
    Reads Try.prog 49 #[.pointer (some ⟨g, 0, none⟩), .agg (IV x), .agg (IV y)] (docL g vi vc vd items calls dn) (.bool (befB m x y)) := by
  intro W G hS
  have T := ((Sts.start0 W).new (IV x) 35).new (IV y) 35
  simp only [World.size_alloc] at T
  have TS : Sts W G W [rowR g (docC vi vc vd), vecR 35 2 vi items.length (vl IV items), vecR 47 14 vc calls.length (vl CV calls), vecR 35 2 vd dn.length (vl IV dn)] := Sts.start hS
  have hbW := row_lt TS.row
  have hix := idxN_lt.2 hx
  have hiy := idxN_lt.2 hy
  have hjx : idxN x items < calls.length := by omega
  have hjy : idxN y items < calls.length := by omega
  obtain ⟨gcs, cc, hvc, hgl, hcx⟩ := vec_cell TCall_size (TS.ord [2, 0, 1, 3]) (by omega) hjx
  obtain ⟨gcs2, cc2, hvc2, hgl2, hcy⟩ := vec_cell TCall_size (TS.ord [2, 0, 1, 3]) (by omega) hjy
  rw [hvc] at hvc2
  injection hvc2 with e1 e2 e3
  injection e1 with e1
  injection e1 with e1
  subst e1 e3
  subst hvc
  have hcax : getMK m x = some calls[idxN x items] := by rw [hget, List.getElem?_eq_getElem hjx]
  have hcay : getMK m y = some calls[idxN y items] := by rw [hget, List.getElem?_eq_getElem hjy]
  have HBF := Lib.hid (show befB m x y = (decide (((getMK m x).getD noCall).seq < ((getMK m y).getD noCall).seq) || ((((getMK m x).getD noCall).seq == ((getMK m y).getD noCall).seq) && lessI x y)) from rfl)
  rw [hcax, hcay] at HBF
  generalize calls[idxN x items] = ca at *
  generalize calls[idxN y items] = cb at *
  simp only [Option.getD_some] at HBF
  have hc1 := hcx 13 (.int .i64 ca.seq) rfl
  have hc2 := hcy 13 (.int .i64 cb.seq) rfl
  have hrow := TS.row
  have FS : ∀ W' R', Sts W (fun _ => False) W' (rowR W.heap.size (IV x) :: rowR (W.heap.size + 1) (IV y) :: R') → (W'.cell? ⟨g, 1, none⟩ = some (.slice (some ⟨gcs, 0, none⟩) calls.length cc) ∧ row? W' W.heap.size = some (IV x) ∧ row? W' (W.heap.size + 1) = some (IV y) ∧ W'.cell? ⟨gcs, idxN x items * 14 + 13, none⟩ = some (.int .i64 ca.seq) ∧ W'.cell? ⟨gcs, idxN y items * 14 + 13, none⟩ = some (.int .i64 cb.seq)) := fun W' R' T => by
    have r := (row_below T.below hbW).trans hrow
    exact ⟨by rw [row_cell r 1]; rfl, T.row, T.row1, (T.below.cell hgl).trans hc1, (T.below.cell hgl).trans hc2⟩
  have HFS := Lib.hid FS
  have HAX := Lib.hid (fun W' (h : Below W.heap.size W W') => (docAtR g vi (.slice (some ⟨gcs, 0, none⟩) calls.length cc) vd items calls dn hlen x).at (R := []) (TS.pure h))
  have HAY := Lib.hid (fun W' (h : Below W.heap.size W W') => (docAtR g vi (.slice (some ⟨gcs, 0, none⟩) calls.length cc) vd items calls dn hlen y).at (R := []) (TS.pure h))
  rw [show idxI x items = ((idxN x items : Nat) : Int) from by unfold idxI; rw [if_pos hix]] at HAX
  rw [show idxI y items = ((idxN y items : Nat) : Int) from by unfold idxI; rw [if_pos hiy]] at HAY
  have hgW := hbW
  generalize hg2 : W.heap.size + 1 = g2 at *
  generalize hg1 : W.heap.size = g1 at *
  generalize calls.length = nc at *
  generalize idxN x items = ix at *
  generalize idxN y items = iy at *
  have hix1 : (ix : Int) < (nc : Int) := by omega
  have hix0 : (0 : Int) ≤ (ix : Int) := by omega
  have hiy1 : (iy : Int) < (nc : Int) := by omega
  have hiy0 : (0 : Int) ≤ (iy : Int) := by omega
  have HIX := Lib.hid hix1; have HIX0 := Lib.hid hix0; have HIY := Lib.hid hiy1; have HIY0 := Lib.hid hiy0
  have HT := Lib.hid (T.ord [1, 0])
  clear T TS hS FS hcx hcy hc1 hc2 hrow hgl hgl2 hix hiy hjx hjy hget hcax hcay hbW hgW hx hy hlc hlen hix1 hix0 hiy1 hiy0
  go_enter Try.func49, Try.ntmps49
  go_upto_region 1 with fail
  generalize hw3 : (W.alloc _).alloc _ = w3 at *
  clear hw3
  have S0 := HFS.out _ _ HT.out.drew
  refine wp_region_held_drew (S := fun W' => (W'.cell? ⟨g, 1, none⟩ = some (.slice (some ⟨gcs, 0, none⟩) nc cc) ∧ row? W' g1 = some (IV x) ∧ row? W' g2 = some (IV y) ∧ W'.cell? ⟨gcs, ix * 14 + 13, none⟩ = some (.int .i64 ca.seq) ∧ W'.cell? ⟨gcs, iy * 14 + 13, none⟩ = some (.int .i64 cb.seq))) (by kernel_rfl) S0 (fun hHeld => ?_)
  clear S0
  refine tkH 0 rfl ?_
  simp only [Act.put, List.setIfInBounds_toArray, List.set_cons_zero, List.set_cons_succ]
  refine tkH 1 rfl ?_
  go_frame
  refine tkH 2 rfl ?_
  go_frame
  refine tkH 3 rfl ?_
  go_frame
  refine tkH 4 rfl ?_
  go_frame
  refine tkH 5 rfl ?_
  go_frame
  refine wpAnyH_ready (rs := [6]) (by kernel_rfl) (by simp) ?_
  refine AllReadyH.cons (o := _) rfl (fun K hK => ?_) AllReadyH.nil
  go_simp
  refine (HAX.out _ (by first | exact HT.out.drew.below | (rw [hg1]; exact HT.out.drew.below) | (rw [← hg1]; exact HT.out.drew.below))).mono ?_
  rintro e6 w6 ⟨rfl, hb⟩
  have T6 := HT.out.drew.pure hb
  clear hb HAX HT
  refine hK.out _ _ (HFS.out _ _ T6) (fun hHeld => ?_)
  clear hK K
  have HT := Lib.hid T6; clear T6
  have hix1 := HIX.out; have hix0 := HIX0.out
  refine tkH 7 rfl ?_
  simp only [Act.put, List.setIfInBounds_toArray, List.set_cons_zero, List.set_cons_succ]
  refine tkH 8 rfl ?_
  go_frame
  refine tkH 9 rfl ?_
  go_frame
  refine tkH 10 rfl ?_
  go_frame
  clear hix1 hix0
  refine wpAnyH_done (by kernel_rfl) ?_ _
  try simp only [Exit.then]
  go_upto_region 2 with fail
  have S0 := HFS.out _ _ HT.out.drew
  refine wp_region_held_drew (S := fun W' => (W'.cell? ⟨g, 1, none⟩ = some (.slice (some ⟨gcs, 0, none⟩) nc cc) ∧ row? W' g1 = some (IV x) ∧ row? W' g2 = some (IV y) ∧ W'.cell? ⟨gcs, ix * 14 + 13, none⟩ = some (.int .i64 ca.seq) ∧ W'.cell? ⟨gcs, iy * 14 + 13, none⟩ = some (.int .i64 cb.seq))) (by kernel_rfl) S0 (fun hHeld => ?_)
  clear S0
  refine tkH 0 rfl ?_
  simp only [Act.put, List.setIfInBounds_toArray, List.set_cons_zero, List.set_cons_succ]
  refine tkH 1 rfl ?_
  go_frame
  refine tkH 2 rfl ?_
  go_frame
  refine tkH 3 rfl ?_
  go_frame
  refine tkH 4 rfl ?_
  go_frame
  refine tkH 5 rfl ?_
  go_frame
  refine wpAnyH_ready (rs := [6]) (by kernel_rfl) (by simp) ?_
  refine AllReadyH.cons (o := _) rfl (fun K hK => ?_) AllReadyH.nil
  go_simp
  refine (HAY.out _ (by first | exact HT.out.drew.below | (rw [hg1]; exact HT.out.drew.below) | (rw [← hg1]; exact HT.out.drew.below))).mono ?_
  rintro e8 w8 ⟨rfl, hb⟩
  have T8 := HT.out.drew.pure hb
  clear hb HAY HT
  refine hK.out _ _ (HFS.out _ _ T8) (fun hHeld => ?_)
  clear hK K
  have HT := Lib.hid T8; clear T8
  have hiy1 := HIY.out; have hiy0 := HIY0.out
  refine tkH 7 rfl ?_
  simp only [Act.put, List.setIfInBounds_toArray, List.set_cons_zero, List.set_cons_succ]
  refine tkH 8 rfl ?_
  go_frame
  refine tkH 9 rfl ?_
  go_frame
  refine tkH 10 rfl ?_
  go_frame
  clear hiy1 hiy0
  refine wpAnyH_done (by kernel_rfl) ?_ _
  try simp only [Exit.then]
  have r1 := HT.out.row; have l1 := row_lt r1
  have r2 := HT.out.row1; have l2 := row_lt r2
  have HL := Lib.hid (ritemLess_any x y)
  cases s1 : decide (ca.seq < cb.seq)
  case true =>
    have hv : befB m x y = true := by rw [HBF.out, s1]; rfl
    have HV2 := Lib.hid hv; clear hv HBF
    go_wp2
    go_ret
    exact ⟨by rw [HV2.out]; rfl, by first | exact HT.out.below | (rw [hg1]; exact HT.out.below) | (rw [← hg1]; exact HT.out.below)⟩
  case false =>
    cases s2 : (ca.seq == cb.seq)
    case false =>
      have hv : befB m x y = false := by rw [HBF.out, s1, s2]; rfl
      have HV2 := Lib.hid hv; clear hv HBF
      go_wp2
      go_ret
      exact ⟨by rw [HV2.out]; rfl, by first | exact HT.out.below | (rw [hg1]; exact HT.out.below) | (rw [← hg1]; exact HT.out.below)⟩
    case true =>
      have hv : befB m x y = lessI x y := by rw [HBF.out, s1, s2]; rfl
      have HV2 := Lib.hid hv; clear hv HBF
      go_wp2_with fail
      refine (Ans.at HL.out HT.out).mono ?_
      clear HL HT
      rintro e w5 ⟨rfl, T⟩
      have HT := Lib.hid T; clear T
      go_wp2
      go_ret
      exact ⟨by rw [HV2.out]; rfl, by first | exact HT.out.below | (rw [hg1]; exact HT.out.below) | (rw [← hg1]; exact HT.out.below)⟩
end
end Go.Proofs.Ytnjgjhjilolanaa

namespace Go.Proofs.Ytnjgjhjilolanaa
open Go.RowKit
attribute [local go_sem] row_alloc row_drew row_drewN row_ext row_setCell row_setRow size_ext setRow_alloc setRow_drew loadOf storeOf piece_lit DV_piece loadVal_at storeVal_at allOne_lit DV_size DV_one
attribute [local go_sem high] cell_alloc frozen_alloc setCell_alloc cell_ext frozen_ext
attribute [local go_sem ↓] index_deps0 load_deps0 store_deps0
attribute [local go_sem] index_deps load_deps store_deps
def hasD (d : Nat → Int) (r n : Int) : Bool := decide (0 ≤ r ∧ r < 7 ∧ 1 ≤ n ∧ n ≤ d r.toNat)
/-! The document's Has: the same, by a loop. -/
set_option maxHeartbeats 400000 in
theorem rhas_yes (d : Nat → Int) (r n : Int) (hr0 : 0 ≤ r) (hr : r < 7) (hn : 0 < n) : 
    Ans Try.prog 48 #[.agg (DV d), .agg #[.int .i64 r, .int .i64 n]] (.bool (decide (n ≤ d r.toNat))) := by
  intro w
  obtain ⟨k, rfl⟩ := Int.eq_ofNat_of_zero_le hr0
  rw [Int.toNat_natCast]
  have hD := DV_get d k (by omega)
  generalize d k = v at *
  go_enter Try.func48, Try.ntmps48
  go_wp2
  go_loop [5] (fun i => ∃ j : Nat, j ≤ k ∧ i = .int .i64 j) (fun i => 7 - (intOf i).toNat)
  case atStart => exact ⟨0, by omega, rfl⟩
  case round =>
    obtain ⟨j, hj, rfl⟩ := hrel
    by_cases hjk : j < k
    · have hne : ((j : Int) == (k : Int)) = false := by rw [beq_eq_false_iff_ne]; omega
      go_wp2
      go_round
      case rel => exact ⟨j + 1, by omega, by go_num⟩
      case measure => simp [intOf]; omega
    · obtain rfl : j = k := by omega
      go_wp2
      go_quiet (fail)
      go_wp2
      go_ret
      exact ⟨rfl, below_drewN (((Below.refl _ _).alloc (Nat.le_refl _) _).alloc (by simp) _) _⟩
set_option maxHeartbeats 400000 in
theorem rhas_np (d : Nat → Int) (r n : Int) (hr0 : 0 ≤ r) (hr : r < 7) (hn : ¬ 0 < n) : 
    Ans Try.prog 48 #[.agg (DV d), .agg #[.int .i64 r, .int .i64 n]] (.bool false) := by
  intro w
  obtain ⟨k, rfl⟩ := Int.eq_ofNat_of_zero_le hr0
  have hn' : decide (0 < n) = false := by simpa using hn
  go_enter Try.func48, Try.ntmps48
  go_wp2
  go_loop [5] (fun i => ∃ j : Nat, j ≤ k ∧ i = .int .i64 j) (fun i => 7 - (intOf i).toNat)
  case atStart => exact ⟨0, by omega, rfl⟩
  case round =>
    obtain ⟨j, hj, rfl⟩ := hrel
    by_cases hjk : j < k
    · have hne : ((j : Int) == (k : Int)) = false := by rw [beq_eq_false_iff_ne]; omega
      go_wp2
      go_round
      case rel => exact ⟨j + 1, by omega, by go_num⟩
      case measure => simp [intOf]; omega
    · obtain rfl : j = k := by omega
      go_wp2
      go_quiet (fail)
      go_wp2
      go_ret
      exact ⟨rfl, below_drewN (((Below.refl _ _).alloc (Nat.le_refl _) _).alloc (by simp) _) _⟩
set_option maxHeartbeats 400000 in
theorem rhas_out (d : Nat → Int) (r n : Int) (hr0 : ¬ (0 ≤ r ∧ r < 7)) : 
    Ans Try.prog 48 #[.agg (DV d), .agg #[.int .i64 r, .int .i64 n]] (.bool false) := by
  intro w
  go_enter Try.func48, Try.ntmps48
  go_wp2
  go_loop [5] (fun i => ∃ j : Nat, j ≤ 7 ∧ i = .int .i64 j) (fun i => 7 - (intOf i).toNat)
  case atStart => exact ⟨0, by omega, rfl⟩
  case round =>
    obtain ⟨j, hj, rfl⟩ := hrel
    by_cases hjk : j < 7
    · have hne : ((j : Int) == r) = false := by rw [beq_eq_false_iff_ne]; omega
      go_wp2
      go_round
      case rel => exact ⟨j + 1, by omega, by go_num⟩
      case measure => simp [intOf]; omega
    · obtain rfl : j = 7 := by omega
      go_wp2
      go_ret
      exact ⟨rfl, (((Below.refl _ _).alloc (Nat.le_refl _) _).alloc (by simp) _)⟩
theorem rhas_any (d : Nat → Int) (r n : Int) : Ans Try.prog 48 #[.agg (DV d), .agg #[.int .i64 r, .int .i64 n]] (.bool (hasD d r n)) := by
  by_cases h : 0 ≤ r ∧ r < 7
  · by_cases hn : 0 < n
    · have := rhas_yes d r n h.1 h.2 hn
      rw [show hasD d r n = decide (n ≤ d r.toNat) by unfold hasD; simp [h.1, h.2]; omega]; exact this
    · have := rhas_np d r n h.1 h.2 hn
      rw [show hasD d r n = false by unfold hasD; rw [decide_eq_false_iff_not]; omega]; exact this
  · have := rhas_out d r n h
    rw [show hasD d r n = false by unfold hasD; rw [decide_eq_false_iff_not]; omega]; exact this
end Go.Proofs.Ytnjgjhjilolanaa
