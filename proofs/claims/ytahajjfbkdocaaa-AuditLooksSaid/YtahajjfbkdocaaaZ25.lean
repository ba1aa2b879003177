/- Several texts in one. -/
import Derived.Test.YtahajjfbkdocaaaZ23
import Derived.Test.YtahajjfbkdocaaaZ21
/- Layer 24, the plain law: what the dumps tell is the document's answer. -/
namespace Go.Proofs.Ytahajjfbkdocaaa
set_option linter.unusedVariables false
def mkRow (i : Nat) (e : Entry) : RRow := ⟨i, e.item, e.inst⟩
def rowsFrom : Nat → List Dump → List RRow
  | _, [] => []
  | i, d :: ds => d.l.map (mkRow i) ++ rowsFrom (i + 1) ds
/-- Each row, and whether it is taken; pre: the rows ahead. -/
noncomputable def mkL (n : Int) : List RRow → List RRow → List (Int × Bool × Entry)
  | _, [] => []
  | pre, r :: rs => (r.rep, (goodI r.item n && firstB pre r), ⟨r.item, r.inst⟩) :: mkL n (pre ++ [r]) rs
theorem item_of_eq {x y : Item} (h : eqA (IV x) (IV y) = true) : x = y := by
  have h1 := eqA_iff.1 h
  obtain ⟨a, b⟩ := x
  obtain ⟨c, d⟩ := y
  unfold IV at h1
  simp at h1
  obtain ⟨rfl, rfl⟩ := h1
  rfl
theorem goodI_7 {x : Item} {n : Int} (hn : n ≤ 7) (h : goodI x n = true) : goodI x 7 = true := by
  unfold goodI at *
  rw [decide_eq_true_iff] at *
  omega
/-- What has been seen of this dump. -/
def SeenIs (n : Int) (i : Nat) (f : Seen) (pre : List RRow) : Prop := ∀ x, (f x).isSome = true ↔ ∃ a ∈ pre, a.rep = (i : Int) ∧ a.item = x ∧ goodI x n = true
theorem taken_iff (n : Int) (hn : n ≤ 7) (i : Nat) (f : Seen) (pre : List RRow) (e : Entry) (h : SeenIs n i f pre) : (goodI e.item n && firstB pre (mkRow i e)) = !((f e.item).isSome || !goodI e.item n) := by
  cases hg : goodI e.item n
  · simp
  · have h1 : firstB pre (mkRow i e) = !(f e.item).isSome := by
      unfold firstB
      congr 1
      rw [Bool.eq_iff_iff, h e.item, List.any_eq_true]
      constructor
      · rintro ⟨a, ha, hs⟩
        unfold sameRow at hs
        rw [Bool.and_eq_true, Bool.and_eq_true] at hs
        obtain ⟨⟨s1, s2⟩, -⟩ := hs
        exact ⟨a, ha, by simpa [mkRow] using s1, item_of_eq s2, hg⟩
      · rintro ⟨a, ha, s1, s2, -⟩
        refine ⟨a, ha, ?_⟩
        unfold sameRow
        rw [Bool.and_eq_true, Bool.and_eq_true]
        refine ⟨⟨by simpa [mkRow] using s1, ?_⟩, ?_⟩
        · rw [s2]; exact eqA_refl _
        · rw [s2]; exact goodI_7 hn hg
    rw [h1]
    simp
theorem SeenIs.next (n : Int) (hn : n ≤ 7) (i : Nat) (f : Seen) (pre : List RRow) (e : Entry) (h : SeenIs n i f pre) :
    SeenIs n i (if ((f e.item).isSome || !goodI e.item n) = true then f else putF f e.item ()) (pre ++ [mkRow i e]) := by
  intro x
  by_cases hb : ((f e.item).isSome || !goodI e.item n) = true
  · rw [if_pos hb, h x]
    constructor
    · rintro ⟨a, ha, h3⟩
      exact ⟨a, List.mem_append_left _ ha, h3⟩
    · rintro ⟨a, ha, h3, h4, h5⟩
      rcases List.mem_append.1 ha with ha | ha
      · exact ⟨a, ha, h3, h4, h5⟩
      · rw [List.mem_singleton.1 ha] at h4
        have h4 : e.item = x := h4
        subst h4
        rw [h5] at hb
        simp only [Bool.not_true, Bool.or_false] at hb
        exact (h e.item).1 hb
  · rw [if_neg hb]
    by_cases hx : x = e.item
    · subst hx
      rw [putF_same]
      have hg : goodI e.item n = true := by
        cases hq : goodI e.item n
        · rw [hq] at hb; simp at hb
        · rfl
      exact ⟨fun _ => ⟨mkRow i e, List.mem_append_right _ (List.mem_singleton.2 rfl), rfl, rfl, hg⟩, fun _ => rfl⟩
    · rw [putF_other _ _ hx, h x]
      constructor
      · rintro ⟨a, ha, h3⟩
        exact ⟨a, List.mem_append_left _ ha, h3⟩
      · rintro ⟨a, ha, h3, h4, h5⟩
        rcases List.mem_append.1 ha with ha | ha
        · exact ⟨a, ha, h3, h4, h5⟩
        · rw [List.mem_singleton.1 ha] at h4
          exact absurd h4.symm hx
theorem marks_mkL (n : Int) (hn : n ≤ 7) (i : Nat) (rest : List RRow) : ∀ (l : List Entry) (f : Seen) (pre : List RRow), SeenIs n i f pre →
    mkL n pre (l.map (mkRow i) ++ rest) = ((marks n f l).map fun x => ((i : Int), x)) ++ mkL n (pre ++ l.map (mkRow i)) rest
  | [], f, pre, _ => by
    rw [List.map_nil, List.append_nil]; rfl
  | e :: l, f, pre, h => by
    have h1 := taken_iff n hn i f pre e h
    have h2 := marks_mkL n hn i rest l _ _ (h.next n hn i f pre e)
    rw [List.map_cons, List.cons_append]
    unfold marks
    show ((mkRow i e).rep, _, _) :: mkL n (pre ++ [mkRow i e]) (l.map (mkRow i) ++ rest) = _
    rw [h2]
    show ((i : Int), (goodI e.item n && firstB pre (mkRow i e)), e) :: _ = _
    rw [h1]
    by_cases hb : ((f e.item).isSome || !goodI e.item n) = true
    · rw [if_pos hb, if_pos hb, hb, List.map_cons, List.cons_append, List.append_assoc]
      rfl
    · rw [if_neg hb, if_neg hb, List.map_cons, List.cons_append, List.append_assoc]
      rw [Bool.not_eq_true] at hb
      rw [hb]
      rfl
theorem flatM_mkL (n : Int) (hn : n ≤ 7) : ∀ (ds : List Dump) (i : Nat) (pre : List RRow), (∀ a ∈ pre, a.rep < (i : Int)) → flatM n i ds = mkL n pre (rowsFrom i ds)
  | [], _, _, _ => rfl
  | d :: ds, i, pre, h => by
    show _ ++ flatM n (i + 1) ds = mkL n pre (d.l.map (mkRow i) ++ rowsFrom (i + 1) ds)
    rw [marks_mkL n hn i _ d.l (fun _ => none) pre (fun x => Iff.intro (fun h0 => by cases h0) (fun ⟨a, ha, h3, _⟩ => by have := h a ha; omega))]
    rw [flatM_mkL n hn ds (i + 1) (pre ++ d.l.map (mkRow i)) fun a ha => ?_]
    rcases List.mem_append.1 ha with ha | ha
    · have := h a ha; omega
    · obtain ⟨e, -, rfl⟩ := List.mem_map.1 ha
      show (i : Int) < _
      omega
theorem told_rows (n : Int) (hn : n ≤ 7) (ds : List Dump) : toldM n ds = (mkL n [] (rowsFrom 0 ds)).foldl mstep (rep0 n) := by
  unfold toldM
  rw [flatM_mkL n hn ds 0 [] fun a ha => by cases ha]
def itemAt (l : List RRow) (i : Nat) : Item := match l[i]? with | none => noItem | some r => r.item
def callAt (l : List RRow) (i : Nat) : Call := match l[i]? with | none => noCall | some r => r.inst.call
def conv (f : Finding) : RFinding := ⟨f.kind, f.rep, f.item⟩
structure InvL (l : List RRow) (n : Int) (k : Nat) (s : Rep) (q : ROut) : Prop where
  num : s.n = n
  list : s.list.map conv = q.1
  order : s.order = q.2.map (itemAt l)
  calls : ∀ x, s.calls x = ((List.range k).find? (hitB l x n)).map (callAt l)
  lead : ∀ i ∈ q.2, s.calls (itemAt l i) = some (callAt l i)
  lt : ∀ i ∈ q.2, i < l.length
theorem InvL.tell {l : List RRow} {n : Int} {k : Nat} {s : Rep} {q : ROut} (h : InvL l n k s q) (f : Int) (rep : Int) (x : Item) : InvL l n k (tellM s f rep x) (q.1 ++ [⟨f, rep, x⟩], q.2) :=
  ⟨h.num, by show (s.list ++ _).map conv = _; rw [List.map_append, h.list]; rfl, h.order, h.calls, h.lead, h.lt⟩
theorem InvL.skip {l : List RRow} {n : Int} {k : Nat} {s : Rep} {q : ROut} (h : InvL l n k s q) (hh : ∀ x, hitB l x n k = false) : InvL l n (k + 1) s q :=
  ⟨h.num, h.list, h.order, fun x => by rw [List.range_succ, List.find?_append, h.calls x]; simp [hh x], h.lead, h.lt⟩
theorem find_lt {p : Nat → Bool} {k i : Nat} (h : (List.range k).find? p = some i) : i < k := List.mem_range.1 (List.mem_of_find?_eq_some h)
theorem find_more {p : Nat → Bool} {k m i : Nat} (h : (List.range k).find? p = some i) (hm : k ≤ m) : (List.range m).find? p = some i := by
  rw [show m = k + (m - k) from by omega, List.range_add, List.find?_append, h]; rfl
theorem find_here {p : Nat → Bool} {k m : Nat} (h : (List.range k).find? p = none) (hp : p k = true) (hm : k < m) : (List.range m).find? p = some k := by
  rw [show m = k + 1 + (m - (k + 1)) from by omega, List.range_add, List.find?_append, List.range_succ, List.find?_append, h]
  simp [hp]
theorem InvL.row {l : List RRow} {n : Int} {k : Nat} {s : Rep} {q : ROut} (h : InvL l n k s q) {r : RRow} (hr : l[k]? = some r) :
    InvL l n (k + 1) (mstep s (r.rep, (goodI r.item n && firstB (l.take k) r), ⟨r.item, r.inst⟩)) (rrow l n k r q) := by
  have hkl : k < l.length := (List.getElem?_eq_some_iff.1 hr).1
  have hhit : ∀ x, hitB l x n k = (eqA (IV r.item) (IV x) && r.inst.status == 3 && (goodI r.item n && firstB (l.take k) r && goodN r.inst n)) := by
    intro x; unfold hitB; rw [hr]; rfl
  unfold rrow mstep
  cases hok : (goodI r.item n && firstB (l.take k) r)
  · have hb : (!goodI r.item n || !firstB (l.take k) r) = true := by rw [← Bool.not_and, hok]; rfl
    rw [if_pos hb, if_neg (by simp)]
    exact (h.tell 1 r.rep r.item).skip fun x => by rw [hhit x, hok]; simp
  · have hb : ¬(!goodI r.item n || !firstB (l.take k) r) = true := by rw [← Bool.not_and, hok]; simp
    rw [if_neg hb, if_pos rfl]
    unfold entryM
    dsimp only
    rw [h.num]
    cases hgn : goodN r.inst n
    · rw [if_pos rfl, if_pos rfl]
      exact (h.tell 2 r.rep r.item).skip fun x => by rw [hhit x, hgn]; simp
    · rw [if_neg (by simp : ¬ (true = false)), if_neg (by simp : ¬ (true = false))]
      have key : ∀ (s1 : Rep) (q1 : ROut), InvL l n k s1 q1 → InvL l n (k + 1) (if (r.inst.status == 3) = true then markM s1 r.rep ⟨r.item, r.inst⟩ else s1) (if (r.inst.status == 3) = true then rmark l n k r q1 else q1) := by
        intro s1 q1 h1
        cases hs3 : (r.inst.status == 3)
        · rw [if_neg (by simp), if_neg (by simp)]
          exact h1.skip fun x => by rw [hhit x, hs3]; simp
        · rw [if_pos rfl, if_pos rfl]
          have hk : hitB l r.item n k = true := by rw [hhit, hs3, hok, hgn, eqA_refl]; rfl
          have hcal : callAt l k = r.inst.call := by unfold callAt; rw [hr]
          have hitm : itemAt l k = r.item := by unfold itemAt; rw [hr]
          unfold markM rmark leadI
          dsimp only
          cases hf : (List.range k).find? (hitB l r.item n) with
          | none =>
            have e1 : s1.calls r.item = none := by rw [h1.calls, hf]; rfl
            rw [e1, find_here hf hk hkl]
            dsimp only
            rw [hr]
            dsimp only
            rw [eqA_refl, if_pos rfl, if_pos rfl]
            refine ⟨h1.num, h1.list, ?_, fun x => ?_, fun i hi => ?_, fun i hi => ?_⟩
            · show s1.order ++ [r.item] = _
              rw [h1.order, List.map_append, List.map_singleton, hitm]
            · show putF s1.calls r.item r.inst.call x = _
              by_cases hx : x = r.item
              · subst hx
                rw [putF_same, find_here hf hk (Nat.lt_succ_self k), Option.map_some, hcal]
              · rw [putF_other _ _ hx, h1.calls x, List.range_succ, List.find?_append]
                have : hitB l x n k = false := by
                  rw [hhit x]
                  cases he : eqA (IV r.item) (IV x)
                  · rfl
                  · exact absurd (item_of_eq he).symm hx
                simp [this]
            · show putF s1.calls r.item r.inst.call (itemAt l i) = _
              rcases List.mem_append.1 hi with hi | hi
              · have h2 := h1.lead i hi
                rw [putF_other _ _ (fun e => by rw [e, e1] at h2; cases h2)]
                exact h2
              · rw [List.mem_singleton.1 hi, hitm, putF_same, hcal]
            · rcases List.mem_append.1 hi with hi | hi
              · exact h1.lt i hi
              · rw [List.mem_singleton.1 hi]; exact hkl
          | some kk =>
            have hkk := find_lt hf
            have e1 : s1.calls r.item = some (callAt l kk) := by rw [h1.calls, hf]; rfl
            rw [e1, find_more hf (by omega)]
            dsimp only
            have hlk : l[kk]? = some l[kk] := List.getElem?_eq_getElem (by omega)
            have hck : callAt l kk = l[kk].inst.call := by unfold callAt; rw [hlk]
            rw [hlk, hck]
            dsimp only
            rw [if_neg (by omega : ¬ kk = k)]
            have hcalls : ∀ x, ((List.range (k + 1)).find? (hitB l x n)).map (callAt l) = ((List.range k).find? (hitB l x n)).map (callAt l) := by
              intro x
              rw [List.range_succ, List.find?_append]
              by_cases hx : x = r.item
              · subst hx; rw [hf]; rfl
              · have : hitB l x n k = false := by
                  rw [hhit x]
                  cases he : eqA (IV r.item) (IV x)
                  · rfl
                  · exact absurd (item_of_eq he).symm hx
                simp [this]
            split
            · exact ⟨h1.num, h1.list, h1.order, fun x => by rw [hcalls x]; exact h1.calls x, h1.lead, h1.lt⟩
            · have h2 := h1.tell 4 r.rep r.item
              exact ⟨h2.num, h2.list, h2.order, fun x => by rw [hcalls x]; exact h2.calls x, h2.lead, h2.lt⟩
      refine key (if lessBal r.inst.prom r.inst.vote = true then tellM s 3 r.rep r.item else s) (if lessBal r.inst.prom r.inst.vote = true then (q.1 ++ [⟨3, r.rep, r.item⟩], q.2) else q) ?_
      split
      · exact h.tell 3 r.rep r.item
      · exact h
theorem InvL.rows {l : List RRow} {n : Int} : ∀ (rs pre : List RRow) (s : Rep) (q : ROut), l = pre ++ rs → InvL l n pre.length s q → InvL l n l.length ((mkL n pre rs).foldl mstep s) ((List.range' pre.length rs.length).foldl (rstep l n) q)
  | [], pre, s, q, hl, h => by
    rw [List.append_nil] at hl
    subst hl
    exact h
  | r :: rs, pre, s, q, hl, h => by
    have hr : l[pre.length]? = some r := by rw [hl, List.getElem?_append_right (Nat.le_refl _), Nat.sub_self]; rfl
    have ht : l.take pre.length = pre := by rw [hl, List.take_left]
    have h1 := h.row hr
    rw [ht] at h1
    have e1 : rstep l n q pre.length = rrow l n pre.length r q := by unfold rstep; rw [hr]
    have h2 := InvL.rows (l := l) (n := n) rs (pre ++ [r]) _ _ (by rw [hl, List.append_assoc]; rfl) (by rw [List.length_append, List.length_singleton]; exact h1)
    rw [List.length_append, List.length_singleton] at h2
    rw [List.length_cons, List.range'_succ, List.foldl_cons, e1]
    exact h2
theorem tieS_conv (l : List RRow) (f : Item → Option Call) (a : Nat) (ld : List Nat) (i : Nat) (hi : ld[a]? = some i) (hl : ∀ j ∈ ld, j < l.length) (hc : ∀ j ∈ ld, f (itemAt l j) = some (callAt l j)) : ∀ (b : Nat), b ≤ a → ∀ (q : List RFinding),
    (List.range b).foldl (rtie l ld a) q = q ++ (((ld.map (itemAt l)).take b).flatMap fun y => if tieB f (itemAt l i) y = true then [⟨5, y.rep, y⟩] else []).map conv
  | 0, _, q => by simp
  | b + 1, hb, q => by
    have hia : a < ld.length := (List.getElem?_eq_some_iff.1 hi).1
    have hbl : b < ld.length := by omega
    have hj : ld[b]? = some ld[b] := List.getElem?_eq_getElem hbl
    have him : i ∈ ld := List.mem_of_getElem? hi
    have hjm : ld[b] ∈ ld := List.getElem_mem hbl
    rw [List.range_succ, List.foldl_append, tieS_conv l f a ld i hi hl hc b (by omega) q]
    have hil := hl i him
    have hjl := hl _ hjm
    have hxi : l[i]? = some l[i] := List.getElem?_eq_getElem hil
    have hxj : l[ld[b]]? = some l[ld[b]] := List.getElem?_eq_getElem hjl
    have e2 : (ld.map (itemAt l)).take (b + 1) = (ld.map (itemAt l)).take b ++ [itemAt l ld[b]] := by
      rw [List.take_add_one, List.getElem?_map, hj]; rfl
    rw [e2, List.flatMap_append, List.map_append, ← List.append_assoc]
    show rtie l ld a _ b = _
    unfold rtie
    rw [hi, hj]
    dsimp only
    rw [hxi, hxj]
    dsimp only
    have e3 : itemAt l i = l[i].item := by unfold itemAt; rw [hxi]
    have e4 : itemAt l ld[b] = l[ld[b]].item := by unfold itemAt; rw [hxj]
    have e5 : callOf f (itemAt l i) = l[i].inst.call := by unfold callOf; rw [hc i him]; show callAt l i = _; unfold callAt; rw [hxi]
    have e6 : callOf f (itemAt l ld[b]) = l[ld[b]].inst.call := by unfold callOf; rw [hc _ hjm]; show callAt l ld[b] = _; unfold callAt; rw [hxj]
    have e7 : rtieB l[i] l[ld[b]] = tieB f (itemAt l i) (itemAt l ld[b]) := by
      unfold rtieB tieB
      rw [e5, e6, e3, e4]
    rw [e7]
    generalize itemAt l i = xi at *
    rw [← e4]
    simp only [List.flatMap_cons, List.flatMap_nil, List.append_nil]
    split
    · rfl
    · simp
theorem ties_conv (l : List RRow) (f : Item → Option Call) (ld : List Nat) (hl : ∀ j ∈ ld, j < l.length) (hc : ∀ j ∈ ld, f (itemAt l j) = some (callAt l j)) : ∀ (a : Nat), a ≤ ld.length → ∀ (q : List RFinding),
    (List.range a).foldl (fun o a => (List.range a).foldl (rtie l ld a) o) q = q ++ ((List.range a).flatMap (tieL f (ld.map (itemAt l)))).map conv
  | 0, _, q => by simp
  | a + 1, ha, q => by
    have hi : ld[a]? = some ld[a] := List.getElem?_eq_getElem (by omega)
    rw [List.range_succ, List.foldl_append, ties_conv l f ld hl hc a (by omega) q, List.flatMap_append, List.map_append, ← List.append_assoc]
    show (List.range a).foldl (rtie l ld a) _ = _
    rw [tieS_conv l f a ld _ hi hl hc a (Nat.le_refl _)]
    congr 1
    unfold tieL
    simp only [List.flatMap_cons, List.flatMap_nil, List.append_nil]
    rw [List.getElem?_map, hi]
    rfl
/-- What the dumps tell is the document's answer. -/
theorem look_same (n : Int) (hn : n ≤ 7) (ds : List Dump) : rlookM (rowsFrom 0 ds) n = (lookM n ds).list.map conv := by
  have h := InvL.rows (l := rowsFrom 0 ds) (n := n) (rowsFrom 0 ds) [] (rep0 n) ([], []) rfl ⟨rfl, rfl, rfl, fun x => rfl, fun i hi => (by cases hi), fun i hi => (by cases hi)⟩
  rw [← told_rows n hn ds] at h
  rw [List.length_nil, ← List.range_eq_range'] at h
  have hq : (List.range (rowsFrom 0 ds).length).foldl (rstep (rowsFrom 0 ds) n) ([], []) = rrows (rowsFrom 0 ds) n := rfl
  rw [hq] at h
  rw [lookM_told, tiesM_list, List.map_append, h.list]
  unfold rlookM
  rw [ties_conv (rowsFrom 0 ds) (toldM n ds).calls _ h.lt h.lead _ (Nat.le_refl _)]
  unfold tiesL
  rw [h.order, List.length_map]
end Go.Proofs.Ytahajjfbkdocaaa
