/- Several texts in one. -/
import Derived.Test.YtnjgjhjilolanaaH19
/- Layer 18, plain: a search's parts are what reaches one another, each behind all that it reaches. No walk stands here. -/
namespace Go.Proofs.Ytnjgjhjilolanaa
open Go.RowKit
set_option linter.unusedVariables false
/-- From one item to another one, over what is waited for. -/
inductive Rch (m : RowsMK) (q : RowsML) : Item → Item → Prop
  | refl (x : Item) : Rch m q x x
  | step {x y z : Item} : Rch m q x y → z ∈ waitsM m q y → Rch m q x z
/-- One stands just ahead of the other one. -/
def Adj (l : List Item) (u v : Item) : Prop := ∃ a c, l = a ++ u :: v :: c
section
variable {m : RowsMK} {q : RowsML} {its : List Item} {S : WS} {ps : List Item} {x : Item}
theorem Rch.trans {a b c : Item} (h1 : Rch m q a b) (h2 : Rch m q b c) : Rch m q a c := by
  induction h2 with
  | refl => exact h1
  | step _ h ih => exact .step ih h
theorem Rch.one {a b : Item} (h : b ∈ waitsM m q a) : Rch m q a b := .step (.refl a) h
theorem itemsTo_zero : ∀ r, itemsTo (fun _ => 0) r = []
  | 0 => rfl
  | r + 1 => by rw [itemsTo, itemsTo_zero r]; rfl
theorem waits_none {y : Item} (h : (getMK m y).isSome = false) : waitsM m q y = [] := by
  unfold waitsM
  cases hc : getMK m y with
  | some c => rw [hc] at h; cases h
  | none =>
    have : itemsL noCall.deps = [] := itemsTo_zero 7
    rw [Option.getD_none, this]
    rfl
theorem Rch.dead {y z : Item} (h : Rch m q y z) (hy : (getMK m y).isSome = false) : z = y := by
  induction h with
  | refl => rfl
  | step _ h ih => rw [ih, waits_none hy] at h; simp at h
/-- What is closed but for what isn't committed. -/
theorem Rch.closed {L : List Item} (hc : ∀ v ∈ L, ∀ z ∈ waitsM m q v, z ∈ L ∨ (getMK m z).isSome = false) {u v : Item} (h : Rch m q u v) (hu : u ∈ L) : v ∈ L ∨ (getMK m v).isSome = false := by
  induction h with
  | refl => exact .inl hu
  | step _ h ih =>
    rcases ih with h1 | h1
    · exact hc _ h1 _ h
    · rw [waits_none h1] at h; simp at h
structure TInv (m : RowsMK) (q : RowsML) (S : WS) (ps : List Item) : Prop where
  at_ : ∀ y ∈ ps, valN S.ix y = (idxN y ps : Int)
  srt : S.st.Pairwise (fun u v => valN S.ix u < valN S.ix v)
  lle : ∀ y ∈ S.st, valN S.lo y ≤ valN S.ix y
  los : ∀ y ∈ S.st, ∃ u ∈ S.st, valN S.lo y = valN S.ix u ∧ Rch m q y u
  nf : ∀ v ∈ S.st, v ∉ S.fr.map (·.1) → valN S.lo v < valN S.ix v ∧ ∃ f ∈ S.fr.map (·.1), valN S.ix f < valN S.ix v ∧ (∀ g ∈ S.fr.map (·.1), valN S.ix g < valN S.ix v → valN S.ix g ≤ valN S.ix f) ∧ valN S.lo f ≤ valN S.lo v ∧ Rch m q f v
  ch : (S.fr.map (·.1)).Pairwise (fun f g => Rch m q f g)
  edg : ∀ v ∈ S.st, ∀ z ∈ waitsM m q v, z ∈ S.pa.flatten ∨ (z ∈ S.st ∧ valN S.lo v ≤ valN S.ix z) ∨ (getMK m z).isSome = false ∨ (∃ f ∈ S.fr, f.1 = v ∧ z ∈ f.2) ∨ Adj (S.fr.map (·.1)) v z
  clo : ∀ v ∈ S.pa.flatten, ∀ z ∈ waitsM m q v, z ∈ S.pa.flatten ∨ (getMK m z).isSome = false
  scc : ∀ p ∈ S.pa, ∀ u ∈ p, ∀ v ∈ p, Rch m q u v
  ord : S.pa.Pairwise (fun p p' => ∀ u ∈ p, ∀ v ∈ p', ¬ Rch m q u v)
  frs : (S.fr.map (·.1)).Sublist S.st
  nod : (S.pa.flatten ++ S.st).Nodup
  com : ∀ y ∈ S.st, (getMK m y).isSome = true
  onB : ∀ y ∈ ps, valB S.on y = true ↔ y ∈ S.st
  mem : ∀ y, y ∈ ps ↔ y ∈ S.pa.flatten ∨ y ∈ S.st
  srp : ∀ p ∈ S.pa, ∃ l, p = sortM m l
theorem pw_inj {l : List Item} {f : Item → Int} (h : l.Pairwise (fun u v => f u < f v)) {a b : Item} (ha : a ∈ l) (hb : b ∈ l) (e : f a = f b) : a = b := by
  induction l with
  | nil => simp at ha
  | cons c t ih =>
    rw [List.pairwise_cons] at h
    rcases List.mem_cons.1 ha with ha2 | ha2 <;> rcases List.mem_cons.1 hb with hb2 | hb2
    · rw [ha2, hb2]
    · subst ha2; have := h.1 b hb2; omega
    · subst hb2; have := h.1 a ha2; omega
    · exact ih h.2 ha2 hb2
/-- A low turns. -/
theorem TInv.setLo (h : TInv m q S ps) {u w : Item} {v : Int} (hu : u ∈ S.fr.map (·.1)) (hv : v ≤ valN S.lo u) (hw : w ∈ S.st) (hvw : v = valN S.ix w) (hr : Rch m q u w) : TInv m q { S with lo := putF S.lo u v } ps := by
  have hle : ∀ y, valN (putF S.lo u v) y ≤ valN S.lo y := fun y => by
    rcases valN_put S.lo u v y with ⟨e, rfl⟩ | ⟨e, _⟩ <;> rw [e]
    · exact hv
    · exact Int.le_refl _
  exact {
    at_ := h.at_
    srt := h.srt
    lle := fun y hy => Int.le_trans (hle y) (h.lle y hy)
    los := fun y hy => by
      show ∃ u' ∈ S.st, valN (putF S.lo u v) y = valN S.ix u' ∧ Rch m q y u'
      rcases valN_put S.lo u v y with ⟨e, rfl⟩ | ⟨e, _⟩ <;> rw [e]
      · exact ⟨w, hw, hvw, hr⟩
      · exact h.los y hy
    nf := fun y hy hn => by
      show valN (putF S.lo u v) y < valN S.ix y ∧ ∃ f ∈ S.fr.map (·.1), valN S.ix f < valN S.ix y ∧ (∀ g ∈ S.fr.map (·.1), valN S.ix g < valN S.ix y → valN S.ix g ≤ valN S.ix f) ∧ valN (putF S.lo u v) f ≤ valN (putF S.lo u v) y ∧ Rch m q f y
      obtain ⟨h1, f, h2, h3, h4, h5, h6⟩ := h.nf y hy hn
      have hyu : valN (putF S.lo u v) y = valN S.lo y := by
        rcases valN_put S.lo u v y with ⟨_, rfl⟩ | ⟨e, _⟩
        · exact absurd hu hn
        · exact e
      exact ⟨by rw [hyu]; exact h1, f, h2, h3, h4, by rw [hyu]; exact Int.le_trans (hle f) h5, h6⟩
    ch := h.ch
    edg := fun y hy z hz => by
      rcases h.edg y hy z hz with h1 | ⟨h1, h2⟩ | h1 | h1 | h1
      · exact .inl h1
      · exact .inr (.inl ⟨h1, Int.le_trans (hle y) h2⟩)
      · exact .inr (.inr (.inl h1))
      · exact .inr (.inr (.inr (.inl h1)))
      · exact .inr (.inr (.inr (.inr h1)))
    clo := h.clo
    scc := h.scc
    ord := h.ord
    frs := h.frs
    nod := h.nod
    com := h.com
    onB := h.onB
    mem := h.mem
    srp := h.srp }
/-- What is left of a frame is less by one. -/
theorem TInv.cut (h : TInv m q S ps) {frs : List (Item × List Item)} {z y : Item} {l : List Item} (hf : S.fr = frs ++ [(z, y :: l)]) (mi : List Item)
    (hy : y ∈ S.pa.flatten ∨ (y ∈ S.st ∧ valN S.lo z ≤ valN S.ix y) ∨ (getMK m y).isSome = false) : TInv m q { S with fr := frs ++ [(z, l)], mi := mi } ps := by
  have hmap : (frs ++ [(z, l)]).map (·.1) = S.fr.map (·.1) := by rw [hf]; simp
  exact {
    at_ := h.at_
    srt := h.srt
    lle := h.lle
    los := h.los
    nf := by
      show ∀ v ∈ S.st, v ∉ (frs ++ [(z, l)]).map (·.1) → valN S.lo v < valN S.ix v ∧ ∃ f ∈ (frs ++ [(z, l)]).map (·.1), valN S.ix f < valN S.ix v ∧ (∀ g ∈ (frs ++ [(z, l)]).map (·.1), valN S.ix g < valN S.ix v → valN S.ix g ≤ valN S.ix f) ∧ valN S.lo f ≤ valN S.lo v ∧ Rch m q f v
      rw [hmap]; exact h.nf
    ch := by
      show ((frs ++ [(z, l)]).map (·.1)).Pairwise _
      rw [hmap]; exact h.ch
    edg := fun v hv w hw => by
      show w ∈ S.pa.flatten ∨ (w ∈ S.st ∧ valN S.lo v ≤ valN S.ix w) ∨ (getMK m w).isSome = false ∨ (∃ f ∈ frs ++ [(z, l)], f.1 = v ∧ w ∈ f.2) ∨ Adj ((frs ++ [(z, l)]).map (·.1)) v w
      rw [hmap]
      rcases h.edg v hv w hw with h1 | h1 | h1 | ⟨f, h1, h2, h3⟩ | h1
      · exact .inl h1
      · exact .inr (.inl h1)
      · exact .inr (.inr (.inl h1))
      · rw [hf] at h1
        rcases List.mem_append.1 h1 with h4 | h4
        · exact .inr (.inr (.inr (.inl ⟨f, by simp [h4], h2, h3⟩)))
        · simp at h4
          subst h4
          dsimp only at h2 h3
          subst h2
          rcases List.mem_cons.1 h3 with rfl | h3
          · rcases hy with h5 | h5 | h5
            · exact .inl h5
            · exact .inr (.inl h5)
            · exact .inr (.inr (.inl h5))
          · exact .inr (.inr (.inr (.inl ⟨(z, l), by simp, rfl, h3⟩)))
      · exact .inr (.inr (.inr (.inr h1)))
    clo := h.clo
    scc := h.scc
    ord := h.ord
    frs := by
      show ((frs ++ [(z, l)]).map (·.1)).Sublist S.st
      rw [hmap]; exact h.frs
    nod := h.nod
    com := h.com
    onB := h.onB
    mem := h.mem
    srp := h.srp }
theorem Adj.more {l : List Item} {u v : Item} (h : Adj l u v) (k : List Item) : Adj (l ++ k) u v := by
  obtain ⟨a, c, rfl⟩ := h
  exact ⟨a, c ++ k, by simp⟩
/-- An item more is gone over. -/
theorem TInv.push (h : TInv m q S ps) {frs : List (Item × List Item)} {z y : Item} {l : List Item} (hci : S.ci = ps.length) (hf : S.fr = frs ++ [(z, y :: l)]) (hzy : y ∈ waitsM m q z) (hc : (getMK m y).isSome = true) (hn : y ∉ ps) :
    TInv m q (pushM m q y { S with fr := frs ++ [(z, l)] }) (ps ++ [y]) := by
  have hns : y ∉ S.st := fun hc => hn ((h.mem y).2 (.inr hc))
  have hnp : y ∉ S.pa.flatten := fun hc => hn ((h.mem y).2 (.inl hc))
  have hmap : (frs ++ [(z, l)]).map (·.1) = S.fr.map (·.1) := by rw [hf]; simp
  have hix : ∀ u, u ∈ ps → valN (putF S.ix y S.ci) u = valN S.ix u := fun u hu => by
    rcases valN_put S.ix y S.ci u with ⟨_, rfl⟩ | ⟨e, _⟩
    · exact absurd hu hn
    · exact e
  have hixy : valN (putF S.ix y (S.ci : Int)) y = S.ci := by unfold valN; rw [putF_same]; rfl
  have hlo : ∀ u, u ∈ ps → valN (putF S.lo y S.ci) u = valN S.lo u := fun u hu => by
    rcases valN_put S.lo y S.ci u with ⟨_, rfl⟩ | ⟨e, _⟩
    · exact absurd hu hn
    · exact e
  have hloy : valN (putF S.lo y (S.ci : Int)) y = S.ci := by unfold valN; rw [putF_same]; rfl
  have hsp : ∀ u ∈ S.st, u ∈ ps := fun u hu => (h.mem u).2 (.inr hu)
  have hlt : ∀ u ∈ ps, valN S.ix u < S.ci := fun u hu => by
    rw [h.at_ u hu, hci]
    have := idxN_lt.2 hu
    omega
  have hfs : ∀ f ∈ S.fr.map (·.1), f ∈ S.st := fun f hf => h.frs.subset hf
  have hfr : (pushM m q y { S with fr := frs ++ [(z, l)] }).fr.map (·.1) = S.fr.map (·.1) ++ [y] := by
    show ((frs ++ [(z, l)]) ++ [(y, waitsM m q y)]).map (·.1) = _
    rw [List.map_append, hmap]
    rfl
  exact {
    at_ := fun u hu => by
      show valN (putF S.ix y S.ci) u = _
      rcases List.mem_append.1 hu with hu | hu
      · rw [hix u hu, h.at_ u hu, idxN_in hu]
      · simp at hu; subst hu
        rw [hixy, idxN_same hn, hci]
    srt := by
      show (S.st ++ [y]).Pairwise (fun u v => valN (putF S.ix y S.ci) u < valN (putF S.ix y S.ci) v)
      rw [List.pairwise_append]
      refine ⟨h.srt.imp_of_mem fun {a b} ha hb hab => ?_, by simp, fun a ha b hb => ?_⟩
      · rw [hix a (hsp a ha), hix b (hsp b hb)]; exact hab
      · simp at hb; subst hb
        rw [hix a (hsp a ha), hixy]; exact hlt a (hsp a ha)
    lle := fun u hu => by
      show valN (putF S.lo y S.ci) u ≤ valN (putF S.ix y S.ci) u
      rcases List.mem_append.1 (show u ∈ S.st ++ [y] from hu) with hu | hu
      · rw [hix u (hsp u hu), hlo u (hsp u hu)]; exact h.lle u hu
      · simp at hu; subst hu; rw [hixy, hloy]; exact Int.le_refl _
    los := fun u hu => by
      show ∃ v ∈ S.st ++ [y], valN (putF S.lo y S.ci) u = valN (putF S.ix y S.ci) v ∧ Rch m q u v
      rcases List.mem_append.1 (show u ∈ S.st ++ [y] from hu) with hu | hu
      · obtain ⟨v, h1, h2, h3⟩ := h.los u hu
        exact ⟨v, by simp [h1], by rw [hlo u (hsp u hu), hix v (hsp v h1)]; exact h2, h3⟩
      · simp at hu; subst hu; exact ⟨u, by simp, by rw [hixy, hloy], .refl u⟩
    nf := fun v hv hnv => by
      rw [hfr] at hnv ⊢
      show valN (putF S.lo y S.ci) v < valN (putF S.ix y S.ci) v ∧ ∃ f ∈ S.fr.map (·.1) ++ [y], valN (putF S.ix y S.ci) f < valN (putF S.ix y S.ci) v ∧ (∀ g ∈ S.fr.map (·.1) ++ [y], valN (putF S.ix y S.ci) g < valN (putF S.ix y S.ci) v → valN (putF S.ix y S.ci) g ≤ valN (putF S.ix y S.ci) f) ∧ valN (putF S.lo y S.ci) f ≤ valN (putF S.lo y S.ci) v ∧ Rch m q f v
      rcases List.mem_append.1 (show v ∈ S.st ++ [y] from hv) with hv | hv
      · have hvp := hsp v hv
        obtain ⟨h1, f, h2, h3, h4, h5, h6⟩ := h.nf v hv (fun hc => hnv (by simp only [List.mem_append]; exact .inl hc))
        have hfp := hsp f (hfs f h2)
        refine ⟨by rw [hlo v hvp, hix v hvp]; exact h1, f, List.mem_append.2 (.inl h2), by rw [hix f hfp, hix v hvp]; exact h3, fun g hg hgv => ?_, by rw [hlo f hfp, hlo v hvp]; exact h5, h6⟩
        rcases List.mem_append.1 hg with hg | hg
        · have hgp := hsp g (hfs g hg)
          rw [hix g hgp, hix v hvp] at hgv
          rw [hix g hgp, hix f hfp]
          exact h4 g hg hgv
        · simp at hg; subst hg
          rw [hixy, hix v hvp] at hgv
          have := hlt v hvp
          omega
      · simp at hv; subst hv
        exact absurd (List.mem_append.2 (.inr (by simp))) hnv
    ch := by
      rw [hfr, List.pairwise_append]
      refine ⟨h.ch, by simp, fun a ha b hb => ?_⟩
      simp at hb; subst hb
      have hmz : S.fr.map (·.1) = frs.map (·.1) ++ [z] := by rw [hf]; simp
      have hch := h.ch
      rw [hmz] at ha hch
      rw [List.pairwise_append] at hch
      rcases List.mem_append.1 ha with ha | ha
      · exact (hch.2.2 a ha z (by simp)).trans (.one hzy)
      · simp at ha; subst ha; exact .one hzy
    edg := fun v hv w hw => by
      rw [hfr]
      show w ∈ S.pa.flatten ∨ (w ∈ S.st ++ [y] ∧ valN (putF S.lo y S.ci) v ≤ valN (putF S.ix y S.ci) w) ∨ (getMK m w).isSome = false ∨ (∃ f ∈ (frs ++ [(z, l)]) ++ [(y, waitsM m q y)], f.1 = v ∧ w ∈ f.2) ∨ Adj (S.fr.map (·.1) ++ [y]) v w
      rcases List.mem_append.1 (show v ∈ S.st ++ [y] from hv) with hv | hv
      · rcases h.edg v hv w hw with h1 | ⟨h1, h2⟩ | h1 | ⟨f, h1, h2, h3⟩ | h1
        · exact .inl h1
        · exact .inr (.inl ⟨by simp [h1], by rw [hlo v (hsp v hv), hix w (hsp w h1)]; exact h2⟩)
        · exact .inr (.inr (.inl h1))
        · rw [hf] at h1
          rcases List.mem_append.1 h1 with h4 | h4
          · exact .inr (.inr (.inr (.inl ⟨f, by simp [h4], h2, h3⟩)))
          · simp at h4
            subst h4
            dsimp only at h2 h3
            subst h2
            rcases List.mem_cons.1 h3 with rfl | h3
            · refine .inr (.inr (.inr (.inr ⟨frs.map (·.1), [], ?_⟩)))
              rw [hf]; simp
            · exact .inr (.inr (.inr (.inl ⟨(z, l), by simp, rfl, h3⟩)))
        · exact .inr (.inr (.inr (.inr (h1.more _))))
      · simp at hv; subst hv
        exact .inr (.inr (.inr (.inl ⟨(v, waitsM m q v), by simp, rfl, hw⟩)))
    clo := h.clo
    scc := h.scc
    ord := h.ord
    frs := by
      rw [hfr]
      exact h.frs.append (List.Sublist.refl _)
    nod := by
      show (S.pa.flatten ++ (S.st ++ [y])).Nodup
      rw [← List.append_assoc, List.nodup_append]
      refine ⟨h.nod, by simp, fun a ha b hb => ?_⟩
      simp at hb; subst hb
      rintro rfl
      rcases List.mem_append.1 ha with ha | ha
      · exact hnp ha
      · exact hns ha
    com := fun u hu => by
      rcases List.mem_append.1 (show u ∈ S.st ++ [y] from hu) with hu | hu
      · exact h.com u hu
      · simp at hu; subst hu; exact hc
    onB := fun u hu => by
      show valB (putF S.on y true) u = true ↔ u ∈ S.st ++ [y]
      rcases List.mem_append.1 hu with hu | hu
      · have hne : u ≠ y := fun e => hn (e ▸ hu)
        have : valB (putF S.on y true) u = valB S.on u := by unfold valB; rw [putF_other S.on true hne]
        rw [this, h.onB u hu]
        simp [hne]
      · simp at hu; subst hu
        have : valB (putF S.on u true) u = true := by unfold valB; rw [putF_same]; rfl
        rw [this]; simp
    mem := fun u => by
      show u ∈ ps ++ [y] ↔ u ∈ S.pa.flatten ∨ u ∈ S.st ++ [y]
      rw [List.mem_append, List.mem_append, h.mem u, or_assoc]
    srp := h.srp }
theorem TInv.split (h : TInv m q S ps) {y : Item} (hy : y ∈ S.st) : ∃ a c, S.st = a ++ y :: c ∧ S.st.take (idxN y S.st) = a ∧ S.st.drop (idxN y S.st) = y :: c ∧ (∀ v ∈ a, valN S.ix v < valN S.ix y) ∧ ∀ v ∈ c, valN S.ix y < valN S.ix v := by
  obtain ⟨a, c, hs⟩ := List.append_of_mem hy
  have hsrt := h.srt
  rw [hs, List.pairwise_append, List.pairwise_cons] at hsrt
  have h1 : ∀ v ∈ a, valN S.ix v < valN S.ix y := fun v hv => hsrt.2.2 v hv y (by simp)
  have hya : y ∉ a := fun hc => by have := h1 y hc; omega
  have hid : idxN y S.st = a.length := by rw [hs]; exact idxN_split hya
  exact ⟨a, c, hs, by rw [hid, hs, List.take_left], by rw [hid, hs, List.drop_left], h1, hsrt.2.1.1⟩
theorem TInv.frLt (h : TInv m q S ps) {frs : List (Item × List Item)} {y : Item} {l : List Item} (hf : S.fr = frs ++ [(y, l)]) : (∀ g ∈ frs.map (·.1), valN S.ix g < valN S.ix y) ∧ y ∈ S.st ∧ (∀ g ∈ frs.map (·.1), Rch m q g y) ∧ S.fr.map (·.1) = frs.map (·.1) ++ [y] := by
  have hm : S.fr.map (·.1) = frs.map (·.1) ++ [y] := by rw [hf]; simp
  have h1 := h.srt.sublist h.frs
  have h2 := h.ch
  have h3 := h.frs
  rw [hm] at h1 h2 h3
  rw [List.pairwise_append] at h1 h2
  exact ⟨fun g hg => h1.2.2 g hg y (by simp), h3.subset (by simp), fun g hg => h2.2.2 g hg y (by simp), hm⟩
/-- What stands above the last frame's item is reached by it, with no lesser low. -/
theorem TInv.topLo (h : TInv m q S ps) {frs : List (Item × List Item)} {y : Item} {l : List Item} (hf : S.fr = frs ++ [(y, l)]) : ∀ v ∈ S.st, valN S.ix y ≤ valN S.ix v → valN S.lo y ≤ valN S.lo v ∧ Rch m q y v := by
  obtain ⟨h1, h2, h3, hm⟩ := h.frLt hf
  intro v hv hle
  by_cases e : v = y
  · subst e; exact ⟨Int.le_refl _, .refl v⟩
  · have hlt : valN S.ix y < valN S.ix v := by
      have : valN S.ix y ≠ valN S.ix v := fun e2 => e (pw_inj h.srt hv h2 e2.symm)
      omega
    have hnf : v ∉ S.fr.map (·.1) := by
      rw [hm]
      intro hc
      rcases List.mem_append.1 hc with hc | hc
      · have := h1 v hc; omega
      · simp at hc; exact e hc
    obtain ⟨-, f, g1, g2, g3, g4, g5⟩ := h.nf v hv hnf
    have hyf := g3 y (by rw [hm]; simp) hlt
    rw [hm] at g1
    rcases List.mem_append.1 g1 with g1 | g1
    · have := h1 f g1; omega
    · simp at g1; subst g1; exact ⟨g4, g5⟩
/-- All that stands on the stack reaches the last frame's item. -/
theorem TInv.up (h : TInv m q S ps) {frs : List (Item × List Item)} {y : Item} {l : List Item} (hf : S.fr = frs ++ [(y, l)]) : ∀ v ∈ S.st, Rch m q v y := by
  obtain ⟨h1, h2, h3, hm⟩ := h.frLt hf
  have key : ∀ (n : Nat) v, v ∈ S.st → idxN v ps = n → Rch m q v y := by
    intro n
    induction n using Nat.strongRecOn with
    | ind n ih =>
      intro v hv hn
      by_cases hvf : v ∈ S.fr.map (·.1)
      · rw [hm] at hvf
        rcases List.mem_append.1 hvf with hc | hc
        · exact h3 v hc
        · simp at hc; subst hc; exact .refl v
      · obtain ⟨g1, -⟩ := h.nf v hv hvf
        obtain ⟨u, u1, u2, u3⟩ := h.los v hv
        have hvp := (h.mem v).2 (.inr hv)
        have hup := (h.mem u).2 (.inr u1)
        have a1 := h.at_ v hvp
        have a2 := h.at_ u hup
        exact u3.trans (ih (idxN u ps) (by omega) u u1 rfl)
  exact fun v hv => key _ v hv rfl
theorem valB_off : ∀ (l : List Item) (f : Item → Option Bool) (u : Item), (u ∈ l → valB (offM l f) u = false) ∧ (u ∉ l → valB (offM l f) u = valB f u)
  | [], f, u => ⟨by simp, fun _ => rfl⟩
  | a :: l, f, u => by
    have ih := valB_off l (putF f a false) u
    show (_ → valB (offM l (putF f a false)) u = false) ∧ (_ → valB (offM l (putF f a false)) u = valB f u)
    by_cases hl : u ∈ l
    · exact ⟨fun _ => ih.1 hl, fun hn => absurd (List.mem_cons.2 (.inr hl)) hn⟩
    · rw [ih.2 hl]
      by_cases e : u = a
      · subst e
        have : valB (putF f u false) u = false := by unfold valB; rw [putF_same]; rfl
        exact ⟨fun _ => this, fun hn => absurd (List.mem_cons.2 (.inl rfl)) hn⟩
      · have : valB (putF f a false) u = valB f u := by unfold valB; rw [putF_other f false e]
        exact ⟨fun hc => (List.mem_cons.1 hc).elim (fun hc => absurd hc e) (fun hc => absurd hc hl), fun _ => this⟩
theorem Adj.snoc {l : List Item} {y u v : Item} (h : Adj (l ++ [y]) u v) : (v = y ∧ ∃ a, l = a ++ [u]) ∨ Adj l u v := by
  obtain ⟨a, c, hc⟩ := h
  rcases List.eq_nil_or_concat c with rfl | ⟨c', z, rfl⟩
  · have : l ++ [y] = (a ++ [u]) ++ [v] := by rw [hc]; simp
    obtain ⟨h1, h2⟩ := snoc_inj this
    exact .inl ⟨h2.symm, a, h1⟩
  · have : l ++ [y] = (a ++ u :: v :: c') ++ [z] := by rw [hc]; simp
    obtain ⟨h1, h2⟩ := snoc_inj this
    exact .inr ⟨a, c', h1⟩
/-- What is left behind the last frame's item, if it goes no further down. -/
theorem TInv.edges (h : TInv m q S ps) {frs : List (Item × List Item)} {y : Item} (hf : S.fr = frs ++ [(y, [])]) (hlo : valN S.lo y = valN S.ix y) : ∀ v ∈ S.st, valN S.ix y ≤ valN S.ix v → ∀ z ∈ waitsM m q v, z ∈ S.pa.flatten ∨ (z ∈ S.st ∧ valN S.ix y ≤ valN S.ix z) ∨ (getMK m z).isSome = false := by
  obtain ⟨h1, h2, h3, hm⟩ := h.frLt hf
  intro v hv hle z hz
  have hlv := (h.topLo hf v hv hle).1
  rcases h.edg v hv z hz with e | ⟨e1, e2⟩ | e | ⟨f, e1, e2, e3⟩ | e
  · exact .inl e
  · exact .inr (.inl ⟨e1, by omega⟩)
  · exact .inr (.inr e)
  · rw [hf] at e1
    rcases List.mem_append.1 e1 with e1 | e1
    · have := h1 f.1 (List.mem_map_of_mem e1)
      rw [e2] at this; omega
    · simp at e1; subst e1; simp at e3
  · rw [hm] at e
    rcases e.snoc with ⟨rfl, a, ha⟩ | ⟨a, c, ha⟩
    · have := h1 v (by rw [ha]; simp); omega
    · have := h1 v (by rw [ha]; simp); omega
theorem filter_lt {a c : List Item} {y : Item} {f : Item → Int} (h1 : ∀ v ∈ a, f v < f y) (h2 : ∀ v ∈ c, f y < f v) : (a ++ y :: c).filter (fun v => decide (f v < f y)) = a := by
  rw [List.filter_append, List.filter_cons]
  have e1 : a.filter (fun v => decide (f v < f y)) = a := List.filter_eq_self.2 fun v hv => decide_eq_true (h1 v hv)
  have e2 : c.filter (fun v => decide (f v < f y)) = [] := List.filter_eq_nil_iff.2 fun v hv => by have := h2 v hv; simp; omega
  rw [e1, e2]
  simp
/-- A part is told. -/
theorem TInv.part (h : TInv m q S ps) {frs : List (Item × List Item)} {y : Item} (hf : S.fr = frs ++ [(y, [])]) (hlo : valN S.lo y = valN S.ix y) : TInv m q (partM m y { S with fr := frs }) ps := by
  obtain ⟨h1, h2, h3, hm⟩ := h.frLt hf
  obtain ⟨a, c, hs, ht, hd, ha, hc⟩ := h.split h2
  have hin : ∀ v ∈ S.st, valN S.ix v < valN S.ix y → v ∈ a := fun v hv hlt => by
    rw [hs] at hv
    rcases List.mem_append.1 hv with hv | hv
    · exact hv
    · rcases List.mem_cons.1 hv with rfl | hv
      · omega
      · have := hc v hv; omega
  have hin2 : ∀ v ∈ S.st, valN S.ix y ≤ valN S.ix v → v ∈ y :: c := fun v hv hle => by
    rw [hs] at hv
    rcases List.mem_append.1 hv with hv | hv
    · have := ha v hv; omega
    · exact hv
  have hout : ∀ v ∈ y :: c, v ∈ S.st ∧ valN S.ix y ≤ valN S.ix v := fun v hv => by
    refine ⟨by rw [hs]; exact List.mem_append.2 (.inr hv), ?_⟩
    rcases List.mem_cons.1 hv with rfl | hv
    · exact Int.le_refl _
    · have := hc v hv; omega
  have hast : ∀ v ∈ a, v ∈ S.st := fun v hv => by rw [hs]; exact List.mem_append.2 (.inl hv)
  have hfl : ∀ v, v ∈ (S.pa ++ [sortM m (y :: c)]).flatten ↔ v ∈ S.pa.flatten ∨ v ∈ y :: c := fun v => by
    rw [List.flatten_append, List.flatten_singleton, List.mem_append, (sortM_perm m (y :: c)).mem_iff]
  have hclo : ∀ v ∈ (S.pa ++ [sortM m (y :: c)]).flatten, ∀ z ∈ waitsM m q v, z ∈ (S.pa ++ [sortM m (y :: c)]).flatten ∨ (getMK m z).isSome = false := fun v hv z hz => by
    rw [hfl]
    rcases (hfl v).1 hv with hv | hv
    · rcases h.clo v hv z hz with e | e
      · exact .inl (.inl e)
      · exact .inr e
    · obtain ⟨g1, g2⟩ := hout v hv
      rcases h.edges hf hlo v g1 g2 z hz with e | ⟨e1, e2⟩ | e
      · exact .inl (.inl e)
      · exact .inl (.inr (hin2 z e1 e2))
      · exact .inr e
  have hnod := h.nod
  rw [List.nodup_append] at hnod
  unfold partM
  dsimp only
  rw [ht, hd]
  exact {
    at_ := h.at_
    srt := by
      have := h.srt
      rw [hs, List.pairwise_append] at this
      exact this.1
    lle := fun v hv => h.lle v (hast v hv)
    los := fun v hv => by
      obtain ⟨u, u1, u2, u3⟩ := h.los v (hast v hv)
      have g1 := h.lle v (hast v hv)
      have g2 := ha v hv
      exact ⟨u, hin u u1 (by omega), u2, u3⟩
    nf := fun v hv hn => by
      have hvy := ha v hv
      have hn2 : v ∉ S.fr.map (·.1) := by
        rw [hm]
        intro hc2
        rcases List.mem_append.1 hc2 with hc2 | hc2
        · exact hn hc2
        · simp at hc2; subst hc2; omega
      obtain ⟨g0, f, g1, g2, g3, g4, g5⟩ := h.nf v (hast v hv) hn2
      refine ⟨g0, f, ?_, g2, fun g hg => g3 g (by rw [hm]; exact List.mem_append.2 (.inl hg)), g4, g5⟩
      rw [hm] at g1
      rcases List.mem_append.1 g1 with g1 | g1
      · exact g1
      · simp at g1; subst g1; omega
    ch := by
      have := h.ch
      rw [hm, List.pairwise_append] at this
      exact this.1
    edg := fun v hv z hz => by
      have hvy := ha v hv
      rw [hfl]
      rcases h.edg v (hast v hv) z hz with e | ⟨e1, e2⟩ | e | ⟨f, e1, e2, e3⟩ | e
      · exact .inl (.inl e)
      · by_cases hzy : valN S.ix z < valN S.ix y
        · exact .inr (.inl ⟨hin z e1 hzy, e2⟩)
        · exact .inl (.inr (hin2 z e1 (by omega)))
      · exact .inr (.inr (.inl e))
      · rw [hf] at e1
        rcases List.mem_append.1 e1 with e1 | e1
        · exact .inr (.inr (.inr (.inl ⟨f, e1, e2, e3⟩)))
        · simp at e1; subst e1; simp at e3
      · rw [hm] at e
        rcases e.snoc with ⟨rfl, -⟩ | e
        · exact .inl (.inr (by simp))
        · exact .inr (.inr (.inr (.inr e)))
    clo := hclo
    scc := fun p hp u hu v hv => by
      rcases List.mem_append.1 (show p ∈ S.pa ++ [sortM m (y :: c)] from hp) with hp | hp
      · exact h.scc p hp u hu v hv
      · simp only [List.mem_singleton] at hp
        subst hp
        have hu := hout u ((sortM_perm m _).mem_iff.1 hu)
        have hv := hout v ((sortM_perm m _).mem_iff.1 hv)
        exact (h.up hf u hu.1).trans (h.topLo hf v hv.1 hv.2).2
    ord := by
      show (S.pa ++ [sortM m (y :: c)]).Pairwise _
      rw [List.pairwise_append]
      refine ⟨h.ord, by simp, fun p hp p' hp' u hu v hv hr => ?_⟩
      simp only [List.mem_singleton] at hp'
      subst hp'
      have hv := hout v ((sortM_perm m _).mem_iff.1 hv)
      rcases hr.closed h.clo (List.mem_flatten.2 ⟨p, hp, hu⟩) with e | e
      · exact hnod.2.2 v e v hv.1 rfl
      · rw [h.com v hv.1] at e; cases e
    frs := by
      show (frs.map (·.1)).Sublist a
      have h4 := h.frs
      rw [hm] at h4
      have h5 := ((List.sublist_append_left _ _).trans h4).filter (fun v => decide (valN S.ix v < valN S.ix y))
      rw [hs, filter_lt ha hc, List.filter_eq_self.2 fun v hv => decide_eq_true (h1 v hv)] at h5
      exact h5
    nod := by
      show ((S.pa ++ [sortM m (y :: c)]).flatten ++ a).Nodup
      have := part_perm m S.pa S.st (idxN y S.st)
      rw [ht, hd] at this
      exact this.nodup_iff.2 h.nod
    com := fun v hv => h.com v (hast v hv)
    onB := fun v hv => by
      show valB (offM (y :: c) S.on) v = true ↔ v ∈ a
      by_cases hvc : v ∈ y :: c
      · rw [(valB_off (y :: c) S.on v).1 hvc]
        have := hout v hvc
        exact ⟨fun e => (by cases e), fun e => by have := ha v e; omega⟩
      · rw [(valB_off (y :: c) S.on v).2 hvc, h.onB v hv, hs, List.mem_append]
        exact ⟨fun e => e.elim id fun e => absurd e hvc, .inl⟩
    mem := fun v => by
      show v ∈ ps ↔ v ∈ (S.pa ++ [sortM m (y :: c)]).flatten ∨ v ∈ a
      rw [hfl, h.mem v, hs, List.mem_append, or_assoc]
      exact ⟨fun e => e.elim .inl fun e => .inr e.symm, fun e => e.elim .inl fun e => .inr e.symm⟩
    srp := fun p hp => by
      rcases List.mem_append.1 (show p ∈ S.pa ++ [sortM m (y :: c)] from hp) with hp | hp
      · exact h.srp p hp
      · simp only [List.mem_singleton] at hp
        exact ⟨_, hp⟩ }
/-- A frame goes, its item stays on the stack. -/
theorem TInv.retire (h : TInv m q S ps) {fs : List (Item × List Item)} {u : Item × List Item} {y : Item} (hf : S.fr = (fs ++ [u]) ++ [(y, [])]) (hlo : valN S.lo y < valN S.ix y) (hu : valN S.lo u.1 ≤ valN S.lo y) : TInv m q { S with fr := fs ++ [u] } ps := by
  obtain ⟨h1, h2, h3, hm⟩ := h.frLt hf
  have hmu : (fs ++ [u]).map (·.1) = fs.map (·.1) ++ [u.1] := by simp
  have hsr := h.srt.sublist h.frs
  rw [hm, hmu, List.pairwise_append] at hsr
  have hsr2 := hsr.1
  rw [List.pairwise_append] at hsr2
  have hul : ∀ g ∈ (fs ++ [u]).map (·.1), valN S.ix g ≤ valN S.ix u.1 := fun g hg => by
    rw [hmu] at hg
    rcases List.mem_append.1 hg with hg | hg
    · exact Int.le_of_lt (hsr2.2.2 g hg u.1 (by simp))
    · simp at hg; subst hg; exact Int.le_refl _
  have hum : u.1 ∈ (fs ++ [u]).map (·.1) := by simp
  have huy := h1 u.1 hum
  have hry := h3 u.1 hum
  exact {
    at_ := h.at_
    srt := h.srt
    lle := h.lle
    los := h.los
    nf := fun v hv hn => by
      by_cases e : v = y
      · subst e
        exact ⟨hlo, u.1, hum, huy, fun g hg _ => hul g hg, hu, hry⟩
      · have hn2 : v ∉ S.fr.map (·.1) := by
          rw [hm]
          intro hc2
          rcases List.mem_append.1 hc2 with hc2 | hc2
          · exact hn hc2
          · simp at hc2; exact e hc2
        obtain ⟨g0, f, g1, g2, g3, g4, g5⟩ := h.nf v hv hn2
        rw [hm] at g1
        rcases List.mem_append.1 g1 with g1 | g1
        · exact ⟨g0, f, g1, g2, fun g hg => g3 g (by rw [hm]; exact List.mem_append.2 (.inl hg)), g4, g5⟩
        · simp at g1; subst g1
          exact ⟨g0, u.1, hum, Int.lt_trans huy g2, fun g hg _ => hul g hg, Int.le_trans hu g4, hry.trans g5⟩
    ch := by
      have := h.ch
      rw [hm, List.pairwise_append] at this
      exact this.1
    edg := fun v hv z hz => by
      rcases h.edg v hv z hz with e | e | e | ⟨f, e1, e2, e3⟩ | e
      · exact .inl e
      · exact .inr (.inl e)
      · exact .inr (.inr (.inl e))
      · rw [hf] at e1
        rcases List.mem_append.1 e1 with e1 | e1
        · exact .inr (.inr (.inr (.inl ⟨f, e1, e2, e3⟩)))
        · simp at e1; subst e1; simp at e3
      · rw [hm] at e
        rcases e.snoc with ⟨rfl, a, ha⟩ | e
        · rw [hmu] at ha
          obtain ⟨-, e2⟩ := snoc_inj ha
          subst e2
          exact .inr (.inl ⟨h2, Int.le_trans hu (h.lle z h2)⟩)
        · exact .inr (.inr (.inr (.inr e)))
    clo := h.clo
    scc := h.scc
    ord := h.ord
    frs := by
      have := h.frs
      rw [hm] at this
      exact (List.sublist_append_left _ _).trans this
    nod := h.nod
    com := h.com
    onB := h.onB
    mem := h.mem
    srp := h.srp }
/-- What one step back does. -/
theorem TInv.pop (h : TInv m q S ps) (hD : DInv m q x S ps) {frs : List (Item × List Item)} {y : Item} (hf : S.fr = frs ++ [(y, [])]) : TInv m q (popM m S frs y) ps ∧
    (((∃ C : List Item, C.Nodup ∧ (popM m S frs y).pa = S.pa ++ [sortM m C] ∧ ∀ v, v ∈ C ↔ Rch m q y v ∧ Rch m q v y) ∧ ∀ v ∈ ps, Rch m q y v → Rch m q v y → idxN y ps ≤ idxN v ps) ∨ ((popM m S frs y).pa = S.pa ∧ ∃ v ∈ ps, Rch m q y v ∧ Rch m q v y ∧ idxN v ps < idxN y ps)) := by
  have hf0 := h.frLt hf
  -- the low of the frame below is told
  have key : ∃ S1 : WS, TInv m q S1 ps ∧ S1.fr = S.fr ∧ S1.pa = S.pa ∧ S1.ix = S.ix ∧ S1.st = S.st ∧ S1 = { S with lo := upM S.lo frs y } ∧ valN S1.lo y = valN S.lo y ∧ (∀ fs u, frs = fs ++ [u] → valN S1.lo u.1 ≤ valN S1.lo y) := by
    rcases List.eq_nil_or_concat frs with rfl | ⟨fs, u, rfl⟩
    · exact ⟨S, h, rfl, rfl, rfl, rfl, by rw [upM_nil], rfl, fun fs u e => by simp at e⟩
    · rw [List.concat_eq_append] at hf hf0 ⊢
      rw [upM_snoc]
      obtain ⟨h1, h2, h3, hm⟩ := hf0
      have hum : u.1 ∈ (fs ++ [u]).map (·.1) := by simp
      have huf : u.1 ∈ S.fr.map (·.1) := by rw [hm]; exact List.mem_append.2 (.inl hum)
      have hus : u.1 ∈ S.st := h.frs.subset huf
      have huy := h1 u.1 hum
      have hne : u.1 ≠ y := fun e => by rw [e] at huy; omega
      have hly : valN (putF S.lo u.1 (min (valN S.lo u.1) (valN S.lo y))) y = valN S.lo y := by
        rcases valN_put S.lo u.1 (min (valN S.lo u.1) (valN S.lo y)) y with ⟨_, e⟩ | ⟨e, _⟩
        · exact absurd e.symm hne
        · exact e
      have hlu : valN (putF S.lo u.1 (min (valN S.lo u.1) (valN S.lo y))) u.1 = min (valN S.lo u.1) (valN S.lo y) := by
        unfold valN; rw [putF_same]; rfl
      have hw : ∃ w ∈ S.st, min (valN S.lo u.1) (valN S.lo y) = valN S.ix w ∧ Rch m q u.1 w := by
        by_cases hc : valN S.lo u.1 ≤ valN S.lo y
        · obtain ⟨w, w1, w2, w3⟩ := h.los u.1 hus
          exact ⟨w, w1, by omega, w3⟩
        · obtain ⟨w, w1, w2, w3⟩ := h.los y h2
          exact ⟨w, w1, by omega, (h3 u.1 hum).trans w3⟩
      obtain ⟨w, w1, w2, w3⟩ := hw
      refine ⟨_, h.setLo huf (by omega) w1 w2 w3, rfl, rfl, rfl, rfl, rfl, hly, fun fs' u' e => ?_⟩
      obtain ⟨-, rfl⟩ := snoc_inj e
      show valN (putF S.lo u.1 _) u.1 ≤ valN (putF S.lo u.1 _) y
      rw [hlu, hly]
      omega
  obtain ⟨S1, hT, e1, e2, e3, e4, e5, e6, e7⟩ := key
  have hyst := hf0.2.1
  have hyp := (h.mem y).2 (.inr hyst)
  have hf1 : S1.fr = frs ++ [(y, [])] := e1.trans hf
  unfold popM
  have hlo1 : upM S.lo frs y = S1.lo := by rw [e5]
  rw [hlo1]
  split
  · rename_i hc
    rw [← e3] at hc
    have hP := hT.part hf1 hc
    have hS : partM m y { S with fr := frs, lo := S1.lo } = partM m y { S1 with fr := frs } := by rw [e5]
    rw [hS]
    refine ⟨hP, .inl ⟨⟨S1.st.drop (idxN y S1.st), ?_, by rw [← e2]; rfl, ?_⟩, ?_⟩⟩
    · exact (List.nodup_append.1 hT.nod).2.1.sublist (List.drop_sublist _ _)
    · obtain ⟨a, c, hs, ht, hd, ha, hcc⟩ := hT.split (e4 ▸ hyst)
      rw [hd]
      have hPc := hP.clo
      have hPs : (partM m y { S1 with fr := frs }).pa = S1.pa ++ [sortM m (y :: c)] := by
        unfold partM
        dsimp only
        rw [hd]
      rw [hPs] at hPc
      intro v
      constructor
      · intro hv
        have hv2 : v ∈ S1.st ∧ valN S1.ix y ≤ valN S1.ix v := by
          refine ⟨by rw [hs]; exact List.mem_append.2 (.inr hv), ?_⟩
          rcases List.mem_cons.1 hv with rfl | hv
          · exact Int.le_refl _
          · have := hcc v hv; omega
        exact ⟨(hT.topLo hf1 v hv2.1 hv2.2).2, hT.up hf1 v hv2.1⟩
      · rintro ⟨r1, r2⟩
        have hyin : y ∈ (S1.pa ++ [sortM m (y :: c)]).flatten := by
          rw [List.flatten_append, List.flatten_singleton]
          exact List.mem_append.2 (.inr ((sortM_perm m _).mem_iff.2 (by simp)))
        have hyc := hT.com y (e4 ▸ hyst)
        rcases r1.closed hPc hyin with e | e
        · rw [List.flatten_append, List.flatten_singleton] at e
          rcases List.mem_append.1 e with e | e
          · exfalso
            rcases r2.closed hT.clo e with e | e
            · exact (List.nodup_append.1 hT.nod).2.2 y e y (e4 ▸ hyst) rfl
            · rw [hyc] at e; cases e
          · exact (sortM_perm m _).mem_iff.1 e
        · exfalso
          have := r2.dead e
          rw [← this, hyc] at e; cases e
    · intro v hv r1 r2
      have hyin : y ∈ (partM m y { S1 with fr := frs }).pa.flatten ∨ True := .inr trivial
      by_cases hvs : v ∈ S1.st
      · -- on the stack, above
        have hE := hT.edges hf1 hc
        have a1 := hT.at_ y hyp
        have a2 := hT.at_ v hv
        by_cases hle : valN S1.ix y ≤ valN S1.ix v
        · omega
        · exfalso
          -- from y only what stands above is reached, or what was told, or isn't committed
          have hcl : ∀ z, Rch m q y z → (z ∈ S1.st ∧ valN S1.ix y ≤ valN S1.ix z) ∨ z ∈ S1.pa.flatten ∨ (getMK m z).isSome = false := by
            intro z hz
            induction hz with
            | refl => exact .inl ⟨e4 ▸ hyst, Int.le_refl _⟩
            | step _ hz ih =>
              rcases ih with ⟨i1, i2⟩ | i | i
              · rcases hE _ i1 i2 _ hz with j | j | j
                · exact .inr (.inl j)
                · exact .inl j
                · exact .inr (.inr j)
              · rcases hT.clo _ i _ hz with j | j
                · exact .inr (.inl j)
                · exact .inr (.inr j)
              · rw [waits_none i] at hz; simp at hz
          rcases hcl v r1 with ⟨_, j⟩ | j | j
          · exact hle j
          · exact (List.nodup_append.1 hT.nod).2.2 v j v hvs rfl
          · rw [hT.com v hvs] at j; cases j
      · exfalso
        have hvp : v ∈ S1.pa.flatten := ((hT.mem v).1 hv).resolve_right hvs
        rcases r2.closed hT.clo hvp with e | e
        · exact (List.nodup_append.1 hT.nod).2.2 y e y (e4 ▸ hyst) rfl
        · rw [hT.com y (e4 ▸ hyst)] at e; cases e
  · rename_i hc
    rw [← e3] at hc
    have hlt : valN S1.lo y < valN S1.ix y := by
      have := hT.lle y (e4 ▸ hyst)
      omega
    rcases List.eq_nil_or_concat frs with hnil | ⟨fs, u, hfs⟩
    · exfalso
      have hyx : y = x := hD.head (y, []) [] (by rw [hf, hnil]; rfl)
      rw [hyx] at e6 hlt
      rw [e6, hD.lox, e3, hD.ixx] at hlt
      omega
    · rw [List.concat_eq_append] at hfs
      subst hfs
      have hR := hT.retire hf1 hlt (e7 fs u rfl)
      have hS : ({ S with fr := fs ++ [u], lo := S1.lo } : WS) = { S1 with fr := fs ++ [u] } := by rw [e5]
      rw [hS]
      refine ⟨hR, .inr ⟨e2, ?_⟩⟩
      obtain ⟨w, w1, w2, w3⟩ := hT.los y (e4 ▸ hyst)
      have hwp := (hT.mem w).2 (.inr w1)
      have a1 := hT.at_ y hyp
      have a2 := hT.at_ w hwp
      exact ⟨w, hwp, w3, hT.up hf1 w w1, by omega⟩
/-- What one step on does. -/
theorem TInv.next (h : TInv m q S ps) (hW : WInv m q its S ps) {frs : List (Item × List Item)} {z y : Item} {l : List Item} (hf : S.fr = frs ++ [(z, y :: l)]) (hzy : y ∈ waitsM m q z) :
    ((getMK m y).isSome = false ∧ TInv m q (nextM m q S frs z y l) ps ∨ y ∈ ps ∧ TInv m q (nextM m q S frs z y l) ps) ∧ (nextM m q S frs z y l).pa = S.pa ∧ (nextM m q S frs z y l).fr = frs ++ [(z, l)] ∨
    (getMK m y).isSome = true ∧ y ∉ ps ∧ TInv m q (nextM m q S frs z y l) (ps ++ [y]) ∧ nextM m q S frs z y l = pushM m q y { S with fr := frs ++ [(z, l)] } := by
  obtain ⟨h1, h2, h3, hm⟩ := h.frLt hf
  unfold nextM
  dsimp only
  split
  · rename_i hyc
    cases hix : S.ix y with
    | none =>
      have hn : y ∉ ps := fun hc => by rw [← hW.ix, hix] at hc; simp at hc
      exact .inr ⟨hyc, hn, h.push hW.ci hf hzy hyc hn, rfl⟩
    | some at_ =>
      have hyp : y ∈ ps := by rw [← hW.ix, hix]; rfl
      have hva : valN S.ix y = at_ := by unfold valN; rw [hix]; rfl
      dsimp only
      split
      · rename_i hon
        have hys : y ∈ S.st := (h.onB y hyp).1 hon
        refine .inl ⟨.inr ⟨hyp, ?_⟩, rfl, rfl⟩
        have hw : ∃ w ∈ S.st, min (valN S.lo z) at_ = valN S.ix w ∧ Rch m q z w := by
          by_cases hc : valN S.lo z ≤ at_
          · obtain ⟨w, w1, w2, w3⟩ := h.los z h2
            exact ⟨w, w1, by omega, w3⟩
          · exact ⟨y, hys, by omega, .one hzy⟩
        obtain ⟨w, w1, w2, w3⟩ := hw
        have hT := h.setLo (u := z) (v := min (valN S.lo z) at_) (by rw [hm]; simp) (by omega) w1 w2 w3
        have hlz : valN (putF S.lo z (min (valN S.lo z) at_)) z = min (valN S.lo z) at_ := by unfold valN; rw [putF_same]; rfl
        exact hT.cut hf S.mi (.inr (.inl ⟨hys, by show valN (putF S.lo z _) z ≤ valN S.ix y; rw [hlz, hva]; omega⟩))
      · rename_i hon
        have hys : y ∉ S.st := fun hc => hon ((h.onB y hyp).2 hc)
        exact .inl ⟨.inr ⟨hyp, h.cut hf S.mi (.inl (((h.mem y).1 hyp).resolve_right hys))⟩, rfl, rfl⟩
  · rename_i hyc
    have hyc : (getMK m y).isSome = false := by simpa using hyc
    split
    · exact .inl ⟨.inl ⟨hyc, h.cut hf S.mi (.inr (.inr hyc))⟩, rfl, rfl⟩
    · exact .inl ⟨.inl ⟨hyc, h.cut hf _ (.inr (.inr hyc))⟩, rfl, rfl⟩
end
end Go.Proofs.Ytnjgjhjilolanaa
