/- Several texts in one. -/
import Derived.Test.YtnjgjhjilolanaaH33
/- Layer 18, plain: in which order a search tells its parts: as a search that knows them ahead would. No walk stands here. -/
namespace Go.Proofs.Ytnjgjhjilolanaa
open Go.RowKit
set_option linter.unusedVariables false
abbrev OvS := List Item × List (List Item)
noncomputable def inB (x : Item) (l : List Item) : Bool := decide (idxN x l < l.length)
theorem inB_iff {x : Item} {l : List Item} : inB x l = true ↔ x ∈ l := by
  unfold inB
  rw [decide_eq_true_iff]
  exact idxN_lt
noncomputable def ovL (f : Item → OvS → OvS) (l : List Item) (s : OvS) : OvS := l.foldl (fun s y => if inB y s.1 = true then s else f y s) s
noncomputable def ovE (pt : Item → List Item) (x : Item) (seen : List Item) (s : OvS) : OvS := (s.1, if (pt x).any (fun y => inB y seen) = true then s.2 else s.2 ++ [pt x])
noncomputable def ovF (m : RowsMK) (q : RowsML) (pt : Item → List Item) : Nat → Item → OvS → OvS
  | 0, _, s => s
  | n + 1, x, s => ovE pt x s.1 (ovL (ovF m q pt n) (waitsM m q x) (s.1 ++ [x], s.2))
structure AInv (m : RowsMK) (q : RowsML) (its : List Item) (x : Item) (S : WS) (ps : List Item) : Prop where
  W : WInv m q its S ps
  D : DInv m q x S ps
  E : EInv m q x S ps
  T : TInv m q S ps
  r : ∀ y ∈ ps, Rch m q x y
section
variable {m : RowsMK} {q : RowsML} {its : List Item} {S : WS} {ps : List Item} {x : Item}
theorem WInv.perm (h : WInv m q its S ps) {ps' : List Item} (hp : ps.Perm ps') : WInv m q its S ps' where
  nodup := hp.nodup_iff.1 h.nodup
  is y hy := h.is y (hp.mem_iff.2 hy)
  ix y := by rw [h.ix, hp.mem_iff]
  ci := by rw [h.ci, hp.length_eq]
  st y hy := hp.mem_iff.1 (h.st y hy)
  stn := h.stn
  fr := h.fr
  nx := h.nx
  pa := h.pa
theorem DInv.toPerm (h : DInv m q x S ps) {ps' : List Item} (hp : ps.Perm ps') : DInv m q x S ps' where
  perm := h.perm.trans hp
  nov y hy := h.nov y (hp.mem_iff.2 hy)
  nxv := h.nxv
  xin := hp.mem_iff.1 h.xin
  lo0 := h.lo0
  ix0 := h.ix0
  lox := h.lox
  ixx := h.ixx
  last := h.last
  head := h.head
theorem AInv.next (G : GInv m its) (h : AInv m q its x S ps) {frs : List (Item × List Item)} {z y : Item} {l : List Item} (hf : S.fr = frs ++ [(z, y :: l)]) (hc : (getMK m y).isSome = true) :
    (y ∈ ps ∧ AInv m q its x (nextM m q S frs z y l) ps ∧ (nextM m q S frs z y l).pa = S.pa ∧ (nextM m q S frs z y l).fr = frs ++ [(z, l)]) ∨
    (y ∉ ps ∧ AInv m q its x (nextM m q S frs z y l) (ps ++ [y]) ∧ (nextM m q S frs z y l).pa = S.pa ∧ (nextM m q S frs z y l).fr = (frs ++ [(z, l)]) ++ [(y, waitsM m q y)]) := by
  have hzy : y ∈ waitsM m q z := h.E.nxr (z, y :: l) (by rw [hf]; simp) y (by simp)
  have hzp : z ∈ ps := h.W.st z (h.W.top hf)
  obtain ⟨ps1, hW1, hD1⟩ := h.D.next h.W G hf
  obtain ⟨ps2, hE2, h2⟩ := h.E.next h.D h.W hf
  have toA : ∀ ps', ps'.Nodup → TInv m q (nextM m q S frs z y l) ps' → (∀ u ∈ ps', Rch m q x u) → AInv m q its x (nextM m q S frs z y l) ps' := by
    intro ps' hn hT hr
    have hp : ps1.Perm ps' := (List.perm_ext_iff_of_nodup hW1.nodup hn).2 fun u => by
      rw [← hD1.perm.mem_iff, hT.mem u, List.mem_append]
    have hE := next_ps G h.W hf hW1 h2 hE2
    exact ⟨hW1.perm hp, hD1.toPerm hp, hE.same fun u => hp.mem_iff, hT, hr⟩
  rcases h.T.next h.W hf hzy with ⟨h3, h4, h5⟩ | ⟨h3, h4, h5, h6⟩
  · rcases h3 with ⟨e, _⟩ | ⟨h3, hT⟩
    · rw [hc] at e; cases e
    · exact .inl ⟨h3, toA ps h.W.nodup hT h.r, h4, h5⟩
  · refine .inr ⟨h4, toA (ps ++ [y]) ?_ h5 fun u hu => ?_, by rw [h6]; rfl, by rw [h6]; rfl⟩
    · rw [List.nodup_append]
      exact ⟨h.W.nodup, by simp, fun a ha b hb => by simp at hb; subst hb; exact fun e => h4 (e ▸ ha)⟩
    · rcases List.mem_append.1 hu with hu | hu
      · exact h.r u hu
      · simp at hu; subst hu; exact (h.r z hzp).trans (.one hzy)
theorem take_idx {v : Item} {l : List Item} {k : Nat} : v ∈ l.take k ↔ v ∈ l ∧ idxN v l < k := by
  have hs : l.take k ++ l.drop k = l := List.take_append_drop k l
  constructor
  · intro hv
    refine ⟨List.mem_of_mem_take hv, ?_⟩
    have h1 : idxN v (l.take k ++ l.drop k) = idxN v (l.take k) := idxN_in hv
    rw [hs] at h1
    have h2 := idxN_lt.2 hv
    rw [List.length_take] at h2
    omega
  · rintro ⟨h1, h2⟩
    have h3 := idxN_lt.2 h1
    by_cases hv : v ∈ l.take k
    · exact hv
    · exfalso
      have h4 : idxN v (l.take k ++ l.drop k) = (l.take k).length + idxN v (l.drop k) := by
        have h5 : ¬ idxN v (l.take k) < (l.take k).length := fun hc => hv (idxN_lt.1 hc)
        unfold idxN at h5 ⊢
        rw [List.findIdx_append, if_neg h5, Nat.add_comm]
      rw [hs, List.length_take] at h4
      omega
structure PtOk (m : RowsMK) (q : RowsML) (x : Item) (pt : Item → List Item) : Prop where
  mem : ∀ y, Rch m q x y → ∀ v, v ∈ pt y ↔ Rch m q y v ∧ Rch m q v y
  eq : ∀ y, Rch m q x y → ∀ C : List Item, C.Nodup → (∀ v, v ∈ C ↔ Rch m q y v ∧ Rch m q v y) → sortM m C = pt y
theorem ov_frame (G : GInv m its) (HC : ∀ z, Rch m q x z → (getMK m z).isSome = true) {pt : Item → List Item} (hpt : PtOk m q x pt) :
    ∀ (n : Nat) (l : List Item) (S : WS) (ps : List Item) (frs : List (Item × List Item)) (y : Item) (Z : WS), AInv m q its x S ps → S.fr = frs ++ [(y, l)] → its.length ≤ ps.length + n → Ends m q S Z →
      ∃ S' ps', AInv m q its x S' ps' ∧ S'.fr = frs ∧ Ends m q S' Z ∧ ps <+: ps' ∧ (ps', S'.pa) = ovE pt y (ps.take (idxN y ps)) (ovL (ovF m q pt n) l (ps, S.pa)) := by
  intro n
  induction n using Nat.strongRecOn with
  | ind n ihn =>
    intro l
    induction l with
    | nil =>
      intro S ps frs y Z hA hf hn hE
      have hyp : y ∈ ps := hA.W.st y (hA.W.top hf)
      obtain ⟨hT, hpa⟩ := hA.T.pop hA.D hf
      refine ⟨popM m S frs y, ps, ⟨hA.W.pop hf, hA.D.pop hA.W hf, hA.E.pop hA.D hA.W hf, hT, hA.r⟩, by unfold popM; split <;> rfl, hE.pop_inv hf, List.prefix_refl _, ?_⟩
      show (ps, (popM m S frs y).pa) = (ps, if (pt y).any (fun z => inB z (ps.take (idxN y ps))) = true then S.pa else S.pa ++ [pt y])
      rcases hpa with ⟨⟨C, hC, e1, e2⟩, e3⟩ | ⟨e1, v, v1, v2, v3, v4⟩
      · rw [e1, hpt.eq y (hA.r y hyp) C hC e2, if_neg]
        intro hc
        rw [List.any_eq_true] at hc
        obtain ⟨v, v1, v2⟩ := hc
        obtain ⟨v3, v4⟩ := take_idx.1 (inB_iff.1 v2)
        obtain ⟨v5, v6⟩ := (hpt.mem y (hA.r y hyp) v).1 v1
        have := e3 v v3 v5 v6
        omega
      · rw [e1, if_pos]
        rw [List.any_eq_true]
        exact ⟨v, (hpt.mem y (hA.r y hyp) v).2 ⟨v2, v3⟩, inB_iff.2 (take_idx.2 ⟨v1, v4⟩)⟩
    | cons y' l ihl =>
      intro S ps frs y Z hA hf hn hE
      have hyp : y ∈ ps := hA.W.st y (hA.W.top hf)
      have hyy : y' ∈ waitsM m q y := hA.E.nxr (y, y' :: l) (by rw [hf]; simp) y' (by simp)
      have hyc := HC y' ((hA.r y hyp).trans (.one hyy))
      have hE1 := hE.next_inv hf
      rcases hA.next G hf hyc with ⟨h1, h2, h3, h4⟩ | ⟨h1, h2, h3, h4⟩
      · obtain ⟨S', ps', r1, r2, r3, r4, r5⟩ := ihl _ ps frs y Z h2 h4 hn hE1
        refine ⟨S', ps', r1, r2, r3, r4, ?_⟩
        rw [r5, h3]
        have : ovL (ovF m q pt n) (y' :: l) (ps, S.pa) = ovL (ovF m q pt n) l (ps, S.pa) := by
          unfold ovL
          rw [List.foldl_cons, if_pos (inB_iff.2 h1)]
        rw [this]
      · have hlen := h2.W.le G
        rw [h2.W.ci, List.length_append] at hlen
        obtain ⟨n', rfl⟩ : ∃ n', n = n' + 1 := ⟨n - 1, by simp at hlen; omega⟩
        obtain ⟨S2, ps2, r1, r2, r3, r4, r5⟩ := ihn n' (by omega) _ _ _ _ _ Z h2 h4 (by simp; omega) hE1
        have hid : idxN y' (ps ++ [y']) = ps.length := idxN_same h1
        rw [hid, List.take_left, h3] at r5
        have r6 : (ps2, S2.pa) = ovF m q pt (n' + 1) y' (ps, S.pa) := r5
        have hpre : ps <+: ps2 := (List.prefix_append _ _).trans r4
        obtain ⟨S3, ps3, t1, t2, t3, t4, t5⟩ := ihl S2 ps2 frs y Z r1 r2 (by have := hpre.length_le; omega) r3
        refine ⟨S3, ps3, t1, t2, t3, hpre.trans t4, ?_⟩
        have hy2 : idxN y ps2 = idxN y ps ∧ ps2.take (idxN y ps) = ps.take (idxN y ps) := by
          obtain ⟨t, rfl⟩ := hpre
          have := idxN_lt.2 hyp
          exact ⟨idxN_in hyp, List.take_append_of_le_length (by omega)⟩
        rw [t5, hy2.1, hy2.2]
        have : ovL (ovF m q pt (n' + 1)) (y' :: l) (ps, S.pa) = ovL (ovF m q pt (n' + 1)) l (ps2, S2.pa) := by
          unfold ovL
          rw [List.foldl_cons, if_neg (fun hc => h1 (inB_iff.1 hc)), ← r6]
        rw [this]
theorem TInv.start (a1 : (getMK m x).isSome = true) : TInv m q (startM m q x) [x] := by
  have hv : ∀ y, y ∈ [x] → y = x := fun y hy => by simpa using hy
  have h0 : valN (putF (fun _ => none) x ((0 : Nat) : Int)) x = 0 := by unfold valN; rw [putF_same]; rfl
  exact {
    at_ := fun y hy => by
      obtain rfl := hv y hy
      show valN (putF (fun _ => none) y ((0 : Nat) : Int)) y = _
      have : idxN y [y] = 0 := idxN_same (l := []) (by simp)
      rw [h0, this]; rfl
    srt := by show List.Pairwise _ ([] ++ [x]); simp
    lle := fun y hy => by
      obtain rfl := hv y hy
      show valN (putF (fun _ => none) y ((0 : Nat) : Int)) y ≤ valN (putF (fun _ => none) y ((0 : Nat) : Int)) y
      exact Int.le_refl _
    los := fun y hy => by
      obtain rfl := hv y hy
      exact ⟨y, hy, rfl, .refl y⟩
    nf := fun y hy hn => by
      obtain rfl := hv y hy
      exact absurd (show y ∈ (([] : List (Item × List Item)) ++ [(y, waitsM m q y)]).map (·.1) by simp) hn
    ch := by show List.Pairwise _ ((([] : List (Item × List Item)) ++ [(x, waitsM m q x)]).map (·.1)); simp
    edg := fun y hy z hz => by
      obtain rfl := hv y hy
      exact .inr (.inr (.inr (.inl ⟨(y, waitsM m q y), by show _ ∈ [] ++ [(y, waitsM m q y)]; simp, rfl, hz⟩)))
    clo := fun y hy => by
      have hy : y ∈ ([] : List (List Item)).flatten := hy
      simp at hy
    scc := fun p hp => by
      have hp : p ∈ ([] : List (List Item)) := hp
      simp at hp
    ord := List.Pairwise.nil
    frs := List.Sublist.refl _
    nod := by show ([].flatten ++ ([] ++ [x])).Nodup; simp
    com := fun y hy => by
      obtain rfl := hv y hy
      exact a1
    onB := fun y hy => by
      obtain rfl := hv y hy
      show valB (putF (fun _ => none) y true) y = true ↔ y ∈ [] ++ [y]
      have : valB (putF (fun _ => none) y true) y = true := by unfold valB; rw [putF_same]; rfl
      rw [this]; simp
    mem := fun y => by show y ∈ [x] ↔ y ∈ ([] : List (List Item)).flatten ∨ y ∈ [] ++ [x]; simp
    srp := fun p hp => by
      have hp : p ∈ ([] : List (List Item)) := hp
      simp at hp }
theorem AInv.start (G : GInv m its) (a1 : (getMK m x).isSome = true) (a2 : (getML q x).isSome = false) : AInv m q its x (startM m q x) [x] := by
  obtain ⟨s1, s2, s3⟩ := start_all (q := q) G a1 a2
  exact ⟨s1, s2, s3, TInv.start a1, fun y hy => by simp at hy; subst hy; exact .refl y⟩
theorem ord_reach (G : GInv m its) {P : List (List Item)} (a1 : (getMK m x).isSome = true) (a2 : (getML q x).isSome = false) (h : OrdM m q its x P []) : ∀ z, Rch m q x z → (getMK m z).isSome = true ∧ z ∈ P.flatten := by
  obtain ⟨-, -, h3, -, h5, -⟩ := ord_all G a1 a2 h
  obtain ⟨h6, h7⟩ := h5 rfl
  intro z hz
  have : z ∈ P.flatten := by
    induction hz with
    | refl => exact h6
    | step _ h ih => exact h7 _ ih _ h
  exact ⟨(h3 z this).2, this⟩
/-- The order in which the parts are told. -/
theorem ord_told (G : GInv m its) {P : List (List Item)} (a1 : (getMK m x).isSome = true) (a2 : (getML q x).isSome = false) (h : OrdM m q its x P []) {pt : Item → List Item} (hpt : PtOk m q x pt) : P = (ovF m q pt its.length x ([], [])).2 ∧ (∀ p ∈ P, ∀ u ∈ p, ∀ v ∈ p, Rch m q u v) ∧ P.Pairwise (fun p p' => ∀ u ∈ p, ∀ v ∈ p', ¬ Rch m q u v) ∧ (∀ p ∈ P, ∃ l, p = sortM m l) ∧ ∀ y ∈ P.flatten, Rch m q x y := by
  have HC := fun z hz => (ord_reach G a1 a2 h z hz).1
  rcases h with ⟨a, _⟩ | ⟨_, Z, ps0, hE, hf, hWZ, b1, b2⟩
  · rw [a1, a2] at a; simp at a
  · have hmi : Z.mi = [] := by
      cases hm : Z.mi with
      | nil => rfl
      | cons a b =>
        have := (b1 (by rw [hm]; simp)).2
        rw [hm] at this
        simp at this
    rw [(b2 hmi).1]
    have hpos : 0 < its.length := List.length_pos_of_mem (G.mem x a1)
    obtain ⟨n, hn⟩ : ∃ n, its.length = n + 1 := ⟨its.length - 1, by omega⟩
    have hA := AInv.start (q := q) G a1 a2
    obtain ⟨S', ps', r1, r2, r3, r4, r5⟩ := ov_frame G HC hpt n (waitsM m q x) (startM m q x) [x] [] x Z hA rfl (by simp; omega) hE
    have hZ := r3.done_inv r2
    subst hZ
    refine ⟨?_, r1.T.scc, r1.T.ord, r1.T.srp, fun y hy => r1.r y ((r1.T.mem y).2 (.inl hy))⟩
    have hid : idxN x [x] = 0 := idxN_same (l := []) (by simp)
    rw [hid] at r5
    have := congrArg Prod.snd r5
    rw [hn]
    exact this
end
end Go.Proofs.Ytnjgjhjilolanaa
/- Layer 18, plain: what an item reaches, and its part, as the document finds them. No walk stands here. -/
namespace Go.Proofs.Ytnjgjhjilolanaa
open Go.RowKit
set_option linter.unusedVariables false
theorem mem_itemsTo {d : Nat → Int} {y : Item} : ∀ k, y ∈ itemsTo d k ↔ ∃ r, r < k ∧ ∃ j, j < (d r).toNat ∧ y = ⟨(r : Int), (j : Int) + 1⟩
  | 0 => by simp [itemsTo]
  | k + 1 => by
    rw [itemsTo, List.mem_append, mem_itemsTo k]
    constructor
    · rintro (⟨r, h1, h2⟩ | h)
      · exact ⟨r, by omega, h2⟩
      · unfold repL at h
        rw [List.mem_map] at h
        obtain ⟨j, hj, rfl⟩ := h
        exact ⟨k, by omega, j, List.mem_range.1 hj, rfl⟩
    · rintro ⟨r, h1, j, h2, rfl⟩
      by_cases e : r = k
      · subst e
        right
        unfold repL
        exact List.mem_map.2 ⟨j, List.mem_range.2 h2, rfl⟩
      · exact .inl ⟨r, by omega, j, h2, rfl⟩
/-- All items that a call can wait for. -/
def allIt : List Item := itemsL fun _ => 64
theorem allIt_len : allIt.length ≤ 448 := itemsTo_len (fun _ _ => Int.le_refl _) 7 (Nat.le_refl _)
theorem items_all {d : Nat → Int} (hd : ∀ i, i < 7 → d i ≤ 64) : ∀ y ∈ itemsL d, y ∈ allIt := by
  intro y hy
  obtain ⟨r, h1, j, h2, rfl⟩ := (mem_itemsTo 7).1 hy
  have := hd r h1
  exact (mem_itemsTo 7).2 ⟨r, h1, j, by show j < (64 : Int).toNat; omega, rfl⟩
/-- What is put behind, if it isn't there. -/
noncomputable def addI (o : List Item) (y : Item) : List Item := if inB y o = true then o else o ++ [y]
noncomputable def addL (l out : List Item) : List Item := l.foldl addI out
theorem addI_mem {o : List Item} {y z : Item} : z ∈ addI o y ↔ z ∈ o ∨ z = y := by
  unfold addI
  split
  · rename_i h
    have := inB_iff.1 h
    exact ⟨.inl, fun h => h.elim id fun h => h ▸ this⟩
  · simp
theorem addI_nodup {o : List Item} {y : Item} (h : o.Nodup) : (addI o y).Nodup := by
  unfold addI
  split
  · exact h
  · rename_i hn
    rw [List.nodup_append]
    exact ⟨h, by simp, fun a ha b hb => by simp at hb; subst hb; exact fun e => hn (inB_iff.2 (e ▸ ha))⟩
theorem addI_pre {o : List Item} {y : Item} : o <+: addI o y := by
  unfold addI
  split
  · exact List.prefix_refl _
  · exact List.prefix_append _ _
theorem addL_mem : ∀ {l o : List Item} {z : Item}, z ∈ addL l o ↔ z ∈ o ∨ z ∈ l
  | [], o, z => by simp [addL]
  | y :: l, o, z => by
    show z ∈ addL l (addI o y) ↔ _
    rw [addL_mem, addI_mem, List.mem_cons, or_assoc]
theorem addL_nodup : ∀ {l o : List Item}, o.Nodup → (addL l o).Nodup
  | [], o, h => h
  | y :: l, o, h => addL_nodup (l := l) (addI_nodup h)
theorem addL_pre : ∀ {l o : List Item}, o <+: addL l o
  | [], o => List.prefix_refl _
  | y :: l, o => addI_pre.trans (addL_pre (l := l))
theorem addL_snoc (l o : List Item) (y : Item) : addL (l ++ [y]) o = addI (addL l o) y := by unfold addL; rw [List.foldl_append]; rfl
noncomputable def frmI (x : Item) (k : Nat) (out : List Item) : Item := if k = 0 then x else (out[k - 1]?).getD x
noncomputable def rchF (m : RowsMK) (q : RowsML) (x : Item) : Nat → Nat → List Item → List Item
  | 0, _, out => out
  | n + 1, k, out => if k ≤ out.length then rchF m q x n (k + 1) (addL (waitsM m q (frmI x k out)) out) else out
noncomputable def reachL (m : RowsMK) (q : RowsML) (x : Item) : List Item := rchF m q x 450 0 []
section
variable {m : RowsMK} {q : RowsML} {its : List Item} {x : Item}
theorem rchF_end (n k : Nat) (out : List Item) (h : out.length < k) : rchF m q x n k out = out := by
  cases n with
  | zero => rfl
  | succ n => rw [rchF, if_neg (by omega)]
structure RInv (m : RowsMK) (q : RowsML) (x : Item) (k : Nat) (out : List Item) : Prop where
  le : k ≤ out.length + 1
  nd : out.Nodup
  all : ∀ y ∈ out, y ∈ allIt
  src : ∀ y ∈ out, ∃ z, Rch m q x z ∧ y ∈ waitsM m q z
  don : ∀ j, j < k → ∀ z ∈ waitsM m q (frmI x j out), z ∈ out
theorem RInv.start : RInv m q x 0 [] := ⟨by omega, List.nodup_nil, by simp, by simp, fun j h => by omega⟩
theorem RInv.len {k : Nat} {out : List Item} (h : RInv m q x k out) : out.length ≤ 448 := Nat.le_trans (nodup_len out allIt h.nd h.all) allIt_len
theorem frm_pre {j : Nat} {o o' : List Item} (h : o <+: o') (hj : j ≤ o.length) : frmI x j o' = frmI x j o := by
  unfold frmI
  split
  · rfl
  · obtain ⟨t, rfl⟩ := h
    rw [List.getElem?_append_left (by omega)]
theorem frm_src {k : Nat} {out : List Item} (h : RInv m q x k out) (hk : k ≤ out.length) : Rch m q x (frmI x k out) := by
  unfold frmI
  split
  · exact .refl x
  · have hlt : k - 1 < out.length := by omega
    rw [List.getElem?_eq_getElem hlt, Option.getD_some]
    obtain ⟨z, h1, h2⟩ := h.src _ (List.getElem_mem hlt)
    exact .step h1 h2
theorem waits_all (G : GInv m its) (y : Item) : ∀ z ∈ waitsM m q y, z ∈ allIt := fun z hz => by
  unfold waitsM at hz
  exact items_all (fun i hi => G.deps y i hi) z (List.mem_filter.1 hz).1
theorem RInv.step (G : GInv m its) {k : Nat} {out : List Item} (h : RInv m q x k out) (hk : k ≤ out.length) : RInv m q x (k + 1) (addL (waitsM m q (frmI x k out)) out) where
  le := by
    have := (addL_pre (l := waitsM m q (frmI x k out)) (o := out)).length_le
    omega
  nd := addL_nodup h.nd
  all y hy := by
    rcases addL_mem.1 hy with hy | hy
    · exact h.all y hy
    · exact waits_all G _ y hy
  src y hy := by
    rcases addL_mem.1 hy with hy | hy
    · exact h.src y hy
    · exact ⟨_, frm_src h hk, hy⟩
  don j hj z hz := by
    rw [frm_pre addL_pre (by omega)] at hz
    by_cases e : j = k
    · subst e; exact addL_mem.2 (.inr hz)
    · exact addL_mem.2 (.inl (h.don j (by omega) z hz))
theorem rchF_spec (G : GInv m its) : ∀ (n k : Nat) (out : List Item), RInv m q x k out → n + k = 450 → RInv m q x ((rchF m q x n k out).length + 1) (rchF m q x n k out)
  | 0, k, out, h, hn => by have := h.le; have := h.len; omega
  | n + 1, k, out, h, hn => by
    rw [rchF]
    split
    · rename_i hk
      exact rchF_spec G n (k + 1) _ (h.step G hk) (by omega)
    · rename_i hk
      have : k = out.length + 1 := by have := h.le; omega
      rw [← this]; exact h
theorem reach_inv (G : GInv m its) : RInv m q x ((reachL m q x).length + 1) (reachL m q x) := rchF_spec G 450 0 [] .start rfl
theorem reach_nodup (G : GInv m its) : (reachL m q x).Nodup := (reach_inv G).nd
theorem reach_mem (G : GInv m its) {y : Item} : y ∈ reachL m q x ↔ ∃ z, Rch m q x z ∧ y ∈ waitsM m q z := by
  have hI := reach_inv (q := q) (x := x) G
  refine ⟨hI.src y, ?_⟩
  have key : ∀ z, Rch m q x z → ∀ y ∈ waitsM m q z, y ∈ reachL m q x := by
    intro z hz
    induction hz with
    | refl =>
      intro y hy
      exact hI.don 0 (by omega) y hy
    | step _ h ih =>
      intro y hy
      have hb := ih _ h
      obtain ⟨j, hj, e⟩ := List.getElem_of_mem hb
      refine hI.don (j + 1) (by omega) y ?_
      unfold frmI
      rw [if_neg (by omega), Nat.add_sub_cancel, List.getElem?_eq_getElem hj, Option.getD_some, e]
      exact hy
  rintro ⟨z, h1, h2⟩
  exact key z h1 y h2
theorem reach_iff (G : GInv m its) {y : Item} (h : y ≠ x) : y ∈ reachL m q x ↔ Rch m q x y := by
  rw [reach_mem G]
  constructor
  · rintro ⟨z, h1, h2⟩; exact .step h1 h2
  · intro hr
    cases hr with
    | refl => exact absurd rfl h
    | step h1 h2 => exact ⟨_, h1, h2⟩
theorem bef_lt (m : RowsMK) (x y : Item) : befB m x y = ltM m x y := by
  rw [Bool.eq_iff_iff, ltM_iff]
  unfold befB
  simp only [Bool.or_eq_true, Bool.and_eq_true, decide_eq_true_eq, beq_iff_eq, lessI]
/-- An item in its place among a part's. -/
noncomputable def insL (m : RowsMK) (p : List Item) (y : Item) : List Item := p.takeWhile (fun z => befB m z y) ++ y :: p.dropWhile (fun z => befB m z y)
noncomputable def partL (m : RowsMK) (q : RowsML) (x : Item) : List Item := (reachL m q x).foldl (fun p y => if (eqA (IV y) (IV x) || !inB x (reachL m q y)) = true then p else insL m p y) [x]
theorem insL_mem {p : List Item} {y z : Item} : z ∈ insL m p y ↔ z = y ∨ z ∈ p := by
  have h := List.takeWhile_append_dropWhile (p := fun z => befB m z y) (l := p)
  unfold insL
  constructor
  · intro hz
    rcases List.mem_append.1 hz with hz | hz
    · exact .inr ((List.takeWhile_sublist _).subset hz)
    · rcases List.mem_cons.1 hz with rfl | hz
      · exact .inl rfl
      · exact .inr ((List.dropWhile_sublist _).subset hz)
  · rintro (rfl | hz)
    · simp
    · rw [← h] at hz
      rcases List.mem_append.1 hz with hz | hz
      · exact List.mem_append.2 (.inl hz)
      · exact List.mem_append.2 (.inr (List.mem_cons.2 (.inr hz)))
abbrev Srt (m : RowsMK) (p : List Item) : Prop := p.Pairwise (fun a c => ltM m a c = true)
theorem ltM_ne {a c : Item} (h : ltM m a c = true) : a ≠ c := fun e => by
  subst e
  have := (ltM_swo m).irrefl a
  rw [h] at this; cases this
theorem insL_srt {p : List Item} {y : Item} (h : Srt m p) (hy : y ∉ p) : Srt m (insL m p y) := by
  induction p with
  | nil => unfold insL; simp
  | cons a t ih =>
    have h' := List.pairwise_cons.1 h
    by_cases hb : befB m a y = true
    · have e : insL m (a :: t) y = a :: insL m t y := by unfold insL; rw [List.takeWhile_cons_of_pos (by exact hb), List.dropWhile_cons_of_pos (by exact hb)]; rfl
      rw [e]
      refine List.pairwise_cons.2 ⟨fun z hz => ?_, ih h'.2 (fun hc => hy (by simp [hc]))⟩
      rcases insL_mem.1 hz with rfl | hz
      · rw [← bef_lt]; exact hb
      · exact h'.1 z hz
    · have e : insL m (a :: t) y = y :: a :: t := by unfold insL; rw [List.takeWhile_cons_of_neg (by exact hb), List.dropWhile_cons_of_neg (by exact hb)]; rfl
      rw [e]
      have hya : ltM m y a = true := by
        cases hc : ltM m y a with
        | true => rfl
        | false =>
          exact absurd (ltM_total m y a hc (by rw [← bef_lt]; simpa using hb)) (fun e => hy (by simp [e]))
      refine List.pairwise_cons.2 ⟨fun z hz => ?_, h⟩
      rcases List.mem_cons.1 hz with rfl | hz
      · exact hya
      · exact (ltM_swo m).trans y a z hya (h'.1 z hz)
theorem srt_one : ∀ {l k : List Item}, Srt m l → Srt m k → (∀ v, v ∈ l ↔ v ∈ k) → l = k
  | [], [], _, _, _ => rfl
  | [], b :: k, _, _, h => by have := (h b).2 (by simp); simp at this
  | a :: l, [], _, _, h => by have := (h a).1 (by simp); simp at this
  | a :: l, b :: k, h1, h2, h => by
    have g1 := List.pairwise_cons.1 h1
    have g2 := List.pairwise_cons.1 h2
    have e : a = b := by
      rcases List.mem_cons.1 ((h a).1 (by simp)) with e | e
      · exact e
      · rcases List.mem_cons.1 ((h b).2 (by simp)) with e2 | e2
        · exact e2.symm
        · have t := (ltM_swo m).trans a b a (g1.1 b e2) (g2.1 a e)
          exact absurd rfl (ltM_ne t)
    subst e
    rw [srt_one g1.2 g2.2 fun v => ?_]
    constructor
    · intro hv
      rcases List.mem_cons.1 ((h v).1 (by simp [hv])) with rfl | hv2
      · exact absurd rfl (ltM_ne (g1.1 v hv))
      · exact hv2
    · intro hv
      rcases List.mem_cons.1 ((h v).2 (by simp [hv])) with rfl | hv2
      · exact absurd rfl (ltM_ne (g2.1 v hv))
      · exact hv2
theorem sortM_srt {l : List Item} (hn : l.Nodup) : Srt m (sortM m l) := by
  have hn2 : (sortM m l).Nodup := (sortM_perm m l).nodup_iff.2 hn
  have hs := sortM_sorted m l
  unfold Srt
  rw [List.pairwise_iff_getElem]
  intro i j hi hj hij
  have h1 := hs i j hij hj
  cases hc : ltM m (sortM m l)[i] (sortM m l)[j] with
  | true => rfl
  | false =>
    have := ltM_total m _ _ hc h1
    have h2 := (List.getElem_inj hn2).1 this
    omega
theorem part_fold (G : GInv m its) : ∀ (l p : List Item), Srt m p → (∀ y ∈ l, y ∉ p ∨ y = x) → l.Nodup → x ∈ p →
    Srt m (l.foldl (fun p y => if (eqA (IV y) (IV x) || !inB x (reachL m q y)) = true then p else insL m p y) p) ∧ ∀ v, v ∈ l.foldl (fun p y => if (eqA (IV y) (IV x) || !inB x (reachL m q y)) = true then p else insL m p y) p ↔ v ∈ p ∨ (v ∈ l ∧ v ≠ x ∧ x ∈ reachL m q v)
  | [], p, h, _, _, _ => ⟨h, fun v => by simp⟩
  | y :: l, p, h, hl, hn, hx => by
    have hn2 := List.nodup_cons.1 hn
    rw [List.foldl_cons]
    by_cases hc : (eqA (IV y) (IV x) || !inB x (reachL m q y)) = true
    · rw [if_pos hc]
      obtain ⟨h1, h2⟩ := part_fold G l p h (fun z hz => hl z (by simp [hz])) hn2.2 hx
      refine ⟨h1, fun v => ?_⟩
      rw [h2 v]
      constructor
      · rintro (a | ⟨a, b⟩)
        · exact .inl a
        · exact .inr ⟨by simp [a], b⟩
      · rintro (a | ⟨a, b, c⟩)
        · exact .inl a
        · rcases List.mem_cons.1 a with rfl | a
          · exfalso
            rw [Bool.or_eq_true] at hc
            rcases hc with hc | hc
            · exact b (IV_eq (eqA_iff.1 hc))
            · rw [inB_iff.2 c] at hc; cases hc
          · exact .inr ⟨a, b, c⟩
    · rw [if_neg hc]
      have hyx : y ≠ x := fun e => hc (by rw [e, eqA_refl]; rfl)
      have hyr : x ∈ reachL m q y := by
        rw [← inB_iff]
        cases hi : inB x (reachL m q y) with
        | true => rfl
        | false => rw [hi] at hc; simp at hc
      have hyp : y ∉ p := (hl y (by simp)).resolve_right hyx
      obtain ⟨h1, h2⟩ := part_fold G l (insL m p y) (insL_srt h hyp) (fun z hz => by
        rcases hl z (by simp [hz]) with a | a
        · refine .inl fun hc => ?_
          rcases insL_mem.1 hc with rfl | hc
          · exact hn2.1 hz
          · exact a hc
        · exact .inr a) hn2.2 (insL_mem.2 (.inr hx))
      refine ⟨h1, fun v => ?_⟩
      rw [h2 v, insL_mem]
      constructor
      · rintro ((rfl | a) | ⟨a, b⟩)
        · exact .inr ⟨by simp, hyx, hyr⟩
        · exact .inl a
        · exact .inr ⟨by simp [a], b⟩
      · rintro (a | ⟨a, b, c⟩)
        · exact .inl (.inr a)
        · rcases List.mem_cons.1 a with rfl | a
          · exact .inl (.inl rfl)
          · exact .inr ⟨a, b, c⟩
theorem partL_spec (G : GInv m its) (x : Item) : Srt m (partL m q x) ∧ ∀ v, v ∈ partL m q x ↔ Rch m q x v ∧ Rch m q v x := by
  obtain ⟨h1, h2⟩ := part_fold (q := q) (x := x) G (reachL m q x) [x] (by simp) (fun y _ => by by_cases e : y = x <;> simp [e]) (reach_nodup G) (by simp)
  refine ⟨h1, fun v => ?_⟩
  have h3 := h2 v
  unfold partL
  rw [h3]
  constructor
  · rintro (a | ⟨a, b, c⟩)
    · simp at a; subst a; exact ⟨.refl v, .refl v⟩
    · exact ⟨(reach_iff G b).1 a, (reach_iff G (fun e => b e.symm)).1 c⟩
  · rintro ⟨a, b⟩
    by_cases e : v = x
    · simp [e]
    · exact .inr ⟨(reach_iff G e).2 a, e, (reach_iff G (fun e' => e e'.symm)).2 b⟩
theorem partOk (G : GInv m its) : PtOk m q x (partL m q) where
  mem y _ v := (partL_spec G y).2 v
  eq y _ C hC hm := srt_one (sortM_srt hC) (partL_spec G y).1 fun v => by rw [(sortM_perm m C).mem_iff, hm v, (partL_spec G y).2 v]
end
end Go.Proofs.Ytnjgjhjilolanaa
/- Layer 18, plain: what is told to be missing is what isn't committed among all that is reached. No walk stands here. -/
namespace Go.Proofs.Ytnjgjhjilolanaa
open Go.RowKit
set_option linter.unusedVariables false
section
variable {m : RowsMK} {q : RowsML} {its : List Item} {S : WS} {ps : List Item} {x : Item}
theorem next_ix (m : RowsMK) (q : RowsML) (S : WS) (frs : List (Item × List Item)) (z y : Item) (l : List Item) (u : Item) (h : ((nextM m q S frs z y l).ix u).isSome = true) : u = y ∨ (S.ix u).isSome = true := by
  unfold nextM at h
  dsimp only at h
  split at h
  · cases hix : S.ix y with
    | none =>
      rw [hix] at h
      dsimp only at h
      have h : (putF S.ix y (S.ci : Int) u).isSome = true := h
      rw [putF_isSome] at h
      exact h
    | some a =>
      rw [hix] at h
      dsimp only at h
      split at h <;> exact .inr h
  · split at h <;> exact .inr h
theorem ends_reach (G : GInv m its) : ∀ (k : Nat) (S Z : WS) (ps : List Item), EndsK m q k S Z → WInv m q its S ps → DInv m q x S ps → EInv m q x S ps → (∀ y ∈ ps, Rch m q x y) → ∃ ps', WInv m q its Z ps' ∧ DInv m q x Z ps' ∧ EInv m q x Z ps' ∧ ∀ y ∈ ps', Rch m q x y
  | 0, S, Z, ps, h, hW, hD, hE, hR => by
    obtain ⟨_, rfl⟩ := h
    exact ⟨ps, hW, hD, hE, hR⟩
  | k + 1, S, Z, ps, h, hW, hD, hE, hR => by
    rcases h with ⟨frs, y, hf, h1⟩ | ⟨frs, z, y, l, hf, h1⟩
    · exact ends_reach G k _ Z ps h1 (hW.pop hf) (hD.pop hW hf) (hE.pop hD hW hf) hR
    · obtain ⟨ps', hW', hD'⟩ := hD.next hW G hf
      obtain ⟨ps2, hE2, h2⟩ := hE.next hD hW hf
      refine ends_reach G k _ Z ps' h1 hW' hD' (next_ps G hW hf hW' h2 hE2) fun u hu => ?_
      have hzp : z ∈ ps := hW.st z (hW.top hf)
      have hzy : y ∈ waitsM m q z := hE.nxr (z, y :: l) (by rw [hf]; simp) y (by simp)
      rcases next_ix m q S frs z y l u ((hW'.ix u).2 hu) with rfl | h3
      · exact .step (hR z hzp) hzy
      · exact hR u ((hW.ix u).1 h3)
/-- What is missing. -/
theorem ord_want (G : GInv m its) {P : List (List Item)} {M : List Item} (a1 : (getMK m x).isSome = true) (a2 : (getML q x).isSome = false) (h : OrdM m q its x P M) :
    M.Nodup ∧ (∀ z, z ∈ M ↔ z ∈ reachL m q x ∧ (getMK m z).isSome = false) ∧ (M ≠ [] → P = []) := by
  have h0 := ord_all G a1 a2 h
  refine ⟨h0.2.2.2.2.2.1, ?_, fun hm => (h0.2.2.2.1 hm).1⟩
  rcases h with ⟨a, _⟩ | ⟨_, Z, ps0, ⟨k, hk⟩, hf, hWZ, b1, b2⟩
  · rw [a1, a2] at a; simp at a
  · obtain ⟨s1, s2, s3⟩ := start_all (q := q) G a1 a2
    obtain ⟨ps, hW, hD, hE, hR⟩ := ends_reach G k _ Z _ hk s1 s2 s3 (fun y hy => by simp at hy; subst hy; exact .refl y)
    have hM : M = Z.mi := by
      by_cases hm : Z.mi = []
      · rw [(b2 hm).2, hm]
      · exact (b1 hm).2
    have hclo : ∀ y ∈ ps, ∀ z ∈ waitsM m q y, z ∈ ps ∨ z ∈ Z.mi := fun y hy z hz => by
      rcases hE.clo y hy z hz with h1 | h1 | ⟨f, h1, _⟩
      · exact .inl h1
      · exact .inr h1
      · rw [hf] at h1; simp at h1
    have hin : ∀ y, Rch m q x y → y ∈ ps ∨ (getMK m y).isSome = false := fun y hy => by
      induction hy with
      | refl => exact .inl hD.xin
      | step _ h ih =>
        rcases ih with i | i
        · rcases hclo _ i _ h with j | j
          · exact .inl j
          · exact .inr (hE.mis _ j).1
        · rw [waits_none i] at h; simp at h
    intro z
    rw [hM, reach_mem G]
    constructor
    · intro hz
      obtain ⟨c1, y, c2, c3⟩ := hE.mis z hz
      exact ⟨⟨y, hR y c2, c3⟩, c1⟩
    · rintro ⟨⟨y, c1, c2⟩, c3⟩
      rcases hin y c1 with i | i
      · rcases hclo y i z c2 with j | j
        · have := hW.is z j
          rw [c3] at this; cases this
        · exact j
      · rw [waits_none i] at c2; simp at c2
end
end Go.Proofs.Ytnjgjhjilolanaa
