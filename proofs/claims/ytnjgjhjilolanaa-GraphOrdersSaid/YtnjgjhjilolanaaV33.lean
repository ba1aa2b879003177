/- Several texts in one. -/
import Derived.Test.YtnjgjhjilolanaaV32
import Derived.Test.YtnjgjhjilolanaaV15
/- Layer 18, plain: in which order a search tells its parts: as a search that knows them ahead would. No walk stands here. -/
namespace Go.Proofs.Ytnjgjhjilolanaa
open Go.RowKit
set_option linter.unusedVariables false
abbrev OvS := List Item × List (List Item)
noncomputable def inB (x : Item) (l : List Item) : Bool := decide (idxN x l < l.length)
theorem inB_iff {x : Item} {l : List Item} : inB x l = true ↔ x ∈ l := by
  unfold inB
  rw [decide_eq_true_iff]
  exact idxN_lt
noncomputable def ovL (f : Item → OvS → OvS) (l : List Item) (s : OvS) : OvS := l.foldl (fun s y => if inB y s.1 = true then s else f y s) s
noncomputable def ovE (pt : Item → List Item) (x : Item) (seen : List Item) (s : OvS) : OvS := (s.1, if (pt x).any (fun y => inB y seen) = true then s.2 else s.2 ++ [pt x])
noncomputable def ovF (m : RowsMK) (q : RowsML) (pt : Item → List Item) : Nat → Item → OvS → OvS
  | 0, _, s => s
  | n + 1, x, s => ovE pt x s.1 (ovL (ovF m q pt n) (waitsM m q x) (s.1 ++ [x], s.2))
structure AInv (m : RowsMK) (q : RowsML) (its : List Item) (x : Item) (S : WS) (ps : List Item) : Prop where
  W : WInv m q its S ps
  D : DInv m q x S ps
  E : EInv m q x S ps
  T : TInv m q S ps
  r : ∀ y ∈ ps, Rch m q x y
section
variable {m : RowsMK} {q : RowsML} {its : List Item} {S : WS} {ps : List Item} {x : Item}
theorem WInv.perm (h : WInv m q its S ps) {ps' : List Item} (hp : ps.Perm ps') : WInv m q its S ps' where
  nodup := hp.nodup_iff.1 h.nodup
  is y hy := h.is y (hp.mem_iff.2 hy)
  ix y := by rw [h.ix, hp.mem_iff]
  ci := by rw [h.ci, hp.length_eq]
  st y hy := hp.mem_iff.1 (h.st y hy)
  stn := h.stn
  fr := h.fr
  nx := h.nx
  pa := h.pa
theorem DInv.toPerm (h : DInv m q x S ps) {ps' : List Item} (hp : ps.Perm ps') : DInv m q x S ps' where
  perm := h.perm.trans hp
  nov y hy := h.nov y (hp.mem_iff.2 hy)
  nxv := h.nxv
  xin := hp.mem_iff.1 h.xin
  lo0 := h.lo0
  ix0 := h.ix0
  lox := h.lox
  ixx := h.ixx
  last := h.last
  head := h.head
theorem AInv.next (G : GInv m its) (h : AInv m q its x S ps) {frs : List (Item × List Item)} {z y : Item} {l : List Item} (hf : S.fr = frs ++ [(z, y :: l)]) (hc : (getMK m y).isSome = true) :
    (y ∈ ps ∧ AInv m q its x (nextM m q S frs z y l) ps ∧ (nextM m q S frs z y l).pa = S.pa ∧ (nextM m q S frs z y l).fr = frs ++ [(z, l)]) ∨
    (y ∉ ps ∧ AInv m q its x (nextM m q S frs z y l) (ps ++ [y]) ∧ (nextM m q S frs z y l).pa = S.pa ∧ (nextM m q S frs z y l).fr = (frs ++ [(z, l)]) ++ [(y, waitsM m q y)]) := by
  have hzy : y ∈ waitsM m q z := h.E.nxr (z, y :: l) (by rw [hf]; simp) y (by simp)
  have hzp : z ∈ ps := h.W.st z (h.W.top hf)
  obtain ⟨ps1, hW1, hD1⟩ := h.D.next h.W G hf
  obtain ⟨ps2, hE2, h2⟩ := h.E.next h.D h.W hf
  have toA : ∀ ps', ps'.Nodup → TInv m q (nextM m q S frs z y l) ps' → (∀ u ∈ ps', Rch m q x u) → AInv m q its x (nextM m q S frs z y l) ps' := by
    intro ps' hn hT hr
    have hp : ps1.Perm ps' := (List.perm_ext_iff_of_nodup hW1.nodup hn).2 fun u => by
      rw [← hD1.perm.mem_iff, hT.mem u, List.mem_append]
    have hE := next_ps G h.W hf hW1 h2 hE2
    exact ⟨hW1.perm hp, hD1.toPerm hp, hE.same fun u => hp.mem_iff, hT, hr⟩
  rcases h.T.next h.W hf hzy with ⟨h3, h4, h5⟩ | ⟨h3, h4, h5, h6⟩
  · rcases h3 with ⟨e, _⟩ | ⟨h3, hT⟩
    · rw [hc] at e; cases e
    · exact .inl ⟨h3, toA ps h.W.nodup hT h.r, h4, h5⟩
  · refine .inr ⟨h4, toA (ps ++ [y]) ?_ h5 fun u hu => ?_, by rw [h6]; rfl, by rw [h6]; rfl⟩
    · rw [List.nodup_append]
      exact ⟨h.W.nodup, by simp, fun a ha b hb => by simp at hb; subst hb; exact fun e => h4 (e ▸ ha)⟩
    · rcases List.mem_append.1 hu with hu | hu
      · exact h.r u hu
      · simp at hu; subst hu; exact (h.r z hzp).trans (.one hzy)
theorem take_idx {v : Item} {l : List Item} {k : Nat} : v ∈ l.take k ↔ v ∈ l ∧ idxN v l < k := by
  have hs : l.take k ++ l.drop k = l := List.take_append_drop k l
  constructor
  · intro hv
    refine ⟨List.mem_of_mem_take hv, ?_⟩
    have h1 : idxN v (l.take k ++ l.drop k) = idxN v (l.take k) := idxN_in hv
    rw [hs] at h1
    have h2 := idxN_lt.2 hv
    rw [List.length_take] at h2
    omega
  · rintro ⟨h1, h2⟩
    have h3 := idxN_lt.2 h1
    by_cases hv : v ∈ l.take k
    · exact hv
    · exfalso
      have h4 : idxN v (l.take k ++ l.drop k) = (l.take k).length + idxN v (l.drop k) := by
        have h5 : ¬ idxN v (l.take k) < (l.take k).length := fun hc => hv (idxN_lt.1 hc)
        unfold idxN at h5 ⊢
        rw [List.findIdx_append, if_neg h5, Nat.add_comm]
      rw [hs, List.length_take] at h4
      omega
structure PtOk (m : RowsMK) (q : RowsML) (x : Item) (pt : Item → List Item) : Prop where
  mem : ∀ y, Rch m q x y → ∀ v, v ∈ pt y ↔ Rch m q y v ∧ Rch m q v y
  eq : ∀ y, Rch m q x y → ∀ C : List Item, C.Nodup → (∀ v, v ∈ C ↔ Rch m q y v ∧ Rch m q v y) → sortM m C = pt y
theorem ov_frame (G : GInv m its) (HC : ∀ z, Rch m q x z → (getMK m z).isSome = true) {pt : Item → List Item} (hpt : PtOk m q x pt) :
    ∀ (n : Nat) (l : List Item) (S : WS) (ps : List Item) (frs : List (Item × List Item)) (y : Item) (Z : WS), AInv m q its x S ps → S.fr = frs ++ [(y, l)] → its.length ≤ ps.length + n → Ends m q S Z →
      ∃ S' ps', AInv m q its x S' ps' ∧ S'.fr = frs ∧ Ends m q S' Z ∧ ps <+: ps' ∧ (ps', S'.pa) = ovE pt y (ps.take (idxN y ps)) (ovL (ovF m q pt n) l (ps, S.pa)) := by
  intro n
  induction n using Nat.strongRecOn with
  | ind n ihn =>
    intro l
    induction l with
    | nil =>
      intro S ps frs y Z hA hf hn hE
      have hyp : y ∈ ps := hA.W.st y (hA.W.top hf)
      obtain ⟨hT, hpa⟩ := hA.T.pop hA.D hf
      refine ⟨popM m S frs y, ps, ⟨hA.W.pop hf, hA.D.pop hA.W hf, hA.E.pop hA.D hA.W hf, hT, hA.r⟩, by unfold popM; split <;> rfl, hE.pop_inv hf, List.prefix_refl _, ?_⟩
      show (ps, (popM m S frs y).pa) = (ps, if (pt y).any (fun z => inB z (ps.take (idxN y ps))) = true then S.pa else S.pa ++ [pt y])
      rcases hpa with ⟨⟨C, hC, e1, e2⟩, e3⟩ | ⟨e1, v, v1, v2, v3, v4⟩
      · rw [e1, hpt.eq y (hA.r y hyp) C hC e2, if_neg]
        intro hc
        rw [List.any_eq_true] at hc
        obtain ⟨v, v1, v2⟩ := hc
        obtain ⟨v3, v4⟩ := take_idx.1 (inB_iff.1 v2)
        obtain ⟨v5, v6⟩ := (hpt.mem y (hA.r y hyp) v).1 v1
        have := e3 v v3 v5 v6
        omega
      · rw [e1, if_pos]
        rw [List.any_eq_true]
        exact ⟨v, (hpt.mem y (hA.r y hyp) v).2 ⟨v2, v3⟩, inB_iff.2 (take_idx.2 ⟨v1, v4⟩)⟩
    | cons y' l ihl =>
      intro S ps frs y Z hA hf hn hE
      have hyp : y ∈ ps := hA.W.st y (hA.W.top hf)
      have hyy : y' ∈ waitsM m q y := hA.E.nxr (y, y' :: l) (by rw [hf]; simp) y' (by simp)
      have hyc := HC y' ((hA.r y hyp).trans (.one hyy))
      have hE1 := hE.next_inv hf
      rcases hA.next G hf hyc with ⟨h1, h2, h3, h4⟩ | ⟨h1, h2, h3, h4⟩
      · obtain ⟨S', ps', r1, r2, r3, r4, r5⟩ := ihl _ ps frs y Z h2 h4 hn hE1
        refine ⟨S', ps', r1, r2, r3, r4, ?_⟩
        rw [r5, h3]
        have : ovL (ovF m q pt n) (y' :: l) (ps, S.pa) = ovL (ovF m q pt n) l (ps, S.pa) := by
          unfold ovL
          rw [List.foldl_cons, if_pos (inB_iff.2 h1)]
        rw [this]
      · have hlen := h2.W.le G
        rw [h2.W.ci, List.length_append] at hlen
        obtain ⟨n', rfl⟩ : ∃ n', n = n' + 1 := ⟨n - 1, by simp at hlen; omega⟩
        obtain ⟨S2, ps2, r1, r2, r3, r4, r5⟩ := ihn n' (by omega) _ _ _ _ _ Z h2 h4 (by simp; omega) hE1
        have hid : idxN y' (ps ++ [y']) = ps.length := idxN_same h1
        rw [hid, List.take_left, h3] at r5
        have r6 : (ps2, S2.pa) = ovF m q pt (n' + 1) y' (ps, S.pa) := r5
        have hpre : ps <+: ps2 := (List.prefix_append _ _).trans r4
        obtain ⟨S3, ps3, t1, t2, t3, t4, t5⟩ := ihl S2 ps2 frs y Z r1 r2 (by have := hpre.length_le; omega) r3
        refine ⟨S3, ps3, t1, t2, t3, hpre.trans t4, ?_⟩
        have hy2 : idxN y ps2 = idxN y ps ∧ ps2.take (idxN y ps) = ps.take (idxN y ps) := by
          obtain ⟨t, rfl⟩ := hpre
          have := idxN_lt.2 hyp
          exact ⟨idxN_in hyp, List.take_append_of_le_length (by omega)⟩
        rw [t5, hy2.1, hy2.2]
        have : ovL (ovF m q pt (n' + 1)) (y' :: l) (ps, S.pa) = ovL (ovF m q pt (n' + 1)) l (ps2, S2.pa) := by
          unfold ovL
          rw [List.foldl_cons, if_neg (fun hc => h1 (inB_iff.1 hc)), ← r6]
        rw [this]
theorem TInv.start (a1 : (getMK m x).isSome = true) : TInv m q (startM m q x) [x] := by
  have hv : ∀ y, y ∈ [x] → y = x := fun y hy => by simpa using hy
  have h0 : valN (putF (fun _ => none) x ((0 : Nat) : Int)) x = 0 := by unfold valN; rw [putF_same]; rfl
  exact {
    at_ := fun y hy => by
      obtain rfl := hv y hy
      show valN (putF (fun _ => none) y ((0 : Nat) : Int)) y = _
      have : idxN y [y] = 0 := idxN_same (l := []) (by simp)
      rw [h0, this]; rfl
    srt := by show List.Pairwise _ ([] ++ [x]); simp
    lle := fun y hy => by
      obtain rfl := hv y hy
      show valN (putF (fun _ => none) y ((0 : Nat) : Int)) y ≤ valN (putF (fun _ => none) y ((0 : Nat) : Int)) y
      exact Int.le_refl _
    los := fun y hy => by
      obtain rfl := hv y hy
      exact ⟨y, hy, rfl, .refl y⟩
    nf := fun y hy hn => by
      obtain rfl := hv y hy
      exact absurd (show y ∈ (([] : List (Item × List Item)) ++ [(y, waitsM m q y)]).map (·.1) by simp) hn
    ch := by show List.Pairwise _ ((([] : List (Item × List Item)) ++ [(x, waitsM m q x)]).map (·.1)); simp
    edg := fun y hy z hz => by
      obtain rfl := hv y hy
      exact .inr (.inr (.inr (.inl ⟨(y, waitsM m q y), by show _ ∈ [] ++ [(y, waitsM m q y)]; simp, rfl, hz⟩)))
    clo := fun y hy => by
      have hy : y ∈ ([] : List (List Item)).flatten := hy
      simp at hy
    scc := fun p hp => by
      have hp : p ∈ ([] : List (List Item)) := hp
      simp at hp
    ord := List.Pairwise.nil
    frs := List.Sublist.refl _
    nod := by show ([].flatten ++ ([] ++ [x])).Nodup; simp
    com := fun y hy => by
      obtain rfl := hv y hy
      exact a1
    onB := fun y hy => by
      obtain rfl := hv y hy
      show valB (putF (fun _ => none) y true) y = true ↔ y ∈ [] ++ [y]
      have : valB (putF (fun _ => none) y true) y = true := by unfold valB; rw [putF_same]; rfl
      rw [this]; simp
    mem := fun y => by show y ∈ [x] ↔ y ∈ ([] : List (List Item)).flatten ∨ y ∈ [] ++ [x]; simp
    srp := fun p hp => by
      have hp : p ∈ ([] : List (List Item)) := hp
      simp at hp }
theorem AInv.start (G : GInv m its) (a1 : (getMK m x).isSome = true) (a2 : (getML q x).isSome = false) : AInv m q its x (startM m q x) [x] := by
  obtain ⟨s1, s2, s3⟩ := start_all (q := q) G a1 a2
  exact ⟨s1, s2, s3, TInv.start a1, fun y hy => by simp at hy; subst hy; exact .refl y⟩
theorem ord_reach (G : GInv m its) {P : List (List Item)} (a1 : (getMK m x).isSome = true) (a2 : (getML q x).isSome = false) (h : OrdM m q its x P []) : ∀ z, Rch m q x z → (getMK m z).isSome = true ∧ z ∈ P.flatten := by
  obtain ⟨-, -, h3, -, h5, -⟩ := ord_all G a1 a2 h
  obtain ⟨h6, h7⟩ := h5 rfl
  intro z hz
  have : z ∈ P.flatten := by
    induction hz with
    | refl => exact h6
    | step _ h ih => exact h7 _ ih _ h
  exact ⟨(h3 z this).2, this⟩
/-- The order in which the parts are told. -/
theorem ord_told (G : GInv m its) {P : List (List Item)} (a1 : (getMK m x).isSome = true) (a2 : (getML q x).isSome = false) (h : OrdM m q its x P []) {pt : Item → List Item} (hpt : PtOk m q x pt) : P = (ovF m q pt its.length x ([], [])).2 ∧ (∀ p ∈ P, ∀ u ∈ p, ∀ v ∈ p, Rch m q u v) ∧ P.Pairwise (fun p p' => ∀ u ∈ p, ∀ v ∈ p', ¬ Rch m q u v) ∧ (∀ p ∈ P, ∃ l, p = sortM m l) ∧ ∀ y ∈ P.flatten, Rch m q x y := by
  have HC := fun z hz => (ord_reach G a1 a2 h z hz).1
  rcases h with ⟨a, _⟩ | ⟨_, Z, ps0, hE, hf, hWZ, b1, b2⟩
  · rw [a1, a2] at a; simp at a
  · have hmi : Z.mi = [] := by
      cases hm : Z.mi with
      | nil => rfl
      | cons a b =>
        have := (b1 (by rw [hm]; simp)).2
        rw [hm] at this
        simp at this
    rw [(b2 hmi).1]
    have hpos : 0 < its.length := List.length_pos_of_mem (G.mem x a1)
    obtain ⟨n, hn⟩ : ∃ n, its.length = n + 1 := ⟨its.length - 1, by omega⟩
    have hA := AInv.start (q := q) G a1 a2
    obtain ⟨S', ps', r1, r2, r3, r4, r5⟩ := ov_frame G HC hpt n (waitsM m q x) (startM m q x) [x] [] x Z hA rfl (by simp; omega) hE
    have hZ := r3.done_inv r2
    subst hZ
    refine ⟨?_, r1.T.scc, r1.T.ord, r1.T.srp, fun y hy => r1.r y ((r1.T.mem y).2 (.inl hy))⟩
    have hid : idxN x [x] = 0 := idxN_same (l := []) (by simp)
    rw [hid] at r5
    have := congrArg Prod.snd r5
    rw [hn]
    exact this
end
end Go.Proofs.Ytnjgjhjilolanaa
/- Layer 18: the document's 'is an item among others', 'before'. -/
namespace Go.Proofs.Ytnjgjhjilolanaa
open Go.RowKit Go.Shelf
set_option linter.unusedVariables false
set_option maxRecDepth 20000
attribute [local go_sem] row_alloc row_drew row_drewN row_ext row_setCell row_setRow size_ext setRow_alloc setRow_drew loadOf storeOf piece_lit loadVal_at storeVal_at allOne_lit buildOf buildRes_some
attribute [local go_sem high] cell_alloc frozen_alloc setCell_alloc cell_ext frozen_ext cell_setRow frozen_setRow
attribute [local go_sem ↓] TDeed_ld0 TDeed_st0 TDeed_fd0 TDeed_bd0
attribute [local go_sem] TDeed_size TDeed_one TDeed_piece TDeed_c0 TDeed_c1 TDeed_c2 TDeed_c3 TDeed_c4 TDeed_c5 TDeed_set_kind TDeed_set_key TDeed_set_val TDeed_set_ver TDeed_set_ses TDeed_set_num TDeed_ld TDeed_st TDeed_f_kind TDeed_f_key TDeed_f_val TDeed_f_ver TDeed_f_ses TDeed_f_num TDeed_bd TDeed_fl TDeed_fl_kind TDeed_fl_key TDeed_fl_val TDeed_fl_ver TDeed_fl_ses TDeed_fl_num
attribute [local go_sem high] TDeed_eql TDeed_neq
attribute [local go_sem ↓] index_deps0 load_deps0 store_deps0
attribute [local go_sem] DV_piece DV_size DV_one index_deps load_deps store_deps
attribute [local go_sem high] TDeps_eql TDeps_neq
attribute [local go_sem ↓] TCall_ld0 TCall_st0 TCall_fd0 TCall_bd0
attribute [local go_sem] TCall_size TCall_one TCall_piece TCall_c0 TCall_c1 TCall_c2 TCall_c3 TCall_c4 TCall_c5 TCall_c6 TCall_c7 TCall_c8 TCall_c9 TCall_c10 TCall_c11 TCall_c12 TCall_c13 TCall_p_deed TCall_put_deed TCall_p_deps TCall_put_deps TCall_set_seq TCall_ld TCall_st TCall_f_deed TCall_f_deps TCall_f_seq TCall_bd TCall_fl TCall_fl_deed TCall_fl_deps TCall_fl_seq
attribute [local go_sem high] TCall_eql TCall_neq
attribute [local go_sem ↓] TItem_ld0 TItem_st0 TItem_fd0 TItem_bd0
attribute [local go_sem] TItem_size TItem_one TItem_piece TItem_c0 TItem_c1 TItem_set_rep TItem_set_num TItem_ld TItem_st TItem_f_rep TItem_f_num TItem_bd TItem_fl TItem_fl_rep TItem_fl_num
attribute [local go_sem high] TItem_eql TItem_neq
/-- A part of such a slice is one, too. -/
theorem RowsIn.cut {α : Type} {w : World} {a : Addr} {n : Nat} {V : α → Array Value} {l : List α} (h : RowsIn w (some a) n V l) (k : Nat) : RowsIn w (some (a.add (k * n))) n V (l.drop k) where
  nil := fun h => by cases h
  cell := fun a' ha j hj i v hv => by
    injection ha with ha; subst ha
    rw [List.length_drop] at hj
    rw [List.getElem_drop] at hv
    have hc := h.cell a rfl (k + j) (by omega) i v hv
    have e : (a.add (k * n)).add (j * n) = a.add ((k + j) * n) := by
      rw [Nat.add_mul]
      unfold Addr.add
      by_cases h1 : k * n = 0 <;> by_cases h2 : j * n = 0 <;> simp [h1, h2, Nat.add_assoc]
    rw [e]; exact hc
  len := by rw [List.length_drop]; have := h.len; omega
theorem RowsIn.take {α : Type} {w : World} {A : Option Addr} {n : Nat} {V : α → Array Value} {l : List α} (h : RowsIn w A n V l) (k : Nat) : RowsIn w A n V (l.take k) where
  nil := fun e => by rw [h.nil e]; simp
  cell := fun a' ha j hj i v hv => by
    rw [List.length_take] at hj
    rw [List.getElem_take] at hv
    exact h.cell a' ha j (by omega) i v hv
  len := by rw [List.length_take]; have := h.len; omega
section
variable {w W : World} {F : Nat → Prop} {R : List Res}
set_option maxHeartbeats 4000000 in
theorem docHasIn (A : Option Addr) (c : Nat) (l : List Item) (hl : l.length ≤ 1000000) (x : Item) (W : World) (hA : RowsIn W A 2 IV l) : Calls Try.prog 23 #[.slice A l.length c, .agg (IV x)] W fun e W' => e = .returned (.bool (inB x l)) ∧ Below W.heap.size W W' := by
  have T := (Sts.start0 W).new (IV x) 35
  have HT := Lib.hid T; have HA := Lib.hid hA
  clear T hA
  obtain ⟨vr, hvr⟩ : ∃ vr, vr = inB x l := ⟨_, rfl⟩
  rw [← hvr]
  have HV := Lib.hid hvr; clear hvr
  obtain ⟨n, hn⟩ : ∃ n, n = l.length := ⟨_, rfl⟩
  rw [← hn] at hl ⊢
  have HN := Lib.hid hn
  clear hn
  go_enter Try.func23, Try.ntmps23
  go_wp2_with fail
  generalize hgx : W.heap.size = gx at *
  go_loopw [9] (fun u9 wr => ∃ k : Nat, u9 = .int .i64 k ∧ k ≤ n ∧ (∀ j y, j < k → l[j]? = some y → eqA (IV x) (IV y) = false) ∧ Sts W (fun _ => False) wr [rowR gx (IV x)]) (fun u9 _ => n - (intOf u9).toNat)
  case atStart => exact ⟨0, rfl, by omega, fun j y hj => by omega, HT.out⟩
  case round =>
    clear HT
    obtain ⟨k, rfl, hk, hno, T1⟩ := hrel
    have HNO := Lib.hid hno; clear hno
    by_cases hkn : k < n
    · have hk1 : (k : Int) < (n : Int) := by omega
      have hk0 : (0 : Int) ≤ (k : Int) := by omega
      cases A with
      | none => have := HA.out.nil rfl; subst this; have := HN.out; simp at this; omega
      | some a =>
        have hkl : k < l.length := by rw [← HN.out]; exact hkn
        have hld := HA.out.load (P := Try.prog) (T := 35) TItem_size TItem_und rfl (by kernel_rfl) (by first | exact T1.below | (rw [hgx]; exact T1.below)) rfl hkl
        obtain ⟨y, hy⟩ : ∃ y, l[k]? = some y := ⟨l[k]'hkl, List.getElem?_eq_getElem _⟩
        have hyk : l[k] = y := by rw [List.getElem?_eq_getElem hkl] at hy; injection hy
        rw [hyk] at hld
        have HY := Lib.hid hy
        have T2 := T1.new (IV y) 35
        have rx := T2.row1; have lx := row_lt rx
        have HT2 := Lib.hid T2
        clear hy T1 T2 hyk hkl
        cases he : eqA (IV x) (IV y)
        case true =>
          have hv : vr = true := by
            have h := idx_hit HY.out he HNO.out
            rw [HV.out]
            exact decide_eq_true (by rw [h.1]; exact h.2)
          have HVV := Lib.hid hv; clear hv
          go_wp2
          go_ret
          exact ⟨by rw [HVV.out]; rfl, by first | exact HT2.out.below | (rw [← hgx]; exact HT2.out.below)⟩
        case false =>
          go_wp2
          go_roundw
          case rel => exact ⟨k + 1, by go_num, by omega, fun j z hj hz => by
            rcases Nat.lt_succ_iff_lt_or_eq.1 hj with h | h
            · exact HNO.out j z h hz
            · subst h; rw [HY.out] at hz; injection hz with hz; subst hz; exact he, HT2.out.drop⟩
          case measure => simp [intOf]; omega
    · have hk1 : ¬ (k : Int) < (n : Int) := by omega
      have HT1 := Lib.hid T1; clear T1
      have hv : vr = false := by
        have h := idx_miss (x := x) (l := l) (k := k) (by have := HN.out; omega) HNO.out
        rw [HV.out]
        exact decide_eq_false (by rw [h]; omega)
      have HVV := Lib.hid hv; clear hv
      go_wp2
      go_ret
      exact ⟨by rw [HVV.out]; rfl, by first | exact HT1.out.below | (rw [← hgx]; exact HT1.out.below)⟩
theorem docHasR (v : Value) (l : List Item) (hl : l.length ≤ 1000000) (x : Item) : Reads Try.prog 23 #[v, .agg (IV x)] [vecR 35 2 v l.length (vl IV l)] (.bool (inB x l)) := by
  intro W G hS
  have TS : Sts W G W [vecR 35 2 v l.length (vl IV l)] := Sts.start hS
  obtain ⟨A, c, rfl, hA, -, -⟩ := vec_rows TItem_size TS (by omega) (by omega)
  exact docHasIn A c l hl x W hA
set_option maxHeartbeats 2000000 in
theorem ritemLess_any (x y : Item) : Ans Try.prog 41 #[.agg (IV x), .agg (IV y)] (.bool (lessI x y)) := by
  refine Ans.of_sts fun W => ?_
  have T := ((Sts.start0 W).new (IV x) 35).new (IV y) 35
  simp only [World.size_alloc] at T
  have r2 := T.row; have l2 := row_lt r2; have c2 := row_cell r2
  have r1 := T.row1; have l1 := row_lt r1; have c1 := row_cell r1
  have HT := Lib.hid T.nil; clear T
  go_enter Try.func41, Try.ntmps41
  cases h2 : (x.num == y.num)
  case false =>
    have hv : lessI x y = decide (x.num < y.num) := by unfold lessI; simp at h2; simp [h2]
    have HV := Lib.hid hv; clear hv
    go_wp2
    go_ret
    exact ⟨by rw [HV.out]; rfl, HT.out⟩
  case true =>
    have hv : lessI x y = decide (x.rep < y.rep) := by unfold lessI; simp at h2; simp [h2]
    have HV := Lib.hid hv; clear hv
    go_wp2
    go_ret
    exact ⟨by rw [HV.out]; rfl, HT.out⟩
set_option maxHeartbeats 8000000 in
theorem docBeforeR (g : Nat) (vi vc vd : Value) (items : List Item) (calls : List Call) (dn : List Item) (hlen : items.length ≤ 1000000) (hlc : calls.length = items.length) {m : RowsMK} (hget : ∀ x, getMK m x = calls[idxN x items]?) (x y : Item) (hx : x ∈ items) (hy : y ∈ items) :
    Reads Try.prog 49 #[.pointer (some ⟨g, 0, none⟩), .agg (IV x), .agg (IV y)] (docL g vi vc vd items calls dn) (.bool (befB m x y)) := by
  intro W G hS
  have T := ((Sts.start0 W).new (IV x) 35).new (IV y) 35
  simp only [World.size_alloc] at T
  have TS : Sts W G W [rowR g (docC vi vc vd), vecR 35 2 vi items.length (vl IV items), vecR 47 14 vc calls.length (vl CV calls), vecR 35 2 vd dn.length (vl IV dn)] := Sts.start hS
  have hbW := row_lt TS.row
  have hix := idxN_lt.2 hx
  have hiy := idxN_lt.2 hy
  have hjx : idxN x items < calls.length := by omega
  have hjy : idxN y items < calls.length := by omega
  obtain ⟨gcs, cc, hvc, hgl, hcx⟩ := vec_cell TCall_size (TS.ord [2, 0, 1, 3]) (by omega) hjx
  obtain ⟨gcs2, cc2, hvc2, hgl2, hcy⟩ := vec_cell TCall_size (TS.ord [2, 0, 1, 3]) (by omega) hjy
  rw [hvc] at hvc2
  injection hvc2 with e1 e2 e3
  injection e1 with e1
  injection e1 with e1
  subst e1 e3
  subst hvc
  have hcax : getMK m x = some calls[idxN x items] := by rw [hget, List.getElem?_eq_getElem hjx]
  have hcay : getMK m y = some calls[idxN y items] := by rw [hget, List.getElem?_eq_getElem hjy]
  have HBF := Lib.hid (show befB m x y = (decide (((getMK m x).getD noCall).seq < ((getMK m y).getD noCall).seq) || ((((getMK m x).getD noCall).seq == ((getMK m y).getD noCall).seq) && lessI x y)) from rfl)
  rw [hcax, hcay] at HBF
  generalize calls[idxN x items] = ca at *
  generalize calls[idxN y items] = cb at *
  simp only [Option.getD_some] at HBF
  have hc1 := hcx 13 (.int .i64 ca.seq) rfl
  have hc2 := hcy 13 (.int .i64 cb.seq) rfl
  have hrow := TS.row
  have FS : ∀ W' R', Sts W (fun _ => False) W' (rowR W.heap.size (IV x) :: rowR (W.heap.size + 1) (IV y) :: R') → (W'.cell? ⟨g, 1, none⟩ = some (.slice (some ⟨gcs, 0, none⟩) calls.length cc) ∧ row? W' W.heap.size = some (IV x) ∧ row? W' (W.heap.size + 1) = some (IV y) ∧ W'.cell? ⟨gcs, idxN x items * 14 + 13, none⟩ = some (.int .i64 ca.seq) ∧ W'.cell? ⟨gcs, idxN y items * 14 + 13, none⟩ = some (.int .i64 cb.seq)) := fun W' R' T => by
    have r := (row_below T.below hbW).trans hrow
    exact ⟨by rw [row_cell r 1]; rfl, T.row, T.row1, (T.below.cell hgl).trans hc1, (T.below.cell hgl).trans hc2⟩
  have HFS := Lib.hid FS
  have HAX := Lib.hid (fun W' (h : Below W.heap.size W W') => (docAtR g vi (.slice (some ⟨gcs, 0, none⟩) calls.length cc) vd items calls dn hlen x).at (R := []) (TS.pure h))
  have HAY := Lib.hid (fun W' (h : Below W.heap.size W W') => (docAtR g vi (.slice (some ⟨gcs, 0, none⟩) calls.length cc) vd items calls dn hlen y).at (R := []) (TS.pure h))
  rw [show idxI x items = ((idxN x items : Nat) : Int) from by unfold idxI; rw [if_pos hix]] at HAX
  rw [show idxI y items = ((idxN y items : Nat) : Int) from by unfold idxI; rw [if_pos hiy]] at HAY
  have hgW := hbW
  generalize hg2 : W.heap.size + 1 = g2 at *
  generalize hg1 : W.heap.size = g1 at *
  generalize calls.length = nc at *
  generalize idxN x items = ix at *
  generalize idxN y items = iy at *
  have hix1 : (ix : Int) < (nc : Int) := by omega
  have hix0 : (0 : Int) ≤ (ix : Int) := by omega
  have hiy1 : (iy : Int) < (nc : Int) := by omega
  have hiy0 : (0 : Int) ≤ (iy : Int) := by omega
  have HIX := Lib.hid hix1; have HIX0 := Lib.hid hix0; have HIY := Lib.hid hiy1; have HIY0 := Lib.hid hiy0
  have HT := Lib.hid (T.ord [1, 0])
  clear T TS hS FS hcx hcy hc1 hc2 hrow hgl hgl2 hix hiy hjx hjy hget hcax hcay hbW hgW hx hy hlc hlen hix1 hix0 hiy1 hiy0
  go_enter Try.func49, Try.ntmps49
  go_upto_region 1 with fail
  generalize hw3 : (W.alloc _).alloc _ = w3 at *
  clear hw3
  have S0 := HFS.out _ _ HT.out.drew
  refine wp_region_held_drew (S := fun W' => (W'.cell? ⟨g, 1, none⟩ = some (.slice (some ⟨gcs, 0, none⟩) nc cc) ∧ row? W' g1 = some (IV x) ∧ row? W' g2 = some (IV y) ∧ W'.cell? ⟨gcs, ix * 14 + 13, none⟩ = some (.int .i64 ca.seq) ∧ W'.cell? ⟨gcs, iy * 14 + 13, none⟩ = some (.int .i64 cb.seq))) (by kernel_rfl) S0 (fun hHeld => ?_)
  clear S0
  refine tkH 0 rfl (v := ?_) ?_ ?_
  rotate_left
  · intro w h; (try dsimp only at h); go_simp; try with_reducible rfl
  simp only [Act.put, List.getElem_toArray, List.getElem_cons_zero, List.setIfInBounds_toArray, List.set_cons_zero, List.set_cons_succ]
  refine tkH 1 rfl (v := ?_) ?_ ?_
  rotate_left
  · intro w h; (try dsimp only at h); go_simp; try with_reducible rfl
  go_frame
  refine tkH 2 rfl (v := ?_) ?_ ?_
  rotate_left
  · intro w h; (try dsimp only at h); go_simp; try with_reducible rfl
  go_frame
  refine tkH 3 rfl (v := ?_) ?_ ?_
  rotate_left
  · intro w h; (try dsimp only at h); go_simp; try with_reducible rfl
  go_frame
  refine tkH 4 rfl (v := ?_) ?_ ?_
  rotate_left
  · intro w h; (try dsimp only at h); go_simp; try with_reducible rfl
  go_frame
  refine tkH 5 rfl (v := ?_) ?_ ?_
  rotate_left
  · intro w h; (try dsimp only at h); go_simp; try with_reducible rfl
  go_frame
  refine wpAnyH_ready (rs := [6]) (by kernel_rfl) (by simp) ?_
  refine AllReadyH.cons (o := _) rfl (fun K hK => ?_) AllReadyH.nil
  go_simp
  refine (HAX.out _ (by first | exact HT.out.drew.below | (rw [hg1]; exact HT.out.drew.below) | (rw [← hg1]; exact HT.out.drew.below))).mono ?_
  rintro e6 w6 ⟨rfl, hb⟩
  have T6 := HT.out.drew.pure hb
  clear hb HAX HT
  refine hK.out _ _ (HFS.out _ _ T6) (fun hHeld => ?_)
  clear hK K
  have HT := Lib.hid T6; clear T6
  have hix1 := HIX.out; have hix0 := HIX0.out
  refine tkH 7 rfl (v := ?_) ?_ ?_
  rotate_left
  · intro w h; (try dsimp only at h); go_simp; try with_reducible rfl
  simp only [Act.put, List.getElem_toArray, List.getElem_cons_succ, List.getElem_cons_zero, List.setIfInBounds_toArray, List.set_cons_zero, List.set_cons_succ]
  refine tkH 8 rfl (v := ?_) ?_ ?_
  rotate_left
  · intro w h; (try dsimp only at h); go_simp; try with_reducible rfl
  go_frame
  refine tkH 9 rfl (v := ?_) ?_ ?_
  rotate_left
  · intro w h; (try dsimp only at h); go_simp; try with_reducible rfl
  go_frame
  refine tkH 10 rfl (v := ?_) ?_ ?_
  rotate_left
  · intro w h; (try dsimp only at h); go_simp; try with_reducible rfl
  go_frame
  clear hix1 hix0
  refine wpAnyH_done (by kernel_rfl) ?_ _
  try simp only [Exit.then]
  go_upto_region 2 with fail
  have S0 := HFS.out _ _ HT.out.drew
  refine wp_region_held_drew (S := fun W' => (W'.cell? ⟨g, 1, none⟩ = some (.slice (some ⟨gcs, 0, none⟩) nc cc) ∧ row? W' g1 = some (IV x) ∧ row? W' g2 = some (IV y) ∧ W'.cell? ⟨gcs, ix * 14 + 13, none⟩ = some (.int .i64 ca.seq) ∧ W'.cell? ⟨gcs, iy * 14 + 13, none⟩ = some (.int .i64 cb.seq))) (by kernel_rfl) S0 (fun hHeld => ?_)
  clear S0
  refine tkH 0 rfl (v := ?_) ?_ ?_
  rotate_left
  · intro w h; (try dsimp only at h); go_simp; try with_reducible rfl
  simp only [Act.put, List.getElem_toArray, List.getElem_cons_zero, List.setIfInBounds_toArray, List.set_cons_zero, List.set_cons_succ]
  refine tkH 1 rfl (v := ?_) ?_ ?_
  rotate_left
  · intro w h; (try dsimp only at h); go_simp; try with_reducible rfl
  go_frame
  refine tkH 2 rfl (v := ?_) ?_ ?_
  rotate_left
  · intro w h; (try dsimp only at h); go_simp; try with_reducible rfl
  go_frame
  refine tkH 3 rfl (v := ?_) ?_ ?_
  rotate_left
  · intro w h; (try dsimp only at h); go_simp; try with_reducible rfl
  go_frame
  refine tkH 4 rfl (v := ?_) ?_ ?_
  rotate_left
  · intro w h; (try dsimp only at h); go_simp; try with_reducible rfl
  go_frame
  refine tkH 5 rfl (v := ?_) ?_ ?_
  rotate_left
  · intro w h; (try dsimp only at h); go_simp; try with_reducible rfl
  go_frame
  refine wpAnyH_ready (rs := [6]) (by kernel_rfl) (by simp) ?_
  refine AllReadyH.cons (o := _) rfl (fun K hK => ?_) AllReadyH.nil
  go_simp
  refine (HAY.out _ (by first | exact HT.out.drew.below | (rw [hg1]; exact HT.out.drew.below) | (rw [← hg1]; exact HT.out.drew.below))).mono ?_
  rintro e8 w8 ⟨rfl, hb⟩
  have T8 := HT.out.drew.pure hb
  clear hb HAY HT
  refine hK.out _ _ (HFS.out _ _ T8) (fun hHeld => ?_)
  clear hK K
  have HT := Lib.hid T8; clear T8
  have hiy1 := HIY.out; have hiy0 := HIY0.out
  refine tkH 7 rfl (v := ?_) ?_ ?_
  rotate_left
  · intro w h; (try dsimp only at h); go_simp; try with_reducible rfl
  simp only [Act.put, List.getElem_toArray, List.getElem_cons_succ, List.getElem_cons_zero, List.setIfInBounds_toArray, List.set_cons_zero, List.set_cons_succ]
  refine tkH 8 rfl (v := ?_) ?_ ?_
  rotate_left
  · intro w h; (try dsimp only at h); go_simp; try with_reducible rfl
  go_frame
  refine tkH 9 rfl (v := ?_) ?_ ?_
  rotate_left
  · intro w h; (try dsimp only at h); go_simp; try with_reducible rfl
  go_frame
  refine tkH 10 rfl (v := ?_) ?_ ?_
  rotate_left
  · intro w h; (try dsimp only at h); go_simp; try with_reducible rfl
  go_frame
  clear hiy1 hiy0
  refine wpAnyH_done (by kernel_rfl) ?_ _
  try simp only [Exit.then]
  have r1 := HT.out.row; have l1 := row_lt r1
  have r2 := HT.out.row1; have l2 := row_lt r2
  have HL := Lib.hid (ritemLess_any x y)
  cases s1 : decide (ca.seq < cb.seq)
  case true =>
    have hv : befB m x y = true := by rw [HBF.out, s1]; rfl
    have HV2 := Lib.hid hv; clear hv HBF
    go_wp2
    go_ret
    exact ⟨by rw [HV2.out]; rfl, by first | exact HT.out.below | (rw [hg1]; exact HT.out.below) | (rw [← hg1]; exact HT.out.below)⟩
  case false =>
    cases s2 : (ca.seq == cb.seq)
    case false =>
      have hv : befB m x y = false := by rw [HBF.out, s1, s2]; rfl
      have HV2 := Lib.hid hv; clear hv HBF
      go_wp2
      go_ret
      exact ⟨by rw [HV2.out]; rfl, by first | exact HT.out.below | (rw [hg1]; exact HT.out.below) | (rw [← hg1]; exact HT.out.below)⟩
    case true =>
      have hv : befB m x y = lessI x y := by rw [HBF.out, s1, s2]; rfl
      have HV2 := Lib.hid hv; clear hv HBF
      go_wp2_with fail
      refine (Ans.at HL.out HT.out).mono ?_
      clear HL HT
      rintro e w5 ⟨rfl, T⟩
      have HT := Lib.hid T; clear T
      go_wp2
      go_ret
      exact ⟨by rw [HV2.out]; rfl, by first | exact HT.out.below | (rw [hg1]; exact HT.out.below) | (rw [← hg1]; exact HT.out.below)⟩
end
end Go.Proofs.Ytnjgjhjilolanaa
