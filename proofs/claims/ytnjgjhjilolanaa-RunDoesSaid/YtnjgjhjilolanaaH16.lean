/- Several texts in one. -/
import Derived.Test.YtnjgjhjilolanaaH15
/- Layer 18: what a search through a graph is, and that it ends. No walk stands here. -/
namespace Go.Proofs.Ytnjgjhjilolanaa
open Go.RowKit
set_option linter.unusedVariables false
theorem nodup_len : ∀ (ps its : List Item), ps.Nodup → (∀ y ∈ ps, y ∈ its) → ps.length ≤ its.length
  | [], _, _, _ => Nat.zero_le _
  | a :: t, its, hn, hs => by
    obtain ⟨l1, l2, rfl⟩ := List.append_of_mem (hs a (by simp))
    have h1 := nodup_len t (l1 ++ l2) (List.nodup_cons.1 hn).2 (fun y hy => by
      have h2 := hs y (by simp [hy])
      have h3 : y ≠ a := fun h => (List.nodup_cons.1 hn).1 (h ▸ hy)
      simp at h2 ⊢
      rcases h2 with h | h | h
      · exact .inl h
      · exact absurd h h3
      · exact .inr h)
    simp at h1 ⊢
    omega
theorem idxN_lt {x : Item} {l : List Item} : idxN x l < l.length ↔ x ∈ l := by
  unfold idxN
  rw [List.findIdx_lt_length]
  constructor
  · rintro ⟨y, hy, h⟩
    rw [IV_eq (eqA_iff.1 h)]; exact hy
  · intro h
    exact ⟨x, h, eqA_refl _⟩
theorem idxN_split {x : Item} {a c : List Item} (h : x ∉ a) : idxN x (a ++ x :: c) = a.length := by
  unfold idxN
  rw [List.findIdx_append]
  have h1 : a.findIdx (fun y => eqA (IV x) (IV y)) = a.length := by
    rw [List.findIdx_eq_length]
    intro y hy
    rw [eqA_no]
    intro e
    exact h (IV_eq e ▸ hy)
  rw [h1]
  simp [List.findIdx_cons, eqA_refl]
theorem putF_isSome {β : Type} (f : Item → Option β) (x : Item) (v : β) (y : Item) : (putF f x v y).isSome = true ↔ y = x ∨ (f y).isSome = true := by
  by_cases h : y = x
  · subst h; rw [putF_same]; simp
  · rw [putF_other f v h]; simp [h]
/-- From a search on the way to where it ends. -/
def EndsK (m : RowsMK) (q : RowsML) : Nat → WS → WS → Prop
  | 0, S, Z => S.fr = [] ∧ S = Z
  | k + 1, S, Z => (∃ frs x, S.fr = frs ++ [(x, [])] ∧ EndsK m q k (popM m S frs x) Z) ∨ (∃ frs x y l, S.fr = frs ++ [(x, y :: l)] ∧ EndsK m q k (nextM m q S frs x y l) Z)
def Ends (m : RowsMK) (q : RowsML) (S Z : WS) : Prop := ∃ k, EndsK m q k S Z
theorem Ends.done (m : RowsMK) (q : RowsML) {S : WS} (h : S.fr = []) : Ends m q S S := ⟨0, h, rfl⟩
theorem Ends.pop {m : RowsMK} {q : RowsML} {S Z : WS} {frs : List (Item × List Item)} {x : Item} (h : S.fr = frs ++ [(x, [])]) (e : Ends m q (popM m S frs x) Z) : Ends m q S Z := by
  obtain ⟨k, hk⟩ := e
  exact ⟨k + 1, .inl ⟨frs, x, h, hk⟩⟩
theorem Ends.next {m : RowsMK} {q : RowsML} {S Z : WS} {frs : List (Item × List Item)} {x y : Item} {l : List Item} (h : S.fr = frs ++ [(x, y :: l)]) (e : Ends m q (nextM m q S frs x y l) Z) : Ends m q S Z := by
  obtain ⟨k, hk⟩ := e
  exact ⟨k + 1, .inr ⟨frs, x, y, l, h, hk⟩⟩
/-- What is left to do. -/
def muF (fr : List (Item × List Item)) : Nat := (fr.map fun f => f.2.length + 1).sum
def muS (K : Nat) (S : WS) : Nat := (K - S.ci) * 450 + muF S.fr
theorem muF_snoc (frs : List (Item × List Item)) (f : Item × List Item) : muF (frs ++ [f]) = muF frs + (f.2.length + 1) := by simp [muF]
/-- What is known of the calls: which there are, that they fit. -/
structure GInv (m : RowsMK) (its : List Item) : Prop where
  mem : ∀ y, (getMK m y).isSome = true → y ∈ its
  fits : ∀ y ∈ its, InI y
  deps : ∀ y i, i < 7 → ((getMK m y).getD noCall).deps i ≤ 64
structure WInv (m : RowsMK) (q : RowsML) (its : List Item) (S : WS) (ps : List Item) : Prop where
  nodup : ps.Nodup
  is : ∀ y ∈ ps, (getMK m y).isSome = true
  ix : ∀ y, (S.ix y).isSome = true ↔ y ∈ ps
  ci : S.ci = ps.length
  st : ∀ y ∈ S.st, y ∈ ps
  stn : S.st.Nodup
  fr : (S.fr.map (·.1)).Sublist S.st
  nx : ∀ f ∈ S.fr, ∀ y ∈ f.2, InI y
  pa : S.pa.length + S.st.length ≤ S.ci
theorem itemsL_fit {d : Nat → Int} (hd : ∀ i, i < 7 → d i ≤ 64) : ∀ y ∈ itemsL d, InI y := by
  have h : ∀ r, r ≤ 7 → ∀ y ∈ itemsTo d r, InI y := by
    intro r
    induction r with
    | zero => intro _ y hy; simp [itemsTo] at hy
    | succ r ih =>
      intro hr y hy
      rw [itemsTo, List.mem_append] at hy
      rcases hy with hy | hy
      · exact ih (by omega) y hy
      · unfold repL at hy
        rw [List.mem_map] at hy
        obtain ⟨k, hk, rfl⟩ := hy
        rw [List.mem_range] at hk
        have := hd r (by omega)
        unfold InI
        dsimp only
        omega
  exact h 7 (Nat.le_refl _)
theorem waits_fit {m : RowsMK} {its : List Item} (G : GInv m its) (q : RowsML) (x : Item) : (∀ y ∈ waitsM m q x, InI y) ∧ (waitsM m q x).length ≤ 448 := by
  unfold waitsM
  constructor
  · intro y hy
    exact itemsL_fit (fun i hi => G.deps x i hi) y (List.mem_filter.1 hy).1
  · refine Nat.le_trans (List.length_filter_le _ _) ?_
    have := itemsTo_len (fun i hi => G.deps x i hi) 7 (Nat.le_refl _)
    unfold itemsL
    omega
section
variable {m : RowsMK} {q : RowsML} {its : List Item} {S : WS} {ps : List Item}
theorem WInv.le (h : WInv m q its S ps) (G : GInv m its) : S.ci ≤ its.length := by
  rw [h.ci]
  exact nodup_len ps its h.nodup fun y hy => G.mem y (h.is y hy)
theorem WInv.fit (h : WInv m q its S ps) (G : GInv m its) : ∀ y ∈ S.st, InI y := fun y hy => G.fits y (G.mem y (h.is y (h.st y hy)))
theorem WInv.top (h : WInv m q its S ps) {frs : List (Item × List Item)} {x : Item} {l : List Item} (hf : S.fr = frs ++ [(x, l)]) : x ∈ S.st :=
  h.fr.subset (by rw [hf]; simp)
theorem WInv.push (h : WInv m q its S ps) (G : GInv m its) {x : Item} (hx : (getMK m x).isSome = true) (hn : x ∉ ps) : WInv m q its (pushM m q x S) (ps ++ [x]) where
  nodup := by
    rw [List.nodup_append]
    exact ⟨h.nodup, by simp, fun a ha b hb => by simp at hb; subst hb; exact fun e => hn (e ▸ ha)⟩
  is y hy := by
    rcases List.mem_append.1 hy with hy | hy
    · exact h.is y hy
    · simp at hy; subst hy; exact hx
  ix y := by
    show (putF S.ix x S.ci y).isSome = true ↔ _
    rw [putF_isSome, h.ix]
    simp [or_comm]
  ci := by
    show (if (S.ix x).isSome then S.ci else S.ci + 1) = _
    rw [if_neg (by rw [h.ix]; exact hn), h.ci]
    simp
  st y hy := by
    rcases List.mem_append.1 hy with hy | hy
    · exact List.mem_append.2 (.inl (h.st y hy))
    · exact List.mem_append.2 (.inr hy)
  stn := by
    show (S.st ++ [x]).Nodup
    rw [List.nodup_append]
    exact ⟨h.stn, by simp, fun a ha b hb => by simp at hb; subst hb; exact fun e => hn (e ▸ h.st a ha)⟩
  fr := by
    show ((S.fr ++ [(x, waitsM m q x)]).map (·.1)).Sublist (S.st ++ [x])
    rw [List.map_append]
    exact h.fr.append (List.Sublist.refl _)
  nx f hf := by
    rcases List.mem_append.1 hf with hf | hf
    · exact h.nx f hf
    · simp at hf; subst hf; exact (waits_fit G q x).1
  pa := by
    show S.pa.length + (S.st ++ [x]).length ≤ (if (S.ix x).isSome then S.ci else S.ci + 1)
    rw [if_neg (by rw [h.ix]; exact hn)]
    have := h.pa
    simp
    omega
theorem push_mu {K : Nat} {x : Item} (G : GInv m its) (hx : (S.ix x).isSome = false) (hc : S.ci + 1 ≤ K) : muS K (pushM m q x S) + 1 ≤ muS K S := by
  have h1 : (pushM m q x S).ci = S.ci + 1 := by show (if (S.ix x).isSome then S.ci else S.ci + 1) = _; rw [hx]; simp
  have h2 : (pushM m q x S).fr = S.fr ++ [(x, waitsM m q x)] := rfl
  have h3 := (waits_fit G q x).2
  unfold muS
  rw [h1, h2, muF_snoc]
  have : K - S.ci = (K - (S.ci + 1)) + 1 := by omega
  have h4 : (x, waitsM m q x).2.length = (waitsM m q x).length := rfl
  rw [this, Nat.add_mul, h4]
  omega
theorem WInv.pop (h : WInv m q its S ps) {frs : List (Item × List Item)} {x : Item} (hf : S.fr = frs ++ [(x, [])]) : WInv m q its (popM m S frs x) ps := by
  have hfr : (frs.map (·.1) ++ [x]).Sublist S.st := by have := h.fr; rw [hf, List.map_append] at this; exact this
  have hfr2 : (frs.map (·.1)).Sublist S.st := (List.sublist_append_left _ _).trans hfr
  have hnx : ∀ f ∈ frs, ∀ y ∈ f.2, InI y := fun f hm => h.nx f (by rw [hf]; simp [hm])
  unfold popM
  split
  · obtain ⟨r1, r2, hst, hs1, hs2⟩ := List.append_sublist_iff.1 hfr
    have hx2 : x ∈ r2 := List.singleton_sublist.1 hs2
    obtain ⟨a, c, rfl⟩ := List.append_of_mem hx2
    have hn := h.stn
    rw [hst, ← List.append_assoc] at hn
    have hxa : x ∉ r1 ++ a := by
      intro hc
      rw [List.nodup_append] at hn
      exact hn.2.2 x hc x (by simp) rfl
    have hid : idxN x S.st = (r1 ++ a).length := by rw [hst, ← List.append_assoc]; exact idxN_split hxa
    have htk : S.st.take (idxN x S.st) = r1 ++ a := by
      rw [hid, hst, ← List.append_assoc, List.take_left]
    exact {
      nodup := h.nodup
      is := h.is
      ix := h.ix
      ci := h.ci
      st := fun y hy => h.st y (List.mem_of_mem_take hy)
      stn := h.stn.sublist (List.take_sublist _ _)
      fr := by
        show (frs.map (·.1)).Sublist (S.st.take (idxN x S.st))
        rw [htk]
        exact hs1.trans (List.sublist_append_left _ _)
      nx := hnx
      pa := by
        show (S.pa ++ [sortM m (S.st.drop (idxN x S.st))]).length + (S.st.take (idxN x S.st)).length ≤ S.ci
        have h1 := h.pa
        have h2 : idxN x S.st < S.st.length := idxN_lt.2 (h.top hf)
        simp
        omega }
  · exact { nodup := h.nodup, is := h.is, ix := h.ix, ci := h.ci, st := h.st, stn := h.stn, fr := hfr2, nx := hnx, pa := h.pa }
theorem pop_mu {K : Nat} {frs : List (Item × List Item)} {x : Item} (hf : S.fr = frs ++ [(x, [])]) : muS K (popM m S frs x) + 1 = muS K S := by
  have h1 : (popM m S frs x).ci = S.ci := by unfold popM; split <;> rfl
  have h2 : (popM m S frs x).fr = frs := by unfold popM; split <;> rfl
  unfold muS
  rw [h1, h2, hf, muF_snoc]
  simp
  omega
theorem pop_mi {frs : List (Item × List Item)} {x : Item} : (popM m S frs x).mi = S.mi := by unfold popM; split <;> rfl
theorem WInv.next (h : WInv m q its S ps) (G : GInv m its) {frs : List (Item × List Item)} {x y : Item} {l : List Item} (hf : S.fr = frs ++ [(x, y :: l)]) : ∃ ps', WInv m q its (nextM m q S frs x y l) ps' ∧ muS its.length (nextM m q S frs x y l) + 1 ≤ muS its.length S ∧ (nextM m q S frs x y l).mi.length ≤ S.mi.length + 1 := by
  have hW : WInv m q its { S with fr := frs ++ [(x, l)] } ps := {
    nodup := h.nodup
    is := h.is
    ix := h.ix
    ci := h.ci
    st := h.st
    stn := h.stn
    fr := by have := h.fr; rw [hf, List.map_append] at this; rw [List.map_append]; exact this
    nx := fun f hm z hz => by
      rcases List.mem_append.1 hm with hm | hm
      · exact h.nx f (by rw [hf]; simp [hm]) z hz
      · simp at hm; subst hm; exact h.nx (x, y :: l) (by rw [hf]; simp) z (by simp [hz])
    pa := h.pa }
  have hmu : muS its.length { S with fr := frs ++ [(x, l)] } + 1 = muS its.length S := by
    unfold muS
    rw [hf, muF_snoc, muF_snoc]
    simp
    omega
  unfold nextM
  dsimp only
  split
  · rename_i hy
    cases hix : S.ix y with
    | none =>
      have hn : y ∉ ps := fun hc => by rw [← h.ix, hix] at hc; simp at hc
      have hP := hW.push G hy hn
      have hc := hP.le G
      have hc2 : (pushM m q y { S with fr := frs ++ [(x, l)] }).ci = S.ci + 1 := by show (if (S.ix y).isSome then S.ci else S.ci + 1) = _; rw [hix]; simp
      rw [hc2] at hc
      have h8 := push_mu (S := { S with fr := frs ++ [(x, l)] }) (q := q) (x := y) G (by show (S.ix y).isSome = false; rw [hix]; rfl) hc
      have h9 : muS its.length (pushM m q y { S with fr := frs ++ [(x, l)] }) + 1 ≤ muS its.length S := Nat.le_trans h8 (Nat.le_of_lt (Nat.lt_of_succ_le (Nat.le_of_eq hmu)))
      exact ⟨_, hP, h9, Nat.le_succ _⟩
    | some at_ =>
      dsimp only
      split
      · exact ⟨ps, { nodup := hW.nodup, is := hW.is, ix := hW.ix, ci := hW.ci, st := hW.st, stn := hW.stn, fr := hW.fr, nx := hW.nx, pa := hW.pa }, Nat.le_of_eq hmu, Nat.le_succ _⟩
      · exact ⟨ps, hW, Nat.le_of_eq hmu, Nat.le_succ _⟩
  · split
    · exact ⟨ps, hW, Nat.le_of_eq hmu, Nat.le_succ _⟩
    · exact ⟨ps, { nodup := hW.nodup, is := hW.is, ix := hW.ix, ci := hW.ci, st := hW.st, stn := hW.stn, fr := hW.fr, nx := hW.nx, pa := hW.pa }, Nat.le_of_eq hmu, by simp⟩
end
end Go.Proofs.Ytnjgjhjilolanaa
/- Layer 18: a search through a graph, in memory; a frame is left. -/
namespace Go.Proofs.Ytnjgjhjilolanaa
open Go.RowKit Go.Shelf
set_option linter.unusedVariables false
set_option maxRecDepth 20000
attribute [local go_sem] row_alloc row_drew row_drewN row_ext row_setCell row_setRow size_ext setRow_alloc setRow_drew loadOf storeOf piece_lit loadVal_at storeVal_at allOne_lit buildOf buildRes_some
attribute [local go_sem high] cell_alloc frozen_alloc setCell_alloc cell_ext frozen_ext cell_setRow frozen_setRow
attribute [local go_sem ↓] TDeed_ld0 TDeed_st0 TDeed_fd0 TDeed_bd0
attribute [local go_sem] TDeed_size TDeed_one TDeed_piece TDeed_c0 TDeed_c1 TDeed_c2 TDeed_c3 TDeed_c4 TDeed_c5 TDeed_set_kind TDeed_set_key TDeed_set_val TDeed_set_ver TDeed_set_ses TDeed_set_num TDeed_ld TDeed_st TDeed_f_kind TDeed_f_key TDeed_f_val TDeed_f_ver TDeed_f_ses TDeed_f_num TDeed_bd TDeed_fl TDeed_fl_kind TDeed_fl_key TDeed_fl_val TDeed_fl_ver TDeed_fl_ses TDeed_fl_num
attribute [local go_sem high] TDeed_eql TDeed_neq
attribute [local go_sem ↓] index_deps0 load_deps0 store_deps0
attribute [local go_sem] DV_piece DV_size DV_one index_deps load_deps store_deps
attribute [local go_sem high] TDeps_eql TDeps_neq
attribute [local go_sem ↓] TCall_ld0 TCall_st0 TCall_fd0 TCall_bd0
attribute [local go_sem] TCall_size TCall_one TCall_piece TCall_c0 TCall_c1 TCall_c2 TCall_c3 TCall_c4 TCall_c5 TCall_c6 TCall_c7 TCall_c8 TCall_c9 TCall_c10 TCall_c11 TCall_c12 TCall_c13 TCall_p_deed TCall_put_deed TCall_p_deps TCall_put_deps TCall_set_seq TCall_ld TCall_st TCall_f_deed TCall_f_deps TCall_f_seq TCall_bd TCall_fl TCall_fl_deed TCall_fl_deps TCall_fl_seq
attribute [local go_sem high] TCall_eql TCall_neq
attribute [local go_sem ↓] TItem_ld0 TItem_st0 TItem_fd0 TItem_bd0
attribute [local go_sem] TItem_size TItem_one TItem_piece TItem_c0 TItem_c1 TItem_set_rep TItem_set_num TItem_ld TItem_st TItem_f_rep TItem_f_num TItem_bd TItem_fl TItem_fl_rep TItem_fl_num
attribute [local go_sem high] TItem_eql TItem_neq
theorem min_if (a b : Int) : min a b = if b < a then b else a := by
  rw [Int.min_def]
  split <;> split <;> omega
section
variable {w W : World} {F : Nat → Prop} {R : List Res} {b gc gd : Nat} {m : RowsMK} {q : RowsML}
set_option maxHeartbeats 16000000 in
theorem grPopT {K : Nat} (hK : SortsTo K) (hK6 : K ≤ 1000000) {wk N : Nat} {A : WA} {S : WS} (hA : A.le N) (hN : N + 1 + K < maxLen) (hst : S.st.length ≤ K) (hpa : S.pa.length ≤ 1000000) (hm : 0 ≤ m.n ∧ m.n ≤ 7) {frs : List (Item × List Item)} {x : Item} (hfr : S.fr = frs ++ [(x, [])]) (hfl : frs.length ≤ 1000000) (hfi : ∀ f ∈ frs, InI f.1) (hx : InI x) (hin : ∀ y ∈ S.st, InI y) (hmem : idxN x S.st < S.st.length)
    (T : Sts w F W (wkL wk b A S ++ (grL b gc gd m q ++ R))) :
    Calls Try.prog 44 #[.pointer (some ⟨wk, 0, none⟩)] W fun e W' => e = .returned (.tuple #[]) ∧ ∃ A', A'.le (N + 1 + K) ∧ Sts w F W' (wkL wk b A' (popM m S frs x) ++ (grL b gc gd m q ++ R)) := by
  obtain ⟨bi, bl, bo, n1, n2, c2, n3, c3, vs, vf, vp, vm⟩ := A
  obtain ⟨ix, ci, lo, on, st, fr, pa, mi⟩ := S
  obtain ⟨hA1, hA2, hA3⟩ := hA
  dsimp only at hst hpa hA1 hA2 hA3 hin hmem hfr
  subst hfr
  have T : Sts w F W (rowR wk (wkC b bi bl bo vs vf vp vm) :: numR bi n1 ci ix :: numR bl n2 c2 lo :: bitR bo n3 c3 on :: vecR 35 2 vs st.length (vl IV st) :: frR vf (frs ++ [(x, [])]) :: paR vp pa :: vecR 35 2 vm mi.length (vl IV mi) :: (grL b gc gd m q ++ R)) := T
  have T := T.ord [5, 0, 2, 1, 3, 4, 6, 7]
  generalize hRR : bitR bo n3 c3 on :: vecR 35 2 vs st.length (vl IV st) :: paR vp pa :: vecR 35 2 vm mi.length (vl IV mi) :: (grL b gc gd m q ++ R) = RR at *
  have HRR := Lib.hid hRR; clear hRR
  obtain ⟨gv, u, hgv, T1⟩ := T.frLast
  obtain ⟨gf, cf, rfl, hcf⟩ := T1.frTop
  obtain ⟨au, cu, rfl, -, -⟩ := (T1.ord [2, 0, 1]).cut
  have T2 := T1.ord [3, 0, 4, 5, 1, 2]
  obtain ⟨nf, hnf⟩ : ∃ nf, nf = gv.length := ⟨_, rfl⟩
  obtain ⟨nl, hnl⟩ : ∃ nl, nl = gv.length + 1 := ⟨_, rfl⟩
  have hnfl : nf ≤ 1000000 := by rw [hnf]; rw [← hgv, List.length_map] at hfl; exact hfl
  have e1 : (nl : Int) - 1 = (nf : Int) := by omega
  have e2 : (nf : Int) < (nl : Int) := by omega
  have e3 : nl ≤ cf := by omega
  have e4 : nl ≤ 1000001 := by omega
  have e5 : IntKind.i64.wrap (nf : Int) = (nf : Int) := by rw [IntKind.wrap_i64] <;> omega
  have e6 : (0 : Int) ≤ (nf : Int) := by omega
  try simp only [List.length_nil] at T2
  rw [← hnl] at T2
  have HT := Lib.hid T2
  have HNF := Lib.hid hnf; have HNL := Lib.hid hnl; have HGV := Lib.hid hgv
  clear T T1 T2 hnf hnl hgv hcf
  have FS : ∀ W' X R', Sts w F W' (rowR wk X :: R') → X[5]? = some (.slice (some ⟨gf, 0, none⟩) nl cf) → (W'.cell? ⟨wk, 5, none⟩ = some (.slice (some ⟨gf, 0, none⟩) nl cf)) := fun W' X R' T h1 => by rw [row_cell T.row 5, h1]
  have HFS := Lib.hid FS
  have HT0 := Lib.hid HT.out.drew
  have S0 := HFS.out _ _ _ HT0.out rfl
  clear HT FS
  go_enter Try.func44, Try.ntmps44
  go_upto_region 0 with fail
  refine wp_region_held_drew (S := fun W' => (W'.cell? ⟨wk, 5, none⟩ = some (.slice (some ⟨gf, 0, none⟩) nl cf))) (by kernel_rfl) S0 (fun hHeld => ?_)
  clear S0
  refine tkH 0 rfl ?_
  simp only [Act.put, List.setIfInBounds_toArray, List.set_cons_zero, List.set_cons_succ]
  refine tkH 1 rfl ?_
  go_frame
  refine tkH 2 rfl ?_
  go_frame
  refine tkH 3 rfl ?_
  go_frame
  refine tkH 4 rfl ?_
  go_frame
  refine tkH 5 rfl ?_
  go_frame
  refine tkH 6 rfl ?_
  go_frame
  refine tkH 7 rfl ?_
  go_frame
  refine tkH 8 rfl ?_
  go_frame
  refine tkH 9 rfl ?_
  go_frame
  refine tkH 10 rfl ?_
  go_frame
  refine tkH 11 rfl ?_
  go_frame
  refine wpAnyH_done (by kernel_rfl) ?_ _
  try simp only [Exit.then]
  generalize W.drew = w1 at *
  have hfc := (HT0.out.ord [1, 0]).frCells
  rw [← HNF.out] at hfc
  obtain ⟨l1, l2, l3⟩ := hfc
  go_upto_region 3 with fail
  have Ta := (HT0.out.new (IV x) 35).ord [1, 0]
  have HT := Lib.hid Ta
  clear HT0 Ta l1 l2 l3 hHeld
  generalize hw2 : w1.alloc _ = w2 at *
  generalize w1.heap.size = gx at *
  clear hw2
  have HT0 := Lib.hid HT.out.drew
  have S0 := HFS.out _ _ _ HT0.out rfl
  have HM := Lib.hid (show ∀ W' : World, (W'.cell? ⟨wk, 5, none⟩ = some (.slice (some ⟨gf, 0, none⟩) nl cf)) → True from fun _ _ => trivial)
  clear HT
  refine wp_region_stage (fun W' => (W'.cell? ⟨wk, 5, none⟩ = some (.slice (some ⟨gf, 0, none⟩) nl cf))) (fun _ => True) 14 (by kernel_rfl) S0 (fun hHeld => ?_)
  clear S0
  have e7 : (nf : Int) ≤ (cf : Int) := by omega
  refine tk0 0 rfl ?_
  simp only [Act.put, List.setIfInBounds_toArray, List.set_cons_zero, List.set_cons_succ]
  refine tk0 1 rfl ?_
  go_frame
  refine tk0 2 rfl ?_
  go_frame
  refine tk0 3 rfl ?_
  go_frame
  refine tk0 4 rfl ?_
  go_frame
  refine tk0 5 rfl ?_
  go_frame
  refine tk0 6 rfl ?_
  go_frame
  refine tk0 7 rfl ?_
  go_frame
  refine tk0 8 rfl ?_
  go_frame
  refine tk0 9 rfl ?_
  go_frame
  refine tk0 10 rfl ?_
  go_frame
  refine tk0 11 rfl ?_
  go_frame
  refine tk1 12 HM.out rfl ?_
  simp only [Act.put, List.setIfInBounds_toArray, List.set_cons_zero, List.set_cons_succ]
  refine tk0 13 rfl ?_
  simp only [Act.put, List.setIfInBounds_toArray, List.set_cons_zero, List.set_cons_succ]
  generalize w2.drew = w3 at *
  have hf := row_frozen HT0.out.row 5
  have T2 := HT0.out.setCell 5 (.slice (some ⟨gf, 0, none⟩) nf cf)
  have HT2 := Lib.hid T2; clear T2 HT0
  refine wpAnyL_ready (rs := [14]) (by kernel_rfl) (by simp) ?_
  refine AllReadyL.cons1 (o := _) rfl (by kernel_rfl) (fun K hK => ?_) AllReadyL.nil
  go_simp
  refine hK.out _ _ trivial (fun hHeld => ?_)
  clear hK K hf HFS HM
  refine wpAnyL_done (by kernel_rfl) ?_ _
  try simp only [Exit.then]
  generalize w3.setCell _ _ = w4 at *
  have T3 : Sts w F w4 (rowR wk (wkC b bi bl bo vs (.slice (some ⟨gf, 0, none⟩) nf cf) vp vm) :: rowR gx (IV x) :: vecR 105 3 (.slice (some ⟨gf, 0, none⟩) nl cf) (gv ++ [(x, Value.slice au 0 cu, ([] : List Item))]).length (vl FV (gv ++ [(x, Value.slice au 0 cu, ([] : List Item))])) :: numR bl n2 c2 lo :: numR bi n1 ci ix :: packR (gv.map (fun f => cutR f.2.1 f.2.2)) :: cutR (.slice au 0 cu) [] :: RR) := HT2.out
  have T4 := (T3.ord [2, 5, 0, 1, 3, 4]).vecShort (k := gv.length) FV_size (by simp) (A := some ⟨gf, 0, none⟩) (c := cf) (by rw [HNL.out]; simp)
  rw [List.take_left] at T4
  have T5 := T4.frShut2
  rw [HGV.out, ← HNF.out] at T5
  have T6 := (T5.ord [5, 1, 2, 0, 3, 4]).drop
  have HT := Lib.hid T6
  have hnf : nf = frs.length := by rw [HNF.out, ← HGV.out, List.length_map]
  have HNF2 := Lib.hid hnf
  clear HT2 T3 T4 T5 T6 HNF HNL HGV hnf e1 e2 e3 e4 e7
  obtain ⟨lo', hlo'⟩ : ∃ lo', lo' = upM lo frs x := ⟨_, rfl⟩
  go_step
  go_step
  go_cut [4] from 43 to 79 (fun u4 wx => Sts w F wx [] ∧ ∃ n2' c2', n2' ≤ n2 + 1 ∧ Sts w F wx (rowR wk (wkC b bi bl bo vs (.slice (some ⟨gf, 0, none⟩) nf cf) vp vm) :: rowR gx (IV x) :: frR (.slice (some ⟨gf, 0, none⟩) nf cf) frs :: numR bl n2' c2' lo' :: numR bi n1 ci ix :: RR))
  case first =>
    rcases List.eq_nil_or_concat frs with rfl | ⟨frs', ⟨up, lu⟩, rfl⟩
    · obtain rfl : nf = 0 := HNF2.out
      obtain rfl : lo' = lo := hlo'
      have r := HT.out.row; have lr := row_lt r
      have c5 : w4.cell? ⟨wk, 5, none⟩ = some (.slice (some ⟨gf, 0, none⟩) 0 cf) := by rw [row_cell r 5]; rfl
      go_wp2
      go_meet
      case rel => exact ⟨HT.out.nil, n2, c2, by omega, HT.out⟩
    · rw [List.concat_eq_append] at *
      rw [upM_snoc] at hlo'
      have hup : InI up := hfi (up, lu) (by simp)
      have hnf0 : (0 : Int) < (nf : Int) := by rw [HNF2.out, List.length_append, List.length_singleton]; omega
      have hnf1 : 0 < nf := by omega
      obtain ⟨gv2, u2, hgv2, T1⟩ := (HT.out.ord [2, 0, 1]).frLast
      obtain ⟨nu, hnu⟩ : ∃ nu, nu = gv2.length := ⟨_, rfl⟩
      have e1 : (nf : Int) - 1 = (nu : Int) := by
        rw [HNF2.out, hnu, List.length_append, List.length_singleton, ← hgv2, List.length_map]; omega
      have e2 : (nu : Int) < (nf : Int) := by omega
      have e7 : IntKind.i64.wrap (nu : Int) = (nu : Int) := by rw [IntKind.wrap_i64] <;> omega
      have e8 : (0 : Int) ≤ (nu : Int) := by omega
      have r := HT.out.row; have lr := row_lt r
      have c5 : w4.cell? ⟨wk, 5, none⟩ = some (.slice (some ⟨gf, 0, none⟩) nf cf) := by rw [row_cell r 5]; rfl
      have T2 := T1.ord [0, 3, 4, 1, 2, 5, 6]
      have HT2 := Lib.hid T2.drew
      have HNU := Lib.hid hnu; have HGV2 := Lib.hid hgv2
      clear T1 T2 hnu hgv2
      have FS : ∀ W' X R', Sts w F W' (vecR 105 3 (.slice (some ⟨gf, 0, none⟩) nf cf) (gv2 ++ [(up, u2, lu)]).length (vl FV (gv2 ++ [(up, u2, lu)])) :: rowR wk X :: R') → X[5]? = some (.slice (some ⟨gf, 0, none⟩) nf cf) → (W'.cell? ⟨wk, 5, none⟩ = some (.slice (some ⟨gf, 0, none⟩) nf cf) ∧ loadVal Try.prog 35 2 W' (.pointer (some ⟨gf, nu * 3, none⟩)) = .ok (.agg (IV up)) W') := fun W' X R' T h1 => ⟨by rw [row_cell T.row1 5, h1], by rw [HNU.out]; exact T.frCells.2.1⟩
      have HFS := Lib.hid FS
      have S0 := HFS.out _ _ _ HT2.out rfl
      go_upto_region 5 with fail
      clear c5 r lr FS HT
      refine wp_region_held_drew (S := fun W' => (W'.cell? ⟨wk, 5, none⟩ = some (.slice (some ⟨gf, 0, none⟩) nf cf) ∧ loadVal Try.prog 35 2 W' (.pointer (some ⟨gf, nu * 3, none⟩)) = .ok (.agg (IV up)) W')) (by kernel_rfl) S0 (fun hHeld => ?_)
      clear S0
      refine tkH 0 rfl ?_
      simp only [Act.put, List.setIfInBounds_toArray, List.set_cons_zero, List.set_cons_succ]
      refine tkH 1 rfl ?_
      go_frame
      refine tkH 2 rfl ?_
      go_frame
      refine tkH 3 rfl ?_
      go_frame
      refine tkH 4 rfl ?_
      go_frame
      refine tkH 5 rfl ?_
      go_frame
      refine tkH 6 rfl ?_
      go_frame
      refine tkH 7 rfl ?_
      go_frame
      refine tkH 8 rfl ?_
      go_frame
      refine tkH 9 rfl ?_
      go_frame
      refine tkH 10 rfl ?_
      go_frame
      refine tkH 11 rfl ?_
      go_frame
      refine tkH 12 rfl ?_
      go_frame
      generalize w4.drew = w5 at *
      have T1 := HT2.out.new #[.int .i64 0, .int .i64 0] 35
      have r1 := T1.row; have l1 := row_lt r1
      have HT1 := Lib.hid T1; clear T1
      refine wpAnyH_ready (rs := [13]) (by kernel_rfl) (by simp) ?_
      refine AllReadyH.cons (o := _) rfl (fun K hK => ?_) AllReadyH.nil
      go_simp
      refine hK.out _ _ (HFS.out _ _ _ (HT1.out.ord [1, 2, 0]) rfl) (fun hHeld => ?_)
      clear hK K
      have T3 := HT2.out.new (IV up) 35
      have HT3 := Lib.hid T3; clear T3 HT2
      refine wpAnyH_ready (rs := [14]) (by kernel_rfl) (by simp) ?_
      refine AllReadyH.cons (o := _) rfl (fun K hK => ?_) AllReadyH.nil
      go_simp
      refine hK.out _ _ (HFS.out _ _ _ (HT3.out.ord [1, 2, 0]) rfl) (fun hHeld => ?_)
      clear hK K r1 l1 HT1 HFS
      refine wpAnyH_done (by kernel_rfl) ?_ _
      try simp only [Exit.then]
      generalize w5.alloc (.cells (IV up) 35) = w6 at *
      generalize w5.heap.size = gu at *
      have T4 := (HT3.out.ord [1, 4, 5, 2, 0, 3]).frShut3
      rw [HGV2.out] at T4
      have T5 := (T4.ord [1, 2, 3, 4, 0]).drew
      have HT := Lib.hid T5
      clear HT3 T4 T5
      have FS : ∀ W' X R', Sts w F W' (rowR wk X :: rowR gu (IV up) :: rowR gx (IV x) :: numR bl n2 c2 lo :: R') → X[2]? = some (.map (some bl)) → (W'.cell? ⟨wk, 2, none⟩ = some (.map (some bl)) ∧ row? W' gu = some (IV up) ∧ row? W' gx = some (IV x) ∧ (Instr.lookup 64 (.map (some bl)) (.agg (IV up)) false).run Try.prog W' = .ok (.int .i64 (valN lo up)) W' ∧ (Instr.lookup 64 (.map (some bl)) (.agg (IV x)) false).run Try.prog W' = .ok (.int .i64 (valN lo x)) W') := fun W' X R' T h1 => ⟨by rw [row_cell T.row 2, h1], T.row1, T.row2, (T.ord [3, 0, 1, 2]).lookN up hup, (T.ord [3, 0, 1, 2]).lookN x hx⟩
      have HFS := Lib.hid FS
      have S0 := HFS.out _ _ _ HT.out rfl
      have HM := Lib.hid (show ∀ W' : World, (W'.cell? ⟨wk, 2, none⟩ = some (.map (some bl)) ∧ row? W' gu = some (IV up) ∧ row? W' gx = some (IV x) ∧ (Instr.lookup 64 (.map (some bl)) (.agg (IV up)) false).run Try.prog W' = .ok (.int .i64 (valN lo up)) W' ∧ (Instr.lookup 64 (.map (some bl)) (.agg (IV x)) false).run Try.prog W' = .ok (.int .i64 (valN lo x)) W') → True from fun _ _ => trivial)
      obtain ⟨w7, h7, T7, hsz⟩ := (HT.out.ord [3, 0, 1, 2]).mapCPut itemOk Try.underlying64 (by omega) up hup (if valN lo x < valN lo up then valN lo x else valN lo up)
      rw [← min_if, ← hlo'] at T7
      have HT7 := Lib.hid (T7.ord [2, 1, 3, 4, 0]).drop; have H7 := Lib.hid h7
      clear FS HT T7 hsz h7 hlo'
      generalize valN lo up = v1 at *
      generalize valN lo x = v2 at *
      go_upto_region 6 with fail
      refine wp_region_stage (fun W' => (W'.cell? ⟨wk, 2, none⟩ = some (.map (some bl)) ∧ row? W' gu = some (IV up) ∧ row? W' gx = some (IV x) ∧ (Instr.lookup 64 (.map (some bl)) (.agg (IV up)) false).run Try.prog W' = .ok (.int .i64 v1) W' ∧ (Instr.lookup 64 (.map (some bl)) (.agg (IV x)) false).run Try.prog W' = .ok (.int .i64 v2) W')) (fun _ => True) 18 (by kernel_rfl) S0 (fun hHeld => ?_)
      clear S0
      refine tk0 0 rfl ?_
      simp only [Act.put, List.setIfInBounds_toArray, List.set_cons_zero, List.set_cons_succ]
      refine tk0 1 rfl ?_
      go_frame
      refine tk0 2 rfl ?_
      go_frame
      refine tk0 3 rfl ?_
      go_frame
      refine tk0 4 rfl ?_
      go_frame
      refine tk0 5 rfl ?_
      go_frame
      refine tk0 6 rfl ?_
      go_frame
      refine tk0 7 rfl ?_
      go_frame
      refine tk0 8 rfl ?_
      go_frame
      refine tk0 9 rfl ?_
      go_frame
      refine tk0 10 rfl ?_
      go_frame
      refine tk0 11 rfl ?_
      go_frame
      refine tk0 12 rfl ?_
      go_frame
      refine tk0 13 rfl ?_
      go_frame
      refine tk0 14 rfl ?_
      go_frame
      refine tk0 15 rfl ?_
      go_frame
      refine tk0 16 rfl ?_
      go_frame
      refine tk0 17 rfl ?_
      go_frame
      have h7 := H7.out
      refine wpAnyL_ready (rs := [18]) (by kernel_rfl) (by simp) ?_
      refine AllReadyL.cons1 (o := _) rfl (by kernel_rfl) (fun K hK => ?_) AllReadyL.nil
      go_simp
      refine hK.out _ _ trivial (fun hHeld => ?_)
      clear hK K HFS HM H7 h7
      refine wpAnyL_done (by kernel_rfl) ?_ _
      try simp only [Exit.then]
      generalize ite (v2 < v1) v2 v1 = kk at *
      go_wp2
      go_meet
      case rel => exact ⟨HT7.out.nil, _, _, Nat.le_refl _, HT7.out⟩
  case rest =>
    obtain ⟨-, n2', c2', hn2, T⟩ := hcut
    have FS : ∀ W' X R', Sts w F W' (rowR wk X :: rowR gx (IV x) :: frR (.slice (some ⟨gf, 0, none⟩) nf cf) frs :: numR bl n2' c2' lo' :: numR bi n1 ci ix :: R') → X[1]? = some (.map (some bi)) → X[2]? = some (.map (some bl)) → (W'.cell? ⟨wk, 1, none⟩ = some (.map (some bi)) ∧ W'.cell? ⟨wk, 2, none⟩ = some (.map (some bl)) ∧ row? W' gx = some (IV x) ∧ (Instr.lookup 64 (.map (some bl)) (.agg (IV x)) false).run Try.prog W' = .ok (.int .i64 (valN lo' x)) W' ∧ (Instr.lookup 64 (.map (some bi)) (.agg (IV x)) false).run Try.prog W' = .ok (.int .i64 (valN ix x)) W') := fun W' X R' T h1 h2 => ⟨by rw [row_cell T.row 1, h1], by rw [row_cell T.row 2, h2], T.row1, (T.ord [3, 0, 1, 2]).lookN x hx, (T.ord [4, 0, 1, 2, 3]).lookN x hx⟩
    have HT2 := Lib.hid T.drew
    have S0 := FS _ _ _ HT2.out rfl rfl
    clear T FS HT
    obtain ⟨v1, hv1⟩ : ∃ v1, v1 = valN lo' x := ⟨_, rfl⟩
    obtain ⟨v2, hv2⟩ : ∃ v2, v2 = valN ix x := ⟨_, rfl⟩
    rw [← hv1, ← hv2] at S0
    have HV1 := Lib.hid hv1; have HV2 := Lib.hid hv2; have HLO := Lib.hid hlo'
    clear hv1 hv2 hlo'
    go_upto_region 7 with fail
    refine wp_region_held_drew (S := fun W' => (W'.cell? ⟨wk, 1, none⟩ = some (.map (some bi)) ∧ W'.cell? ⟨wk, 2, none⟩ = some (.map (some bl)) ∧ row? W' gx = some (IV x) ∧ (Instr.lookup 64 (.map (some bl)) (.agg (IV x)) false).run Try.prog W' = .ok (.int .i64 v1) W' ∧ (Instr.lookup 64 (.map (some bi)) (.agg (IV x)) false).run Try.prog W' = .ok (.int .i64 v2) W')) (by kernel_rfl) S0 (fun hHeld => ?_)
    clear S0
    refine tkH 0 rfl ?_
    simp only [Act.put, List.setIfInBounds_toArray, List.set_cons_zero, List.set_cons_succ]
    refine tkH 1 rfl ?_
    go_frame
    refine tkH 2 rfl ?_
    go_frame
    refine tkH 3 rfl ?_
    go_frame
    refine tkH 4 rfl ?_
    go_frame
    refine tkH 5 rfl ?_
    go_frame
    refine tkH 6 rfl ?_
    go_frame
    refine tkH 7 rfl ?_
    go_frame
    refine tkH 8 rfl ?_
    go_frame
    refine tkH 9 rfl ?_
    go_frame
    refine tkH 10 rfl ?_
    go_frame
    refine tkH 11 rfl ?_
    go_frame
    refine tkH 12 rfl ?_
    go_frame
    refine wpAnyH_done (by kernel_rfl) ?_ _
    try simp only [Exit.then]
    generalize World.drew _ = w8 at *
    clear hHeld
    have T2 := HT2.out.ord [0, 4, 3, 2, 1]
    rw [← HRR.out] at T2
    have T3 : Sts w F w8 (rowR wk (wkC b bi bl bo vs (.slice (some ⟨gf, 0, none⟩) nf cf) vp vm) :: numR bi n1 ci ix :: numR bl n2' c2' lo' :: frR (.slice (some ⟨gf, 0, none⟩) nf cf) frs :: rowR gx (IV x) :: bitR bo n3 c3 on :: vecR 35 2 vs st.length (vl IV st) :: paR vp pa :: vecR 35 2 vm mi.length (vl IV mi) :: rowR b #[.pointer (some ⟨gc, 0, none⟩), .pointer (some ⟨gd, 0, none⟩)] :: rowsIRK gc m :: rowsIRL gd q :: R) := T2
    have T4 := T3.ord [0, 1, 2, 5, 6, 3, 7, 8, 9, 10, 11, 4]
    have HT := Lib.hid T4
    clear T2 T3 T4 HT2 HRR
    by_cases hv : v1 = v2
    · have hp : popM m ⟨ix, ci, lo, on, st, frs ++ [(x, [])], pa, mi⟩ frs x = partM m x ⟨ix, ci, lo', on, st, frs, pa, mi⟩ := by
        unfold popM
        dsimp only
        rw [if_pos (by rw [← HLO.out, ← HV1.out, ← HV2.out]; exact hv), ← HLO.out]
      have HPM := Lib.hid hp
      have HP := Lib.hid (grPartT (R := rowR gx (IV x) :: R) (wk := wk) (N := N + 1) (A := ⟨bi, bl, bo, n1, n2', c2', n3, c3, vs, .slice (some ⟨gf, 0, none⟩) nf cf, vp, vm⟩) (S := ⟨ix, ci, lo', on, st, frs, pa, mi⟩) hK hK6 ⟨by dsimp only; omega, by dsimp only; omega, by dsimp only; omega⟩ hN hst hpa hm x hin hmem HT.out)
      have hr := (HT.out.ord [11, 0, 1, 2, 3, 4, 5, 6, 7, 8, 9, 10]).row
      have hlt := row_lt hr
      clear hp
      go_wp2_with fail
      refine HP.out.mono ?_
      clear HP HT hr hlt
      rintro e5 w5 ⟨rfl, A', hA', T⟩
      have T : Sts w F w5 (wkL wk b A' (partM m x ⟨ix, ci, lo', on, st, frs, pa, mi⟩) ++ (grL b gc gd m q ++ rowR gx (IV x) :: R)) := T
      have HT := Lib.hid T; clear T
      go_wp2
      try simp only [Exit.inBlock, Exit.then]
      refine bodyPost_ret (results_none rfl _ _ _) rfl ?_
      rw [HPM.out]
      refine ⟨rfl, A', hA', ?_⟩
      have T5 : Sts w F w5 (rowR gx (IV x) :: ((wkL wk b A' (partM m x ⟨ix, ci, lo', on, st, frs, pa, mi⟩) ++ grL b gc gd m q) ++ R)) := HT.out.perm (by
        rw [← List.append_assoc]
        exact List.perm_middle)
      have T6 := T5.drop
      rw [List.append_assoc] at T6
      exact T6
    · have hp : popM m ⟨ix, ci, lo, on, st, frs ++ [(x, [])], pa, mi⟩ frs x = ⟨ix, ci, lo', on, st, frs, pa, mi⟩ := by
        unfold popM
        dsimp only
        rw [if_neg (by rw [← HLO.out, ← HV1.out, ← HV2.out]; exact hv), ← HLO.out]
      have HPM := Lib.hid hp
      clear hp
      go_wp2
      try simp only [Exit.inBlock, Exit.then]
      refine bodyPost_ret (results_none rfl _ _ _) rfl ?_
      rw [HPM.out]
      refine ⟨rfl, ⟨bi, bl, bo, n1, n2', c2', n3, c3, vs, .slice (some ⟨gf, 0, none⟩) nf cf, vp, vm⟩, ⟨by dsimp only; omega, by dsimp only; omega, by dsimp only; omega⟩, ?_⟩
      have T5 := (HT.out.ord [11, 0, 1, 2, 3, 4, 5, 6, 7, 8, 9, 10]).drop
      exact T5
end
end Go.Proofs.Ytnjgjhjilolanaa
