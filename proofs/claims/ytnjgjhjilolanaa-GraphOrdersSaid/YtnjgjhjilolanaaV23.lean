/- Several texts in one. -/
import Derived.Test.YtnjgjhjilolanaaV22
import Derived.Test.YtnjgjhjilolanaaV16
/- Layer 18, plain: what is told at a search's end: each once, nothing that is over; the item itself, if nothing is missing. -/
namespace Go.Proofs.Ytnjgjhjilolanaa
open Go.RowKit
set_option linter.unusedVariables false
structure DInv (m : RowsMK) (q : RowsML) (x : Item) (S : WS) (ps : List Item) : Prop where
  perm : (S.pa.flatten ++ S.st).Perm ps
  nov : ∀ y ∈ ps, (getML q y).isSome = false
  nxv : ∀ f ∈ S.fr, ∀ y ∈ f.2, (getML q y).isSome = false
  xin : x ∈ ps
  lo0 : ∀ y, 0 ≤ valN S.lo y
  ix0 : ∀ y, 0 ≤ valN S.ix y
  lox : valN S.lo x = 0
  ixx : valN S.ix x = 0
  last : S.fr = [] → x ∈ S.pa.flatten
  head : ∀ f fs, S.fr = f :: fs → f.1 = x
theorem valN_put (f : Item → Option Int) (x : Item) (v : Int) (y : Item) : valN (putF f x v) y = v ∧ y = x ∨ valN (putF f x v) y = valN f y ∧ y ≠ x := by
  by_cases h : y = x
  · subst h; left; exact ⟨by unfold valN; rw [putF_same]; rfl, rfl⟩
  · right; exact ⟨by unfold valN; rw [putF_other f v h], h⟩
theorem waits_nov (m : RowsMK) (q : RowsML) (x : Item) : ∀ y ∈ waitsM m q x, (getML q y).isSome = false := by
  intro y hy
  unfold waitsM at hy
  have h := (List.mem_filter.1 hy).2
  unfold waitB at h
  simp at h
  simp [h.2]
section
variable {m : RowsMK} {q : RowsML} {its : List Item} {S : WS} {ps : List Item} {x : Item}
theorem DInv.push (h : DInv m q x S ps) (hf : S.fr ≠ []) {y : Item} (hn : y ∉ ps) (hv : (getML q y).isSome = false) : DInv m q x (pushM m q y S) (ps ++ [y]) where
  perm := by
    show (S.pa.flatten ++ (S.st ++ [y])).Perm (ps ++ [y])
    rw [← List.append_assoc]
    exact h.perm.append_right [y]
  nov z hz := by
    rcases List.mem_append.1 hz with hz | hz
    · exact h.nov z hz
    · simp at hz; subst hz; exact hv
  nxv f hf z hz := by
    rcases List.mem_append.1 (show f ∈ S.fr ++ [(y, waitsM m q y)] from hf) with hf | hf
    · exact h.nxv f hf z hz
    · simp at hf; subst hf; exact waits_nov m q y z hz
  xin := by simp [h.xin]
  lo0 z := by
    show 0 ≤ valN (putF S.lo y S.ci) z
    rcases valN_put S.lo y S.ci z with ⟨e, _⟩ | ⟨e, _⟩
    · rw [e]; omega
    · rw [e]; exact h.lo0 z
  ix0 z := by
    show 0 ≤ valN (putF S.ix y S.ci) z
    rcases valN_put S.ix y S.ci z with ⟨e, _⟩ | ⟨e, _⟩
    · rw [e]; omega
    · rw [e]; exact h.ix0 z
  lox := by
    show valN (putF S.lo y S.ci) x = 0
    rcases valN_put S.lo y S.ci x with ⟨_, e⟩ | ⟨e, _⟩
    · exact absurd (e ▸ h.xin) hn
    · rw [e]; exact h.lox
  ixx := by
    show valN (putF S.ix y S.ci) x = 0
    rcases valN_put S.ix y S.ci x with ⟨_, e⟩ | ⟨e, _⟩
    · exact absurd (e ▸ h.xin) hn
    · rw [e]; exact h.ixx
  last hc := by
    have : S.fr ++ [(y, waitsM m q y)] = [] := hc
    simp at this
  head f fs hc := by
    have hc : S.fr ++ [(y, waitsM m q y)] = f :: fs := hc
    cases hS : S.fr with
    | nil => exact absurd hS hf
    | cons a b =>
      rw [hS] at hc
      simp at hc
      rw [← hc.1]
      exact h.head a b hS
theorem DInv.setLo (h : DInv m q x S ps) {u : Item} {v : Int} (hv : 0 ≤ v) (hx : u = x → v = 0) : DInv m q x { S with lo := putF S.lo u v } ps where
  perm := h.perm
  nov := h.nov
  nxv := h.nxv
  xin := h.xin
  lo0 z := by
    show 0 ≤ valN (putF S.lo u v) z
    rcases valN_put S.lo u v z with ⟨e, _⟩ | ⟨e, _⟩
    · rw [e]; exact hv
    · rw [e]; exact h.lo0 z
  ix0 := h.ix0
  lox := by
    show valN (putF S.lo u v) x = 0
    rcases valN_put S.lo u v x with ⟨e, e2⟩ | ⟨e, _⟩
    · rw [e]; exact hx e2.symm
    · rw [e]; exact h.lox
  ixx := h.ixx
  last := h.last
  head := h.head
theorem part_perm (m : RowsMK) (pa : List (List Item)) (st : List Item) (k : Nat) : ((pa ++ [sortM m (st.drop k)]).flatten ++ st.take k).Perm (pa.flatten ++ st) := by
  rw [List.flatten_append, List.flatten_singleton, List.append_assoc]
  refine List.Perm.append_left _ ?_
  have h1 : (sortM m (st.drop k) ++ st.take k).Perm (st.drop k ++ st.take k) := (sortM_perm m _).append_right _
  refine h1.trans ?_
  have h2 : (st.drop k ++ st.take k).Perm (st.take k ++ st.drop k) := List.perm_append_comm
  rw [List.take_append_drop] at h2
  exact h2
theorem DInv.pop (h : DInv m q x S ps) (hW : WInv m q its S ps) {frs : List (Item × List Item)} {y : Item} (hf : S.fr = frs ++ [(y, [])]) : DInv m q x (popM m S frs y) ps := by
  have hlo : (∀ z, 0 ≤ valN (upM S.lo frs y) z) ∧ valN (upM S.lo frs y) x = 0 := by
    rcases List.eq_nil_or_concat frs with rfl | ⟨fs, u, rfl⟩
    · rw [upM_nil]; exact ⟨h.lo0, h.lox⟩
    · rw [List.concat_eq_append, upM_snoc]
      have hmin : 0 ≤ min (valN S.lo u.1) (valN S.lo y) := by
        have := h.lo0 u.1; have := h.lo0 y; omega
      have := (h.setLo (u := u.1) (v := min (valN S.lo u.1) (valN S.lo y)) hmin (fun e => by rw [e, h.lox]; have := h.lo0 y; omega))
      exact ⟨this.lo0, this.lox⟩
  have hnx : ∀ f ∈ frs, ∀ z ∈ f.2, (getML q z).isSome = false := fun f hm => h.nxv f (by rw [hf]; simp [hm])
  have hhead : ∀ f fs, frs = f :: fs → f.1 = x := fun f fs he => h.head f (fs ++ [(y, [])]) (by rw [hf, he]; rfl)
  unfold popM
  split
  · rename_i hc
    exact {
      perm := by
        show ((S.pa ++ [sortM m (S.st.drop (idxN y S.st))]).flatten ++ S.st.take (idxN y S.st)).Perm ps
        exact (part_perm m _ _ _).trans h.perm
      nov := h.nov
      nxv := hnx
      xin := h.xin
      lo0 := hlo.1
      ix0 := h.ix0
      lox := hlo.2
      ixx := h.ixx
      last := fun he => by
        have he : frs = [] := he
        subst he
        have hy : y = x := h.head (y, []) [] (by rw [hf]; rfl)
        subst hy
        show y ∈ (S.pa ++ [sortM m (S.st.drop (idxN y S.st))]).flatten
        rw [List.flatten_append, List.flatten_singleton]
        refine List.mem_append.2 (.inr ((sortM_perm m _).mem_iff.2 ?_))
        have hlt : idxN y S.st < S.st.length := idxN_lt.2 (hW.top hf)
        have h1 : S.st[idxN y S.st]'hlt = y := by
          have := List.findIdx_getElem (xs := S.st) (p := fun z => eqA (IV y) (IV z)) (w := hlt)
          exact (IV_eq (eqA_iff.1 this)).symm
        rw [List.drop_eq_getElem_cons hlt, h1]
        simp
      head := hhead }
  · rename_i hc
    exact {
      perm := h.perm
      nov := h.nov
      nxv := hnx
      xin := h.xin
      lo0 := hlo.1
      ix0 := h.ix0
      lox := hlo.2
      ixx := h.ixx
      last := fun he => by
        have he : frs = [] := he
        subst he
        have hy : y = x := h.head (y, []) [] (by rw [hf]; rfl)
        subst hy
        exact absurd (by rw [hlo.2, h.ixx]) hc
      head := hhead }
theorem DInv.next (h : DInv m q x S ps) (hW : WInv m q its S ps) (G : GInv m its) {frs : List (Item × List Item)} {z y : Item} {l : List Item} (hf : S.fr = frs ++ [(z, y :: l)]) : ∃ ps', WInv m q its (nextM m q S frs z y l) ps' ∧ DInv m q x (nextM m q S frs z y l) ps' := by
  have hD : DInv m q x { S with fr := frs ++ [(z, l)] } ps := {
    perm := h.perm
    nov := h.nov
    nxv := fun f hm w hw => by
      rcases List.mem_append.1 hm with hm | hm
      · exact h.nxv f (by rw [hf]; simp [hm]) w hw
      · simp at hm; subst hm; exact h.nxv (z, y :: l) (by rw [hf]; simp) w (by simp [hw])
    xin := h.xin
    lo0 := h.lo0
    ix0 := h.ix0
    lox := h.lox
    ixx := h.ixx
    last := fun he => by
      have he : frs ++ [(z, l)] = [] := he
      simp at he
    head := fun f fs he => by
      have he : frs ++ [(z, l)] = f :: fs := he
      cases frs with
      | nil =>
        simp at he
        rw [← he.1]
        exact h.head (z, y :: l) [] (by rw [hf]; rfl)
      | cons a b =>
        simp at he
        rw [← he.1]
        exact h.head a (b ++ [(z, y :: l)]) (by rw [hf]; rfl) }
  have hW2 : WInv m q its { S with fr := frs ++ [(z, l)] } ps := {
    nodup := hW.nodup
    is := hW.is
    ix := hW.ix
    ci := hW.ci
    st := hW.st
    stn := hW.stn
    fr := by have := hW.fr; rw [hf, List.map_append] at this; rw [List.map_append]; exact this
    nx := fun f hm w hw => by
      rcases List.mem_append.1 hm with hm | hm
      · exact hW.nx f (by rw [hf]; simp [hm]) w hw
      · simp at hm; subst hm; exact hW.nx (z, y :: l) (by rw [hf]; simp) w (by simp [hw])
    pa := hW.pa }
  have hyv : (getML q y).isSome = false := h.nxv (z, y :: l) (by rw [hf]; simp) y (by simp)
  unfold nextM
  dsimp only
  split
  · rename_i hy
    cases hix : S.ix y with
    | none =>
      have hn : y ∉ ps := fun hc => by rw [← hW.ix, hix] at hc; simp at hc
      dsimp only
      exact ⟨_, hW2.push G hy hn, hD.push (by simp) hn hyv⟩
    | some at_ =>
      dsimp only
      split
      · have hat : 0 ≤ at_ := by have := h.ix0 y; unfold valN at this; rw [hix] at this; exact this
        have hmin : 0 ≤ min (valN S.lo z) at_ := by have := h.lo0 z; omega
        exact ⟨ps, { nodup := hW2.nodup, is := hW2.is, ix := hW2.ix, ci := hW2.ci, st := hW2.st, stn := hW2.stn, fr := hW2.fr, nx := hW2.nx, pa := hW2.pa }, hD.setLo hmin (fun e => by rw [e, h.lox]; omega)⟩
      · exact ⟨ps, hW2, hD⟩
  · split
    · exact ⟨ps, hW2, hD⟩
    · exact ⟨ps, { nodup := hW2.nodup, is := hW2.is, ix := hW2.ix, ci := hW2.ci, st := hW2.st, stn := hW2.stn, fr := hW2.fr, nx := hW2.nx, pa := hW2.pa }, { perm := hD.perm, nov := hD.nov, nxv := hD.nxv, xin := hD.xin, lo0 := hD.lo0, ix0 := hD.ix0, lox := hD.lox, ixx := hD.ixx, last := hD.last, head := hD.head }⟩
end
end Go.Proofs.Ytnjgjhjilolanaa
/- Items in a slice of the call's own, sorted in their place by a graph's order: the pivot. -/
namespace Go.Proofs.Ytnjgjhjilolanaa
open Go.RowKit Go.Shelf
open Go.Sort (swp order2 median choosePivot)
set_option linter.unusedVariables false
set_option maxRecDepth 20000
attribute [local go_sem] row_alloc row_drew row_drewN row_ext row_setCell row_setRow size_ext setRow_alloc setRow_drew loadOf storeOf piece_lit loadVal_at storeVal_at allOne_lit buildOf buildRes_some
attribute [local go_sem high] cell_alloc frozen_alloc setCell_alloc cell_ext frozen_ext cell_setRow frozen_setRow
attribute [local go_sem ↓] TDeed_ld0 TDeed_st0 TDeed_fd0 TDeed_bd0
attribute [local go_sem] TDeed_size TDeed_one TDeed_piece TDeed_c0 TDeed_c1 TDeed_c2 TDeed_c3 TDeed_c4 TDeed_c5 TDeed_set_kind TDeed_set_key TDeed_set_val TDeed_set_ver TDeed_set_ses TDeed_set_num TDeed_ld TDeed_st TDeed_f_kind TDeed_f_key TDeed_f_val TDeed_f_ver TDeed_f_ses TDeed_f_num TDeed_bd TDeed_fl TDeed_fl_kind TDeed_fl_key TDeed_fl_val TDeed_fl_ver TDeed_fl_ses TDeed_fl_num
attribute [local go_sem high] TDeed_eql TDeed_neq
attribute [local go_sem ↓] index_deps0 load_deps0 store_deps0
attribute [local go_sem] DV_piece DV_size DV_one index_deps load_deps store_deps
attribute [local go_sem high] TDeps_eql TDeps_neq
attribute [local go_sem ↓] TCall_ld0 TCall_st0 TCall_fd0 TCall_bd0
attribute [local go_sem] TCall_size TCall_one TCall_piece TCall_c0 TCall_c1 TCall_c2 TCall_c3 TCall_c4 TCall_c5 TCall_c6 TCall_c7 TCall_c8 TCall_c9 TCall_c10 TCall_c11 TCall_c12 TCall_c13 TCall_p_deed TCall_put_deed TCall_p_deps TCall_put_deps TCall_set_seq TCall_ld TCall_st TCall_f_deed TCall_f_deps TCall_f_seq TCall_bd TCall_fl TCall_fl_deed TCall_fl_deps TCall_fl_seq
attribute [local go_sem high] TCall_eql TCall_neq
attribute [local go_sem ↓] TItem_ld0 TItem_st0 TItem_fd0 TItem_bd0
attribute [local go_sem] TItem_size TItem_one TItem_piece TItem_c0 TItem_c1 TItem_set_rep TItem_set_num TItem_ld TItem_st TItem_f_rep TItem_f_num TItem_bd TItem_fl TItem_fl_rep TItem_fl_num
attribute [local go_sem high] TItem_eql TItem_neq
section
variable {w W : World} {F : Nat → Prop} {R : List Res} {b gc gd g c : Nat} {m : RowsMK} {q : RowsML} {d : Array Item}
theorem Reads.itAt {f : FuncId} {args : Array Value} {v : Value} {e : Array Item} (h : Reads Try.prog f args (grL b gc gd m q) v) {L : List Res} (T : Sts w F W (L ++ (grL b gc gd m q ++ R))) : Calls Try.prog f args W fun e W' => e = .returned v ∧ Below W.heap.size W W' := by
  refine h.at (R := L ++ R) (T.perm ?_)
  rw [← List.append_assoc, ← List.append_assoc]
  exact List.Perm.append_right _ List.perm_append_comm
set_option maxHeartbeats 8000000 in
theorem order2T {n : Nat} (hd : d.size = n) (x y s sw : Nat) (hx : x < n) (hy : y < n) (hn : n ≤ 1000000) (hs : sw ≤ 1000) (hm : 0 ≤ m.n ∧ m.n ≤ 7) (T : Sts w F W (itR g c d :: rowR s #[.int .i64 sw] :: (grL b gc gd m q ++ R))) :
    Calls Try.prog 91 #[.slice (some ⟨g, 0, none⟩) n c, .int .i64 x, .int .i64 y, .pointer (some ⟨s, 0, none⟩), cvB b] W fun e W' =>
      e = .returned (.tuple #[.int .i64 (order2 (ltM m) d x y sw).1, .int .i64 (order2 (ltM m) d x y sw).2.1]) ∧ Sts w F W' (itR g c d :: rowR s #[.int .i64 (order2 (ltM m) d x y sw).2.2] :: (grL b gc gd m q ++ R)) := by
  have FS : ∀ W' R', Sts w F W' (itR g c d :: R') → (loadVal Try.prog 35 2 W' (.pointer (some ⟨g, y * 2, none⟩)) = .ok (.agg (IV d[y]!)) W' ∧ loadVal Try.prog 35 2 W' (.pointer (some ⟨g, x * 2, none⟩)) = .ok (.agg (IV d[x]!)) W') := fun W' R' T => ⟨T.itLoad (by omega), T.itLoad (by omega)⟩
  have HFS := Lib.hid FS
  have HT := Lib.hid T.drew
  have S0 := FS _ _ HT.out
  have HC := Lib.hid (grBeforeR b gc gd m q hm d[y]! d[x]!)
  have HL := Lib.hid (show order2 (ltM m) d x y sw = if decide (befM m d[y]! d[x]! < 0) then (y, x, sw + 1) else (x, y, sw) from rfl)
  clear FS T hd
  generalize befM m d[y]! d[x]! = cm at *
  have hx0 : (0 : Int) ≤ (x : Int) := by omega
  have hy0 : (0 : Int) ≤ (y : Int) := by omega
  have hxn : (x : Int) < (n : Int) := by omega
  have hyn : (y : Int) < (n : Int) := by omega
  go_enter Try.func91, Try.ntmps91
  go_upto_region 1 with fail
  refine wp_region_held_drew (S := fun W' => (loadVal Try.prog 35 2 W' (.pointer (some ⟨g, y * 2, none⟩)) = .ok (.agg (IV d[y]!)) W' ∧ loadVal Try.prog 35 2 W' (.pointer (some ⟨g, x * 2, none⟩)) = .ok (.agg (IV d[x]!)) W')) (by kernel_rfl) S0 (fun hHeld => ?_)
  clear S0
  refine tkH 0 rfl (v := ?_) ?_ ?_
  rotate_left
  · intro w h; (try dsimp only at h); go_simp; try with_reducible rfl
  simp only [Act.put, List.getElem_toArray, List.getElem_cons_zero, List.setIfInBounds_toArray, List.set_cons_zero, List.set_cons_succ]
  refine tkH 1 rfl (v := ?_) ?_ ?_
  rotate_left
  · intro w h; (try dsimp only at h); go_simp; try with_reducible rfl
  go_frame
  refine tkH 2 rfl (v := ?_) ?_ ?_
  rotate_left
  · intro w h; (try dsimp only at h); go_simp; try with_reducible rfl
  go_frame
  refine tkH 3 rfl (v := ?_) ?_ ?_
  rotate_left
  · intro w h; (try dsimp only at h); go_simp; try with_reducible rfl
  go_frame
  refine tkH 4 rfl (v := ?_) ?_ ?_
  rotate_left
  · intro w h; (try dsimp only at h); go_simp; try with_reducible rfl
  go_frame
  refine tkH 5 rfl (v := ?_) ?_ ?_
  rotate_left
  · intro w h; (try dsimp only at h); go_simp; try with_reducible rfl
  go_frame
  refine tkH 6 rfl (v := ?_) ?_ ?_
  rotate_left
  · intro w h; (try dsimp only at h); go_simp; try with_reducible rfl
  go_frame
  refine tkH 7 rfl (v := ?_) ?_ ?_
  rotate_left
  · intro w h; (try dsimp only at h); go_simp; try with_reducible rfl
  go_frame
  refine tkH 8 rfl (v := ?_) ?_ ?_
  rotate_left
  · intro w h; (try dsimp only at h); go_simp; try with_reducible rfl
  go_frame
  refine wpAnyH_ready (rs := [9]) (by kernel_rfl) (by simp) ?_
  refine AllReadyH.cons (o := _) rfl (fun K hK => ?_) AllReadyH.nil
  go_simp
  refine (HC.out.itAt (e := d) (L := [itR g c d, rowR s #[.int .i64 sw]]) HT.out).mono ?_
  clear HC
  rintro e5 w5 ⟨rfl, hb⟩
  have T := HT.out.pure hb
  clear hb HT
  have HT := Lib.hid T
  refine hK.out _ _ (HFS.out _ _ HT.out) (fun hHeld => ?_)
  clear hK K
  refine tkH 10 rfl (v := ?_) ?_ ?_
  rotate_left
  · intro w h; (try dsimp only at h); go_simp; try with_reducible rfl
  simp only [Act.put, List.getElem_toArray, List.getElem_cons_succ, List.getElem_cons_zero, List.setIfInBounds_toArray, List.set_cons_zero, List.set_cons_succ]
  refine wpAnyH_done (by kernel_rfl) ?_ _
  try simp only [Exit.then]
  clear HFS
  cases hlt : decide (cm < 0)
  case false =>
    rw [hlt, if_neg (by simp)] at HL
    clear T
    go_wp2
    go_ret2
    rw [HL.out]
    exact ⟨rfl, HT.out⟩
  case true =>
    rw [hlt, if_pos rfl] at HL
    have T2 := T.swap
    have r0 := T2.row; have l0 := row_lt r0; have c0 := row_cell r0 0; have f0 := row_frozen r0 0
    have T3 := (T2.setCell 0 (.int .i64 ((sw : Int) + 1))).swap
    have hw : IntKind.i64.wrap ((sw : Int) + 1) = (sw : Int) + 1 := by rw [IntKind.wrap_i64] <;> omega
    have HT3 := Lib.hid T3
    clear T T2 T3 HT r0
    go_wp2
    go_ret2
    rw [HL.out]
    exact ⟨rfl, HT3.out⟩
theorem order2_facts (lt : Item → Item → Bool) (d : Array Item) (x y sw n : Nat) (hx : x < n) (hy : y < n) : (order2 lt d x y sw).1 < n ∧ (order2 lt d x y sw).2.1 < n ∧ (order2 lt d x y sw).2.2 ≤ sw + 1 := by
  unfold order2; split <;> simp <;> omega
set_option maxHeartbeats 8000000 in
theorem medianT {n : Nat} (hd : d.size = n) (x y z s sw : Nat) (hx : x < n) (hy : y < n) (hz : z < n) (hn : n ≤ 1000000) (hs : sw ≤ 900) (hm : 0 ≤ m.n ∧ m.n ≤ 7) (T : Sts w F W (itR g c d :: rowR s #[.int .i64 sw] :: (grL b gc gd m q ++ R))) :
    Calls Try.prog 90 #[.slice (some ⟨g, 0, none⟩) n c, .int .i64 x, .int .i64 y, .int .i64 z, .pointer (some ⟨s, 0, none⟩), cvB b] W fun e W' =>
      e = .returned (.int .i64 (median (ltM m) d x y z sw).1) ∧ Sts w F W' (itR g c d :: rowR s #[.int .i64 (median (ltM m) d x y z sw).2] :: (grL b gc gd m q ++ R)) := by
  have HD := Lib.hid hd
  have HL := Lib.hid (show median (ltM m) d x y z sw = ((order2 (ltM m) d (order2 (ltM m) d x y sw).1 (order2 (ltM m) d (order2 (ltM m) d x y sw).2.1 z (order2 (ltM m) d x y sw).2.2).1 (order2 (ltM m) d (order2 (ltM m) d x y sw).2.1 z (order2 (ltM m) d x y sw).2.2).2.2).2.1, (order2 (ltM m) d (order2 (ltM m) d x y sw).1 (order2 (ltM m) d (order2 (ltM m) d x y sw).2.1 z (order2 (ltM m) d x y sw).2.2).1 (order2 (ltM m) d (order2 (ltM m) d x y sw).2.1 z (order2 (ltM m) d x y sw).2.2).2.2).2.2) from rfl)
  obtain ⟨h1, h2, h3⟩ := order2_facts (ltM m) d x y sw n hx hy
  have C1 := Lib.hid (order2T hd x y s sw hx hy hn (by omega) hm T)
  clear T hd
  generalize order2 (ltM m) d x y sw = r1 at *
  obtain ⟨a1, b1, s1⟩ := r1
  dsimp only at h1 h2 h3 C1 HL
  go_enter Try.func90, Try.ntmps90
  go_wp2_with fail
  refine C1.out.mono ?_
  clear C1
  rintro e w1 ⟨rfl, T⟩
  obtain ⟨h4, h5, h6⟩ := order2_facts (ltM m) d b1 z s1 n h2 hz
  have C1 := Lib.hid (order2T HD.out b1 z s s1 h2 hz hn (by omega) hm T)
  clear T
  generalize order2 (ltM m) d b1 z s1 = r2 at *
  obtain ⟨b2, c2, s2⟩ := r2
  dsimp only at h4 h5 h6 C1 HL
  go_wp2_with fail
  refine C1.out.mono ?_
  clear C1
  rintro e w2 ⟨rfl, T⟩
  obtain ⟨h7, h8, h9⟩ := order2_facts (ltM m) d a1 b2 s2 n h1 h4
  have C1 := Lib.hid (order2T HD.out a1 b2 s s2 h1 h4 hn (by omega) hm T)
  clear T
  generalize order2 (ltM m) d a1 b2 s2 = r3 at *
  obtain ⟨a3, b3, s3⟩ := r3
  dsimp only at h7 h8 h9 C1 HL
  go_wp2_with fail
  refine C1.out.mono ?_
  clear C1
  rintro e w3 ⟨rfl, T⟩
  have HT := Lib.hid T; clear T
  go_wp2
  go_ret
  rw [HL.out]
  exact ⟨rfl, HT.out⟩
theorem median_facts (lt : Item → Item → Bool) (d : Array Item) (x y z sw n : Nat) (hx : x < n) (hy : y < n) (hz : z < n) : (median lt d x y z sw).1 < n ∧ (median lt d x y z sw).2 ≤ sw + 3 := by
  unfold median
  obtain ⟨h1, h2, h3⟩ := order2_facts lt d x y sw n hx hy
  obtain ⟨h4, h5, h6⟩ := order2_facts lt d _ z (order2 lt d x y sw).2.2 n h2 hz
  obtain ⟨h7, h8, h9⟩ := order2_facts lt d _ _ (order2 lt d (order2 lt d x y sw).2.1 z (order2 lt d x y sw).2.2).2.2 n h1 h4
  exact ⟨h8, by dsimp only; omega⟩
def hintN : Go.Sort.Hint → Int
  | .unknown => 0
  | .increasing => 1
  | .decreasing => 2
set_option maxHeartbeats 8000000 in
theorem choosePivotT {n : Nat} (hd : d.size = n) (x z : Nat) (hxz : x < z) (hz : z ≤ n) (hn : n < 50) (hm : 0 ≤ m.n ∧ m.n ≤ 7) (T : Sts w F W (itR g c d :: (grL b gc gd m q ++ R))) :
    Calls Try.prog 77 #[.slice (some ⟨g, 0, none⟩) n c, .int .i64 x, .int .i64 z, cvB b] W fun e W' =>
      e = .returned (.tuple #[.int .i64 (choosePivot (ltM m) d x z).1, .int .i64 (hintN (choosePivot (ltM m) d x z).2)]) ∧ Sts w F W' (itR g c d :: (grL b gc gd m q ++ R)) := by
  have HD := Lib.hid hd
  obtain ⟨l, hl⟩ : ∃ l, l = z - x := ⟨_, rfl⟩
  obtain ⟨l4, hl4⟩ : ∃ k, k = l / 4 := ⟨_, rfl⟩
  have hl50 : ¬ l ≥ 50 := by omega
  have HL := Lib.hid (show choosePivot (ltM m) d x z = ((if l ≥ 8 then median (ltM m) d (x + l4 * 1) (x + l4 * 2) (x + l4 * 3) 0 else (x + l4 * 2, 0)).1, if (if l ≥ 8 then median (ltM m) d (x + l4 * 1) (x + l4 * 2) (x + l4 * 3) 0 else (x + l4 * 2, 0)).2 = 0 then Go.Sort.Hint.increasing else if (if l ≥ 8 then median (ltM m) d (x + l4 * 1) (x + l4 * 2) (x + l4 * 3) 0 else (x + l4 * 2, 0)).2 = 12 then .decreasing else .unknown) by
    unfold choosePivot
    dsimp only
    rw [← hl, ← hl4]
    simp only [if_neg hl50])
  obtain ⟨i1, hi1⟩ : ∃ k, k = x + l4 * 1 := ⟨_, rfl⟩
  obtain ⟨i2, hi2⟩ : ∃ k, k = x + l4 * 2 := ⟨_, rfl⟩
  obtain ⟨i3, hi3⟩ : ∃ k, k = x + l4 * 3 := ⟨_, rfl⟩
  rw [← hi1, ← hi2, ← hi3] at HL
  have hw0 : IntKind.i64.wrap ((z : Int) - (x : Int)) = (l : Int) := by rw [IntKind.wrap_i64] <;> omega
  have hs1 : (x : Int) + (l : Int) / 4 = (i1 : Int) := by omega
  have hs2 : (x : Int) + (l : Int) / 4 * 2 = (i2 : Int) := by omega
  have hs3 : (x : Int) + (l : Int) / 4 * 3 = (i3 : Int) := by omega
  have hl50' : ¬ (50 : Int) ≤ (l : Int) := by omega
  have b1 : i1 < n := by omega
  have b2 : i2 < n := by omega
  have b3 : i3 < n := by omega
  have T1 := T.new #[.int .i64 0] 3
  have T2 := T1.swap
  have r0 := T2.row1; have l0 := row_lt r0; have c0 := row_cell r0 0; have f0 := row_frozen r0 0
  have HT := Lib.hid T2
  by_cases h8 : l ≥ 8
  · have h8' : (8 : Int) ≤ (l : Int) := by omega
    simp only [if_pos h8] at HL
    have C1 := Lib.hid (medianT hd i1 i2 i3 _ 0 b1 b2 b3 (by omega) (by omega) hm T2)
    obtain ⟨f1, f2⟩ := median_facts (ltM m) d i1 i2 i3 0 n b1 b2 b3
    clear T T1 T2 hd
    generalize median (ltM m) d i1 i2 i3 0 = r1 at *
    obtain ⟨p, s1⟩ := r1
    dsimp only at f1 f2 C1 HL
    clear hi1 hi2 hi3 hl4 hl
    go_enter Try.func77, Try.ntmps77
    go_wp2_with fail
    refine C1.out.mono ?_
    clear C1 HT r0 l0 c0 f0
    rintro e w1 ⟨rfl, T⟩
    have r0 := T.row1; have l0 := row_lt r0; have c0 := row_cell r0 0; have f0 := row_frozen r0 0
    have HT := Lib.hid (T.swap.drop); clear T
    by_cases hs0 : s1 = 0
    · subst hs0
      rw [if_pos rfl] at HL
      go_wp2
      go_ret2
      rw [HL.out]
      exact ⟨rfl, HT.out⟩
    · have hs12 : ¬ s1 = 12 := by omega
      rw [if_neg hs0, if_neg hs12] at HL
      have g1 : ¬ (s1 : Int) = 0 := by omega
      have g2 : ¬ (s1 : Int) = 12 := by omega
      go_wp2
      go_ret2
      rw [HL.out]
      exact ⟨rfl, HT.out⟩
  · have h8' : ¬ (8 : Int) ≤ (l : Int) := by omega
    simp only [if_neg h8, if_pos] at HL
    have HTd := Lib.hid (T2.swap.drop)
    clear T T1 T2 hd HT
    clear hi1 hi2 hi3 hl4 hl
    go_enter Try.func77, Try.ntmps77
    go_wp2
    go_ret2
    rw [HL.out]
    exact ⟨rfl, HTd.out⟩
end
end Go.Proofs.Ytnjgjhjilolanaa
