/- Several texts in one. -/
import Derived.Test.YtpganpiidgkofaaZ12
import Derived.Test.YtpganpiidgkofaaZ13
import Derived.Test.YtpganpiidgkofaaZ9
/- Layer 3: rows of items: all that stand there, one by one. -/
namespace Go.Proofs.Ytpganpiidgkofaa
open Go.RowKit Go.Shelf
set_option linter.unusedVariables false
set_option maxRecDepth 20000
attribute [local go_sem] Oper.semAt_some
attribute [local go_sem] row_alloc row_drew row_drewN row_ext row_setCell row_setRow size_ext setRow_alloc setRow_drew loadOf storeOf piece_lit loadVal_at storeVal_at allOne_lit buildOf buildRes_some
attribute [local go_sem high] cell_alloc frozen_alloc setCell_alloc cell_ext frozen_ext cell_setRow frozen_setRow
attribute [local go_sem ↓] TDeed_ld0 TDeed_st0 TDeed_fd0 TDeed_bd0
attribute [local go_sem] TDeed_size TDeed_one TDeed_piece TDeed_c0 TDeed_c1 TDeed_c2 TDeed_c3 TDeed_c4 TDeed_c5 TDeed_set_kind TDeed_set_key TDeed_set_val TDeed_set_ver TDeed_set_ses TDeed_set_num TDeed_ld TDeed_st TDeed_f_kind TDeed_f_key TDeed_f_val TDeed_f_ver TDeed_f_ses TDeed_f_num TDeed_bd TDeed_fl TDeed_fl_kind TDeed_fl_key TDeed_fl_val TDeed_fl_ver TDeed_fl_ses TDeed_fl_num
attribute [local go_sem high] TDeed_eql TDeed_neq
attribute [local go_sem ↓] index_deps0 load_deps0 store_deps0
attribute [local go_sem] DV_piece DV_size DV_one index_deps load_deps store_deps
attribute [local go_sem high] TDeps_eql TDeps_neq
attribute [local go_sem ↓] TCall_ld0 TCall_st0 TCall_fd0 TCall_bd0
attribute [local go_sem] TCall_size TCall_one TCall_piece TCall_c0 TCall_c1 TCall_c2 TCall_c3 TCall_c4 TCall_c5 TCall_c6 TCall_c7 TCall_c8 TCall_c9 TCall_c10 TCall_c11 TCall_c12 TCall_c13 TCall_p_deed TCall_put_deed TCall_p_deps TCall_put_deps TCall_set_seq TCall_ld TCall_st TCall_f_deed TCall_f_deps TCall_f_seq TCall_bd TCall_fl TCall_fl_deed TCall_fl_deps TCall_fl_seq
attribute [local go_sem high] TCall_eql TCall_neq
attribute [local go_sem ↓] TItem_ld0 TItem_st0 TItem_fd0 TItem_bd0
attribute [local go_sem] TItem_size TItem_one TItem_piece TItem_c0 TItem_c1 TItem_set_rep TItem_set_num TItem_ld TItem_st TItem_f_rep TItem_f_num TItem_bd TItem_fl TItem_fl_rep TItem_fl_num
attribute [local go_sem high] TItem_eql TItem_neq
attribute [local go_sem ↓] TBallot_ld0 TBallot_st0 TBallot_fd0 TBallot_bd0
attribute [local go_sem] TBallot_size TBallot_one TBallot_piece TBallot_c0 TBallot_c1 TBallot_set_round TBallot_set_rep TBallot_ld TBallot_st TBallot_f_round TBallot_f_rep TBallot_bd TBallot_fl TBallot_fl_round TBallot_fl_rep
attribute [local go_sem high] TBallot_eql TBallot_neq
attribute [local go_sem ↓] TInst_ld0 TInst_st0 TInst_fd0 TInst_bd0
attribute [local go_sem] TInst_size TInst_one TInst_piece TInst_c0 TInst_c1 TInst_c2 TInst_c3 TInst_c4 TInst_c5 TInst_c6 TInst_c7 TInst_c8 TInst_c9 TInst_c10 TInst_c11 TInst_c12 TInst_c13 TInst_c14 TInst_c15 TInst_c16 TInst_c17 TInst_c18 TInst_c19 TInst_p_prom TInst_put_prom TInst_p_vote TInst_put_vote TInst_set_status TInst_p_call TInst_put_call TInst_set_same TInst_ld TInst_st TInst_f_prom TInst_f_vote TInst_f_status TInst_f_call TInst_f_same TInst_bd TInst_fl TInst_fl_prom TInst_fl_vote TInst_fl_status TInst_fl_call TInst_fl_same
attribute [local go_sem high] TInst_eql TInst_neq
/-- What stands at a place, with it. -/
noncomputable def entAt (m : RowsM) (r k : Nat) : Option (Item × Inst) := (getM m ⟨(r : Int), (k : Int) + 1⟩).map fun t => (⟨(r : Int), (k : Int) + 1⟩, t)
noncomputable def entR (m : RowsM) (r k : Nat) : List (Item × Inst) := (List.range k).filterMap (entAt m r)
noncomputable def entsTo (m : RowsM) : Nat → List (Item × Inst)
  | 0 => []
  | r + 1 => entsTo m r ++ entR m r (topM m r).toNat
noncomputable def ents (m : RowsM) : List (Item × Inst) := entsTo m 7
theorem entR_none {m : RowsM} {r k : Nat} (h : getM m ⟨(r : Int), (k : Int) + 1⟩ = none) : entR m r (k + 1) = entR m r k := by
  unfold entR; rw [List.range_succ, List.filterMap_append]; simp [entAt, h]
theorem entR_some {m : RowsM} {r k : Nat} {t : Inst} (h : getM m ⟨(r : Int), (k : Int) + 1⟩ = some t) : entR m r (k + 1) = entR m r k ++ [(⟨(r : Int), (k : Int) + 1⟩, t)] := by
  unfold entR; rw [List.range_succ, List.filterMap_append]; simp [entAt, h]
theorem entR_pre (m : RowsM) (r : Nat) {k n : Nat} (h : k ≤ n) : entR m r k <+: entR m r n := by
  obtain ⟨j, rfl⟩ := Nat.exists_eq_add_of_le h
  unfold entR
  rw [List.range_add, List.filterMap_append]
  exact List.prefix_append _ _
theorem entsTo_pre (m : RowsM) {r n : Nat} (h : r ≤ n) : entsTo m r <+: entsTo m n := by
  induction n with
  | zero => obtain rfl : r = 0 := by omega
            exact List.prefix_refl _
  | succ n ih =>
    by_cases e : r = n + 1
    · subst e; exact List.prefix_refl _
    · exact (ih (by omega)).trans (List.prefix_append _ _)
theorem ents_pre (m : RowsM) {r k : Nat} (hr : r < 7) (hk : k ≤ (topM m r).toNat) : entsTo m r ++ entR m r k <+: ents m := by
  refine List.IsPrefix.trans ?_ (entsTo_pre m (show r + 1 ≤ 7 by omega))
  exact (List.prefix_append_right_inj _).2 (entR_pre m r hk)
theorem ents_at (m : RowsM) {r k : Nat} {t : Inst} (hr : r < 7) (hk : k < (topM m r).toNat) (h : getM m ⟨(r : Int), (k : Int) + 1⟩ = some t) : (ents m)[(entsTo m r ++ entR m r k).length]? = some (⟨(r : Int), (k : Int) + 1⟩, t) := by
  have h1 := ents_pre m hr (k := k + 1) (by omega)
  rw [entR_some h, ← List.append_assoc] at h1
  obtain ⟨z, hz⟩ := h1
  rw [← hz, List.append_assoc, List.getElem?_append_right (Nat.le_refl _)]
  simp
/-- Rows as they can be. -/
structure RowsOk (m : RowsM) : Prop where
  n : 0 ≤ m.n ∧ m.n ≤ 7
  len : ∀ r, (m.f r).length ≤ 64
theorem RowsOk.top {m : RowsM} (h : RowsOk m) (r : Int) : 0 ≤ topM m r ∧ topM m r ≤ 64 := by
  unfold topM; have := h.len r.toNat; split <;> omega
theorem RowsOk.new {n : Int} (h : 0 ≤ n ∧ n ≤ 7) : RowsOk ⟨n, fun _ => []⟩ := ⟨h, fun _ => by simp⟩
theorem putL_len (l : List (Option Inst)) (i : Nat) (t : Inst) : (putL l i t).length = max l.length (i + 1) := by
  unfold putL; rw [List.length_set, List.length_append, List.length_replicate]; omega
theorem RowsOk.set {m : RowsM} (h : RowsOk m) (x : Item) (t : Inst) : RowsOk (setM m x t) := by
  unfold setM
  split
  · rename_i hg
    unfold goodI at hg
    rw [decide_eq_true_iff] at hg
    refine ⟨h.n, fun r => ?_⟩
    show (updF m.f x.rep.toNat _ r).length ≤ 64
    unfold updF
    split
    · rw [putL_len]; have := h.len x.rep.toNat; omega
    · exact h.len r
  · exact h
def iterIR (c g : Nat) (m : RowsM) : List Res := [rowR c #[.pointer (some ⟨g, 0, none⟩)], rowsIR g m]
set_option maxHeartbeats 2000000 in
theorem irAllG (c g : Nat) (m : RowsM) (hm : RowsOk m) (W0 : World) (H : Nat → Prop) (hS : Sat W0 (iterIR c g m) H) :
    Gives Try.prog 116 #[.pointer (some ⟨c, 0, none⟩)] (fun x : Item × Inst => #[.agg (IV x.1), .agg (NV x.2)]) (fun A B => ∀ k, H k → B.heap[k]? = A.heap[k]?) (ents m) W0 := by
  intro l J Jx W hW hJ hJx hY h0
  have hn := hm.n
  have hS1 : Sat W (iterIR c g m) H := hS.stay fun k hk => hW.block k (hS.lt k hk)
  have hab : ∀ k A B, J k A → Below A.heap.size A B → J k B := fun k A B h hb => hJ k A B none h ⟨hb.os, hb.tape, hb.output, hb.size, fun j hj _ => hb.block j hj⟩ (fun r e => by cases e)
  have hsb : ∀ A B, Sat A (iterIR c g m) H → Below A.heap.size A B → Sat B (iterIR c g m) H := fun A B h hb => h.stay fun j hj => hb.block j (h.lt j hj)
  have HSB := Lib.hid hsb; clear hsb
  have HAB := Lib.hid hab; have HJY := Lib.hid hY
  clear hS hab hJ hJx hW hY
  refine callsIn_of_wp Try.func116 rfl trivial ?_ rfl
  simp only [Try.ntmps116, List.size_toArray, List.length_cons, List.length_nil, Nat.reduceAdd, Nat.reduceSub, Array.replicate_succ, Array.replicate_zero, List.push_toArray, List.append_toArray, List.nil_append, List.cons_append]
  gi_wp2
  gi_loopw [8] (fun i wr => ∃ r : Nat, r ≤ 7 ∧ i = .int .i64 r ∧ J (entsTo m r).length wr ∧ Sat wr (iterIR c g m) H) (fun i _ => 7 - (intOf i).toNat)
  case atStart => exact ⟨0, by omega, rfl, h0, hS1⟩
  case round =>
    clear hS1 h0
    obtain ⟨r, hr7, rfl, hJr, hSr⟩ := hrel
    by_cases hlt : r < 7
    · have hlt' : (0 : Int) ≤ (r : Int) ∧ (r : Int) < 7 := by omega
      gi_wp2
      gi_loopw [4] (fun i wr => ∃ k : Nat, k ≤ (topM m r).toNat ∧ i = .int .i64 (k + 1) ∧ J (entsTo m r ++ entR m r k).length wr ∧ Sat wr (iterIR c g m) H) (fun i _ => ((topM m r).toNat + 1 - (intOf i).toNat))
      case atStart => exact ⟨0, by omega, rfl, by simpa [entR] using hJr, hSr⟩
      case round =>
        clear hJr hSr
        obtain ⟨k, hk, rfl, hJk, hSk⟩ := hrel
        have hstay : ∀ W', Below wr.heap.size wr W' → Sat W' (iterIR c g m) H := fun W' hb => hSk.stay fun j hj => hb.block j (hSk.lt j hj)
        have T := Sts.start hSk
        unfold iterIR at T
        have hc := row_cell T.row 0
        have hlc := row_lt T.row
        have htop := (irTopR g m hn r).at1 T.swap
        have ht0 := hm.top (r : Int)
        have HST := Lib.hid hstay; have HTOP := Lib.hid htop
        clear hstay htop T hSk
        gi_wp2_with fail
        refine ⟨trivial, ?_⟩
        refine (callsIn_wide.2 HTOP.out).mono ?_
        rintro e w1 ⟨rfl, hb1⟩
        clear hc hlc HTOP
        have hJ1 := HAB.out _ _ _ hJk hb1
        have hS1 := HST.out _ hb1
        clear hb1 HST hJk
        by_cases hlt2 : (k : Int) + 1 ≤ topM m r
        · have hlt3 : k + 1 ≤ (topM m r).toNat := by omega
          have T := Sts.start hS1
          unfold iterIR at T
          have T1 := ((T.new (IV ⟨(r : Int), (k : Int) + 1⟩) 42))
          have hc := row_cell T1.row1 0
          have hlc := row_lt T1.row1
          have hrx := T1.row
          have hat := (irAtR g m hn ⟨(r : Int), (k : Int) + 1⟩).at1 (T1.ord [2, 0, 1])
          have hJ2 := HAB.out _ _ _ hJ1 ((Below.refl w1.heap.size w1).alloc (Nat.le_refl _) (.cells (IV ⟨(r : Int), (k : Int) + 1⟩) 42))
          have hS2 := HSB.out _ _ hS1 ((Below.refl w1.heap.size w1).alloc (Nat.le_refl _) (.cells (IV ⟨(r : Int), (k : Int) + 1⟩) 42))
          have HAT := Lib.hid hat; have HT1 := Lib.hid T1
          clear hat T1 T hS1 hJ1
          gi_wp2_with fail
          refine ⟨trivial, ?_⟩
          refine (callsIn_wide.2 HAT.out).mono ?_
          rintro e w2 ⟨rfl, hb2⟩
          have hJ3 := HAB.out _ _ _ hJ2 hb2
          have hS3 := HSB.out _ _ hS2 hb2
          have T2 := HT1.out.pure hb2
          clear hJ2 hS2 hb2 HT1 HAT hrx hc hlc
          generalize w1.heap.size = bx at *
          have hJ4 := HAB.out _ _ _ hJ3 ((Below.refl w2.heap.size w2).alloc (Nat.le_refl _) (.cells (NV ((getM m ⟨(r : Int), (k : Int) + 1⟩).getD noInst)) 39))
          have hS4 := HSB.out _ _ hS3 ((Below.refl w2.heap.size w2).alloc (Nat.le_refl _) (.cells (NV ((getM m ⟨(r : Int), (k : Int) + 1⟩).getD noInst)) 39))
          have T3 := T2.new (NV ((getM m ⟨(r : Int), (k : Int) + 1⟩).getD noInst)) 39
          have r1 := T3.row; have r2 := T3.row1; have l1 := row_lt r1; have l2 := row_lt r2
          clear hJ3 hS3 T2 T3
          cases hgm : getM m ⟨(r : Int), (k : Int) + 1⟩ with
          | none =>
            have hes := entR_none hgm
            have hJ5 : J (entsTo m r ++ entR m r (k + 1)).length (w2.alloc (.cells (NV noInst) 39)) := by rw [hes]; rw [hgm] at hJ4; exact hJ4
            have hS5 : Sat (w2.alloc (.cells (NV noInst) 39)) (iterIR c g m) H := by rw [hgm] at hS4; exact hS4
            clear hes hJ4 hS4 r1 r2 l1 l2
            have H5 := Lib.hid hJ5; have H6 := Lib.hid hS5
            clear hJ5 hS5
            simp only [Option.getD, Option.isSome]
            gi_wp2
            refine ⟨fun f h => (by cases h), ?_⟩
            gi_wp2
            go_roundw
            case rel => exact ⟨k + 1, by omega, by go_num, H5.out, H6.out⟩
            case measure => simp [intOf]; omega
          | some t =>
            rw [hgm] at hJ4 hS4 r1 l1 r2 l2
            simp only [Option.getD] at hJ4 hS4 r1 l1 r2 l2
            have hen := ents_at m hlt (k := k) (by omega) hgm
            have hes : (entsTo m r ++ entR m r k).length + 1 = (entsTo m r ++ entR m r (k + 1)).length := by rw [entR_some hgm]; simp; omega
            have hle := (ents_pre m hlt (k := k + 1) (by omega)).length_le
            rw [← hes] at hle
            have hY := HJY.out _ _ _ hen hJ4
            have HES := Lib.hid hes; have HS4 := Lib.hid hS4; have HLE := Lib.hid hle
            clear hes hS4 hJ4 hen hle
            obtain ⟨fn, tmps, assign, body, hy, hR⟩ := hY
            simp only [Option.getD, Option.isSome]
            gi_wp2
            refine hR.mono ?_
            rintro e W3 (⟨rfl, hJ5, hk5⟩ | ⟨rfl, hJx5⟩)
            · have hS5 : Sat W3 (iterIR c g m) H := HS4.out.stay fun j hj => hk5 j hj
              rw [HES.out] at hJ5
              clear hk5 HES HS4 r1 r2 l1 l2 hy hR
              have H5 := Lib.hid hJ5; have H6 := Lib.hid hS5
              clear hJ5 hS5
              gi_wp2
              go_roundw
              case rel => exact ⟨k + 1, by omega, by go_num, H5.out, H6.out⟩
              case measure => simp [intOf]; omega
            · have H5 := Lib.hid hJx5; clear hJx5 hy hR
              gi_wp2
              refine bodyPost_ret (results_none rfl _ _ _) rfl ?_
              exact ⟨⟨_, rfl⟩, .inr ⟨_, Nat.succ_pos _, HLE.out, H5.out⟩⟩
        · have he : k = (topM m r).toNat := by omega
          have hJn : J (entsTo m (r + 1)).length w1 := by rw [he] at hJ1; exact hJ1
          clear he hJ1
          gi_wp2
          go_roundw
          case rel => exact ⟨r + 1, by omega, by go_num, hJn, hS1⟩
          case measure => simp [intOf]; omega
    · obtain rfl : r = 7 := by omega
      gi_wp2
      go_end0
      exact ⟨⟨_, rfl⟩, .inl hJr⟩
end Go.Proofs.Ytpganpiidgkofaa
/- Slices of the call's own: a thing in its place. Nothing of the program stands here. -/
namespace Go.Proofs.Ytpganpiidgkofaa
open Go.RowKit
set_option linter.unusedVariables false
/-- The block of such a slice, and the slice behind a store of one thing. -/
theorem vec_at {α : Type} {V : α → Array Value} {size : Nat} (hV : ∀ x, (V x).size = size) {e : TypeId} {v : Value} {l : List α} {w W : World} {F : Nat → Prop} {R : List Res} (T : Sts w F W (vecR e size v l.length (vl V l) :: R)) (h0 : 0 < size) {j : Nat} (hj : j < l.length) :
    ∃ g c cur, v = .slice (some ⟨g, 0, none⟩) l.length c ∧ row? W g = some cur ∧ j * size + size ≤ cur.size ∧ ∀ x, Sts w F (W.setRow g (splice cur (j * size) (V x))) (vecR e size v l.length (vl V (l.set j x)) :: R) := by
  have hown := T.vec
  rcases hown.2 with ⟨_, h⟩ | ⟨g, cap, cur, rfl, hb, hg, hn, hm, hc, ht⟩
  · omega
  · have hle : l.length * size ≤ cap * size := Nat.mul_le_mul_right _ hn
    have hjs : j * size + size ≤ l.length * size := by
      have := Nat.mul_le_mul_right size (show j + 1 ≤ l.length from hj)
      rw [Nat.succ_mul] at this
      exact this
    refine ⟨g, cap, cur, rfl, by unfold row?; rw [hg]; rfl, by rw [hc]; omega, fun x => ?_⟩
    have hset : (W.setRow g (splice cur (j * size) (V x))).heap[g]? = some (.cells (splice cur (j * size) (V x)) e (0, 0)) := setRow_heap W g cur _ e (0, 0) hg
    have hlen : (vl V (l.set j x)).length = l.length * size := by
      unfold vl
      rw [Array.length_toList, flatV_size hV, List.length_set]
    refine T.turn fun A ha => ⟨A, ⟨⟨hlen, .inr ⟨g, cap, _, rfl, hb, hset, hn, hm, by rw [splice_size, hc], ?_⟩⟩, fun k => ha.2 k⟩, fun _ h => .inl h, rfl, rfl, rfl, by simp, fun k hk hn' => setRow_other W g k _ fun e => hn' ((ha.2 k).2 (by rw [e]; rfl))⟩
    apply List.ext_getElem?
    intro i
    rw [List.getElem?_take]
    by_cases hi : i < l.length * size
    · rw [if_pos hi, Array.getElem?_toList, splice_get, hV]
      have hq : i / size < l.length := Nat.div_lt_of_lt_mul (by rw [Nat.mul_comm]; exact hi)
      have hr : i % size < size := Nat.mod_lt _ h0
      have hir : i / size * size + i % size = i := by rw [Nat.mul_comm]; exact Nat.div_add_mod i size
      have hold : cur[i]? = (V l[i / size])[i % size]? := by
        have h1 : (cur.toList.take (l.length * size))[i]? = (vl V l)[i]? := by rw [ht]
        rw [List.getElem?_take, if_pos hi, Array.getElem?_toList] at h1
        rw [h1]
        unfold vl
        rw [Array.getElem?_toList, ← flatV_get hV l (i / size) hq (i % size) hr, hir]
      have hq' : i / size < (l.set j x).length := by rw [List.length_set]; exact hq
      have hnew : (vl V (l.set j x))[i]? = (V ((l.set j x)[i / size]))[i % size]? := by
        unfold vl
        rw [Array.getElem?_toList, ← flatV_get hV (l.set j x) (i / size) hq' (i % size) hr, hir]
      rw [hnew, List.getElem_set]
      by_cases hqj : j = i / size
      · rw [if_pos hqj]
        have hji : j * size + i % size = i := by rw [hqj]; exact hir
        rw [if_pos ⟨by omega, by omega, by rw [hc]; omega⟩]
        congr 1
        omega
      · rw [if_neg hqj, hold, if_neg]
        rintro ⟨a, b, _⟩
        apply hqj
        exact (Nat.div_eq_of_lt_le a (by rw [Nat.succ_mul]; exact b)).symm
    · rw [if_neg hi, List.getElem?_eq_none (by rw [hlen]; omega)]
theorem setCell_row (W : World) (g j : Nat) (u : Value) (cur : Array Value) (h : row? W g = some cur) : W.setCell ⟨g, j, none⟩ u = W.setRow g (cur.setIfInBounds j u) := by
  have h1 := setCells_row g [u] W j cur h
  have h2 : setMany cur j [u] = cur.setIfInBounds j u := rfl
  rw [h2] at h1
  rw [← h1]
  rfl
/-- The same for things of one cell. -/
theorem vec_at1 {α : Type} {V : α → Array Value} (hV : ∀ x, (V x).size = 1) {e : TypeId} {v : Value} {l : List α} {w W : World} {F : Nat → Prop} {R : List Res} (T : Sts w F W (vecR e 1 v l.length (vl V l) :: R)) {j : Nat} (hj : j < l.length) :
    ∃ g c cur, v = .slice (some ⟨g, 0, none⟩) l.length c ∧ row? W g = some cur ∧ j < cur.size ∧ ∀ x u, V x = #[u] → Sts w F (W.setCell ⟨g, j, none⟩ u) (vecR e 1 v l.length (vl V (l.set j x)) :: R) := by
  obtain ⟨g, c, cur, hv, hr, hs, hx⟩ := vec_at hV T (by omega) hj
  refine ⟨g, c, cur, hv, hr, by omega, fun x u hu => ?_⟩
  have h1 := hx x
  rw [hu, Nat.mul_one] at h1
  rw [setCell_row W g j u cur hr]
  exact h1
end Go.Proofs.Ytpganpiidgkofaa
