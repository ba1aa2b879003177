/- Layer 24: one finding more, the order and the calls left where they lie; rows of a slice of the call's own. -/
import Derived.Test.YtahajjfbkdocaaaAudD
namespace Go.Proofs.Ytahajjfbkdocaaa
open Go.RowKit
set_option linter.unusedVariables false
attribute [local go_sem] row_alloc row_drew row_drewN row_ext row_setCell row_setRow size_ext setRow_alloc setRow_drew loadOf storeOf piece_lit loadVal_at storeVal_at allOne_lit buildOf buildRes_some
attribute [local go_sem high] cell_alloc frozen_alloc setCell_alloc cell_ext frozen_ext cell_setRow frozen_setRow
attribute [local go_sem ↓] TDeed_ld0 TDeed_st0 TDeed_fd0 TDeed_bd0
attribute [local go_sem] TDeed_size TDeed_one TDeed_piece TDeed_c0 TDeed_c1 TDeed_c2 TDeed_c3 TDeed_c4 TDeed_c5 TDeed_set_kind TDeed_set_key TDeed_set_val TDeed_set_ver TDeed_set_ses TDeed_set_num TDeed_ld TDeed_st TDeed_f_kind TDeed_f_key TDeed_f_val TDeed_f_ver TDeed_f_ses TDeed_f_num TDeed_bd TDeed_fl TDeed_fl_kind TDeed_fl_key TDeed_fl_val TDeed_fl_ver TDeed_fl_ses TDeed_fl_num
attribute [local go_sem high] TDeed_eql TDeed_neq
attribute [local go_sem ↓] index_deps0 load_deps0 store_deps0
attribute [local go_sem] DV_piece DV_size DV_one index_deps load_deps store_deps
attribute [local go_sem high] TDeps_eql TDeps_neq
attribute [local go_sem ↓] TCall_ld0 TCall_st0 TCall_fd0 TCall_bd0
attribute [local go_sem] TCall_size TCall_one TCall_piece TCall_c0 TCall_c1 TCall_c2 TCall_c3 TCall_c4 TCall_c5 TCall_c6 TCall_c7 TCall_c8 TCall_c9 TCall_c10 TCall_c11 TCall_c12 TCall_c13 TCall_p_deed TCall_put_deed TCall_p_deps TCall_put_deps TCall_set_seq TCall_ld TCall_st TCall_f_deed TCall_f_deps TCall_f_seq TCall_bd TCall_fl TCall_fl_deed TCall_fl_deps TCall_fl_seq
attribute [local go_sem high] TCall_eql TCall_neq
attribute [local go_sem ↓] TItem_ld0 TItem_st0 TItem_fd0 TItem_bd0
attribute [local go_sem] TItem_size TItem_one TItem_piece TItem_c0 TItem_c1 TItem_set_rep TItem_set_num TItem_ld TItem_st TItem_f_rep TItem_f_num TItem_bd TItem_fl TItem_fl_rep TItem_fl_num
attribute [local go_sem high] TItem_eql TItem_neq
attribute [local go_sem ↓] TFinding_ld0 TFinding_st0 TFinding_fd0 TFinding_bd0
attribute [local go_sem] TFinding_size TFinding_one TFinding_piece TFinding_c0 TFinding_c1 TFinding_c2 TFinding_c3 TFinding_set_kind TFinding_set_rep TFinding_p_item TFinding_put_item TFinding_ld TFinding_st TFinding_f_kind TFinding_f_rep TFinding_f_item TFinding_bd TFinding_fl TFinding_fl_kind TFinding_fl_rep TFinding_fl_item
attribute [local go_sem high] TFinding_eql TFinding_neq
attribute [local go_sem] cellsR_0 cellsR_1 cellsR_2 cellsR_3
attribute [local go_sem ↓] find_slice0
attribute [local go_sem] find_slice1
/-- The report's head: its block and its list. -/
def headR (r : Nat) (s : Rep) (v2 : Value) (m : Nat) : Res := exR fun v1 : Value => starR (rowR r (cellsR s v1 v2 m)) (listR s v1)
section
variable {w W : World} {F : Nat → Prop} {R : List Res} {r : Nat} {s : Rep}
theorem Sts.headOpen (T : Sts w F W (repR r s :: R)) : ∃ v2 m, Sts w F W (headR r s v2 m :: orderR s v2 :: callsR s m :: R) := by
  obtain ⟨v1, v2, m, T⟩ := T.repOpen
  exact ⟨v2, m, Sts.close v1 T.join⟩
theorem Sts.headShut {v2 : Value} {m : Nat} (T : Sts w F W (headR r s v2 m :: orderR s v2 :: callsR s m :: R)) : Sts w F W (repR r s :: R) := by
  obtain ⟨v1, T⟩ := T.open
  exact T.split.repShut
end
theorem add_none (b o j : Nat) : (⟨b, o, none⟩ : Addr).add j = ⟨b, o + j, none⟩ := by unfold Addr.add; split <;> simp_all
/-- A slice of the call's own lies like one that came in. -/
theorem vec_rows {α : Type} {V : α → Array Value} {size : Nat} (hV : ∀ x, (V x).size = size) {e : TypeId} {v : Value} {l : List α} {w W : World} {F : Nat → Prop} {R : List Res} (T : Sts w F W (vecR e size v l.length (vl V l) :: R)) (h0 : 0 < size) (hl : l.length ≤ 9223372036854775807) :
    ∃ A c, v = .slice A l.length c ∧ RowsIn W A size V l ∧ l.length ≤ c ∧ ∀ a, A = some a → ∃ g, a = ⟨g, 0, none⟩ := by
  have hown := T.vec
  rcases hown.2 with ⟨rfl, h⟩ | ⟨g, cap, cur, rfl, _, hg, hn, hm, hc, ht⟩
  · have : l = [] := List.eq_nil_of_length_eq_zero (by omega)
    subst this
    exact ⟨none, 0, rfl, ⟨fun _ => rfl, fun a ha => (by cases ha), by simp⟩, Nat.le_refl _, fun a ha => (by cases ha)⟩
  · refine ⟨some ⟨g, 0, none⟩, cap, rfl, ⟨fun ha => (by cases ha), fun a ha j hj i u hu => ?_, hl⟩, hn, fun a ha => by injection ha with ha; exact ⟨g, ha.symm⟩⟩
    injection ha with ha; subst ha
    obtain ⟨g', c', hv, _, hcell⟩ := vec_cell hV T h0 hj
    injection hv with e1
    injection e1 with e1
    injection e1 with e1
    subst e1
    have := hcell i u hu
    rw [add_none, add_none, Nat.zero_add]
    exact this
set_option maxHeartbeats 4000000 in
theorem tellH (r : Nat) (s : Rep) (v2 : Value) (m : Nat) (k rep : Int) (x : Item) (hn : s.list.length < 1000000) :
    Does Try.prog 22 #[.pointer (some ⟨r, 0, none⟩), .int .i64 k, .int .i64 rep, .agg (IV x)] [headR r s v2 m] (.tuple #[]) [headR r (tellM s k rep x) v2 m] := by
  intro W G hS
  obtain ⟨v1, T⟩ := (Sts.start hS).open
  have T := T.split.swap
  have T := T.swap
  clear hS
  have T := (T.new (IV x) 28).swap
  -- rows: report, item, list, order, calls
  obtain ⟨i0, hi, hz0, hz1, hz2⟩ := find_i
  have hS0 : SR W.heap.size (IV x) (W.alloc (.cells (IV x) 28)) := T.row1
  have hq2 : ∀ W0, SR W.heap.size (IV x) W0 → row? W0 W.heap.size = some (IV x) := fun W0 h => h
  have hcr := row_cell T.row
  have hlr := row_lt T.row
  have hlr0 : r < W.heap.size + 1 := by have := hlr; rw [World.size_alloc] at this; exact this
  have hlr2 : ¬ r = W.heap.size + 1 := by omega
  have hner : W.heap.size ≠ r := fun e => T.ne e.symm
  have hT1 : Sts W G ((W.alloc (.cells (IV x) 28)).alloc (.cells (FV ⟨k, rep, x⟩) 49)).drew [vecR 49 4 v1 s.list.length (vl FV s.list), rowR (W.heap.size + 1) (FV ⟨k, rep, x⟩), rowR r (cellsR s v1 v2 m), rowR W.heap.size (IV x)] := by
    have := (T.new (FV ⟨k, rep, x⟩) 49).rot3.drew
    simp only [World.size_alloc] at this
    exact this
  have hnews : ∀ j u, (FV ⟨k, rep, x⟩).toList[j]? = some u → ((W.alloc (.cells (IV x) 28)).alloc (.cells (FV ⟨k, rep, x⟩) 49)).drew.cell? ((⟨W.heap.size + 1, 0, none⟩ : Addr).add j) = some u := by
    intro j u hu
    have hadd : (⟨W.heap.size + 1, 0, none⟩ : Addr).add j = ⟨W.heap.size + 1, j, none⟩ := by unfold Addr.add; split <;> simp_all
    rw [hadd, row_cell hT1.row1]; simpa using hu
  have h1 : ∀ u ∈ (FV ⟨k, rep, x⟩).toList, u.oneCell' = true := by simp [FV, Value.oneCell']
  have h63 : s.list.length + 1 ≤ maxLen := by unfold maxLen; omega
  have hby : (s.list.length + 1) * 32 ≤ 140737488355328 := by omega
  have HT := Lib.hid hT1; clear hT1 T
  go_enter Try.func22, Try.ntmps22
  go_wp2_with fail
  go_region_law
    ((refine step_append_vec (by rfl) _ _ _ (by rfl) 49 i0 _ 4 32 Try.underlying43 hi hz0 hz1 hz2 rfl (by omega) v1 s.list.length (vl FV s.list) (by rfl) HT.out ⟨W.heap.size + 1, 0, none⟩ 1 1 (FV ⟨k, rep, x⟩).toList (by rfl) (by rfl) hnews h1 (by omega) h63 hby ?_; intro g cap w1 T1; have hc1 := row_cell T1.row2; have hf1 := row_frozen T1.row2; have hl1 := row_lt T1.row2))
  all_goals
    have T2 := (T1.swap.drop.swap).setCell 1 (.slice (some ⟨g, 0, none⟩) (s.list.length + 1) cap)
    rw [cellsR_set1] at T2
    have T3 := T2.rot2.drop
    have HT3 := Lib.hid T3; clear T1 T2 T3
    go_end0
    refine ⟨rfl, Sts.close (.slice (some ⟨g, 0, none⟩) (s.list.length + 1) cap) (Sts.join ?_)⟩
    unfold listR
    have e1 : (tellM s k rep x).list = s.list ++ [⟨k, rep, x⟩] := rfl
    rw [e1, vl_snoc, List.length_append]
    exact HT3.out
