/- Several texts in one. -/
import Derived.Test.YtnjgjhjilolanaaH14
import Derived.Test.YtnjgjhjilolanaaH29
import Derived.Sort.AssemblyPlain
import Derived.Test.YtnjgjhjilolanaaH27
import Derived.Test.YtnjgjhjilolanaaH19
/- pdqsort's round, at so few items that nothing is shifted. No walk stands here. -/
namespace Go.Proofs.Ytnjgjhjilolanaa
open Go.RowKit
open Go.Sort (swp insertionSort heapSort breakPatterns choosePivot reverseRange partialInsertionSort partition partitionEqual pdq Hint partEqLoop_spec partition_holds choosePivot_holds)
set_option linter.unusedVariables false
end Go.Proofs.Ytnjgjhjilolanaa
/- Items in a slice of the call's own, sorted in their place by a graph's order. -/
namespace Go.Proofs.Ytnjgjhjilolanaa
open Go.RowKit Go.Shelf
open Go.Sort (swp insertionSort heapSort breakPatterns choosePivot reverseRange partialInsertionSort partition partitionEqual pdq bitsLen Hint)
set_option linter.unusedVariables false
set_option maxRecDepth 20000
attribute [local go_sem] row_alloc row_drew row_drewN row_ext row_setCell row_setRow size_ext setRow_alloc setRow_drew loadOf storeOf piece_lit loadVal_at storeVal_at allOne_lit buildOf buildRes_some
attribute [local go_sem high] cell_alloc frozen_alloc setCell_alloc cell_ext frozen_ext cell_setRow frozen_setRow
attribute [local go_sem ↓] TDeed_ld0 TDeed_st0 TDeed_fd0 TDeed_bd0
attribute [local go_sem] TDeed_size TDeed_one TDeed_piece TDeed_c0 TDeed_c1 TDeed_c2 TDeed_c3 TDeed_c4 TDeed_c5 TDeed_set_kind TDeed_set_key TDeed_set_val TDeed_set_ver TDeed_set_ses TDeed_set_num TDeed_ld TDeed_st TDeed_f_kind TDeed_f_key TDeed_f_val TDeed_f_ver TDeed_f_ses TDeed_f_num TDeed_bd TDeed_fl TDeed_fl_kind TDeed_fl_key TDeed_fl_val TDeed_fl_ver TDeed_fl_ses TDeed_fl_num
attribute [local go_sem high] TDeed_eql TDeed_neq
attribute [local go_sem ↓] index_deps0 load_deps0 store_deps0
attribute [local go_sem] DV_piece DV_size DV_one index_deps load_deps store_deps
attribute [local go_sem high] TDeps_eql TDeps_neq
attribute [local go_sem ↓] TCall_ld0 TCall_st0 TCall_fd0 TCall_bd0
attribute [local go_sem] TCall_size TCall_one TCall_piece TCall_c0 TCall_c1 TCall_c2 TCall_c3 TCall_c4 TCall_c5 TCall_c6 TCall_c7 TCall_c8 TCall_c9 TCall_c10 TCall_c11 TCall_c12 TCall_c13 TCall_p_deed TCall_put_deed TCall_p_deps TCall_put_deps TCall_set_seq TCall_ld TCall_st TCall_f_deed TCall_f_deps TCall_f_seq TCall_bd TCall_fl TCall_fl_deed TCall_fl_deps TCall_fl_seq
attribute [local go_sem high] TCall_eql TCall_neq
attribute [local go_sem ↓] TItem_ld0 TItem_st0 TItem_fd0 TItem_bd0
attribute [local go_sem] TItem_size TItem_one TItem_piece TItem_c0 TItem_c1 TItem_set_rep TItem_set_num TItem_ld TItem_st TItem_f_rep TItem_f_num TItem_bd TItem_fl TItem_fl_rep TItem_fl_num
attribute [local go_sem high] TItem_eql TItem_neq
section
variable {w W : World} {F : Nat → Prop} {R : List Res} {b gc gd g c : Nat} {m : RowsMK} {q : RowsML} {d : Array Item}
end
end Go.Proofs.Ytnjgjhjilolanaa
/- Items in a slice of the call's own, sorted in their place by a graph's order: up to 49 of them. -/
namespace Go.Proofs.Ytnjgjhjilolanaa
open Go.RowKit Go.Shelf
open Go.Sort (insertionSort pdq bitsLen)
set_option linter.unusedVariables false
set_option maxRecDepth 20000
attribute [local go_sem] row_alloc row_drew row_drewN row_ext row_setCell row_setRow size_ext setRow_alloc setRow_drew loadOf storeOf piece_lit loadVal_at storeVal_at allOne_lit buildOf buildRes_some
attribute [local go_sem high] cell_alloc frozen_alloc setCell_alloc cell_ext frozen_ext cell_setRow frozen_setRow
attribute [local go_sem ↓] TDeed_ld0 TDeed_st0 TDeed_fd0 TDeed_bd0
attribute [local go_sem] TDeed_size TDeed_one TDeed_piece TDeed_c0 TDeed_c1 TDeed_c2 TDeed_c3 TDeed_c4 TDeed_c5 TDeed_set_kind TDeed_set_key TDeed_set_val TDeed_set_ver TDeed_set_ses TDeed_set_num TDeed_ld TDeed_st TDeed_f_kind TDeed_f_key TDeed_f_val TDeed_f_ver TDeed_f_ses TDeed_f_num TDeed_bd TDeed_fl TDeed_fl_kind TDeed_fl_key TDeed_fl_val TDeed_fl_ver TDeed_fl_ses TDeed_fl_num
attribute [local go_sem high] TDeed_eql TDeed_neq
attribute [local go_sem ↓] index_deps0 load_deps0 store_deps0
attribute [local go_sem] DV_piece DV_size DV_one index_deps load_deps store_deps
attribute [local go_sem high] TDeps_eql TDeps_neq
attribute [local go_sem ↓] TCall_ld0 TCall_st0 TCall_fd0 TCall_bd0
attribute [local go_sem] TCall_size TCall_one TCall_piece TCall_c0 TCall_c1 TCall_c2 TCall_c3 TCall_c4 TCall_c5 TCall_c6 TCall_c7 TCall_c8 TCall_c9 TCall_c10 TCall_c11 TCall_c12 TCall_c13 TCall_p_deed TCall_put_deed TCall_p_deps TCall_put_deps TCall_set_seq TCall_ld TCall_st TCall_f_deed TCall_f_deps TCall_f_seq TCall_bd TCall_fl TCall_fl_deed TCall_fl_deps TCall_fl_seq
attribute [local go_sem high] TCall_eql TCall_neq
attribute [local go_sem ↓] TItem_ld0 TItem_st0 TItem_fd0 TItem_bd0
attribute [local go_sem] TItem_size TItem_one TItem_piece TItem_c0 TItem_c1 TItem_set_rep TItem_set_num TItem_ld TItem_st TItem_f_rep TItem_f_num TItem_bd TItem_fl TItem_fl_rep TItem_fl_num
attribute [local go_sem high] TItem_eql TItem_neq
end Go.Proofs.Ytnjgjhjilolanaa
/- GraphOnce: what is committed stays, with its first call; what can't be isn't, and nothing is done by it. -/
namespace Go.Proofs.Ytnjgjhjilolanaa
open Go.RowKit Go.Shelf
set_option linter.unusedVariables false
set_option maxRecDepth 20000
attribute [local go_sem] Oper.semAt_some
attribute [local go_sem] row_alloc row_drew row_drewN row_ext row_setCell row_setRow size_ext setRow_alloc setRow_drew loadOf storeOf piece_lit loadVal_at storeVal_at allOne_lit buildOf buildRes_some
attribute [local go_sem high] cell_alloc frozen_alloc setCell_alloc cell_ext frozen_ext cell_setRow frozen_setRow
attribute [local go_sem ↓] TDeed_ld0 TDeed_st0 TDeed_fd0 TDeed_bd0
attribute [local go_sem] TDeed_size TDeed_one TDeed_piece TDeed_c0 TDeed_c1 TDeed_c2 TDeed_c3 TDeed_c4 TDeed_c5 TDeed_set_kind TDeed_set_key TDeed_set_val TDeed_set_ver TDeed_set_ses TDeed_set_num TDeed_ld TDeed_st TDeed_f_kind TDeed_f_key TDeed_f_val TDeed_f_ver TDeed_f_ses TDeed_f_num TDeed_bd TDeed_fl TDeed_fl_kind TDeed_fl_key TDeed_fl_val TDeed_fl_ver TDeed_fl_ses TDeed_fl_num
attribute [local go_sem high] TDeed_eql TDeed_neq
attribute [local go_sem ↓] index_deps0 load_deps0 store_deps0
attribute [local go_sem] DV_piece DV_size DV_one index_deps load_deps store_deps
attribute [local go_sem high] TDeps_eql TDeps_neq
attribute [local go_sem ↓] TCall_ld0 TCall_st0 TCall_fd0 TCall_bd0
attribute [local go_sem] TCall_size TCall_one TCall_piece TCall_c0 TCall_c1 TCall_c2 TCall_c3 TCall_c4 TCall_c5 TCall_c6 TCall_c7 TCall_c8 TCall_c9 TCall_c10 TCall_c11 TCall_c12 TCall_c13 TCall_p_deed TCall_put_deed TCall_p_deps TCall_put_deps TCall_set_seq TCall_ld TCall_st TCall_f_deed TCall_f_deps TCall_f_seq TCall_bd TCall_fl TCall_fl_deed TCall_fl_deps TCall_fl_seq
attribute [local go_sem high] TCall_eql TCall_neq
attribute [local go_sem ↓] TItem_ld0 TItem_st0 TItem_fd0 TItem_bd0
attribute [local go_sem] TItem_size TItem_one TItem_piece TItem_c0 TItem_c1 TItem_set_rep TItem_set_num TItem_ld TItem_st TItem_f_rep TItem_f_num TItem_bd TItem_fl TItem_fl_rep TItem_fl_num
attribute [local go_sem high] TItem_eql TItem_neq
theorem idxN_at {l : List Item} (hn : l.Nodup) {i : Nat} {x : Item} (hx : l[i]? = some x) : idxN x l = i := by
  obtain ⟨hil, rfl⟩ := List.getElem?_eq_some_iff.1 hx
  unfold idxN
  rw [List.findIdx_eq hil]
  refine ⟨eqA_refl _, fun j hj => eqA_no.2 fun h => ?_⟩
  exact List.pairwise_iff_getElem.1 hn j i (by omega) hil hj (IV_eq h).symm
theorem vec_load {α : Type} {V : α → Array Value} {size : Nat} {P : Program} {e : TypeId} {td : TypeDesc} {w W : World} {F : Nat → Prop} {R : List Res} {A : Option Addr} {k c : Nat} {l : List α} {i : Nat} {y : α} (hV : ∀ x, (V x).size = size) (h0 : 0 < size) (hu : P.underlying e = some td) (hd : td.isRow = true) (hi : (P.info? e).map (·.size) = some size) (T : Sts w F W (vecR e size (.slice A k c) k (vl V l) :: R)) (hk : k = l.length) (hy : l[i]? = some y) (hl : k ≤ 1000000) :
    ∃ g, A = some ⟨g, 0, none⟩ ∧ loadVal P e size W (.pointer (some ⟨g, i * size, none⟩)) = .ok (.agg (V y)) W := by
  subst hk
  obtain ⟨A', c', hv, hA, -, hA0⟩ := vec_rows hV T h0 (by omega)
  injection hv with e1 e2 e3
  subst e1
  obtain ⟨hil, rfl⟩ := List.getElem?_eq_some_iff.1 hy
  cases hh : A with
  | none => have := hA.nil hh; subst this; simp at hil
  | some a =>
    obtain ⟨g, rfl⟩ := hA0 a hh
    have hld := hA.load (P := P) (T := e) hV hu hd hi (Below.refl _ _) hh hil
    rw [add_none, Nat.zero_add] at hld
    exact ⟨g, rfl, hld⟩
end Go.Proofs.Ytnjgjhjilolanaa
/- GraphDone: what is to be done, once done, isn't any more, and nothing of it for any other item. -/
namespace Go.Proofs.Ytnjgjhjilolanaa
open Go.RowKit Go.Shelf
set_option linter.unusedVariables false
set_option maxRecDepth 20000
attribute [local go_sem] Oper.semAt_some
attribute [local go_sem] row_alloc row_drew row_drewN row_ext row_setCell row_setRow size_ext setRow_alloc setRow_drew loadOf storeOf piece_lit loadVal_at storeVal_at allOne_lit buildOf buildRes_some
attribute [local go_sem high] cell_alloc frozen_alloc setCell_alloc cell_ext frozen_ext cell_setRow frozen_setRow
attribute [local go_sem ↓] TDeed_ld0 TDeed_st0 TDeed_fd0 TDeed_bd0
attribute [local go_sem] TDeed_size TDeed_one TDeed_piece TDeed_c0 TDeed_c1 TDeed_c2 TDeed_c3 TDeed_c4 TDeed_c5 TDeed_set_kind TDeed_set_key TDeed_set_val TDeed_set_ver TDeed_set_ses TDeed_set_num TDeed_ld TDeed_st TDeed_f_kind TDeed_f_key TDeed_f_val TDeed_f_ver TDeed_f_ses TDeed_f_num TDeed_bd TDeed_fl TDeed_fl_kind TDeed_fl_key TDeed_fl_val TDeed_fl_ver TDeed_fl_ses TDeed_fl_num
attribute [local go_sem high] TDeed_eql TDeed_neq
attribute [local go_sem ↓] index_deps0 load_deps0 store_deps0
attribute [local go_sem] DV_piece DV_size DV_one index_deps load_deps store_deps
attribute [local go_sem high] TDeps_eql TDeps_neq
attribute [local go_sem ↓] TCall_ld0 TCall_st0 TCall_fd0 TCall_bd0
attribute [local go_sem] TCall_size TCall_one TCall_piece TCall_c0 TCall_c1 TCall_c2 TCall_c3 TCall_c4 TCall_c5 TCall_c6 TCall_c7 TCall_c8 TCall_c9 TCall_c10 TCall_c11 TCall_c12 TCall_c13 TCall_p_deed TCall_put_deed TCall_p_deps TCall_put_deps TCall_set_seq TCall_ld TCall_st TCall_f_deed TCall_f_deps TCall_f_seq TCall_bd TCall_fl TCall_fl_deed TCall_fl_deps TCall_fl_seq
attribute [local go_sem high] TCall_eql TCall_neq
attribute [local go_sem ↓] TItem_ld0 TItem_st0 TItem_fd0 TItem_bd0
attribute [local go_sem] TItem_size TItem_one TItem_piece TItem_c0 TItem_c1 TItem_set_rep TItem_set_num TItem_ld TItem_st TItem_f_rep TItem_f_num TItem_bd TItem_fl TItem_fl_rep TItem_fl_num
attribute [local go_sem high] TItem_eql TItem_neq
attribute [local go_sem] mkMapW
section
variable {w W : World} {F : Nat → Prop} {R : List Res}
theorem map_split {α β : Type} (f : α → β) {l : List α} {k : Nat} {a : α} (hk : l[k]? = some a) : (l.map f).Perm (f a :: (l.take k ++ l.drop (k + 1)).map f) := by
  obtain ⟨hkl, rfl⟩ := List.getElem?_eq_some_iff.1 hk
  have h : l = l.take k ++ l[k] :: l.drop (k + 1) := by
    rw [← List.drop_eq_getElem_cons hkl, List.take_append_drop]
  conv => lhs; rw [h]
  rw [List.map_append, List.map_cons, List.map_append]
  exact List.perm_middle
theorem Sts.pick {α : Type} {f : α → Res} {l : List α} {k : Nat} {a : α} (hk : l[k]? = some a) (T : Sts w F W (packR (l.map f) :: R)) : Sts w F W (f a :: packR ((l.take k ++ l.drop (k + 1)).map f) :: R) := by
  have T1 := T.unpack
  have T2 : Sts w F W (f a :: ((l.take k ++ l.drop (k + 1)).map f ++ R)) := T1.perm ((map_split f hk).append_right R)
  exact T2.pack1
theorem Sts.unpick {α : Type} {f : α → Res} {l : List α} {k : Nat} {a : α} (hk : l[k]? = some a) (T : Sts w F W (f a :: packR ((l.take k ++ l.drop (k + 1)).map f) :: R)) : Sts w F W (packR (l.map f) :: R) := by
  have T1 := T.unpack1
  have T2 : Sts w F W (l.map f ++ R) := T1.perm ((map_split f hk).symm.append_right R)
  exact Sts.pack T2
/-- A part's slice. -/
def ptR (p : Value × List Item) : Res := vecR 35 2 p.1 p.2.length (vl IV p.2)
theorem Sts.paOpen2 {v : Value} {pa : List (List Item)} (T : Sts w F W (paR v pa :: R)) : ∃ (pv : List (Value × List Item)) (A : Option Addr) (c : Nat), pv.map (·.2) = pa ∧ v = .slice A pv.length c ∧ Sts w F W (vecR 30 1 (.slice A pv.length c) pv.length (vl PV pv) :: packR (pv.map ptR) :: R) := by
  obtain ⟨pv, h, T1⟩ := T.paOpen
  obtain ⟨A, c, rfl⟩ := vec_shape2 T1
  exact ⟨pv, A, c, h, rfl, T1.pack1⟩
/-- What a part's slice is, where it stands. -/
theorem part_at {A : Option Addr} {c : Nat} {pv : List (Value × List Item)} (T : Sts w F W (vecR 30 1 (.slice A pv.length c) pv.length (vl PV pv) :: packR (pv.map ptR) :: R)) {k : Nat} {p : Value × List Item} (hk : pv[k]? = some p) :
    ∃ gp B d, A = some ⟨gp, 0, none⟩ ∧ W.cell? ⟨gp, k, none⟩ = some (.slice B p.2.length d) ∧ p.1 = .slice B p.2.length d := by
  obtain ⟨hkl, rfl⟩ := List.getElem?_eq_some_iff.1 hk
  obtain ⟨gp, c', hv, -, hcell⟩ := vec_cell PV_size T (by omega) hkl
  injection hv with e1 e2 e3
  have T2 : Sts w F W (ptR pv[k] :: _) := (T.swap).pick hk
  obtain ⟨B, d, hb⟩ := vec_shape2 (show Sts w F W (vecR 35 2 pv[k].1 pv[k].2.length (vl IV pv[k].2) :: _) from T2)
  refine ⟨gp, B, d, e1, ?_, hb⟩
  have := hcell 0 pv[k].1 rfl
  rw [Nat.mul_one, Nat.add_zero] at this
  rw [this, hb]
end
end Go.Proofs.Ytnjgjhjilolanaa
