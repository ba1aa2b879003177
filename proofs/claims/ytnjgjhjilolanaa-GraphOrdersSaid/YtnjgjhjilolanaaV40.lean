/- Several texts in one. -/
import Derived.Test.YtnjgjhjilolanaaV39
/- Slices of items: what is over is taken out of one. -/
namespace Go.Proofs.Ytnjgjhjilolanaa
open Go.RowKit Go.Shelf
set_option linter.unusedVariables false
set_option maxRecDepth 20000
attribute [local go_sem] row_alloc row_drew row_drewN row_ext row_setCell row_setRow size_ext setRow_alloc setRow_drew loadOf storeOf piece_lit loadVal_at storeVal_at allOne_lit buildOf buildRes_some
attribute [local go_sem high] cell_alloc frozen_alloc setCell_alloc cell_ext frozen_ext cell_setRow frozen_setRow
attribute [local go_sem ↓] TDeed_ld0 TDeed_st0 TDeed_fd0 TDeed_bd0
attribute [local go_sem] TDeed_size TDeed_one TDeed_piece TDeed_c0 TDeed_c1 TDeed_c2 TDeed_c3 TDeed_c4 TDeed_c5 TDeed_set_kind TDeed_set_key TDeed_set_val TDeed_set_ver TDeed_set_ses TDeed_set_num TDeed_ld TDeed_st TDeed_f_kind TDeed_f_key TDeed_f_val TDeed_f_ver TDeed_f_ses TDeed_f_num TDeed_bd TDeed_fl TDeed_fl_kind TDeed_fl_key TDeed_fl_val TDeed_fl_ver TDeed_fl_ses TDeed_fl_num
attribute [local go_sem high] TDeed_eql TDeed_neq
attribute [local go_sem ↓] index_deps0 load_deps0 store_deps0
attribute [local go_sem] DV_piece DV_size DV_one index_deps load_deps store_deps
attribute [local go_sem high] TDeps_eql TDeps_neq
attribute [local go_sem ↓] TCall_ld0 TCall_st0 TCall_fd0 TCall_bd0
attribute [local go_sem] TCall_size TCall_one TCall_piece TCall_c0 TCall_c1 TCall_c2 TCall_c3 TCall_c4 TCall_c5 TCall_c6 TCall_c7 TCall_c8 TCall_c9 TCall_c10 TCall_c11 TCall_c12 TCall_c13 TCall_p_deed TCall_put_deed TCall_p_deps TCall_put_deps TCall_set_seq TCall_ld TCall_st TCall_f_deed TCall_f_deps TCall_f_seq TCall_bd TCall_fl TCall_fl_deed TCall_fl_deps TCall_fl_seq
attribute [local go_sem high] TCall_eql TCall_neq
attribute [local go_sem ↓] TItem_ld0 TItem_st0 TItem_fd0 TItem_bd0
attribute [local go_sem] TItem_size TItem_one TItem_piece TItem_c0 TItem_c1 TItem_set_rep TItem_set_num TItem_ld TItem_st TItem_f_rep TItem_f_num TItem_bd TItem_fl TItem_fl_rep TItem_fl_num
attribute [local go_sem high] TItem_eql TItem_neq
section
variable {w W : World} {F : Nat → Prop} {R : List Res} {b gc gd g c : Nat} {m : RowsMK} {q : RowsML} {d : Array Item}
end
end Go.Proofs.Ytnjgjhjilolanaa
/- Layer 19: a part is done. -/
namespace Go.Proofs.Ytnjgjhjilolanaa
open Go.RowKit Go.Shelf
set_option linter.unusedVariables false
set_option maxRecDepth 20000
attribute [local go_sem] row_alloc row_drew row_drewN row_ext row_setCell row_setRow size_ext setRow_alloc setRow_drew loadOf storeOf piece_lit loadVal_at storeVal_at allOne_lit buildOf buildRes_some
attribute [local go_sem high] cell_alloc frozen_alloc setCell_alloc cell_ext frozen_ext cell_setRow frozen_setRow
attribute [local go_sem ↓] TDeed_ld0 TDeed_st0 TDeed_fd0 TDeed_bd0
attribute [local go_sem] TDeed_size TDeed_one TDeed_piece TDeed_c0 TDeed_c1 TDeed_c2 TDeed_c3 TDeed_c4 TDeed_c5 TDeed_set_kind TDeed_set_key TDeed_set_val TDeed_set_ver TDeed_set_ses TDeed_set_num TDeed_ld TDeed_st TDeed_f_kind TDeed_f_key TDeed_f_val TDeed_f_ver TDeed_f_ses TDeed_f_num TDeed_bd TDeed_fl TDeed_fl_kind TDeed_fl_key TDeed_fl_val TDeed_fl_ver TDeed_fl_ses TDeed_fl_num
attribute [local go_sem high] TDeed_eql TDeed_neq
attribute [local go_sem ↓] index_deps0 load_deps0 store_deps0
attribute [local go_sem] DV_piece DV_size DV_one index_deps load_deps store_deps
attribute [local go_sem high] TDeps_eql TDeps_neq
attribute [local go_sem ↓] TCall_ld0 TCall_st0 TCall_fd0 TCall_bd0
attribute [local go_sem] TCall_size TCall_one TCall_piece TCall_c0 TCall_c1 TCall_c2 TCall_c3 TCall_c4 TCall_c5 TCall_c6 TCall_c7 TCall_c8 TCall_c9 TCall_c10 TCall_c11 TCall_c12 TCall_c13 TCall_p_deed TCall_put_deed TCall_p_deps TCall_put_deps TCall_set_seq TCall_ld TCall_st TCall_f_deed TCall_f_deps TCall_f_seq TCall_bd TCall_fl TCall_fl_deed TCall_fl_deps TCall_fl_seq
attribute [local go_sem high] TCall_eql TCall_neq
attribute [local go_sem ↓] TItem_ld0 TItem_st0 TItem_fd0 TItem_bd0
attribute [local go_sem] TItem_size TItem_one TItem_piece TItem_c0 TItem_c1 TItem_set_rep TItem_set_num TItem_ld TItem_st TItem_f_rep TItem_f_num TItem_bd TItem_fl TItem_fl_rep TItem_fl_num
attribute [local go_sem high] TItem_eql TItem_neq
section
variable {w W : World} {F : Nat → Prop} {R : List Res} {r b gc gd g c : Nat} {m : RowsMK} {q : RowsML} {D O : List Item}
theorem vec_news {v : Value} {l : List Item} {gp cp n : Nat} (hn : l.length = n) (h0 : 0 < n) (hv : v = .slice (some ⟨gp, 0, none⟩) n cp) (T : Sts w F W (vecR 35 2 v l.length (vl IV l) :: R)) :
    (vl IV l).length = n * 2 ∧ (∀ j u, (vl IV l)[j]? = some u → W.cell? ((⟨gp, 0, none⟩ : Addr).add j) = some u) ∧ ∀ u ∈ vl IV l, u.oneCell' = true := by
  subst hn
  have hsz : ∀ j u, (vl IV l)[j]? = some u → j / 2 < l.length ∧ (IV (l[j / 2]!))[j % 2]? = some u := fun j u hj => by
    have hjl : j < l.length * 2 := by
      have := (List.getElem?_eq_some_iff.1 hj).1
      unfold vl at this
      rw [Array.length_toList, flatV_size TItem_size] at this
      exact this
    have hq : j / 2 < l.length := by omega
    have h2 := flatV_get TItem_size l (j / 2) hq (j % 2) (by omega)
    rw [show j / 2 * 2 + j % 2 = j by omega] at h2
    unfold vl at hj
    rw [Array.getElem?_toList, h2] at hj
    refine ⟨hq, ?_⟩
    rw [getElem!_pos l (j / 2) hq]
    exact hj
  refine ⟨by unfold vl; rw [Array.length_toList, flatV_size TItem_size], fun j u hj => ?_, fun u hu => ?_⟩
  · obtain ⟨hq, h2⟩ := hsz j u hj
    obtain ⟨g', c', hv2, -, hcell⟩ := vec_cell TItem_size T (by omega) hq
    rw [hv] at hv2
    injection hv2 with e1 e2 e3
    injection e1 with e1
    injection e1 with e1
    subst e1
    rw [getElem!_pos l (j / 2) hq] at h2
    have h3 := hcell (j % 2) u h2
    rw [add_none, Nat.zero_add]
    rw [show j / 2 * 2 + j % 2 = j by omega] at h3
    exact h3
  · obtain ⟨j, hj⟩ := List.getElem?_of_mem hu
    obtain ⟨hq, h2⟩ := hsz j u hj
    exact itm_one _ u (List.mem_of_getElem? (i := j % 2) (by rw [Array.getElem?_toList]; exact h2))
end
end Go.Proofs.Ytnjgjhjilolanaa
