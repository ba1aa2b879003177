/- Several texts in one. -/
import Derived.Test.YtnjgjhjilolanaaX5
/- Layer 3: rows of items: none as yet; the greatest number. -/
namespace Go.Proofs.Ytnjgjhjilolanaa
open Go.RowKit
set_option linter.unusedVariables false
set_option maxRecDepth 20000
attribute [local go_sem] row_alloc row_drew row_drewN row_ext row_setCell row_setRow size_ext setRow_alloc setRow_drew loadOf storeOf piece_lit loadVal_at storeVal_at allOne_lit buildOf buildRes_some
attribute [local go_sem high] cell_alloc frozen_alloc setCell_alloc cell_ext frozen_ext cell_setRow frozen_setRow
attribute [local go_sem ↓] TDeed_ld0 TDeed_st0 TDeed_fd0 TDeed_bd0
attribute [local go_sem] TDeed_size TDeed_one TDeed_piece TDeed_c0 TDeed_c1 TDeed_c2 TDeed_c3 TDeed_c4 TDeed_c5 TDeed_set_kind TDeed_set_key TDeed_set_val TDeed_set_ver TDeed_set_ses TDeed_set_num TDeed_ld TDeed_st TDeed_f_kind TDeed_f_key TDeed_f_val TDeed_f_ver TDeed_f_ses TDeed_f_num TDeed_bd TDeed_fl TDeed_fl_kind TDeed_fl_key TDeed_fl_val TDeed_fl_ver TDeed_fl_ses TDeed_fl_num
attribute [local go_sem high] TDeed_eql TDeed_neq
attribute [local go_sem ↓] index_deps0 load_deps0 store_deps0
attribute [local go_sem] DV_piece DV_size DV_one index_deps load_deps store_deps
attribute [local go_sem high] TDeps_eql TDeps_neq
attribute [local go_sem ↓] TCall_ld0 TCall_st0 TCall_fd0 TCall_bd0
attribute [local go_sem] TCall_size TCall_one TCall_piece TCall_c0 TCall_c1 TCall_c2 TCall_c3 TCall_c4 TCall_c5 TCall_c6 TCall_c7 TCall_c8 TCall_c9 TCall_c10 TCall_c11 TCall_c12 TCall_c13 TCall_p_deed TCall_put_deed TCall_p_deps TCall_put_deps TCall_set_seq TCall_ld TCall_st TCall_f_deed TCall_f_deps TCall_f_seq TCall_bd TCall_fl TCall_fl_deed TCall_fl_deps TCall_fl_seq
attribute [local go_sem high] TCall_eql TCall_neq
attribute [local go_sem ↓] TItem_ld0 TItem_st0 TItem_fd0 TItem_bd0
attribute [local go_sem] TItem_size TItem_one TItem_piece TItem_c0 TItem_c1 TItem_set_rep TItem_set_num TItem_ld TItem_st TItem_f_rep TItem_f_num TItem_bd TItem_fl TItem_fl_rep TItem_fl_num
attribute [local go_sem high] TItem_eql TItem_neq
attribute [local go_sem] rcells_n
theorem pairs_nilK {w W : World} {F : Nat → Prop} : ∀ (ks : List Nat) {R : List Res}, Sts w F W R → Sts w F W (ks.map (pairRK (fun _ => []) (fun _ => .slice none 0 0) (fun _ => .slice none 0 0)) ++ R)
  | [], R, T => T
  | k :: ks, R, T => ((pairs_nilK ks T).vecNil 4 1 |>.vecNil 47 14).join
set_option maxHeartbeats 4000000 in
theorem irNewTK (n : Int) (hn : -9223372036854775808 ≤ n ∧ n ≤ 9223372036854775807) {w W : World} {F : Nat → Prop} {R : List Res} (T : Sts w F W R) :
    Calls Try.prog 62 #[.int .i64 n] W fun e W' => e = .returned (.pointer (some ⟨W.heap.size, 0, none⟩)) ∧ Sts w F W' (rowsIRK W.heap.size ⟨newN n, fun _ => []⟩ :: R) := by
  have TN := T.new (rcells (newN n) (fun _ => .slice none 0 0) (fun _ => .slice none 0 0)) 113
  have TR : Sts w F (W.alloc (.cells (rcells (newN n) (fun _ => .slice none 0 0) (fun _ => .slice none 0 0)) 113)) (rowsIRK W.heap.size ⟨newN n, fun _ => []⟩ :: R) := by
    have T1 := pairs_nilK (List.range 7) TN
    have T2 := T1.perm List.perm_middle
    exact (Sts.pack (L := rowR W.heap.size (rcells (newN n) (fun _ => .slice none 0 0) (fun _ => .slice none 0 0)) :: (List.range 7).map (pairRK (fun _ => []) (fun _ => .slice none 0 0) (fun _ => .slice none 0 0))) T2).close ((fun _ => .slice none 0 0), (fun _ => .slice none 0 0))
  have HR := Lib.hid TR; clear TN TR T
  by_cases h0 : n < 0
  · have e : newN n = 0 := by unfold newN; rw [if_pos h0]
    rw [e] at HR ⊢
    go_enter Try.func62, Try.ntmps62
    go_wp2
    go_ret
    exact ⟨rfl, HR.out⟩
  · by_cases h7 : 7 < n
    · have e : newN n = 7 := by unfold newN; rw [if_neg h0, if_pos h7]
      rw [e] at HR ⊢
      go_enter Try.func62, Try.ntmps62
      go_wp2
      go_ret
      exact ⟨rfl, HR.out⟩
    · have e : newN n = n := by unfold newN; rw [if_neg h0, if_neg h7]
      rw [e] at HR ⊢
      go_enter Try.func62, Try.ntmps62
      go_wp2
      go_ret
      exact ⟨rfl, HR.out⟩
end Go.Proofs.Ytnjgjhjilolanaa
