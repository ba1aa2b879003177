/- Layer 24, the document: can a row be at all? -/
import Derived.Test.YtahajjfbkdocaaaAudF
namespace Go.Proofs.Ytahajjfbkdocaaa
open Go.RowKit
set_option linter.unusedVariables false
attribute [local go_sem] row_alloc row_drew row_drewN row_ext row_setCell row_setRow size_ext setRow_alloc setRow_drew loadOf storeOf piece_lit loadVal_at storeVal_at allOne_lit buildOf buildRes_some
attribute [local go_sem high] cell_alloc frozen_alloc setCell_alloc cell_ext frozen_ext cell_setRow frozen_setRow
attribute [local go_sem ↓] TDeed_ld0 TDeed_st0 TDeed_fd0 TDeed_bd0
attribute [local go_sem] TDeed_size TDeed_one TDeed_piece TDeed_c0 TDeed_c1 TDeed_c2 TDeed_c3 TDeed_c4 TDeed_c5 TDeed_set_kind TDeed_set_key TDeed_set_val TDeed_set_ver TDeed_set_ses TDeed_set_num TDeed_ld TDeed_st TDeed_f_kind TDeed_f_key TDeed_f_val TDeed_f_ver TDeed_f_ses TDeed_f_num TDeed_bd TDeed_fl TDeed_fl_kind TDeed_fl_key TDeed_fl_val TDeed_fl_ver TDeed_fl_ses TDeed_fl_num
attribute [local go_sem high] TDeed_eql TDeed_neq
attribute [local go_sem ↓] index_deps0 load_deps0 store_deps0
attribute [local go_sem] DV_piece DV_size DV_one index_deps load_deps store_deps
attribute [local go_sem high] TDeps_eql TDeps_neq
attribute [local go_sem ↓] TCall_ld0 TCall_st0 TCall_fd0 TCall_bd0
attribute [local go_sem] TCall_size TCall_one TCall_piece TCall_c0 TCall_c1 TCall_c2 TCall_c3 TCall_c4 TCall_c5 TCall_c6 TCall_c7 TCall_c8 TCall_c9 TCall_c10 TCall_c11 TCall_c12 TCall_c13 TCall_p_deed TCall_put_deed TCall_p_deps TCall_put_deps TCall_set_seq TCall_ld TCall_st TCall_f_deed TCall_f_deps TCall_f_seq TCall_bd TCall_fl TCall_fl_deed TCall_fl_deps TCall_fl_seq
attribute [local go_sem high] TCall_eql TCall_neq
attribute [local go_sem ↓] TItem_ld0 TItem_st0 TItem_fd0 TItem_bd0
attribute [local go_sem] TItem_size TItem_one TItem_piece TItem_c0 TItem_c1 TItem_set_rep TItem_set_num TItem_ld TItem_st TItem_f_rep TItem_f_num TItem_bd TItem_fl TItem_fl_rep TItem_fl_num
attribute [local go_sem high] TItem_eql TItem_neq
attribute [local go_sem ↓] TBallot_ld0 TBallot_st0 TBallot_fd0 TBallot_bd0
attribute [local go_sem] TBallot_size TBallot_one TBallot_piece TBallot_c0 TBallot_c1 TBallot_set_round TBallot_set_rep TBallot_ld TBallot_st TBallot_f_round TBallot_f_rep TBallot_bd TBallot_fl TBallot_fl_round TBallot_fl_rep
attribute [local go_sem high] TBallot_eql TBallot_neq
attribute [local go_sem ↓] TInst_ld0 TInst_st0 TInst_fd0 TInst_bd0
attribute [local go_sem] TInst_size TInst_one TInst_piece TInst_c0 TInst_c1 TInst_c2 TInst_c3 TInst_c4 TInst_c5 TInst_c6 TInst_c7 TInst_c8 TInst_c9 TInst_c10 TInst_c11 TInst_c12 TInst_c13 TInst_c14 TInst_c15 TInst_c16 TInst_c17 TInst_c18 TInst_c19 TInst_p_prom TInst_put_prom TInst_p_vote TInst_put_vote TInst_set_status TInst_p_call TInst_put_call TInst_set_same TInst_ld TInst_st TInst_f_prom TInst_f_vote TInst_f_status TInst_f_call TInst_f_same TInst_bd TInst_fl TInst_fl_prom TInst_fl_vote TInst_fl_status TInst_fl_call TInst_fl_same
attribute [local go_sem high] TInst_eql TInst_neq
attribute [local go_sem ↓] TRRow_ld0 TRRow_st0 TRRow_fd0 TRRow_bd0
attribute [local go_sem] TRRow_size TRRow_one TRRow_piece TRRow_c0 TRRow_c1 TRRow_c2 TRRow_c3 TRRow_c4 TRRow_c5 TRRow_c6 TRRow_c7 TRRow_c8 TRRow_c9 TRRow_c10 TRRow_c11 TRRow_c12 TRRow_c13 TRRow_c14 TRRow_c15 TRRow_c16 TRRow_c17 TRRow_c18 TRRow_c19 TRRow_c20 TRRow_c21 TRRow_c22 TRRow_set_rep TRRow_p_item TRRow_put_item TRRow_p_inst TRRow_put_inst TRRow_ld TRRow_st TRRow_f_rep TRRow_f_item TRRow_f_inst TRRow_bd TRRow_fl TRRow_fl_rep TRRow_fl_item TRRow_fl_inst
attribute [local go_sem high] TRRow_eql TRRow_neq
attribute [-go_sem] loadOf
noncomputable def soundB (l : List RRow) (k : Nat) (x : RRow) (n : Int) : Bool := goodI x.item n && firstB (l.take k) x && goodN x.inst n
set_option maxHeartbeats 4000000 in
theorem sound_any (g c : Nat) (l : List RRow) (k : Nat) (hk : k < l.length) (n : Int) (w W : World) (R : List Res) (hx : RowsIn w (some ⟨g, 0, none⟩) 23 RwV l) (T : Sts w (fun _ => False) W R) :
    Calls Try.prog 28 #[.slice (some ⟨g, 0, none⟩) l.length c, .int .i64 k, .int .i64 n] W fun e W' => e = .returned (.bool (soundB l k l[k] n)) ∧ Sts w (fun _ => False) W' R := by
  have hll := hx.len
  have k2 := fun W' (hb : Below w.heap.size w W') => hx.part (P := Try.prog) (T := 28) hb hk 1 2 (IV l[k].item) (fun i v h => by match i with | 0 => exact h | 1 => exact h | (i + 2) => cases h) rfl TItem_und rfl (by kernel_rfl)
  have k3 := fun W' (hb : Below w.heap.size w W') => hx.part (P := Try.prog) (T := 38) hb hk 3 20 (NV l[k].inst) (fun i v h => by
    have hi : i < 20 := (Array.getElem?_eq_some_iff.1 h).1
    have hh : ∀ q : RRow, (RwV q)[3 + i]? = (NV q.inst)[i]? := fun q => by
      match i, hi with
      | 0, _ | 1, _ | 2, _ | 3, _ | 4, _ | 5, _ | 6, _ | 7, _ | 8, _ | 9, _ | 10, _ | 11, _ | 12, _ | 13, _ | 14, _ | 15, _ | 16, _ | 17, _ | 18, _ | 19, _ => rfl
    rw [hh]; exact h) rfl TInst_und rfl (by kernel_rfl)
  have cf := fun W' (T : Sts w (fun _ => False) W' R) => first_any g c l k hk w W' R hx T
  have K2 := Lib.hid k2; have K3 := Lib.hid k3; have CF := Lib.hid cf; clear k2 k3 cf
  generalize l[k] = q at *
  have C1 := Lib.hid (ritemGood_any q.item n); have C3 := Lib.hid (rgoodN_any q.inst n)
  have f2 := K2.out W T.below
  go_enter Try.func28, Try.ntmps28
  go_wp2_with fail
  with_reducible refine (Ans.at C1.out T).mono ?_
  clear T f2 C1; rintro e w1 ⟨rfl, T⟩
  cases h1 : goodI q.item n
  case false =>
    have HM := Lib.hid (show soundB l k q n = false by unfold soundB; simp [h1])
    go_wp2
    try simp only [Exit.inBlock, Exit.then]
    go_ret
    exact ⟨by rw [HM.out]; rfl, T⟩
  case true =>
    go_wp2_with fail
    with_reducible refine (CF.out w1 T).mono ?_
    clear T CF; rintro e w2 ⟨rfl, T⟩
    cases h2 : firstB (l.take k) q
    case false =>
      have HM := Lib.hid (show soundB l k q n = false by unfold soundB; simp [h2])
      go_wp2
      try simp only [Exit.inBlock, Exit.then]
      go_ret
      exact ⟨by rw [HM.out]; rfl, T⟩
    case true =>
      have HM := Lib.hid (show soundB l k q n = goodN q.inst n by unfold soundB; simp [h1, h2])
      have f3 := K3.out w2 T.below
      go_wp2_with fail
      with_reducible refine (Ans.at C3.out T).mono ?_
      clear T f3 C3; rintro e w3 ⟨rfl, T⟩
      go_wp2
      try simp only [Exit.inBlock, Exit.then]
      go_ret
      exact ⟨by rw [HM.out]; rfl, T⟩
end Go.Proofs.Ytahajjfbkdocaaa
