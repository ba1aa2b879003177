/- Several texts in one. -/
import Derived.Test.YtnjgjhjilolanaaH37
import Derived.Test.YtnjgjhjilolanaaH5
import Derived.Test.YtnjgjhjilolanaaH15
import Derived.Test.YtnjgjhjilolanaaH35
import Derived.Test.YtnjgjhjilolanaaH30
import Derived.Test.YtnjgjhjilolanaaH28
import Derived.Test.YtnjgjhjilolanaaH18
import Derived.Test.YtnjgjhjilolanaaH34
import Derived.Test.YtnjgjhjilolanaaH36
/- Layer 18: the document's search. -/
namespace Go.Proofs.Ytnjgjhjilolanaa
open Go.RowKit Go.Shelf
set_option linter.unusedVariables false
set_option maxRecDepth 20000
attribute [local go_sem] row_alloc row_drew row_drewN row_ext row_setCell row_setRow size_ext setRow_alloc setRow_drew loadOf storeOf piece_lit loadVal_at storeVal_at allOne_lit buildOf buildRes_some
attribute [local go_sem high] cell_alloc frozen_alloc setCell_alloc cell_ext frozen_ext cell_setRow frozen_setRow
attribute [local go_sem ↓] TDeed_ld0 TDeed_st0 TDeed_fd0 TDeed_bd0
attribute [local go_sem] TDeed_size TDeed_one TDeed_piece TDeed_c0 TDeed_c1 TDeed_c2 TDeed_c3 TDeed_c4 TDeed_c5 TDeed_set_kind TDeed_set_key TDeed_set_val TDeed_set_ver TDeed_set_ses TDeed_set_num TDeed_ld TDeed_st TDeed_f_kind TDeed_f_key TDeed_f_val TDeed_f_ver TDeed_f_ses TDeed_f_num TDeed_bd TDeed_fl TDeed_fl_kind TDeed_fl_key TDeed_fl_val TDeed_fl_ver TDeed_fl_ses TDeed_fl_num
attribute [local go_sem high] TDeed_eql TDeed_neq
attribute [local go_sem ↓] index_deps0 load_deps0 store_deps0
attribute [local go_sem] DV_piece DV_size DV_one index_deps load_deps store_deps
attribute [local go_sem high] TDeps_eql TDeps_neq
attribute [local go_sem ↓] TCall_ld0 TCall_st0 TCall_fd0 TCall_bd0
attribute [local go_sem] TCall_size TCall_one TCall_piece TCall_c0 TCall_c1 TCall_c2 TCall_c3 TCall_c4 TCall_c5 TCall_c6 TCall_c7 TCall_c8 TCall_c9 TCall_c10 TCall_c11 TCall_c12 TCall_c13 TCall_p_deed TCall_put_deed TCall_p_deps TCall_put_deps TCall_set_seq TCall_ld TCall_st TCall_f_deed TCall_f_deps TCall_f_seq TCall_bd TCall_fl TCall_fl_deed TCall_fl_deps TCall_fl_seq
attribute [local go_sem high] TCall_eql TCall_neq
attribute [local go_sem ↓] TItem_ld0 TItem_st0 TItem_fd0 TItem_bd0
attribute [local go_sem] TItem_size TItem_one TItem_piece TItem_c0 TItem_c1 TItem_set_rep TItem_set_num TItem_ld TItem_st TItem_f_rep TItem_f_num TItem_bd TItem_fl TItem_fl_rep TItem_fl_num
attribute [local go_sem high] TItem_eql TItem_neq
attribute [local go_sem ↓] itm_slice0
attribute [local go_sem] itm_slice1 pit_slice1
section
variable {w W : World} {F : Nat → Prop} {R : List Res}
end
end Go.Proofs.Ytnjgjhjilolanaa
/- Layer 18: are the parts of an order as they must be: the law's own look at them. -/
namespace Go.Proofs.Ytnjgjhjilolanaa
open Go.RowKit Go.Shelf
set_option linter.unusedVariables false
set_option maxRecDepth 20000
attribute [local go_sem] row_alloc row_drew row_drewN row_ext row_setCell row_setRow size_ext setRow_alloc setRow_drew loadOf storeOf piece_lit loadVal_at storeVal_at allOne_lit buildOf buildRes_some
attribute [local go_sem high] cell_alloc frozen_alloc setCell_alloc cell_ext frozen_ext cell_setRow frozen_setRow
attribute [local go_sem ↓] TDeed_ld0 TDeed_st0 TDeed_fd0 TDeed_bd0
attribute [local go_sem] TDeed_size TDeed_one TDeed_piece TDeed_c0 TDeed_c1 TDeed_c2 TDeed_c3 TDeed_c4 TDeed_c5 TDeed_set_kind TDeed_set_key TDeed_set_val TDeed_set_ver TDeed_set_ses TDeed_set_num TDeed_ld TDeed_st TDeed_f_kind TDeed_f_key TDeed_f_val TDeed_f_ver TDeed_f_ses TDeed_f_num TDeed_bd TDeed_fl TDeed_fl_kind TDeed_fl_key TDeed_fl_val TDeed_fl_ver TDeed_fl_ses TDeed_fl_num
attribute [local go_sem high] TDeed_eql TDeed_neq
attribute [local go_sem ↓] index_deps0 load_deps0 store_deps0
attribute [local go_sem] DV_piece DV_size DV_one index_deps load_deps store_deps
attribute [local go_sem high] TDeps_eql TDeps_neq
attribute [local go_sem ↓] TCall_ld0 TCall_st0 TCall_fd0 TCall_bd0
attribute [local go_sem] TCall_size TCall_one TCall_piece TCall_c0 TCall_c1 TCall_c2 TCall_c3 TCall_c4 TCall_c5 TCall_c6 TCall_c7 TCall_c8 TCall_c9 TCall_c10 TCall_c11 TCall_c12 TCall_c13 TCall_p_deed TCall_put_deed TCall_p_deps TCall_put_deps TCall_set_seq TCall_ld TCall_st TCall_f_deed TCall_f_deps TCall_f_seq TCall_bd TCall_fl TCall_fl_deed TCall_fl_deps TCall_fl_seq
attribute [local go_sem high] TCall_eql TCall_neq
attribute [local go_sem ↓] TItem_ld0 TItem_st0 TItem_fd0 TItem_bd0
attribute [local go_sem] TItem_size TItem_one TItem_piece TItem_c0 TItem_c1 TItem_set_rep TItem_set_num TItem_ld TItem_st TItem_f_rep TItem_f_num TItem_bd TItem_fl TItem_fl_rep TItem_fl_num
attribute [local go_sem high] TItem_eql TItem_neq
attribute [local go_sem ↓] itm_slice0
attribute [local go_sem] itm_slice1
section
variable {w W : World} {F : Nat → Prop} {R : List Res}
end
end Go.Proofs.Ytnjgjhjilolanaa
/- Layer 18: are the parts of an order told in the document's order: the law's own look at them. -/
namespace Go.Proofs.Ytnjgjhjilolanaa
open Go.RowKit Go.Shelf
set_option linter.unusedVariables false
set_option maxRecDepth 20000
attribute [local go_sem] row_alloc row_drew row_drewN row_ext row_setCell row_setRow size_ext setRow_alloc setRow_drew loadOf storeOf piece_lit loadVal_at storeVal_at allOne_lit buildOf buildRes_some
attribute [local go_sem high] cell_alloc frozen_alloc setCell_alloc cell_ext frozen_ext cell_setRow frozen_setRow
attribute [local go_sem ↓] TDeed_ld0 TDeed_st0 TDeed_fd0 TDeed_bd0
attribute [local go_sem] TDeed_size TDeed_one TDeed_piece TDeed_c0 TDeed_c1 TDeed_c2 TDeed_c3 TDeed_c4 TDeed_c5 TDeed_set_kind TDeed_set_key TDeed_set_val TDeed_set_ver TDeed_set_ses TDeed_set_num TDeed_ld TDeed_st TDeed_f_kind TDeed_f_key TDeed_f_val TDeed_f_ver TDeed_f_ses TDeed_f_num TDeed_bd TDeed_fl TDeed_fl_kind TDeed_fl_key TDeed_fl_val TDeed_fl_ver TDeed_fl_ses TDeed_fl_num
attribute [local go_sem high] TDeed_eql TDeed_neq
attribute [local go_sem ↓] index_deps0 load_deps0 store_deps0
attribute [local go_sem] DV_piece DV_size DV_one index_deps load_deps store_deps
attribute [local go_sem high] TDeps_eql TDeps_neq
attribute [local go_sem ↓] TCall_ld0 TCall_st0 TCall_fd0 TCall_bd0
attribute [local go_sem] TCall_size TCall_one TCall_piece TCall_c0 TCall_c1 TCall_c2 TCall_c3 TCall_c4 TCall_c5 TCall_c6 TCall_c7 TCall_c8 TCall_c9 TCall_c10 TCall_c11 TCall_c12 TCall_c13 TCall_p_deed TCall_put_deed TCall_p_deps TCall_put_deps TCall_set_seq TCall_ld TCall_st TCall_f_deed TCall_f_deps TCall_f_seq TCall_bd TCall_fl TCall_fl_deed TCall_fl_deps TCall_fl_seq
attribute [local go_sem high] TCall_eql TCall_neq
attribute [local go_sem ↓] TItem_ld0 TItem_st0 TItem_fd0 TItem_bd0
attribute [local go_sem] TItem_size TItem_one TItem_piece TItem_c0 TItem_c1 TItem_set_rep TItem_set_num TItem_ld TItem_st TItem_f_rep TItem_f_num TItem_bd TItem_fl TItem_fl_rep TItem_fl_num
attribute [local go_sem high] TItem_eql TItem_neq
theorem wlk_build0 (p : Array (Nat × Value)) : Instr.build 94 p = buildS 94 p := rfl
theorem wlk_build (w : World) (b : Nat) : (buildS 94 #[(0, .pointer (some ⟨b, 0, none⟩))]).run Try.prog w = .ok (.agg #[.pointer (some ⟨b, 0, none⟩), .slice none 0 0, .slice none 0 0]) w := by kernel_rfl
attribute [local go_sem ↓] wlk_build0
attribute [local go_sem] wlk_build
section
variable {w W : World} {F : Nat → Prop} {R : List Res}
end
end Go.Proofs.Ytnjgjhjilolanaa
/- Layer 18: what a nil graph answers. -/
namespace Go.Proofs.Ytnjgjhjilolanaa
open Go.RowKit Go.Shelf
set_option linter.unusedVariables false
set_option maxRecDepth 20000
attribute [local go_sem] row_alloc row_drew row_drewN row_ext row_setCell row_setRow size_ext setRow_alloc setRow_drew loadOf storeOf piece_lit loadVal_at storeVal_at allOne_lit buildOf buildRes_some
attribute [local go_sem high] cell_alloc frozen_alloc setCell_alloc cell_ext frozen_ext cell_setRow frozen_setRow
attribute [local go_sem ↓] TDeed_ld0 TDeed_st0 TDeed_fd0 TDeed_bd0
attribute [local go_sem] TDeed_size TDeed_one TDeed_piece TDeed_c0 TDeed_c1 TDeed_c2 TDeed_c3 TDeed_c4 TDeed_c5 TDeed_set_kind TDeed_set_key TDeed_set_val TDeed_set_ver TDeed_set_ses TDeed_set_num TDeed_ld TDeed_st TDeed_f_kind TDeed_f_key TDeed_f_val TDeed_f_ver TDeed_f_ses TDeed_f_num TDeed_bd TDeed_fl TDeed_fl_kind TDeed_fl_key TDeed_fl_val TDeed_fl_ver TDeed_fl_ses TDeed_fl_num
attribute [local go_sem high] TDeed_eql TDeed_neq
attribute [local go_sem ↓] index_deps0 load_deps0 store_deps0
attribute [local go_sem] DV_piece DV_size DV_one index_deps load_deps store_deps
attribute [local go_sem high] TDeps_eql TDeps_neq
attribute [local go_sem ↓] TCall_ld0 TCall_st0 TCall_fd0 TCall_bd0
attribute [local go_sem] TCall_size TCall_one TCall_piece TCall_c0 TCall_c1 TCall_c2 TCall_c3 TCall_c4 TCall_c5 TCall_c6 TCall_c7 TCall_c8 TCall_c9 TCall_c10 TCall_c11 TCall_c12 TCall_c13 TCall_p_deed TCall_put_deed TCall_p_deps TCall_put_deps TCall_set_seq TCall_ld TCall_st TCall_f_deed TCall_f_deps TCall_f_seq TCall_bd TCall_fl TCall_fl_deed TCall_fl_deps TCall_fl_seq
attribute [local go_sem high] TCall_eql TCall_neq
attribute [local go_sem ↓] TItem_ld0 TItem_st0 TItem_fd0 TItem_bd0
attribute [local go_sem] TItem_size TItem_one TItem_piece TItem_c0 TItem_c1 TItem_set_rep TItem_set_num TItem_ld TItem_st TItem_f_rep TItem_f_num TItem_bd TItem_fl TItem_fl_rep TItem_fl_num
attribute [local go_sem high] TItem_eql TItem_neq
section
variable {w W : World} {F : Nat → Prop} {R : List Res}
end
end Go.Proofs.Ytnjgjhjilolanaa
/- GraphOrders: Order tells the parts of what is to be done, as the document says, of every item; or what isn't committed. -/
namespace Go.Proofs.Ytnjgjhjilolanaa
open Go.RowKit Go.Shelf
set_option linter.unusedVariables false
set_option maxRecDepth 20000
attribute [local go_sem] Oper.semAt_some
attribute [local go_sem] row_alloc row_drew row_drewN row_ext row_setCell row_setRow size_ext setRow_alloc setRow_drew loadOf storeOf piece_lit loadVal_at storeVal_at allOne_lit buildOf buildRes_some
attribute [local go_sem high] cell_alloc frozen_alloc setCell_alloc cell_ext frozen_ext cell_setRow frozen_setRow
attribute [local go_sem ↓] TDeed_ld0 TDeed_st0 TDeed_fd0 TDeed_bd0
attribute [local go_sem] TDeed_size TDeed_one TDeed_piece TDeed_c0 TDeed_c1 TDeed_c2 TDeed_c3 TDeed_c4 TDeed_c5 TDeed_set_kind TDeed_set_key TDeed_set_val TDeed_set_ver TDeed_set_ses TDeed_set_num TDeed_ld TDeed_st TDeed_f_kind TDeed_f_key TDeed_f_val TDeed_f_ver TDeed_f_ses TDeed_f_num TDeed_bd TDeed_fl TDeed_fl_kind TDeed_fl_key TDeed_fl_val TDeed_fl_ver TDeed_fl_ses TDeed_fl_num
attribute [local go_sem high] TDeed_eql TDeed_neq
attribute [local go_sem ↓] index_deps0 load_deps0 store_deps0
attribute [local go_sem] DV_piece DV_size DV_one index_deps load_deps store_deps
attribute [local go_sem high] TDeps_eql TDeps_neq
attribute [local go_sem ↓] TCall_ld0 TCall_st0 TCall_fd0 TCall_bd0
attribute [local go_sem] TCall_size TCall_one TCall_piece TCall_c0 TCall_c1 TCall_c2 TCall_c3 TCall_c4 TCall_c5 TCall_c6 TCall_c7 TCall_c8 TCall_c9 TCall_c10 TCall_c11 TCall_c12 TCall_c13 TCall_p_deed TCall_put_deed TCall_p_deps TCall_put_deps TCall_set_seq TCall_ld TCall_st TCall_f_deed TCall_f_deps TCall_f_seq TCall_bd TCall_fl TCall_fl_deed TCall_fl_deps TCall_fl_seq
attribute [local go_sem high] TCall_eql TCall_neq
attribute [local go_sem ↓] TItem_ld0 TItem_st0 TItem_fd0 TItem_bd0
attribute [local go_sem] TItem_size TItem_one TItem_piece TItem_c0 TItem_c1 TItem_set_rep TItem_set_num TItem_ld TItem_st TItem_f_rep TItem_f_num TItem_bd TItem_fl TItem_fl_rep TItem_fl_num
attribute [local go_sem high] TItem_eql TItem_neq
attribute [local go_sem ↓] itm_slice0
attribute [local go_sem] itm_slice1
theorem DocOk.unc {m : RowsMK} {q : RowsML} {items : List Item} {calls : List Call} {dn : List Item} (h : DocOk m q items calls dn) (y : Item) : (!(getMK m y).isSome) = decide (idxI y items < 0) := by
  have hget := h.get y
  have hlc := h.lc
  unfold idxI
  by_cases hlt : idxN y items < items.length
  · have hk : idxN y items < calls.length := by omega
    rw [if_pos hlt, hget, List.getElem?_eq_getElem hk]
    simp
  · rw [if_neg hlt, hget, List.getElem?_eq_none (by omega)]
    simp
section
variable {w W : World} {F : Nat → Prop} {R : List Res}
end
end Go.Proofs.Ytnjgjhjilolanaa
/- Layer 19, the document's side: can an item be done? -/
namespace Go.Proofs.Ytnjgjhjilolanaa
open Go.RowKit Go.Shelf
set_option linter.unusedVariables false
set_option maxRecDepth 20000
attribute [local go_sem] row_alloc row_drew row_drewN row_ext row_setCell row_setRow size_ext setRow_alloc setRow_drew loadOf storeOf piece_lit loadVal_at storeVal_at allOne_lit buildOf buildRes_some
attribute [local go_sem high] cell_alloc frozen_alloc setCell_alloc cell_ext frozen_ext cell_setRow frozen_setRow
attribute [local go_sem ↓] TDeed_ld0 TDeed_st0 TDeed_fd0 TDeed_bd0
attribute [local go_sem] TDeed_size TDeed_one TDeed_piece TDeed_c0 TDeed_c1 TDeed_c2 TDeed_c3 TDeed_c4 TDeed_c5 TDeed_set_kind TDeed_set_key TDeed_set_val TDeed_set_ver TDeed_set_ses TDeed_set_num TDeed_ld TDeed_st TDeed_f_kind TDeed_f_key TDeed_f_val TDeed_f_ver TDeed_f_ses TDeed_f_num TDeed_bd TDeed_fl TDeed_fl_kind TDeed_fl_key TDeed_fl_val TDeed_fl_ver TDeed_fl_ses TDeed_fl_num
attribute [local go_sem high] TDeed_eql TDeed_neq
attribute [local go_sem ↓] index_deps0 load_deps0 store_deps0
attribute [local go_sem] DV_piece DV_size DV_one index_deps load_deps store_deps
attribute [local go_sem high] TDeps_eql TDeps_neq
attribute [local go_sem ↓] TCall_ld0 TCall_st0 TCall_fd0 TCall_bd0
attribute [local go_sem] TCall_size TCall_one TCall_piece TCall_c0 TCall_c1 TCall_c2 TCall_c3 TCall_c4 TCall_c5 TCall_c6 TCall_c7 TCall_c8 TCall_c9 TCall_c10 TCall_c11 TCall_c12 TCall_c13 TCall_p_deed TCall_put_deed TCall_p_deps TCall_put_deps TCall_set_seq TCall_ld TCall_st TCall_f_deed TCall_f_deps TCall_f_seq TCall_bd TCall_fl TCall_fl_deed TCall_fl_deps TCall_fl_seq
attribute [local go_sem high] TCall_eql TCall_neq
attribute [local go_sem ↓] TItem_ld0 TItem_st0 TItem_fd0 TItem_bd0
attribute [local go_sem] TItem_size TItem_one TItem_piece TItem_c0 TItem_c1 TItem_set_rep TItem_set_num TItem_ld TItem_st TItem_f_rep TItem_f_num TItem_bd TItem_fl TItem_fl_rep TItem_fl_num
attribute [local go_sem high] TItem_eql TItem_neq
section
variable {w W : World} {F : Nat → Prop} {R : List Res}
theorem DocOk.com {m : RowsMK} {q : RowsML} {items : List Item} {calls : List Call} {dn : List Item} (h : DocOk m q items calls dn) (y : Item) : (getMK m y).isSome = decide (0 ≤ idxI y items) := by
  have := h.unc y
  rw [← Bool.not_not ((getMK m y).isSome), this, Bool.eq_iff_iff, Bool.not_eq_true', decide_eq_false_iff_not, decide_eq_true_iff]
  omega
set_option maxHeartbeats 8000000 in
theorem docCanX {m : RowsMK} {q : RowsML} {its : List Item} (G : GInv m its) (g : Nat) (vi vc vd : Value) (items : List Item) (calls : List Call) (dn : List Item) {dX : Res} (hX : ∀ F W, dX.sat F W → (vecR 35 2 vd dn.length (vl IV dn)).sat F W) (hD : DocOk m q items calls dn) (x : Item)
    (T : Sts w F W (docX g vi vc vd items calls dX ++ R)) :
    Calls Try.prog 61 #[.pointer (some ⟨g, 0, none⟩), .agg (IV x)] W fun e W' => e = .returned (.bool (canL m q x)) ∧ Sts w F W' (docX g vi vc vd items calls dX ++ R) := by
  have T1 : Sts w F W (rowR g (docC vi vc vd) :: vecR 35 2 vi items.length (vl IV items) :: vecR 47 14 vc calls.length (vl CV calls) :: dX :: R) := T
  have T2 := T1.new (IV x) 35
  have hr := T2.row; have hlt := row_lt hr
  have HAT := Lib.hid (((docAtR g vi vc vd items calls dn hD.len x).docX hX).at (R := rowR _ (IV x) :: R) (by have T0 := T2.ord [1, 2, 3, 4, 0]; exact T0))
  obtain ⟨ai, hai⟩ : ∃ v, v = idxI x items := ⟨_, rfl⟩
  have hcx := hD.com x
  rw [← hai] at HAT hcx
  have HT := Lib.hid T2; have HD := Lib.hid hD; have HG := Lib.hid G; have HCX := Lib.hid hcx
  obtain ⟨vr, hvr⟩ : ∃ v, v = canL m q x := ⟨_, rfl⟩
  rw [← hvr]
  have HV := Lib.hid hvr
  clear T T1 T2 hD G hai hcx hvr
  go_enter Try.func61, Try.ntmps61
  go_wp2_with fail
  generalize W.alloc _ = w1 at *
  generalize W.heap.size = gx at *
  refine HAT.out.mono ?_
  clear HAT hr hlt
  rintro e2 w2 ⟨rfl, hb⟩
  have T := HT.out.pure hb
  clear hb HT
  by_cases hneg : ai < 0
  · have hc : vr = false := by
      rw [HV.out]
      unfold canL
      rw [HCX.out, decide_eq_false (by omega), Bool.false_and]
    have HC := Lib.hid hc
    have HT := Lib.hid T.drop; clear T hc
    go_wp2
    go_ret
    exact ⟨by rw [HC.out]; rfl, HT.out⟩
  · have hcl : vr = (reachL m q x).all (fun y => (getMK m y).isSome) := by
      rw [HV.out]
      unfold canL
      rw [HCX.out, decide_eq_true (by omega), Bool.true_and]
    have HCL := Lib.hid hcl
    have hr := T.row; have hlt := row_lt hr
    have HRE := Lib.hid (docReachX HG.out g vi vc vd items calls dn hX HD.out x (R := rowR gx (IV x) :: R) (by have T0 := T.ord [1, 2, 3, 4, 0]; exact T0))
    clear T hcl
    go_wp2_with fail
    refine HRE.out.mono ?_
    clear HRE hr hlt
    rintro e3 w3 ⟨v, rfl, T⟩
    have hrl := (reach_inv (q := q) (x := x) HG.out).len
    generalize reachL m q x = L at *
    obtain ⟨nL, hnL⟩ : ∃ k, k = L.length := ⟨_, rfl⟩
    rw [← hnL] at hrl T
    obtain ⟨AL, cL, rfl⟩ := vec_shape2 T
    have T2 : Sts w F w3 (vecR 35 2 (.slice AL nL cL) nL (vl IV L) :: rowR g (docC vi vc vd) :: vecR 35 2 vi items.length (vl IV items) :: vecR 47 14 vc calls.length (vl CV calls) :: dX :: rowR gx (IV x) :: R) := T
    have HT := Lib.hid (T2.ord [5, 0, 1, 2, 3, 4]).drop
    have HNL := Lib.hid hnL
    clear T T2 hnL
    go_wp2_with fail
    go_loopw [15] (fun u15 wr => ∃ i : Nat, u15 = .int .i64 i ∧ i ≤ nL ∧ (L.take i).all (fun y => (getMK m y).isSome) = true ∧ Sts w F wr (vecR 35 2 (.slice AL nL cL) nL (vl IV L) :: rowR g (docC vi vc vd) :: vecR 35 2 vi items.length (vl IV items) :: vecR 47 14 vc calls.length (vl CV calls) :: dX :: R)) (fun u15 _ => nL - (intOf u15).toNat)
    case atStart => exact ⟨0, rfl, Nat.zero_le _, by simp, HT.out⟩
    case round =>
      clear HT
      obtain ⟨i, rfl, hi, hall, T⟩ := hrel
      have HALL := Lib.hid hall; clear hall
      by_cases hil : i < nL
      · have hil1 : (i : Int) < (nL : Int) := by omega
        have hi0 : (0 : Int) ≤ (i : Int) := by omega
        obtain ⟨y, hy⟩ : ∃ y, L[i]? = some y := ⟨L[i]'(by rw [← HNL.out]; exact hil), List.getElem?_eq_getElem _⟩
        obtain ⟨gL, rfl, hld⟩ := vec_load (P := Try.prog) (e := 35) TItem_size (by omega) TItem_und rfl (by kernel_rfl) T HNL.out hy (by omega)
        have htk : L.take (i + 1) = L.take i ++ [y] := by
          obtain ⟨hj, rfl⟩ := List.getElem?_eq_some_iff.1 hy
          rw [List.take_succ_eq_append_getElem hj]
        have hym := List.mem_of_getElem? hy
        have HTK := Lib.hid htk; have HYM := Lib.hid hym
        have T2 := T.new (IV y) 35
        have HT := Lib.hid T2
        clear T T2 hy htk hym
        go_upto_region 6 with fail
        generalize wr.alloc _ = w5 at *
        generalize wr.heap.size = gy at *
        clear hld
        have ry := HT.out.row; have ly := row_lt ry
        have HAT := Lib.hid (((docAtR g vi vc vd items calls dn HD.out.len y).docX hX).at (R := rowR gy (IV y) :: vecR _ _ _ _ _ :: R) (by have T0 := HT.out.ord [2, 3, 4, 5, 0, 1]; exact T0))
        obtain ⟨ay, hay⟩ : ∃ v, v = idxI y items := ⟨_, rfl⟩
        have hcy := HD.out.com y
        rw [← hay] at HAT hcy
        have HCY := Lib.hid hcy
        clear hay hcy
        go_wp2_with fail
        refine HAT.out.mono ?_
        clear HAT ry ly
        rintro e6 w6 ⟨rfl, hb⟩
        have T := (HT.out.pure hb).drop
        clear hb HT
        by_cases hny : ay < 0
        · have hf : L.all (fun y => (getMK m y).isSome) = false := by
            rw [List.all_eq_false]
            exact ⟨y, HYM.out, by rw [HCY.out, decide_eq_false (by omega)]; simp⟩
          rw [← HCL.out] at hf
          have HC := Lib.hid hf
          have HT := Lib.hid T.drop; clear T hf
          go_wp2
          go_ret
          exact ⟨by rw [HC.out]; rfl, HT.out⟩
        · have hal : (L.take (i + 1)).all (fun y => (getMK m y).isSome) = true := by
            rw [HTK.out, List.all_append, HALL.out, Bool.true_and]
            simp only [List.all_cons, List.all_nil, Bool.and_true]
            rw [HCY.out]; exact decide_eq_true (by omega)
          have HAL := Lib.hid hal
          have HT := Lib.hid T; clear T hal
          go_wp2
          go_roundw
          case rel => exact ⟨i + 1, by go_num, by omega, HAL.out, HT.out⟩
          case measure => simp [intOf]; omega
      · have hil1 : ¬ (i : Int) < (nL : Int) := by omega
        have hal := HALL.out
        rw [List.take_of_length_le (by rw [← HNL.out]; omega)] at hal
        rw [← HCL.out] at hal
        have HC := Lib.hid hal
        have HT := Lib.hid T.drop; clear T hal
        go_wp2
        go_ret
        exact ⟨by rw [HC.out]; rfl, HT.out⟩
end
end Go.Proofs.Ytnjgjhjilolanaa
