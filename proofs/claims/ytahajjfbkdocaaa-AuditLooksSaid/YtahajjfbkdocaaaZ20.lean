/- Several texts in one. -/
import Derived.Test.YtahajjfbkdocaaaZ19
import Derived.Test.YtahajjfbkdocaaaZ5
/- Layer 24, the document: can a row be at all? -/
namespace Go.Proofs.Ytahajjfbkdocaaa
open Go.RowKit
set_option linter.unusedVariables false
attribute [local go_sem] row_alloc row_drew row_drewN row_ext row_setCell row_setRow size_ext setRow_alloc setRow_drew loadOf storeOf piece_lit loadVal_at storeVal_at allOne_lit buildOf buildRes_some
attribute [local go_sem high] cell_alloc frozen_alloc setCell_alloc cell_ext frozen_ext cell_setRow frozen_setRow
attribute [local go_sem ↓] TDeed_ld0 TDeed_st0 TDeed_fd0 TDeed_bd0
attribute [local go_sem] TDeed_size TDeed_one TDeed_piece TDeed_c0 TDeed_c1 TDeed_c2 TDeed_c3 TDeed_c4 TDeed_c5 TDeed_set_kind TDeed_set_key TDeed_set_val TDeed_set_ver TDeed_set_ses TDeed_set_num TDeed_ld TDeed_st TDeed_f_kind TDeed_f_key TDeed_f_val TDeed_f_ver TDeed_f_ses TDeed_f_num TDeed_bd TDeed_fl TDeed_fl_kind TDeed_fl_key TDeed_fl_val TDeed_fl_ver TDeed_fl_ses TDeed_fl_num
attribute [local go_sem high] TDeed_eql TDeed_neq
attribute [local go_sem ↓] index_deps0 load_deps0 store_deps0
attribute [local go_sem] DV_piece DV_size DV_one index_deps load_deps store_deps
attribute [local go_sem high] TDeps_eql TDeps_neq
attribute [local go_sem ↓] TCall_ld0 TCall_st0 TCall_fd0 TCall_bd0
attribute [local go_sem] TCall_size TCall_one TCall_piece TCall_c0 TCall_c1 TCall_c2 TCall_c3 TCall_c4 TCall_c5 TCall_c6 TCall_c7 TCall_c8 TCall_c9 TCall_c10 TCall_c11 TCall_c12 TCall_c13 TCall_p_deed TCall_put_deed TCall_p_deps TCall_put_deps TCall_set_seq TCall_ld TCall_st TCall_f_deed TCall_f_deps TCall_f_seq TCall_bd TCall_fl TCall_fl_deed TCall_fl_deps TCall_fl_seq
attribute [local go_sem high] TCall_eql TCall_neq
attribute [local go_sem ↓] TItem_ld0 TItem_st0 TItem_fd0 TItem_bd0
attribute [local go_sem] TItem_size TItem_one TItem_piece TItem_c0 TItem_c1 TItem_set_rep TItem_set_num TItem_ld TItem_st TItem_f_rep TItem_f_num TItem_bd TItem_fl TItem_fl_rep TItem_fl_num
attribute [local go_sem high] TItem_eql TItem_neq
attribute [local go_sem ↓] TBallot_ld0 TBallot_st0 TBallot_fd0 TBallot_bd0
attribute [local go_sem] TBallot_size TBallot_one TBallot_piece TBallot_c0 TBallot_c1 TBallot_set_round TBallot_set_rep TBallot_ld TBallot_st TBallot_f_round TBallot_f_rep TBallot_bd TBallot_fl TBallot_fl_round TBallot_fl_rep
attribute [local go_sem high] TBallot_eql TBallot_neq
attribute [local go_sem ↓] TInst_ld0 TInst_st0 TInst_fd0 TInst_bd0
attribute [local go_sem] TInst_size TInst_one TInst_piece TInst_c0 TInst_c1 TInst_c2 TInst_c3 TInst_c4 TInst_c5 TInst_c6 TInst_c7 TInst_c8 TInst_c9 TInst_c10 TInst_c11 TInst_c12 TInst_c13 TInst_c14 TInst_c15 TInst_c16 TInst_c17 TInst_c18 TInst_c19 TInst_p_prom TInst_put_prom TInst_p_vote TInst_put_vote TInst_set_status TInst_p_call TInst_put_call TInst_set_same TInst_ld TInst_st TInst_f_prom TInst_f_vote TInst_f_status TInst_f_call TInst_f_same TInst_bd TInst_fl TInst_fl_prom TInst_fl_vote TInst_fl_status TInst_fl_call TInst_fl_same
attribute [local go_sem high] TInst_eql TInst_neq
attribute [local go_sem ↓] TRRow_ld0 TRRow_st0 TRRow_fd0 TRRow_bd0
attribute [local go_sem] TRRow_size TRRow_one TRRow_piece TRRow_c0 TRRow_c1 TRRow_c2 TRRow_c3 TRRow_c4 TRRow_c5 TRRow_c6 TRRow_c7 TRRow_c8 TRRow_c9 TRRow_c10 TRRow_c11 TRRow_c12 TRRow_c13 TRRow_c14 TRRow_c15 TRRow_c16 TRRow_c17 TRRow_c18 TRRow_c19 TRRow_c20 TRRow_c21 TRRow_c22 TRRow_set_rep TRRow_p_item TRRow_put_item TRRow_p_inst TRRow_put_inst TRRow_ld TRRow_st TRRow_f_rep TRRow_f_item TRRow_f_inst TRRow_bd TRRow_fl TRRow_fl_rep TRRow_fl_item TRRow_fl_inst
attribute [local go_sem high] TRRow_eql TRRow_neq
attribute [-go_sem] loadOf
noncomputable def soundB (l : List RRow) (k : Nat) (x : RRow) (n : Int) : Bool := goodI x.item n && firstB (l.take k) x && goodN x.inst n
set_option maxHeartbeats 4000000 in
theorem sound_any (g c : Nat) (l : List RRow) (k : Nat) (hk : k < l.length) (n : Int) (w W : World) (R : List Res) (hx : RowsIn w (some ⟨g, 0, none⟩) 23 RwV l) (T : Sts w (fun _ => False) W R) :
    Calls Try.prog 28 #[.slice (some ⟨g, 0, none⟩) l.length c, .int .i64 k, .int .i64 n] W fun e W' => e = .returned (.bool (soundB l k l[k] n)) ∧ Sts w (fun _ => False) W' R := by
  have hll := hx.len
  have k2 := fun W' (hb : Below w.heap.size w W') => hx.part (P := Try.prog) (T := 28) hb hk 1 2 (IV l[k].item) (fun i v h => by match i with | 0 => exact h | 1 => exact h | (i + 2) => cases h) rfl TItem_und rfl (by kernel_rfl)
  have k3 := fun W' (hb : Below w.heap.size w W') => hx.part (P := Try.prog) (T := 38) hb hk 3 20 (NV l[k].inst) (fun i v h => by
    have hi : i < 20 := (Array.getElem?_eq_some_iff.1 h).1
    have hh : ∀ q : RRow, (RwV q)[3 + i]? = (NV q.inst)[i]? := fun q => by
      match i, hi with
      | 0, _ | 1, _ | 2, _ | 3, _ | 4, _ | 5, _ | 6, _ | 7, _ | 8, _ | 9, _ | 10, _ | 11, _ | 12, _ | 13, _ | 14, _ | 15, _ | 16, _ | 17, _ | 18, _ | 19, _ => rfl
    rw [hh]; exact h) rfl TInst_und rfl (by kernel_rfl)
  have cf := fun W' (T : Sts w (fun _ => False) W' R) => first_any g c l k hk w W' R hx T
  have K2 := Lib.hid k2; have K3 := Lib.hid k3; have CF := Lib.hid cf; clear k2 k3 cf
  generalize l[k] = q at *
  have C1 := Lib.hid (ritemGood_any q.item n); have C3 := Lib.hid (rgoodN_any q.inst n)
  have f2 := K2.out W T.below
  go_enter Try.func28, Try.ntmps28
  go_wp2_with fail
  with_reducible refine (Ans.at C1.out T).mono ?_
  clear T f2 C1; rintro e w1 ⟨rfl, T⟩
  cases h1 : goodI q.item n
  case false =>
    have HM := Lib.hid (show soundB l k q n = false by unfold soundB; simp [h1])
    go_wp2
    try simp only [Exit.inBlock, Exit.then]
    go_ret
    exact ⟨by rw [HM.out]; rfl, T⟩
  case true =>
    go_wp2_with fail
    with_reducible refine (CF.out w1 T).mono ?_
    clear T CF; rintro e w2 ⟨rfl, T⟩
    cases h2 : firstB (l.take k) q
    case false =>
      have HM := Lib.hid (show soundB l k q n = false by unfold soundB; simp [h2])
      go_wp2
      try simp only [Exit.inBlock, Exit.then]
      go_ret
      exact ⟨by rw [HM.out]; rfl, T⟩
    case true =>
      have HM := Lib.hid (show soundB l k q n = goodN q.inst n by unfold soundB; simp [h1, h2])
      have f3 := K3.out w2 T.below
      go_wp2_with fail
      with_reducible refine (Ans.at C3.out T).mono ?_
      clear T f3 C3; rintro e w3 ⟨rfl, T⟩
      go_wp2
      try simp only [Exit.inBlock, Exit.then]
      go_ret
      exact ⟨by rw [HM.out]; rfl, T⟩
end Go.Proofs.Ytahajjfbkdocaaa
/- Layer 24, the document: the first sound row in which an item is committed. -/
namespace Go.Proofs.Ytahajjfbkdocaaa
open Go.RowKit
set_option linter.unusedVariables false
attribute [local go_sem] row_alloc row_drew row_drewN row_ext row_setCell row_setRow size_ext setRow_alloc setRow_drew loadOf storeOf piece_lit loadVal_at storeVal_at allOne_lit buildOf buildRes_some
attribute [local go_sem high] cell_alloc frozen_alloc setCell_alloc cell_ext frozen_ext cell_setRow frozen_setRow
attribute [local go_sem ↓] TDeed_ld0 TDeed_st0 TDeed_fd0 TDeed_bd0
attribute [local go_sem] TDeed_size TDeed_one TDeed_piece TDeed_c0 TDeed_c1 TDeed_c2 TDeed_c3 TDeed_c4 TDeed_c5 TDeed_set_kind TDeed_set_key TDeed_set_val TDeed_set_ver TDeed_set_ses TDeed_set_num TDeed_ld TDeed_st TDeed_f_kind TDeed_f_key TDeed_f_val TDeed_f_ver TDeed_f_ses TDeed_f_num TDeed_bd TDeed_fl TDeed_fl_kind TDeed_fl_key TDeed_fl_val TDeed_fl_ver TDeed_fl_ses TDeed_fl_num
attribute [local go_sem high] TDeed_eql TDeed_neq
attribute [local go_sem ↓] index_deps0 load_deps0 store_deps0
attribute [local go_sem] DV_piece DV_size DV_one index_deps load_deps store_deps
attribute [local go_sem high] TDeps_eql TDeps_neq
attribute [local go_sem ↓] TCall_ld0 TCall_st0 TCall_fd0 TCall_bd0
attribute [local go_sem] TCall_size TCall_one TCall_piece TCall_c0 TCall_c1 TCall_c2 TCall_c3 TCall_c4 TCall_c5 TCall_c6 TCall_c7 TCall_c8 TCall_c9 TCall_c10 TCall_c11 TCall_c12 TCall_c13 TCall_p_deed TCall_put_deed TCall_p_deps TCall_put_deps TCall_set_seq TCall_ld TCall_st TCall_f_deed TCall_f_deps TCall_f_seq TCall_bd TCall_fl TCall_fl_deed TCall_fl_deps TCall_fl_seq
attribute [local go_sem high] TCall_eql TCall_neq
attribute [local go_sem ↓] TItem_ld0 TItem_st0 TItem_fd0 TItem_bd0
attribute [local go_sem] TItem_size TItem_one TItem_piece TItem_c0 TItem_c1 TItem_set_rep TItem_set_num TItem_ld TItem_st TItem_f_rep TItem_f_num TItem_bd TItem_fl TItem_fl_rep TItem_fl_num
attribute [local go_sem high] TItem_eql TItem_neq
attribute [local go_sem ↓] TBallot_ld0 TBallot_st0 TBallot_fd0 TBallot_bd0
attribute [local go_sem] TBallot_size TBallot_one TBallot_piece TBallot_c0 TBallot_c1 TBallot_set_round TBallot_set_rep TBallot_ld TBallot_st TBallot_f_round TBallot_f_rep TBallot_bd TBallot_fl TBallot_fl_round TBallot_fl_rep
attribute [local go_sem high] TBallot_eql TBallot_neq
attribute [local go_sem ↓] TInst_ld0 TInst_st0 TInst_fd0 TInst_bd0
attribute [local go_sem] TInst_size TInst_one TInst_piece TInst_c0 TInst_c1 TInst_c2 TInst_c3 TInst_c4 TInst_c5 TInst_c6 TInst_c7 TInst_c8 TInst_c9 TInst_c10 TInst_c11 TInst_c12 TInst_c13 TInst_c14 TInst_c15 TInst_c16 TInst_c17 TInst_c18 TInst_c19 TInst_p_prom TInst_put_prom TInst_p_vote TInst_put_vote TInst_set_status TInst_p_call TInst_put_call TInst_set_same TInst_ld TInst_st TInst_f_prom TInst_f_vote TInst_f_status TInst_f_call TInst_f_same TInst_bd TInst_fl TInst_fl_prom TInst_fl_vote TInst_fl_status TInst_fl_call TInst_fl_same
attribute [local go_sem high] TInst_eql TInst_neq
attribute [local go_sem ↓] TRRow_ld0 TRRow_st0 TRRow_fd0 TRRow_bd0
attribute [local go_sem] TRRow_size TRRow_one TRRow_piece TRRow_c0 TRRow_c1 TRRow_c2 TRRow_c3 TRRow_c4 TRRow_c5 TRRow_c6 TRRow_c7 TRRow_c8 TRRow_c9 TRRow_c10 TRRow_c11 TRRow_c12 TRRow_c13 TRRow_c14 TRRow_c15 TRRow_c16 TRRow_c17 TRRow_c18 TRRow_c19 TRRow_c20 TRRow_c21 TRRow_c22 TRRow_set_rep TRRow_p_item TRRow_put_item TRRow_p_inst TRRow_put_inst TRRow_ld TRRow_st TRRow_f_rep TRRow_f_item TRRow_f_inst TRRow_bd TRRow_fl TRRow_fl_rep TRRow_fl_item TRRow_fl_inst
attribute [local go_sem high] TRRow_eql TRRow_neq
theorem RowsIn.later {α : Type} {w W : World} {A : Option Addr} {n : Nat} {V : α → Array Value} {l : List α} (h : RowsIn w A n V l) (hb : Below w.heap.size w W) : RowsIn W A n V l :=
  ⟨h.nil, fun a ha j hj i v hv => (hb.cell (World.block_lt_of_cell? w _ (h.cell a ha j hj i v hv))).trans (h.cell a ha j hj i v hv), h.len⟩
theorem sound_quiet (g c : Nat) (l : List RRow) (k : Nat) (hk : k < l.length) (n : Int) (w wr : World) (hx : RowsIn w (some ⟨g, 0, none⟩) 23 RwV l) (hb : Below w.heap.size w wr) (x : World) :
    Calls Try.prog 28 #[.slice (some ⟨g, 0, none⟩) l.length c, .int .i64 k, .int .i64 n] (ext wr x) fun e W' => e = .returned (.bool (soundB l k l[k] n)) ∧ ∃ m, W' = ext wr m := by
  refine (sound_any g c l k hk n (ext wr x) (ext wr x) [] ((hx.later hb).later (ext_below wr x)) (Sts.start0 _)).mono ?_
  rintro e W' ⟨he, T⟩
  exact ⟨he, ext_of ((ext_below wr x).trans (T.below.mono (ext_size wr x)))⟩
noncomputable def hitB (l : List RRow) (x : Item) (n : Int) (i : Nat) : Bool := match l[i]? with | none => false | some r => eqA (IV r.item) (IV x) && r.inst.status == 3 && soundB l i r n
noncomputable def leadI (l : List RRow) (x : Item) (n : Int) : Option Nat := (List.range l.length).find? (hitB l x n)
noncomputable def leadV (l : List RRow) (x : Item) (n : Int) : Int := match leadI l x n with | none => -1 | some i => i
set_option maxHeartbeats 4000000 in
theorem leading_any (g c : Nat) (l : List RRow) (x : Item) (n : Int) (w W : World) (R : List Res) (hx : RowsIn w (some ⟨g, 0, none⟩) 23 RwV l) (T : Sts w (fun _ => False) W R) :
    Calls Try.prog 17 #[.slice (some ⟨g, 0, none⟩) l.length c, .agg (IV x), .int .i64 n] W fun e W' => e = .returned (.int .i64 (leadV l x n)) ∧ Sts w (fun _ => False) W' R := by
  have hll := hx.len
  have T := T.new (IV x) 28
  go_enter Try.func17, Try.ntmps17
  go_wp2_with fail
  generalize W.heap.size = p at *
  go_loopw [10] (fun i wr => ∃ j : Nat, j ≤ l.length ∧ i = .int .i64 j ∧ (List.range j).find? (hitB l x n) = none ∧ Sts w (fun _ => False) wr (rowR p (IV x) :: R)) (fun i _ => l.length - (intOf i).toNat)
  case atStart => exact ⟨0, by omega, rfl, rfl, T⟩
  case round =>
    clear T
    obtain ⟨j, hj0, rfl, hno, T⟩ := hrel
    by_cases hjl : j < l.length
    · have f1 := fun y => hx.part (P := Try.prog) (T := 28) (T.ext y).below hjl 1 2 (IV l[j].item) (fun i v h => by match i with | 0 => exact h | 1 => exact h | (i + 2) => cases h) rfl TItem_und rfl (by kernel_rfl)
      have f3 := fun y => hx.one (T.ext y).below hjl 7 (.int .i64 l[j].inst.status) rfl
      have f4 : ∀ y, loadOf Try.prog 28 2 (ext wr y) p 0 = .ok (.agg (IV x)) (ext wr y) := fun y => by unfold loadOf; rw [(T.ext y).row]; rfl
      have cs := fun y => sound_quiet g c l j hjl n w wr hx T.below y
      have hoj : l[j]? = some l[j] := List.getElem?_eq_getElem hjl
      have CS := Lib.hid cs; clear cs
      generalize l[j] = q at *
      simp only [loadOf, row_ext] at f1 f4
      cases h1 : eqA (IV q.item) (IV x)
      case false =>
        have hss : hitB l x n j = false := by unfold hitB; rw [hoj]; simp [h1]
        go_upto_region 4 with fail
        refine wp_region_ext (by kernel_rfl) (by kernel_rfl) ?_
        repeat (go_big_quiet_step (first | (go_at_call 28; exact CS.out _)))
        refine wpQuiet_nil ?_
        rintro _ ⟨x9, rfl⟩
        have T := T.ext x9
        clear CS f1 f3 f4
        generalize ext _ x9 = w1 at *
        go_wp2
        go_roundw
        case rel => exact ⟨j + 1, by omega, by go_num, by rw [List.range_succ, List.find?_append, hno]; simp [hss], T⟩
        case measure => simp [intOf]; omega
      case true =>
        cases h2 : (q.inst.status == 3)
        case false =>
          have hss : hitB l x n j = false := by unfold hitB; rw [hoj]; simp [h1, h2]
          go_upto_region 4 with fail
          refine wp_region_ext (by kernel_rfl) (by kernel_rfl) ?_
          repeat (go_big_quiet_step (first | (go_at_call 28; exact CS.out _)))
          refine wpQuiet_nil ?_
          rintro _ ⟨x9, rfl⟩
          have T := T.ext x9
          clear CS f1 f3 f4
          generalize ext _ x9 = w1 at *
          go_wp2
          go_roundw
          case rel => exact ⟨j + 1, by omega, by go_num, by rw [List.range_succ, List.find?_append, hno]; simp [hss], T⟩
          case measure => simp [intOf]; omega
        case true =>
          cases h3 : soundB l j q n
          all_goals rw [h3] at CS
          case false =>
            have hss : hitB l x n j = false := by unfold hitB; rw [hoj]; simp [h1, h2, h3]
            go_upto_region 4 with fail
            refine wp_region_ext (by kernel_rfl) (by kernel_rfl) ?_
            repeat (go_big_quiet_step (first | (go_at_call 28; exact CS.out _)))
            refine wpQuiet_nil ?_
            rintro _ ⟨x9, rfl⟩
            have T := T.ext x9
            clear CS f1 f3 f4
            generalize ext _ x9 = w1 at *
            go_wp2
            go_roundw
            case rel => exact ⟨j + 1, by omega, by go_num, by rw [List.range_succ, List.find?_append, hno]; simp [hss], T⟩
            case measure => simp [intOf]; omega
          case true =>
            have hss : hitB l x n j = true := by unfold hitB; rw [hoj]; simp [h1, h2, h3]
            have hm : leadI l x n = some j := by
              unfold leadI
              rw [show l.length = j + 1 + (l.length - (j + 1)) from by omega, List.range_add, List.find?_append, List.range_succ, List.find?_append, hno]
              simp [hss]
            have HM := Lib.hid hm; clear hm
            go_upto_region 4 with fail
            refine wp_region_ext (by kernel_rfl) (by kernel_rfl) ?_
            repeat (go_big_quiet_step (first | (go_at_call 28; exact CS.out _)))
            refine wpQuiet_nil ?_
            rintro _ ⟨x9, rfl⟩
            have T := T.ext x9
            clear CS f1 f3 f4
            generalize ext _ x9 = w1 at *
            go_wp2
            try simp only [Exit.inBlock, Exit.then]
            go_ret
            exact ⟨by unfold leadV; rw [HM.out]; rfl, T.drop⟩
    · obtain rfl : j = l.length := by omega
      have hm : leadI l x n = none := hno
      have HM := Lib.hid hm; clear hm
      go_wp2
      try simp only [Exit.inBlock, Exit.then]
      go_ret
      exact ⟨by unfold leadV; rw [HM.out]; rfl, T.drop⟩
end Go.Proofs.Ytahajjfbkdocaaa
/- RFinding as a value, as cells: its parts, equality, loads, stores, building. Printed by types.py. -/
namespace Go.Proofs.Ytahajjfbkdocaaa
open Go.RowKit
set_option linter.unusedVariables false
structure RFinding where
  kind : Int
  rep : Int
  item : Item
def GV (x : RFinding) : Array Value := #[.int .i64 x.kind, .int .i64 x.rep, .int .i64 x.item.rep, .int .i64 x.item.num]
def noRFinding : RFinding := ⟨0, 0, noItem⟩
section
variable (x y : RFinding)
theorem TRFinding_size : (GV x).size = 4 := rfl
theorem TRFinding_one : allOne (GV x) = true := by simp [allOne, GV, Value.oneCell']
theorem TRFinding_piece : piece (GV x) 0 4 = GV x := piece_all _ _ rfl
theorem TRFinding_c0 : (GV x)[0]? = some (.int .i64 x.kind) := rfl
theorem TRFinding_c1 : (GV x)[1]? = some (.int .i64 x.rep) := rfl
theorem TRFinding_c2 : (GV x)[2]? = some (.int .i64 x.item.rep) := rfl
theorem TRFinding_c3 : (GV x)[3]? = some (.int .i64 x.item.num) := rfl
theorem TRFinding_set_kind (v : Int) : (GV x).setIfInBounds 0 (.int .i64 v) = GV { x with kind := v } := rfl
theorem TRFinding_set_rep (v : Int) : (GV x).setIfInBounds 1 (.int .i64 v) = GV { x with rep := v } := rfl
theorem TRFinding_p_item : piece (GV x) 2 2 = IV x.item := by kernel_rfl
theorem TRFinding_put_item (v : Item) : splice (GV x) 2 (IV v) = GV { x with item := v } := by kernel_rfl
theorem TRFinding_cat : GV x = #[.int .i64 x.kind] ++ #[.int .i64 x.rep] ++ IV x.item := by kernel_rfl
theorem TRFinding_ext : GV x = GV y ↔ x.kind = y.kind ∧ x.rep = y.rep ∧ IV x.item = IV y.item := by
  constructor
  · intro h
    refine ⟨?_, ?_, ?_⟩
    · have := congrArg (·[0]?) h; simpa [TRFinding_c0, TRFinding_size] using this
    · have := congrArg (·[1]?) h; simpa [TRFinding_c1, TRFinding_size] using this
    · have := congrArg (fun c => piece c 2 2) h; simpa only [TRFinding_p_item] using this
  · rintro ⟨h0, h1, h2⟩
    rw [TRFinding_cat x, TRFinding_cat y, h0, h1, h2]
end
theorem TRFinding_und : Try.prog.underlying 51 = some (.struct (Try.prog.fieldsOf 51)) := by kernel_rfl
theorem TRFinding_eq (d : Nat) (x y : RFinding) (w : World) : (Op.equalIn (d + 3) 51 (.agg (GV x)) (.agg (GV y))).run Try.prog w = .ok (eqA (GV x) (GV y)) w := by
  refine eq_struct (d := d + 2) (L := [(3, 0, x.kind == y.kind), (3, 1, x.rep == y.rep), (28, 2, eqA (IV x.item) (IV y.item))]) TRFinding_und (by kernel_rfl) (by kernel_rfl) ?_ ?_ w
  · simp only [List.forall_mem_cons]
    exact ⟨⟨_, _, part_cell Try.underlying3 rfl (by kernel_rfl) (TRFinding_c0 x), part_cell Try.underlying3 rfl (by kernel_rfl) (TRFinding_c0 y), fun w => run_equalIn_int w (d + 1) _ _ _ _ _ Try.underlying3⟩, ⟨_, _, part_cell Try.underlying3 rfl (by kernel_rfl) (TRFinding_c1 x), part_cell Try.underlying3 rfl (by kernel_rfl) (TRFinding_c1 y), fun w => run_equalIn_int w (d + 1) _ _ _ _ _ Try.underlying3⟩, ⟨_, _, fun w => by rw [part_row TItem_und rfl (by kernel_rfl) (n := 2), TRFinding_p_item], fun w => by rw [part_row TItem_und rfl (by kernel_rfl) (n := 2), TRFinding_p_item], fun w => TItem_eq (d + 0) x.item y.item w⟩, by simp⟩
  · refine eqA_of ?_
    rw [TRFinding_ext]
    simp [eqA_iff]
theorem TRFinding_eql (x y : RFinding) (w : World) : (binOp .eql 51 (.agg (GV x)) (.agg (GV y))).run Try.prog w = .ok (.bool (eqA (GV x) (GV y))) w := eql_of (TRFinding_eq 9997 x y) w
theorem TRFinding_neq (x y : RFinding) (w : World) : (binOp .neq 51 (.agg (GV x)) (.agg (GV y))).run Try.prog w = .ok (.bool (!eqA (GV x) (GV y))) w := neq_of (TRFinding_eq 9997 x y) w
theorem TRFinding_ld0 (v : Value) : Instr.loadAt 51 v = loadSem 51 v := rfl
theorem TRFinding_st0 (v u : Value) : Instr.storeAt 51 v u = storeSem 51 v u := rfl
theorem TRFinding_fd0 (x : Value) (i : Nat) : Instr.field 51 x i = fieldSem 51 x i := rfl
theorem TRFinding_bd0 (p : Array (Nat × Value)) : Instr.build 51 p = buildS 51 p := rfl
theorem TRFinding_ld (w : World) (v : Value) : (loadSem 51 v).run Try.prog w = loadVal Try.prog 51 4 w v := load_val TRFinding_und rfl (by kernel_rfl) w v
theorem TRFinding_st (w : World) (v u : Value) : (storeSem 51 v u).run Try.prog w = storeVal Try.prog 51 4 w v u := store_val (by kernel_rfl) w v u
theorem TRFinding_f_kind (x : RFinding) (w : World) : (fieldSem 51 (.agg (GV x)) 0).run Try.prog w = .ok (.int .i64 x.kind) w := field_of TRFinding_und (by kernel_rfl) (part_cell Try.underlying3 rfl (by kernel_rfl) (TRFinding_c0 x)) w
theorem TRFinding_f_rep (x : RFinding) (w : World) : (fieldSem 51 (.agg (GV x)) 1).run Try.prog w = .ok (.int .i64 x.rep) w := field_of TRFinding_und (by kernel_rfl) (part_cell Try.underlying3 rfl (by kernel_rfl) (TRFinding_c1 x)) w
theorem TRFinding_f_item (x : RFinding) (w : World) : (fieldSem 51 (.agg (GV x)) 2).run Try.prog w = .ok (.agg (IV x.item)) w := field_of TRFinding_und (by kernel_rfl) (fun w => by rw [part_row TItem_und rfl (by kernel_rfl) (n := 2), TRFinding_p_item]) w
def TRFinding_pl : Nat → Option (Nat × Nat) := fun i => (#[(0, 1), (1, 1), (2, 2)] : Array (Nat × Nat))[i]?
theorem TRFinding_bd (w : World) (p : Array (Nat × Value)) : (buildS 51 p).run Try.prog w = buildOf Try.prog 51 TRFinding_pl (GV noRFinding) p w := build_struct TRFinding_und (by kernel_rfl) (fun w => by kernel_rfl) w p
theorem TRFinding_fl (X : Array Value) : fillS TRFinding_pl X [] = some X := rfl
theorem TRFinding_fl_kind (x : RFinding) (v : Int) (r : List (Nat × Value)) : fillS TRFinding_pl (GV x) ((0, .int .i64 v) :: r) = fillS TRFinding_pl (GV { x with kind := v }) r := rfl
theorem TRFinding_fl_rep (x : RFinding) (v : Int) (r : List (Nat × Value)) : fillS TRFinding_pl (GV x) ((1, .int .i64 v) :: r) = fillS TRFinding_pl (GV { x with rep := v }) r := rfl
theorem TRFinding_fl_item (x : RFinding) (v : Item) (r : List (Nat × Value)) : fillS TRFinding_pl (GV x) ((2, .agg (IV v)) :: r) = fillS TRFinding_pl (GV { x with item := v }) r := by
  show Instr.fill _ _ _ = Instr.fill _ _ _
  rw [fill_cons TRFinding_pl (GV x) (IV v) 2 2 2 r rfl rfl (by show _ ≤ 4; omega), TRFinding_put_item]
theorem TRFinding_ret {fn : Func} {R : Ending → World → Prop} {a : Act} {w : World} {p : Tmp} (x : RFinding) {g : Nat} (hr : fn.results = #[.cell p 51]) (hp : a.tmps.getD p undef = .pointer (some ⟨g, 0, none⟩)) (hdf : a.defers = []) (hrow : row? w g = some (GV x)) (hR : R (.returned (.agg (GV x))) w) : bodyPost Try.prog fn R .ret a w :=
  ret_row (GV x) TRFinding_und rfl (by kernel_rfl) hr hp hdf (TRFinding_size x) hrow hR
end Go.Proofs.Ytahajjfbkdocaaa
