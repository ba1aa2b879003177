/- Several texts in one. -/
import Derived.Test.YtnjgjhjilolanaaH9
import Derived.Test.YtnjgjhjilolanaaH2
import Derived.RangeFuncNested
import Derived.RangeFuncBound
import Derived.RangeFuncCalls
import Derived.RangeFuncLeaves
import Derived.Shelf.Abstract
import Derived.Shelf.RegionOpen
import Derived.OwnWalkIn
import Derived.TacticsInMore
import Derived.LoopNIn
import Derived.LoopIn
/- Layer 18: in which order the items of one part are done. -/
namespace Go.Proofs.Ytnjgjhjilolanaa
open Go.RowKit
set_option linter.unusedVariables false
set_option maxRecDepth 20000
attribute [local go_sem] row_alloc row_drew row_drewN row_ext row_setCell row_setRow size_ext setRow_alloc setRow_drew loadOf storeOf piece_lit loadVal_at storeVal_at allOne_lit buildOf buildRes_some
attribute [local go_sem high] cell_alloc frozen_alloc setCell_alloc cell_ext frozen_ext cell_setRow frozen_setRow
attribute [local go_sem ↓] TDeed_ld0 TDeed_st0 TDeed_fd0 TDeed_bd0
attribute [local go_sem] TDeed_size TDeed_one TDeed_piece TDeed_c0 TDeed_c1 TDeed_c2 TDeed_c3 TDeed_c4 TDeed_c5 TDeed_set_kind TDeed_set_key TDeed_set_val TDeed_set_ver TDeed_set_ses TDeed_set_num TDeed_ld TDeed_st TDeed_f_kind TDeed_f_key TDeed_f_val TDeed_f_ver TDeed_f_ses TDeed_f_num TDeed_bd TDeed_fl TDeed_fl_kind TDeed_fl_key TDeed_fl_val TDeed_fl_ver TDeed_fl_ses TDeed_fl_num
attribute [local go_sem high] TDeed_eql TDeed_neq
attribute [local go_sem ↓] index_deps0 load_deps0 store_deps0
attribute [local go_sem] DV_piece DV_size DV_one index_deps load_deps store_deps
attribute [local go_sem high] TDeps_eql TDeps_neq
attribute [local go_sem ↓] TCall_ld0 TCall_st0 TCall_fd0 TCall_bd0
attribute [local go_sem] TCall_size TCall_one TCall_piece TCall_c0 TCall_c1 TCall_c2 TCall_c3 TCall_c4 TCall_c5 TCall_c6 TCall_c7 TCall_c8 TCall_c9 TCall_c10 TCall_c11 TCall_c12 TCall_c13 TCall_p_deed TCall_put_deed TCall_p_deps TCall_put_deps TCall_set_seq TCall_ld TCall_st TCall_f_deed TCall_f_deps TCall_f_seq TCall_bd TCall_fl TCall_fl_deed TCall_fl_deps TCall_fl_seq
attribute [local go_sem high] TCall_eql TCall_neq
attribute [local go_sem ↓] TItem_ld0 TItem_st0 TItem_fd0 TItem_bd0
attribute [local go_sem] TItem_size TItem_one TItem_piece TItem_c0 TItem_c1 TItem_set_rep TItem_set_num TItem_ld TItem_st TItem_f_rep TItem_f_num TItem_bd TItem_fl TItem_fl_rep TItem_fl_num
attribute [local go_sem high] TItem_eql TItem_neq
def lessI (x y : Item) : Bool := decide (x.num < y.num ∨ x.num = y.num ∧ x.rep < y.rep)
set_option maxHeartbeats 2000000 in
theorem itemLess_any (x y : Item) : Ans Try.prog 55 #[.agg (IV x), .agg (IV y)] (.bool (lessI x y)) := by
  refine Ans.of_sts fun W => ?_
  have T := ((Sts.start0 W).new (IV x) 35).new (IV y) 35
  simp only [World.size_alloc] at T
  have r2 := T.row; have l2 := row_lt r2; have c2 := row_cell r2
  have r1 := T.row1; have l1 := row_lt r1; have c1 := row_cell r1
  have HT := Lib.hid T.nil; clear T
  go_enter Try.func55, Try.ntmps55
  cases h1 : decide (x.num < y.num)
  case true =>
    have hv : lessI x y = true := by unfold lessI; simp at h1; simp [h1]
    have HV := Lib.hid hv; clear hv
    go_wp2
    go_ret
    exact ⟨by rw [HV.out]; rfl, HT.out⟩
  case false =>
    cases h2 : (x.num == y.num)
    case false =>
      have hv : lessI x y = false := by unfold lessI; simp at h1 h2; simp [h2]; omega
      have HV := Lib.hid hv; clear hv
      go_wp2
      go_ret
      exact ⟨by rw [HV.out]; rfl, HT.out⟩
    case true =>
      have hv : lessI x y = decide (x.rep < y.rep) := by unfold lessI; simp at h1 h2; simp [h2]
      have HV := Lib.hid hv; clear hv
      go_wp2
      go_ret
      exact ⟨by rw [HV.out]; rfl, HT.out⟩
noncomputable def seqK (m : RowsMK) (x : Item) : Int := ((getMK m x).getD noCall).seq
/-- The order of a part. -/
noncomputable def befB (m : RowsMK) (x y : Item) : Bool := decide (seqK m x < seqK m y) || ((seqK m x == seqK m y) && lessI x y)
noncomputable def befM (m : RowsMK) (x y : Item) : Int := if eqA (IV x) (IV y) = true then 0 else if befB m x y = true then -1 else 1
set_option maxHeartbeats 8000000 in
theorem grBeforeR (b gc gd : Nat) (m : RowsMK) (q : RowsML) (hm : 0 ≤ m.n ∧ m.n ≤ 7) (x y : Item) : Reads Try.prog 73 #[.pointer (some ⟨b, 0, none⟩), .agg (IV x), .agg (IV y)] (grL b gc gd m q) (.int .i64 (befM m x y)) := by
  intro W G hS
  have T := ((Sts.start0 W).new (IV x) 35).new (IV y) 35
  simp only [World.size_alloc] at T
  have TS : Sts W G W [rowR b #[.pointer (some ⟨gc, 0, none⟩), .pointer (some ⟨gd, 0, none⟩)], rowsIRK gc m, rowsIRL gd q] := Sts.start hS
  have hbW := row_lt TS.row
  have hrl : ∀ W' R', Sts W (fun _ => False) W' R' → (W'.cell? ⟨b, 0, none⟩ = some (.pointer (some ⟨gc, 0, none⟩)) ∧ b < W'.heap.size) := fun W' R' T => by
    have r := (row_below T.below hbW).trans TS.row
    exact ⟨row_cell r 0, row_lt r⟩
  have hat := fun (x : Item) (W' : World) (R' : List Res) (T : Sts W (fun _ => False) W' R') => (irAtRK gc m hm x).at (R := [rowR b #[.pointer (some ⟨gc, 0, none⟩), .pointer (some ⟨gd, 0, none⟩)], rowsIRL gd q]) ((TS.pure T.below).ord [1, 0, 2])
  have HRL := Lib.hid hrl; have HATT := Lib.hid hat
  clear hrl hat TS hS hbW
  have HV := Lib.hid (show befM m x y = if eqA (IV x) (IV y) = true then 0 else if befB m x y = true then -1 else 1 from rfl)
  have HBF := Lib.hid (show befB m x y = (decide (((getMK m x).getD noCall).seq < ((getMK m y).getD noCall).seq) || ((((getMK m x).getD noCall).seq == ((getMK m y).getD noCall).seq) && lessI x y)) from rfl)
  generalize hg2 : W.heap.size + 1 = g2 at *
  generalize hg1 : W.heap.size = g1 at *
  have HT := Lib.hid (T.ord [1, 0]); clear T
  go_enter Try.func73, Try.ntmps73
  go_upto_region 1 with fail
  generalize hres : (getMK m x).getD noCall = ca at *
  generalize hres2 : (getMK m y).getD noCall = cb at *
  have HR1 := Lib.hid hres; have HR2 := Lib.hid hres2; clear hres hres2
  generalize hw3 : (W.alloc _).alloc _ = w3 at *
  clear hw3
  go_cut [7] from 7 to 19 (fun u7 wx => Sts W (fun _ => False) wx [] ∧ ∃ ga, u7 = .pointer (some ⟨ga, 0, none⟩) ∧ Sts W (fun _ => False) wx [rowR ga (CV ca), rowR g1 (IV x), rowR g2 (IV y)])
  case first =>
    have FS : ∀ W' R', Sts W (fun _ => False) W' (rowR g1 (IV x) :: rowR g2 (IV y) :: R') → (W'.cell? ⟨b, 0, none⟩ = some (.pointer (some ⟨gc, 0, none⟩)) ∧ row? W' g1 = some (IV x)) := fun W' R' T => ⟨(HRL.out W' _ T).1, T.row⟩
    have HT0 := Lib.hid HT.out.drew
    have S0 := FS _ _ HT0.out
    have HFS := Lib.hid FS; have HAT := Lib.hid (HATT.out x); 
    clear FS HRL HATT HT HV HBF
    have HT := HT0; clear HT0
    rw [HR1.out] at HAT
    refine wp_region_held_drew (S := fun W' => (W'.cell? ⟨b, 0, none⟩ = some (.pointer (some ⟨gc, 0, none⟩)) ∧ row? W' g1 = some (IV x))) (by kernel_rfl) S0 (fun hHeld => ?_)
    clear S0
    refine tkH 0 rfl ?_
    simp only [Act.put, List.setIfInBounds_toArray, List.set_cons_zero, List.set_cons_succ]
    refine tkH 1 rfl ?_
    go_frame
    refine tkH 2 rfl ?_
    go_frame
    refine tkH 3 rfl ?_
    go_frame
    refine tkH 4 rfl ?_
    go_frame
    refine wpAnyH_ready (rs := [5, 9]) (by kernel_rfl) (by simp) ?_
    refine AllReadyH.cons (o := _) rfl (fun K hK => ?_) ?_
    · go_simp
      refine (HAT.out _ _ HT.out).mono ?_
      rintro e w4 ⟨rfl, hb⟩
      have T1 := HT.out.pure hb
      clear hb HT HAT
      refine hK.out _ _ (HFS.out _ _ T1) (fun hHeld => ?_)
      clear hK K
      refine tkH 6 rfl ?_
      simp only [Act.put, List.setIfInBounds_toArray, List.set_cons_zero, List.set_cons_succ]
      refine tkH 7 rfl ?_
      go_frame
      refine tkH 8 rfl ?_
      go_frame
      have T2 := T1.new (CV ca) 47
      have T2a := T1.new (CV noCall) 47
      have r2 := T2a.row; have l2 := row_lt r2
      have HT2 := Lib.hid T2; have HT2a := Lib.hid T2a
      clear T1 T2 T2a
      rw [noInst_litK] at r2 l2
      refine wpAnyH_ready (rs := [9]) (by kernel_rfl) (by simp) ?_
      refine AllReadyH.cons (o := _) rfl (fun K hK => ?_) AllReadyH.nil
      go_simp
      refine hK.out _ _ ?_ (fun hHeld => ?_)
      · have := HFS.out _ _ (HT2a.out.ord [1, 2, 0])
        rw [noInst_litK] at this
        exact this
      clear hK K
      refine wpAnyH_ready (rs := [10]) (by kernel_rfl) (by simp) ?_
      refine AllReadyH.cons (o := _) rfl (fun K hK => ?_) AllReadyH.nil
      go_simp
      refine hK.out _ _ ?_ (fun hHeld => ?_)
      · exact HFS.out _ _ (HT2.out.ord [1, 2, 0])
      clear hK K r2 l2 HT2a
      refine tkH 11 rfl ?_
      simp only [Act.put, List.setIfInBounds_toArray, List.set_cons_zero, List.set_cons_succ]
      refine wpAnyH_done (by kernel_rfl) ?_ _
      have HT := HT2; clear HT2
      simp only [Exit.then]
      go_step
      go_meet
      case rel => exact ⟨HT.out.nil, _, rfl, HT.out⟩
    · have T1 := HT.out.new (CV noCall) 47
      have r1 := T1.row; have l1 := row_lt r1
      rw [noInst_litK] at r1 l1
      have HT1 := Lib.hid T1; clear T1 HT
      refine AllReadyH.cons (o := _) rfl (fun K hK => ?_) AllReadyH.nil
      go_simp
      refine hK.out _ _ ?_ (fun hHeld => ?_)
      · have := HFS.out _ _ (HT1.out.ord [1, 2, 0])
        rw [noInst_litK] at this
        exact this
      clear hK K r1 l1
      refine wpAnyH_ready (rs := [5]) (by kernel_rfl) (by simp) ?_
      refine AllReadyH.cons (o := _) rfl (fun K hK => ?_) AllReadyH.nil
      go_simp
      have hbb := HT1.out
      rw [noInst_litK] at hbb
      refine (HAT.out _ _ hbb).mono ?_
      rintro e w4 ⟨rfl, hb⟩
      have T1 := HT1.out
      rw [noInst_litK] at T1
      have T2 := T1.pure hb
      clear hb HT1 HAT hbb T1
      refine hK.out _ _ ?_ (fun hHeld => ?_)
      · exact HFS.out _ _ (T2.ord [1, 2, 0])
      clear hK K
      refine tkH 6 rfl ?_
      simp only [Act.put, List.setIfInBounds_toArray, List.set_cons_zero, List.set_cons_succ]
      refine tkH 7 rfl ?_
      go_frame
      refine tkH 8 rfl ?_
      go_frame
      have T3 := T2.setRow (CV ca)
      have r2 := T2.row; have l2 := row_lt r2
      have HT3 := Lib.hid T3; clear T2 T3
      simp only [size_drew] at r2 l2 HT3
      generalize w3.heap.size = g5 at *
      refine wpAnyH_ready (rs := [10]) (by kernel_rfl) (by simp) ?_
      refine AllReadyH.cons (o := _) rfl (fun K hK => ?_) AllReadyH.nil
      go_simp
      refine hK.out _ _ ?_ (fun hHeld => ?_)
      · exact HFS.out _ _ (HT3.out.ord [1, 2, 0])
      clear hK K r2 l2
      refine tkH 11 rfl ?_
      simp only [Act.put, List.setIfInBounds_toArray, List.set_cons_zero, List.set_cons_succ]
      refine wpAnyH_done (by kernel_rfl) ?_ _
      have HT := HT3; clear HT3
      simp only [Exit.then]
      go_step
      go_meet
      case rel => exact ⟨HT.out.nil, _, rfl, HT.out⟩
  case rest =>
    obtain ⟨-, ga, rfl, T⟩ := hcut
    have T := T.ord [1, 2, 0]
    clear HT
    have HT := Lib.hid T; clear T
    go_upto_region 2 with fail
    generalize wc = w3 at *
    go_cut [9] from 9 to 28 (fun u9 wx => Sts W (fun _ => False) wx [] ∧ ∃ gb, u9 = .pointer (some ⟨gb, 0, none⟩) ∧ Sts W (fun _ => False) wx [rowR gb (CV cb), rowR g1 (IV x), rowR g2 (IV y), rowR ga (CV ca)])
    case first =>
      have FS : ∀ W' R', Sts W (fun _ => False) W' (rowR g1 (IV x) :: rowR g2 (IV y) :: R') → (W'.cell? ⟨b, 0, none⟩ = some (.pointer (some ⟨gc, 0, none⟩)) ∧ row? W' g2 = some (IV y)) := fun W' R' T => ⟨(HRL.out W' _ T).1, T.row1⟩
      have HT0 := Lib.hid HT.out.drew
      have S0 := FS _ _ HT0.out
      have HFS := Lib.hid FS; have HAT := Lib.hid (HATT.out y); 
      clear FS HRL HATT HT HV HBF
      have HT := HT0; clear HT0
      rw [HR2.out] at HAT
      refine wp_region_held_drew (S := fun W' => (W'.cell? ⟨b, 0, none⟩ = some (.pointer (some ⟨gc, 0, none⟩)) ∧ row? W' g2 = some (IV y))) (by kernel_rfl) S0 (fun hHeld => ?_)
      clear S0
      refine tkH 0 rfl ?_
      simp only [Act.put, List.setIfInBounds_toArray, List.set_cons_zero, List.set_cons_succ]
      refine tkH 1 rfl ?_
      go_frame
      refine tkH 2 rfl ?_
      go_frame
      refine tkH 3 rfl ?_
      go_frame
      refine tkH 4 rfl ?_
      go_frame
      refine wpAnyH_ready (rs := [5, 9]) (by kernel_rfl) (by simp) ?_
      refine AllReadyH.cons (o := _) rfl (fun K hK => ?_) ?_
      · go_simp
        refine (HAT.out _ _ HT.out).mono ?_
        rintro e w4 ⟨rfl, hb⟩
        have T1 := HT.out.pure hb
        clear hb HT HAT
        refine hK.out _ _ (HFS.out _ _ T1) (fun hHeld => ?_)
        clear hK K
        refine tkH 6 rfl ?_
        simp only [Act.put, List.setIfInBounds_toArray, List.set_cons_zero, List.set_cons_succ]
        refine tkH 7 rfl ?_
        go_frame
        refine tkH 8 rfl ?_
        go_frame
        have T2 := T1.new (CV cb) 47
        have T2a := T1.new (CV noCall) 47
        have r2 := T2a.row; have l2 := row_lt r2
        have HT2 := Lib.hid T2; have HT2a := Lib.hid T2a
        clear T1 T2 T2a
        rw [noInst_litK] at r2 l2
        refine wpAnyH_ready (rs := [9]) (by kernel_rfl) (by simp) ?_
        refine AllReadyH.cons (o := _) rfl (fun K hK => ?_) AllReadyH.nil
        go_simp
        refine hK.out _ _ ?_ (fun hHeld => ?_)
        · have := HFS.out _ _ (HT2a.out.ord [1, 2, 0])
          rw [noInst_litK] at this
          exact this
        clear hK K
        refine wpAnyH_ready (rs := [10]) (by kernel_rfl) (by simp) ?_
        refine AllReadyH.cons (o := _) rfl (fun K hK => ?_) AllReadyH.nil
        go_simp
        refine hK.out _ _ ?_ (fun hHeld => ?_)
        · exact HFS.out _ _ (HT2.out.ord [1, 2, 0])
        clear hK K r2 l2 HT2a
        refine tkH 11 rfl ?_
        simp only [Act.put, List.setIfInBounds_toArray, List.set_cons_zero, List.set_cons_succ]
        refine wpAnyH_done (by kernel_rfl) ?_ _
        have HT := HT2; clear HT2
        simp only [Exit.then]
        go_step
        go_meet
        case rel => exact ⟨HT.out.nil, _, rfl, HT.out⟩
      · have T1 := HT.out.new (CV noCall) 47
        have r1 := T1.row; have l1 := row_lt r1
        rw [noInst_litK] at r1 l1
        have HT1 := Lib.hid T1; clear T1 HT
        refine AllReadyH.cons (o := _) rfl (fun K hK => ?_) AllReadyH.nil
        go_simp
        refine hK.out _ _ ?_ (fun hHeld => ?_)
        · have := HFS.out _ _ (HT1.out.ord [1, 2, 0])
          rw [noInst_litK] at this
          exact this
        clear hK K r1 l1
        refine wpAnyH_ready (rs := [5]) (by kernel_rfl) (by simp) ?_
        refine AllReadyH.cons (o := _) rfl (fun K hK => ?_) AllReadyH.nil
        go_simp
        have hbb := HT1.out
        rw [noInst_litK] at hbb
        refine (HAT.out _ _ hbb).mono ?_
        rintro e w4 ⟨rfl, hb⟩
        have T1 := HT1.out
        rw [noInst_litK] at T1
        have T2 := T1.pure hb
        clear hb HT1 HAT hbb T1
        refine hK.out _ _ ?_ (fun hHeld => ?_)
        · exact HFS.out _ _ (T2.ord [1, 2, 0])
        clear hK K
        refine tkH 6 rfl ?_
        simp only [Act.put, List.setIfInBounds_toArray, List.set_cons_zero, List.set_cons_succ]
        refine tkH 7 rfl ?_
        go_frame
        refine tkH 8 rfl ?_
        go_frame
        have T3 := T2.setRow (CV cb)
        have r2 := T2.row; have l2 := row_lt r2
        have HT3 := Lib.hid T3; clear T2 T3
        simp only [size_drew] at r2 l2 HT3
        generalize w3.heap.size = g5 at *
        refine wpAnyH_ready (rs := [10]) (by kernel_rfl) (by simp) ?_
        refine AllReadyH.cons (o := _) rfl (fun K hK => ?_) AllReadyH.nil
        go_simp
        refine hK.out _ _ ?_ (fun hHeld => ?_)
        · exact HFS.out _ _ (HT3.out.ord [1, 2, 0])
        clear hK K r2 l2
        refine tkH 11 rfl ?_
        simp only [Act.put, List.setIfInBounds_toArray, List.set_cons_zero, List.set_cons_succ]
        refine wpAnyH_done (by kernel_rfl) ?_ _
        have HT := HT3; clear HT3
        simp only [Exit.then]
        go_step
        go_meet
        case rel => exact ⟨HT.out.nil, _, rfl, HT.out⟩
    case rest =>
      obtain ⟨-, gb, rfl, T⟩ := hcut
      clear HT HATT HRL
      have rb := T.row; have lb := row_lt rb; have cb2 := row_cell rb 13
      have r1 := T.row1; have l1 := row_lt r1
      have r2 := T.row2; have l2 := row_lt r2
      have ra := T.row3; have la := row_lt ra; have ca2 := row_cell ra 13
      have HT := Lib.hid T; clear T
      have HL := Lib.hid (itemLess_any x y)
      cases he : eqA (IV x) (IV y)
      case true =>
        have hv : befM m x y = 0 := by rw [HV.out, he]; rfl
        have HV2 := Lib.hid hv; clear hv HV
        go_wp2
        go_ret
        exact ⟨by rw [HV2.out]; rfl, by first | exact HT.out.below | (rw [hg1]; exact HT.out.below) | (rw [← hg1]; exact HT.out.below)⟩
      case false =>
        cases s1 : decide (ca.seq < cb.seq)
        case true =>
          have hv : befM m x y = -1 := by rw [HV.out, he, HBF.out, s1]; rfl
          have HV2 := Lib.hid hv; clear hv HV HBF
          go_wp2
          go_ret
          exact ⟨by rw [HV2.out]; rfl, by first | exact HT.out.below | (rw [hg1]; exact HT.out.below) | (rw [← hg1]; exact HT.out.below)⟩
        case false =>
          cases s2 : (ca.seq == cb.seq)
          case false =>
            have hv : befM m x y = 1 := by rw [HV.out, he, HBF.out, s1, s2]; rfl
            have HV2 := Lib.hid hv; clear hv HV HBF
            go_wp2
            go_ret
            exact ⟨by rw [HV2.out]; rfl, by first | exact HT.out.below | (rw [hg1]; exact HT.out.below) | (rw [← hg1]; exact HT.out.below)⟩
          case true =>
            have hl := HL.out
            cases s3 : lessI x y
            case false =>
              have hv : befM m x y = 1 := by rw [HV.out, he, HBF.out, s1, s2, s3]; rfl
              rw [s3] at hl
              have HL2 := Lib.hid hl
              have HV2 := Lib.hid hv; clear hv HV HBF HL hl
              go_wp2_with fail
              refine (Ans.at HL2.out HT.out).mono ?_
              clear HL2 HT
              rintro e w5 ⟨rfl, T⟩
              have HT := Lib.hid T; clear T
              go_wp2
              go_ret
              exact ⟨by rw [HV2.out]; rfl, by first | exact HT.out.below | (rw [hg1]; exact HT.out.below) | (rw [← hg1]; exact HT.out.below)⟩
            case true =>
              have hv : befM m x y = -1 := by rw [HV.out, he, HBF.out, s1, s2, s3]; rfl
              rw [s3] at hl
              have HL2 := Lib.hid hl
              have HV2 := Lib.hid hv; clear hv HV HBF HL hl
              go_wp2_with fail
              refine (Ans.at HL2.out HT.out).mono ?_
              clear HL2 HT
              rintro e w5 ⟨rfl, T⟩
              have HT := Lib.hid T; clear T
              go_wp2
              go_ret
              exact ⟨by rw [HV2.out]; rfl, by first | exact HT.out.below | (rw [hg1]; exact HT.out.below) | (rw [← hg1]; exact HT.out.below)⟩
end Go.Proofs.Ytnjgjhjilolanaa
/- Loops over iterators: what lies in memory abides the loop's own records. Nothing of the program stands here. -/
namespace Go.Proofs.Ytnjgjhjilolanaa
open Go.RowKit Go.Shelf
set_option linter.unusedVariables false
/-- All blocks of a thing are cells. -/
def Res.plain (r : Res) : Prop := ∀ {F : Nat → Prop} {W : World}, r.sat F W → ∀ k, F k → ∃ o, W.heap[k]? = some o ∧ o.isCells = true
def plainL (L : List Res) : Prop := ∀ r ∈ L, r.plain
theorem rowR_plain (g : Nat) (X : Array Value) : (rowR g X).plain := fun hs k hk => by
  rw [(hs.1 k).1 hk]
  obtain ⟨t, ht⟩ := row_some hs.2
  exact ⟨_, ht, rfl⟩
theorem vecR_plain (e : TypeId) (size : Nat) (v : Value) (n : Nat) (xs : List Value) : (vecR e size v n xs).plain := fun hs k hk => by
  have := (hs.2 k).1 hk
  rcases hs.1.2 with ⟨rfl, hn⟩ | ⟨g, cap, cur, rfl, hb, hg, rest⟩
  · simp [Value.ownBlock] at this
  · simp [Value.ownBlock] at this; subst this; exact ⟨_, hg, rfl⟩
theorem Sat.plain : ∀ {L : List Res}, plainL L → ∀ {F : Nat → Prop} {W : World}, Sat W L F → ∀ k, F k → ∃ o, W.heap[k]? = some o ∧ o.isCells = true
  | [], _, _, _, h, k, hk => (h k hk).elim
  | r :: L, hp, F, W, ⟨A, B, ha, hb, hd, hf⟩, k, hk => by
    rcases (hf k).1 hk with h | h
    · exact hp r (by simp) ha k h
    · exact Sat.plain (fun s hs => hp s (by simp [hs])) hb k h
section
variable {w W W' : World} {F G : Nat → Prop} {L R L' : List Res} {r s t u : Res}
theorem Sts.grown' (h : Sts w F W L) (hp : plainL L) {row : Option Nat} (hg : W.grownBy W' row) (hr : ∀ r, row = some r → w.heap.size ≤ r ∧ ∃ o : Obj, W.heap[r]? = some o ∧ o.isCells = false) : Sts w F W' L := by
  obtain ⟨⟨G, hs, hG⟩, m⟩ := h
  have hpl := hs.plain hp
  refine ⟨⟨G, hs.stay fun k hk => hg.block k (hs.lt k hk) fun e => ?_, hG⟩, hg.os.trans m.os, hg.tape.trans m.tape, hg.output.trans m.output, Nat.le_trans m.size hg.size, fun k hk hn => (hg.block k (Nat.lt_of_lt_of_le hk m.size) fun e => ?_).trans (m.block k hk hn)⟩
  · obtain ⟨_, o, ho, hc⟩ := hr k e.symm
    obtain ⟨o', ho', hc'⟩ := hpl k hk
    rw [ho] at ho'; injection ho' with e2; subst e2; rw [hc] at hc'; cases hc'
  · have := (hr k e.symm).1; omega
/-- What a loop's round knows of memory abides the loop's records. -/
theorem Sts.own {β : Type} (w : World) (F : Nat → Prop) {B : Nat} (L : β → List Res) (hp : ∀ s, plainL (L s)) (hB : w.heap.size ≤ B) : OwnFrom B (fun s W => Sts w F W (L s)) := fun s W W' row hs hg hr =>
  hs.grown' (hp s) hg fun r e => ⟨Nat.le_trans hB (hr r e).1, (hr r e).2⟩
/-- What a round leaves. -/
theorem Sts.keepsFrom (hs : Sat W L G) (hp : plainL L) (h : Sts W G W' L') (B : Nat) : KeepsFrom B W W' :=
  ⟨h.2.size, fun k o _ hk ho => by
    have hlt : k < W.heap.size := (Array.getElem?_eq_some_iff.1 hk).1
    rw [h.2.block k hlt fun hg => ?_]
    · exact hk
    · obtain ⟨o', ho', hc'⟩ := hs.plain hp k hg
      rw [hk] at ho'; injection ho' with e; subst e; rw [ho] at hc'; cases hc'⟩
theorem Sts.below_putObj {l : Nat} {o : Obj} (h : Sts w F W L) (hp : plainL L) (o' : Obj) (hl : w.heap.size ≤ l) (ho : W.heap[l]? = some o) (hc : o.isCells = false) : Sts w F (W.putObj l o') L :=
  h.grown' hp (grownBy_putObj' W l o') fun r e => by cases e; exact ⟨hl, o, ho, hc⟩
end
section
variable {n : Nat} {P : Program} {fn : Func} {R : Ending → World → Prop} {a : Act} {w : World} {v : Value}
/-- A return ahead of every loop over an iterator. -/
theorem retM0 (hr : (results fn a.tmps).run P w = .ok v w) (hR : R (.returned v) w) (hd : a.defers = []) : bodyPostM Fence.wide n P fn R .ret a w := by
  show LeavesInM _ _ _ _ _ _ a.defers _ _
  rw [hd]
  exact ⟨v, hr, hR⟩
/-- A return behind one. -/
theorem retM1 {D : Nat} {ar : Array Value} (hK : w.heap[D]? = some (.deferred (some []))) (hr : (results fn a.tmps).run P (w.putObj D (.deferred none)) = .ok v (w.putObj D (.deferred none))) (hR : R (.returned v) (w.putObj D (.deferred none))) (hd : a.defers = [{ target := .collected D, args := ar }]) : bodyPostM Fence.wide n P fn R .ret a w := by
  show LeavesInM _ _ _ _ _ _ a.defers _ _
  rw [hd]
  exact ⟨by simp, .inl ⟨_, _, rfl, run_takeDeferred hK, v, hr, hR⟩⟩
end
section
variable {w W W' : World} {F G : Nat → Prop} {L R L' : List Res} {r s t u : Res}
theorem Sts.put {D : Nat} {ds : Option (List Deferred)} (h : Sts w F W L) (hp : plainL L) (hD : w.heap.size ≤ D) (hK : W.heap[D]? = some (.deferred ds)) (o : Obj) : Sts w F (W.putObj D o) L := h.below_putObj hp o hD hK rfl
/-- A round's own part. -/
theorem Sts.round (h : Sts w F W L) (hp : plainL L) : ∃ G, Sts W G W L ∧ ∀ {W' L'}, Sts W G W' L' → Sts w F W' L' ∧ ∀ B, KeepsFrom B W W' := by
  obtain ⟨G, hG, k⟩ := Sts.call (L := L) (R := []) (by simpa using h)
  exact ⟨G, Sts.start hG, fun {W' L'} hS => ⟨by simpa using k hS, fun B => Sts.keepsFrom hG hp hS B⟩⟩
end
end Go.Proofs.Ytnjgjhjilolanaa
/- Layer 5: the items to which a row reaches, one by one. -/
namespace Go.Proofs.Ytnjgjhjilolanaa
open Go.RowKit Go.Shelf
set_option linter.unusedVariables false
attribute [local go_sem] Oper.semAt_some
attribute [local go_sem] row_alloc row_drew row_drewN row_ext row_setCell row_setRow size_ext setRow_alloc setRow_drew loadOf storeOf piece_lit loadVal_at storeVal_at allOne_lit buildOf buildRes_some
attribute [local go_sem high] cell_alloc frozen_alloc setCell_alloc cell_ext frozen_ext cell_setRow frozen_setRow
attribute [local go_sem ↓] TItem_ld0 TItem_st0 TItem_fd0 TItem_bd0
attribute [local go_sem] TItem_size TItem_one TItem_piece TItem_c0 TItem_c1 TItem_set_rep TItem_set_num TItem_ld TItem_st TItem_f_rep TItem_f_num TItem_bd TItem_fl TItem_fl_rep TItem_fl_num
attribute [local go_sem high] TItem_eql TItem_neq
attribute [local go_sem ↓] index_deps0 load_deps0 store_deps0
attribute [local go_sem] DV_piece DV_size DV_one index_deps load_deps store_deps
attribute [local go_sem high] TDeps_eql TDeps_neq
def repL (d : Nat → Int) (r k : Nat) : List Item := (List.range k).map fun (j : Nat) => (⟨(r : Int), (j : Int) + 1⟩ : Item)
def itemsTo (d : Nat → Int) : Nat → List Item
  | 0 => []
  | r + 1 => itemsTo d r ++ repL d r (d r).toNat
def itemsL (d : Nat → Int) : List Item := itemsTo d 7
theorem repL_succ (d : Nat → Int) (r k : Nat) : repL d r (k + 1) = repL d r k ++ [⟨(r : Int), (k : Int) + 1⟩] := by simp [repL, List.range_succ]
theorem repL_pre (d : Nat → Int) (r : Nat) {k m : Nat} (h : k ≤ m) : repL d r k <+: repL d r m := by
  obtain ⟨j, rfl⟩ := Nat.exists_eq_add_of_le h
  exact ⟨(List.range j).map fun (i : Nat) => (⟨(r : Int), ((k + i : Nat) : Int) + 1⟩ : Item), by simp [repL, List.range_add]⟩
theorem itemsTo_pre (d : Nat → Int) {r m : Nat} (h : r ≤ m) : itemsTo d r <+: itemsTo d m := by
  induction m with
  | zero => obtain rfl : r = 0 := by omega
            exact List.prefix_refl _
  | succ m ih =>
    by_cases e : r = m + 1
    · subst e; exact List.prefix_refl _
    · exact (ih (by omega)).trans (List.prefix_append _ _)
theorem items_pre (d : Nat → Int) {r k : Nat} (hr : r < 7) (hk : k ≤ (d r).toNat) : itemsTo d r ++ repL d r k <+: itemsL d := by
  refine List.IsPrefix.trans ?_ (itemsTo_pre d (show r + 1 ≤ 7 by omega))
  exact (List.prefix_append_right_inj _).2 (repL_pre d r hk)
set_option maxHeartbeats 1000000 in
theorem itemsS {w W : World} {F : Nat → Prop} {L : List Res} (T : Sts w F W L) (d : Nat → Int) : Calls Try.prog 72 #[.agg (DV d)] W fun e W' => e = .returned (.func (.func 85) #[] #[.pointer (some ⟨W.heap.size, 0, none⟩)]) ∧ Sts w F W' (rowR W.heap.size (DV d) :: L) := by
  have T := T.new (DV d) 45
  go_enter Try.func72, Try.ntmps72
  go_wp2
  go_ret
  exact ⟨rfl, T⟩
end Go.Proofs.Ytnjgjhjilolanaa
