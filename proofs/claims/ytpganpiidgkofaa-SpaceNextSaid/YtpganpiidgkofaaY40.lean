/- Several texts in one. -/
import Derived.Test.YtpganpiidgkofaaY39
/- SpaceNext: the items that a replica begins, one behind the other. -/
namespace Go.Proofs.Ytpganpiidgkofaa
open Go.RowKit
set_option linter.unusedVariables false
set_option maxRecDepth 20000
attribute [local go_sem] row_alloc row_drew row_drewN row_ext row_setCell row_setRow size_ext setRow_alloc setRow_drew loadOf storeOf piece_lit loadVal_at storeVal_at allOne_lit buildOf buildRes_some
attribute [local go_sem high] cell_alloc frozen_alloc setCell_alloc cell_ext frozen_ext cell_setRow frozen_setRow
attribute [local go_sem ↓] TDeed_ld0 TDeed_st0 TDeed_fd0 TDeed_bd0
attribute [local go_sem] TDeed_size TDeed_one TDeed_piece TDeed_c0 TDeed_c1 TDeed_c2 TDeed_c3 TDeed_c4 TDeed_c5 TDeed_set_kind TDeed_set_key TDeed_set_val TDeed_set_ver TDeed_set_ses TDeed_set_num TDeed_ld TDeed_st TDeed_f_kind TDeed_f_key TDeed_f_val TDeed_f_ver TDeed_f_ses TDeed_f_num TDeed_bd TDeed_fl TDeed_fl_kind TDeed_fl_key TDeed_fl_val TDeed_fl_ver TDeed_fl_ses TDeed_fl_num
attribute [local go_sem high] TDeed_eql TDeed_neq
attribute [local go_sem ↓] index_deps0 load_deps0 store_deps0
attribute [local go_sem] DV_piece DV_size DV_one index_deps load_deps store_deps
attribute [local go_sem high] TDeps_eql TDeps_neq
attribute [local go_sem ↓] TCall_ld0 TCall_st0 TCall_fd0 TCall_bd0
attribute [local go_sem] TCall_size TCall_one TCall_piece TCall_c0 TCall_c1 TCall_c2 TCall_c3 TCall_c4 TCall_c5 TCall_c6 TCall_c7 TCall_c8 TCall_c9 TCall_c10 TCall_c11 TCall_c12 TCall_c13 TCall_p_deed TCall_put_deed TCall_p_deps TCall_put_deps TCall_set_seq TCall_ld TCall_st TCall_f_deed TCall_f_deps TCall_f_seq TCall_bd TCall_fl TCall_fl_deed TCall_fl_deps TCall_fl_seq
attribute [local go_sem high] TCall_eql TCall_neq
attribute [local go_sem ↓] TItem_ld0 TItem_st0 TItem_fd0 TItem_bd0
attribute [local go_sem] TItem_size TItem_one TItem_piece TItem_c0 TItem_c1 TItem_set_rep TItem_set_num TItem_ld TItem_st TItem_f_rep TItem_f_num TItem_bd TItem_fl TItem_fl_rep TItem_fl_num
attribute [local go_sem high] TItem_eql TItem_neq
attribute [local go_sem ↓] TBallot_ld0 TBallot_st0 TBallot_fd0 TBallot_bd0
attribute [local go_sem] TBallot_size TBallot_one TBallot_piece TBallot_c0 TBallot_c1 TBallot_set_round TBallot_set_rep TBallot_ld TBallot_st TBallot_f_round TBallot_f_rep TBallot_bd TBallot_fl TBallot_fl_round TBallot_fl_rep
attribute [local go_sem high] TBallot_eql TBallot_neq
attribute [local go_sem ↓] TInst_ld0 TInst_st0 TInst_fd0 TInst_bd0
attribute [local go_sem] TInst_size TInst_one TInst_piece TInst_c0 TInst_c1 TInst_c2 TInst_c3 TInst_c4 TInst_c5 TInst_c6 TInst_c7 TInst_c8 TInst_c9 TInst_c10 TInst_c11 TInst_c12 TInst_c13 TInst_c14 TInst_c15 TInst_c16 TInst_c17 TInst_c18 TInst_c19 TInst_p_prom TInst_put_prom TInst_p_vote TInst_put_vote TInst_set_status TInst_p_call TInst_put_call TInst_set_same TInst_ld TInst_st TInst_f_prom TInst_f_vote TInst_f_status TInst_f_call TInst_f_same TInst_bd TInst_fl TInst_fl_prom TInst_fl_vote TInst_fl_status TInst_fl_call TInst_fl_same
attribute [local go_sem high] TInst_eql TInst_neq
structure NextI (n rep : Int) (k : Nat) (I : Idx) (D : List UInt8) (m : RowsM) : Prop where
  ok : RowsOk m
  good : RowsGood m
  mn : m.n = n
  top : (0 ≤ rep ∧ rep < n) → topM m rep = k
  len : D.length ≤ 310 * k
  idx : IdxOk I
  N : I.N ≤ k
  k : k ≤ 64
set_option maxHeartbeats 8000000 in
theorem law_next (n rep times : Int) (W : World) (hn : Fits n) (hr : Fits rep) (ht : Fits times) :
    Calls Try.prog 8 #[.int .i64 n, .int .i64 rep, .int .i64 times] W fun e W' => e = .returned (.bool true) ∧ Below W.heap.size W W' := by
  have HT12 := alive12
  unfold Fits at ht
  go_enter Try.func8, Try.ntmps8
  go_wp2_with fail
  refine (HT12 W).mono ?_
  rintro e w1 ⟨rfl, hb⟩
  have T := (Sts.start0 W).pure hb
  clear hb HT12
  cases h0 : decide (times < 0)
  case true =>
    go_wp2
    go_ret
    exact ⟨rfl, T.below⟩
  case false =>
    cases h70 : decide ((70 : Int) < times)
    case true =>
      go_wp2
      go_ret
      exact ⟨rfl, T.below⟩
    case false =>
      go_wp2_with fail
      refine (newT T).mono ?_
      clear T
      rintro e w3 ⟨rfl, T⟩
      generalize w1.heap.size = p at *
      cases hs : sizeB n
      case false =>
        have HB := Lib.hid (Ans.at (spBad p n hs) T); clear T
        go_wp2_with fail
        refine HB.out.mono ?_
        clear HB
        rintro e w4 ⟨rfl, T⟩
        go_wp2
        go_ret
        exact ⟨rfl, T.below⟩
      case true =>
        have hnn := sizeB_n hs
        have HB := Lib.hid (spOpenT T (by simp) n hs); clear T
        go_wp2_with fail
        refine HB.out.mono ?_
        clear HB
        rintro e w4 ⟨s, lg, g, bk, bs, rfl, T⟩
        rw [goT_nil] at T
        have T : Sts W (fun _ => False) w4 (spL s lg p g bk bs idx0 [] 0 ⟨n, fun _ => []⟩) := by
          have h : ents ⟨n, fun _ => []⟩ = [] := ents_nil hnn
          have T := T
          rw [show mK n [] = ⟨n, fun _ => []⟩ from rfl, h] at T
          exact T
        have hI0 : NextI n rep 0 idx0 [] ⟨n, fun _ => []⟩ := ⟨RowsOk.new hnn, RowsGood.new n, rfl, fun h => by unfold topM; rw [if_pos h]; rfl, by simp, idx0_ok, Nat.le_refl _, by omega⟩
        have HT := Lib.hid T; have HI0 := Lib.hid hI0; clear T hI0
        cases c1 : decide (0 ≤ rep)
        case false =>
          have hcan : canNext ⟨n, fun _ => []⟩ rep = false := by unfold canNext; simp [c1]
          have HC := Lib.hid hcan; clear hcan
          go_wp2_with fail
          go_loopw [10] (fun sl wr => sl = .int .i64 1 ∧ Sts W (fun _ => False) wr (spL s lg p g bk bs idx0 [] 0 ⟨n, fun _ => []⟩)) (fun _ _ => 0)
          case atStart => exact ⟨rfl, HT.out⟩
          case round =>
            clear HT HI0
            obtain ⟨rfl, T⟩ := hrel
            cases hkt : decide ((1 : Int) ≤ times)
            case false =>
              go_wp2
              go_ret
              exact ⟨rfl, T.below⟩
            case true =>
              have T1 : Sts W (fun _ => False) wr (spL s lg p g bk bs idx0 [] 0 ⟨n, fun _ => []⟩ ++ []) := by rw [List.append_nil]; exact T
              have hnx := spNextT (RowsOk.new hnn) rep T1
              rw [HC.out] at hnx
              have HNX := Lib.hid hnx
              clear hnx T T1
              go_wp2_with fail
              refine HNX.out.mono ?_
              clear HNX
              rintro e w5 ⟨rfl, T⟩
              rw [List.append_nil] at T
              have HT := Lib.hid T; clear T
              go_wp2
              go_ret
              exact ⟨rfl, (HT.out.keep _).below⟩
        case true =>
          cases c2 : decide (rep < n)
          case false =>
            have hcan : canNext ⟨n, fun _ => []⟩ rep = false := by unfold canNext; simp [c2]
            have HC := Lib.hid hcan; clear hcan
            go_wp2_with fail
            go_loopw [10] (fun sl wr => sl = .int .i64 1 ∧ Sts W (fun _ => False) wr (spL s lg p g bk bs idx0 [] 0 ⟨n, fun _ => []⟩)) (fun _ _ => 0)
            case atStart => exact ⟨rfl, HT.out⟩
            case round =>
              clear HT HI0
              obtain ⟨rfl, T⟩ := hrel
              cases hkt : decide ((1 : Int) ≤ times)
              case false =>
                go_wp2
                go_ret
                exact ⟨rfl, T.below⟩
              case true =>
                have T1 : Sts W (fun _ => False) wr (spL s lg p g bk bs idx0 [] 0 ⟨n, fun _ => []⟩ ++ []) := by rw [List.append_nil]; exact T
                have hnx := spNextT (RowsOk.new hnn) rep T1
                rw [HC.out] at hnx
                have HNX := Lib.hid hnx
                clear hnx T T1
                go_wp2_with fail
                refine HNX.out.mono ?_
                clear HNX
                rintro e w5 ⟨rfl, T⟩
                rw [List.append_nil] at T
                have HT := Lib.hid T; clear T
                go_wp2
                go_ret
                exact ⟨rfl, (HT.out.keep _).below⟩
          case true =>
            have hc1 := of_decide_eq_true c1; have hc2 := of_decide_eq_true c2
            go_wp2_with fail
            go_loopw [10] (fun sl wr => ∃ (k : Nat) (I : Idx) (D : List UInt8) (safe : Nat) (m : RowsM), sl = .int .i64 ((k : Int) + 1) ∧ k ≤ 64 ∧ NextI n rep k I D m ∧ Sts W (fun _ => False) wr (spL s lg p g bk bs I D safe m)) (fun sl _ => (71 - intOf sl).toNat)
            case atStart => exact ⟨0, idx0, [], 0, _, rfl, by omega, HI0.out, HT.out⟩
            case round =>
              clear HT HI0
              obtain ⟨k, I, D, safe, m, rfl, hk, hI, T⟩ := hrel
              cases hkt : decide ((k : Int) + 1 ≤ times)
              case false =>
                go_wp2
                go_ret
                exact ⟨rfl, T.below⟩
              case true =>
                have T1 : Sts W (fun _ => False) wr (spL s lg p g bk bs I D safe m ++ []) := by rw [List.append_nil]; exact T
                have hnx := spNextT hI.ok rep T1
                rw [hI.top ⟨hc1, hc2⟩] at hnx
                have hcan : canNext m rep = decide ((k : Int) + 1 ≤ 64) := by unfold canNext; rw [hI.mn, c1, c2, hI.top ⟨hc1, hc2⟩]; rfl
                rw [hcan] at hnx
                have HNX := Lib.hid hnx; have HI := Lib.hid hI
                clear hnx hcan hI T T1
                go_wp2_with fail
                refine HNX.out.mono ?_
                clear HNX
                rintro e w5 ⟨rfl, T⟩
                rw [List.append_nil] at T
                have HT := Lib.hid T; clear T
                cases h64 : decide ((k : Int) + 1 ≤ 64)
                case false =>
                  go_wp2
                  go_ret
                  exact ⟨rfl, (HT.out.keep _).below⟩
                case true =>
                  have hk64 := of_decide_eq_true h64
                  have hI := HI.out
                  have htop := top_next (m := m) (bareN rep) hc1 (by rw [hI.mn]; exact hc2) (by rw [hI.top ⟨hc1, hc2⟩]; exact hk64)
                  rw [hI.top ⟨hc1, hc2⟩] at htop
                  have hgN : goodN (bareN rep) m.n = true := by rw [hI.mn]; exact bareN_good hs hc1 hc2
                  have hlD := hI.len
                  obtain ⟨hadd, hrl⟩ := add_easy (D := D) (safe := safe) htop.1 hgN (by rw [hI.mn]; omega) (by omega)
                  have hkn := spKnowD s lg p g bk bs I hI.idx (by have := hI.N; omega) D safe m hI.ok hI.good (by omega) ⟨rep, (k : Int) + 1⟩ (bareN rep)
                  have hix : IdxOk (knowI I D safe m ⟨rep, (k : Int) + 1⟩ (bareN rep)) ∧ (knowI I D safe m ⟨rep, (k : Int) + 1⟩ (bareN rep)).N ≤ I.N + 1 := by
                    unfold knowI
                    split
                    · exact hI.idx.find (by have := hI.N; omega)
                    · exact ⟨hI.idx, Nat.le_succ _⟩
                  rw [hadd] at hkn
                  dsimp only at hkn
                  have hI2 : NextI n rep (k + 1) (knowI I D safe m ⟨rep, (k : Int) + 1⟩ (bareN rep)) (D ++ recOf (⟨rep, (k : Int) + 1⟩, bareN rep)) (setM m ⟨rep, (k : Int) + 1⟩ (bareN rep)) :=
                    ⟨hI.ok.set _ _, hI.good.set htop.1 hgN, by rw [setM_n]; exact hI.mn, fun _ => by rw [htop.2]; simp, by rw [List.length_append]; omega, hix.1, Nat.le_trans hix.2 (Nat.succ_le_succ hI.N), by omega⟩
                  generalize knowI I D safe m ⟨rep, (k : Int) + 1⟩ (bareN rep) = I1 at *
                  generalize D ++ recOf (⟨rep, (k : Int) + 1⟩, bareN rep) = D1 at *
                  generalize setM m ⟨rep, (k : Int) + 1⟩ (bareN rep) = m1 at *
                  have HKN := Lib.hid hkn; have HI2 := Lib.hid hI2
                  clear hI htop hgN hlD hadd hrl hkn hix hI2
                  have T2 := HT.out.new (IV ⟨rep, (k : Int) + 1⟩) 42
                  have r11 := T2.row; have l11 := row_lt r11
                  have he := eqA_refl (IV ⟨rep, (k : Int) + 1⟩)
                  have T3 : Sts W (fun _ => False) (w5.alloc (.cells (IV ⟨rep, (k : Int) + 1⟩) 42)) (spL s lg p g bk bs I D safe m ++ [rowR w5.heap.size (IV ⟨rep, (k : Int) + 1⟩)]) := T2.perm (List.perm_append_comm (l₁ := [_]))
                  have HT3 := Lib.hid T3; clear HT T2 T3
                  go_wp2_with fail
                  refine (Does.at (R := [rowR w5.heap.size (IV ⟨rep, (k : Int) + 1⟩)]) HKN.out HT3.out).mono ?_
                  clear HT3 HKN r11 l11
                  rintro e w6 ⟨rfl, T⟩
                  have T4 := (T.perm (List.perm_append_comm (l₂ := [_]))).drop
                  have HT := Lib.hid T4; clear T T4
                  go_wp2
                  go_roundw
                  case rel => exact ⟨k + 1, I1, D1, _, m1, by go_num, by omega, HI2.out, HT.out⟩
                  case measure => simp [intOf]; omega
end Go.Proofs.Ytpganpiidgkofaa
