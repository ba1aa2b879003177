/- Several texts in one. -/
import Derived.Test.YtpganpiidgkofaaZ33
import Derived.Test.YtpganpiidgkofaaZ10
/- LedgerTight: however much is added, there is room. -/
namespace Go.Proofs.Ytpganpiidgkofaa
open Go.RowKit
set_option linter.unusedVariables false
set_option maxRecDepth 20000
attribute [local go_sem] row_alloc row_drew row_drewN row_ext row_setCell row_setRow size_ext setRow_alloc setRow_drew loadOf storeOf piece_lit loadVal_at storeVal_at allOne_lit buildOf buildRes_some
attribute [local go_sem high] cell_alloc frozen_alloc setCell_alloc cell_ext frozen_ext cell_setRow frozen_setRow
attribute [local go_sem ↓] TDeed_ld0 TDeed_st0 TDeed_fd0 TDeed_bd0
attribute [local go_sem] TDeed_size TDeed_one TDeed_piece TDeed_c0 TDeed_c1 TDeed_c2 TDeed_c3 TDeed_c4 TDeed_c5 TDeed_set_kind TDeed_set_key TDeed_set_val TDeed_set_ver TDeed_set_ses TDeed_set_num TDeed_ld TDeed_st TDeed_f_kind TDeed_f_key TDeed_f_val TDeed_f_ver TDeed_f_ses TDeed_f_num TDeed_bd TDeed_fl TDeed_fl_kind TDeed_fl_key TDeed_fl_val TDeed_fl_ver TDeed_fl_ses TDeed_fl_num
attribute [local go_sem high] TDeed_eql TDeed_neq
attribute [local go_sem ↓] index_deps0 load_deps0 store_deps0
attribute [local go_sem] DV_piece DV_size DV_one index_deps load_deps store_deps
attribute [local go_sem high] TDeps_eql TDeps_neq
attribute [local go_sem ↓] TCall_ld0 TCall_st0 TCall_fd0 TCall_bd0
attribute [local go_sem] TCall_size TCall_one TCall_piece TCall_c0 TCall_c1 TCall_c2 TCall_c3 TCall_c4 TCall_c5 TCall_c6 TCall_c7 TCall_c8 TCall_c9 TCall_c10 TCall_c11 TCall_c12 TCall_c13 TCall_p_deed TCall_put_deed TCall_p_deps TCall_put_deps TCall_set_seq TCall_ld TCall_st TCall_f_deed TCall_f_deps TCall_f_seq TCall_bd TCall_fl TCall_fl_deed TCall_fl_deps TCall_fl_seq
attribute [local go_sem high] TCall_eql TCall_neq
attribute [local go_sem ↓] TItem_ld0 TItem_st0 TItem_fd0 TItem_bd0
attribute [local go_sem] TItem_size TItem_one TItem_piece TItem_c0 TItem_c1 TItem_set_rep TItem_set_num TItem_ld TItem_st TItem_f_rep TItem_f_num TItem_bd TItem_fl TItem_fl_rep TItem_fl_num
attribute [local go_sem high] TItem_eql TItem_neq
attribute [local go_sem ↓] TBallot_ld0 TBallot_st0 TBallot_fd0 TBallot_bd0
attribute [local go_sem] TBallot_size TBallot_one TBallot_piece TBallot_c0 TBallot_c1 TBallot_set_round TBallot_set_rep TBallot_ld TBallot_st TBallot_f_round TBallot_f_rep TBallot_bd TBallot_fl TBallot_fl_round TBallot_fl_rep
attribute [local go_sem high] TBallot_eql TBallot_neq
attribute [local go_sem ↓] TInst_ld0 TInst_st0 TInst_fd0 TInst_bd0
attribute [local go_sem] TInst_size TInst_one TInst_piece TInst_c0 TInst_c1 TInst_c2 TInst_c3 TInst_c4 TInst_c5 TInst_c6 TInst_c7 TInst_c8 TInst_c9 TInst_c10 TInst_c11 TInst_c12 TInst_c13 TInst_c14 TInst_c15 TInst_c16 TInst_c17 TInst_c18 TInst_c19 TInst_p_prom TInst_put_prom TInst_p_vote TInst_put_vote TInst_set_status TInst_p_call TInst_put_call TInst_set_same TInst_ld TInst_st TInst_f_prom TInst_f_vote TInst_f_status TInst_f_call TInst_f_same TInst_bd TInst_fl TInst_fl_prom TInst_fl_vote TInst_fl_status TInst_fl_call TInst_fl_same
attribute [local go_sem high] TInst_eql TInst_neq
attribute [local go_sem] led_n led_p led_g
structure TightI (D : List UInt8) (m : RowsM) : Prop where
  len : D.length ≤ 32768
  ok : RowsOk m
  good : RowsGood m
  n : m.n = 3
  one : ∀ r, (m.f r).length ≤ 1
theorem tight_ents {D : List UInt8} {m : RowsM} (h : TightI D m) : (ents m).length ≤ 7 := by
  have hk : ∀ r, (entsTo m r).length ≤ r := fun r => by
    induction r with
    | zero => simp [entsTo]
    | succ r ih =>
      have h1 := entR_len m r (topM m r).toNat
      have h2 : (topM m r).toNat ≤ 1 := by
        unfold topM
        have := h.one (r : Int).toNat
        split <;> omega
      simp only [entsTo, List.length_append]; omega
  exact hk 7
theorem tight_add {D : List UInt8} {m : RowsM} (h : TightI D m) (safe : Nat) (x : Item) (i : Inst) (hx : x.num = 1) :
    ((addM D safe m x i).2.2.2 = 0 ∨ (addM D safe m x i).2.2.2 = 1) ∧ TightI (addM D safe m x i).1 (addM D safe m x i).2.2.1 := by
  by_cases hg : goodI x m.n = true ∧ goodN i m.n = true
  · have hin := goodI_in hg.1 h.ok.n.2
    have hrl : (recOf (x, i)).length ≤ 310 := recOf_len hin.1 hin.2 (goodN_in hg.2 h.ok.n.2)
    have hrs := recsOf_len (h.good.ents h.ok)
    have hen := tight_ents h
    have hone : ∀ r, ((setM m x i).f r).length ≤ 1 := fun r => by
      unfold setM
      rw [if_pos hg.1]
      show (updF m.f x.rep.toNat _ r).length ≤ 1
      unfold updF
      split
      · rw [putL_len, hx]; have := h.one x.rep.toNat; omega
      · exact h.one r
    have hset : ∀ D' : List UInt8, D'.length ≤ 32768 → TightI D' (setM m x i) := fun D' hD' => ⟨hD', h.ok.set x i, h.good.set hg.1 hg.2, by rw [setM_n]; exact h.n, hone⟩
    by_cases ht : 32768 < D.length + (recOf (x, i)).length
    · have h1 : tightP D safe m (recOf (x, i)).length = (recsOf (ents m), (recsOf (ents m)).length, 0) := by
        unfold tightP tidyP; rw [if_pos ht, if_pos (by omega)]
      have e : addM D safe m x i = (recsOf (ents m) ++ recOf (x, i), (recsOf (ents m)).length, setM m x i, 0) := by
        unfold addM; rw [if_pos hg, h1, if_pos rfl, if_pos (by dsimp only; omega)]
      rw [e]
      exact ⟨.inl rfl, hset _ (by rw [List.length_append]; omega)⟩
    · have h1 : tightP D safe m (recOf (x, i)).length = (D, safe, 0) := by unfold tightP; rw [if_neg ht]
      have hl := h.len
      have e : addM D safe m x i = (D ++ recOf (x, i), safe, setM m x i, 0) := by
        unfold addM; rw [if_pos hg, h1, if_pos rfl, if_pos (by dsimp only; omega)]
      rw [e]
      exact ⟨.inl rfl, hset _ (by rw [List.length_append]; omega)⟩
  · have e : addM D safe m x i = (D, safe, m, 1) := by unfold addM; rw [if_neg hg]
    rw [e]
    exact ⟨.inr rfl, h⟩
theorem TightI.new : TightI [] ⟨3, fun _ => []⟩ := ⟨by simp, RowsOk.new (by omega), RowsGood.new 3, rfl, fun _ => by simp⟩
/-- What was last added in the last round. -/
def LastI (m : RowsM) (N : Nat) (last : Inst) : Prop := last = noInst ∨ getM m ⟨((N : Int) - 1) % 3, 1⟩ = some last
set_option maxHeartbeats 8000000 in
theorem law_tight (A : Option Addr) (c : Nat) (l : List Inst) (times : Int) (W : World) (hl : RowsIn W A 20 NV l) (ht : Fits times) :
    Calls Try.prog 3 #[.slice A l.length c, .int .i64 times] W fun e W' => e = .returned (.bool true) ∧ Below W.heap.size W W' := by
  have HT9 := alive9
  have hlen := hl.len
  unfold Fits at ht
  go_enter Try.func3, Try.ntmps3
  go_wp2_with fail
  refine (HT9 W).mono ?_
  rintro e w1 ⟨rfl, hb⟩
  by_cases h10 : (10 : Int) < (l.length : Int)
  · go_wp2
    go_ret
    exact ⟨rfl, hb⟩
  · by_cases h0 : times < 0
    · go_wp2
      go_ret
      exact ⟨rfl, hb⟩
    · by_cases h1 : 1000 < times
      · go_wp2
        go_ret
        exact ⟨rfl, hb⟩
      · have d10 : decide ((10 : Int) < (l.length : Int)) = false := by rw [decide_eq_false_iff_not]; exact h10
        have d0 : decide (times < 0) = false := by rw [decide_eq_false_iff_not]; exact h0
        have d1 : decide (1000 < times) = false := by rw [decide_eq_false_iff_not]; exact h1
        obtain ⟨N, rfl⟩ := Int.eq_ofNat_of_zero_le (show 0 ≤ times by omega)
        have T := (Sts.start0 W).pure hb
        clear hb HT9
        go_wp2_with fail
        refine (newT T).mono ?_
        clear T
        rintro e w2 ⟨rfl, T⟩
        go_wp2_with fail
        refine (openT T (by simp) 3 rfl).mono ?_
        clear T
        rintro e w3 ⟨lg, g, rfl, T⟩
        rw [goT_nil] at T
        generalize w1.heap.size = p at *
        have T : Sts W (fun _ => False) w3 (rowR lg (ledCells p g 3) :: plR p [] 0 :: rowsIR g ⟨3, fun _ => []⟩ :: []) := T
        have T := T.new (NV noInst) 39
        have HT := Lib.hid T; clear T
        go_wp2_with fail
        clear d10 d0 d1
        generalize hw4 : w3.alloc _ = w4
        have T : Sts W (fun _ => False) w4 (rowR w3.heap.size (NV noInst) :: ledL lg p g [] 0 ⟨3, fun _ => []⟩) := hw4 ▸ HT.out
        clear HT hw4
        generalize w3.heap.size = g8 at *
        have HT := Lib.hid T; clear T
        have hN : N ≤ 1000 := by omega
        have hll : l.length ≤ 10 := by omega
        clear h0 h1 h10 ht
        have HL := Lib.hid hl; clear hl
        go_loopw [9] (fun s wr => ∃ (k : Nat) (D : List UInt8) (safe : Nat) (m : RowsM) (last : Inst), k ≤ N ∧ s = .int .i64 k ∧ TightI D m ∧ (k < N → last = noInst) ∧ LastI m N last ∧ (k = 0 → m = ⟨3, fun _ => []⟩) ∧ Sts W (fun _ => False) wr (rowR g8 (NV last) :: ledL lg p g D safe m)) (fun s _ => N - (intOf s).toNat)
        case atStart => exact ⟨0, [], 0, _, noInst, Nat.zero_le _, rfl, TightI.new, fun _ => rfl, .inl rfl, fun _ => rfl, HT.out⟩
        case round =>
          clear HT
          obtain ⟨k, D, safe, m, last, hk, rfl, hI, hlast, hL, hm0, T⟩ := hrel
          by_cases hkN : k < N
          · have hln := hlast hkN
            subst hln
            have HT := Lib.hid T; have HI := Lib.hid hI
            clear T hI hlast hL hm0
            have hk9 : (k : Int) < (N : Int) := by omega
            have hk0 : (0 : Int) ≤ (k : Int) := by omega
            go_wp2_with fail
            go_loopw [40] (fun s wr => ∃ (j : Nat) (D : List UInt8) (safe : Nat) (m : RowsM) (last : Inst), j ≤ l.length ∧ s = .int .i64 j ∧ TightI D m ∧ (k + 1 < N → last = noInst) ∧ LastI m N last ∧ Sts W (fun _ => False) wr (rowR g8 (NV last) :: ledL lg p g D safe m)) (fun s _ => l.length - (intOf s).toNat)
            case atStart => exact ⟨0, D, safe, m, noInst, Nat.zero_le _, rfl, HI.out, fun _ => rfl, .inl rfl, HT.out⟩
            case round =>
              clear HT HI
              obtain ⟨j, D, safe, m, last, hj, rfl, hI, hlast, hL, T⟩ := hrel
              by_cases hjl : j < l.length
              · have hjl2 : (j : Int) < (l.length : Int) := by omega
                have hj0 : (0 : Int) ≤ (j : Int) := by omega
                have hld : ∀ a, A = some a → loadVal Try.prog 39 20 wr (.pointer (some (a.add (j * 20)))) = .ok (.agg (NV l[j])) wr := fun a ha => HL.out.load (P := Try.prog) (T := 39) (fun _ => rfl) TInst_und rfl (by kernel_rfl) T.below ha hjl
                cases hA : A with
                | none => have := HL.out.nil hA; rw [this] at hjl; simp at hjl
                | some a =>
                  have hld := hld a hA
                  subst hA
                  have hadd := addD lg p g D safe m hI.ok hI.good (by have := hI.len; omega) ⟨(k : Int) % 3, 1⟩ l[j]
                  have hT := tight_add hI safe ⟨(k : Int) % 3, 1⟩ l[j] rfl
                  have T2 := T.new (NV l[j]) 39
                  have HT2 := Lib.hid T2; have HADD := Lib.hid hadd
                  clear T T2 hadd
                  have hse : ∀ e, (addM D safe m ⟨(k : Int) % 3, 1⟩ l[j]).2.2.2 = e → e = 0 → getM (addM D safe m ⟨(k : Int) % 3, 1⟩ l[j]).2.2.1 ⟨(k : Int) % 3, 1⟩ = some l[j] := fun e h h0 => by
                    rw [addM_rows, if_pos (h.trans h0)]
                    exact getM_set_same _ (addM_good (h.trans h0)).1
                  have hno : ∀ e, (addM D safe m ⟨(k : Int) % 3, 1⟩ l[j]).2.2.2 = e → e = 1 → (addM D safe m ⟨(k : Int) % 3, 1⟩ l[j]).2.2.1 = m := fun e h h0 => by
                    rw [addM_rows, if_neg (by rw [h, h0]; simp)]
                  generalize addM D safe m ⟨(k : Int) % 3, 1⟩ l[j] = q at *
                  obtain ⟨D1, s1, m1, e1⟩ := q
                  dsimp only at hT hse hno HADD
                  obtain ⟨he, hI1⟩ := hT
                  have hl1 := hI1.len
                  have HI1 := Lib.hid hI1; have HSE := Lib.hid hse; have HNO := Lib.hid hno; have HLA := Lib.hid hL; have HLS := Lib.hid hlast
                  clear hI1 hse hno hI hL hlast
                  go_wp2_with fail
                  refine (Does.at (R := [rowR wr.heap.size (NV l[j]), rowR g8 (NV last)]) HADD.out (HT2.out.ordr [2, 3, 4, 0, 1])).mono ?_
                  clear HADD HT2 hld
                  rintro e w5 ⟨rfl, T⟩
                  generalize wr.heap.size = g11 at *
                  have T : Sts W (fun _ => False) w5 (plR p D1 s1 :: rowR g11 (NV l[j]) :: rowR g8 (NV last) :: rowR lg (ledCells p g m1.n) :: rowsIR g m1 :: []) := T.ordr [1, 3, 4, 0, 2]
                  have hln := lenT T
                  have HLN := Lib.hid hln; have HT := Lib.hid T; clear hln T
                  have hl2 : ¬ (32768 : Int) < (D1.length : Int) := by omega
                  rcases he with rfl | rfl
                  · go_wp2_with fail
                    refine HLN.out.mono ?_
                    clear HLN
                    rintro e w6 ⟨rfl, rfl⟩
                    by_cases hkl : (k : Int) = (N : Int) - 1
                    · have hq : ((k : Int) == (N : Int) - 1) = true := by simp [hkl]
                      have HKL := Lib.hid hkl; clear hkl
                      have T := HT.out.ord [1, 2, 3, 0, 4]
                      have r11 := T.row; have r8 := T.row1; have l11 := row_lt r11; have l8 := row_lt r8
                      have T2 := ((T.ord [1, 0]).setRow (NV l[j])).swap.drop
                      have HT2 := Lib.hid T2; clear T T2 HT
                      go_wp2
                      go_roundw
                      case rel =>
                        refine ⟨j + 1, D1, s1, m1, l[j], by omega, by go_num, HI1.out, fun h => by have := HKL.out; omega, .inr ?_, HT2.out.ordr [0, 1, 2, 3]⟩
                        have := HSE.out 0 rfl rfl
                        rw [HKL.out] at this
                        exact this
                      case measure => simp [intOf]; omega
                    · have hq : ((k : Int) == (N : Int) - 1) = false := by simp [hkl]
                      have hls := HLS.out (by omega)
                      subst hls
                      have T2 := HT.out.ord [2, 3, 0, 4, 1]
                      have T3 := Sts.nilTail (M := [rowR g8 (NV noInst), rowR lg (ledCells p g m1.n), plR p D1 s1, rowsIR g m1]) T2
                      have HT3 := Lib.hid T3; clear T2 T3 HT
                      go_wp2
                      go_roundw
                      case rel => exact ⟨j + 1, D1, s1, m1, noInst, by omega, by go_num, HI1.out, fun _ => rfl, .inl rfl, HT3.out⟩
                      case measure => simp [intOf]; omega
                  · have hmm := HNO.out 1 rfl rfl
                    subst hmm
                    have T2 := HT.out.ord [2, 3, 0, 4, 1]
                    have T3 := Sts.nilTail (M := [rowR g8 (NV last), rowR lg (ledCells p g m1.n), plR p D1 s1, rowsIR g m1]) T2
                    have HT3 := Lib.hid T3; clear T2 T3 HT
                    go_wp2_with fail
                    refine HLN.out.mono ?_
                    clear HLN
                    rintro e w6 ⟨rfl, rfl⟩
                    go_wp2
                    go_roundw
                    case rel => exact ⟨j + 1, D1, s1, m1, last, by omega, by go_num, HI1.out, HLS.out, HLA.out, HT3.out⟩
                    case measure => simp [intOf]; omega
              · obtain rfl : j = l.length := by omega
                have HT := Lib.hid T; have HI := Lib.hid hI; have HLA := Lib.hid hL; have HLS := Lib.hid hlast
                clear T hI hlast hL
                go_wp2
                go_roundw
                case rel => exact ⟨k + 1, D, safe, m, last, by omega, by go_num, HI.out, HLS.out, HLA.out, fun h => by omega, HT.out⟩
                case measure => simp [intOf]; omega
          · obtain rfl : k = N := by omega
            have HT := Lib.hid T; have HI := Lib.hid hI; have HLA := Lib.hid hL; have HM0 := Lib.hid hm0
            clear T hI hlast hL hm0
            by_cases hz : k = 0
            · subst hz
              have hm0 := HM0.out rfl
              subst hm0
              have hat := ledAtR lg p g D safe ⟨3, fun _ => []⟩ (RowsOk.new (by omega)) ⟨0, 1⟩
              rw [getM_new] at hat
              have HAT := Lib.hid hat; clear hat
              have he := eqA_refl (NV noInst)
              go_wp2_with fail
              refine (Reads.at (R := [rowR g8 (NV last)]) HAT.out (HT.out.ordr [1, 2, 3, 0])).mono ?_
              rintro e w5 ⟨rfl, hb⟩
              have hbb := (HT.out.pure hb).below
              have HB := Lib.hid hbb; clear hbb hb HT HAT HI
              go_wp2
              go_ret
              exact ⟨rfl, HB.out⟩
            · have hat := ledAtR lg p g D safe m HI.out.ok ⟨((k : Int) - 1) % 3, 1⟩
              have hk1 : (1 : Int) ≤ (k : Int) := by omega
              have hz0 : ((k : Int) == 0) = false := by simp; omega
              have HAT := Lib.hid hat; clear hat
              have hw1 : (IntKind.i64.wrap ((k : Int) - 1)).tmod 3 = ((k : Int) - 1) % 3 := by
                have e : IntKind.i64.wrap ((k : Int) - 1) = (k : Int) - 1 := by rw [IntKind.wrap_i64]; omega
                rw [e, Int.tmod_eq_emod_of_nonneg (by omega)]
              have HW := Lib.hid hw1; clear hw1
              go_wp2_with fail
              have S0 := HT.out.drew.row
              refine wp_region_held_drew (S := fun W' => row? W' g8 = some (NV last)) (by kernel_rfl) S0 (fun hHeld => ?_)
              clear S0
              refine wpAnyH_take (i := 0) (oi := _) (v := ?_) rfl (by kernel_rfl) (by kernel_rfl) (by kernel_rfl) (fun _ _ _ h => h) (Or.inl ⟨by kernel_rfl, ?_⟩) (by assumption) ?_
              rotate_left
              · (intro w hSw; (try dsimp only at hSw); go_simp; try (with_reducible rfl))
              simp only [Act.put, List.getElem_toArray, List.getElem_cons_zero, List.setIfInBounds_toArray, List.set_cons_zero, List.set_cons_succ]
              refine wpAnyH_take (i := 1) (oi := _) (v := ?_) rfl (by kernel_rfl) (by kernel_rfl) (by kernel_rfl) (fun _ _ _ h => h) (Or.inl ⟨by kernel_rfl, ?_⟩) (by assumption) ?_
              rotate_left
              · (intro w hSw; (try dsimp only at hSw); go_simp; try (with_reducible rfl))
              simp only [Act.put, List.getElem_toArray, List.getElem_cons_succ, List.getElem_cons_zero, List.setIfInBounds_toArray, List.set_cons_zero, List.set_cons_succ]
              refine wpAnyH_take (i := 2) (oi := _) (v := ?_) rfl (by kernel_rfl) (by kernel_rfl) (by kernel_rfl) (fun _ _ _ h => h) (Or.inl ⟨by kernel_rfl, ?_⟩) (by assumption) ?_
              rotate_left
              · (intro w hSw; (try dsimp only at hSw); go_simp; try (with_reducible rfl))
              simp only [Act.put, List.getElem_toArray, List.getElem_cons_succ, List.getElem_cons_zero, List.setIfInBounds_toArray, List.set_cons_zero, List.set_cons_succ]
              refine wpAnyH_take (i := 3) (oi := _) (v := ?_) rfl (by kernel_rfl) (by kernel_rfl) (by kernel_rfl) (fun _ _ _ h => h) (Or.inl ⟨by kernel_rfl, ?_⟩) (by assumption) ?_
              rotate_left
              · (intro w hSw; (try dsimp only at hSw); go_simp; try (with_reducible rfl))
              simp only [Act.put, List.getElem_toArray, List.getElem_cons_succ, List.getElem_cons_zero, List.setIfInBounds_toArray, List.set_cons_zero, List.set_cons_succ]
              refine wpAnyH_take (i := 4) (oi := _) (v := ?_) rfl (by kernel_rfl) (by kernel_rfl) (by kernel_rfl) (fun _ _ _ h => h) (Or.inl ⟨by kernel_rfl, ?_⟩) (by assumption) ?_
              rotate_left
              · (intro w hSw; (try dsimp only at hSw); go_simp; try (with_reducible rfl))
              simp only [Act.put, List.getElem_toArray, List.getElem_cons_succ, List.getElem_cons_zero, List.setIfInBounds_toArray, List.set_cons_zero, List.set_cons_succ]
              refine wpAnyH_take (i := 6) (oi := _) (v := ?_) rfl (by kernel_rfl) (by kernel_rfl) (by kernel_rfl) (fun _ _ _ h => h) (Or.inl ⟨by kernel_rfl, ?_⟩) (by assumption) ?_
              rotate_left
              · (intro w hSw; (try dsimp only at hSw); go_simp; try (with_reducible rfl))
              simp only [Act.put, List.getElem_toArray, List.getElem_cons_succ, List.getElem_cons_zero, List.setIfInBounds_toArray, List.set_cons_zero, List.set_cons_succ]
              refine wpAnyH_ready (rs := [5]) (by kernel_rfl) (by simp) ?_
              refine AllReadyH.cons (o := _) rfl (fun K hK => ?_) AllReadyH.nil
              go_simp
              rw [HW.out]
              refine (Reads.at (R := [rowR g8 (NV last)]) HAT.out (HT.out.drew.ordr [1, 2, 3, 0])).mono ?_
              rintro e w5 ⟨rfl, hb⟩
              have T := HT.out.drew.pure hb
              have HT2 := Lib.hid T
              clear hb HT HAT HI T
              refine hK.out _ _ ?_ (fun hHeld => ?_)
              · exact HT2.out.row
              clear hK K
              rcases HLA.out with hla | hla
              · subst hla
                have he := eqA_refl (NV noInst)
                generalize (getM m ⟨((k : Int) - 1) % 3, 1⟩).getD noInst = gi
                cases heq : eqA (NV gi) (NV noInst)
                · refine wpAnyH_take (i := 7) (oi := _) (v := ?_) rfl (by kernel_rfl) (by kernel_rfl) (by kernel_rfl) (fun _ _ _ h => h) (Or.inl ⟨by kernel_rfl, ?_⟩) (by assumption) ?_
                  rotate_left
                  · (intro w hSw; (try dsimp only at hSw); go_simp; try (with_reducible rfl))
                  simp only [Act.put, List.getElem_toArray, List.getElem_cons_succ, List.getElem_cons_zero, List.setIfInBounds_toArray, List.set_cons_zero, List.set_cons_succ]
                  refine wpAnyH_take (i := 8) (oi := _) (v := ?_) rfl (by kernel_rfl) (by kernel_rfl) (by kernel_rfl) (fun _ _ _ h => h) (Or.inl ⟨by kernel_rfl, ?_⟩) (by assumption) ?_
                  rotate_left
                  · (intro w hSw; (try dsimp only at hSw); go_simp; try (with_reducible rfl))
                  simp only [Act.put, List.getElem_toArray, List.getElem_cons_succ, List.getElem_cons_zero, List.setIfInBounds_toArray, List.set_cons_zero, List.set_cons_succ]
                  refine wpAnyH_take (i := 9) (oi := _) (v := ?_) rfl (by kernel_rfl) (by kernel_rfl) (by kernel_rfl) (fun _ _ _ h => h) (Or.inl ⟨by kernel_rfl, ?_⟩) (by assumption) ?_
                  rotate_left
                  · (intro w hSw; (try dsimp only at hSw); go_simp; try (with_reducible rfl))
                  simp only [Act.put, List.getElem_toArray, List.getElem_cons_succ, List.getElem_cons_zero, List.setIfInBounds_toArray, List.set_cons_zero, List.set_cons_succ]
                  refine wpAnyH_take (i := 10) (oi := _) (v := ?_) rfl (by kernel_rfl) (by kernel_rfl) (by kernel_rfl) (fun _ _ _ h => h) (Or.inl ⟨by kernel_rfl, ?_⟩) (by assumption) ?_
                  rotate_left
                  · (intro w hSw; (try dsimp only at hSw); go_simp; try (with_reducible rfl))
                  simp only [Act.put, List.getElem_toArray, List.getElem_cons_succ, List.getElem_cons_zero, List.setIfInBounds_toArray, List.set_cons_zero, List.set_cons_succ]
                  refine wpAnyH_take (i := 11) (oi := _) (v := ?_) rfl (by kernel_rfl) (by kernel_rfl) (by kernel_rfl) (fun _ _ _ h => h) (Or.inl ⟨by kernel_rfl, ?_⟩) (by assumption) ?_
                  rotate_left
                  · (intro w hSw; (try dsimp only at hSw); go_simp; try (with_reducible rfl))
                  simp only [Act.put, List.getElem_toArray, List.getElem_cons_succ, List.getElem_cons_zero, List.setIfInBounds_toArray, List.set_cons_zero, List.set_cons_succ]
                  refine wpAnyH_take (i := 12) (oi := _) (v := ?_) rfl (by kernel_rfl) (by kernel_rfl) (by kernel_rfl) (fun _ _ _ h => h) (Or.inl ⟨by kernel_rfl, ?_⟩) (by assumption) ?_
                  rotate_left
                  · (intro w hSw; (try dsimp only at hSw); go_simp; try (with_reducible rfl))
                  simp only [Act.put, List.getElem_toArray, List.getElem_cons_succ, List.getElem_cons_zero, List.setIfInBounds_toArray, List.set_cons_zero, List.set_cons_succ]
                  refine wpAnyH_take (i := 13) (oi := _) (v := ?_) rfl (by kernel_rfl) (by kernel_rfl) (by kernel_rfl) (fun _ _ _ h => h) (Or.inl ⟨by kernel_rfl, ?_⟩) (by assumption) ?_
                  rotate_left
                  · (intro w hSw; (try dsimp only at hSw); go_simp; try (with_reducible rfl))
                  simp only [Act.put, List.getElem_toArray, List.getElem_cons_succ, List.getElem_cons_zero, List.setIfInBounds_toArray, List.set_cons_zero, List.set_cons_succ]
                  refine wpAnyH_done (by kernel_rfl) ?_ _
                  have hbb := HT2.out.below
                  have HB := Lib.hid hbb; clear hbb HT2
                  simp only [Exit.then]
                  go_wp2
                  go_ret
                  exact ⟨rfl, HB.out⟩
                · refine wpAnyH_take (i := 7) (oi := _) (v := ?_) rfl (by kernel_rfl) (by kernel_rfl) (by kernel_rfl) (fun _ _ _ h => h) (Or.inl ⟨by kernel_rfl, ?_⟩) (by assumption) ?_
                  rotate_left
                  · (intro w hSw; (try dsimp only at hSw); go_simp; try (with_reducible rfl))
                  simp only [Act.put, List.getElem_toArray, List.getElem_cons_succ, List.getElem_cons_zero, List.setIfInBounds_toArray, List.set_cons_zero, List.set_cons_succ]
                  refine wpAnyH_take (i := 8) (oi := _) (v := ?_) rfl (by kernel_rfl) (by kernel_rfl) (by kernel_rfl) (fun _ _ _ h => h) (Or.inl ⟨by kernel_rfl, ?_⟩) (by assumption) ?_
                  rotate_left
                  · (intro w hSw; (try dsimp only at hSw); go_simp; try (with_reducible rfl))
                  simp only [Act.put, List.getElem_toArray, List.getElem_cons_succ, List.getElem_cons_zero, List.setIfInBounds_toArray, List.set_cons_zero, List.set_cons_succ]
                  refine wpAnyH_take (i := 9) (oi := _) (v := undef) rfl (by kernel_rfl) (by kernel_rfl) (by kernel_rfl) (fun _ _ _ h => h) (Or.inr ⟨by kernel_rfl, rfl⟩) (by assumption) ?_
                  simp only [Act.put, List.getElem_toArray, List.getElem_cons_succ, List.getElem_cons_zero, List.setIfInBounds_toArray, List.set_cons_zero, List.set_cons_succ]
                  refine wpAnyH_take (i := 10) (oi := _) (v := undef) rfl (by kernel_rfl) (by kernel_rfl) (by kernel_rfl) (fun _ _ _ h => h) (Or.inr ⟨by kernel_rfl, rfl⟩) (by assumption) ?_
                  simp only [Act.put, List.getElem_toArray, List.getElem_cons_succ, List.getElem_cons_zero, List.setIfInBounds_toArray, List.set_cons_zero, List.set_cons_succ]
                  refine wpAnyH_take (i := 11) (oi := _) (v := undef) rfl (by kernel_rfl) (by kernel_rfl) (by kernel_rfl) (fun _ _ _ h => h) (Or.inr ⟨by kernel_rfl, rfl⟩) (by assumption) ?_
                  simp only [Act.put, List.getElem_toArray, List.getElem_cons_succ, List.getElem_cons_zero, List.setIfInBounds_toArray, List.set_cons_zero, List.set_cons_succ]
                  refine wpAnyH_take (i := 12) (oi := _) (v := ?_) rfl (by kernel_rfl) (by kernel_rfl) (by kernel_rfl) (fun _ _ _ h => h) (Or.inl ⟨by kernel_rfl, ?_⟩) (by assumption) ?_
                  rotate_left
                  · (intro w hSw; (try dsimp only at hSw); go_simp; try (with_reducible rfl))
                  simp only [Act.put, List.getElem_toArray, List.getElem_cons_succ, List.getElem_cons_zero, List.setIfInBounds_toArray, List.set_cons_zero, List.set_cons_succ]
                  refine wpAnyH_take (i := 13) (oi := _) (v := ?_) rfl (by kernel_rfl) (by kernel_rfl) (by kernel_rfl) (fun _ _ _ h => h) (Or.inl ⟨by kernel_rfl, ?_⟩) (by assumption) ?_
                  rotate_left
                  · (intro w hSw; (try dsimp only at hSw); go_simp; try (with_reducible rfl))
                  simp only [Act.put, List.getElem_toArray, List.getElem_cons_succ, List.getElem_cons_zero, List.setIfInBounds_toArray, List.set_cons_zero, List.set_cons_succ]
                  refine wpAnyH_done (by kernel_rfl) ?_ _
                  have hbb := HT2.out.below
                  have HB := Lib.hid hbb; clear hbb HT2
                  simp only [Exit.then]
                  go_wp2
                  go_ret
                  exact ⟨rfl, HB.out⟩
              · rw [hla]
                simp only [Option.getD]
                have he := eqA_refl (NV last)
                refine wpAnyH_take (i := 7) (oi := _) (v := ?_) rfl (by kernel_rfl) (by kernel_rfl) (by kernel_rfl) (fun _ _ _ h => h) (Or.inl ⟨by kernel_rfl, ?_⟩) (by assumption) ?_
                rotate_left
                · (intro w hSw; (try dsimp only at hSw); go_simp; try (with_reducible rfl))
                simp only [Act.put, List.getElem_toArray, List.getElem_cons_succ, List.getElem_cons_zero, List.setIfInBounds_toArray, List.set_cons_zero, List.set_cons_succ]
                refine wpAnyH_take (i := 8) (oi := _) (v := ?_) rfl (by kernel_rfl) (by kernel_rfl) (by kernel_rfl) (fun _ _ _ h => h) (Or.inl ⟨by kernel_rfl, ?_⟩) (by assumption) ?_
                rotate_left
                · (intro w hSw; (try dsimp only at hSw); go_simp; try (with_reducible rfl))
                simp only [Act.put, List.getElem_toArray, List.getElem_cons_succ, List.getElem_cons_zero, List.setIfInBounds_toArray, List.set_cons_zero, List.set_cons_succ]
                refine wpAnyH_take (i := 9) (oi := _) (v := undef) rfl (by kernel_rfl) (by kernel_rfl) (by kernel_rfl) (fun _ _ _ h => h) (Or.inr ⟨by kernel_rfl, rfl⟩) (by assumption) ?_
                simp only [Act.put, List.getElem_toArray, List.getElem_cons_succ, List.getElem_cons_zero, List.setIfInBounds_toArray, List.set_cons_zero, List.set_cons_succ]
                refine wpAnyH_take (i := 10) (oi := _) (v := undef) rfl (by kernel_rfl) (by kernel_rfl) (by kernel_rfl) (fun _ _ _ h => h) (Or.inr ⟨by kernel_rfl, rfl⟩) (by assumption) ?_
                simp only [Act.put, List.getElem_toArray, List.getElem_cons_succ, List.getElem_cons_zero, List.setIfInBounds_toArray, List.set_cons_zero, List.set_cons_succ]
                refine wpAnyH_take (i := 11) (oi := _) (v := undef) rfl (by kernel_rfl) (by kernel_rfl) (by kernel_rfl) (fun _ _ _ h => h) (Or.inr ⟨by kernel_rfl, rfl⟩) (by assumption) ?_
                simp only [Act.put, List.getElem_toArray, List.getElem_cons_succ, List.getElem_cons_zero, List.setIfInBounds_toArray, List.set_cons_zero, List.set_cons_succ]
                refine wpAnyH_take (i := 12) (oi := _) (v := ?_) rfl (by kernel_rfl) (by kernel_rfl) (by kernel_rfl) (fun _ _ _ h => h) (Or.inl ⟨by kernel_rfl, ?_⟩) (by assumption) ?_
                rotate_left
                · (intro w hSw; (try dsimp only at hSw); go_simp; try (with_reducible rfl))
                simp only [Act.put, List.getElem_toArray, List.getElem_cons_succ, List.getElem_cons_zero, List.setIfInBounds_toArray, List.set_cons_zero, List.set_cons_succ]
                refine wpAnyH_take (i := 13) (oi := _) (v := ?_) rfl (by kernel_rfl) (by kernel_rfl) (by kernel_rfl) (fun _ _ _ h => h) (Or.inl ⟨by kernel_rfl, ?_⟩) (by assumption) ?_
                rotate_left
                · (intro w hSw; (try dsimp only at hSw); go_simp; try (with_reducible rfl))
                simp only [Act.put, List.getElem_toArray, List.getElem_cons_succ, List.getElem_cons_zero, List.setIfInBounds_toArray, List.set_cons_zero, List.set_cons_succ]
                refine wpAnyH_done (by kernel_rfl) ?_ _
                have hbb := HT2.out.below
                have HB := Lib.hid hbb; clear hbb HT2
                simp only [Exit.then]
                go_wp2
                go_ret
                exact ⟨rfl, HB.out⟩
end Go.Proofs.Ytpganpiidgkofaa
