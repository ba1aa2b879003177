/- Several texts in one. -/
import Derived.Test.YtfgacjglfdehbaaDoorZ39
import Derived.Test.YtfgacjglfdehbaaDoorZ23
import Derived.Test.YtfgacjglfdehbaaDoorZ32
import Derived.Test.YtfgacjglfdehbaaDoorZ15
/- VoterOnce: the same message once more, at once, has the same answer, and changes nothing. -/
namespace Go.Proofs.YtfgacjglfdehbaaDoor
open Go.RowKit
set_option linter.unusedVariables false
set_option maxRecDepth 20000
attribute [local go_sem] row_alloc row_drew row_drewN row_ext row_setCell row_setRow size_ext setRow_alloc setRow_drew loadOf storeOf piece_lit loadVal_at storeVal_at allOne_lit buildOf buildRes_some
attribute [local go_sem high] cell_alloc frozen_alloc setCell_alloc cell_ext frozen_ext cell_setRow frozen_setRow
attribute [local go_sem ↓] TDeed_ld0 TDeed_st0 TDeed_fd0 TDeed_bd0
attribute [local go_sem] TDeed_size TDeed_one TDeed_piece TDeed_c0 TDeed_c1 TDeed_c2 TDeed_c3 TDeed_c4 TDeed_c5 TDeed_set_kind TDeed_set_key TDeed_set_val TDeed_set_ver TDeed_set_ses TDeed_set_num TDeed_ld TDeed_st TDeed_f_kind TDeed_f_key TDeed_f_val TDeed_f_ver TDeed_f_ses TDeed_f_num TDeed_bd TDeed_fl TDeed_fl_kind TDeed_fl_key TDeed_fl_val TDeed_fl_ver TDeed_fl_ses TDeed_fl_num
attribute [local go_sem high] TDeed_eql TDeed_neq
attribute [local go_sem ↓] index_deps0 load_deps0 store_deps0
attribute [local go_sem] DV_piece DV_size DV_one index_deps load_deps store_deps
attribute [local go_sem high] TDeps_eql TDeps_neq
attribute [local go_sem ↓] TCall_ld0 TCall_st0 TCall_fd0 TCall_bd0
attribute [local go_sem] TCall_size TCall_one TCall_piece TCall_c0 TCall_c1 TCall_c2 TCall_c3 TCall_c4 TCall_c5 TCall_c6 TCall_c7 TCall_c8 TCall_c9 TCall_c10 TCall_c11 TCall_c12 TCall_c13 TCall_p_deed TCall_put_deed TCall_p_deps TCall_put_deps TCall_set_seq TCall_ld TCall_st TCall_f_deed TCall_f_deps TCall_f_seq TCall_bd TCall_fl TCall_fl_deed TCall_fl_deps TCall_fl_seq
attribute [local go_sem high] TCall_eql TCall_neq
attribute [local go_sem ↓] TItem_ld0 TItem_st0 TItem_fd0 TItem_bd0
attribute [local go_sem] TItem_size TItem_one TItem_piece TItem_c0 TItem_c1 TItem_set_rep TItem_set_num TItem_ld TItem_st TItem_f_rep TItem_f_num TItem_bd TItem_fl TItem_fl_rep TItem_fl_num
attribute [local go_sem high] TItem_eql TItem_neq
attribute [local go_sem ↓] TBallot_ld0 TBallot_st0 TBallot_fd0 TBallot_bd0
attribute [local go_sem] TBallot_size TBallot_one TBallot_piece TBallot_c0 TBallot_c1 TBallot_set_round TBallot_set_rep TBallot_ld TBallot_st TBallot_f_round TBallot_f_rep TBallot_bd TBallot_fl TBallot_fl_round TBallot_fl_rep
attribute [local go_sem high] TBallot_eql TBallot_neq
attribute [local go_sem ↓] TInst_ld0 TInst_st0 TInst_fd0 TInst_bd0
attribute [local go_sem] TInst_size TInst_one TInst_piece TInst_c0 TInst_c1 TInst_c2 TInst_c3 TInst_c4 TInst_c5 TInst_c6 TInst_c7 TInst_c8 TInst_c9 TInst_c10 TInst_c11 TInst_c12 TInst_c13 TInst_c14 TInst_c15 TInst_c16 TInst_c17 TInst_c18 TInst_c19 TInst_p_prom TInst_put_prom TInst_p_vote TInst_put_vote TInst_set_status TInst_p_call TInst_put_call TInst_set_same TInst_ld TInst_st TInst_f_prom TInst_f_vote TInst_f_status TInst_f_call TInst_f_same TInst_bd TInst_fl TInst_fl_prom TInst_fl_vote TInst_fl_status TInst_fl_call TInst_fl_same
attribute [local go_sem high] TInst_eql TInst_neq
attribute [local go_sem ↓] TMsg_ld0 TMsg_st0 TMsg_fd0 TMsg_bd0
attribute [local go_sem] TMsg_size TMsg_one TMsg_piece TMsg_c0 TMsg_c1 TMsg_c2 TMsg_c3 TMsg_c4 TMsg_c5 TMsg_c6 TMsg_c7 TMsg_c8 TMsg_c9 TMsg_c10 TMsg_c11 TMsg_c12 TMsg_c13 TMsg_c14 TMsg_c15 TMsg_c16 TMsg_c17 TMsg_c18 TMsg_c19 TMsg_c20 TMsg_c21 TMsg_c22 TMsg_c23 TMsg_c24 TMsg_set_kind TMsg_set_frm TMsg_set_to TMsg_p_item TMsg_put_item TMsg_p_bal TMsg_put_bal TMsg_p_vote TMsg_put_vote TMsg_set_status TMsg_set_same TMsg_p_call TMsg_put_call TMsg_ld TMsg_st TMsg_f_kind TMsg_f_frm TMsg_f_to TMsg_f_item TMsg_f_bal TMsg_f_vote TMsg_f_status TMsg_f_same TMsg_f_call TMsg_bd TMsg_fl TMsg_fl_kind TMsg_fl_frm TMsg_fl_to TMsg_fl_item TMsg_fl_bal TMsg_fl_vote TMsg_fl_status TMsg_fl_same TMsg_fl_call
attribute [local go_sem high] TMsg_eql TMsg_neq
theorem grow_once {m : RowsM} (hm : RowsOk m) (self : Int) (x : Msg) : growV (afterM m self x) x.item (ansM (afterM m self x) self x).now = 0 := by
  have h1 := (ans_once hm self x).2
  generalize afterM m self x = m2 at *
  rcases afterM_cases m2 self x with ⟨h, -⟩ | ⟨h, e⟩
  · unfold growV; rw [if_pos h]
  · rw [h1] at e
    by_cases hg : goodI x.item m2.n = true
    · have h2 := congrArg (fun m => atM m x.item) e
      simp only [atM_set _ hg] at h2
      rw [h2, eqA_refl] at h
      cases h
    · have hb : goodM x m2.n = false := by
        cases hq : goodM x m2.n with
        | false => rfl
        | true => exact absurd (goodM_in hq).1 hg
      rw [ans_bad (.inr hb)] at h
      rw [show (noAns (atM m2 x.item)).now = atM m2 x.item from rfl, eqA_refl] at h
      cases h
set_option maxHeartbeats 16000000 in
theorem law_once (n self : Int) (A : Option Addr) (c : Nat) (l : List Msg) (t : TypeId) (W : World) (h0 : W.heap[0]? = some (.cells KndV t (0, 0))) (hx : RowsIn W A 25 MV l) (hf : FitV l) :
    Calls Tryd.prog 6 #[.int .i64 n, .int .i64 self, .slice A l.length c] W fun e W' => e = .returned (.bool true) ∧ Below W.heap.size W W' := by
  have T := Sts.startK h0
  have HB : Hid (∀ W', Sts W (fun k => k = 0) W' [kndR t] → Below W.heap.size W W') := Lib.hid fun W' T => T.belowK h0
  have hll := hx.len
  go_enter Tryd.func6, Tryd.ntmps6
  go_wp2_with fail
  refine (alive15 T).mono ?_
  clear T
  rintro e w1 ⟨rfl, T⟩
  go_wp2_with fail
  refine (great15 n A c l W w1 _ _ HB.out hx hf T).mono ?_
  clear T
  rintro e w2 ⟨rfl, T⟩
  cases hg : greatV n l
  case true =>
    have HT := Lib.hid T; clear T
    go_wp2
    go_ret
    exact ⟨rfl, HB.out _ HT.out⟩
  case false =>
    obtain ⟨hs, h80⟩ := great_V hg
    have HX := Lib.hid hx; clear hx
    go_wp2_with fail
    refine (newT T).mono ?_
    clear T
    rintro e w3 ⟨rfl, T⟩
    generalize w2.heap.size = p at *
    go_wp2_with fail
    refine (spOpenT T (by simp) n hs).mono ?_
    clear T
    rintro e w4 ⟨s, lg, g, bk, bs, rfl, T⟩
    have hv := VotI.open hs
    generalize idxF (ents (mK n (goT n []))) = I0 at *
    generalize mK n (goT n []) = m0 at *
    generalize openD n [] = D0 at *
    generalize openF n [] 0 = f0 at *
    have T : Sts W (fun k => k = 0) w4 (spL s lg p g bk bs I0 D0 f0 m0 ++ [kndR t]) := T
    have HT := Lib.hid T; have HV := Lib.hid hv; clear T hv
    go_wp2_with fail
    go_loopw [29] (fun i wr => ∃ (j : Nat) (I : Idx) (D : List UInt8) (safe : Nat) (m : RowsM), j ≤ l.length ∧ i = .int .i64 j ∧ VotI n j I D m ∧ Sts W (fun k => k = 0) wr (spL s lg p g bk bs I D safe m ++ [kndR t])) (fun i _ => l.length - (intOf i).toNat)
    case atStart => exact ⟨0, I0, D0, f0, m0, by omega, rfl, HV.out, HT.out⟩
    case round =>
      clear HT HV
      obtain ⟨j, I, D, safe, m, hj0, rfl, hI, T⟩ := hrel
      by_cases hjl : j < l.length
      · cases A with
        | none => have := HX.out.nil rfl; subst this; simp at hjl
        | some a =>
          have TK : Sts W (fun k => k = 0) wr [kndR t] := T.drop.drop.drop.drop
          have hld := HX.out.load (P := Tryd.prog) (T := 34) TMsg_size TMsg_und rfl (by kernel_rfl) (HB.out _ TK) rfl hjl
          clear TK
          generalize l[j] = x at *
          have T1 : Sts W (fun k => k = 0) wr (idxR s lg bk bs I :: rowR lg (ledCells p g m.n) :: plR p D safe :: rowsIR g m :: [kndR t]) := T
          have T2 := (T1.new (MV x) 34).ord [1, 2, 3, 4, 5, 0]
          have r0 := (T2.ord [5, 0, 1, 2, 3, 4]).row; have l0 := row_lt r0
          generalize hgx : wr.heap.size = gx at *
          have T3 : Sts W (fun k => k = 0) _ (spL s lg p g bk bs I D safe m ++ kndR t :: [rowR gx (MV x)]) := T2
          have hva := vans hI (by omega) self x T3
          obtain ⟨ho1, ho2⟩ := ans_once hI.sp.ok self x
          have hgr := grow_once hI.sp.ok self x
          have hbk := fun (I : Idx) (D : List UInt8) (safe : Nat) (m' : RowsM) (hm : RowsOk m') (W' : World) (R : List Res) (T : Sts W (fun k => k = 0) W' (spL s lg p g bk bs I D safe m' ++ R)) => bookV hm T
          have HBK := Lib.hid hbk; clear hbk
          unfold VotPost at hva
          change Calls _ _ _ _ fun e W' => e = .returned (.tuple #[.agg (MV (ansM m self x).out), .bool (ansM m self x).ok]) ∧ ∃ I' D' safe', VotI n (j + growV m x.item (ansM m self x).now) I' D' (afterM m self x) ∧ Sts W (fun k => k = 0) W' (spL s lg p g bk bs I' D' safe' (afterM m self x) ++ kndR t :: [rowR gx (MV x)]) at hva
          have hgl := growV_le m x.item (ansM m self x).now
          generalize growV m x.item (ansM m self x).now = gr at *
          generalize afterM m self x = m2 at *
          generalize (ansM m self x).out = out at *
          generalize (ansM m self x).ok = ok at *
          have hans : ∀ (I2 : Idx) (D2 : List UInt8) (safe2 : Nat) (hI2 : VotI n (j + gr) I2 D2 m2) (W' : World) (R : List Res), Sts W (fun k => k = 0) W' (spL s lg p g bk bs I2 D2 safe2 m2 ++ kndR t :: R) → Calls Tryd.prog 11 #[.pointer (some ⟨s, 0, none⟩), .int .i64 self, .agg (MV x)] W' fun e W' => e = .returned (.tuple #[.agg (MV out), .bool ok]) ∧ ∃ I' D' safe', VotI n (j + gr) I' D' m2 ∧ Sts W (fun k => k = 0) W' (spL s lg p g bk bs I' D' safe' m2 ++ kndR t :: R) := by
            intro I2 D2 safe2 hI2 W' R T
            have hv2 := vans hI2 (by omega) self x T
            unfold VotPost at hv2
            rw [hgr, Nat.add_zero] at hv2
            change Calls _ _ _ _ fun e W' => e = .returned (.tuple #[.agg (MV (ansM m2 self x).out), .bool (ansM m2 self x).ok]) ∧ ∃ I' D' safe', VotI n (j + gr) I' D' (afterM m2 self x) ∧ Sts W (fun k => k = 0) W' (spL s lg p g bk bs I' D' safe' (afterM m2 self x) ++ kndR t :: R) at hv2
            rw [ho2, ho1] at hv2
            exact hv2
          have HVA := Lib.hid hva; have HANS := Lib.hid hans
          clear T T1 T2 T3 hva hans ho1 ho2 hgr
          go_wp2_with fail
          refine HVA.out.mono ?_
          clear HVA r0 l0
          rintro e w5 ⟨rfl, I2, D2, safe2, hI2, T⟩
          have T1 : Sts W (fun k => k = 0) w5 (idxR s lg bk bs I2 :: rowR lg (ledCells p g m2.n) :: plR p D2 safe2 :: rowsIR g m2 :: kndR t :: rowR gx (MV x) :: []) := T
          have T2 := (T1.new (MV out) 34).ord [1, 2, 3, 4, 5, 0, 6]
          have T3 : Sts W (fun k => k = 0) _ (spL s lg p g bk bs I2 D2 safe2 m2 ++ [kndR t, rowR w5.heap.size (MV out), rowR gx (MV x)]) := T2
          have HB1 := Lib.hid (HBK.out _ _ _ _ hI2.sp.ok _ _ T3); have HI2 := Lib.hid hI2
          clear T T1 T2 T3 hI2
          generalize hgy : w5.heap.size = gy at *
          go_wp2_with fail
          refine HB1.out.mono ?_
          clear HB1
          rintro e w6 ⟨b, rfl, T⟩
          have T1 : Sts W (fun k => k = 0) w6 (bookR b (ents m2) :: idxR s lg bk bs I2 :: rowR lg (ledCells p g m2.n) :: plR p D2 safe2 :: rowsIR g m2 :: kndR t :: rowR gy (MV out) :: rowR gx (MV x) :: []) := T
          have T2 := T1.ord [1, 2, 3, 4, 5, 0, 6, 7]
          have T3 : Sts W (fun k => k = 0) w6 (spL s lg p g bk bs I2 D2 safe2 m2 ++ kndR t :: [bookR b (ents m2), rowR gy (MV out), rowR gx (MV x)]) := T2
          have r0 := (T2.ord [7, 0, 1, 2, 3, 4, 5, 6]).row; have l0 := row_lt r0
          have HA2 := Lib.hid (HANS.out _ _ _ HI2.out _ _ T3)
          clear T T1 T2 T3 HI2
          go_wp2_with fail
          refine HA2.out.mono ?_
          clear HA2 r0 l0
          rintro e w7 ⟨rfl, I3, D3, safe3, hI3, T⟩
          have T1 : Sts W (fun k => k = 0) w7 (idxR s lg bk bs I3 :: rowR lg (ledCells p g m2.n) :: plR p D3 safe3 :: rowsIR g m2 :: kndR t :: bookR b (ents m2) :: rowR gy (MV out) :: rowR gx (MV x) :: []) := T
          have T2 := (T1.new (MV out) 34).ord [1, 2, 3, 4, 6, 0, 7, 5, 8]
          have T3 : Sts W (fun k => k = 0) _ (spL s lg p g bk bs I3 D3 safe3 m2 ++ [bookR b (ents m2), rowR w7.heap.size (MV out), rowR gy (MV out), kndR t, rowR gx (MV x)]) := T2
          have r1 := (T2.ord [5, 0, 1, 2, 3, 4, 6, 7, 8]).row; have l1 := row_lt r1
          have r2 := (T2.ord [6, 0, 1, 2, 3, 4, 5, 7, 8]).row; have l2 := row_lt r2
          have he := eqA_refl (MV out)
          have hi4 := hI3.up (j := j + 1) (by omega)
          have HB2 := Lib.hid (HBK.out _ _ _ _ hI3.sp.ok _ _ T3); have HI3 := Lib.hid hi4
          have hbl := ents_len hI3.sp.ok
          have hsm := sameR (b := b) (K := ents m2) (L := ents m2) (hK := by omega) (hL := by omega)
          rw [sameB_shown rfl] at hsm
          have HSM := Lib.hid hsm
          clear T T1 T2 T3 hI3 hi4 hbl hsm HBK HANS
          generalize hgz : w7.heap.size = gz at *
          go_wp2_with fail
          refine HB2.out.mono ?_
          clear HB2 r1 l1 r2 l2 he
          rintro e w8 ⟨b2, rfl, T⟩
          have T1 : Sts W (fun k => k = 0) w8 (bookR b2 (ents m2) :: idxR s lg bk bs I3 :: rowR lg (ledCells p g m2.n) :: plR p D3 safe3 :: rowsIR g m2 :: bookR b (ents m2) :: rowR gz (MV out) :: rowR gy (MV out) :: kndR t :: rowR gx (MV x) :: []) := T
          have T2 := T1.ord [0, 5, 6, 7, 9, 1, 2, 3, 4, 8]
          have HT := Lib.hid T2; clear T T1 T2
          go_wp2_with fail
          refine (Reads.at (L := [bookR b2 (ents m2), bookR b (ents m2)]) (HSM.out b2) HT.out).mono ?_
          rintro e w9 ⟨rfl, hb⟩
          have T := HT.out.pure hb
          have T9 : Sts W (fun k => k = 0) w9 (spL s lg p g bk bs I3 D3 safe3 m2 ++ [kndR t]) := T.drop.drop.drop.drop.drop
          have HT9 := Lib.hid T9
          clear T hb T9 HT HSM
          go_wp2
          go_roundw
          case rel => exact ⟨j + 1, I3, D3, safe3, m2, by omega, by go_num, HI3.out, HT9.out⟩
          case measure => simp [intOf]; omega
      · obtain rfl : j = l.length := by omega
        have TK : Sts W (fun k => k = 0) wr [kndR t] := T.drop.drop.drop.drop
        have HT := Lib.hid TK; clear T TK
        go_wp2
        go_ret
        exact ⟨rfl, HB.out _ HT.out⟩
end Go.Proofs.YtfgacjglfdehbaaDoor
/- Layer 7: a message's bytes. -/
namespace Go.Proofs.YtfgacjglfdehbaaDoor
open Go.RowKit
set_option linter.unusedVariables false
attribute [local go_sem] row_alloc row_drew row_drewN row_ext row_setCell row_setRow size_ext setRow_alloc setRow_drew loadOf storeOf piece_lit loadVal_at storeVal_at allOne_lit buildOf buildRes_some
attribute [local go_sem high] cell_alloc frozen_alloc setCell_alloc cell_ext frozen_ext cell_setRow frozen_setRow
attribute [local go_sem ↓] TDeed_ld0 TDeed_st0 TDeed_fd0 TDeed_bd0
attribute [local go_sem] TDeed_size TDeed_one TDeed_piece TDeed_c0 TDeed_c1 TDeed_c2 TDeed_c3 TDeed_c4 TDeed_c5 TDeed_set_kind TDeed_set_key TDeed_set_val TDeed_set_ver TDeed_set_ses TDeed_set_num TDeed_ld TDeed_st TDeed_f_kind TDeed_f_key TDeed_f_val TDeed_f_ver TDeed_f_ses TDeed_f_num TDeed_bd TDeed_fl TDeed_fl_kind TDeed_fl_key TDeed_fl_val TDeed_fl_ver TDeed_fl_ses TDeed_fl_num
attribute [local go_sem high] TDeed_eql TDeed_neq
attribute [local go_sem ↓] index_deps0 load_deps0 store_deps0
attribute [local go_sem] DV_piece DV_size DV_one index_deps load_deps store_deps
attribute [local go_sem high] TDeps_eql TDeps_neq
attribute [local go_sem ↓] TCall_ld0 TCall_st0 TCall_fd0 TCall_bd0
attribute [local go_sem] TCall_size TCall_one TCall_piece TCall_c0 TCall_c1 TCall_c2 TCall_c3 TCall_c4 TCall_c5 TCall_c6 TCall_c7 TCall_c8 TCall_c9 TCall_c10 TCall_c11 TCall_c12 TCall_c13 TCall_p_deed TCall_put_deed TCall_p_deps TCall_put_deps TCall_set_seq TCall_ld TCall_st TCall_f_deed TCall_f_deps TCall_f_seq TCall_bd TCall_fl TCall_fl_deed TCall_fl_deps TCall_fl_seq
attribute [local go_sem high] TCall_eql TCall_neq
attribute [local go_sem ↓] TItem_ld0 TItem_st0 TItem_fd0 TItem_bd0
attribute [local go_sem] TItem_size TItem_one TItem_piece TItem_c0 TItem_c1 TItem_set_rep TItem_set_num TItem_ld TItem_st TItem_f_rep TItem_f_num TItem_bd TItem_fl TItem_fl_rep TItem_fl_num
attribute [local go_sem high] TItem_eql TItem_neq
attribute [local go_sem ↓] TBallot_ld0 TBallot_st0 TBallot_fd0 TBallot_bd0
attribute [local go_sem] TBallot_size TBallot_one TBallot_piece TBallot_c0 TBallot_c1 TBallot_set_round TBallot_set_rep TBallot_ld TBallot_st TBallot_f_round TBallot_f_rep TBallot_bd TBallot_fl TBallot_fl_round TBallot_fl_rep
attribute [local go_sem high] TBallot_eql TBallot_neq
attribute [local go_sem ↓] TMsg_ld0 TMsg_st0 TMsg_fd0 TMsg_bd0
attribute [local go_sem] TMsg_size TMsg_one TMsg_piece TMsg_c0 TMsg_c1 TMsg_c2 TMsg_c3 TMsg_c4 TMsg_c5 TMsg_c6 TMsg_c7 TMsg_c8 TMsg_c9 TMsg_c10 TMsg_c11 TMsg_c12 TMsg_c13 TMsg_c14 TMsg_c15 TMsg_c16 TMsg_c17 TMsg_c18 TMsg_c19 TMsg_c20 TMsg_c21 TMsg_c22 TMsg_c23 TMsg_c24 TMsg_set_kind TMsg_set_frm TMsg_set_to TMsg_p_item TMsg_put_item TMsg_p_bal TMsg_put_bal TMsg_p_vote TMsg_put_vote TMsg_set_status TMsg_set_same TMsg_p_call TMsg_put_call TMsg_ld TMsg_st TMsg_f_kind TMsg_f_frm TMsg_f_to TMsg_f_item TMsg_f_bal TMsg_f_vote TMsg_f_status TMsg_f_same TMsg_f_call TMsg_bd TMsg_fl TMsg_fl_kind TMsg_fl_frm TMsg_fl_to TMsg_fl_item TMsg_fl_bal TMsg_fl_vote TMsg_fl_status TMsg_fl_same TMsg_fl_call
attribute [local go_sem high] TMsg_eql TMsg_neq
attribute [local go_sem ↓] TCarries_ld0 TCarries_st0 TCarries_fd0 TCarries_bd0
attribute [local go_sem] TCarries_size TCarries_one TCarries_piece TCarries_c0 TCarries_c1 TCarries_set_call TCarries_set_known TCarries_ld TCarries_st TCarries_f_call TCarries_f_known TCarries_bd TCarries_fl TCarries_fl_call TCarries_fl_known
attribute [local go_sem high] TCarries_eql TCarries_neq
attribute [local go_sem] KndV_size
end Go.Proofs.YtfgacjglfdehbaaDoor
/- Layer 7: the document's bytes of a message. -/
namespace Go.Proofs.YtfgacjglfdehbaaDoor
open Go.RowKit
set_option linter.unusedVariables false
attribute [local go_sem] row_alloc row_drew row_drewN row_ext row_setCell row_setRow size_ext setRow_alloc setRow_drew loadOf storeOf piece_lit loadVal_at storeVal_at allOne_lit buildOf buildRes_some
attribute [local go_sem high] cell_alloc frozen_alloc setCell_alloc cell_ext frozen_ext cell_setRow frozen_setRow
attribute [local go_sem ↓] TDeed_ld0 TDeed_st0 TDeed_fd0 TDeed_bd0
attribute [local go_sem] TDeed_size TDeed_one TDeed_piece TDeed_c0 TDeed_c1 TDeed_c2 TDeed_c3 TDeed_c4 TDeed_c5 TDeed_set_kind TDeed_set_key TDeed_set_val TDeed_set_ver TDeed_set_ses TDeed_set_num TDeed_ld TDeed_st TDeed_f_kind TDeed_f_key TDeed_f_val TDeed_f_ver TDeed_f_ses TDeed_f_num TDeed_bd TDeed_fl TDeed_fl_kind TDeed_fl_key TDeed_fl_val TDeed_fl_ver TDeed_fl_ses TDeed_fl_num
attribute [local go_sem high] TDeed_eql TDeed_neq
attribute [local go_sem ↓] index_deps0 load_deps0 store_deps0
attribute [local go_sem] DV_piece DV_size DV_one index_deps load_deps store_deps
attribute [local go_sem high] TDeps_eql TDeps_neq
attribute [local go_sem ↓] TCall_ld0 TCall_st0 TCall_fd0 TCall_bd0
attribute [local go_sem] TCall_size TCall_one TCall_piece TCall_c0 TCall_c1 TCall_c2 TCall_c3 TCall_c4 TCall_c5 TCall_c6 TCall_c7 TCall_c8 TCall_c9 TCall_c10 TCall_c11 TCall_c12 TCall_c13 TCall_p_deed TCall_put_deed TCall_p_deps TCall_put_deps TCall_set_seq TCall_ld TCall_st TCall_f_deed TCall_f_deps TCall_f_seq TCall_bd TCall_fl TCall_fl_deed TCall_fl_deps TCall_fl_seq
attribute [local go_sem high] TCall_eql TCall_neq
attribute [local go_sem ↓] TItem_ld0 TItem_st0 TItem_fd0 TItem_bd0
attribute [local go_sem] TItem_size TItem_one TItem_piece TItem_c0 TItem_c1 TItem_set_rep TItem_set_num TItem_ld TItem_st TItem_f_rep TItem_f_num TItem_bd TItem_fl TItem_fl_rep TItem_fl_num
attribute [local go_sem high] TItem_eql TItem_neq
attribute [local go_sem ↓] TBallot_ld0 TBallot_st0 TBallot_fd0 TBallot_bd0
attribute [local go_sem] TBallot_size TBallot_one TBallot_piece TBallot_c0 TBallot_c1 TBallot_set_round TBallot_set_rep TBallot_ld TBallot_st TBallot_f_round TBallot_f_rep TBallot_bd TBallot_fl TBallot_fl_round TBallot_fl_rep
attribute [local go_sem high] TBallot_eql TBallot_neq
attribute [local go_sem ↓] TMsg_ld0 TMsg_st0 TMsg_fd0 TMsg_bd0
attribute [local go_sem] TMsg_size TMsg_one TMsg_piece TMsg_c0 TMsg_c1 TMsg_c2 TMsg_c3 TMsg_c4 TMsg_c5 TMsg_c6 TMsg_c7 TMsg_c8 TMsg_c9 TMsg_c10 TMsg_c11 TMsg_c12 TMsg_c13 TMsg_c14 TMsg_c15 TMsg_c16 TMsg_c17 TMsg_c18 TMsg_c19 TMsg_c20 TMsg_c21 TMsg_c22 TMsg_c23 TMsg_c24 TMsg_set_kind TMsg_set_frm TMsg_set_to TMsg_p_item TMsg_put_item TMsg_p_bal TMsg_put_bal TMsg_p_vote TMsg_put_vote TMsg_set_status TMsg_set_same TMsg_p_call TMsg_put_call TMsg_ld TMsg_st TMsg_f_kind TMsg_f_frm TMsg_f_to TMsg_f_item TMsg_f_bal TMsg_f_vote TMsg_f_status TMsg_f_same TMsg_f_call TMsg_bd TMsg_fl TMsg_fl_kind TMsg_fl_frm TMsg_fl_to TMsg_fl_item TMsg_fl_bal TMsg_fl_vote TMsg_fl_status TMsg_fl_same TMsg_fl_call
attribute [local go_sem high] TMsg_eql TMsg_neq
set_option maxHeartbeats 1000000 in
theorem rcalls_any (k : Int) : Ans Tryd.prog 33 #[.int .i64 k] (.bool (callsB k)) := by
  intro w
  go_enter Tryd.func33, Tryd.ntmps33
  go_wp2
  all_goals
    go_ret
    refine ⟨congrArg (fun b => Ending.returned (.bool b)) ?_, Below.refl _ _⟩
    rw [Bool.eq_iff_iff]; simp [callsB]; omega
end Go.Proofs.YtfgacjglfdehbaaDoor
/- Layer 7: whether a message can be, in the document's words: the cases. Printed by rmailgood.py. -/
namespace Go.Proofs.YtfgacjglfdehbaaDoor
open Go.RowKit
set_option linter.unusedVariables false
attribute [local go_sem] row_alloc row_drew row_drewN row_ext row_setCell row_setRow size_ext setRow_alloc setRow_drew loadOf storeOf piece_lit loadVal_at storeVal_at allOne_lit buildOf buildRes_some
attribute [local go_sem high] cell_alloc frozen_alloc setCell_alloc cell_ext frozen_ext cell_setRow frozen_setRow
attribute [local go_sem ↓] TDeed_ld0 TDeed_st0 TDeed_fd0 TDeed_bd0
attribute [local go_sem] TDeed_size TDeed_one TDeed_piece TDeed_c0 TDeed_c1 TDeed_c2 TDeed_c3 TDeed_c4 TDeed_c5 TDeed_set_kind TDeed_set_key TDeed_set_val TDeed_set_ver TDeed_set_ses TDeed_set_num TDeed_ld TDeed_st TDeed_f_kind TDeed_f_key TDeed_f_val TDeed_f_ver TDeed_f_ses TDeed_f_num TDeed_bd TDeed_fl TDeed_fl_kind TDeed_fl_key TDeed_fl_val TDeed_fl_ver TDeed_fl_ses TDeed_fl_num
attribute [local go_sem high] TDeed_eql TDeed_neq
attribute [local go_sem ↓] index_deps0 load_deps0 store_deps0
attribute [local go_sem] DV_piece DV_size DV_one index_deps load_deps store_deps
attribute [local go_sem high] TDeps_eql TDeps_neq
attribute [local go_sem ↓] TCall_ld0 TCall_st0 TCall_fd0 TCall_bd0
attribute [local go_sem] TCall_size TCall_one TCall_piece TCall_c0 TCall_c1 TCall_c2 TCall_c3 TCall_c4 TCall_c5 TCall_c6 TCall_c7 TCall_c8 TCall_c9 TCall_c10 TCall_c11 TCall_c12 TCall_c13 TCall_p_deed TCall_put_deed TCall_p_deps TCall_put_deps TCall_set_seq TCall_ld TCall_st TCall_f_deed TCall_f_deps TCall_f_seq TCall_bd TCall_fl TCall_fl_deed TCall_fl_deps TCall_fl_seq
attribute [local go_sem high] TCall_eql TCall_neq
attribute [local go_sem ↓] TItem_ld0 TItem_st0 TItem_fd0 TItem_bd0
attribute [local go_sem] TItem_size TItem_one TItem_piece TItem_c0 TItem_c1 TItem_set_rep TItem_set_num TItem_ld TItem_st TItem_f_rep TItem_f_num TItem_bd TItem_fl TItem_fl_rep TItem_fl_num
attribute [local go_sem high] TItem_eql TItem_neq
attribute [local go_sem ↓] TBallot_ld0 TBallot_st0 TBallot_fd0 TBallot_bd0
attribute [local go_sem] TBallot_size TBallot_one TBallot_piece TBallot_c0 TBallot_c1 TBallot_set_round TBallot_set_rep TBallot_ld TBallot_st TBallot_f_round TBallot_f_rep TBallot_bd TBallot_fl TBallot_fl_round TBallot_fl_rep
attribute [local go_sem high] TBallot_eql TBallot_neq
attribute [local go_sem ↓] TMsg_ld0 TMsg_st0 TMsg_fd0 TMsg_bd0
attribute [local go_sem] TMsg_size TMsg_one TMsg_piece TMsg_c0 TMsg_c1 TMsg_c2 TMsg_c3 TMsg_c4 TMsg_c5 TMsg_c6 TMsg_c7 TMsg_c8 TMsg_c9 TMsg_c10 TMsg_c11 TMsg_c12 TMsg_c13 TMsg_c14 TMsg_c15 TMsg_c16 TMsg_c17 TMsg_c18 TMsg_c19 TMsg_c20 TMsg_c21 TMsg_c22 TMsg_c23 TMsg_c24 TMsg_set_kind TMsg_set_frm TMsg_set_to TMsg_p_item TMsg_put_item TMsg_p_bal TMsg_put_bal TMsg_p_vote TMsg_put_vote TMsg_set_status TMsg_set_same TMsg_p_call TMsg_put_call TMsg_ld TMsg_st TMsg_f_kind TMsg_f_frm TMsg_f_to TMsg_f_item TMsg_f_bal TMsg_f_vote TMsg_f_status TMsg_f_same TMsg_f_call TMsg_bd TMsg_fl TMsg_fl_kind TMsg_fl_frm TMsg_fl_to TMsg_fl_item TMsg_fl_bal TMsg_fl_vote TMsg_fl_status TMsg_fl_same TMsg_fl_call
attribute [local go_sem high] TMsg_eql TMsg_neq
attribute [local simp] size_ext
set_option maxHeartbeats 40000000 in
set_option maxRecDepth 100000 in
theorem rmailGood0 (m : Msg) (n : Int) (h0 : 1 ≤ m.kind ∧ m.kind ≤ 8 ∧ 0 ≤ m.frm ∧ m.frm < n ∧ 0 ≤ m.to ∧ m.to < n) (hx : goodI m.item n = false ∨ goodI m.item n = true ∧ goodBal m.bal n = false) : Ans Tryd.prog 13 #[.agg (MV m), .int .i64 n] (.bool (goodM m n)) := by
  intro W
  obtain ⟨q1, q2, q3, q4, q5, q6⟩ := id h0
  have h0d := decide_eq_true h0
  rcases hx with hI | ⟨hI, hB⟩
  case inl =>
    have hg : goodM m n = false := by unfold goodM noVote noC; simp [*]
    rw [hg]; clear hg h0 h0d
    go_enter Tryd.func13, Tryd.ntmps13
    go_wp2_with (first | (go_at_call 31; refine ((ritemGood_any _ _).go _).mono ?_; rintro e w1 ⟨rfl, x1, rfl⟩) | (go_at_call 32; refine ((rbalGood_any _ _).go _).mono ?_; rintro e w1 ⟨rfl, x1, rfl⟩) | (go_at_call 34; refine ((rgoodC_any _ _).go _).mono ?_; rintro e w1 ⟨rfl, x1, rfl⟩) | (go_at_call 33; refine ((rcalls_any _).go _).mono ?_; rintro e w1 ⟨rfl, x1, rfl⟩))
    all_goals first | (exfalso; omega) | (go_ret; exact ⟨rfl, by repeat (first | exact Below.refl _ _ | refine below_extM ?_ (by simp; try omega) _ | refine below_allocM ?_ _ (by simp; try omega))⟩)
  case inr =>
    have hg : goodM m n = false := by unfold goodM noVote noC; simp [*]
    rw [hg]; clear hg h0 h0d
    go_enter Tryd.func13, Tryd.ntmps13
    go_wp2_with (first | (go_at_call 31; refine ((ritemGood_any _ _).go _).mono ?_; rintro e w1 ⟨rfl, x1, rfl⟩) | (go_at_call 32; refine ((rbalGood_any _ _).go _).mono ?_; rintro e w1 ⟨rfl, x1, rfl⟩) | (go_at_call 34; refine ((rgoodC_any _ _).go _).mono ?_; rintro e w1 ⟨rfl, x1, rfl⟩) | (go_at_call 33; refine ((rcalls_any _).go _).mono ?_; rintro e w1 ⟨rfl, x1, rfl⟩))
    all_goals first | (exfalso; omega) | (go_ret; exact ⟨rfl, by repeat (first | exact Below.refl _ _ | refine below_extM ?_ (by simp; try omega) _ | refine below_allocM ?_ _ (by simp; try omega))⟩)
set_option maxHeartbeats 40000000 in
set_option maxRecDepth 100000 in
theorem rmailGood1 (m : Msg) (n : Int) (h0 : 1 ≤ m.kind ∧ m.kind ≤ 8 ∧ 0 ≤ m.frm ∧ m.frm < n ∧ 0 ≤ m.to ∧ m.to < n) (hI : goodI m.item n = true) (hB : goodBal m.bal n = true) (hcb : callsB m.kind = false) : Ans Tryd.prog 13 #[.agg (MV m), .int .i64 n] (.bool (goodM m n)) := by
  intro W
  obtain ⟨q1, q2, q3, q4, q5, q6⟩ := id h0
  have h0d := decide_eq_true h0
  have hkb : knownB m.kind = false := by
    cases hk : knownB m.kind
    · rfl
    · simp [knownB] at hk; simp [callsB, hk] at hcb
  have hk7 : (m.kind == 7) = false := by have h := hkb; unfold knownB at h; rw [Bool.eq_iff_iff] at h ⊢; simpa using h
  have hk77 : (m.kind != 7) = true := by simp [bne, hk7]
  have hk2 : (m.kind == 2) = false := by rw [beq_eq_false_iff_ne]; intro e; rw [e] at hcb; simp [callsB] at hcb
  have hk22 : (m.kind != 2) = true := by simp [bne, hk2]
  cases hnc : eqA (CV m.call) (CV noCall)
  case false =>
    have hg : goodM m n = false := by unfold goodM noVote noC; simp [*]
    rw [hg]; clear hg h0 h0d
    go_enter Tryd.func13, Tryd.ntmps13
    go_wp2_with (first | (go_at_call 31; refine ((ritemGood_any _ _).go _).mono ?_; rintro e w1 ⟨rfl, x1, rfl⟩) | (go_at_call 32; refine ((rbalGood_any _ _).go _).mono ?_; rintro e w1 ⟨rfl, x1, rfl⟩) | (go_at_call 34; refine ((rgoodC_any _ _).go _).mono ?_; rintro e w1 ⟨rfl, x1, rfl⟩) | (go_at_call 33; refine ((rcalls_any _).go _).mono ?_; rintro e w1 ⟨rfl, x1, rfl⟩))
    all_goals first | (exfalso; omega) | (go_ret; exact ⟨rfl, by repeat (first | exact Below.refl _ _ | refine below_extM ?_ (by simp; try omega) _ | refine below_allocM ?_ _ (by simp; try omega))⟩)
  case true =>
    cases hsm : m.same
    case false =>
      cases hv : eqA (BV m.vote) (BV noBallot)
      case false =>
        have hg : goodM m n = false := by unfold goodM noVote noC; simp [*]
        rw [hg]; clear hg h0 h0d
        go_enter Tryd.func13, Tryd.ntmps13
        go_wp2_with (first | (go_at_call 31; refine ((ritemGood_any _ _).go _).mono ?_; rintro e w1 ⟨rfl, x1, rfl⟩) | (go_at_call 32; refine ((rbalGood_any _ _).go _).mono ?_; rintro e w1 ⟨rfl, x1, rfl⟩) | (go_at_call 34; refine ((rgoodC_any _ _).go _).mono ?_; rintro e w1 ⟨rfl, x1, rfl⟩) | (go_at_call 33; refine ((rcalls_any _).go _).mono ?_; rintro e w1 ⟨rfl, x1, rfl⟩))
        all_goals first | (exfalso; omega) | (go_ret; exact ⟨rfl, by repeat (first | exact Below.refl _ _ | refine below_extM ?_ (by simp; try omega) _ | refine below_allocM ?_ _ (by simp; try omega))⟩)
      case true =>
        cases hst : m.status == 0
        case false =>
          have hst2 : (m.status != 0) = true := by simp [bne, hst]
          have hg : goodM m n = false := by unfold goodM noVote noC; simp [*]
          rw [hg]; clear hg h0 h0d
          go_enter Tryd.func13, Tryd.ntmps13
          go_wp2_with (first | (go_at_call 31; refine ((ritemGood_any _ _).go _).mono ?_; rintro e w1 ⟨rfl, x1, rfl⟩) | (go_at_call 32; refine ((rbalGood_any _ _).go _).mono ?_; rintro e w1 ⟨rfl, x1, rfl⟩) | (go_at_call 34; refine ((rgoodC_any _ _).go _).mono ?_; rintro e w1 ⟨rfl, x1, rfl⟩) | (go_at_call 33; refine ((rcalls_any _).go _).mono ?_; rintro e w1 ⟨rfl, x1, rfl⟩))
          all_goals first | (exfalso; omega) | (go_ret; exact ⟨rfl, by repeat (first | exact Below.refl _ _ | refine below_extM ?_ (by simp; try omega) _ | refine below_allocM ?_ _ (by simp; try omega))⟩)
        case true =>
          have hst2 : (m.status != 0) = false := by simp [bne, hst]
          have hg : goodM m n = true := by unfold goodM noVote noC; simp [*]
          rw [hg]; clear hg h0 h0d
          go_enter Tryd.func13, Tryd.ntmps13
          go_wp2_with (first | (go_at_call 31; refine ((ritemGood_any _ _).go _).mono ?_; rintro e w1 ⟨rfl, x1, rfl⟩) | (go_at_call 32; refine ((rbalGood_any _ _).go _).mono ?_; rintro e w1 ⟨rfl, x1, rfl⟩) | (go_at_call 34; refine ((rgoodC_any _ _).go _).mono ?_; rintro e w1 ⟨rfl, x1, rfl⟩) | (go_at_call 33; refine ((rcalls_any _).go _).mono ?_; rintro e w1 ⟨rfl, x1, rfl⟩))
          all_goals first | (exfalso; omega) | (go_ret; exact ⟨rfl, by repeat (first | exact Below.refl _ _ | refine below_extM ?_ (by simp; try omega) _ | refine below_allocM ?_ _ (by simp; try omega))⟩)
    case true =>
      have hg : goodM m n = false := by unfold goodM noVote noC; simp [*]
      rw [hg]; clear hg h0 h0d
      go_enter Tryd.func13, Tryd.ntmps13
      go_wp2_with (first | (go_at_call 31; refine ((ritemGood_any _ _).go _).mono ?_; rintro e w1 ⟨rfl, x1, rfl⟩) | (go_at_call 32; refine ((rbalGood_any _ _).go _).mono ?_; rintro e w1 ⟨rfl, x1, rfl⟩) | (go_at_call 34; refine ((rgoodC_any _ _).go _).mono ?_; rintro e w1 ⟨rfl, x1, rfl⟩) | (go_at_call 33; refine ((rcalls_any _).go _).mono ?_; rintro e w1 ⟨rfl, x1, rfl⟩))
      all_goals first | (exfalso; omega) | (go_ret; exact ⟨rfl, by repeat (first | exact Below.refl _ _ | refine below_extM ?_ (by simp; try omega) _ | refine below_allocM ?_ _ (by simp; try omega))⟩)
set_option maxHeartbeats 40000000 in
set_option maxRecDepth 100000 in
theorem rmailGood2 (m : Msg) (n : Int) (h0 : 1 ≤ m.kind ∧ m.kind ≤ 8 ∧ 0 ≤ m.frm ∧ m.frm < n ∧ 0 ≤ m.to ∧ m.to < n) (hI : goodI m.item n = true) (hB : goodBal m.bal n = true) (hcb : callsB m.kind = true) (hgc : goodC m.call n = true) (hkb : knownB m.kind = false) : Ans Tryd.prog 13 #[.agg (MV m), .int .i64 n] (.bool (goodM m n)) := by
  intro W
  obtain ⟨q1, q2, q3, q4, q5, q6⟩ := id h0
  have h0d := decide_eq_true h0
  have hk7 : (m.kind == 7) = false := by have h := hkb; unfold knownB at h; rw [Bool.eq_iff_iff] at h ⊢; simpa using h
  have hk77 : (m.kind != 7) = true := by simp [bne, hk7]
  cases hsm : m.same
  case false =>
    cases hv : eqA (BV m.vote) (BV noBallot)
    case false =>
      have hg : goodM m n = false := by unfold goodM noVote noC; simp [*]
      rw [hg]; clear hg h0 h0d
      go_enter Tryd.func13, Tryd.ntmps13
      go_wp2_with (first | (go_at_call 31; refine ((ritemGood_any _ _).go _).mono ?_; rintro e w1 ⟨rfl, x1, rfl⟩) | (go_at_call 32; refine ((rbalGood_any _ _).go _).mono ?_; rintro e w1 ⟨rfl, x1, rfl⟩) | (go_at_call 34; refine ((rgoodC_any _ _).go _).mono ?_; rintro e w1 ⟨rfl, x1, rfl⟩) | (go_at_call 33; refine ((rcalls_any _).go _).mono ?_; rintro e w1 ⟨rfl, x1, rfl⟩))
      all_goals first | (exfalso; omega) | (go_ret; exact ⟨rfl, by repeat (first | exact Below.refl _ _ | refine below_extM ?_ (by simp; try omega) _ | refine below_allocM ?_ _ (by simp; try omega))⟩)
    case true =>
      cases hst : m.status == 0
      case false =>
        have hst2 : (m.status != 0) = true := by simp [bne, hst]
        have hg : goodM m n = false := by unfold goodM noVote noC; simp [*]
        rw [hg]; clear hg h0 h0d
        go_enter Tryd.func13, Tryd.ntmps13
        go_wp2_with (first | (go_at_call 31; refine ((ritemGood_any _ _).go _).mono ?_; rintro e w1 ⟨rfl, x1, rfl⟩) | (go_at_call 32; refine ((rbalGood_any _ _).go _).mono ?_; rintro e w1 ⟨rfl, x1, rfl⟩) | (go_at_call 34; refine ((rgoodC_any _ _).go _).mono ?_; rintro e w1 ⟨rfl, x1, rfl⟩) | (go_at_call 33; refine ((rcalls_any _).go _).mono ?_; rintro e w1 ⟨rfl, x1, rfl⟩))
        all_goals first | (exfalso; omega) | (go_ret; exact ⟨rfl, by repeat (first | exact Below.refl _ _ | refine below_extM ?_ (by simp; try omega) _ | refine below_allocM ?_ _ (by simp; try omega))⟩)
      case true =>
        have hst2 : (m.status != 0) = false := by simp [bne, hst]
        have hg : goodM m n = true := by unfold goodM noVote noC; simp [*]
        rw [hg]; clear hg h0 h0d
        go_enter Tryd.func13, Tryd.ntmps13
        go_wp2_with (first | (go_at_call 31; refine ((ritemGood_any _ _).go _).mono ?_; rintro e w1 ⟨rfl, x1, rfl⟩) | (go_at_call 32; refine ((rbalGood_any _ _).go _).mono ?_; rintro e w1 ⟨rfl, x1, rfl⟩) | (go_at_call 34; refine ((rgoodC_any _ _).go _).mono ?_; rintro e w1 ⟨rfl, x1, rfl⟩) | (go_at_call 33; refine ((rcalls_any _).go _).mono ?_; rintro e w1 ⟨rfl, x1, rfl⟩))
        all_goals first | (exfalso; omega) | (go_ret; exact ⟨rfl, by repeat (first | exact Below.refl _ _ | refine below_extM ?_ (by simp; try omega) _ | refine below_allocM ?_ _ (by simp; try omega))⟩)
  case true =>
    cases hk2 : m.kind == 2
    case false =>
      have hk22 : (m.kind != 2) = true := by simp [bne, hk2]
      have hg : goodM m n = false := by unfold goodM noVote noC; simp [*]
      rw [hg]; clear hg h0 h0d
      go_enter Tryd.func13, Tryd.ntmps13
      go_wp2_with (first | (go_at_call 31; refine ((ritemGood_any _ _).go _).mono ?_; rintro e w1 ⟨rfl, x1, rfl⟩) | (go_at_call 32; refine ((rbalGood_any _ _).go _).mono ?_; rintro e w1 ⟨rfl, x1, rfl⟩) | (go_at_call 34; refine ((rgoodC_any _ _).go _).mono ?_; rintro e w1 ⟨rfl, x1, rfl⟩) | (go_at_call 33; refine ((rcalls_any _).go _).mono ?_; rintro e w1 ⟨rfl, x1, rfl⟩))
      all_goals first | (exfalso; omega) | (go_ret; exact ⟨rfl, by repeat (first | exact Below.refl _ _ | refine below_extM ?_ (by simp; try omega) _ | refine below_allocM ?_ _ (by simp; try omega))⟩)
    case true =>
      have hk22 : (m.kind != 2) = false := by simp [bne, hk2]
      cases hv : eqA (BV m.vote) (BV noBallot)
      case false =>
        have hg : goodM m n = false := by unfold goodM noVote noC; simp [*]
        rw [hg]; clear hg h0 h0d
        go_enter Tryd.func13, Tryd.ntmps13
        go_wp2_with (first | (go_at_call 31; refine ((ritemGood_any _ _).go _).mono ?_; rintro e w1 ⟨rfl, x1, rfl⟩) | (go_at_call 32; refine ((rbalGood_any _ _).go _).mono ?_; rintro e w1 ⟨rfl, x1, rfl⟩) | (go_at_call 34; refine ((rgoodC_any _ _).go _).mono ?_; rintro e w1 ⟨rfl, x1, rfl⟩) | (go_at_call 33; refine ((rcalls_any _).go _).mono ?_; rintro e w1 ⟨rfl, x1, rfl⟩))
        all_goals first | (exfalso; omega) | (go_ret; exact ⟨rfl, by repeat (first | exact Below.refl _ _ | refine below_extM ?_ (by simp; try omega) _ | refine below_allocM ?_ _ (by simp; try omega))⟩)
      case true =>
        cases hst : m.status == 0
        case false =>
          have hst2 : (m.status != 0) = true := by simp [bne, hst]
          have hg : goodM m n = false := by unfold goodM noVote noC; simp [*]
          rw [hg]; clear hg h0 h0d
          go_enter Tryd.func13, Tryd.ntmps13
          go_wp2_with (first | (go_at_call 31; refine ((ritemGood_any _ _).go _).mono ?_; rintro e w1 ⟨rfl, x1, rfl⟩) | (go_at_call 32; refine ((rbalGood_any _ _).go _).mono ?_; rintro e w1 ⟨rfl, x1, rfl⟩) | (go_at_call 34; refine ((rgoodC_any _ _).go _).mono ?_; rintro e w1 ⟨rfl, x1, rfl⟩) | (go_at_call 33; refine ((rcalls_any _).go _).mono ?_; rintro e w1 ⟨rfl, x1, rfl⟩))
          all_goals first | (exfalso; omega) | (go_ret; exact ⟨rfl, by repeat (first | exact Below.refl _ _ | refine below_extM ?_ (by simp; try omega) _ | refine below_allocM ?_ _ (by simp; try omega))⟩)
        case true =>
          have hst2 : (m.status != 0) = false := by simp [bne, hst]
          have hg : goodM m n = true := by unfold goodM noVote noC; simp [*]
          rw [hg]; clear hg h0 h0d
          go_enter Tryd.func13, Tryd.ntmps13
          go_wp2_with (first | (go_at_call 31; refine ((ritemGood_any _ _).go _).mono ?_; rintro e w1 ⟨rfl, x1, rfl⟩) | (go_at_call 32; refine ((rbalGood_any _ _).go _).mono ?_; rintro e w1 ⟨rfl, x1, rfl⟩) | (go_at_call 34; refine ((rgoodC_any _ _).go _).mono ?_; rintro e w1 ⟨rfl, x1, rfl⟩) | (go_at_call 33; refine ((rcalls_any _).go _).mono ?_; rintro e w1 ⟨rfl, x1, rfl⟩))
          all_goals first | (exfalso; omega) | (go_ret; exact ⟨rfl, by repeat (first | exact Below.refl _ _ | refine below_extM ?_ (by simp; try omega) _ | refine below_allocM ?_ _ (by simp; try omega))⟩)
end Go.Proofs.YtfgacjglfdehbaaDoor
