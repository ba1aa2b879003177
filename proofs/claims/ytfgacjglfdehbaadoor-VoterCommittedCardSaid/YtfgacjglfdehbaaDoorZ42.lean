/- Several texts in one. -/
import Derived.Test.YtfgacjglfdehbaaDoorZ39
import Derived.Test.YtfgacjglfdehbaaDoorZ41
/- VoterCommitted: about what is committed all who ask are told so, with that call, at whatever ballot; and nothing changes any more. -/
namespace Go.Proofs.YtfgacjglfdehbaaDoor
open Go.RowKit
set_option linter.unusedVariables false
set_option maxRecDepth 20000
attribute [local go_sem] row_alloc row_drew row_drewN row_ext row_setCell row_setRow size_ext setRow_alloc setRow_drew loadOf storeOf piece_lit loadVal_at storeVal_at allOne_lit buildOf buildRes_some
attribute [local go_sem high] cell_alloc frozen_alloc setCell_alloc cell_ext frozen_ext cell_setRow frozen_setRow
attribute [local go_sem ↓] TDeed_ld0 TDeed_st0 TDeed_fd0 TDeed_bd0
attribute [local go_sem] TDeed_size TDeed_one TDeed_piece TDeed_c0 TDeed_c1 TDeed_c2 TDeed_c3 TDeed_c4 TDeed_c5 TDeed_set_kind TDeed_set_key TDeed_set_val TDeed_set_ver TDeed_set_ses TDeed_set_num TDeed_ld TDeed_st TDeed_f_kind TDeed_f_key TDeed_f_val TDeed_f_ver TDeed_f_ses TDeed_f_num TDeed_bd TDeed_fl TDeed_fl_kind TDeed_fl_key TDeed_fl_val TDeed_fl_ver TDeed_fl_ses TDeed_fl_num
attribute [local go_sem high] TDeed_eql TDeed_neq
attribute [local go_sem ↓] index_deps0 load_deps0 store_deps0
attribute [local go_sem] DV_piece DV_size DV_one index_deps load_deps store_deps
attribute [local go_sem high] TDeps_eql TDeps_neq
attribute [local go_sem ↓] TCall_ld0 TCall_st0 TCall_fd0 TCall_bd0
attribute [local go_sem] TCall_size TCall_one TCall_piece TCall_c0 TCall_c1 TCall_c2 TCall_c3 TCall_c4 TCall_c5 TCall_c6 TCall_c7 TCall_c8 TCall_c9 TCall_c10 TCall_c11 TCall_c12 TCall_c13 TCall_p_deed TCall_put_deed TCall_p_deps TCall_put_deps TCall_set_seq TCall_ld TCall_st TCall_f_deed TCall_f_deps TCall_f_seq TCall_bd TCall_fl TCall_fl_deed TCall_fl_deps TCall_fl_seq
attribute [local go_sem high] TCall_eql TCall_neq
attribute [local go_sem ↓] TItem_ld0 TItem_st0 TItem_fd0 TItem_bd0
attribute [local go_sem] TItem_size TItem_one TItem_piece TItem_c0 TItem_c1 TItem_set_rep TItem_set_num TItem_ld TItem_st TItem_f_rep TItem_f_num TItem_bd TItem_fl TItem_fl_rep TItem_fl_num
attribute [local go_sem high] TItem_eql TItem_neq
attribute [local go_sem ↓] TBallot_ld0 TBallot_st0 TBallot_fd0 TBallot_bd0
attribute [local go_sem] TBallot_size TBallot_one TBallot_piece TBallot_c0 TBallot_c1 TBallot_set_round TBallot_set_rep TBallot_ld TBallot_st TBallot_f_round TBallot_f_rep TBallot_bd TBallot_fl TBallot_fl_round TBallot_fl_rep
attribute [local go_sem high] TBallot_eql TBallot_neq
attribute [local go_sem ↓] TInst_ld0 TInst_st0 TInst_fd0 TInst_bd0
attribute [local go_sem] TInst_size TInst_one TInst_piece TInst_c0 TInst_c1 TInst_c2 TInst_c3 TInst_c4 TInst_c5 TInst_c6 TInst_c7 TInst_c8 TInst_c9 TInst_c10 TInst_c11 TInst_c12 TInst_c13 TInst_c14 TInst_c15 TInst_c16 TInst_c17 TInst_c18 TInst_c19 TInst_p_prom TInst_put_prom TInst_p_vote TInst_put_vote TInst_set_status TInst_p_call TInst_put_call TInst_set_same TInst_ld TInst_st TInst_f_prom TInst_f_vote TInst_f_status TInst_f_call TInst_f_same TInst_bd TInst_fl TInst_fl_prom TInst_fl_vote TInst_fl_status TInst_fl_call TInst_fl_same
attribute [local go_sem high] TInst_eql TInst_neq
attribute [local go_sem ↓] TMsg_ld0 TMsg_st0 TMsg_fd0 TMsg_bd0
attribute [local go_sem] TMsg_size TMsg_one TMsg_piece TMsg_c0 TMsg_c1 TMsg_c2 TMsg_c3 TMsg_c4 TMsg_c5 TMsg_c6 TMsg_c7 TMsg_c8 TMsg_c9 TMsg_c10 TMsg_c11 TMsg_c12 TMsg_c13 TMsg_c14 TMsg_c15 TMsg_c16 TMsg_c17 TMsg_c18 TMsg_c19 TMsg_c20 TMsg_c21 TMsg_c22 TMsg_c23 TMsg_c24 TMsg_set_kind TMsg_set_frm TMsg_set_to TMsg_p_item TMsg_put_item TMsg_p_bal TMsg_put_bal TMsg_p_vote TMsg_put_vote TMsg_set_status TMsg_set_same TMsg_p_call TMsg_put_call TMsg_ld TMsg_st TMsg_f_kind TMsg_f_frm TMsg_f_to TMsg_f_item TMsg_f_bal TMsg_f_vote TMsg_f_status TMsg_f_same TMsg_f_call TMsg_bd TMsg_fl TMsg_fl_kind TMsg_fl_frm TMsg_fl_to TMsg_fl_item TMsg_fl_bal TMsg_fl_vote TMsg_fl_status TMsg_fl_same TMsg_fl_call
attribute [local go_sem high] TMsg_eql TMsg_neq
set_option maxHeartbeats 16000000 in
theorem law_committed (n self : Int) (A : Option Addr) (c : Nat) (l : List Msg) (mm : Msg) (t : TypeId) (W : World) (h0 : W.heap[0]? = some (.cells KndV t (0, 0))) (hx : RowsIn W A 25 MV l) (hf : FitV l) (hk1 : mm.call.deed.key.size ≤ 140737488351232) (hk2 : mm.call.deed.val.size ≤ 140737488351232) :
    Calls Tryd.prog 3 #[.int .i64 n, .int .i64 self, .slice A l.length c, .agg (MV mm)] W fun e W' => e = .returned (.bool true) ∧ Below W.heap.size W W' := by
  have T := ((Sts.startK h0).new (MV mm) 34).swap
  have HB : Hid (∀ W' R, Sts W (fun k => k = 0) W' (kndR t :: R) → Below W.heap.size W W') := Lib.hid fun W' R T => by
    have := T
    exact (Sts.only1 this).belowK h0
  have hll := hx.len
  generalize hgm : W.heap.size = gm at *
  go_enter Tryd.func3, Tryd.ntmps3
  go_wp2_with fail
  refine (alive15 T).mono ?_
  clear T
  rintro e w1 ⟨rfl, T⟩
  go_wp2_with fail
  refine (great15 n A c l W w1 _ _ (fun W' T => by rw [hgm]; exact HB.out _ _ T) hx hf T).mono ?_
  clear T
  rintro e w2 ⟨rfl, T⟩
  have rm := T.row1; have lm := row_lt rm; have cm := row_cell rm
  cases hg : greatV n l
  case true =>
    have HT := Lib.hid T; clear T
    go_wp2
    go_ret
    exact ⟨rfl, HB.out _ _ HT.out⟩
  case false =>
    cases hov : overV mm
    case true =>
      have hov' : decide ((200 : Int) < (mm.call.deed.key.size : Int) + (mm.call.deed.val.size : Int)) = true := hov
      have HT := Lib.hid T; clear T
      go_wp2
      go_ret
      exact ⟨rfl, HB.out _ _ HT.out⟩
    case false =>
    have hov' : decide ((200 : Int) < (mm.call.deed.key.size : Int) + (mm.call.deed.val.size : Int)) = false := hov
    obtain ⟨hs, h80⟩ := great_V hg
    have HX := Lib.hid hx; clear hx
    have HT := Lib.hid T; clear T
    go_wp2_with fail
    clear rm lm cm
    refine (newT HT.out).mono ?_
    clear HT
    rintro e w3 ⟨rfl, T⟩
    generalize w2.heap.size = p at *
    have HO := Lib.hid (spOpenT T (by simp) n hs); clear T
    go_wp2_with fail
    refine HO.out.mono ?_
    clear HO
    rintro e w4 ⟨s, lg, g, bk, bs, rfl, T⟩
    have hv := VotI.open hs
    generalize idxF (ents (mK n (goT n []))) = I0 at *
    generalize mK n (goT n []) = m0 at *
    generalize openD n [] = D0 at *
    generalize openF n [] 0 = f0 at *
    have T : Sts W (fun k => k = 0) w4 (spL s lg p g bk bs I0 D0 f0 m0 ++ kndR t :: [rowR gm (MV mm)]) := T
    have HT := Lib.hid T; have HV := Lib.hid hv; clear T hv
    go_wp2_with fail
    go_loopw [44] (fun i wr => ∃ (j : Nat) (I : Idx) (D : List UInt8) (safe : Nat) (m : RowsM), j ≤ l.length ∧ i = .int .i64 j ∧ VotI n j I D m ∧ Sts W (fun k => k = 0) wr (spL s lg p g bk bs I D safe m ++ kndR t :: [rowR gm (MV mm)])) (fun i _ => l.length - (intOf i).toNat)
    case atStart => exact ⟨0, I0, D0, f0, m0, by omega, rfl, HV.out, HT.out⟩
    case round =>
      clear HT HV
      obtain ⟨j, I, D, safe, m, hj0, rfl, hI, T⟩ := hrel
      by_cases hjl : j < l.length
      · cases A with
        | none => have := HX.out.nil rfl; subst this; simp at hjl
        | some a =>
          have TK : Sts W (fun k => k = 0) wr (kndR t :: [rowR gm (MV mm)]) := T.drop.drop.drop.drop
          have hld := HX.out.load (P := Tryd.prog) (T := 34) TMsg_size TMsg_und rfl (by kernel_rfl) (by rw [hgm]; exact HB.out _ _ TK) rfl hjl
          clear TK
          generalize l[j] = x at *
          have T1 : Sts W (fun k => k = 0) wr (idxR s lg bk bs I :: rowR lg (ledCells p g m.n) :: plR p D safe :: rowsIR g m :: kndR t :: [rowR gm (MV mm)]) := T
          have T2 := (T1.new (MV x) 34).ord [1, 2, 3, 4, 5, 0, 6]
          have T3 : Sts W (fun k => k = 0) _ (spL s lg p g bk bs I D safe m ++ kndR t :: [rowR wr.heap.size (MV x), rowR gm (MV mm)]) := T2
          have HVA := Lib.hid (vans hI (by omega) self x T3)
          clear T T1 T2 T3 hI
          generalize hgx : wr.heap.size = gx at *
          generalize ansM m self x = q at *
          obtain ⟨out, ok, now⟩ := q
          go_wp2_with fail
          refine HVA.out.mono ?_
          clear HVA
          rintro e w5 ⟨rfl, I2, D2, safe2, hI2, T⟩
          dsimp only at hI2 T
          have hI3 := hI2.up (j := j + 1) (by have := growV_le m x.item now; omega)
          generalize nowR m x.item now = m2 at *
          have T1 : Sts W (fun k => k = 0) w5 (idxR s lg bk bs I2 :: rowR lg (ledCells p g m2.n) :: plR p D2 safe2 :: rowsIR g m2 :: kndR t :: rowR gx (MV x) :: rowR gm (MV mm) :: []) := T
          have T8 := (T1.ord [5, 0, 1, 2, 3, 4, 6]).drop
          have T9 : Sts W (fun k => k = 0) w5 (spL s lg p g bk bs I2 D2 safe2 m2 ++ kndR t :: [rowR gm (MV mm)]) := T8
          have HT9 := Lib.hid T9; have HI3 := Lib.hid hI3
          clear T T1 T8 T9 hI2 hI3
          go_wp2
          go_roundw
          case rel => exact ⟨j + 1, I2, D2, safe2, m2, by omega, by go_num, HI3.out, HT9.out⟩
          case measure => simp [intOf]; omega
      · obtain rfl : j = l.length := by omega
        have T1 : Sts W (fun k => k = 0) wr (idxR s lg bk bs I :: rowR lg (ledCells p g m.n) :: plR p D safe :: rowsIR g m :: kndR t :: [rowR gm (MV mm)]) := T
        have rm := (T1.ord [5, 0, 1, 2, 3, 4]).row; have lm := row_lt rm; have cm := row_cell rm
        have HAT := Lib.hid (spAtV hI.sp.ok mm.item T); have HI := Lib.hid hI
        clear T T1 hI
        go_wp2_with fail
        refine HAT.out.mono ?_
        clear HAT rm lm cm
        rintro e w5 ⟨rfl, T⟩
        have hdone := fun h => ans_done (m := m) (self := self) (x := mm) h
        have hat2 := at_after (m := m) (self := self) (x := mm)
        unfold afterM at hat2
        have hmn := HI.out.sp.mn
        generalize hwas : atM m mm.item = was at *
        have T1 : Sts W (fun k => k = 0) w5 (idxR s lg bk bs I :: rowR lg (ledCells p g m.n) :: plR p D safe :: rowsIR g m :: kndR t :: rowR gm (MV mm) :: []) := T
        have T2 := (T1.new (NV was) 46).ord [1, 2, 3, 4, 5, 0, 6]
        have T3 : Sts W (fun k => k = 0) _ (spL s lg p g bk bs I D safe m ++ kndR t :: [rowR w5.heap.size (NV was), rowR gm (MV mm)]) := T2
        have rm := (T2.ord [6, 0, 1, 2, 3, 4, 5]).row; have lm := row_lt rm
        have HVA := Lib.hid (vans HI.out (by omega) self mm T3)
        clear T T1 T2 T3 hwas
        generalize hgy : w5.heap.size = gy at *
        generalize ansM m self mm = q at *
        obtain ⟨out, ok, now⟩ := q
        dsimp only at hdone hat2
        have HD := Lib.hid hdone; have HA2 := Lib.hid hat2
        clear hdone hat2
        go_wp2_with fail
        refine HVA.out.mono ?_
        clear HVA rm lm
        rintro e w6 ⟨rfl, I2, D2, safe2, hI2, T⟩
        dsimp only at hI2 T
        have hat3 := fun (W' : World) (R : List Res) (T : Sts W (fun k => k = 0) W' (spL s lg p g bk bs I2 D2 safe2 (nowR m mm.item now) ++ R)) => spAtV hI2.sp.ok mm.item T
        rw [HA2.out] at hat3
        have HAT := Lib.hid hat3
        clear HA2 hat3 hI2
        generalize nowR m mm.item now = m2 at *
        have T1 : Sts W (fun k => k = 0) w6 (idxR s lg bk bs I2 :: rowR lg (ledCells p g m2.n) :: plR p D2 safe2 :: rowsIR g m2 :: kndR t :: rowR gy (NV was) :: rowR gm (MV mm) :: []) := T
        have T2 := (T1.new (MV out) 34).ord [0, 6, 7, 5, 1, 2, 3, 4]
        have rz := T2.row; have lz := row_lt rz; have cz := row_cell rz
        have ry := T2.row1; have ly := row_lt ry; have cy := row_cell ry
        have rm := T2.row2; have lm := row_lt rm; have cm := row_cell rm
        have HT := Lib.hid T2
        clear T T1 T2
        generalize hgz : w6.heap.size = gz at *
        cases h3 : (was.status != 3)
        case true =>
          have HT9 := Lib.hid HT.out.drop.drop.drop
          clear HT
          go_wp2
          go_ret
          exact ⟨rfl, HB.out _ _ HT9.out⟩
        case false =>
          obtain ⟨d1, d2, d3⟩ := HD.out (by simpa using h3)
          obtain rfl : was = now := d1.symm
          have heq := eqA_refl (NV was)
          rw [hmn] at d2
          have e2 : ok = ((mm.to == self) && goodM mm n && (mm.kind == 1 || (mm.kind == 3 || mm.kind == 6))) := by
            rw [d2, Bool.eq_iff_iff]; simp [and_assoc]
          clear d2
          have d2 := e2
          clear e2
          have hgd0 := rmailGood_any mm n
          clear HD
          cases ht : (mm.to == self)
          case false =>
            obtain rfl : ok = false := by rw [d2, ht]; rfl
            clear d2 d3 hgd0
            go_upto_region 16 with fail
            have FS : ∀ W' R', Sts W (fun k => k = 0) W' (rowR gz (MV out) :: rowR gy (NV was) :: rowR gm (MV mm) :: R') → (row? W' gy = some (NV was) ∧ row? W' gm = some (MV mm)) := fun W' R' T => ⟨T.row1, T.row2⟩
            have S0 := FS _ _ HT.out.drew
            have HFS := Lib.hid FS
            have HT8 := Lib.hid (HT.out.drew.ord [4, 5, 6, 7, 0, 1, 2, 3])
            clear FS HT rz lz cz ry ly cy rm lm cm
            refine wp_region_held_drew (S := fun W' => (row? W' gy = some (NV was) ∧ row? W' gm = some (MV mm))) (by kernel_rfl) S0 (fun hHeld => ?_)
            clear S0
            refine wpAnyH_take (i := 0) (oi := _) (v := ?_) rfl (by kernel_rfl) (by kernel_rfl) (by kernel_rfl) (fun _ _ _ h => h) (Or.inl ⟨by kernel_rfl, ?_⟩) (by assumption) ?_
            rotate_left
            · (intro w hSw; (try dsimp only at hSw); go_simp; try (with_reducible rfl))
            simp only [Act.put, List.getElem_toArray, List.getElem_cons_zero, List.setIfInBounds_toArray, List.set_cons_zero, List.set_cons_succ]
            refine wpAnyH_take (i := 1) (oi := _) (v := ?_) rfl (by kernel_rfl) (by kernel_rfl) (by kernel_rfl) (fun _ _ _ h => h) (Or.inl ⟨by kernel_rfl, ?_⟩) (by assumption) ?_
            rotate_left
            · (intro w hSw; (try dsimp only at hSw); go_simp; try (with_reducible rfl))
            simp only [Act.put, List.getElem_toArray, List.getElem_cons_succ, List.getElem_cons_zero, List.setIfInBounds_toArray, List.set_cons_zero, List.set_cons_succ]
            refine wpAnyH_take (i := 2) (oi := _) (v := ?_) rfl (by kernel_rfl) (by kernel_rfl) (by kernel_rfl) (fun _ _ _ h => h) (Or.inl ⟨by kernel_rfl, ?_⟩) (by assumption) ?_
            rotate_left
            · (intro w hSw; (try dsimp only at hSw); go_simp; try (with_reducible rfl))
            simp only [Act.put, List.getElem_toArray, List.getElem_cons_succ, List.getElem_cons_zero, List.setIfInBounds_toArray, List.set_cons_zero, List.set_cons_succ]
            refine wpAnyH_take (i := 4) (oi := _) (v := ?_) rfl (by kernel_rfl) (by kernel_rfl) (by kernel_rfl) (fun _ _ _ h => h) (Or.inl ⟨by kernel_rfl, ?_⟩) (by assumption) ?_
            rotate_left
            · (intro w hSw; (try dsimp only at hSw); go_simp; try (with_reducible rfl))
            simp only [Act.put, List.getElem_toArray, List.getElem_cons_succ, List.getElem_cons_zero, List.setIfInBounds_toArray, List.set_cons_zero, List.set_cons_succ]
            refine wpAnyH_ready (rs := [3]) (by kernel_rfl) (by simp) ?_
            refine AllReadyH.cons (o := _) rfl (fun K hK => ?_) AllReadyH.nil
            go_simp
            refine (HAT.out _ [rowR gz (MV out), rowR gy (NV was), rowR gm (MV mm), kndR t] HT8.out).mono ?_
            clear HT8 HAT
            rintro e w9 ⟨rfl, T⟩
            have T1 : Sts W (fun k => k = 0) w9 (idxR s lg bk bs I2 :: rowR lg (ledCells p g m2.n) :: plR p D2 safe2 :: rowsIR g m2 :: rowR gz (MV out) :: rowR gy (NV was) :: rowR gm (MV mm) :: kndR t :: []) := T
            have T2 := T1.ord [4, 5, 6, 7, 0, 1, 2, 3]
            refine hK.out _ _ (HFS.out _ _ T2) (fun hHeld => ?_)
            clear hK K HFS
            have HT := Lib.hid T2
            have rz := T2.row; have lz := row_lt rz; have cz := row_cell rz
            have ry := T2.row1; have ly := row_lt ry; have cy := row_cell ry
            have rm := T2.row2; have lm := row_lt rm; have cm := row_cell rm
            clear T T1 T2
            refine wpAnyH_take (i := 5) (oi := _) (v := ?_) rfl (by kernel_rfl) (by kernel_rfl) (by kernel_rfl) (fun _ _ _ h => h) (Or.inl ⟨by kernel_rfl, ?_⟩) (by assumption) ?_
            rotate_left
            · (intro w hSw; (try dsimp only at hSw); go_simp; try (with_reducible rfl))
            simp only [Act.put, List.getElem_toArray, List.getElem_cons_succ, List.getElem_cons_zero, List.setIfInBounds_toArray, List.set_cons_zero, List.set_cons_succ]
            refine wpAnyH_take (i := 6) (oi := _) (v := ?_) rfl (by kernel_rfl) (by kernel_rfl) (by kernel_rfl) (fun _ _ _ h => h) (Or.inl ⟨by kernel_rfl, ?_⟩) (by assumption) ?_
            rotate_left
            · (intro w hSw; (try dsimp only at hSw); go_simp; try (with_reducible rfl))
            simp only [Act.put, List.getElem_toArray, List.getElem_cons_succ, List.getElem_cons_zero, List.setIfInBounds_toArray, List.set_cons_zero, List.set_cons_succ]
            refine wpAnyH_take (i := 7) (oi := _) (v := ?_) rfl (by kernel_rfl) (by kernel_rfl) (by kernel_rfl) (fun _ _ _ h => h) (Or.inl ⟨by kernel_rfl, ?_⟩) (by assumption) ?_
            rotate_left
            · (intro w hSw; (try dsimp only at hSw); go_simp; try (with_reducible rfl))
            simp only [Act.put, List.getElem_toArray, List.getElem_cons_succ, List.getElem_cons_zero, List.setIfInBounds_toArray, List.set_cons_zero, List.set_cons_succ]
            refine wpAnyH_take (i := 8) (oi := _) (v := ?_) rfl (by kernel_rfl) (by kernel_rfl) (by kernel_rfl) (fun _ _ _ h => h) (Or.inl ⟨by kernel_rfl, ?_⟩) (by assumption) ?_
            rotate_left
            · (intro w hSw; (try dsimp only at hSw); go_simp; try (with_reducible rfl))
            simp only [Act.put, List.getElem_toArray, List.getElem_cons_succ, List.getElem_cons_zero, List.setIfInBounds_toArray, List.set_cons_zero, List.set_cons_succ]
            refine wpAnyH_take (i := 9) (oi := _) (v := ?_) rfl (by kernel_rfl) (by kernel_rfl) (by kernel_rfl) (fun _ _ _ h => h) (Or.inl ⟨by kernel_rfl, ?_⟩) (by assumption) ?_
            rotate_left
            · (intro w hSw; (try dsimp only at hSw); go_simp; try (with_reducible rfl))
            simp only [Act.put, List.getElem_toArray, List.getElem_cons_succ, List.getElem_cons_zero, List.setIfInBounds_toArray, List.set_cons_zero, List.set_cons_succ]
            refine wpAnyH_take (i := 10) (oi := _) (v := ?_) rfl (by kernel_rfl) (by kernel_rfl) (by kernel_rfl) (fun _ _ _ h => h) (Or.inl ⟨by kernel_rfl, ?_⟩) (by assumption) ?_
            rotate_left
            · (intro w hSw; (try dsimp only at hSw); go_simp; try (with_reducible rfl))
            simp only [Act.put, List.getElem_toArray, List.getElem_cons_succ, List.getElem_cons_zero, List.setIfInBounds_toArray, List.set_cons_zero, List.set_cons_succ]
            refine wpAnyH_done (by kernel_rfl) ?_ _
            simp only [Exit.then]
            go_wp2
            go_ret
            exact ⟨rfl, HB.out _ _ HT.out.drop.drop.drop⟩
          case true =>
            cases hgd : goodM mm n
            case false =>
              obtain rfl : ok = false := by rw [d2, ht, hgd]; rfl
              rw [hgd] at hgd0
              have HG := Lib.hid hgd0
              clear d2 d3 hgd0
              go_wp2_with fail
              refine (Ans.at HG.out HT.out).mono ?_
              clear HG HT rz lz cz ry ly cy rm lm cm
              rintro e w7 ⟨rfl, T⟩
              have rz := T.row; have lz := row_lt rz; have cz := row_cell rz
              have ry := T.row1; have ly := row_lt ry; have cy := row_cell ry
              have rm := T.row2; have lm := row_lt rm; have cm := row_cell rm
              have HT := Lib.hid T; clear T
              go_upto_region 16 with fail
              have FS : ∀ W' R', Sts W (fun k => k = 0) W' (rowR gz (MV out) :: rowR gy (NV was) :: rowR gm (MV mm) :: R') → (row? W' gy = some (NV was) ∧ row? W' gm = some (MV mm)) := fun W' R' T => ⟨T.row1, T.row2⟩
              have S0 := FS _ _ HT.out.drew
              have HFS := Lib.hid FS
              have HT8 := Lib.hid (HT.out.drew.ord [4, 5, 6, 7, 0, 1, 2, 3])
              clear FS HT rz lz cz ry ly cy rm lm cm
              refine wp_region_held_drew (S := fun W' => (row? W' gy = some (NV was) ∧ row? W' gm = some (MV mm))) (by kernel_rfl) S0 (fun hHeld => ?_)
              clear S0
              refine wpAnyH_take (i := 0) (oi := _) (v := ?_) rfl (by kernel_rfl) (by kernel_rfl) (by kernel_rfl) (fun _ _ _ h => h) (Or.inl ⟨by kernel_rfl, ?_⟩) (by assumption) ?_
              rotate_left
              · (intro w hSw; (try dsimp only at hSw); go_simp; try (with_reducible rfl))
              simp only [Act.put, List.getElem_toArray, List.getElem_cons_zero, List.setIfInBounds_toArray, List.set_cons_zero, List.set_cons_succ]
              refine wpAnyH_take (i := 1) (oi := _) (v := ?_) rfl (by kernel_rfl) (by kernel_rfl) (by kernel_rfl) (fun _ _ _ h => h) (Or.inl ⟨by kernel_rfl, ?_⟩) (by assumption) ?_
              rotate_left
              · (intro w hSw; (try dsimp only at hSw); go_simp; try (with_reducible rfl))
              simp only [Act.put, List.getElem_toArray, List.getElem_cons_succ, List.getElem_cons_zero, List.setIfInBounds_toArray, List.set_cons_zero, List.set_cons_succ]
              refine wpAnyH_take (i := 2) (oi := _) (v := ?_) rfl (by kernel_rfl) (by kernel_rfl) (by kernel_rfl) (fun _ _ _ h => h) (Or.inl ⟨by kernel_rfl, ?_⟩) (by assumption) ?_
              rotate_left
              · (intro w hSw; (try dsimp only at hSw); go_simp; try (with_reducible rfl))
              simp only [Act.put, List.getElem_toArray, List.getElem_cons_succ, List.getElem_cons_zero, List.setIfInBounds_toArray, List.set_cons_zero, List.set_cons_succ]
              refine wpAnyH_take (i := 4) (oi := _) (v := ?_) rfl (by kernel_rfl) (by kernel_rfl) (by kernel_rfl) (fun _ _ _ h => h) (Or.inl ⟨by kernel_rfl, ?_⟩) (by assumption) ?_
              rotate_left
              · (intro w hSw; (try dsimp only at hSw); go_simp; try (with_reducible rfl))
              simp only [Act.put, List.getElem_toArray, List.getElem_cons_succ, List.getElem_cons_zero, List.setIfInBounds_toArray, List.set_cons_zero, List.set_cons_succ]
              refine wpAnyH_ready (rs := [3]) (by kernel_rfl) (by simp) ?_
              refine AllReadyH.cons (o := _) rfl (fun K hK => ?_) AllReadyH.nil
              go_simp
              refine (HAT.out _ [rowR gz (MV out), rowR gy (NV was), rowR gm (MV mm), kndR t] HT8.out).mono ?_
              clear HT8 HAT
              rintro e w9 ⟨rfl, T⟩
              have T1 : Sts W (fun k => k = 0) w9 (idxR s lg bk bs I2 :: rowR lg (ledCells p g m2.n) :: plR p D2 safe2 :: rowsIR g m2 :: rowR gz (MV out) :: rowR gy (NV was) :: rowR gm (MV mm) :: kndR t :: []) := T
              have T2 := T1.ord [4, 5, 6, 7, 0, 1, 2, 3]
              refine hK.out _ _ (HFS.out _ _ T2) (fun hHeld => ?_)
              clear hK K HFS
              have HT := Lib.hid T2
              have rz := T2.row; have lz := row_lt rz; have cz := row_cell rz
              have ry := T2.row1; have ly := row_lt ry; have cy := row_cell ry
              have rm := T2.row2; have lm := row_lt rm; have cm := row_cell rm
              clear T T1 T2
              refine wpAnyH_take (i := 5) (oi := _) (v := ?_) rfl (by kernel_rfl) (by kernel_rfl) (by kernel_rfl) (fun _ _ _ h => h) (Or.inl ⟨by kernel_rfl, ?_⟩) (by assumption) ?_
              rotate_left
              · (intro w hSw; (try dsimp only at hSw); go_simp; try (with_reducible rfl))
              simp only [Act.put, List.getElem_toArray, List.getElem_cons_succ, List.getElem_cons_zero, List.setIfInBounds_toArray, List.set_cons_zero, List.set_cons_succ]
              refine wpAnyH_take (i := 6) (oi := _) (v := ?_) rfl (by kernel_rfl) (by kernel_rfl) (by kernel_rfl) (fun _ _ _ h => h) (Or.inl ⟨by kernel_rfl, ?_⟩) (by assumption) ?_
              rotate_left
              · (intro w hSw; (try dsimp only at hSw); go_simp; try (with_reducible rfl))
              simp only [Act.put, List.getElem_toArray, List.getElem_cons_succ, List.getElem_cons_zero, List.setIfInBounds_toArray, List.set_cons_zero, List.set_cons_succ]
              refine wpAnyH_take (i := 7) (oi := _) (v := ?_) rfl (by kernel_rfl) (by kernel_rfl) (by kernel_rfl) (fun _ _ _ h => h) (Or.inl ⟨by kernel_rfl, ?_⟩) (by assumption) ?_
              rotate_left
              · (intro w hSw; (try dsimp only at hSw); go_simp; try (with_reducible rfl))
              simp only [Act.put, List.getElem_toArray, List.getElem_cons_succ, List.getElem_cons_zero, List.setIfInBounds_toArray, List.set_cons_zero, List.set_cons_succ]
              refine wpAnyH_take (i := 8) (oi := _) (v := ?_) rfl (by kernel_rfl) (by kernel_rfl) (by kernel_rfl) (fun _ _ _ h => h) (Or.inl ⟨by kernel_rfl, ?_⟩) (by assumption) ?_
              rotate_left
              · (intro w hSw; (try dsimp only at hSw); go_simp; try (with_reducible rfl))
              simp only [Act.put, List.getElem_toArray, List.getElem_cons_succ, List.getElem_cons_zero, List.setIfInBounds_toArray, List.set_cons_zero, List.set_cons_succ]
              refine wpAnyH_take (i := 9) (oi := _) (v := ?_) rfl (by kernel_rfl) (by kernel_rfl) (by kernel_rfl) (fun _ _ _ h => h) (Or.inl ⟨by kernel_rfl, ?_⟩) (by assumption) ?_
              rotate_left
              · (intro w hSw; (try dsimp only at hSw); go_simp; try (with_reducible rfl))
              simp only [Act.put, List.getElem_toArray, List.getElem_cons_succ, List.getElem_cons_zero, List.setIfInBounds_toArray, List.set_cons_zero, List.set_cons_succ]
              refine wpAnyH_take (i := 10) (oi := _) (v := ?_) rfl (by kernel_rfl) (by kernel_rfl) (by kernel_rfl) (fun _ _ _ h => h) (Or.inl ⟨by kernel_rfl, ?_⟩) (by assumption) ?_
              rotate_left
              · (intro w hSw; (try dsimp only at hSw); go_simp; try (with_reducible rfl))
              simp only [Act.put, List.getElem_toArray, List.getElem_cons_succ, List.getElem_cons_zero, List.setIfInBounds_toArray, List.set_cons_zero, List.set_cons_succ]
              refine wpAnyH_done (by kernel_rfl) ?_ _
              simp only [Exit.then]
              go_wp2
              go_ret
              exact ⟨rfl, HB.out _ _ HT.out.drop.drop.drop⟩
            case true =>
              rw [hgd] at hgd0
              have HG := Lib.hid hgd0; clear hgd0
              cases k1 : (mm.kind == 1)
              case true =>
                obtain rfl : ok = true := by rw [d2, ht, hgd, k1]; rfl
                obtain ⟨e5, ec, eto⟩ := d3 rfl
                have q5 : (out.kind == 5) = true := by simp [e5]
                have qc : eqA (CV out.call) (CV was.call) = true := by rw [ec]; exact eqA_refl _
                have qt : (out.to == mm.frm) = true := by simp [eto]
                clear d2 d3 e5 ec eto
                go_wp2_with fail
                refine (Ans.at HG.out HT.out).mono ?_
                clear HG HT rz lz cz ry ly cy rm lm cm
                rintro e w7 ⟨rfl, T⟩
                have rz := T.row; have lz := row_lt rz; have cz := row_cell rz
                have ry := T.row1; have ly := row_lt ry; have cy := row_cell ry
                have rm := T.row2; have lm := row_lt rm; have cm := row_cell rm
                have HT := Lib.hid T; clear T
                go_upto_region 16 with fail
                have FS : ∀ W' R', Sts W (fun k => k = 0) W' (rowR gz (MV out) :: rowR gy (NV was) :: rowR gm (MV mm) :: R') → (row? W' gy = some (NV was) ∧ row? W' gm = some (MV mm)) := fun W' R' T => ⟨T.row1, T.row2⟩
                have S0 := FS _ _ HT.out.drew
                have HFS := Lib.hid FS
                have HT8 := Lib.hid (HT.out.drew.ord [4, 5, 6, 7, 0, 1, 2, 3])
                clear FS HT rz lz cz ry ly cy rm lm cm
                refine wp_region_held_drew (S := fun W' => (row? W' gy = some (NV was) ∧ row? W' gm = some (MV mm))) (by kernel_rfl) S0 (fun hHeld => ?_)
                clear S0
                refine wpAnyH_take (i := 0) (oi := _) (v := ?_) rfl (by kernel_rfl) (by kernel_rfl) (by kernel_rfl) (fun _ _ _ h => h) (Or.inl ⟨by kernel_rfl, ?_⟩) (by assumption) ?_
                rotate_left
                · (intro w hSw; (try dsimp only at hSw); go_simp; try (with_reducible rfl))
                simp only [Act.put, List.getElem_toArray, List.getElem_cons_zero, List.setIfInBounds_toArray, List.set_cons_zero, List.set_cons_succ]
                refine wpAnyH_take (i := 1) (oi := _) (v := ?_) rfl (by kernel_rfl) (by kernel_rfl) (by kernel_rfl) (fun _ _ _ h => h) (Or.inl ⟨by kernel_rfl, ?_⟩) (by assumption) ?_
                rotate_left
                · (intro w hSw; (try dsimp only at hSw); go_simp; try (with_reducible rfl))
                simp only [Act.put, List.getElem_toArray, List.getElem_cons_succ, List.getElem_cons_zero, List.setIfInBounds_toArray, List.set_cons_zero, List.set_cons_succ]
                refine wpAnyH_take (i := 2) (oi := _) (v := ?_) rfl (by kernel_rfl) (by kernel_rfl) (by kernel_rfl) (fun _ _ _ h => h) (Or.inl ⟨by kernel_rfl, ?_⟩) (by assumption) ?_
                rotate_left
                · (intro w hSw; (try dsimp only at hSw); go_simp; try (with_reducible rfl))
                simp only [Act.put, List.getElem_toArray, List.getElem_cons_succ, List.getElem_cons_zero, List.setIfInBounds_toArray, List.set_cons_zero, List.set_cons_succ]
                refine wpAnyH_take (i := 4) (oi := _) (v := ?_) rfl (by kernel_rfl) (by kernel_rfl) (by kernel_rfl) (fun _ _ _ h => h) (Or.inl ⟨by kernel_rfl, ?_⟩) (by assumption) ?_
                rotate_left
                · (intro w hSw; (try dsimp only at hSw); go_simp; try (with_reducible rfl))
                simp only [Act.put, List.getElem_toArray, List.getElem_cons_succ, List.getElem_cons_zero, List.setIfInBounds_toArray, List.set_cons_zero, List.set_cons_succ]
                refine wpAnyH_ready (rs := [3]) (by kernel_rfl) (by simp) ?_
                refine AllReadyH.cons (o := _) rfl (fun K hK => ?_) AllReadyH.nil
                go_simp
                refine (HAT.out _ [rowR gz (MV out), rowR gy (NV was), rowR gm (MV mm), kndR t] HT8.out).mono ?_
                clear HT8 HAT
                rintro e w9 ⟨rfl, T⟩
                have T1 : Sts W (fun k => k = 0) w9 (idxR s lg bk bs I2 :: rowR lg (ledCells p g m2.n) :: plR p D2 safe2 :: rowsIR g m2 :: rowR gz (MV out) :: rowR gy (NV was) :: rowR gm (MV mm) :: kndR t :: []) := T
                have T2 := T1.ord [4, 5, 6, 7, 0, 1, 2, 3]
                refine hK.out _ _ (HFS.out _ _ T2) (fun hHeld => ?_)
                clear hK K HFS
                have HT := Lib.hid T2
                have rz := T2.row; have lz := row_lt rz; have cz := row_cell rz
                have ry := T2.row1; have ly := row_lt ry; have cy := row_cell ry
                have rm := T2.row2; have lm := row_lt rm; have cm := row_cell rm
                clear T T1 T2
                refine wpAnyH_take (i := 5) (oi := _) (v := ?_) rfl (by kernel_rfl) (by kernel_rfl) (by kernel_rfl) (fun _ _ _ h => h) (Or.inl ⟨by kernel_rfl, ?_⟩) (by assumption) ?_
                rotate_left
                · (intro w hSw; (try dsimp only at hSw); go_simp; try (with_reducible rfl))
                simp only [Act.put, List.getElem_toArray, List.getElem_cons_succ, List.getElem_cons_zero, List.setIfInBounds_toArray, List.set_cons_zero, List.set_cons_succ]
                refine wpAnyH_take (i := 6) (oi := _) (v := ?_) rfl (by kernel_rfl) (by kernel_rfl) (by kernel_rfl) (fun _ _ _ h => h) (Or.inl ⟨by kernel_rfl, ?_⟩) (by assumption) ?_
                rotate_left
                · (intro w hSw; (try dsimp only at hSw); go_simp; try (with_reducible rfl))
                simp only [Act.put, List.getElem_toArray, List.getElem_cons_succ, List.getElem_cons_zero, List.setIfInBounds_toArray, List.set_cons_zero, List.set_cons_succ]
                refine wpAnyH_take (i := 7) (oi := _) (v := ?_) rfl (by kernel_rfl) (by kernel_rfl) (by kernel_rfl) (fun _ _ _ h => h) (Or.inl ⟨by kernel_rfl, ?_⟩) (by assumption) ?_
                rotate_left
                · (intro w hSw; (try dsimp only at hSw); go_simp; try (with_reducible rfl))
                simp only [Act.put, List.getElem_toArray, List.getElem_cons_succ, List.getElem_cons_zero, List.setIfInBounds_toArray, List.set_cons_zero, List.set_cons_succ]
                refine wpAnyH_take (i := 8) (oi := _) (v := ?_) rfl (by kernel_rfl) (by kernel_rfl) (by kernel_rfl) (fun _ _ _ h => h) (Or.inl ⟨by kernel_rfl, ?_⟩) (by assumption) ?_
                rotate_left
                · (intro w hSw; (try dsimp only at hSw); go_simp; try (with_reducible rfl))
                simp only [Act.put, List.getElem_toArray, List.getElem_cons_succ, List.getElem_cons_zero, List.setIfInBounds_toArray, List.set_cons_zero, List.set_cons_succ]
                refine wpAnyH_take (i := 9) (oi := _) (v := ?_) rfl (by kernel_rfl) (by kernel_rfl) (by kernel_rfl) (fun _ _ _ h => h) (Or.inl ⟨by kernel_rfl, ?_⟩) (by assumption) ?_
                rotate_left
                · (intro w hSw; (try dsimp only at hSw); go_simp; try (with_reducible rfl))
                simp only [Act.put, List.getElem_toArray, List.getElem_cons_succ, List.getElem_cons_zero, List.setIfInBounds_toArray, List.set_cons_zero, List.set_cons_succ]
                refine wpAnyH_take (i := 10) (oi := _) (v := ?_) rfl (by kernel_rfl) (by kernel_rfl) (by kernel_rfl) (fun _ _ _ h => h) (Or.inl ⟨by kernel_rfl, ?_⟩) (by assumption) ?_
                rotate_left
                · (intro w hSw; (try dsimp only at hSw); go_simp; try (with_reducible rfl))
                simp only [Act.put, List.getElem_toArray, List.getElem_cons_succ, List.getElem_cons_zero, List.setIfInBounds_toArray, List.set_cons_zero, List.set_cons_succ]
                refine wpAnyH_done (by kernel_rfl) ?_ _
                simp only [Exit.then]
                go_wp2
                go_ret
                exact ⟨rfl, HB.out _ _ HT.out.drop.drop.drop⟩
              case false =>
                cases k3 : (mm.kind == 3)
                case true =>
                  obtain rfl : ok = true := by rw [d2, ht, hgd, k1, k3]; rfl
                  obtain ⟨e5, ec, eto⟩ := d3 rfl
                  have q5 : (out.kind == 5) = true := by simp [e5]
                  have qc : eqA (CV out.call) (CV was.call) = true := by rw [ec]; exact eqA_refl _
                  have qt : (out.to == mm.frm) = true := by simp [eto]
                  clear d2 d3 e5 ec eto
                  go_wp2_with fail
                  refine (Ans.at HG.out HT.out).mono ?_
                  clear HG HT rz lz cz ry ly cy rm lm cm
                  rintro e w7 ⟨rfl, T⟩
                  have rz := T.row; have lz := row_lt rz; have cz := row_cell rz
                  have ry := T.row1; have ly := row_lt ry; have cy := row_cell ry
                  have rm := T.row2; have lm := row_lt rm; have cm := row_cell rm
                  have HT := Lib.hid T; clear T
                  go_upto_region 16 with fail
                  have FS : ∀ W' R', Sts W (fun k => k = 0) W' (rowR gz (MV out) :: rowR gy (NV was) :: rowR gm (MV mm) :: R') → (row? W' gy = some (NV was) ∧ row? W' gm = some (MV mm)) := fun W' R' T => ⟨T.row1, T.row2⟩
                  have S0 := FS _ _ HT.out.drew
                  have HFS := Lib.hid FS
                  have HT8 := Lib.hid (HT.out.drew.ord [4, 5, 6, 7, 0, 1, 2, 3])
                  clear FS HT rz lz cz ry ly cy rm lm cm
                  refine wp_region_held_drew (S := fun W' => (row? W' gy = some (NV was) ∧ row? W' gm = some (MV mm))) (by kernel_rfl) S0 (fun hHeld => ?_)
                  clear S0
                  refine wpAnyH_take (i := 0) (oi := _) (v := ?_) rfl (by kernel_rfl) (by kernel_rfl) (by kernel_rfl) (fun _ _ _ h => h) (Or.inl ⟨by kernel_rfl, ?_⟩) (by assumption) ?_
                  rotate_left
                  · (intro w hSw; (try dsimp only at hSw); go_simp; try (with_reducible rfl))
                  simp only [Act.put, List.getElem_toArray, List.getElem_cons_zero, List.setIfInBounds_toArray, List.set_cons_zero, List.set_cons_succ]
                  refine wpAnyH_take (i := 1) (oi := _) (v := ?_) rfl (by kernel_rfl) (by kernel_rfl) (by kernel_rfl) (fun _ _ _ h => h) (Or.inl ⟨by kernel_rfl, ?_⟩) (by assumption) ?_
                  rotate_left
                  · (intro w hSw; (try dsimp only at hSw); go_simp; try (with_reducible rfl))
                  simp only [Act.put, List.getElem_toArray, List.getElem_cons_succ, List.getElem_cons_zero, List.setIfInBounds_toArray, List.set_cons_zero, List.set_cons_succ]
                  refine wpAnyH_take (i := 2) (oi := _) (v := ?_) rfl (by kernel_rfl) (by kernel_rfl) (by kernel_rfl) (fun _ _ _ h => h) (Or.inl ⟨by kernel_rfl, ?_⟩) (by assumption) ?_
                  rotate_left
                  · (intro w hSw; (try dsimp only at hSw); go_simp; try (with_reducible rfl))
                  simp only [Act.put, List.getElem_toArray, List.getElem_cons_succ, List.getElem_cons_zero, List.setIfInBounds_toArray, List.set_cons_zero, List.set_cons_succ]
                  refine wpAnyH_take (i := 4) (oi := _) (v := ?_) rfl (by kernel_rfl) (by kernel_rfl) (by kernel_rfl) (fun _ _ _ h => h) (Or.inl ⟨by kernel_rfl, ?_⟩) (by assumption) ?_
                  rotate_left
                  · (intro w hSw; (try dsimp only at hSw); go_simp; try (with_reducible rfl))
                  simp only [Act.put, List.getElem_toArray, List.getElem_cons_succ, List.getElem_cons_zero, List.setIfInBounds_toArray, List.set_cons_zero, List.set_cons_succ]
                  refine wpAnyH_ready (rs := [3]) (by kernel_rfl) (by simp) ?_
                  refine AllReadyH.cons (o := _) rfl (fun K hK => ?_) AllReadyH.nil
                  go_simp
                  refine (HAT.out _ [rowR gz (MV out), rowR gy (NV was), rowR gm (MV mm), kndR t] HT8.out).mono ?_
                  clear HT8 HAT
                  rintro e w9 ⟨rfl, T⟩
                  have T1 : Sts W (fun k => k = 0) w9 (idxR s lg bk bs I2 :: rowR lg (ledCells p g m2.n) :: plR p D2 safe2 :: rowsIR g m2 :: rowR gz (MV out) :: rowR gy (NV was) :: rowR gm (MV mm) :: kndR t :: []) := T
                  have T2 := T1.ord [4, 5, 6, 7, 0, 1, 2, 3]
                  refine hK.out _ _ (HFS.out _ _ T2) (fun hHeld => ?_)
                  clear hK K HFS
                  have HT := Lib.hid T2
                  have rz := T2.row; have lz := row_lt rz; have cz := row_cell rz
                  have ry := T2.row1; have ly := row_lt ry; have cy := row_cell ry
                  have rm := T2.row2; have lm := row_lt rm; have cm := row_cell rm
                  clear T T1 T2
                  refine wpAnyH_take (i := 5) (oi := _) (v := ?_) rfl (by kernel_rfl) (by kernel_rfl) (by kernel_rfl) (fun _ _ _ h => h) (Or.inl ⟨by kernel_rfl, ?_⟩) (by assumption) ?_
                  rotate_left
                  · (intro w hSw; (try dsimp only at hSw); go_simp; try (with_reducible rfl))
                  simp only [Act.put, List.getElem_toArray, List.getElem_cons_succ, List.getElem_cons_zero, List.setIfInBounds_toArray, List.set_cons_zero, List.set_cons_succ]
                  refine wpAnyH_take (i := 6) (oi := _) (v := ?_) rfl (by kernel_rfl) (by kernel_rfl) (by kernel_rfl) (fun _ _ _ h => h) (Or.inl ⟨by kernel_rfl, ?_⟩) (by assumption) ?_
                  rotate_left
                  · (intro w hSw; (try dsimp only at hSw); go_simp; try (with_reducible rfl))
                  simp only [Act.put, List.getElem_toArray, List.getElem_cons_succ, List.getElem_cons_zero, List.setIfInBounds_toArray, List.set_cons_zero, List.set_cons_succ]
                  refine wpAnyH_take (i := 7) (oi := _) (v := ?_) rfl (by kernel_rfl) (by kernel_rfl) (by kernel_rfl) (fun _ _ _ h => h) (Or.inl ⟨by kernel_rfl, ?_⟩) (by assumption) ?_
                  rotate_left
                  · (intro w hSw; (try dsimp only at hSw); go_simp; try (with_reducible rfl))
                  simp only [Act.put, List.getElem_toArray, List.getElem_cons_succ, List.getElem_cons_zero, List.setIfInBounds_toArray, List.set_cons_zero, List.set_cons_succ]
                  refine wpAnyH_take (i := 8) (oi := _) (v := ?_) rfl (by kernel_rfl) (by kernel_rfl) (by kernel_rfl) (fun _ _ _ h => h) (Or.inl ⟨by kernel_rfl, ?_⟩) (by assumption) ?_
                  rotate_left
                  · (intro w hSw; (try dsimp only at hSw); go_simp; try (with_reducible rfl))
                  simp only [Act.put, List.getElem_toArray, List.getElem_cons_succ, List.getElem_cons_zero, List.setIfInBounds_toArray, List.set_cons_zero, List.set_cons_succ]
                  refine wpAnyH_take (i := 9) (oi := _) (v := ?_) rfl (by kernel_rfl) (by kernel_rfl) (by kernel_rfl) (fun _ _ _ h => h) (Or.inl ⟨by kernel_rfl, ?_⟩) (by assumption) ?_
                  rotate_left
                  · (intro w hSw; (try dsimp only at hSw); go_simp; try (with_reducible rfl))
                  simp only [Act.put, List.getElem_toArray, List.getElem_cons_succ, List.getElem_cons_zero, List.setIfInBounds_toArray, List.set_cons_zero, List.set_cons_succ]
                  refine wpAnyH_take (i := 10) (oi := _) (v := ?_) rfl (by kernel_rfl) (by kernel_rfl) (by kernel_rfl) (fun _ _ _ h => h) (Or.inl ⟨by kernel_rfl, ?_⟩) (by assumption) ?_
                  rotate_left
                  · (intro w hSw; (try dsimp only at hSw); go_simp; try (with_reducible rfl))
                  simp only [Act.put, List.getElem_toArray, List.getElem_cons_succ, List.getElem_cons_zero, List.setIfInBounds_toArray, List.set_cons_zero, List.set_cons_succ]
                  refine wpAnyH_done (by kernel_rfl) ?_ _
                  simp only [Exit.then]
                  go_wp2
                  go_ret
                  exact ⟨rfl, HB.out _ _ HT.out.drop.drop.drop⟩
                case false =>
                  cases k6 : (mm.kind == 6)
                  case true =>
                    obtain rfl : ok = true := by rw [d2, ht, hgd, k1, k3, k6]; rfl
                    obtain ⟨e5, ec, eto⟩ := d3 rfl
                    have q5 : (out.kind == 5) = true := by simp [e5]
                    have qc : eqA (CV out.call) (CV was.call) = true := by rw [ec]; exact eqA_refl _
                    have qt : (out.to == mm.frm) = true := by simp [eto]
                    clear d2 d3 e5 ec eto
                    go_wp2_with fail
                    refine (Ans.at HG.out HT.out).mono ?_
                    clear HG HT rz lz cz ry ly cy rm lm cm
                    rintro e w7 ⟨rfl, T⟩
                    have rz := T.row; have lz := row_lt rz; have cz := row_cell rz
                    have ry := T.row1; have ly := row_lt ry; have cy := row_cell ry
                    have rm := T.row2; have lm := row_lt rm; have cm := row_cell rm
                    have HT := Lib.hid T; clear T
                    go_upto_region 16 with fail
                    have FS : ∀ W' R', Sts W (fun k => k = 0) W' (rowR gz (MV out) :: rowR gy (NV was) :: rowR gm (MV mm) :: R') → (row? W' gy = some (NV was) ∧ row? W' gm = some (MV mm)) := fun W' R' T => ⟨T.row1, T.row2⟩
                    have S0 := FS _ _ HT.out.drew
                    have HFS := Lib.hid FS
                    have HT8 := Lib.hid (HT.out.drew.ord [4, 5, 6, 7, 0, 1, 2, 3])
                    clear FS HT rz lz cz ry ly cy rm lm cm
                    refine wp_region_held_drew (S := fun W' => (row? W' gy = some (NV was) ∧ row? W' gm = some (MV mm))) (by kernel_rfl) S0 (fun hHeld => ?_)
                    clear S0
                    refine wpAnyH_take (i := 0) (oi := _) (v := ?_) rfl (by kernel_rfl) (by kernel_rfl) (by kernel_rfl) (fun _ _ _ h => h) (Or.inl ⟨by kernel_rfl, ?_⟩) (by assumption) ?_
                    rotate_left
                    · (intro w hSw; (try dsimp only at hSw); go_simp; try (with_reducible rfl))
                    simp only [Act.put, List.getElem_toArray, List.getElem_cons_zero, List.setIfInBounds_toArray, List.set_cons_zero, List.set_cons_succ]
                    refine wpAnyH_take (i := 1) (oi := _) (v := ?_) rfl (by kernel_rfl) (by kernel_rfl) (by kernel_rfl) (fun _ _ _ h => h) (Or.inl ⟨by kernel_rfl, ?_⟩) (by assumption) ?_
                    rotate_left
                    · (intro w hSw; (try dsimp only at hSw); go_simp; try (with_reducible rfl))
                    simp only [Act.put, List.getElem_toArray, List.getElem_cons_succ, List.getElem_cons_zero, List.setIfInBounds_toArray, List.set_cons_zero, List.set_cons_succ]
                    refine wpAnyH_take (i := 2) (oi := _) (v := ?_) rfl (by kernel_rfl) (by kernel_rfl) (by kernel_rfl) (fun _ _ _ h => h) (Or.inl ⟨by kernel_rfl, ?_⟩) (by assumption) ?_
                    rotate_left
                    · (intro w hSw; (try dsimp only at hSw); go_simp; try (with_reducible rfl))
                    simp only [Act.put, List.getElem_toArray, List.getElem_cons_succ, List.getElem_cons_zero, List.setIfInBounds_toArray, List.set_cons_zero, List.set_cons_succ]
                    refine wpAnyH_take (i := 4) (oi := _) (v := ?_) rfl (by kernel_rfl) (by kernel_rfl) (by kernel_rfl) (fun _ _ _ h => h) (Or.inl ⟨by kernel_rfl, ?_⟩) (by assumption) ?_
                    rotate_left
                    · (intro w hSw; (try dsimp only at hSw); go_simp; try (with_reducible rfl))
                    simp only [Act.put, List.getElem_toArray, List.getElem_cons_succ, List.getElem_cons_zero, List.setIfInBounds_toArray, List.set_cons_zero, List.set_cons_succ]
                    refine wpAnyH_ready (rs := [3]) (by kernel_rfl) (by simp) ?_
                    refine AllReadyH.cons (o := _) rfl (fun K hK => ?_) AllReadyH.nil
                    go_simp
                    refine (HAT.out _ [rowR gz (MV out), rowR gy (NV was), rowR gm (MV mm), kndR t] HT8.out).mono ?_
                    clear HT8 HAT
                    rintro e w9 ⟨rfl, T⟩
                    have T1 : Sts W (fun k => k = 0) w9 (idxR s lg bk bs I2 :: rowR lg (ledCells p g m2.n) :: plR p D2 safe2 :: rowsIR g m2 :: rowR gz (MV out) :: rowR gy (NV was) :: rowR gm (MV mm) :: kndR t :: []) := T
                    have T2 := T1.ord [4, 5, 6, 7, 0, 1, 2, 3]
                    refine hK.out _ _ (HFS.out _ _ T2) (fun hHeld => ?_)
                    clear hK K HFS
                    have HT := Lib.hid T2
                    have rz := T2.row; have lz := row_lt rz; have cz := row_cell rz
                    have ry := T2.row1; have ly := row_lt ry; have cy := row_cell ry
                    have rm := T2.row2; have lm := row_lt rm; have cm := row_cell rm
                    clear T T1 T2
                    refine wpAnyH_take (i := 5) (oi := _) (v := ?_) rfl (by kernel_rfl) (by kernel_rfl) (by kernel_rfl) (fun _ _ _ h => h) (Or.inl ⟨by kernel_rfl, ?_⟩) (by assumption) ?_
                    rotate_left
                    · (intro w hSw; (try dsimp only at hSw); go_simp; try (with_reducible rfl))
                    simp only [Act.put, List.getElem_toArray, List.getElem_cons_succ, List.getElem_cons_zero, List.setIfInBounds_toArray, List.set_cons_zero, List.set_cons_succ]
                    refine wpAnyH_take (i := 6) (oi := _) (v := ?_) rfl (by kernel_rfl) (by kernel_rfl) (by kernel_rfl) (fun _ _ _ h => h) (Or.inl ⟨by kernel_rfl, ?_⟩) (by assumption) ?_
                    rotate_left
                    · (intro w hSw; (try dsimp only at hSw); go_simp; try (with_reducible rfl))
                    simp only [Act.put, List.getElem_toArray, List.getElem_cons_succ, List.getElem_cons_zero, List.setIfInBounds_toArray, List.set_cons_zero, List.set_cons_succ]
                    refine wpAnyH_take (i := 7) (oi := _) (v := ?_) rfl (by kernel_rfl) (by kernel_rfl) (by kernel_rfl) (fun _ _ _ h => h) (Or.inl ⟨by kernel_rfl, ?_⟩) (by assumption) ?_
                    rotate_left
                    · (intro w hSw; (try dsimp only at hSw); go_simp; try (with_reducible rfl))
                    simp only [Act.put, List.getElem_toArray, List.getElem_cons_succ, List.getElem_cons_zero, List.setIfInBounds_toArray, List.set_cons_zero, List.set_cons_succ]
                    refine wpAnyH_take (i := 8) (oi := _) (v := ?_) rfl (by kernel_rfl) (by kernel_rfl) (by kernel_rfl) (fun _ _ _ h => h) (Or.inl ⟨by kernel_rfl, ?_⟩) (by assumption) ?_
                    rotate_left
                    · (intro w hSw; (try dsimp only at hSw); go_simp; try (with_reducible rfl))
                    simp only [Act.put, List.getElem_toArray, List.getElem_cons_succ, List.getElem_cons_zero, List.setIfInBounds_toArray, List.set_cons_zero, List.set_cons_succ]
                    refine wpAnyH_take (i := 9) (oi := _) (v := ?_) rfl (by kernel_rfl) (by kernel_rfl) (by kernel_rfl) (fun _ _ _ h => h) (Or.inl ⟨by kernel_rfl, ?_⟩) (by assumption) ?_
                    rotate_left
                    · (intro w hSw; (try dsimp only at hSw); go_simp; try (with_reducible rfl))
                    simp only [Act.put, List.getElem_toArray, List.getElem_cons_succ, List.getElem_cons_zero, List.setIfInBounds_toArray, List.set_cons_zero, List.set_cons_succ]
                    refine wpAnyH_take (i := 10) (oi := _) (v := ?_) rfl (by kernel_rfl) (by kernel_rfl) (by kernel_rfl) (fun _ _ _ h => h) (Or.inl ⟨by kernel_rfl, ?_⟩) (by assumption) ?_
                    rotate_left
                    · (intro w hSw; (try dsimp only at hSw); go_simp; try (with_reducible rfl))
                    simp only [Act.put, List.getElem_toArray, List.getElem_cons_succ, List.getElem_cons_zero, List.setIfInBounds_toArray, List.set_cons_zero, List.set_cons_succ]
                    refine wpAnyH_done (by kernel_rfl) ?_ _
                    simp only [Exit.then]
                    go_wp2
                    go_ret
                    exact ⟨rfl, HB.out _ _ HT.out.drop.drop.drop⟩
                  case false =>
                    obtain rfl : ok = false := by rw [d2, ht, hgd, k1, k3, k6]; rfl
                    clear d2 d3
                    go_wp2_with fail
                    refine (Ans.at HG.out HT.out).mono ?_
                    clear HG HT rz lz cz ry ly cy rm lm cm
                    rintro e w7 ⟨rfl, T⟩
                    have rz := T.row; have lz := row_lt rz; have cz := row_cell rz
                    have ry := T.row1; have ly := row_lt ry; have cy := row_cell ry
                    have rm := T.row2; have lm := row_lt rm; have cm := row_cell rm
                    have HT := Lib.hid T; clear T
                    go_upto_region 16 with fail
                    have FS : ∀ W' R', Sts W (fun k => k = 0) W' (rowR gz (MV out) :: rowR gy (NV was) :: rowR gm (MV mm) :: R') → (row? W' gy = some (NV was) ∧ row? W' gm = some (MV mm)) := fun W' R' T => ⟨T.row1, T.row2⟩
                    have S0 := FS _ _ HT.out.drew
                    have HFS := Lib.hid FS
                    have HT8 := Lib.hid (HT.out.drew.ord [4, 5, 6, 7, 0, 1, 2, 3])
                    clear FS HT rz lz cz ry ly cy rm lm cm
                    refine wp_region_held_drew (S := fun W' => (row? W' gy = some (NV was) ∧ row? W' gm = some (MV mm))) (by kernel_rfl) S0 (fun hHeld => ?_)
                    clear S0
                    refine wpAnyH_take (i := 0) (oi := _) (v := ?_) rfl (by kernel_rfl) (by kernel_rfl) (by kernel_rfl) (fun _ _ _ h => h) (Or.inl ⟨by kernel_rfl, ?_⟩) (by assumption) ?_
                    rotate_left
                    · (intro w hSw; (try dsimp only at hSw); go_simp; try (with_reducible rfl))
                    simp only [Act.put, List.getElem_toArray, List.getElem_cons_zero, List.setIfInBounds_toArray, List.set_cons_zero, List.set_cons_succ]
                    refine wpAnyH_take (i := 1) (oi := _) (v := ?_) rfl (by kernel_rfl) (by kernel_rfl) (by kernel_rfl) (fun _ _ _ h => h) (Or.inl ⟨by kernel_rfl, ?_⟩) (by assumption) ?_
                    rotate_left
                    · (intro w hSw; (try dsimp only at hSw); go_simp; try (with_reducible rfl))
                    simp only [Act.put, List.getElem_toArray, List.getElem_cons_succ, List.getElem_cons_zero, List.setIfInBounds_toArray, List.set_cons_zero, List.set_cons_succ]
                    refine wpAnyH_take (i := 2) (oi := _) (v := ?_) rfl (by kernel_rfl) (by kernel_rfl) (by kernel_rfl) (fun _ _ _ h => h) (Or.inl ⟨by kernel_rfl, ?_⟩) (by assumption) ?_
                    rotate_left
                    · (intro w hSw; (try dsimp only at hSw); go_simp; try (with_reducible rfl))
                    simp only [Act.put, List.getElem_toArray, List.getElem_cons_succ, List.getElem_cons_zero, List.setIfInBounds_toArray, List.set_cons_zero, List.set_cons_succ]
                    refine wpAnyH_take (i := 4) (oi := _) (v := ?_) rfl (by kernel_rfl) (by kernel_rfl) (by kernel_rfl) (fun _ _ _ h => h) (Or.inl ⟨by kernel_rfl, ?_⟩) (by assumption) ?_
                    rotate_left
                    · (intro w hSw; (try dsimp only at hSw); go_simp; try (with_reducible rfl))
                    simp only [Act.put, List.getElem_toArray, List.getElem_cons_succ, List.getElem_cons_zero, List.setIfInBounds_toArray, List.set_cons_zero, List.set_cons_succ]
                    refine wpAnyH_ready (rs := [3]) (by kernel_rfl) (by simp) ?_
                    refine AllReadyH.cons (o := _) rfl (fun K hK => ?_) AllReadyH.nil
                    go_simp
                    refine (HAT.out _ [rowR gz (MV out), rowR gy (NV was), rowR gm (MV mm), kndR t] HT8.out).mono ?_
                    clear HT8 HAT
                    rintro e w9 ⟨rfl, T⟩
                    have T1 : Sts W (fun k => k = 0) w9 (idxR s lg bk bs I2 :: rowR lg (ledCells p g m2.n) :: plR p D2 safe2 :: rowsIR g m2 :: rowR gz (MV out) :: rowR gy (NV was) :: rowR gm (MV mm) :: kndR t :: []) := T
                    have T2 := T1.ord [4, 5, 6, 7, 0, 1, 2, 3]
                    refine hK.out _ _ (HFS.out _ _ T2) (fun hHeld => ?_)
                    clear hK K HFS
                    have HT := Lib.hid T2
                    have rz := T2.row; have lz := row_lt rz; have cz := row_cell rz
                    have ry := T2.row1; have ly := row_lt ry; have cy := row_cell ry
                    have rm := T2.row2; have lm := row_lt rm; have cm := row_cell rm
                    clear T T1 T2
                    refine wpAnyH_take (i := 5) (oi := _) (v := ?_) rfl (by kernel_rfl) (by kernel_rfl) (by kernel_rfl) (fun _ _ _ h => h) (Or.inl ⟨by kernel_rfl, ?_⟩) (by assumption) ?_
                    rotate_left
                    · (intro w hSw; (try dsimp only at hSw); go_simp; try (with_reducible rfl))
                    simp only [Act.put, List.getElem_toArray, List.getElem_cons_succ, List.getElem_cons_zero, List.setIfInBounds_toArray, List.set_cons_zero, List.set_cons_succ]
                    refine wpAnyH_take (i := 6) (oi := _) (v := ?_) rfl (by kernel_rfl) (by kernel_rfl) (by kernel_rfl) (fun _ _ _ h => h) (Or.inl ⟨by kernel_rfl, ?_⟩) (by assumption) ?_
                    rotate_left
                    · (intro w hSw; (try dsimp only at hSw); go_simp; try (with_reducible rfl))
                    simp only [Act.put, List.getElem_toArray, List.getElem_cons_succ, List.getElem_cons_zero, List.setIfInBounds_toArray, List.set_cons_zero, List.set_cons_succ]
                    refine wpAnyH_take (i := 7) (oi := _) (v := ?_) rfl (by kernel_rfl) (by kernel_rfl) (by kernel_rfl) (fun _ _ _ h => h) (Or.inl ⟨by kernel_rfl, ?_⟩) (by assumption) ?_
                    rotate_left
                    · (intro w hSw; (try dsimp only at hSw); go_simp; try (with_reducible rfl))
                    simp only [Act.put, List.getElem_toArray, List.getElem_cons_succ, List.getElem_cons_zero, List.setIfInBounds_toArray, List.set_cons_zero, List.set_cons_succ]
                    refine wpAnyH_take (i := 8) (oi := _) (v := ?_) rfl (by kernel_rfl) (by kernel_rfl) (by kernel_rfl) (fun _ _ _ h => h) (Or.inl ⟨by kernel_rfl, ?_⟩) (by assumption) ?_
                    rotate_left
                    · (intro w hSw; (try dsimp only at hSw); go_simp; try (with_reducible rfl))
                    simp only [Act.put, List.getElem_toArray, List.getElem_cons_succ, List.getElem_cons_zero, List.setIfInBounds_toArray, List.set_cons_zero, List.set_cons_succ]
                    refine wpAnyH_take (i := 9) (oi := _) (v := ?_) rfl (by kernel_rfl) (by kernel_rfl) (by kernel_rfl) (fun _ _ _ h => h) (Or.inl ⟨by kernel_rfl, ?_⟩) (by assumption) ?_
                    rotate_left
                    · (intro w hSw; (try dsimp only at hSw); go_simp; try (with_reducible rfl))
                    simp only [Act.put, List.getElem_toArray, List.getElem_cons_succ, List.getElem_cons_zero, List.setIfInBounds_toArray, List.set_cons_zero, List.set_cons_succ]
                    refine wpAnyH_take (i := 10) (oi := _) (v := ?_) rfl (by kernel_rfl) (by kernel_rfl) (by kernel_rfl) (fun _ _ _ h => h) (Or.inl ⟨by kernel_rfl, ?_⟩) (by assumption) ?_
                    rotate_left
                    · (intro w hSw; (try dsimp only at hSw); go_simp; try (with_reducible rfl))
                    simp only [Act.put, List.getElem_toArray, List.getElem_cons_succ, List.getElem_cons_zero, List.setIfInBounds_toArray, List.set_cons_zero, List.set_cons_succ]
                    refine wpAnyH_done (by kernel_rfl) ?_ _
                    simp only [Exit.then]
                    go_wp2
                    go_ret
                    exact ⟨rfl, HB.out _ _ HT.out.drop.drop.drop⟩
end Go.Proofs.YtfgacjglfdehbaaDoor
