/- Several texts in one. -/
import Derived.Test.YtpganpiidgkofaaX39
import Derived.Test.YtpganpiidgkofaaX9
import Derived.Test.YtpganpiidgkofaaX37
/- SpaceSecond: of two deeds that clash the one that is known second has the first one in its way, with a greater rank. -/
namespace Go.Proofs.Ytpganpiidgkofaa
open Go.RowKit
set_option linter.unusedVariables false
set_option maxRecDepth 20000
attribute [local go_sem] row_alloc row_drew row_drewN row_ext row_setCell row_setRow size_ext setRow_alloc setRow_drew loadOf storeOf piece_lit loadVal_at storeVal_at allOne_lit buildOf buildRes_some
attribute [local go_sem high] cell_alloc frozen_alloc setCell_alloc cell_ext frozen_ext cell_setRow frozen_setRow
attribute [local go_sem ↓] TDeed_ld0 TDeed_st0 TDeed_fd0 TDeed_bd0
attribute [local go_sem] TDeed_size TDeed_one TDeed_piece TDeed_c0 TDeed_c1 TDeed_c2 TDeed_c3 TDeed_c4 TDeed_c5 TDeed_set_kind TDeed_set_key TDeed_set_val TDeed_set_ver TDeed_set_ses TDeed_set_num TDeed_ld TDeed_st TDeed_f_kind TDeed_f_key TDeed_f_val TDeed_f_ver TDeed_f_ses TDeed_f_num TDeed_bd TDeed_fl TDeed_fl_kind TDeed_fl_key TDeed_fl_val TDeed_fl_ver TDeed_fl_ses TDeed_fl_num
attribute [local go_sem high] TDeed_eql TDeed_neq
attribute [local go_sem ↓] index_deps0 load_deps0 store_deps0
attribute [local go_sem] DV_piece DV_size DV_one index_deps load_deps store_deps
attribute [local go_sem high] TDeps_eql TDeps_neq
attribute [local go_sem ↓] TCall_ld0 TCall_st0 TCall_fd0 TCall_bd0
attribute [local go_sem] TCall_size TCall_one TCall_piece TCall_c0 TCall_c1 TCall_c2 TCall_c3 TCall_c4 TCall_c5 TCall_c6 TCall_c7 TCall_c8 TCall_c9 TCall_c10 TCall_c11 TCall_c12 TCall_c13 TCall_p_deed TCall_put_deed TCall_p_deps TCall_put_deps TCall_set_seq TCall_ld TCall_st TCall_f_deed TCall_f_deps TCall_f_seq TCall_bd TCall_fl TCall_fl_deed TCall_fl_deps TCall_fl_seq
attribute [local go_sem high] TCall_eql TCall_neq
attribute [local go_sem ↓] TItem_ld0 TItem_st0 TItem_fd0 TItem_bd0
attribute [local go_sem] TItem_size TItem_one TItem_piece TItem_c0 TItem_c1 TItem_set_rep TItem_set_num TItem_ld TItem_st TItem_f_rep TItem_f_num TItem_bd TItem_fl TItem_fl_rep TItem_fl_num
attribute [local go_sem high] TItem_eql TItem_neq
attribute [local go_sem ↓] TBallot_ld0 TBallot_st0 TBallot_fd0 TBallot_bd0
attribute [local go_sem] TBallot_size TBallot_one TBallot_piece TBallot_c0 TBallot_c1 TBallot_set_round TBallot_set_rep TBallot_ld TBallot_st TBallot_f_round TBallot_f_rep TBallot_bd TBallot_fl TBallot_fl_round TBallot_fl_rep
attribute [local go_sem high] TBallot_eql TBallot_neq
attribute [local go_sem ↓] TInst_ld0 TInst_st0 TInst_fd0 TInst_bd0
attribute [local go_sem] TInst_size TInst_one TInst_piece TInst_c0 TInst_c1 TInst_c2 TInst_c3 TInst_c4 TInst_c5 TInst_c6 TInst_c7 TInst_c8 TInst_c9 TInst_c10 TInst_c11 TInst_c12 TInst_c13 TInst_c14 TInst_c15 TInst_c16 TInst_c17 TInst_c18 TInst_c19 TInst_p_prom TInst_put_prom TInst_p_vote TInst_put_vote TInst_set_status TInst_p_call TInst_put_call TInst_set_same TInst_ld TInst_st TInst_f_prom TInst_f_vote TInst_f_status TInst_f_call TInst_f_same TInst_bd TInst_fl TInst_fl_prom TInst_fl_vote TInst_fl_status TInst_fl_call TInst_fl_same
attribute [local go_sem high] TInst_eql TInst_neq
attribute [local go_sem ↓] TSCall_ld0 TSCall_st0 TSCall_fd0 TSCall_bd0
attribute [local go_sem] TSCall_size TSCall_one TSCall_piece TSCall_c0 TSCall_c1 TSCall_c2 TSCall_c3 TSCall_c4 TSCall_c5 TSCall_c6 TSCall_c7 TSCall_c8 TSCall_c9 TSCall_c10 TSCall_c11 TSCall_c12 TSCall_c13 TSCall_c14 TSCall_c15 TSCall_c16 TSCall_c17 TSCall_c18 TSCall_c19 TSCall_c20 TSCall_c21 TSCall_c22 TSCall_c23 TSCall_c24 TSCall_set_kind TSCall_p_item TSCall_put_item TSCall_p_inst TSCall_put_inst TSCall_set_keep TSCall_set_spoil TSCall_ld TSCall_st TSCall_f_kind TSCall_f_item TSCall_f_inst TSCall_f_keep TSCall_f_spoil TSCall_bd TSCall_fl TSCall_fl_kind TSCall_fl_item TSCall_fl_inst TSCall_fl_keep TSCall_fl_spoil
attribute [local go_sem high] TSCall_eql TSCall_neq
theorem wayK_hit {m : RowsM} (hm : RowsOk m) (hg : RowsGood m) {d : Deed} {but x : Item} {i : Inst} (hx : getM m x = some i) (hne : eqA (IV x) (IV but) = false) (hc : clashB i.call.deed d = true) :
    (0 ≤ x.rep ∧ x.rep < 7) ∧ x.num ≤ (wayK m d but).out x.rep.toNat ∧ ((wayK m d but).seq > i.call.seq ∨ (i.call.seq = 1099511627776 ∧ (wayK m d but).seq = 1099511627776)) := by
  have hmem : x ∈ (ents m).map Prod.fst := List.mem_map.2 ⟨_, ents_has hm hx, rfl⟩
  have hd : (getM m x).getD noInst = i := by rw [hx]; rfl
  have hh : hitG (getM m) d but x := ⟨hne, by rw [hd]; exact hc⟩
  have hgi := getM_good hx
  unfold goodI at hgi
  rw [decide_eq_true_iff] at hgi
  have hn := hm.n
  have hsq := seq_good hg hx
  have h1 : outG (getM m) d but x.rep.toNat x ≤ mx (outG (getM m) d but x.rep.toNat) ((ents m).map Prod.fst) := mx_ge hmem
  have h2 : seqG (getM m) d but x ≤ mx (seqG (getM m) d but) ((ents m).map Prod.fst) := mx_ge hmem
  have e1 : outG (getM m) d but x.rep.toNat x = x.num := by unfold outG; rw [if_pos ⟨hh, by omega⟩]
  have e2 : seqG (getM m) d but x = lowI (i.call.seq + 1) 1099511627776 := by unfold seqG; rw [if_pos hh, hd]
  have h3 : mx (seqG (getM m) d but) ((ents m).map Prod.fst) ≤ 1099511627776 := mx_le (by omega) fun y _ => by
    unfold seqG lowI
    (repeat' split) <;> omega
  rw [e1] at h1
  rw [e2] at h2
  refine ⟨by omega, h1, ?_⟩
  show mx (seqG (getM m) d but) ((ents m).map Prod.fst) > i.call.seq ∨ _ ∧ mx (seqG (getM m) d but) ((ents m).map Prod.fst) = _
  unfold lowI at h2
  split at h2 <;> omega
def overDC (d : Deed) (c : Call) : Bool := decide ((200 : Int) < (d.key.size : Int) + (d.val.size : Int) + (c.deed.key.size : Int) + (c.deed.val.size : Int))
def known1 (c : Call) : Inst := { noInst with status := 1, call := c }
set_option maxHeartbeats 8000000 in
theorem law_second (n : Int) (A : Option Addr) (cc : Nat) (l : List SCall) (x y : Item) (c : Call) (d : Deed) (W : World) (hl : RowsIn W A 25 SCV l) (hf : FitS l) (hkp : SFits l)
    (hdk : d.key.size ≤ 140737488351232) (hdv : d.val.size ≤ 140737488351232) (hds : intKOk d.ses) (hck : c.deed.key.size ≤ 140737488351232) (hcv : c.deed.val.size ≤ 140737488351232) :
    Calls Try.prog 11 #[.int .i64 n, .slice A l.length cc, .agg (IV x), .agg (IV y), .agg (CV c), .agg (EV d)] W fun e W' => e = .returned (.bool true) ∧ Below W.heap.size W W' := by
  have HT9 := alive12
  have hlen := hl.len
  go_enter Try.func11, Try.ntmps11
  have T := ((((Sts.start0 W).new (IV x) 42).new (IV y) 42).new (CV c) 37).new (EV d) 33
  simp only [World.size_alloc] at T
  have HT := Lib.hid T; clear T
  go_wp2_with fail
  refine (HT9 _).mono ?_
  rintro e w1 ⟨rfl, hb⟩
  have T := HT.out.pure hb
  clear hb HT9 HT
  generalize W.heap.size + 1 + 1 + 1 = gd at *
  generalize W.heap.size + 1 + 1 = gc at *
  generalize W.heap.size + 1 = gy at *
  generalize hg6 : W.heap.size = gx at *
  have HT := Lib.hid T; clear T
  go_wp2_with fail
  refine (great12 A cc l W w1 _ hl hf HT.out).mono ?_
  clear HT
  rintro e w2 ⟨rfl, T⟩
  have HT := Lib.hid T; clear T
  have rd := HT.out.row; have ld := row_lt rd; have cd := row_cell rd
  have rc := HT.out.row1; have lc := row_lt rc; have c2 := row_cell rc
  have h1 : (d.key.size : Int) ≤ 140737488351232 := by omega
  have h2 : (d.val.size : Int) ≤ 140737488351232 := by omega
  have h3 : (c.deed.key.size : Int) ≤ 140737488351232 := by omega
  have h4 : (c.deed.val.size : Int) ≤ 140737488351232 := by omega
  cases hg : greatS l
  case true =>
    go_wp2
    go_ret
    exact ⟨rfl, by first | exact HT.out.below | (rw [hg6]; exact HT.out.below) | (rw [← hg6]; exact HT.out.below)⟩
  case false =>
    cases hov : overDC d c
    case true =>
      have hov' : decide ((200 : Int) < (d.key.size : Int) + (d.val.size : Int) + (c.deed.key.size : Int) + (c.deed.val.size : Int)) = true := hov
      go_wp2
      go_ret
      exact ⟨rfl, by first | exact HT.out.below | (rw [hg6]; exact HT.out.below) | (rw [← hg6]; exact HT.out.below)⟩
    case false =>
      have hov' : decide ((200 : Int) < (d.key.size : Int) + (d.val.size : Int) + (c.deed.key.size : Int) + (c.deed.val.size : Int)) = false := hov
      have hpl := playT n A cc l (great_60 hg) W w2 _ hl hkp HT.out
      have HPL := Lib.hid hpl; clear hpl HT
      go_wp2_with fail
      refine HPL.out.mono ?_
      clear HPL hov' h1 h2 h3 h4 rd ld cd rc lc c2
      rintro e w3 (⟨hs, b, rfl, T⟩ | ⟨hs, s, lg, p, g, bk, bs, I, D, safe, m, b, B, rfl, hI, hB, T⟩)
      · have HT := Lib.hid T; clear T
        go_wp2
        go_ret
        exact ⟨rfl, by first | exact HT.out.below | (rw [hg6]; exact HT.out.below) | (rw [← hg6]; exact HT.out.below)⟩
      · have T : Sts W (fun _ => False) w3 (idxR s lg bk bs I :: rowR lg (ledCells p g m.n) :: plR p D safe :: rowsIR g m :: bookR b B :: rowR gd (EV d) :: rowR gc (CV c) :: rowR gy (IV y) :: rowR gx (IV x) :: []) := T
        have rx := (T.ord [8, 0, 1, 2, 3, 4, 5, 6, 7]).row; have lx := row_lt rx
        have ry := (T.ord [7, 0, 1, 2, 3, 4, 5, 6, 8]).row; have ly := row_lt ry
        have rc := (T.ord [6, 0, 1, 2, 3, 4, 5, 7, 8]).row; have lc := row_lt rc
        cases hxy : eqA (IV x) (IV y)
        case true =>
          have HT := Lib.hid T; clear T
          go_wp2
          go_ret
          exact ⟨rfl, by first | exact HT.out.below | (rw [hg6]; exact HT.out.below) | (rw [← hg6]; exact HT.out.below)⟩
        case false =>
          have hkn := spKnowD s lg p g bk bs I hI.idx (by have := hI.N; omega) D safe m hI.ok hI.good hI.len x (known1 c)
          have hI2 := hI.know (by omega) safe x (known1 c)
          have hhit : (addM D safe m x (known1 c)).2.2.2 = 0 → getM (addM D safe m x (known1 c)).2.2.1 x = some (known1 c) := fun h0 => by
            rcases add_rows (D := D) (safe := safe) (m := m) x (known1 c) with ⟨_, hm⟩ | ⟨h1, _⟩
            · rw [hm]; exact getM_set_same _ (addM_good h0).1
            · exact absurd h0 h1
          generalize knowI I D safe m x (known1 c) = I2 at *
          generalize addM D safe m x (known1 c) = q at *
          obtain ⟨D2, f2, m2, e2⟩ := q
          dsimp only at hkn hI2 hhit
          have HKN := Lib.hid hkn; have HI2 := Lib.hid hI2; have HH := Lib.hid hhit
          have HT := Lib.hid (show Sts W (fun _ => False) w3 (spL s lg p g bk bs I D safe m ++ [bookR b B, rowR gd (EV d), rowR gc (CV c), rowR gy (IV y), rowR gx (IV x)]) from T)
          clear hkn hI2 hhit hI hB T
          go_wp2_with fail
          refine (Does.at HKN.out HT.out).mono ?_
          clear HKN HT rx lx ry ly rc lc
          rintro e w4 ⟨rfl, T⟩
          have T : Sts W (fun _ => False) w4 (idxR s lg bk bs I2 :: rowR lg (ledCells p g m2.n) :: plR p D2 f2 :: rowsIR g m2 :: bookR b B :: rowR gd (EV d) :: rowR gc (CV c) :: rowR gy (IV y) :: rowR gx (IV x) :: []) := T
          have HT := Lib.hid T; clear T
          cases he : (e2 != 0)
          case true =>
            go_wp2
            go_ret
            exact ⟨rfl, by first | exact HT.out.below | (rw [hg6]; exact HT.out.below) | (rw [← hg6]; exact HT.out.below)⟩
          case false =>
            have h0 : e2 = 0 := by simpa using he
            have ry := (HT.out.ord [7, 0, 1, 2, 3, 4, 5, 6, 8]).row; have ly := row_lt ry
            have rd := (HT.out.ord [5, 0, 1, 2, 3, 4, 6, 7, 8]).row; have ld := row_lt rd
            have hwy := spWay (R := [bookR b B, rowR gd (EV d), rowR gc (CV c), rowR gy (IV y), rowR gx (IV x)]) HI2.out.ok HI2.out.good HI2.out.idx HI2.out.cov d y (by unfold maxLen; omega) hds HT.out
            have HWY := Lib.hid hwy; clear hwy HT
            go_wp2_with fail
            refine HWY.out.mono ?_
            clear HWY ry ly rd ld
            rintro e w5 ⟨rfl, T⟩
            have T : Sts W (fun _ => False) w5 (idxR s lg bk bs I2 :: rowR lg (ledCells p g m2.n) :: plR p D2 f2 :: rowsIR g m2 :: bookR b B :: rowR gd (EV d) :: rowR gc (CV c) :: rowR gy (IV y) :: rowR gx (IV x) :: []) := T
            have T2 := T.new (DV (wayK m2 d y).out) 35
            have rd := (T2.ord [6, 0, 1, 2, 3, 4, 5, 7, 8, 9]).row; have ld := row_lt rd
            have rc := (T2.ord [7, 0, 1, 2, 3, 4, 5, 6, 8, 9]).row; have lc := row_lt rc
            have hcl := rclash_any c.deed d (by unfold maxLen; omega) (by unfold maxLen; omega)
            have hway : clashB c.deed d = true → _ := fun hc => wayK_hit HI2.out.ok HI2.out.good (d := d) (but := y) (HH.out h0) hxy hc
            generalize wayK m2 d y = q at *
            have HCL := Lib.hid hcl; have HWAY := Lib.hid hway; have HT := Lib.hid T2
            clear hcl hway T T2
            go_wp2_with fail
            refine (Ans.at HCL.out HT.out).mono ?_
            clear HT HCL rd ld rc lc
            rintro e w6 ⟨rfl, T⟩
            have HT := Lib.hid T; clear T
            cases hc : clashB c.deed d
            case false =>
              go_wp2
              go_ret
              exact ⟨rfl, by first | exact HT.out.below | (rw [hg6]; exact HT.out.below) | (rw [← hg6]; exact HT.out.below)⟩
            case true =>
              obtain ⟨hrep, hout, hseq⟩ := HWAY.out hc
              clear HWAY
              have hseq : q.seq > c.seq ∨ c.seq = 1099511627776 ∧ q.seq = 1099511627776 := hseq
              have rx := (HT.out.ord [9, 0, 1, 2, 3, 4, 5, 6, 7, 8]).row; have lx := row_lt rx; have cx0 := row_cell rx 0; have cx1 := row_cell rx 1
              have rc := (HT.out.ord [7, 0, 1, 2, 3, 4, 5, 6, 8, 9]).row; have lc := row_lt rc; have cc13 := row_cell rc 13
              have r1 := HT.out.row; have l1 := row_lt r1; have c1 := row_cell r1 x.rep.toNat
              rw [DV_get _ _ (by omega)] at c1
              have hge : decide (q.out x.rep.toNat ≥ x.num) = true := by simpa using hout
              cases hs1 : decide (q.seq > c.seq)
              case true =>
                go_upto_region 11 with fail
                go_quiet (fail)
                go_wp2
                go_ret
                exact ⟨rfl, by first | exact (HT.out.drewN _).below | (rw [hg6]; exact (HT.out.drewN _).below) | (rw [← hg6]; exact (HT.out.drewN _).below)⟩
              case false =>
                obtain ⟨k1, k2⟩ : c.seq = 1099511627776 ∧ q.seq = 1099511627776 := by
                  have := of_decide_eq_false hs1
                  omega
                have k3 : (c.seq == 1099511627776) = true := by simp [k1]
                have k4 : (q.seq == 1099511627776) = true := by simp [k2]
                clear k1 k2 hseq
                go_upto_region 11 with fail
                go_quiet (fail)
                go_wp2
                go_ret
                exact ⟨rfl, by first | exact (HT.out.drewN _).below | (rw [hg6]; exact (HT.out.drewN _).below) | (rw [← hg6]; exact (HT.out.drewN _).below)⟩
end Go.Proofs.Ytpganpiidgkofaa
/- SpaceOpens: opened again, behind a Sync, a space tells the same ways, of every deed. -/
namespace Go.Proofs.Ytpganpiidgkofaa
open Go.RowKit
set_option linter.unusedVariables false
set_option maxRecDepth 20000
attribute [local go_sem] row_alloc row_drew row_drewN row_ext row_setCell row_setRow size_ext setRow_alloc setRow_drew loadOf storeOf piece_lit loadVal_at storeVal_at allOne_lit buildOf buildRes_some
attribute [local go_sem high] cell_alloc frozen_alloc setCell_alloc cell_ext frozen_ext cell_setRow frozen_setRow
attribute [local go_sem ↓] TDeed_ld0 TDeed_st0 TDeed_fd0 TDeed_bd0
attribute [local go_sem] TDeed_size TDeed_one TDeed_piece TDeed_c0 TDeed_c1 TDeed_c2 TDeed_c3 TDeed_c4 TDeed_c5 TDeed_set_kind TDeed_set_key TDeed_set_val TDeed_set_ver TDeed_set_ses TDeed_set_num TDeed_ld TDeed_st TDeed_f_kind TDeed_f_key TDeed_f_val TDeed_f_ver TDeed_f_ses TDeed_f_num TDeed_bd TDeed_fl TDeed_fl_kind TDeed_fl_key TDeed_fl_val TDeed_fl_ver TDeed_fl_ses TDeed_fl_num
attribute [local go_sem high] TDeed_eql TDeed_neq
attribute [local go_sem ↓] index_deps0 load_deps0 store_deps0
attribute [local go_sem] DV_piece DV_size DV_one index_deps load_deps store_deps
attribute [local go_sem high] TDeps_eql TDeps_neq
attribute [local go_sem ↓] TCall_ld0 TCall_st0 TCall_fd0 TCall_bd0
attribute [local go_sem] TCall_size TCall_one TCall_piece TCall_c0 TCall_c1 TCall_c2 TCall_c3 TCall_c4 TCall_c5 TCall_c6 TCall_c7 TCall_c8 TCall_c9 TCall_c10 TCall_c11 TCall_c12 TCall_c13 TCall_p_deed TCall_put_deed TCall_p_deps TCall_put_deps TCall_set_seq TCall_ld TCall_st TCall_f_deed TCall_f_deps TCall_f_seq TCall_bd TCall_fl TCall_fl_deed TCall_fl_deps TCall_fl_seq
attribute [local go_sem high] TCall_eql TCall_neq
attribute [local go_sem ↓] TItem_ld0 TItem_st0 TItem_fd0 TItem_bd0
attribute [local go_sem] TItem_size TItem_one TItem_piece TItem_c0 TItem_c1 TItem_set_rep TItem_set_num TItem_ld TItem_st TItem_f_rep TItem_f_num TItem_bd TItem_fl TItem_fl_rep TItem_fl_num
attribute [local go_sem high] TItem_eql TItem_neq
attribute [local go_sem ↓] TBallot_ld0 TBallot_st0 TBallot_fd0 TBallot_bd0
attribute [local go_sem] TBallot_size TBallot_one TBallot_piece TBallot_c0 TBallot_c1 TBallot_set_round TBallot_set_rep TBallot_ld TBallot_st TBallot_f_round TBallot_f_rep TBallot_bd TBallot_fl TBallot_fl_round TBallot_fl_rep
attribute [local go_sem high] TBallot_eql TBallot_neq
attribute [local go_sem ↓] TInst_ld0 TInst_st0 TInst_fd0 TInst_bd0
attribute [local go_sem] TInst_size TInst_one TInst_piece TInst_c0 TInst_c1 TInst_c2 TInst_c3 TInst_c4 TInst_c5 TInst_c6 TInst_c7 TInst_c8 TInst_c9 TInst_c10 TInst_c11 TInst_c12 TInst_c13 TInst_c14 TInst_c15 TInst_c16 TInst_c17 TInst_c18 TInst_c19 TInst_p_prom TInst_put_prom TInst_p_vote TInst_put_vote TInst_set_status TInst_p_call TInst_put_call TInst_set_same TInst_ld TInst_st TInst_f_prom TInst_f_vote TInst_f_status TInst_f_call TInst_f_same TInst_bd TInst_fl TInst_fl_prom TInst_fl_vote TInst_fl_status TInst_fl_call TInst_fl_same
attribute [local go_sem high] TInst_eql TInst_neq
attribute [local go_sem ↓] TSCall_ld0 TSCall_st0 TSCall_fd0 TSCall_bd0
attribute [local go_sem] TSCall_size TSCall_one TSCall_piece TSCall_c0 TSCall_c1 TSCall_c2 TSCall_c3 TSCall_c4 TSCall_c5 TSCall_c6 TSCall_c7 TSCall_c8 TSCall_c9 TSCall_c10 TSCall_c11 TSCall_c12 TSCall_c13 TSCall_c14 TSCall_c15 TSCall_c16 TSCall_c17 TSCall_c18 TSCall_c19 TSCall_c20 TSCall_c21 TSCall_c22 TSCall_c23 TSCall_c24 TSCall_set_kind TSCall_p_item TSCall_put_item TSCall_p_inst TSCall_put_inst TSCall_set_keep TSCall_set_spoil TSCall_ld TSCall_st TSCall_f_kind TSCall_f_item TSCall_f_inst TSCall_f_keep TSCall_f_spoil TSCall_bd TSCall_fl TSCall_fl_kind TSCall_fl_item TSCall_fl_inst TSCall_fl_keep TSCall_fl_spoil
attribute [local go_sem high] TSCall_eql TSCall_neq
theorem wayK_eq {a b : RowsM} (ha : RowsOk a) (hb : RowsOk b) (h : RowsEq a b) (d : Deed) (but : Item) : wayK a d but = wayK b d but := by
  unfold wayK
  rw [wayG_known h.2]
  refine wayG_rows (fun x _ hh => ?_) (fun x _ hh => ?_)
  · obtain ⟨i, hi⟩ := hit_some hh
    exact (ents_key hb x).2 (by rw [hi]; rfl)
  · obtain ⟨i, hi⟩ := hit_some hh
    have := h.2 x
    rw [hi] at this
    refine (ents_key ha x).2 ?_
    cases hg : getM a x with
    | none => rw [hg] at this; simp at this
    | some t => rfl
/-- What a plate of records opens to. -/
theorem open_rows {n : Int} (hn : n ≤ 7) {rs : List Ent} (hg : GoodE n rs) : RowsEq (mK n (goT n (recsOf rs))) (foldE n rs) := by
  have h := goT_recs hn hg (r := []) ?_
  · rw [List.append_nil] at h
    rw [h]; exact mK_recT hn hg
  · exact noRec_nil n
set_option maxHeartbeats 8000000 in
theorem law_opens (n : Int) (A : Option Addr) (c : Nat) (l : List SCall) (d : Deed) (but : Item) (W : World) (hl : RowsIn W A 25 SCV l) (hf : FitS l) (hdk : d.key.size ≤ 140737488351232) (hdv : d.val.size ≤ 140737488351232) (hds : intKOk d.ses) :
    Calls Try.prog 7 #[.int .i64 n, .slice A l.length c, .agg (EV d), .agg (IV but)] W fun e W' => e = .returned (.bool true) ∧ Below W.heap.size W W' := by
  have HT9 := alive12
  have hlen := hl.len
  go_enter Try.func7, Try.ntmps7
  have T := ((Sts.start0 W).new (EV d) 33).new (IV but) 42
  rw [World.size_alloc] at T
  have HT := Lib.hid T; clear T
  go_wp2_with fail
  refine (HT9 _).mono ?_
  rintro e w1 ⟨rfl, hb⟩
  have T := HT.out.pure hb
  clear hb HT9 HT
  generalize hg6 : W.heap.size = g6 at *
  have HT := Lib.hid T; clear T
  go_wp2_with fail
  refine (great12 A c l W w1 _ hl hf HT.out).mono ?_
  clear HT
  rintro e w2 ⟨rfl, T⟩
  have HT := Lib.hid T; clear T
  have r6 := HT.out.row1; have l6 := row_lt r6; have c6 := row_cell r6
  have hlk : (d.key.size : Int) ≤ 140737488351232 := by omega
  have hlv : (d.val.size : Int) ≤ 140737488351232 := by omega
  cases hg : greatS l
  case true =>
    go_wp2
    go_ret
    exact ⟨rfl, by first | exact HT.out.below | (rw [hg6]; exact HT.out.below) | (rw [← hg6]; exact HT.out.below)⟩
  case false =>
    cases hov : overEd d
    case true =>
      have hov' : decide ((200 : Int) < (d.key.size : Int) + (d.val.size : Int)) = true := hov
      go_wp2
      go_ret
      exact ⟨rfl, by first | exact HT.out.below | (rw [hg6]; exact HT.out.below) | (rw [← hg6]; exact HT.out.below)⟩
    case false =>
      have hov' : decide ((200 : Int) < (d.key.size : Int) + (d.val.size : Int)) = false := hov
      have h60 := great_60 hg
      have HNW := Lib.hid (newT HT.out); clear HT
      go_wp2_with fail
      refine HNW.out.mono ?_
      clear HNW r6 l6 c6 hov' hlk hlv
      rintro e w3 ⟨rfl, T⟩
      generalize w2.heap.size = p at *
      cases hs : sizeB n
      case false =>
        have HB := Lib.hid (Ans.at (spBad p n hs) T); clear T
        go_wp2_with fail
        refine HB.out.mono ?_
        clear HB
        rintro e w4 ⟨rfl, T⟩
        have HT := Lib.hid T; clear T
        go_wp2
        go_ret
        exact ⟨rfl, by first | exact HT.out.below | (rw [hg6]; exact HT.out.below) | (rw [← hg6]; exact HT.out.below)⟩
      case true =>
        have hnn := sizeB_n hs
        have HB := Lib.hid (spOpenT T (by simp) n hs); clear T
        go_wp2_with fail
        refine HB.out.mono ?_
        clear HB
        rintro e w4 ⟨s, lg, g, bk, bs, rfl, T⟩
        have hI := SpI.open hnn (D := []) (by simp) 0
        have hL : LedI n (openD n []) (openF n [] 0) (mK n (goT n [])) [] [] := by rw [goT_nil]; exact LedI.open0 hs
        generalize idxF (ents (mK n (goT n []))) = I0 at *
        generalize mK n (goT n []) = m0 at *
        generalize openD n [] = D0 at *
        generalize openF n [] 0 = f0 at *
        have T : Sts W (fun _ => False) w4 (spL s lg p g bk bs I0 D0 f0 m0 ++ [rowR (g6 + 1) (IV but), rowR g6 (EV d)]) := T
        have HT := Lib.hid T; have HI := Lib.hid hI; have HL := Lib.hid hL; have HX := Lib.hid hl
        clear T hI hL hl
        go_wp2_with fail
        go_loopw [45] (fun sj wr => ∃ (j : Nat) (I : Idx) (D : List UInt8) (safe : Nat) (m : RowsM) (r1 r2 : List Ent), sj = .int .i64 j ∧ j ≤ l.length ∧ SpI n j I D m ∧ LedI n D safe m r1 r2 ∧ Sts W (fun _ => False) wr (spL s lg p g bk bs I D safe m ++ [rowR (g6 + 1) (IV but), rowR g6 (EV d)])) (fun sj _ => l.length - (intOf sj).toNat)
        case atStart => exact ⟨0, I0, D0, f0, m0, [], [], rfl, Nat.zero_le _, HI.out, HL.out, HT.out⟩
        case round =>
          clear HT HI HL
          obtain ⟨j, I, D, safe, m, r1, r2, rfl, hj, hI, hL, T⟩ := hrel
          by_cases hjl : j < l.length
          · cases A with
            | none => have := HX.out.nil rfl; subst this; simp at hjl
            | some a =>
              have hld := HX.out.load (P := Try.prog) (T := 72) TSCall_size TSCall_und rfl (by kernel_rfl) (by first | exact T.below | (rw [hg6]; exact T.below) | (rw [← hg6]; exact T.below)) rfl hjl
              have hk3 : (j : Int) < (l.length : Int) := by omega
              have hk0 : (0 : Int) ≤ (j : Int) := by omega
              generalize l[j] = x at *
              have T : Sts W (fun _ => False) wr (idxR s lg bk bs I :: rowR lg (ledCells p g m.n) :: plR p D safe :: rowsIR g m :: rowR (g6 + 1) (IV but) :: rowR g6 (EV d) :: []) := T
              have T2 := T.new (SCV x) 72
              have r0 := T2.row; have l0 := row_lt r0; have c0 := row_cell r0
              have T3 := T2.ord [1, 2, 3, 4, 0, 5, 6]
              have T3 : Sts W (fun _ => False) _ (spL s lg p g bk bs I D safe m ++ [rowR wr.heap.size (SCV x), rowR (g6 + 1) (IV but), rowR g6 (EV d)]) := T3
              have hkn := spKnowD s lg p g bk bs I hI.idx (by have := hI.N; omega) D safe m hI.ok hI.good hI.len x.item x.inst
              have hI2 := hI.know (by omega) safe x.item x.inst
              have hL2 := hL.addI x.item x.inst
              generalize knowI I D safe m x.item x.inst = I2 at *
              generalize addM D safe m x.item x.inst = q at *
              obtain ⟨D2, f2, m2, e2⟩ := q
              dsimp only at hkn hI2 hL2
              have HKN := Lib.hid hkn; have HI2 := Lib.hid hI2; have HL2 := Lib.hid hL2; have HT := Lib.hid T3
              clear hkn hI2 hL2 T T2 T3 hI hL
              go_wp2_with fail
              refine (Does.at HKN.out HT.out).mono ?_
              clear HKN HT hld r0 l0 c0
              rintro e w5 ⟨rfl, T⟩
              have T : Sts W (fun _ => False) w5 (idxR s lg bk bs I2 :: rowR lg (ledCells p g m2.n) :: plR p D2 f2 :: rowsIR g m2 :: rowR wr.heap.size (SCV x) :: rowR (g6 + 1) (IV but) :: rowR g6 (EV d) :: []) := T
              have T2 := (T.ord [4, 0, 1, 2, 3, 5, 6]).drop
              have HT := Lib.hid T2; clear T T2
              obtain ⟨a2, b2, hL2⟩ := HL2.out
              have HL3 := Lib.hid hL2; clear hL2 HL2
              go_wp2
              go_roundw
              case rel => exact ⟨j + 1, I2, D2, f2, m2, a2, b2, by go_num, by omega, HI2.out, HL3.out, HT.out⟩
              case measure => simp [intOf]; omega
          · obtain rfl : j = l.length := by omega
            have hsy := spSyncT T
            have hL2 := hL.sync
            have HSY := Lib.hid hsy; have HI := Lib.hid hI; have HL := Lib.hid hL2
            clear hsy hL2 hI hL T
            go_wp2_with fail
            refine HSY.out.mono ?_
            clear HSY
            rintro e w5 ⟨rfl, T⟩
            have T : Sts W (fun _ => False) w5 (idxR s lg bk bs I :: rowR lg (ledCells p g m.n) :: plR p D D.length :: rowsIR g m :: rowR (g6 + 1) (IV but) :: rowR g6 (EV d) :: []) := T
            have hop := spOpenT (T.ord [2, 0, 1, 3, 4, 5]) HI.out.len n hs
            have HOP := Lib.hid hop; clear hop T
            go_wp2_with fail
            refine HOP.out.mono ?_
            clear HOP
            rintro e w6 ⟨s2, lg2, g2, bk2, bs2, rfl, T⟩
            have hI2 := SpI.open hnn HI.out.len 0
            have hrw : RowsEq (mK n (goT n D)) m := by
              have hd := HL.out.data
              rw [hd]
              have hr := HL.out.recs
              exact (open_rows hnn.2 hr).trans HL.out.same.symm
            have hwk := wayK_eq hI2.ok HI.out.ok hrw d but
            generalize idxF (ents (mK n (goT n D))) = I2 at *
            generalize mK n (goT n D) = m2 at *
            generalize openD n D = D2 at *
            generalize openF n D D.length = f2 at *
            have T : Sts W (fun _ => False) w6 (idxR s2 lg2 bk2 bs2 I2 :: rowR lg2 (ledCells p g2 m2.n) :: plR p D2 f2 :: rowsIR g2 m2 :: idxR s lg bk bs I :: rowR lg (ledCells p g m.n) :: rowsIR g m :: rowR (g6 + 1) (IV but) :: rowR g6 (EV d) :: []) := T
            have r6 := (T.ord [8, 0, 1, 2, 3, 4, 5, 6, 7]).row; have l6 := row_lt r6
            have r7 := (T.ord [7, 0, 1, 2, 3, 4, 5, 6, 8]).row; have l7 := row_lt r7
            have T2 := T.ord [4, 5, 2, 6, 0, 1, 3, 7, 8]
            have T2 : Sts W (fun _ => False) w6 (spL s lg p g bk bs I D2 f2 m ++ [idxR s2 lg2 bk2 bs2 I2, rowR lg2 (ledCells p g2 m2.n), rowsIR g2 m2, rowR (g6 + 1) (IV but), rowR g6 (EV d)]) := T2
            have HWY := Lib.hid (spWay HI.out.ok HI.out.good HI.out.idx HI.out.cov d but (by unfold maxLen; omega) hds T2)
            have HI2 := Lib.hid hI2; have HWK := Lib.hid hwk
            clear T T2 hI2 hwk hrw HL
            go_wp2_with fail
            refine HWY.out.mono ?_
            clear HWY r6 l6 r7 l7
            rintro e w7 ⟨rfl, T⟩
            have T : Sts W (fun _ => False) w7 (idxR s lg bk bs I :: rowR lg (ledCells p g m.n) :: plR p D2 f2 :: rowsIR g m :: idxR s2 lg2 bk2 bs2 I2 :: rowR lg2 (ledCells p g2 m2.n) :: rowsIR g2 m2 :: rowR (g6 + 1) (IV but) :: rowR g6 (EV d) :: []) := T
            have T2 := T.new (DV (wayK m d but).out) 35
            have r6 := (T2.ord [9, 0, 1, 2, 3, 4, 5, 6, 7, 8]).row; have l6 := row_lt r6
            have r7 := (T2.ord [8, 0, 1, 2, 3, 4, 5, 6, 7, 9]).row; have l7 := row_lt r7
            have T3 := T2.ord [5, 6, 3, 7, 0, 1, 2, 4, 8, 9]
            have T3 : Sts W (fun _ => False) _ (spL s2 lg2 p g2 bk2 bs2 I2 D2 f2 m2 ++ [rowR w7.heap.size (DV (wayK m d but).out), idxR s lg bk bs I, rowR lg (ledCells p g m.n), rowsIR g m, rowR (g6 + 1) (IV but), rowR g6 (EV d)]) := T3
            have hwy := spWay HI2.out.ok HI2.out.good HI2.out.idx HI2.out.cov d but (by unfold maxLen; omega) hds T3
            rw [HWK.out] at hwy
            have HWY := Lib.hid hwy
            clear hwy T T2 T3 HWK
            have he := eqA_refl (DV (wayK m d but).out)
            generalize wayK m d but = q at *
            go_wp2_with fail
            refine HWY.out.mono ?_
            clear HWY r6 l6 r7 l7
            rintro e w8 ⟨rfl, T⟩
            have T : Sts W (fun _ => False) w8 (idxR s2 lg2 bk2 bs2 I2 :: rowR lg2 (ledCells p g2 m2.n) :: plR p D2 f2 :: rowsIR g2 m2 :: rowR w7.heap.size (DV q.out) :: idxR s lg bk bs I :: rowR lg (ledCells p g m.n) :: rowsIR g m :: rowR (g6 + 1) (IV but) :: rowR g6 (EV d) :: []) := T
            have T2 := T.new (DV q.out) 35
            have r1 := T2.row; have l1 := row_lt r1
            have r2 := (T2.ord [5, 0, 1, 2, 3, 4, 6, 7, 8, 9, 10]).row; have l2 := row_lt r2
            have HT := Lib.hid T2; clear T T2
            go_wp2
            go_ret
            exact ⟨rfl, by first | exact HT.out.below | (rw [hg6]; exact HT.out.below) | (rw [← hg6]; exact HT.out.below)⟩
end Go.Proofs.Ytpganpiidgkofaa
/- Layer 12, plain: the items that a replica begins. No walk stands here. -/
namespace Go.Proofs.Ytpganpiidgkofaa
open Go.RowKit
set_option linter.unusedVariables false
def bareN (rep : Int) : Inst := { noInst with prom := ⟨0, rep⟩ }
theorem size_cases {n : Int} (h : sizeB n = true) : n = 3 ∨ n = 5 ∨ n = 7 := by
  unfold sizeB at h; simp at h; omega
theorem bareN_good {n rep : Int} (hs : sizeB n = true) (h0 : 0 ≤ rep) (h1 : rep < n) : goodN (bareN rep) n = true := by
  unfold goodN
  have h4 : bareI (bareN rep) = bareN rep := rfl
  rw [h4, eqA_refl]
  have hb : goodBal (bareN rep).prom n = true := by
    unfold goodBal bareN
    simp
    omega
  have h2 : goodBal (bareN rep).vote n = true := by
    unfold goodBal bareN noInst noBallot
    simp
    omega
  have h3 : goodC (bareN rep).call n = true := by
    show goodC noCall n = true
    rcases size_cases hs with rfl | rfl | rfl <;> decide
  rw [hb, h2, h3]
  simp [bareN, noInst]
theorem add_easy {D : List UInt8} {safe : Nat} {m : RowsM} {x : Item} {i : Inst} (hx : goodI x m.n = true) (hi : goodN i m.n = true) (hn : m.n ≤ 7) (hD : D.length + 310 ≤ 32768) :
    addM D safe m x i = (D ++ recOf (x, i), safe, setM m x i, 0) ∧ (recOf (x, i)).length ≤ 310 := by
  have hl : (recOf (x, i)).length ≤ 310 := recOf_len (goodI_in hx hn).1 (goodI_in hx hn).2 (goodN_in hi hn)
  have ht : tightP D safe m (recOf (x, i)).length = (D, safe, 0) := by unfold tightP; rw [if_neg (by omega)]
  refine ⟨?_, hl⟩
  unfold addM
  rw [if_pos ⟨hx, hi⟩, ht, if_pos rfl, if_pos (by dsimp only; omega)]
theorem top_next {m : RowsM} {rep : Int} (i : Inst) (h0 : 0 ≤ rep) (h1 : rep < m.n) (ht : topM m rep + 1 ≤ 64) :
    goodI ⟨rep, topM m rep + 1⟩ m.n = true ∧ topM (setM m ⟨rep, topM m rep + 1⟩ i) rep = topM m rep + 1 := by
  have htp : topM m rep = (m.f rep.toNat).length := by unfold topM; rw [if_pos ⟨h0, h1⟩]
  have hg : goodI ⟨rep, topM m rep + 1⟩ m.n = true := by
    unfold goodI
    rw [decide_eq_true_iff]
    simp only
    omega
  refine ⟨hg, ?_⟩
  rw [htp] at hg ⊢
  have hn : (setM m ⟨rep, ((m.f rep.toNat).length : Int) + 1⟩ i).n = m.n := setM_n _ _ _
  show (if 0 ≤ rep ∧ rep < (setM m ⟨rep, ((m.f rep.toNat).length : Int) + 1⟩ i).n then (((setM m ⟨rep, ((m.f rep.toNat).length : Int) + 1⟩ i).f rep.toNat).length : Int) else 0) = _
  rw [hn, if_pos ⟨h0, h1⟩]
  unfold setM
  rw [if_pos hg]
  simp only [updF_same, putL_len]
  omega
end Go.Proofs.Ytpganpiidgkofaa
