/- Several texts in one. -/
import Derived.Test.YtfgacjglfdehbaaGreatDoorZ3
import Derived.Test.YtfgacjglfdehbaaGreatDoorZ29
/- Endings with a row and a slot. Nothing of the program stands here. -/
namespace Go.Proofs.YtfgacjglfdehbaaGreatDoor
open Go.RowKit
theorem ret_row_tmp {P : Program} {fn : Func} {R : Ending → World → Prop} {a : Act} {w : World} {p q : Tmp} {T : TypeId} {n : Nat} {d : TypeDesc} (X : Array Value) (v : Value) {g : Nat} (hu : P.underlying T = some d) (hd : d.isRow = true)
    (hi : (P.info? T).map (·.size) = some n) (hr : fn.results = #[.cell p T, .tmp q]) (hp : a.tmps.getD p undef = .pointer (some ⟨g, 0, none⟩)) (hv : a.tmps.getD q undef = v) (hdf : a.defers = []) (hX : X.size = n) (hrow : row? w g = some X) (hR : R (.returned (.tuple #[.agg X, v])) w) : bodyPost P fn R .ret a w := by
  obtain ⟨t, ht⟩ := row_some hrow
  refine bodyPost_ret ?_ hdf hR
  have hp' : a.tmps[p]?.getD undef = .pointer (some ⟨g, 0, none⟩) := by simpa using hp
  have hv' : a.tmps[q]?.getD undef = v := by simpa using hv
  have hl := run_loadVar_row w g t T X (0, 0) d ht hu (by cases d <;> first | rfl | exact hd) (by rw [hi, hX])
  simp [results, hr, hp', hv', asAddr, hl]
end Go.Proofs.YtfgacjglfdehbaaGreatDoor
/- Layer 13: how what is known of an item goes on. -/
namespace Go.Proofs.YtfgacjglfdehbaaGreatDoor
open Go.RowKit
set_option linter.unusedVariables false
set_option maxRecDepth 20000
attribute [local go_sem] row_alloc row_drew row_drewN row_ext row_setCell row_setRow size_ext setRow_alloc setRow_drew loadOf storeOf piece_lit loadVal_at storeVal_at allOne_lit buildOf buildRes_some
attribute [local go_sem high] cell_alloc frozen_alloc setCell_alloc cell_ext frozen_ext cell_setRow frozen_setRow
attribute [local go_sem ↓] TDeed_ld0 TDeed_st0 TDeed_fd0 TDeed_bd0
attribute [local go_sem] TDeed_size TDeed_one TDeed_piece TDeed_c0 TDeed_c1 TDeed_c2 TDeed_c3 TDeed_c4 TDeed_c5 TDeed_set_kind TDeed_set_key TDeed_set_val TDeed_set_ver TDeed_set_ses TDeed_set_num TDeed_ld TDeed_st TDeed_f_kind TDeed_f_key TDeed_f_val TDeed_f_ver TDeed_f_ses TDeed_f_num TDeed_bd TDeed_fl TDeed_fl_kind TDeed_fl_key TDeed_fl_val TDeed_fl_ver TDeed_fl_ses TDeed_fl_num
attribute [local go_sem high] TDeed_eql TDeed_neq
attribute [local go_sem ↓] index_deps0 load_deps0 store_deps0
attribute [local go_sem] DV_piece DV_size DV_one index_deps load_deps store_deps
attribute [local go_sem high] TDeps_eql TDeps_neq
attribute [local go_sem ↓] TCall_ld0 TCall_st0 TCall_fd0 TCall_bd0
attribute [local go_sem] TCall_size TCall_one TCall_piece TCall_c0 TCall_c1 TCall_c2 TCall_c3 TCall_c4 TCall_c5 TCall_c6 TCall_c7 TCall_c8 TCall_c9 TCall_c10 TCall_c11 TCall_c12 TCall_c13 TCall_p_deed TCall_put_deed TCall_p_deps TCall_put_deps TCall_set_seq TCall_ld TCall_st TCall_f_deed TCall_f_deps TCall_f_seq TCall_bd TCall_fl TCall_fl_deed TCall_fl_deps TCall_fl_seq
attribute [local go_sem high] TCall_eql TCall_neq
attribute [local go_sem ↓] TItem_ld0 TItem_st0 TItem_fd0 TItem_bd0
attribute [local go_sem] TItem_size TItem_one TItem_piece TItem_c0 TItem_c1 TItem_set_rep TItem_set_num TItem_ld TItem_st TItem_f_rep TItem_f_num TItem_bd TItem_fl TItem_fl_rep TItem_fl_num
attribute [local go_sem high] TItem_eql TItem_neq
attribute [local go_sem ↓] TBallot_ld0 TBallot_st0 TBallot_fd0 TBallot_bd0
attribute [local go_sem] TBallot_size TBallot_one TBallot_piece TBallot_c0 TBallot_c1 TBallot_set_round TBallot_set_rep TBallot_ld TBallot_st TBallot_f_round TBallot_f_rep TBallot_bd TBallot_fl TBallot_fl_round TBallot_fl_rep
attribute [local go_sem high] TBallot_eql TBallot_neq
attribute [local go_sem ↓] TInst_ld0 TInst_st0 TInst_fd0 TInst_bd0
attribute [local go_sem] TInst_size TInst_one TInst_piece TInst_c0 TInst_c1 TInst_c2 TInst_c3 TInst_c4 TInst_c5 TInst_c6 TInst_c7 TInst_c8 TInst_c9 TInst_c10 TInst_c11 TInst_c12 TInst_c13 TInst_c14 TInst_c15 TInst_c16 TInst_c17 TInst_c18 TInst_c19 TInst_p_prom TInst_put_prom TInst_p_vote TInst_put_vote TInst_set_status TInst_p_call TInst_put_call TInst_set_same TInst_ld TInst_st TInst_f_prom TInst_f_vote TInst_f_status TInst_f_call TInst_f_same TInst_bd TInst_fl TInst_fl_prom TInst_fl_vote TInst_fl_status TInst_fl_call TInst_fl_same
attribute [local go_sem high] TInst_eql TInst_neq
set_option maxHeartbeats 4000000 in
theorem lprom_any (i : Inst) (b : Ballot) : Ans Tryz.prog 51 #[.agg (NV i), .agg (BV b)] (.tuple #[.agg (NV (promM i b).1), .bool (promM i b).2]) := by
  refine Ans.of_sts fun W => ?_
  have T := (((Sts.start0 W).new (NV i) 52).new (BV b) 34).new (NV noInst) 52
  simp only [World.size_alloc] at T
  have HL := Lib.hid (Ans.at (less_any b i.prom) T)
  clear T
  go_enter Tryz.func51, Tryz.ntmps51
  go_wp2_with fail
  refine HL.out.mono ?_
  clear HL
  rintro e w1 ⟨rfl, T⟩
  generalize W.heap.size + 1 + 1 = g4 at *
  generalize W.heap.size + 1 = g3 at *
  generalize W.heap.size = g2 at *
  have r4 := T.row; have l4 := row_lt r4
  have r3 := T.row1; have l3 := row_lt r3
  have r2 := T.row2; have l2 := row_lt r2
  have n1 := (T.ord [0, 2, 1]).rowsNe
  have n2 := (T.ord [2, 0, 1]).rowsNe
  have n3 := T.drop.rowsNe
  cases h : lessBal b i.prom
  case true =>
    have e : promM i b = (i, false) := if_pos h
    have E := Lib.hid e
    have T2 := T.setRow (NV i)
    have HT := Lib.hid T2; clear T T2 e h
    go_wp2
    refine ret_row_tmp (NV i) (.bool false) TInst_und rfl (by kernel_rfl) rfl rfl rfl rfl (TInst_size _) HT.out.row ⟨by rw [E.out], HT.out.drop.drop.drop⟩
  case false =>
    have e : promM i b = (⟨b, i.vote, i.status, i.call, i.same⟩, true) := if_neg (by simp [h])
    have E := Lib.hid e
    have T2 := ((T.ord [2, 0, 1]).setRow (NV ⟨b, i.vote, i.status, i.call, i.same⟩)).ord [1, 0, 2]
    have T3 := T2.setRow (NV ⟨b, i.vote, i.status, i.call, i.same⟩)
    have HT := Lib.hid T3; clear T T2 T3 e h
    go_wp2
    refine ret_row_tmp (NV ⟨b, i.vote, i.status, i.call, i.same⟩) (.bool true) TInst_und rfl (by kernel_rfl) rfl rfl rfl rfl (TInst_size _) HT.out.row ⟨by rw [E.out], HT.out.drop.drop.drop⟩
set_option maxHeartbeats 4000000 in
theorem lvoted_any (i : Inst) (b : Ballot) (st : Int) : Ans Tryz.prog 89 #[.agg (NV i), .agg (BV b), .int .i64 st] (.bool (votedB i b st)) := by
  refine Ans.of_sts fun W => ?_
  have T := ((Sts.start0 W).new (NV i) 52).new (BV b) 34
  simp only [World.size_alloc] at T
  have r1 := T.row; have l1 := row_lt r1
  have r2 := T.row1; have l2 := row_lt r2; have c2 := row_cell r2 4
  have HT := Lib.hid T.drop.drop; clear T
  have e : votedB i b st = (eqA (BV i.vote) (BV b) && decide (i.status ≥ st)) := rfl
  have E := Lib.hid e; clear e
  cases h1 : eqA (BV i.vote) (BV b)
  case false =>
    go_enter Tryz.func89, Tryz.ntmps89
    go_wp2
    go_ret
    exact ⟨by rw [E.out, h1]; rfl, HT.out⟩
  case true =>
    go_enter Tryz.func89, Tryz.ntmps89
    go_wp2
    go_ret
    exact ⟨by rw [E.out, h1]; rfl, HT.out⟩
set_option maxHeartbeats 8000000 in
theorem lvote_any (i : Inst) (b : Ballot) (st : Int) (c : Call) (same : Bool) : Ans Tryz.prog 74 #[.agg (NV i), .agg (BV b), .int .i64 st, .agg (CV c), .bool same] (.tuple #[.agg (NV (voteM i b st c same).1), .bool (voteM i b st c same).2]) := by
  refine Ans.of_sts fun W => ?_
  have T := ((((Sts.start0 W).new (NV i) 52).new (BV b) 34).new (CV c) 40).new (NV noInst) 52
  simp only [World.size_alloc] at T
  have r5 := (T.ord [3, 0, 1, 2]).row; have l5 := row_lt r5; have r6 := T.row2; have l6 := row_lt r6
  have HL := Lib.hid (Ans.at (lprom_any i b) T)
  clear T
  go_enter Tryz.func74, Tryz.ntmps74
  go_wp2_with fail
  refine HL.out.mono ?_
  clear HL r5 l5 r6 l6
  rintro e w1 ⟨rfl, T⟩
  generalize W.heap.size + 1 + 1 + 1 = g10 at *
  generalize W.heap.size + 1 + 1 = g8 at *
  generalize W.heap.size + 1 = g6 at *
  generalize W.heap.size = g5 at *
  have e0 : voteM i b st c same = if lessBal b i.prom = true ∨ i.status = 3 then (i, false) else if votedB i b st = true then (⟨b, i.vote, i.status, i.call, i.same⟩, i.status == st) else (⟨b, b, st, c, same⟩, true) := rfl
  have p0 : promM i b = if lessBal b i.prom = true then (i, false) else (⟨b, i.vote, i.status, i.call, i.same⟩, true) := rfl
  have r5 := (T.ord [3, 0, 1, 2]).row; have l5 := row_lt r5; have c5 := row_cell r5 4
  have r10 := T.row; have l10 := row_lt r10
  have r6 := T.row2; have l6 := row_lt r6
  have n1 := (T.ord [0, 3, 1, 2]).rowsNe
  cases h : lessBal b i.prom
  case true =>
    rw [h, if_pos rfl] at p0
    rw [h, if_pos (.inl rfl)] at e0
    rw [p0]
    have T2 := ((T.setRow (NV i)).new (NV i) 52).ord [1, 0, 2, 3, 4]
    have HT := Lib.hid T2; have E := Lib.hid e0; clear T T2 e0 p0 h
    go_wp2
    refine ret_row_tmp (NV i) (.bool false) TInst_und rfl (by kernel_rfl) rfl rfl rfl rfl (TInst_size _) HT.out.row ⟨by rw [E.out], HT.out.nil⟩
  case false =>
    rw [h, if_neg (by simp)] at p0
    rw [p0]
    clear p0
    cases h3 : (i.status == 3)
    case true =>
      rw [h, if_pos (.inr (by simpa using h3))] at e0
      have T2 := ((T.setRow (NV i)).new (NV ⟨b, i.vote, i.status, i.call, i.same⟩) 52).ord [1, 0, 2, 3, 4]
      have HT := Lib.hid T2; have E := Lib.hid e0; clear T T2 e0 h
      go_wp2
      refine ret_row_tmp (NV i) (.bool false) TInst_und rfl (by kernel_rfl) rfl rfl rfl rfl (TInst_size _) HT.out.row ⟨by rw [E.out], HT.out.nil⟩
    case false =>
      rw [h, if_neg (by simp only [Bool.false_eq_true, false_or]; simpa using h3)] at e0
      have T := T.new (NV ⟨b, i.vote, i.status, i.call, i.same⟩) 52
      have HV := Lib.hid (Ans.at (lvoted_any i b st) T)
      have E := Lib.hid e0; clear T e0 h
      go_wp2_with fail
      refine HV.out.mono ?_
      clear HV r5 l5 c5 r10 l10 r6 l6 n1
      generalize w1.heap.size = g12 at *
      rintro e w2 ⟨rfl, T⟩
      have e0 := E.out
      clear E
      have r5 := (T.ord [4, 0, 1, 2, 3]).row; have l5 := row_lt r5; have c5 := row_cell r5 4
      have r10 := T.row1; have l10 := row_lt r10
      have r12 := T.row; have l12 := row_lt r12
      have n1 := (T.ord [1, 4, 0, 2, 3]).rowsNe
      have n2 := (T.ord [1, 0, 2, 3, 4]).rowsNe
      cases hv : votedB i b st
      case true =>
        rw [hv, if_pos rfl] at e0
        have E := Lib.hid e0
        have T2 := (T.ord [1, 0, 2, 3, 4]).setRow (NV ⟨b, i.vote, i.status, i.call, i.same⟩)
        have HT := Lib.hid T2.drew; clear T T2 e0 hv
        go_wp2_with fail
        go_region
        go_wp2
        refine ret_row_tmp (NV ⟨b, i.vote, i.status, i.call, i.same⟩) (.bool (i.status == st)) TInst_und rfl (by kernel_rfl) rfl rfl rfl rfl (TInst_size _) HT.out.row ⟨by rw [E.out], HT.out.nil⟩
      case false =>
        rw [hv, if_neg (by simp)] at e0
        have E := Lib.hid e0
        have r6 := (T.ord [3, 0, 1, 2, 4]).row; have l6 := row_lt r6
        have r8 := (T.ord [2, 0, 1, 3, 4]).row; have l8 := row_lt r8
        clear r5 l5 c5 n1 e0 hv h3 r10 l10
        have HT := Lib.hid T; clear T
        have f4 := row_frozen r12 4; have c4 := row_cell r12 4; have f19 := row_frozen r12 19; have c19 := row_cell r12 19
        have k8 := (HT.out.ord [0, 2, 1, 3, 4]).rowsNe; have k8' : ¬ g8 = g12 := fun e => k8 e.symm
        have k6 := (HT.out.ord [0, 3, 1, 2, 4]).rowsNe; have k6' : ¬ g6 = g12 := fun e => k6 e.symm
        have Ta := HT.out.setRow (NV ⟨b, b, i.status, i.call, i.same⟩)
        have ra := Ta.row; have la := row_lt ra; have fa := row_frozen ra 4; have ca := row_cell ra 4
        have Tb := Ta.setCell 4 (.int .i64 st)
        have Tb : Sts W (fun _ => False) _ (rowR g12 (NV ⟨b, b, st, i.call, i.same⟩) :: rowR g10 (NV noInst) :: rowR g8 (CV c) :: rowR g6 (BV b) :: rowR g5 (NV i) :: []) := Tb
        have rb := Tb.row; have lb := row_lt rb
        have Tc := Tb.setRow (NV ⟨b, b, st, c, i.same⟩)
        have rc := Tc.row; have lc := row_lt rc; have fc := row_frozen rc 19; have cc := row_cell rc 19
        have Td := Tc.setCell 19 (.bool same)
        have Td : Sts W (fun _ => False) _ (rowR g12 (NV ⟨b, b, st, c, same⟩) :: rowR g10 (NV noInst) :: rowR g8 (CV c) :: rowR g6 (BV b) :: rowR g5 (NV i) :: []) := Td
        have HTd := Lib.hid Td
        clear Ta Tb Tc Td
        go_upto_region 6 with fail
        go_region
        go_upto_region 7 with fail
        refine (fun (key : ∀ w5, Sts W (fun _ => False) w5 (rowR g12 (NV ⟨b, b, st, c, same⟩) :: rowR g10 (NV noInst) :: rowR g8 (CV c) :: rowR g6 (BV b) :: rowR g5 (NV i) :: []) → Code.wp _ _ _ _ w5) => key _ HTd.out.drew) ?_
        clear HTd ra la fa ca rb lb rc lc fc cc k8 k8' k6 k6' f4 c4 f19 c19 r6 l6 r8 l8 r12 l12 n2 HT
        intro w5 T
        have r12 := T.row; have l12 := row_lt r12
        have r10 := T.row1; have l10 := row_lt r10
        have T2 := T.swap.setRow (NV ⟨b, b, st, c, same⟩)
        have HT := Lib.hid T2; clear T T2
        go_wp2
        refine ret_row_tmp (NV ⟨b, b, st, c, same⟩) (.bool true) TInst_und rfl (by kernel_rfl) rfl rfl rfl rfl (TInst_size _) HT.out.row ⟨by rw [E.out], HT.out.nil⟩
set_option maxHeartbeats 4000000 in
theorem lpre_any (i : Inst) (b : Ballot) (c : Call) (same : Bool) : Ans Tryz.prog 47 #[.agg (NV i), .agg (BV b), .agg (CV c), .bool same] (.tuple #[.agg (NV (voteM i b 1 c same).1), .bool (voteM i b 1 c same).2]) := by
  refine Ans.of_sts fun W => ?_
  have T := ((((Sts.start0 W).new (NV i) 52).new (BV b) 34).new (CV c) 40).new (NV noInst) 52
  simp only [World.size_alloc] at T
  have HL := Lib.hid (Ans.at (lvote_any i b 1 c same) T)
  clear T
  generalize voteM i b 1 c same = q at *
  go_enter Tryz.func47, Tryz.ntmps47
  go_wp2_with fail
  refine HL.out.mono ?_
  clear HL
  rintro e w1 ⟨rfl, T⟩
  have r10 := T.row; have l10 := row_lt r10
  have HT := Lib.hid (T.setRow (NV q.1)); clear T
  go_wp2
  refine ret_row_tmp (NV q.1) (.bool q.2) TInst_und rfl (by kernel_rfl) rfl rfl rfl rfl (TInst_size _) HT.out.row ⟨rfl, HT.out.nil⟩
set_option maxHeartbeats 4000000 in
theorem lacc_any (i : Inst) (b : Ballot) (c : Call) : Ans Tryz.prog 50 #[.agg (NV i), .agg (BV b), .agg (CV c)] (.tuple #[.agg (NV (voteM i b 2 c false).1), .bool (voteM i b 2 c false).2]) := by
  refine Ans.of_sts fun W => ?_
  have T := ((((Sts.start0 W).new (NV i) 52).new (BV b) 34).new (CV c) 40).new (NV noInst) 52
  simp only [World.size_alloc] at T
  have HL := Lib.hid (Ans.at (lvote_any i b 2 c false) T)
  clear T
  generalize voteM i b 2 c false = q at *
  go_enter Tryz.func50, Tryz.ntmps50
  go_wp2_with fail
  refine HL.out.mono ?_
  clear HL
  rintro e w1 ⟨rfl, T⟩
  have r10 := T.row; have l10 := row_lt r10
  have HT := Lib.hid (T.setRow (NV q.1)); clear T
  go_wp2
  refine ret_row_tmp (NV q.1) (.bool q.2) TInst_und rfl (by kernel_rfl) rfl rfl rfl rfl (TInst_size _) HT.out.row ⟨rfl, HT.out.nil⟩
set_option maxHeartbeats 4000000 in
theorem lcom_any (i : Inst) (c : Call) : Ans Tryz.prog 26 #[.agg (NV i), .agg (CV c)] (.tuple #[.agg (NV (commitM i c).1), .bool (commitM i c).2]) := by
  refine Ans.of_sts fun W => ?_
  have T := (((Sts.start0 W).new (NV i) 52).new (CV c) 40).new (NV noInst) 52
  simp only [World.size_alloc] at T
  have e0 : commitM i c = if i.status = 3 then (i, false) else (⟨i.prom, i.vote, 3, c, false⟩, true) := rfl
  cases h3 : (i.status == 3)
  case true =>
    rw [if_pos (by simpa using h3)] at e0
    have r2 := T.row2; have l2 := row_lt r2; have c2 := row_cell r2 4
    have T2 := (((Sts.start0 W).new (NV i) 52).new (CV c) 40).new (NV i) 52
    simp only [World.size_alloc] at T2
    have HT := Lib.hid T2; have E := Lib.hid e0; clear T T2 e0
    go_enter Tryz.func26, Tryz.ntmps26
    go_wp2
    refine ret_row_tmp (NV i) (.bool false) TInst_und rfl (by kernel_rfl) rfl rfl rfl rfl (TInst_size _) HT.out.row ⟨by rw [E.out], HT.out.nil⟩
  case false =>
    rw [if_neg (by simpa using h3)] at e0
    have E := Lib.hid e0; clear e0
    have HT := Lib.hid T; clear T
    go_enter Tryz.func26, Tryz.ntmps26
    go_upto_region 1 with fail
    refine (fun (key : ∀ w1, Sts W (fun _ => False) w1 (rowR (W.heap.size + 1 + 1) (NV noInst) :: rowR (W.heap.size + 1) (CV c) :: rowR W.heap.size (NV i) :: []) → Code.wp _ _ _ _ w1) => key _ HT.out) ?_
    clear HT
    intro w1 T
    generalize W.heap.size + 1 + 1 = g4 at *
    generalize W.heap.size + 1 = g3 at *
    generalize W.heap.size = g2 at *
    have HT := Lib.hid (T.ord [2, 0, 1]); clear T
    have r2 := HT.out.row; have l2 := row_lt r2; have f4 := row_frozen r2 4; have c4 := row_cell r2 4; have f19 := row_frozen r2 19; have c19 := row_cell r2 19
    have r3 := HT.out.row2; have l3 := row_lt r3
    have k3 := (HT.out.ord [0, 2, 1]).rowsNe; have k3' : ¬ g3 = g2 := fun e => k3 e.symm
    have Ta := HT.out.setCell 4 (.int .i64 3)
    have Ta : Sts W (fun _ => False) _ (rowR g2 (NV ⟨i.prom, i.vote, 3, i.call, i.same⟩) :: rowR g4 (NV noInst) :: rowR g3 (CV c) :: []) := Ta
    have ra := Ta.row; have la := row_lt ra
    have Tb := Ta.setRow (NV ⟨i.prom, i.vote, 3, c, i.same⟩)
    have rb := Tb.row; have lb := row_lt rb; have fb := row_frozen rb 19; have cb := row_cell rb 19
    have Tc := Tb.setCell 19 (.bool false)
    have Tc : Sts W (fun _ => False) _ (rowR g2 (NV ⟨i.prom, i.vote, 3, c, false⟩) :: rowR g4 (NV noInst) :: rowR g3 (CV c) :: []) := Tc
    have HTc := Lib.hid Tc; clear Ta Tb Tc
    go_upto_region 3 with fail
    go_region
    go_upto_region 4 with fail
    refine (fun (key : ∀ w5, Sts W (fun _ => False) w5 (rowR g2 (NV ⟨i.prom, i.vote, 3, c, false⟩) :: rowR g4 (NV noInst) :: rowR g3 (CV c) :: []) → Code.wp _ _ _ _ w5) => key _ HTc.out.drew) ?_
    clear HTc r2 l2 f4 c4 f19 c19 r3 l3 k3 k3' ra la rb lb fb cb HT
    intro w5 T
    have r2 := T.row; have l2 := row_lt r2
    have r4 := T.row1; have l4 := row_lt r4
    have T2 := T.swap.setRow (NV ⟨i.prom, i.vote, 3, c, false⟩)
    have HT := Lib.hid T2; clear T T2
    go_wp2
    refine ret_row_tmp (NV ⟨i.prom, i.vote, 3, c, false⟩) (.bool true) TInst_und rfl (by kernel_rfl) rfl rfl rfl rfl (TInst_size _) HT.out.row ⟨by rw [E.out], HT.out.nil⟩
end Go.Proofs.YtfgacjglfdehbaaGreatDoor
/- Layer 15, plain: the laws of answers. No walk stands here. -/
namespace Go.Proofs.YtfgacjglfdehbaaGreatDoor
open Go.RowKit
set_option linter.unusedVariables false
attribute [local instance 10] Classical.propDecidable
theorem lessBal_self (b : Ballot) : lessBal b b = false := lessBal_irr (eqA_refl _)
theorem lessBal_trans {a b c : Ballot} (h1 : lessBal b a = false) (h2 : lessBal c b = false) : lessBal c a = false := by
  unfold lessBal at *
  rw [decide_eq_false_iff_not] at *
  omega
theorem BV_eq {a b : Ballot} (h : eqA (BV a) (BV b) = true) : a = b := by
  have h := eqA_iff.1 h
  cases a; cases b
  simp [BV] at h
  simp [h.1, h.2]
theorem afterM_cases (m : RowsM) (self : Int) (x : Msg) : (eqA (NV (atM m x.item)) (NV (ansM m self x).now) = true ∧ afterM m self x = m) ∨ (eqA (NV (atM m x.item)) (NV (ansM m self x).now) = false ∧ afterM m self x = setM m x.item (ansM m self x).now) := by
  unfold afterM nowR
  split
  · rename_i h; exact .inl ⟨h, rfl⟩
  · rename_i h; exact .inr ⟨by simpa using h, rfl⟩
theorem ans_bad {m : RowsM} {self : Int} {x : Msg} (h : x.to ≠ self ∨ goodM x m.n = false) : ansM m self x = noAns (atM m x.item) := if_pos h
theorem refM_cases (x : Msg) (i : Inst) : (lessBal x.bal i.prom = true ∧ refM x i = ⟨⟨8, x.to, x.frm, x.item, i.prom, noBallot, 0, false, noCall⟩, true, i⟩) ∨ (lessBal x.bal i.prom = false ∧ refM x i = noAns i) := by
  unfold refM
  split
  · rename_i h; exact .inl ⟨h, rfl⟩
  · rename_i h; exact .inr ⟨by simpa using h, rfl⟩
theorem voteM_cases (i : Inst) (b : Ballot) (st : Int) (c : Call) (same : Bool) :
    ((lessBal b i.prom = true ∨ i.status = 3) ∧ voteM i b st c same = (i, false)) ∨
    (lessBal b i.prom = false ∧ i.status ≠ 3 ∧ eqA (BV i.vote) (BV b) = true ∧ i.status ≥ st ∧ voteM i b st c same = (⟨b, i.vote, i.status, i.call, i.same⟩, i.status == st)) ∨
    (lessBal b i.prom = false ∧ i.status ≠ 3 ∧ (eqA (BV i.vote) (BV b) = false ∨ i.status < st) ∧ voteM i b st c same = (⟨b, b, st, c, same⟩, true)) := by
  unfold voteM
  by_cases h : lessBal b i.prom = true ∨ i.status = 3
  · rw [if_pos h]; exact .inl ⟨h, rfl⟩
  · rw [if_neg h]
    have h1 : lessBal b i.prom = false := by
      cases hq : lessBal b i.prom with
      | false => rfl
      | true => exact absurd (.inl hq) h
    have h2 : i.status ≠ 3 := fun e => h (.inr e)
    by_cases hv : votedB i b st = true
    · rw [if_pos hv]
      unfold votedB at hv
      simp only [Bool.and_eq_true, decide_eq_true_eq] at hv
      exact .inr (.inl ⟨h1, h2, hv.1, hv.2, rfl⟩)
    · rw [if_neg hv]
      refine .inr (.inr ⟨h1, h2, ?_, rfl⟩)
      unfold votedB at hv
      simp only [Bool.and_eq_true, decide_eq_true_eq, not_and] at hv
      cases hq : eqA (BV i.vote) (BV b) with
      | false => exact .inl rfl
      | true => exact .inr (by have := hv hq; omega)
/-- How an answer comes about. -/
inductive AnsBy (m : RowsM) (self : Int) (x : Msg) : AnsM → Prop where
  | bad (h : x.to ≠ self ∨ goodM x m.n = false) : AnsBy m self x (noAns (atM m x.item))
  | done (hg : goodM x m.n = true) (ht : x.to = self) (hk : x.kind = 1 ∨ x.kind = 3 ∨ x.kind = 6) (hs : (atM m x.item).status = 3) : AnsBy m self x ⟨⟨5, x.to, x.frm, x.item, x.bal, noBallot, 0, false, (atM m x.item).call⟩, true, atM m x.item⟩
  | nack (hg : goodM x m.n = true) (ht : x.to = self) (hk : x.kind = 1 ∨ x.kind = 3 ∨ x.kind = 6) (hs : (atM m x.item).status ≠ 3) (hl : lessBal x.bal (atM m x.item).prom = true) : AnsBy m self x ⟨⟨8, x.to, x.frm, x.item, (atM m x.item).prom, noBallot, 0, false, noCall⟩, true, atM m x.item⟩
  | none (hg : goodM x m.n = true) (ht : x.to = self) (hk : x.kind = 1 ∨ x.kind = 3) (hs : (atM m x.item).status ≠ 3) (hl : lessBal x.bal (atM m x.item).prom = false) (hv : eqA (BV (atM m x.item).vote) (BV x.bal) = true) (hst : x.kind = 1 ∧ (atM m x.item).status > 1 ∨ x.kind = 3 ∧ (atM m x.item).status > 2) : AnsBy m self x (noAns (atM m x.item))
  | preOld (hg : goodM x m.n = true) (ht : x.to = self) (hk : x.kind = 1) (hs : (atM m x.item).status = 1) (hl : lessBal x.bal (atM m x.item).prom = false) (hv : eqA (BV (atM m x.item).vote) (BV x.bal) = true) :
      AnsBy m self x ⟨⟨2, x.to, x.frm, x.item, x.bal, noBallot, 0, (atM m x.item).same, (atM m x.item).call⟩, true, ⟨x.bal, (atM m x.item).vote, (atM m x.item).status, (atM m x.item).call, (atM m x.item).same⟩⟩
  | preNew (hg : goodM x m.n = true) (ht : x.to = self) (hk : x.kind = 1) (hs : (atM m x.item).status ≠ 3) (hl : lessBal x.bal (atM m x.item).prom = false) (hv : eqA (BV (atM m x.item).vote) (BV x.bal) = false ∨ (atM m x.item).status < 1) :
      AnsBy m self x ⟨⟨2, x.to, x.frm, x.item, x.bal, noBallot, 0, sameC (mergeC x.call (wayK m x.call.deed x.item)) x, mergeC x.call (wayK m x.call.deed x.item)⟩, true, ⟨x.bal, x.bal, 1, mergeC x.call (wayK m x.call.deed x.item), sameC (mergeC x.call (wayK m x.call.deed x.item)) x⟩⟩
  | accOld (hg : goodM x m.n = true) (ht : x.to = self) (hk : x.kind = 3) (hs : (atM m x.item).status = 2) (hl : lessBal x.bal (atM m x.item).prom = false) (hv : eqA (BV (atM m x.item).vote) (BV x.bal) = true) :
      AnsBy m self x ⟨backM x 4, true, ⟨x.bal, (atM m x.item).vote, (atM m x.item).status, (atM m x.item).call, (atM m x.item).same⟩⟩
  | accNew (hg : goodM x m.n = true) (ht : x.to = self) (hk : x.kind = 3) (hs : (atM m x.item).status ≠ 3) (hl : lessBal x.bal (atM m x.item).prom = false) (hv : eqA (BV (atM m x.item).vote) (BV x.bal) = false ∨ (atM m x.item).status < 2) :
      AnsBy m self x ⟨backM x 4, true, ⟨x.bal, x.bal, 2, x.call, false⟩⟩
  | prom (hg : goodM x m.n = true) (ht : x.to = self) (hk : x.kind = 6) (hs : (atM m x.item).status ≠ 3) (hl : lessBal x.bal (atM m x.item).prom = false) :
      AnsBy m self x ⟨⟨7, x.to, x.frm, x.item, x.bal, (atM m x.item).vote, (atM m x.item).status, (atM m x.item).same, (atM m x.item).call⟩, true, ⟨x.bal, (atM m x.item).vote, (atM m x.item).status, (atM m x.item).call, (atM m x.item).same⟩⟩
  | comOld (hg : goodM x m.n = true) (ht : x.to = self) (hk : x.kind = 5) (hs : (atM m x.item).status = 3) : AnsBy m self x (noAns (atM m x.item))
  | comNew (hg : goodM x m.n = true) (ht : x.to = self) (hk : x.kind = 5) (hs : (atM m x.item).status ≠ 3) : AnsBy m self x ⟨noMsg, false, ⟨(atM m x.item).prom, (atM m x.item).vote, 3, x.call, false⟩⟩
  | other (hg : goodM x m.n = true) (ht : x.to = self) (hk : x.kind ≠ 1 ∧ x.kind ≠ 3 ∧ x.kind ≠ 5 ∧ x.kind ≠ 6) : AnsBy m self x (noAns (atM m x.item))
theorem ans_by (m : RowsM) (self : Int) (x : Msg) : AnsBy m self x (ansM m self x) := by
  by_cases hb : x.to ≠ self ∨ goodM x m.n = false
  · rw [ans_bad hb]; exact .bad hb
  have ht : x.to = self := by
    by_cases h : x.to = self
    · exact h
    · exact absurd (.inl h) hb
  have hg : goodM x m.n = true := by
    cases hq : goodM x m.n with
    | true => rfl
    | false => exact absurd (.inr hq) hb
  unfold ansM
  rw [if_neg hb]
  by_cases h3 : (x.kind = 1 ∨ x.kind = 3 ∨ x.kind = 6) ∧ (atM m x.item).status = 3
  · rw [if_pos h3]; exact .done hg ht h3.1 h3.2
  rw [if_neg h3]
  by_cases k1 : x.kind = 1
  · have hs : (atM m x.item).status ≠ 3 := fun e => h3 ⟨.inl k1, e⟩
    rw [if_pos k1]
    unfold preM
    rcases voteM_cases (atM m x.item) x.bal 1 (mergeC x.call (wayK m x.call.deed x.item)) (sameC (mergeC x.call (wayK m x.call.deed x.item)) x) with ⟨h, e⟩ | ⟨hl, _, hv, hst, e⟩ | ⟨hl, _, hv, e⟩
    · rw [e]
      rw [if_neg (by simp)]
      rcases refM_cases x (atM m x.item) with ⟨hl, e2⟩ | ⟨hl, e2⟩
      · rw [e2]; exact .nack hg ht (.inl k1) hs hl
      · rcases h with h | h
        · rw [hl] at h; cases h
        · exact absurd h hs
    · rw [e]
      by_cases h1 : (atM m x.item).status = 1
      · rw [if_pos (by simp [h1])]
        exact .preOld hg ht k1 h1 hl hv
      · rw [if_neg (by simp [h1])]
        rcases refM_cases x (atM m x.item) with ⟨hl2, e2⟩ | ⟨hl2, e2⟩
        · rw [hl] at hl2; cases hl2
        · rw [e2]; exact .none hg ht (.inl k1) hs hl hv (.inl ⟨k1, by omega⟩)
    · rw [e, if_pos rfl]
      exact .preNew hg ht k1 hs hl hv
  rw [if_neg k1]
  by_cases k3 : x.kind = 3
  · have hs : (atM m x.item).status ≠ 3 := fun e => h3 ⟨.inr (.inl k3), e⟩
    rw [if_pos k3]
    unfold accM
    rcases voteM_cases (atM m x.item) x.bal 2 x.call false with ⟨h, e⟩ | ⟨hl, _, hv, hst, e⟩ | ⟨hl, _, hv, e⟩
    · rw [e]
      rw [if_neg (by simp)]
      rcases refM_cases x (atM m x.item) with ⟨hl, e2⟩ | ⟨hl, e2⟩
      · rw [e2]; exact .nack hg ht (.inr (.inl k3)) hs hl
      · rcases h with h | h
        · rw [hl] at h; cases h
        · exact absurd h hs
    · rw [e]
      by_cases h1 : (atM m x.item).status = 2
      · rw [if_pos (by simp [h1])]
        exact .accOld hg ht k3 h1 hl hv
      · rw [if_neg (by simp [h1])]
        rcases refM_cases x (atM m x.item) with ⟨hl2, e2⟩ | ⟨hl2, e2⟩
        · rw [hl] at hl2; cases hl2
        · rw [e2]; exact .none hg ht (.inr k3) hs hl hv (.inr ⟨k3, by omega⟩)
    · rw [e, if_pos rfl]
      exact .accNew hg ht k3 hs hl hv
  rw [if_neg k3]
  by_cases k6 : x.kind = 6
  · have hs : (atM m x.item).status ≠ 3 := fun e => h3 ⟨.inr (.inr k6), e⟩
    rw [if_pos k6]
    unfold prmM promM
    by_cases hl : lessBal x.bal (atM m x.item).prom = true
    · rw [if_pos hl, if_neg (by simp)]
      rcases refM_cases x (atM m x.item) with ⟨_, e2⟩ | ⟨hl2, e2⟩
      · rw [e2]; exact .nack hg ht (.inr (.inr k6)) hs hl
      · rw [hl] at hl2; cases hl2
    · rw [if_neg hl, if_pos rfl]
      exact .prom hg ht k6 hs (by simpa using hl)
  rw [if_neg k6]
  by_cases k5 : x.kind = 5
  · rw [if_pos k5]
    unfold commitM
    by_cases hs : (atM m x.item).status = 3
    · rw [if_pos hs]; exact .comOld hg ht k5 hs
    · rw [if_neg hs]; exact .comNew hg ht k5 hs
  rw [if_neg k5]
  exact .other hg ht ⟨k1, k3, k5, k6⟩
theorem atM_set {m : RowsM} {x : Item} (i : Inst) (h : goodI x m.n = true) : atM (setM m x i) x = i := by
  unfold atM; rw [getM_set_same _ h]; rfl
/-- What is known of the item, behind the answer. -/
theorem at_after {m : RowsM} {self : Int} {x : Msg} : NV (atM (afterM m self x) x.item) = NV (ansM m self x).now := by
  rcases afterM_cases m self x with ⟨h, e⟩ | ⟨h, e⟩
  · rw [e]; exact eqA_iff.1 h
  · rw [e]
    by_cases hg : goodI x.item m.n = true
    · rw [atM_set _ hg]
    · have hb : goodM x m.n = false := by
        cases hq : goodM x m.n with
        | false => rfl
        | true => exact absurd (goodM_in hq).1 hg
      rw [ans_bad (.inr hb)] at h
      rw [show (noAns (atM m x.item)).now = atM m x.item from rfl, eqA_refl] at h
      cases h
/-! refusals -/
/-! what is committed -/
end Go.Proofs.YtfgacjglfdehbaaGreatDoor
/- Layers 13, 15, plain: what is known only goes on; what is pre-accepted reaches to all that clashes. No walk stands here. -/
namespace Go.Proofs.YtfgacjglfdehbaaGreatDoor
open Go.RowKit
set_option linter.unusedVariables false
attribute [local instance 10] Classical.propDecidable
noncomputable def followsB (a b : Inst) : Bool :=
  if lessBal b.prom a.prom = true ∨ lessBal b.vote a.vote = true then false
  else if a.status = 3 then b.status == 3 && eqA (CV a.call) (CV b.call) && eqA (BV a.vote) (BV b.vote)
  else if eqA (BV a.vote) (BV b.vote) = false ∨ b.status = 3 then true
  else if a.status = b.status then eqA (CV a.call) (CV b.call) && (a.same == b.same)
  else decide (b.status > a.status)
theorem follows_self (a : Inst) : followsB a a = true := by
  unfold followsB
  rw [lessBal_self, lessBal_self, if_neg (by simp)]
  split
  · rename_i h; simp [h, eqA_refl]
  · rw [eqA_refl]
    simp [eqA_refl]
/-- No vote is greater than what is promised. -/
def VoteLe (m : RowsM) : Prop := ∀ x i, getM m x = some i → lessBal i.prom i.vote = false
theorem VoteLe.new (n : Int) : VoteLe ⟨n, fun _ => []⟩ := fun x i h => by rw [getM_new] at h; cases h
theorem VoteLe.at {m : RowsM} (h : VoteLe m) (x : Item) : lessBal (atM m x).prom (atM m x).vote = false := by
  unfold atM
  cases hg : getM m x with
  | none => exact lessBal_self noBallot
  | some t => exact h x t hg
theorem VoteLe.after {m : RowsM} (h : VoteLe m) (self : Int) (x : Msg) : VoteLe (afterM m self x) := by
  rcases afterM_cases m self x with ⟨_, e⟩ | ⟨hne, e⟩
  · rw [e]; exact h
  · rw [e]
    intro y i hy
    by_cases hg : goodI x.item m.n = true
    · by_cases hxy : x.item = y
      · subst hxy
        rw [getM_set_same _ hg] at hy
        injection hy with hy
        subst hy
        have h0 := h.at x.item
        have hby := ans_by m self x
        generalize ansM m self x = a at *
        cases hby with
        | bad => exact h0
        | done => exact h0
        | nack => exact h0
        | none => exact h0
        | preOld _ _ _ _ hl => exact lessBal_trans h0 hl
        | preNew => exact lessBal_self _
        | accOld _ _ _ _ hl => exact lessBal_trans h0 hl
        | accNew => exact lessBal_self _
        | prom _ _ _ _ hl => exact lessBal_trans h0 hl
        | comOld => exact h0
        | comNew => exact h0
        | other => exact h0
      · rw [getM_set_other _ hg hxy] at hy
        exact h y i hy
    · unfold setM at hy
      rw [if_neg hg] at hy
      exact h y i hy
theorem follows_now {m : RowsM} (hv : VoteLe m) (self : Int) (x : Msg) : followsB (atM m x.item) (ansM m self x).now = true := by
  have h0 := hv.at x.item
  have hby := ans_by m self x
  generalize ansM m self x = a at *
  cases hby with
  | bad => exact follows_self _
  | done => exact follows_self _
  | nack => exact follows_self _
  | none => exact follows_self _
  | preOld _ _ _ hs hl he =>
    unfold followsB
    simp only [lessBal_self, hl, eqA_refl]
    simp [hs]
  | preNew _ _ _ hs hl hvv =>
    have hlv : lessBal x.bal (atM m x.item).vote = false := lessBal_trans h0 hl
    unfold followsB
    simp only [hl, hlv]
    rw [if_neg (by simp), if_neg hs]
    rcases hvv with h | h
    · rw [if_pos (.inl h)]
    · split
      · rfl
      · rw [if_neg (by omega)]; simp; omega
  | accOld _ _ _ hs hl he =>
    unfold followsB
    simp only [lessBal_self, hl, eqA_refl]
    simp [hs]
  | accNew _ _ _ hs hl hvv =>
    have hlv : lessBal x.bal (atM m x.item).vote = false := lessBal_trans h0 hl
    unfold followsB
    simp only [hl, hlv]
    rw [if_neg (by simp), if_neg hs]
    rcases hvv with h | h
    · rw [if_pos (.inl h)]
    · split
      · rfl
      · rw [if_neg (by omega)]; simp; omega
  | prom _ _ _ hs hl =>
    unfold followsB
    simp only [lessBal_self, hl, eqA_refl]
    simp [hs]
  | comOld => exact follows_self _
  | comNew _ _ _ hs =>
    unfold followsB
    simp only [lessBal_self]
    simp [hs]
  | other => exact follows_self _
theorem follows_congr {a b c d : Inst} (h1 : NV a = NV c) (h2 : NV b = NV d) : followsB a b = followsB c d := by
  have hp : ∀ {i j : Inst}, NV i = NV j → i.prom = j.prom ∧ i.vote = j.vote ∧ i.status = j.status ∧ CV i.call = CV j.call ∧ i.same = j.same := fun {i j} h => by
    refine ⟨?_, ?_, ?_, ?_, ?_⟩
    · have e : piece (NV i) 0 2 = piece (NV j) 0 2 := by rw [h]
      exact BV_eq (eqA_iff.2 e)
    · have e : piece (NV i) 2 2 = piece (NV j) 2 2 := by rw [h]
      exact BV_eq (eqA_iff.2 e)
    · have e : (NV i)[4]? = (NV j)[4]? := by rw [h]
      have e1 : ∀ i : Inst, (NV i)[4]? = some (.int .i64 i.status) := fun i => rfl
      rw [e1, e1] at e
      simpa using e
    · have e : piece (NV i) 5 14 = piece (NV j) 5 14 := by rw [h]
      exact e
    · have e : (NV i)[19]? = (NV j)[19]? := by rw [h]
      have e1 : ∀ i : Inst, (NV i)[19]? = some (.bool i.same) := fun i => rfl
      rw [e1, e1] at e
      simpa using e
  obtain ⟨a1, a2, a3, a4, a5⟩ := hp h1
  obtain ⟨b1, b2, b3, b4, b5⟩ := hp h2
  unfold followsB
  rw [a1, a2, a3, a4, a5, b1, b2, b3, b4, b5]
/-- What a round of VoterForward looks at. -/
theorem forward_at {m : RowsM} (hv : VoteLe m) (self : Int) (x : Msg) {y : Item} {i : Inst} (hy : getM (afterM m self x) y = some i) :
    followsB (atM m y) i = true ∧ lessBal i.prom i.vote = false ∧ (eqA (IV y) (IV x.item) = false → NV (atM m y) = NV i) := by
  refine ⟨?_, hv.after self x y i hy, fun hne => ?_⟩
  · by_cases e : y = x.item
    · subst e
      have h1 := follows_now hv self x
      have h2 := at_after (m := m) (self := self) (x := x)
      unfold atM at h2
      rw [hy] at h2
      simp only [Option.getD_some] at h2
      rw [follows_congr rfl h2]
      exact h1
    · have : getM (afterM m self x) y = getM m y := by
        rcases afterM_cases m self x with ⟨_, e2⟩ | ⟨_, e2⟩
        · rw [e2]
        · rw [e2]
          by_cases hg : goodI x.item m.n = true
          · exact getM_set_other _ hg (fun h => e h.symm)
          · unfold setM; rw [if_neg hg]
      rw [this] at hy
      have : atM m y = i := by unfold atM; rw [hy]; rfl
      rw [this]; exact follows_self i
  · have e : y ≠ x.item := fun e => by subst e; rw [eqA_refl] at hne; cases hne
    have : getM (afterM m self x) y = getM m y := by
      rcases afterM_cases m self x with ⟨_, e2⟩ | ⟨_, e2⟩
      · rw [e2]
      · rw [e2]
        by_cases hg : goodI x.item m.n = true
        · exact getM_set_other _ hg (fun h => e h.symm)
        · unfold setM; rw [if_neg hg]
    rw [this] at hy
    unfold atM; rw [hy]; rfl
/-- What is answered can be. -/
theorem out_good {m : RowsM} (hm : RowsOk m) (hg : RowsGood m) (hn : 1 ≤ m.n) {self : Int} {x : Msg} (hok : (ansM m self x).ok = true) :
    goodM (ansM m self x).out m.n = true ∧ (ansM m self x).out.frm = self ∧ (ansM m self x).out.to = x.frm ∧ (ansM m self x).out.item = x.item := by
  have hi := goodN_iff.1 (atM_good hg hn x.item)
  have hnow := goodN_iff.1 (ans_good hm hg hn self x)
  have hby := ans_by m self x
  have base : ∀ {k : Int}, goodM x m.n = true → x.to = self → 1 ≤ k ∧ k ≤ 8 → decide (1 ≤ k ∧ k ≤ 8 ∧ 0 ≤ x.to ∧ x.to < m.n ∧ 0 ≤ x.frm ∧ x.frm < m.n) = true ∧ goodI x.item m.n = true ∧ goodBal x.bal m.n = true := fun {k} h ht hk => by
    obtain ⟨h1, h2, h3, h4⟩ := goodM_in h
    exact ⟨decide_eq_true (by omega), h1, h2⟩
  generalize ansM m self x = a at *
  cases hby with
  | bad => cases hok
  | done h ht hk hs =>
    obtain ⟨b1, b2, b3⟩ := base (k := 5) h ht (by omega)
    refine ⟨?_, ht, rfl, rfl⟩
    unfold goodM
    simp only [b1, b2, b3]
    simp [callsB, knownB, noVote, eqA_refl, hi.2.2.2.1]
  | nack h ht hk hs hl =>
    obtain ⟨b1, b2, b3⟩ := base (k := 8) h ht (by omega)
    refine ⟨?_, ht, rfl, rfl⟩
    unfold goodM
    simp only [b1, b2, hi.1]
    simp [callsB, knownB, noVote, noC, eqA_refl]
  | none => cases hok
  | preOld h ht hk hs hl hv =>
    obtain ⟨b1, b2, b3⟩ := base (k := 2) h ht (by omega)
    refine ⟨?_, ht, rfl, rfl⟩
    unfold goodM
    simp only [b1, b2, b3]
    simp [callsB, knownB, noVote, eqA_refl, hi.2.2.2.1]
  | preNew h ht hk hs hl hv =>
    obtain ⟨b1, b2, b3⟩ := base (k := 2) h ht (by omega)
    refine ⟨?_, ht, rfl, rfl⟩
    have hc := hnow.2.2.2.1
    unfold goodM
    simp only [b1, b2, b3] at hc ⊢
    simp [callsB, knownB, noVote, eqA_refl, hc]
  | accOld h ht hk hs hl hv =>
    obtain ⟨b1, b2, b3⟩ := base (k := 4) h ht (by omega)
    refine ⟨?_, ht, rfl, rfl⟩
    unfold goodM backM
    simp only [b1, b2, b3]
    simp [callsB, knownB, noVote, noC, eqA_refl]
  | accNew h ht hk hs hl hv =>
    obtain ⟨b1, b2, b3⟩ := base (k := 4) h ht (by omega)
    refine ⟨?_, ht, rfl, rfl⟩
    unfold goodM backM
    simp only [b1, b2, b3]
    simp [callsB, knownB, noVote, noC, eqA_refl]
  | prom h ht hk hs hl =>
    obtain ⟨b1, b2, b3⟩ := base (k := 7) h ht (by omega)
    refine ⟨?_, ht, rfl, rfl⟩
    obtain ⟨c1, c2, c3, c4, c5⟩ := hi
    unfold goodM
    simp only [b1, b2, b3]
    rcases c5 with c5 | ⟨d1, d2, d3⟩
    · simp [callsB, knownB, noVote, noC, c2, c3, c4, c5]
    · simp [callsB, knownB, noVote, noC, c2, c3, c4, d1, d2, d3]
  | comOld => cases hok
  | comNew => cases hok
  | other => cases hok
end Go.Proofs.YtfgacjglfdehbaaGreatDoor
