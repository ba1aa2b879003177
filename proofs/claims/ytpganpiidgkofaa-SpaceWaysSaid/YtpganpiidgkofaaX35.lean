/- Several texts in one. -/
import Derived.Test.YtpganpiidgkofaaX34
import Derived.Test.YtpganpiidgkofaaX16
import Derived.Deep.DeepCutAuto
import Derived.Test.YtpganpiidgkofaaX6
/- Layer 24: one replica's item. -/
namespace Go.Proofs.Ytpganpiidgkofaa
open Go.RowKit
set_option linter.unusedVariables false
attribute [local go_sem] row_alloc row_drew row_drewN row_ext row_setCell row_setRow size_ext setRow_alloc setRow_drew loadOf storeOf piece_lit loadVal_at storeVal_at allOne_lit buildOf buildRes_some
attribute [local go_sem high] cell_alloc frozen_alloc setCell_alloc cell_ext frozen_ext cell_setRow frozen_setRow
attribute [local go_sem ↓] TDeed_ld0 TDeed_st0 TDeed_fd0 TDeed_bd0
attribute [local go_sem] TDeed_size TDeed_one TDeed_piece TDeed_c0 TDeed_c1 TDeed_c2 TDeed_c3 TDeed_c4 TDeed_c5 TDeed_set_kind TDeed_set_key TDeed_set_val TDeed_set_ver TDeed_set_ses TDeed_set_num TDeed_ld TDeed_st TDeed_f_kind TDeed_f_key TDeed_f_val TDeed_f_ver TDeed_f_ses TDeed_f_num TDeed_bd TDeed_fl TDeed_fl_kind TDeed_fl_key TDeed_fl_val TDeed_fl_ver TDeed_fl_ses TDeed_fl_num
attribute [local go_sem high] TDeed_eql TDeed_neq
attribute [local go_sem ↓] index_deps0 load_deps0 store_deps0
attribute [local go_sem] DV_piece DV_size DV_one index_deps load_deps store_deps
attribute [local go_sem high] TDeps_eql TDeps_neq
attribute [local go_sem ↓] TCall_ld0 TCall_st0 TCall_fd0 TCall_bd0
attribute [local go_sem] TCall_size TCall_one TCall_piece TCall_c0 TCall_c1 TCall_c2 TCall_c3 TCall_c4 TCall_c5 TCall_c6 TCall_c7 TCall_c8 TCall_c9 TCall_c10 TCall_c11 TCall_c12 TCall_c13 TCall_p_deed TCall_put_deed TCall_p_deps TCall_put_deps TCall_set_seq TCall_ld TCall_st TCall_f_deed TCall_f_deps TCall_f_seq TCall_bd TCall_fl TCall_fl_deed TCall_fl_deps TCall_fl_seq
attribute [local go_sem high] TCall_eql TCall_neq
attribute [local go_sem ↓] TItem_ld0 TItem_st0 TItem_fd0 TItem_bd0
attribute [local go_sem] TItem_size TItem_one TItem_piece TItem_c0 TItem_c1 TItem_set_rep TItem_set_num TItem_ld TItem_st TItem_f_rep TItem_f_num TItem_bd TItem_fl TItem_fl_rep TItem_fl_num
attribute [local go_sem high] TItem_eql TItem_neq
attribute [local go_sem ↓] TBallot_ld0 TBallot_st0 TBallot_fd0 TBallot_bd0
attribute [local go_sem] TBallot_size TBallot_one TBallot_piece TBallot_c0 TBallot_c1 TBallot_set_round TBallot_set_rep TBallot_ld TBallot_st TBallot_f_round TBallot_f_rep TBallot_bd TBallot_fl TBallot_fl_round TBallot_fl_rep
attribute [local go_sem high] TBallot_eql TBallot_neq
attribute [local go_sem ↓] TInst_ld0 TInst_st0 TInst_fd0 TInst_bd0
attribute [local go_sem] TInst_size TInst_one TInst_piece TInst_c0 TInst_c1 TInst_c2 TInst_c3 TInst_c4 TInst_c5 TInst_c6 TInst_c7 TInst_c8 TInst_c9 TInst_c10 TInst_c11 TInst_c12 TInst_c13 TInst_c14 TInst_c15 TInst_c16 TInst_c17 TInst_c18 TInst_c19 TInst_p_prom TInst_put_prom TInst_p_vote TInst_put_vote TInst_set_status TInst_p_call TInst_put_call TInst_set_same TInst_ld TInst_st TInst_f_prom TInst_f_vote TInst_f_status TInst_f_call TInst_f_same TInst_bd TInst_fl TInst_fl_prom TInst_fl_vote TInst_fl_status TInst_fl_call TInst_fl_same
attribute [local go_sem high] TInst_eql TInst_neq
attribute [local go_sem ↓] TEntry_ld0 TEntry_st0 TEntry_fd0 TEntry_bd0
attribute [local go_sem] TEntry_size TEntry_one TEntry_piece TEntry_c0 TEntry_c1 TEntry_c2 TEntry_c3 TEntry_c4 TEntry_c5 TEntry_c6 TEntry_c7 TEntry_c8 TEntry_c9 TEntry_c10 TEntry_c11 TEntry_c12 TEntry_c13 TEntry_c14 TEntry_c15 TEntry_c16 TEntry_c17 TEntry_c18 TEntry_c19 TEntry_c20 TEntry_c21 TEntry_p_item TEntry_put_item TEntry_p_inst TEntry_put_inst TEntry_ld TEntry_st TEntry_f_item TEntry_f_inst TEntry_bd TEntry_fl TEntry_fl_item TEntry_fl_inst
attribute [local go_sem high] TEntry_eql TEntry_neq
attribute [local go_sem ↓] TFinding_ld0 TFinding_st0 TFinding_fd0 TFinding_bd0
attribute [local go_sem] TFinding_size TFinding_one TFinding_piece TFinding_c0 TFinding_c1 TFinding_c2 TFinding_c3 TFinding_set_kind TFinding_set_rep TFinding_p_item TFinding_put_item TFinding_ld TFinding_st TFinding_f_kind TFinding_f_rep TFinding_f_item TFinding_bd TFinding_fl TFinding_fl_kind TFinding_fl_rep TFinding_fl_item
attribute [local go_sem high] TFinding_eql TFinding_neq
attribute [local go_sem] cellsR_0 cellsR_1 cellsR_2 cellsR_3
def tellM (s : Rep) (k rep : Int) (x : Item) : Rep := { s with list := s.list ++ [⟨k, rep, x⟩] }
noncomputable def addMk (s : Rep) (x : Item) (c : Call) : Rep := { s with calls := putF s.calls x c, order := s.order ++ [x], cnt := s.cnt + 1 }
noncomputable def markM (s : Rep) (rep : Int) (e : Entry) : Rep :=
  match s.calls e.item with
  | none => addMk s e.item e.inst.call
  | some c => if eqA (CV c) (CV e.inst.call) = true then s else tellM s 4 rep e.item
noncomputable def entryM (s : Rep) (rep : Int) (e : Entry) : Rep :=
  if goodN e.inst s.n = false then tellM s 2 rep e.item
  else
    let s1 := if lessBal e.inst.prom e.inst.vote = true then tellM s 3 rep e.item else s
    if (e.inst.status == 3) = true then markM s1 rep e else s1
theorem item_info : (Try.prog.info? 42).map (fun i => (i.zero, i.size, i.bytes)) = some (some (.agg #[.int .i64 0, .int .i64 0]), 2, 16) := by kernel_rfl
theorem aitem_i : ∃ i, Try.prog.info? 42 = some i ∧ i.zero = some (.agg #[.int .i64 0, .int .i64 0]) ∧ i.size = 2 ∧ i.bytes = 16 := by
  have h := item_info
  cases hi : Try.prog.info? 42 with
  | none => rw [hi] at h; simp at h
  | some i => rw [hi] at h; simp at h; exact ⟨i, rfl, h.1, h.2.1, h.2.2⟩
theorem aitem_slice0 (len : Nat) (parts : Array (Nat × Value)) : Instr.buildSlice 46 len parts = buildSem 46 len parts := rfl
theorem aitem_slice1 (w : World) (x : Item) : (buildSem 46 1 #[(0, .agg (IV x))]).run Try.prog w = .ok (.slice (some ⟨w.heap.size, 0, none⟩) 1 1) (w.alloc (.cells (IV x) 42)) :=
  build_slice1 Try.underlying46 (z := .agg #[.int .i64 0, .int .i64 0]) (n := 2) (by kernel_rfl) (by omega) w (TItem_size x) (by omega)
attribute [local go_sem ↓] aitem_slice0
attribute [local go_sem] aitem_slice1
theorem noCall_lit : (CV noCall : Array Value) = #[.int .i64 0, .string { data := #[] }, .string { data := #[] }, .int .i64 0, .int .i64 0, .int .i64 0, .int .i64 0, .int .i64 0, .int .i64 0, .int .i64 0, .int .i64 0, .int .i64 0, .int .i64 0, .int .i64 0] := by kernel_rfl
theorem zeroC (w : World) : (zeroValue 37).run Try.prog w = .ok (.agg (CV noCall)) w := by kernel_rfl
set_option maxHeartbeats 8000000 in
set_option maxRecDepth 10000 in
theorem entryD (r : Nat) (s : Rep) (rep : Int) (e : Entry) (hn : s.list.length < 900000) (ho : s.order.length < 900000) (hc : s.cnt < 900000) (hx : InI e.item) :
    Does Try.prog 121 #[.pointer (some ⟨r, 0, none⟩), .int .i64 rep, .agg (AV e)] [repR r s] (.tuple #[]) [repR r (entryM s rep e)] := by
  intro W G hS
  have T := (((Sts.start hS).new (AV e) 85).new (NV e.inst) 39).rot2
  simp only [World.size_alloc] at T
  clear hS
  -- rows: report, inst, entry
  have cg := goodN_any e.inst s.n
  have em : entryM s rep e = if goodN e.inst s.n = false then tellM s 2 rep e.item else (let s1 := if lessBal e.inst.prom e.inst.vote = true then tellM s 3 rep e.item else s; if (e.inst.status == 3) = true then markM s1 rep e else s1) := rfl
  obtain ⟨v1, v2, m, TO⟩ := T.repOpen
  have hcr := row_cell TO.row; have hlr := row_lt TO.row
  have hri := T.row1; have hre := T.row2; have hli := row_lt hri; have hle := row_lt hre
  have hcg := Lib.hid cg; clear cg
  go_enter Try.func121, Try.ntmps121
  go_wp2_with fail
  refine wp_region_ext (by kernel_rfl) (by kernel_rfl) ?_
  repeat (go_big_quiet_step (first | (go_at_call 56; exact hcg.out.quiet)))
  refine wpQuiet_nil ?_
  rintro _ ⟨x9, rfl⟩
  have T := T.ext x9
  clear TO hcr hlr hri hre hli hle
  generalize ext _ x9 = w1 at *
  have hre := T.row2; have hle := row_lt hre; have hrc := row_cell hre
  have hri := T.row1; have hli := row_lt hri; have hrk := row_cell hri
  cases hg : goodN e.inst s.n
  · rw [hg, if_pos rfl] at em
    have HE := Lib.hid em; clear em hcg hg
    go_wp2_with fail
    refine (Does.at1 (tellD r s 2 rep e.item (by omega)) T).mono ?_; clear T hre hle hrc hri hli hrk; rintro e1 w2 ⟨rfl, T⟩
    go_wp2
    try simp only [Exit.inBlock, Exit.then]
    refine bodyPost_ret (results_none rfl _ _ _) rfl ?_
    exact ⟨rfl, by rw [HE.out]; exact T.swap.drop.swap.drop⟩
  · rw [hg, if_neg (by simp)] at em
    clear hcg hg
    obtain ⟨s1, hs1⟩ : ∃ s1, s1 = if lessBal e.inst.prom e.inst.vote = true then tellM s 3 rep e.item else s := ⟨_, rfl⟩
    simp only [← hs1] at em
    have hb1 : s1.list.length < 900001 ∧ s1.order.length < 900000 ∧ s1.cnt < 900000 := by
      rw [hs1]; split
      · refine ⟨?_, ho, hc⟩; show (s.list ++ _).length < _; rw [List.length_append]; simp; omega
      · exact ⟨by omega, ho, hc⟩
    obtain ⟨hb1, hb2, hb3⟩ := hb1
    have CL := Lib.hid (less_any e.inst.prom e.inst.vote)
    go_wp2_with fail
    refine (Ans.at CL.out T).mono ?_; clear T hre hle hrc hri hli hrk CL; rintro e1 w2 ⟨rfl, T⟩
    have hre := T.row2; have hle := row_lt hre; have hrc := row_cell hre
    have hri := T.row1; have hli := row_lt hri; have hrk := row_cell hri
    have HE := Lib.hid em; clear em
    cases hl : lessBal e.inst.prom e.inst.vote
    all_goals rw [hl] at hs1
    case false =>
      simp only [Bool.false_eq_true, if_false] at hs1
      subst hs1
      -- BEGIN
      cases hs3 : (e.inst.status == 3)
      case false =>
        have hs33 : (e.inst.status != 3) = true := by simp [bne, hs3]
        have em := HE.out; rw [hs3, if_neg (by simp)] at em
        have HE := Lib.hid em; clear em
        go_wp2
        try simp only [Exit.inBlock, Exit.then]
        first | refine bodyPost_ret (results_none rfl _ _ _) rfl ?_ | refine bodyPost_end (results_none rfl _ _ _) rfl ?_
        exact ⟨rfl, by rw [HE.out]; exact T.swap.drop.swap.drop⟩
      case true =>
        have hs33 : (e.inst.status != 3) = false := by simp [bne, hs3]
        have em := HE.out; rw [hs3, if_pos rfl] at em
        have HE := Lib.hid em; clear em
        obtain ⟨v1, v2, m, TO⟩ := T.repOpen
        have hcr := row_cell TO.row; have hlr := row_lt TO.row; have hfr := row_frozen TO.row
        have hlk := (TO.rot3.drew).map.look itemOk Try.underlying170 zeroC e.item hx
        have hlk2 := ((TO.rot3.keep (.cells (CV noCall) 37)).drew).map.look itemOk Try.underlying170 zeroC e.item hx
        have hw : w2.alloc (.cells (CV noCall) 37) = w2.alloc (.cells #[.int .i64 0, .string { data := #[] }, .string { data := #[] }, .int .i64 0, .int .i64 0, .int .i64 0, .int .i64 0, .int .i64 0, .int .i64 0, .int .i64 0, .int .i64 0, .int .i64 0, .int .i64 0, .int .i64 0] 37) := by rw [noCall_lit]
        rw [hw] at hlk2; clear hw
        cases hcl : s1.calls e.item
        case none =>
          rw [hcl] at hlk hlk2
          simp only [Option.isSome_none] at hlk hlk2
          go_upto_region 7 with fail
          have TN := ((TO.rot3.new (CV noCall) 37).swap.drew)
          obtain ⟨W9, hput, T9, -⟩ := TN.drew.mapPut itemOk Try.underlying170 (by unfold maxLen; omega) e.item hx e.inst.call
          have em2 : markM s1 rep e = addMk s1 e.item e.inst.call := by unfold markM; rw [hcl]
          have em := HE.out; rw [em2] at em; have HE := Lib.hid em; clear em em2
          go_region
          all_goals
            simp only [Exit.then]
            clear hlk hlk2 hre hle hrc hri hli hrk hcr hlr hfr
            have hcr := row_cell TN.row2; have hri := TN.drop.row4; have hrk := row_cell hri; have hre := TN.drop.drop.row4; have hrc := row_cell hre
            skip
            go_upto_region 9 with fail
            go_region
            simp only [Exit.then]
            clear hcr hri hrk hre hrc hput
            have T := T9.swap.drop.rot3
            clear T9 TN TO
            obtain ⟨i0, hi, hz0, hz1, hz2⟩ := aitem_i
            have hcr := row_cell T.row2; have hlr := row_lt T.row2; have hre := T.drop.row4; have hrc := row_cell hre
            have hT1 := (T.new (IV e.item) 42).swap.drew
            clear T
            have hlr2 : ¬ r = W9.heap.size := by omega
            have hnews : ∀ j u, (IV e.item).toList[j]? = some u → (W9.alloc (.cells (IV e.item) 42)).drew.cell? ((⟨W9.heap.size, 0, none⟩ : Addr).add j) = some u := by
              intro j u hu
              have hadd : (⟨W9.heap.size, 0, none⟩ : Addr).add j = ⟨W9.heap.size, j, none⟩ := by unfold Addr.add; split <;> simp_all
              rw [hadd, row_cell hT1.row1]; simpa using hu
            have h1 : ∀ u ∈ (IV e.item).toList, u.oneCell' = true := by simp [IV, Value.oneCell']
            have h63 : s1.order.length + 1 ≤ maxLen := by unfold maxLen; omega
            have hby : (s1.order.length + 1) * 16 ≤ 140737488355328 := by omega
            have HT := Lib.hid hT1; clear hT1
            go_upto_region 10 with fail
            go_region_law
              ((refine step_append_vec (by rfl) _ _ _ (by rfl) 42 i0 _ 2 16 Try.underlying46 hi hz0 hz1 hz2 rfl (by omega) v2 s1.order.length (vl IV s1.order) (by rfl) HT.out ⟨W9.heap.size, 0, none⟩ 1 1 (IV e.item).toList (by rfl) (by rfl) hnews h1 (by omega) h63 hby ?_; intro g cap w1 T1; have hc1 := row_cell T1.row3; have hf1 := row_frozen T1.row3; have hl1 := row_lt T1.row3))
            all_goals
              have T2 := (T1.swap.drop.rot2).setCell 3 (.slice (some ⟨g, 0, none⟩) (s1.order.length + 1) cap)
              rw [cellsR_set3] at T2
              have T3 := T2.rot3.swap
              have HT3 := Lib.hid T3; clear T1 T2 T3
              try simp only [Exit.then]
              try go_wp2
              try simp only [Exit.inBlock, Exit.then]
              first | refine bodyPost_ret (results_none rfl _ _ _) rfl ?_ | refine bodyPost_end (results_none rfl _ _ _) rfl ?_
              skip
              refine ⟨rfl, ?_⟩
              rw [HE.out]
              have T4 := HT3.out
              refine (Sts.repShut (R := [rowR (W.heap.size + 1) (NV e.inst), rowR W.heap.size (AV e)]) (s := addMk s1 e.item e.inst.call) (v1 := v1) (v2 := .slice (some ⟨g, 0, none⟩) (s1.order.length + 1) cap) (m := m) ?_).swap.drop.swap.drop
              unfold orderR
              have e1 : (addMk s1 e.item e.inst.call).order = s1.order ++ [e.item] := rfl
              rw [e1, vl_snoc, List.length_append]
              exact T4
        case some c0 =>
          rw [hcl] at hlk hlk2
          simp only [Option.isSome_some] at hlk hlk2
          go_upto_region 7 with fail
          have TN := (((T.new (CV c0) 37).drew)).swap
          go_region
          all_goals
            simp only [Exit.then]
            clear hlk hlk2 hre hle hrc hri hli hrk hcr hlr hfr TO
            have hrw := TN.row1; have hri := TN.row2; have hre := TN.row3; have hrc := row_cell hre; have hrk := row_cell hri; have hlc := row_lt hrw
            have em2 : markM s1 rep e = if eqA (CV c0) (CV e.inst.call) = true then s1 else tellM s1 4 rep e.item := by unfold markM; rw [hcl]
            have em := HE.out; rw [em2] at em; clear em2 T
            cases he : eqA (CV c0) (CV e.inst.call)
            all_goals rw [he] at em; have HE := Lib.hid em; clear em
            case true =>
              go_wp2
              try simp only [Exit.inBlock, Exit.then]
              first | refine bodyPost_ret (results_none rfl _ _ _) rfl ?_ | refine bodyPost_end (results_none rfl _ _ _) rfl ?_
              exact ⟨rfl, by rw [HE.out]; exact TN.swap.drop.swap.drop.swap.drop⟩
            case false =>
              go_wp2_with fail
              refine (Does.at1 (tellD r s1 4 rep e.item (by omega)) TN).mono ?_; clear TN hre hrc hri hrk hrw hlc; rintro e2 w4 ⟨rfl, T⟩
              go_wp2
              try simp only [Exit.inBlock, Exit.then]
              first | refine bodyPost_ret (results_none rfl _ _ _) rfl ?_ | refine bodyPost_end (results_none rfl _ _ _) rfl ?_
              exact ⟨rfl, by rw [HE.out]; exact T.swap.drop.swap.drop.swap.drop⟩
      -- END
    case true =>
      simp only [if_true] at hs1
      go_wp2_with fail
      refine (Does.at1 (tellD r s 3 rep e.item (by omega)) T).mono ?_; clear T hre hle hrc hri hli hrk; rintro e1 w3 ⟨rfl, T⟩
      have hre := T.row2; have hle := row_lt hre; have hrc := row_cell hre
      have hri := T.row1; have hli := row_lt hri; have hrk := row_cell hri
      rw [show ({ s with list := s.list ++ [⟨3, rep, e.item⟩] } : Rep) = s1 from hs1.symm] at T
      clear hs1
      -- BEGIN
      cases hs3 : (e.inst.status == 3)
      case false =>
        have hs33 : (e.inst.status != 3) = true := by simp [bne, hs3]
        have em := HE.out; rw [hs3, if_neg (by simp)] at em
        have HE := Lib.hid em; clear em
        go_wp2
        try simp only [Exit.inBlock, Exit.then]
        first | refine bodyPost_ret (results_none rfl _ _ _) rfl ?_ | refine bodyPost_end (results_none rfl _ _ _) rfl ?_
        exact ⟨rfl, by rw [HE.out]; exact T.swap.drop.swap.drop⟩
      case true =>
        have hs33 : (e.inst.status != 3) = false := by simp [bne, hs3]
        have em := HE.out; rw [hs3, if_pos rfl] at em
        have HE := Lib.hid em; clear em
        obtain ⟨v1, v2, m, TO⟩ := T.repOpen
        have hcr := row_cell TO.row; have hlr := row_lt TO.row; have hfr := row_frozen TO.row
        have hlk := (TO.rot3.drew).map.look itemOk Try.underlying170 zeroC e.item hx
        have hlk2 := ((TO.rot3.keep (.cells (CV noCall) 37)).drew).map.look itemOk Try.underlying170 zeroC e.item hx
        have hw : w3.alloc (.cells (CV noCall) 37) = w3.alloc (.cells #[.int .i64 0, .string { data := #[] }, .string { data := #[] }, .int .i64 0, .int .i64 0, .int .i64 0, .int .i64 0, .int .i64 0, .int .i64 0, .int .i64 0, .int .i64 0, .int .i64 0, .int .i64 0, .int .i64 0] 37) := by rw [noCall_lit]
        rw [hw] at hlk2; clear hw
        cases hcl : s1.calls e.item
        case none =>
          rw [hcl] at hlk hlk2
          simp only [Option.isSome_none] at hlk hlk2
          go_upto_region 7 with fail
          have TN := ((TO.rot3.new (CV noCall) 37).swap.drew)
          obtain ⟨W9, hput, T9, -⟩ := TN.drew.mapPut itemOk Try.underlying170 (by unfold maxLen; omega) e.item hx e.inst.call
          have em2 : markM s1 rep e = addMk s1 e.item e.inst.call := by unfold markM; rw [hcl]
          have em := HE.out; rw [em2] at em; have HE := Lib.hid em; clear em em2
          go_region
          all_goals
            simp only [Exit.then]
            clear hlk hlk2 hre hle hrc hri hli hrk hcr hlr hfr
            have hcr := row_cell TN.row2; have hri := TN.drop.row4; have hrk := row_cell hri; have hre := TN.drop.drop.row4; have hrc := row_cell hre
            skip
            go_upto_region 9 with fail
            go_region
            simp only [Exit.then]
            clear hcr hri hrk hre hrc hput
            have T := T9.swap.drop.rot3
            clear T9 TN TO
            obtain ⟨i0, hi, hz0, hz1, hz2⟩ := aitem_i
            have hcr := row_cell T.row2; have hlr := row_lt T.row2; have hre := T.drop.row4; have hrc := row_cell hre
            have hT1 := (T.new (IV e.item) 42).swap.drew
            clear T
            have hlr2 : ¬ r = W9.heap.size := by omega
            have hnews : ∀ j u, (IV e.item).toList[j]? = some u → (W9.alloc (.cells (IV e.item) 42)).drew.cell? ((⟨W9.heap.size, 0, none⟩ : Addr).add j) = some u := by
              intro j u hu
              have hadd : (⟨W9.heap.size, 0, none⟩ : Addr).add j = ⟨W9.heap.size, j, none⟩ := by unfold Addr.add; split <;> simp_all
              rw [hadd, row_cell hT1.row1]; simpa using hu
            have h1 : ∀ u ∈ (IV e.item).toList, u.oneCell' = true := by simp [IV, Value.oneCell']
            have h63 : s1.order.length + 1 ≤ maxLen := by unfold maxLen; omega
            have hby : (s1.order.length + 1) * 16 ≤ 140737488355328 := by omega
            have HT := Lib.hid hT1; clear hT1
            go_upto_region 10 with fail
            go_region_law
              ((refine step_append_vec (by rfl) _ _ _ (by rfl) 42 i0 _ 2 16 Try.underlying46 hi hz0 hz1 hz2 rfl (by omega) v2 s1.order.length (vl IV s1.order) (by rfl) HT.out ⟨W9.heap.size, 0, none⟩ 1 1 (IV e.item).toList (by rfl) (by rfl) hnews h1 (by omega) h63 hby ?_; intro g cap w1 T1; have hc1 := row_cell T1.row3; have hf1 := row_frozen T1.row3; have hl1 := row_lt T1.row3))
            all_goals
              have T2 := (T1.swap.drop.rot2).setCell 3 (.slice (some ⟨g, 0, none⟩) (s1.order.length + 1) cap)
              rw [cellsR_set3] at T2
              have T3 := T2.rot3.swap
              have HT3 := Lib.hid T3; clear T1 T2 T3
              try simp only [Exit.then]
              try go_wp2
              try simp only [Exit.inBlock, Exit.then]
              first | refine bodyPost_ret (results_none rfl _ _ _) rfl ?_ | refine bodyPost_end (results_none rfl _ _ _) rfl ?_
              skip
              refine ⟨rfl, ?_⟩
              rw [HE.out]
              have T4 := HT3.out
              refine (Sts.repShut (R := [rowR (W.heap.size + 1) (NV e.inst), rowR W.heap.size (AV e)]) (s := addMk s1 e.item e.inst.call) (v1 := v1) (v2 := .slice (some ⟨g, 0, none⟩) (s1.order.length + 1) cap) (m := m) ?_).swap.drop.swap.drop
              unfold orderR
              have e1 : (addMk s1 e.item e.inst.call).order = s1.order ++ [e.item] := rfl
              rw [e1, vl_snoc, List.length_append]
              exact T4
        case some c0 =>
          rw [hcl] at hlk hlk2
          simp only [Option.isSome_some] at hlk hlk2
          go_upto_region 7 with fail
          have TN := (((T.new (CV c0) 37).drew)).swap
          go_region
          all_goals
            simp only [Exit.then]
            clear hlk hlk2 hre hle hrc hri hli hrk hcr hlr hfr TO
            have hrw := TN.row1; have hri := TN.row2; have hre := TN.row3; have hrc := row_cell hre; have hrk := row_cell hri; have hlc := row_lt hrw
            have em2 : markM s1 rep e = if eqA (CV c0) (CV e.inst.call) = true then s1 else tellM s1 4 rep e.item := by unfold markM; rw [hcl]
            have em := HE.out; rw [em2] at em; clear em2 T
            cases he : eqA (CV c0) (CV e.inst.call)
            all_goals rw [he] at em; have HE := Lib.hid em; clear em
            case true =>
              go_wp2
              try simp only [Exit.inBlock, Exit.then]
              first | refine bodyPost_ret (results_none rfl _ _ _) rfl ?_ | refine bodyPost_end (results_none rfl _ _ _) rfl ?_
              exact ⟨rfl, by rw [HE.out]; exact TN.swap.drop.swap.drop.swap.drop⟩
            case false =>
              go_wp2_with fail
              refine (Does.at1 (tellD r s1 4 rep e.item (by omega)) TN).mono ?_; clear TN hre hrc hri hrk hrw hlc; rintro e2 w4 ⟨rfl, T⟩
              go_wp2
              try simp only [Exit.inBlock, Exit.then]
              first | refine bodyPost_ret (results_none rfl _ _ _) rfl ?_ | refine bodyPost_end (results_none rfl _ _ _) rfl ?_
              exact ⟨rfl, by rw [HE.out]; exact T.swap.drop.swap.drop.swap.drop⟩
      -- END
end Go.Proofs.Ytpganpiidgkofaa
/- Layer 24: one replica's dump. -/
namespace Go.Proofs.Ytpganpiidgkofaa
open Go.RowKit
set_option linter.unusedVariables false
attribute [local go_sem] row_alloc row_drew row_drewN row_ext row_setCell row_setRow size_ext setRow_alloc setRow_drew loadOf storeOf piece_lit loadVal_at storeVal_at allOne_lit buildOf buildRes_some
attribute [local go_sem high] cell_alloc frozen_alloc setCell_alloc cell_ext frozen_ext cell_setRow frozen_setRow
attribute [local go_sem ↓] TDeed_ld0 TDeed_st0 TDeed_fd0 TDeed_bd0
attribute [local go_sem] TDeed_size TDeed_one TDeed_piece TDeed_c0 TDeed_c1 TDeed_c2 TDeed_c3 TDeed_c4 TDeed_c5 TDeed_set_kind TDeed_set_key TDeed_set_val TDeed_set_ver TDeed_set_ses TDeed_set_num TDeed_ld TDeed_st TDeed_f_kind TDeed_f_key TDeed_f_val TDeed_f_ver TDeed_f_ses TDeed_f_num TDeed_bd TDeed_fl TDeed_fl_kind TDeed_fl_key TDeed_fl_val TDeed_fl_ver TDeed_fl_ses TDeed_fl_num
attribute [local go_sem high] TDeed_eql TDeed_neq
attribute [local go_sem ↓] index_deps0 load_deps0 store_deps0
attribute [local go_sem] DV_piece DV_size DV_one index_deps load_deps store_deps
attribute [local go_sem high] TDeps_eql TDeps_neq
attribute [local go_sem ↓] TCall_ld0 TCall_st0 TCall_fd0 TCall_bd0
attribute [local go_sem] TCall_size TCall_one TCall_piece TCall_c0 TCall_c1 TCall_c2 TCall_c3 TCall_c4 TCall_c5 TCall_c6 TCall_c7 TCall_c8 TCall_c9 TCall_c10 TCall_c11 TCall_c12 TCall_c13 TCall_p_deed TCall_put_deed TCall_p_deps TCall_put_deps TCall_set_seq TCall_ld TCall_st TCall_f_deed TCall_f_deps TCall_f_seq TCall_bd TCall_fl TCall_fl_deed TCall_fl_deps TCall_fl_seq
attribute [local go_sem high] TCall_eql TCall_neq
attribute [local go_sem ↓] TItem_ld0 TItem_st0 TItem_fd0 TItem_bd0
attribute [local go_sem] TItem_size TItem_one TItem_piece TItem_c0 TItem_c1 TItem_set_rep TItem_set_num TItem_ld TItem_st TItem_f_rep TItem_f_num TItem_bd TItem_fl TItem_fl_rep TItem_fl_num
attribute [local go_sem high] TItem_eql TItem_neq
attribute [local go_sem ↓] TBallot_ld0 TBallot_st0 TBallot_fd0 TBallot_bd0
attribute [local go_sem] TBallot_size TBallot_one TBallot_piece TBallot_c0 TBallot_c1 TBallot_set_round TBallot_set_rep TBallot_ld TBallot_st TBallot_f_round TBallot_f_rep TBallot_bd TBallot_fl TBallot_fl_round TBallot_fl_rep
attribute [local go_sem high] TBallot_eql TBallot_neq
attribute [local go_sem ↓] TInst_ld0 TInst_st0 TInst_fd0 TInst_bd0
attribute [local go_sem] TInst_size TInst_one TInst_piece TInst_c0 TInst_c1 TInst_c2 TInst_c3 TInst_c4 TInst_c5 TInst_c6 TInst_c7 TInst_c8 TInst_c9 TInst_c10 TInst_c11 TInst_c12 TInst_c13 TInst_c14 TInst_c15 TInst_c16 TInst_c17 TInst_c18 TInst_c19 TInst_p_prom TInst_put_prom TInst_p_vote TInst_put_vote TInst_set_status TInst_p_call TInst_put_call TInst_set_same TInst_ld TInst_st TInst_f_prom TInst_f_vote TInst_f_status TInst_f_call TInst_f_same TInst_bd TInst_fl TInst_fl_prom TInst_fl_vote TInst_fl_status TInst_fl_call TInst_fl_same
attribute [local go_sem high] TInst_eql TInst_neq
attribute [local go_sem ↓] TEntry_ld0 TEntry_st0 TEntry_fd0 TEntry_bd0
attribute [local go_sem] TEntry_size TEntry_one TEntry_piece TEntry_c0 TEntry_c1 TEntry_c2 TEntry_c3 TEntry_c4 TEntry_c5 TEntry_c6 TEntry_c7 TEntry_c8 TEntry_c9 TEntry_c10 TEntry_c11 TEntry_c12 TEntry_c13 TEntry_c14 TEntry_c15 TEntry_c16 TEntry_c17 TEntry_c18 TEntry_c19 TEntry_c20 TEntry_c21 TEntry_p_item TEntry_put_item TEntry_p_inst TEntry_put_inst TEntry_ld TEntry_st TEntry_f_item TEntry_f_inst TEntry_bd TEntry_fl TEntry_fl_item TEntry_fl_inst
attribute [local go_sem high] TEntry_eql TEntry_neq
attribute [local go_sem ↓] TFinding_ld0 TFinding_st0 TFinding_fd0 TFinding_bd0
attribute [local go_sem] TFinding_size TFinding_one TFinding_piece TFinding_c0 TFinding_c1 TFinding_c2 TFinding_c3 TFinding_set_kind TFinding_set_rep TFinding_p_item TFinding_put_item TFinding_ld TFinding_st TFinding_f_kind TFinding_f_rep TFinding_f_item TFinding_bd TFinding_fl TFinding_fl_kind TFinding_fl_rep TFinding_fl_item
attribute [local go_sem high] TFinding_eql TFinding_neq
attribute [local go_sem] cellsR_0 cellsR_1 cellsR_2 cellsR_3
abbrev Seen := Item → Option Unit
noncomputable def dstep (rep : Int) (q : Rep × Seen) (e : Entry) : Rep × Seen :=
  if ((q.2 e.item).isSome || !goodI e.item q.1.n) = true then (tellM q.1 1 rep e.item, q.2) else (entryM q.1 rep e, putF q.2 e.item ())
noncomputable def dumpQ (s : Rep) (rep : Int) (l : List Entry) : Rep × Seen := l.foldl (dstep rep) (s, fun _ => none)
noncomputable def dumpM (s : Rep) (rep : Int) (l : List Entry) : Rep := (dumpQ s rep l).1
def seenR (b n : Nat) (f : Seen) : Res := mapR Try.prog 42 (fun x : Item => Value.agg (IV x)) (fun _ : Unit => Value.bool true) InI b n f
/-- So much is room for m entries more. -/
structure RoomR (s : Rep) (m : Nat) : Prop where
  list : s.list.length + 2 * m ≤ 800000
  order : s.order.length + m ≤ 800000
  cnt : s.cnt + m ≤ 800000
theorem RoomR.tell {s : Rep} {m : Nat} (h : RoomR s (m + 1)) (k rep : Int) (x : Item) : RoomR (tellM s k rep x) m := by
  obtain ⟨a, b, c⟩ := h
  refine ⟨?_, by show s.order.length + m ≤ _; omega, by show s.cnt + m ≤ _; omega⟩
  show (s.list ++ _).length + _ ≤ _
  rw [List.length_append]; simp; omega
theorem markM_len (s : Rep) (rep : Int) (e : Entry) : (markM s rep e).list.length ≤ s.list.length + 1 ∧ (markM s rep e).order.length ≤ s.order.length + 1 ∧ (markM s rep e).cnt ≤ s.cnt + 1 := by
  unfold markM
  split
  · exact ⟨by show s.list.length ≤ _; omega, by show (s.order ++ _).length ≤ _; simp, Nat.le_refl _⟩
  · split
    · exact ⟨by omega, by omega, by omega⟩
    · exact ⟨by show (s.list ++ _).length ≤ _; simp, by show s.order.length ≤ _; omega, by show s.cnt ≤ _; omega⟩
theorem entryM_len (s : Rep) (rep : Int) (e : Entry) : (entryM s rep e).list.length ≤ s.list.length + 2 ∧ (entryM s rep e).order.length ≤ s.order.length + 1 ∧ (entryM s rep e).cnt ≤ s.cnt + 1 := by
  have ht : ∀ k, (tellM s k rep e.item).list.length = s.list.length + 1 ∧ (tellM s k rep e.item).order = s.order ∧ (tellM s k rep e.item).cnt = s.cnt := fun k => ⟨by show (s.list ++ _).length = _; simp, rfl, rfl⟩
  unfold entryM
  split
  · obtain ⟨a, b, c⟩ := ht 2; rw [a, b, c]; omega
  · dsimp only
    have key : ∀ s1 : Rep, s1.list.length ≤ s.list.length + 1 → s1.order = s.order → s1.cnt = s.cnt → (if (e.inst.status == 3) = true then markM s1 rep e else s1).list.length ≤ s.list.length + 2 ∧ (if (e.inst.status == 3) = true then markM s1 rep e else s1).order.length ≤ s.order.length + 1 ∧ (if (e.inst.status == 3) = true then markM s1 rep e else s1).cnt ≤ s.cnt + 1 := by
      intro s1 h1 h2 h3
      split
      · obtain ⟨a, b, c⟩ := markM_len s1 rep e
        rw [h2] at b; rw [h3] at c
        omega
      · rw [h2, h3]; omega
    refine key (if lessBal e.inst.prom e.inst.vote = true then tellM s 3 rep e.item else s) ?_ ?_ ?_
    · split
      · have := (ht 3).1; omega
      · omega
    · split
      · exact (ht 3).2.1
      · rfl
    · split
      · exact (ht 3).2.2
      · rfl
theorem RoomR.entry {s : Rep} {m : Nat} (h : RoomR s (m + 1)) (rep : Int) (e : Entry) : RoomR (entryM s rep e) m := by
  obtain ⟨a, b, c⟩ := h
  obtain ⟨x, y, z⟩ := entryM_len s rep e
  exact ⟨by omega, by omega, by omega⟩
theorem RoomR.step {q : Rep × Seen} {m : Nat} (h : RoomR q.1 (m + 1)) (rep : Int) (e : Entry) : RoomR (dstep rep q e).1 m := by
  unfold dstep
  split
  · exact h.tell _ _ _
  · exact h.entry _ _
theorem lookSeen (b n : Nat) (f : Seen) {w W : World} {F : Nat → Prop} {R : List Res} (T : Sts w F W (seenR b n f :: R)) (x : Item) (hx : InI x) :
    (Instr.lookup 184 (.map (some b)) (.agg (IV x)) false).run Try.prog W = .ok (.bool (f x).isSome) W := by
  have h := T.map.look1 itemOk Try.underlying184 (z := .bool false) (fun w => by kernel_rfl) x hx
  rw [h]
  cases f x <;> rfl
theorem mkMap (t : TypeId) (w : World) : (Instr.makeMap t none).run Try.prog w = .ok (.map (some w.heap.size)) (w.alloc (.map #[] 0)) := rfl
attribute [local go_sem] mkMap
set_option maxHeartbeats 8000000 in
set_option maxRecDepth 10000 in
theorem dumpT (r : Nat) (s : Rep) (rep : Int) (A : Option Addr) (c : Nat) (l : List Entry) (w W : World) (R : List Res) (hx : RowsIn w A 22 AV l) (hs : ∀ x ∈ l, InI x.item) (hm : RoomR s l.length)
    (T : Sts w (fun _ => False) W (repR r s :: R)) :
    Calls Try.prog 103 #[.pointer (some ⟨r, 0, none⟩), .int .i64 rep, .slice A l.length c] W fun e W' => e = .returned (.tuple #[]) ∧ Sts w (fun _ => False) W' (repR r (dumpM s rep l) :: R) := by
  have hll := hx.len
  have T := T.mapNew (P := Try.prog) (k := 42) (kv := fun x : Item => Value.agg (IV x)) (ev := fun _ : Unit => Value.bool true) (ok := InI)
  go_enter Try.func103, Try.ntmps103
  go_wp2_with fail
  generalize W.heap.size = b at *
  go_loopw [12] (fun i wr => ∃ (k n : Nat) (q : Rep × Seen), k ≤ l.length ∧ i = .int .i64 k ∧ q = (l.take k).foldl (dstep rep) (s, fun _ => none) ∧ n ≤ k ∧ RoomR q.1 (l.length - k) ∧ Sts w (fun _ => False) wr (seenR b n q.2 :: repR r q.1 :: R)) (fun i _ => l.length - (intOf i).toNat)
  case atStart => exact ⟨0, 0, (s, fun _ => none), by omega, rfl, by simp, by omega, by simpa using hm, T⟩
  case round =>
    clear T
    obtain ⟨k, n, ⟨s0, f⟩, hk, rfl, hq, hn, hm, T⟩ := hrel
    dsimp only at T hm
    by_cases hkl : k < l.length
    · cases A with
      | none => have := hx.nil rfl; subst this; simp at hkl
      | some a =>
        have hld := hx.load (P := Try.prog) (T := 85) TEntry_size TEntry_und rfl (by kernel_rfl) T.below rfl hkl
        have hi := hs l[k] (List.getElem_mem hkl)
        have hq2 : dstep rep (s0, f) l[k] = (l.take (k + 1)).foldl (dstep rep) (s, fun _ => none) := by
          rw [hq, List.take_succ_eq_append_getElem hkl, List.foldl_append]; rfl
        have hm2 := hm
        rw [show l.length - k = (l.length - (k + 1)) + 1 from by omega] at hm2
        have hm3 := RoomR.step (q := (s0, f)) hm2 rep l[k]
        clear hm hq
        have HQ := Lib.hid hq2; clear hq2
        generalize l[k] = x at *
        have T := (T.new (AV x) 85).rot2
        -- rows: report, entry, seen
        obtain ⟨v1, v2, m, TO⟩ := T.repOpen
        have hcr := row_cell TO.row; have hlr := row_lt TO.row
        have hre := T.row1; have hle := row_lt hre; have hrc := row_cell hre
        have hlk := fun y => lookSeen b n f ((T.rot2).ext y) x.item hi
        have cg := itemGood_any x.item s0.n
        have hcg := Lib.hid cg; clear cg
        cases hsn : (f x.item).isSome
        case true =>
          rw [hsn] at hlk
          have hqe : dstep rep (s0, f) x = (tellM s0 1 rep x.item, f) := by unfold dstep; rw [if_pos (by simp [hsn])]
          have HQ2 := HQ.out; rw [hqe] at HQ2 hm3; have HQ := Lib.hid HQ2; clear HQ2 hqe
          go_upto_region 4 with fail
          refine wp_region_ext (by kernel_rfl) (by kernel_rfl) ?_
          repeat (go_big_quiet_step (first | (go_at_call 55; exact hcg.out.quiet)))
          refine wpQuiet_nil ?_
          rintro _ ⟨x9, rfl⟩
          have T := T.ext x9
          clear TO hcr hlr hre hle hrc hlk hcg
          generalize ext _ x9 = w1 at *
          have hre := T.row1; have hle := row_lt hre; have hrc := row_cell hre
          go_wp2_with fail
          refine (Does.at1 (tellD r s0 1 rep x.item (by have := hm2.list; omega)) T).mono ?_; clear T hre hle hrc; rintro e1 w2 ⟨rfl, T⟩
          go_wp2
          go_roundw
          case rel => exact ⟨k + 1, n, _, by omega, by go_num, HQ.out, by omega, hm3, T.swap.drop.swap⟩
          case measure => simp [intOf]; omega

        case false =>
          rw [hsn] at hlk
          cases hgi : goodI x.item s0.n
          all_goals rw [hgi] at hcg
          case false =>
            have hqe : dstep rep (s0, f) x = (tellM s0 1 rep x.item, f) := by unfold dstep; rw [if_pos (by simp [hgi])]
            have HQ2 := HQ.out; rw [hqe] at HQ2 hm3; have HQ := Lib.hid HQ2; clear HQ2 hqe
            go_upto_region 4 with fail
            refine wp_region_ext (by kernel_rfl) (by kernel_rfl) ?_
            repeat (go_big_quiet_step (first | (go_at_call 55; exact hcg.out.quiet)))
            refine wpQuiet_nil ?_
            rintro _ ⟨x9, rfl⟩
            have T := T.ext x9
            clear TO hcr hlr hre hle hrc hlk hcg
            generalize ext _ x9 = w1 at *
            have hre := T.row1; have hle := row_lt hre; have hrc := row_cell hre
            go_wp2_with fail
            refine (Does.at1 (tellD r s0 1 rep x.item (by have := hm2.list; omega)) T).mono ?_; clear T hre hle hrc; rintro e1 w2 ⟨rfl, T⟩
            go_wp2
            go_roundw
            case rel => exact ⟨k + 1, n, _, by omega, by go_num, HQ.out, by omega, hm3, T.swap.drop.swap⟩
            case measure => simp [intOf]; omega

          case true =>
            have hqe : dstep rep (s0, f) x = (entryM s0 rep x, putF f x.item ()) := by unfold dstep; rw [if_neg (by simp [hgi, hsn])]
            have HQ2 := HQ.out; rw [hqe] at HQ2 hm3; have HQ := Lib.hid HQ2; clear HQ2 hqe
            go_upto_region 4 with fail
            refine wp_region_ext (by kernel_rfl) (by kernel_rfl) ?_
            repeat (go_big_quiet_step (first | (go_at_call 55; exact hcg.out.quiet)))
            refine wpQuiet_nil ?_
            rintro _ ⟨x9, rfl⟩
            have T := T.ext x9
            clear TO hcr hlr hre hle hrc hlk hcg
            generalize ext _ x9 = w1 at *
            have hre := T.row1; have hle := row_lt hre; have hrc := row_cell hre

            obtain ⟨W9, hput, T9, -⟩ := T.rot2.mapPut itemOk Try.underlying184 (by have := hm2.cnt; unfold maxLen; omega) x.item hi ()
            go_upto_region 7 with fail
            clear hput T hre hle hrc
            have T := T9.swap; clear T9
            have hre := T.row2; have hle := row_lt hre; have hrc := row_cell hre
            go_wp2_with fail
            refine (Does.at1 (entryD r s0 rep x (by have := hm2.list; omega) (by have := hm2.order; omega) (by have := hm2.cnt; omega) hi) T).mono ?_; clear T hre hle hrc; rintro e1 w2 ⟨rfl, T⟩
            go_wp2
            go_roundw
            case rel => exact ⟨k + 1, n + 1, _, by omega, by go_num, HQ.out, by omega, hm3, T.rot2.drop.swap⟩
            case measure => simp [intOf]; omega
    · obtain rfl : k = l.length := by omega
      rw [List.take_length] at hq
      have hqq : dumpM s rep l = s0 := by unfold dumpM dumpQ; rw [← hq]
      have HQ := Lib.hid hqq; clear hqq hq
      go_wp2
      try simp only [Exit.inBlock, Exit.then]
      first | refine bodyPost_ret (results_none rfl _ _ _) rfl ?_ | refine bodyPost_end (results_none rfl _ _ _) rfl ?_
      exact ⟨rfl, by rw [HQ.out]; exact T.drop⟩
end Go.Proofs.Ytpganpiidgkofaa
