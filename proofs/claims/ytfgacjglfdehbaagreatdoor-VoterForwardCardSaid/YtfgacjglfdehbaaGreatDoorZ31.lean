/- Several texts in one. -/
import Derived.Test.YtfgacjglfdehbaaGreatDoorZ30
import Derived.Test.YtfgacjglfdehbaaGreatDoorZ6
import Derived.Test.YtfgacjglfdehbaaGreatDoorZ4
import Derived.Test.YtfgacjglfdehbaaGreatDoorZ5
import Derived.Test.YtfgacjglfdehbaaGreatDoorZ1
import Derived.LaidLaws
import Derived.ChangeArms
import Derived.OpenShut
import Derived.ChangeSame
import Derived.Test.YtfgacjglfdehbaaGreatDoorZ29
import Derived.Deep.DeepHandedRow
import Derived.Test.YtfgacjglfdehbaaGreatDoorZ27
/- Layer 15: answers of a kind, refusals; what is known of an item now. -/
namespace Go.Proofs.YtfgacjglfdehbaaGreatDoor
open Go.RowKit
set_option linter.unusedVariables false
set_option maxRecDepth 20000
attribute [local go_sem] row_alloc row_drew row_drewN row_ext row_setCell row_setRow size_ext setRow_alloc setRow_drew loadOf storeOf piece_lit loadVal_at storeVal_at allOne_lit buildOf buildRes_some
attribute [local go_sem high] cell_alloc frozen_alloc setCell_alloc cell_ext frozen_ext cell_setRow frozen_setRow
attribute [local go_sem ↓] TDeed_ld0 TDeed_st0 TDeed_fd0 TDeed_bd0
attribute [local go_sem] TDeed_size TDeed_one TDeed_piece TDeed_c0 TDeed_c1 TDeed_c2 TDeed_c3 TDeed_c4 TDeed_c5 TDeed_set_kind TDeed_set_key TDeed_set_val TDeed_set_ver TDeed_set_ses TDeed_set_num TDeed_ld TDeed_st TDeed_f_kind TDeed_f_key TDeed_f_val TDeed_f_ver TDeed_f_ses TDeed_f_num TDeed_bd TDeed_fl TDeed_fl_kind TDeed_fl_key TDeed_fl_val TDeed_fl_ver TDeed_fl_ses TDeed_fl_num
attribute [local go_sem high] TDeed_eql TDeed_neq
attribute [local go_sem ↓] index_deps0 load_deps0 store_deps0
attribute [local go_sem] DV_piece DV_size DV_one index_deps load_deps store_deps
attribute [local go_sem high] TDeps_eql TDeps_neq
attribute [local go_sem ↓] TCall_ld0 TCall_st0 TCall_fd0 TCall_bd0
attribute [local go_sem] TCall_size TCall_one TCall_piece TCall_c0 TCall_c1 TCall_c2 TCall_c3 TCall_c4 TCall_c5 TCall_c6 TCall_c7 TCall_c8 TCall_c9 TCall_c10 TCall_c11 TCall_c12 TCall_c13 TCall_p_deed TCall_put_deed TCall_p_deps TCall_put_deps TCall_set_seq TCall_ld TCall_st TCall_f_deed TCall_f_deps TCall_f_seq TCall_bd TCall_fl TCall_fl_deed TCall_fl_deps TCall_fl_seq
attribute [local go_sem high] TCall_eql TCall_neq
attribute [local go_sem ↓] TItem_ld0 TItem_st0 TItem_fd0 TItem_bd0
attribute [local go_sem] TItem_size TItem_one TItem_piece TItem_c0 TItem_c1 TItem_set_rep TItem_set_num TItem_ld TItem_st TItem_f_rep TItem_f_num TItem_bd TItem_fl TItem_fl_rep TItem_fl_num
attribute [local go_sem high] TItem_eql TItem_neq
attribute [local go_sem ↓] TBallot_ld0 TBallot_st0 TBallot_fd0 TBallot_bd0
attribute [local go_sem] TBallot_size TBallot_one TBallot_piece TBallot_c0 TBallot_c1 TBallot_set_round TBallot_set_rep TBallot_ld TBallot_st TBallot_f_round TBallot_f_rep TBallot_bd TBallot_fl TBallot_fl_round TBallot_fl_rep
attribute [local go_sem high] TBallot_eql TBallot_neq
attribute [local go_sem ↓] TInst_ld0 TInst_st0 TInst_fd0 TInst_bd0
attribute [local go_sem] TInst_size TInst_one TInst_piece TInst_c0 TInst_c1 TInst_c2 TInst_c3 TInst_c4 TInst_c5 TInst_c6 TInst_c7 TInst_c8 TInst_c9 TInst_c10 TInst_c11 TInst_c12 TInst_c13 TInst_c14 TInst_c15 TInst_c16 TInst_c17 TInst_c18 TInst_c19 TInst_p_prom TInst_put_prom TInst_p_vote TInst_put_vote TInst_set_status TInst_p_call TInst_put_call TInst_set_same TInst_ld TInst_st TInst_f_prom TInst_f_vote TInst_f_status TInst_f_call TInst_f_same TInst_bd TInst_fl TInst_fl_prom TInst_fl_vote TInst_fl_status TInst_fl_call TInst_fl_same
attribute [local go_sem high] TInst_eql TInst_neq
attribute [local go_sem ↓] TMsg_ld0 TMsg_st0 TMsg_fd0 TMsg_bd0
attribute [local go_sem] TMsg_size TMsg_one TMsg_piece TMsg_c0 TMsg_c1 TMsg_c2 TMsg_c3 TMsg_c4 TMsg_c5 TMsg_c6 TMsg_c7 TMsg_c8 TMsg_c9 TMsg_c10 TMsg_c11 TMsg_c12 TMsg_c13 TMsg_c14 TMsg_c15 TMsg_c16 TMsg_c17 TMsg_c18 TMsg_c19 TMsg_c20 TMsg_c21 TMsg_c22 TMsg_c23 TMsg_c24 TMsg_set_kind TMsg_set_frm TMsg_set_to TMsg_p_item TMsg_put_item TMsg_p_bal TMsg_put_bal TMsg_p_vote TMsg_put_vote TMsg_set_status TMsg_set_same TMsg_p_call TMsg_put_call TMsg_ld TMsg_st TMsg_f_kind TMsg_f_frm TMsg_f_to TMsg_f_item TMsg_f_bal TMsg_f_vote TMsg_f_status TMsg_f_same TMsg_f_call TMsg_bd TMsg_fl TMsg_fl_kind TMsg_fl_frm TMsg_fl_to TMsg_fl_item TMsg_fl_bal TMsg_fl_vote TMsg_fl_status TMsg_fl_same TMsg_fl_call
attribute [local go_sem high] TMsg_eql TMsg_neq
set_option maxHeartbeats 4000000 in
theorem back_any (m : Msg) (k : Int) : Ans Tryz.prog 22 #[.agg (MV m), .int .i64 k] (.agg (MV (backM m k))) := by
  refine Ans.of_sts fun W => ?_
  have T := ((Sts.start0 W).new (MV m) 42).new (MV (backM m k)) 42
  simp only [World.size_alloc] at T
  have r2 := T.row1; have l2 := row_lt r2; have c2 := row_cell r2
  have HT := Lib.hid T; clear T
  go_enter Tryz.func22, Tryz.ntmps22
  go_wp2
  refine ret_row (MV (backM m k)) TMsg_und rfl (by kernel_rfl) rfl rfl rfl (TMsg_size _) HT.out.row ?_
  exact ⟨rfl, HT.out.nil⟩
set_option maxHeartbeats 4000000 in
theorem first_bal (rep : Int) : Ans Tryz.prog 48 #[.int .i64 rep] (.agg (BV ⟨0, rep⟩)) := by
  refine Ans.of_sts fun W => ?_
  have T := (Sts.start0 W).new (BV ⟨0, rep⟩) 34
  have HT := Lib.hid T; clear T
  go_enter Tryz.func48, Tryz.ntmps48
  go_wp2
  refine ret_row (BV ⟨0, rep⟩) TBallot_und rfl (by kernel_rfl) rfl rfl rfl (TBallot_size _) HT.out.row ?_
  exact ⟨rfl, HT.out.nil⟩
set_option maxHeartbeats 4000000 in
theorem refuse_any (m : Msg) (i : Inst) : Ans Tryz.prog 49 #[.agg (MV m), .agg (NV i)] (.tuple #[.agg (MV (refM m i).out), .bool (refM m i).ok]) := by
  refine Ans.of_sts fun W => ?_
  have T := (((Sts.start0 W).new (MV m) 42).new (NV i) 52).new (MV noMsg) 42
  simp only [World.size_alloc] at T
  have r2 := T.row2; have l2 := row_lt r2
  have r3 := T.row1; have l3 := row_lt r3
  have HL := Lib.hid (Ans.at (less_any m.bal i.prom) T)
  clear T
  rcases refM_cases m i with ⟨hl, e0⟩ | ⟨hl, e0⟩
  · rw [hl] at HL
    go_enter Tryz.func49, Tryz.ntmps49
    go_wp2_with fail
    refine HL.out.mono ?_
    clear HL r2 l2 r3 l3
    rintro e w1 ⟨rfl, T⟩
    generalize W.heap.size + 1 + 1 = g4 at *
    generalize W.heap.size + 1 = g3 at *
    generalize W.heap.size = g2 at *
    have r2 := T.row2; have l2 := row_lt r2
    have HB := Lib.hid (Ans.at (back_any m 8) T); clear T
    go_wp2_with fail
    refine HB.out.mono ?_
    clear HB r2 l2
    rintro e w2 ⟨rfl, T⟩
    have r3 := T.row1; have l3 := row_lt r3
    have r4 := T.row; have l4 := row_lt r4
    have T2 := (T.setRow (MV ⟨8, m.to, m.frm, m.item, i.prom, noBallot, 0, false, noCall⟩)).new (MV ⟨8, m.to, m.frm, m.item, i.prom, noBallot, 0, false, noCall⟩) 42
    have HT := Lib.hid T2; have E := Lib.hid e0; clear T T2 e0
    go_wp2
    refine ret_row_tmp (MV ⟨8, m.to, m.frm, m.item, i.prom, noBallot, 0, false, noCall⟩) (.bool true) TMsg_und rfl (by kernel_rfl) rfl rfl rfl rfl (TMsg_size _) HT.out.drop.row ⟨by rw [E.out], HT.out.nil⟩
  · rw [hl] at HL
    go_enter Tryz.func49, Tryz.ntmps49
    go_wp2_with fail
    refine HL.out.mono ?_
    clear HL r2 l2 r3 l3
    rintro e w1 ⟨rfl, T⟩
    have r4 := T.row; have l4 := row_lt r4
    have T2 := T.setRow (MV noMsg)
    have HT := Lib.hid T2; have E := Lib.hid e0; clear T T2 e0
    go_wp2
    refine ret_row_tmp (MV noMsg) (.bool false) TMsg_und rfl (by kernel_rfl) rfl rfl rfl rfl (TMsg_size _) HT.out.row ⟨by rw [E.out]; rfl, HT.out.nil⟩
end Go.Proofs.YtfgacjglfdehbaaGreatDoor
/- Layer 15: more than is played? -/
namespace Go.Proofs.YtfgacjglfdehbaaGreatDoor
open Go.RowKit
set_option linter.unusedVariables false
set_option maxRecDepth 20000
attribute [local go_sem] row_alloc row_drew row_drewN row_ext row_setCell row_setRow size_ext setRow_alloc setRow_drew loadOf storeOf piece_lit loadVal_at storeVal_at allOne_lit buildOf buildRes_some
attribute [local go_sem high] cell_alloc frozen_alloc setCell_alloc cell_ext frozen_ext cell_setRow frozen_setRow
attribute [local go_sem ↓] TDeed_ld0 TDeed_st0 TDeed_fd0 TDeed_bd0
attribute [local go_sem] TDeed_size TDeed_one TDeed_piece TDeed_c0 TDeed_c1 TDeed_c2 TDeed_c3 TDeed_c4 TDeed_c5 TDeed_set_kind TDeed_set_key TDeed_set_val TDeed_set_ver TDeed_set_ses TDeed_set_num TDeed_ld TDeed_st TDeed_f_kind TDeed_f_key TDeed_f_val TDeed_f_ver TDeed_f_ses TDeed_f_num TDeed_bd TDeed_fl TDeed_fl_kind TDeed_fl_key TDeed_fl_val TDeed_fl_ver TDeed_fl_ses TDeed_fl_num
attribute [local go_sem high] TDeed_eql TDeed_neq
attribute [local go_sem ↓] index_deps0 load_deps0 store_deps0
attribute [local go_sem] DV_piece DV_size DV_one index_deps load_deps store_deps
attribute [local go_sem high] TDeps_eql TDeps_neq
attribute [local go_sem ↓] TCall_ld0 TCall_st0 TCall_fd0 TCall_bd0
attribute [local go_sem] TCall_size TCall_one TCall_piece TCall_c0 TCall_c1 TCall_c2 TCall_c3 TCall_c4 TCall_c5 TCall_c6 TCall_c7 TCall_c8 TCall_c9 TCall_c10 TCall_c11 TCall_c12 TCall_c13 TCall_p_deed TCall_put_deed TCall_p_deps TCall_put_deps TCall_set_seq TCall_ld TCall_st TCall_f_deed TCall_f_deps TCall_f_seq TCall_bd TCall_fl TCall_fl_deed TCall_fl_deps TCall_fl_seq
attribute [local go_sem high] TCall_eql TCall_neq
attribute [local go_sem ↓] TItem_ld0 TItem_st0 TItem_fd0 TItem_bd0
attribute [local go_sem] TItem_size TItem_one TItem_piece TItem_c0 TItem_c1 TItem_set_rep TItem_set_num TItem_ld TItem_st TItem_f_rep TItem_f_num TItem_bd TItem_fl TItem_fl_rep TItem_fl_num
attribute [local go_sem high] TItem_eql TItem_neq
attribute [local go_sem ↓] TBallot_ld0 TBallot_st0 TBallot_fd0 TBallot_bd0
attribute [local go_sem] TBallot_size TBallot_one TBallot_piece TBallot_c0 TBallot_c1 TBallot_set_round TBallot_set_rep TBallot_ld TBallot_st TBallot_f_round TBallot_f_rep TBallot_bd TBallot_fl TBallot_fl_round TBallot_fl_rep
attribute [local go_sem high] TBallot_eql TBallot_neq
attribute [local go_sem ↓] TInst_ld0 TInst_st0 TInst_fd0 TInst_bd0
attribute [local go_sem] TInst_size TInst_one TInst_piece TInst_c0 TInst_c1 TInst_c2 TInst_c3 TInst_c4 TInst_c5 TInst_c6 TInst_c7 TInst_c8 TInst_c9 TInst_c10 TInst_c11 TInst_c12 TInst_c13 TInst_c14 TInst_c15 TInst_c16 TInst_c17 TInst_c18 TInst_c19 TInst_p_prom TInst_put_prom TInst_p_vote TInst_put_vote TInst_set_status TInst_p_call TInst_put_call TInst_set_same TInst_ld TInst_st TInst_f_prom TInst_f_vote TInst_f_status TInst_f_call TInst_f_same TInst_bd TInst_fl TInst_fl_prom TInst_fl_vote TInst_fl_status TInst_fl_call TInst_fl_same
attribute [local go_sem high] TInst_eql TInst_neq
attribute [local go_sem ↓] TMsg_ld0 TMsg_st0 TMsg_fd0 TMsg_bd0
attribute [local go_sem] TMsg_size TMsg_one TMsg_piece TMsg_c0 TMsg_c1 TMsg_c2 TMsg_c3 TMsg_c4 TMsg_c5 TMsg_c6 TMsg_c7 TMsg_c8 TMsg_c9 TMsg_c10 TMsg_c11 TMsg_c12 TMsg_c13 TMsg_c14 TMsg_c15 TMsg_c16 TMsg_c17 TMsg_c18 TMsg_c19 TMsg_c20 TMsg_c21 TMsg_c22 TMsg_c23 TMsg_c24 TMsg_set_kind TMsg_set_frm TMsg_set_to TMsg_p_item TMsg_put_item TMsg_p_bal TMsg_put_bal TMsg_p_vote TMsg_put_vote TMsg_set_status TMsg_set_same TMsg_p_call TMsg_put_call TMsg_ld TMsg_st TMsg_f_kind TMsg_f_frm TMsg_f_to TMsg_f_item TMsg_f_bal TMsg_f_vote TMsg_f_status TMsg_f_same TMsg_f_call TMsg_bd TMsg_fl TMsg_fl_kind TMsg_fl_frm TMsg_fl_to TMsg_fl_item TMsg_fl_bal TMsg_fl_vote TMsg_fl_status TMsg_fl_same TMsg_fl_call
attribute [local go_sem high] TMsg_eql TMsg_neq
def overV (x : Msg) : Bool := decide ((200 : Int) < (x.call.deed.key.size : Int) + (x.call.deed.val.size : Int))
def greatV (n : Int) (l : List Msg) : Bool := l.any overV || (n != 3 && n != 5 && n != 7 || decide ((80 : Int) < (l.length : Int)))
def FitV (l : List Msg) : Prop := ∀ x ∈ l, x.call.deed.key.size ≤ 140737488351232 ∧ x.call.deed.val.size ≤ 140737488351232
set_option maxHeartbeats 4000000 in
theorem great15 (n : Int) (A : Option Addr) (c : Nat) (l : List Msg) (w W : World) (F : Nat → Prop) (R : List Res) (hB : ∀ W', Sts w F W' R → Below w.heap.size w W') (hx : RowsIn w A 25 MV l) (hf : FitV l) (T : Sts w F W R) :
    Calls Tryz.prog 5 #[.int .i64 n, .slice A l.length c] W fun e W' => e = .returned (.bool (greatV n l)) ∧ Sts w F W' R := by
  have hll := hx.len
  have HB := Lib.hid hB; clear hB
  go_enter Tryz.func5, Tryz.ntmps5
  go_wp2_with fail
  go_loopw [9] (fun i wr => ∃ k : Nat, k ≤ l.length ∧ i = .int .i64 k ∧ (l.take k).any overV = false ∧ Sts w F wr R) (fun i _ => l.length - (intOf i).toNat)
  case atStart => exact ⟨0, by omega, rfl, rfl, T⟩
  case round =>
    clear T
    obtain ⟨k, hk0, rfl, hno, T⟩ := hrel
    by_cases hkl : k < l.length
    · cases A with
      | none => have := hx.nil rfl; subst this; simp at hkl
      | some a =>
        have hld := hx.load (P := Tryz.prog) (T := 42) TMsg_size TMsg_und rfl (by kernel_rfl) (HB.out _ T) rfl hkl
        obtain ⟨hk1, hk2⟩ := hf l[k] (List.getElem_mem hkl)
        have hoj : l[k]? = some l[k] := List.getElem?_eq_getElem hkl
        have hme : l[k] ∈ l := List.getElem_mem hkl
        have HF := Lib.hid hf; clear hf
        generalize l[k] = x at *
        have T := T.new (MV x) 42
        have hr := T.row; have hlt := row_lt hr; have hc := row_cell hr
        have HM := Lib.hid hme; have HO := Lib.hid hoj; have HNO := Lib.hid hno; have HT := Lib.hid T
        clear hme hoj hno T
        cases hov : overV x
        case false =>
          have hg : decide ((200 : Int) < (x.call.deed.key.size : Int) + (x.call.deed.val.size : Int)) = false := hov
          go_wp2
          go_roundw
          case rel => exact ⟨k + 1, by omega, by go_num, by rw [List.take_add_one, HO.out, List.any_append, HNO.out]; simp [hov], HT.out.drop⟩
          case measure => simp [intOf]; omega
        case true =>
          have hg : decide ((200 : Int) < (x.call.deed.key.size : Int) + (x.call.deed.val.size : Int)) = true := hov
          have hm : greatV n l = true := by
            unfold greatV
            rw [Bool.or_eq_true]; left
            rw [List.any_eq_true]
            exact ⟨x, HM.out, hov⟩
          have HG := Lib.hid hm; clear hm
          go_wp2
          go_ret
          exact ⟨by rw [HG.out]; rfl, HT.out.drop⟩
    · obtain rfl : k = l.length := by omega
      rw [List.take_length] at hno
      have hm : greatV n l = (n != 3 && n != 5 && n != 7 || decide ((80 : Int) < (l.length : Int))) := by unfold greatV; rw [hno]; rfl
      have HG := Lib.hid hm; have HT := Lib.hid T; clear hm T
      cases h3 : (n != 3) <;> cases h5 : (n != 5) <;> cases h7 : (n != 7)
      all_goals go_wp2
      all_goals go_ret
      all_goals exact ⟨by rw [HG.out, h3, h5, h7]; rfl, HT.out⟩
end Go.Proofs.YtfgacjglfdehbaaGreatDoor
/- Layer 15: what comes in as messages. -/
namespace Go.Proofs.YtfgacjglfdehbaaGreatDoor
open Go.RowKit
set_option linter.unusedVariables false
theorem fitV_of {l : List Msg} (h : ∀ x ∈ l, MsgFits x) : FitV l := fun x hx => ⟨(h x hx).call.deed.key, (h x hx).call.deed.val⟩
end Go.Proofs.YtfgacjglfdehbaaGreatDoor
/- A listed table of pairs of bools, opened. Nothing of the program stands here. -/
namespace Go.Proofs.YtfgacjglfdehbaaGreatDoor
open Go.RowKit Go.ChangeShapes
theorem pairs_of {H : Type} {enc : TypeId × Value → H} {P : Program} {w : World} {base : Nat} {sp : Nat → Bool} {held : Bool} {fuel : Nat} {t e tb : TypeId} {n : Nat} {f0 f1 : Field} {cs : List Value} {zs : List (Bool × Bool)} {p : List MemPlace}
    (ht : P.underlying t = some (.array n e)) (he : P.underlying e = some (.struct #[f0, f1])) (hb : P.underlying tb = some .bool) (h0 : f0.type = tb) (h1 : f1.type = tb) (o0 : f0.offset = 0) (o1 : f1.offset = 1) (cb : P.cellsOf tb = 1) (ce : P.cellsOf e = 2) (ct : P.cellsOf t = 2 * n)
    (h : DataW.trod enc P w base sp held fuel t cs = some (.agg (zs.map fun z => .agg [.lit (.bool z.1), .lit (.bool z.2)]), p)) : cs = zs.flatMap fun z => [.bool z.1, .bool z.2] := by
  obtain ⟨xs, m, -, hx, hlen, hn, hel⟩ := DataW.trod_array ht h
  have hxs : xs.map (·.1) = zs.map fun z => (DataW.agg [.lit (.bool z.1), .lit (.bool z.2)] : DataW H) := by
    have := congrArg Prod.fst hx
    simpa using this.symm
  have hzl : zs.length = n := by
    have := congrArg List.length hxs
    simp at this; omega
  rw [ct] at hlen
  have step : ∀ i, i < n → ∃ z, zs[i]? = some z ∧ (cs.drop (2 * i)).take 2 = [.bool z.1, .bool z.2] := by
    intro i hi
    have hz : i < zs.length := by omega
    have hi2 : i < xs.length := by omega
    have h2 := hel i hi
    rw [List.getElem?_eq_getElem hi2, ce, Nat.mul_comm] at h2
    obtain ⟨y0, y1, k, hy, hl2, hy0, hy1⟩ := trod_struct2 he h2
    rw [h0, o0, cb] at hy0
    rw [h1, o1, cb] at hy1
    obtain ⟨b0, e0, rfl⟩ := DataW.trod_bool hb hy0
    obtain ⟨b1, e1, rfl⟩ := DataW.trod_bool hb hy1
    refine ⟨zs[i], List.getElem?_eq_getElem hz, ?_⟩
    have h3 : (xs[i]).1 = DataW.agg [.lit (.bool zs[i].1), .lit (.bool zs[i].2)] := by
      have := congrArg (·[i]?) hxs
      simpa [List.getElem?_map, List.getElem?_eq_getElem hi2, List.getElem?_eq_getElem hz] using this
    rw [hy] at h3
    simp at h3
    rw [← h3.1, ← h3.2]
    rw [ce] at hl2
    match hc : (cs.drop (2 * i)).take 2, hl2 with
    | [a, b], _ =>
      rw [hc] at e0 e1
      simp at e0 e1
      rw [e0, e1]
  have all : ∀ i, i ≤ n → cs.take (2 * i) = (zs.take i).flatMap fun z => [.bool z.1, .bool z.2] := by
    intro i
    induction i with
    | zero => simp
    | succ i ih =>
      intro hi
      obtain ⟨z, hz, hd⟩ := step i (by omega)
      rw [Nat.mul_succ, List.take_add, ih (by omega), hd]
      rw [show zs.take (i + 1) = zs.take i ++ [z] by rw [List.take_add_one, hz]; rfl]
      simp
  have := all n (Nat.le_refl n)
  rwa [List.take_of_length_le (by omega), List.take_of_length_le (by omega)] at this
/-- The listed table stands first on the list. -/
theorem pairs_var {P : Program} {W : World} {name : String} {zs : List (Bool × Bool)} {rest : List (String × DataW Unit)} {g : Nat} {t e tb : TypeId} {n : Nat} {f0 f1 : Field}
    (hg : P.globalNamed name = some g) (hty : (P.globals[g]?).map (·.type) = some t) (ht : P.underlying t = some (.array n e)) (he : P.underlying e = some (.struct #[f0, f1])) (hb : P.underlying tb = some .bool) (h0 : f0.type = tb) (h1 : f1.type = tb) (o0 : f0.offset = 0) (o1 : f1.offset = 1) (cb : P.cellsOf tb = 1) (ce : P.cellsOf e = 2) (ct : P.cellsOf t = 2 * n)
    (h : laidMet P ((name, .agg (zs.map fun z => .agg [.lit (.bool z.1), .lit (.bool z.2)])) :: rest) W) : W.var? P name = some (zs.flatMap fun z => [Value.bool z.1, .bool z.2]).toArray := by
  obtain ⟨ps, ⟨g', t', cs, fuel, p, q, hg', ht', hvar, hd, _, _⟩, _⟩ := h
  obtain rfl := Option.some.inj (hg.symm.trans hg')
  obtain rfl := Option.some.inj (hty.symm.trans ht')
  rw [hvar, ← pairs_of ht he hb h0 h1 o0 o1 cb ce ct hd]
end Go.Proofs.YtfgacjglfdehbaaGreatDoor
/- Layer 7: the block that holds the kinds, as a thing that stays. -/
namespace Go.Proofs.YtfgacjglfdehbaaGreatDoor
open Go.RowKit
set_option linter.unusedVariables false
/-- The kinds, in block 0, whole. -/
def kndR (t : TypeId) : Res where
  sat F W := (∀ k, F k ↔ k = 0) ∧ W.heap[0]? = some (.cells KndV t (0, 0))
  stay h hs := ⟨hs.1, by rw [h 0 ((hs.1 0).2 rfl)]; exact hs.2⟩
  lt hs k hk := by rw [(hs.1 k).1 hk]; exact (Array.getElem?_eq_some_iff.1 hs.2).1
theorem row_knd {W : World} {t : TypeId} (h : W.heap[0]? = some (.cells KndV t (0, 0))) : row? W 0 = some KndV := by
  unfold row?; rw [h]; rfl
section
variable {w W : World} {F : Nat → Prop} {R : List Res} {r s u : Res} {t : TypeId}
theorem Sts.knd (h : Sts w F W (kndR t :: R)) : row? W 0 = some KndV := let ⟨_, ha⟩ := h.at0; row_knd ha.2
end
theorem Sts.startK {W : World} {t : TypeId} (h : W.heap[0]? = some (.cells KndV t (0, 0))) : Sts W (fun k => k = 0) W [kndR t] := Sts.start (Sat.one ⟨fun _ => Iff.rfl, h⟩)
theorem Sts.belowK {W W' : World} {t : TypeId} (h0 : W.heap[0]? = some (.cells KndV t (0, 0))) (h : Sts W (fun k => k = 0) W' [kndR t]) : Below W.heap.size W W' := by
  obtain ⟨_, ha⟩ := h.at0
  have m := h.mod
  refine ⟨m.os, m.tape, m.output, m.size, fun k hk => ?_⟩
  by_cases h : k = 0
  · subst h; rw [ha.2, h0]
  · exact m.block k hk h
end Go.Proofs.YtfgacjglfdehbaaGreatDoor
/- Layer 7: what the row's list gives the walks; a world that bears the list. -/
namespace Go.Proofs.YtfgacjglfdehbaaGreatDoor
open Go.ChangeShapes Go.WideShapes Go.ChangeAt Go.RowKit
set_option linter.unusedVariables false
theorem kindsG : Tryz.prog.globalNamed "caucus/mail.kinds" = some 0 := by kernel_rfl
theorem kindsT : (Tryz.prog.globals[0]?).map (·.type) = some 97 := by kernel_rfl
theorem kindsRow : (((begin Tryz.prog (fun _ _ => 0) default).world.heap[0]?).bind Obj.row?).isSome = true := by kernel_rfl
theorem kindsN : 0 < Tryz.prog.globals.size := of_decide_eq_true (by kernel_rfl)
def kindsL : List (Bool × Bool) := [(false, false), (true, false), (true, false), (true, false), (false, false), (true, false), (false, false), (true, true), (false, false)]
/-- The kinds, out of the list and the world's form. -/
theorem kinds0 {W : World} (h : laidMetH Tryz.prog [("caucus/mail.kinds", Rows.laid_caucus_mail_kinds)] W) (hs : W.ShapedOpen Tryz.prog) : ∃ t, W.heap[0]? = some (.cells KndV t (0, 0)) := by
  obtain ⟨⟨z, t⟩, hz⟩ := Option.isSome_iff_exists.1 kindsRow
  obtain ⟨cs, hcs, _⟩ := hs.1 0 z t kindsN hz
  have hv := pairs_var (zs := kindsL) (rest := []) kindsG kindsT Tryz.underlying97 Tryz.underlying96 Tryz.underlying4 rfl rfl rfl rfl (by kernel_rfl) (by kernel_rfl) (by kernel_rfl) h
  refine ⟨t, ?_⟩
  have : W.var? Tryz.prog "caucus/mail.kinds" = some cs := by
    unfold World.var?
    rw [kindsG]
    simp only [Option.bind_some, hcs]
  rw [this] at hv
  rw [hcs, Option.some.inj hv]
  rfl
/-- A world for the witness: the settled one, the kinds laid. -/
noncomputable def laidWorld (os : Os) : World :=
  { World.holding Tryz.prog os ⟨#[], #[], []⟩ with heap := (World.holding Tryz.prog os ⟨#[], #[], []⟩).heap.modify 0 fun
      | .cells _ t frozen => .cells KndV t frozen
      | o => o }
theorem laid_met (os : Os) (args : Array Value) : laidMet Tryz.prog [("caucus/mail.kinds", Rows.laid_caucus_mail_kinds)] ((laidWorld os).forCall (fun _ _ => 0) ⟨#[], args, []⟩).memory :=
  laidMet_of_run' 8 (by kernel_rfl) (by kernel_rfl)
end Go.Proofs.YtfgacjglfdehbaaGreatDoor
/- Layer 12: At, Sync; a nil space. -/
namespace Go.Proofs.YtfgacjglfdehbaaGreatDoor
open Go.RowKit
set_option linter.unusedVariables false
set_option maxRecDepth 20000
attribute [local go_sem] row_alloc row_drew row_drewN row_ext row_setCell row_setRow size_ext setRow_alloc setRow_drew loadOf storeOf piece_lit loadVal_at storeVal_at allOne_lit buildOf buildRes_some
attribute [local go_sem high] cell_alloc frozen_alloc setCell_alloc cell_ext frozen_ext cell_setRow frozen_setRow
attribute [local go_sem ↓] TDeed_ld0 TDeed_st0 TDeed_fd0 TDeed_bd0
attribute [local go_sem] TDeed_size TDeed_one TDeed_piece TDeed_c0 TDeed_c1 TDeed_c2 TDeed_c3 TDeed_c4 TDeed_c5 TDeed_set_kind TDeed_set_key TDeed_set_val TDeed_set_ver TDeed_set_ses TDeed_set_num TDeed_ld TDeed_st TDeed_f_kind TDeed_f_key TDeed_f_val TDeed_f_ver TDeed_f_ses TDeed_f_num TDeed_bd TDeed_fl TDeed_fl_kind TDeed_fl_key TDeed_fl_val TDeed_fl_ver TDeed_fl_ses TDeed_fl_num
attribute [local go_sem high] TDeed_eql TDeed_neq
attribute [local go_sem ↓] index_deps0 load_deps0 store_deps0
attribute [local go_sem] DV_piece DV_size DV_one index_deps load_deps store_deps
attribute [local go_sem high] TDeps_eql TDeps_neq
attribute [local go_sem ↓] TCall_ld0 TCall_st0 TCall_fd0 TCall_bd0
attribute [local go_sem] TCall_size TCall_one TCall_piece TCall_c0 TCall_c1 TCall_c2 TCall_c3 TCall_c4 TCall_c5 TCall_c6 TCall_c7 TCall_c8 TCall_c9 TCall_c10 TCall_c11 TCall_c12 TCall_c13 TCall_p_deed TCall_put_deed TCall_p_deps TCall_put_deps TCall_set_seq TCall_ld TCall_st TCall_f_deed TCall_f_deps TCall_f_seq TCall_bd TCall_fl TCall_fl_deed TCall_fl_deps TCall_fl_seq
attribute [local go_sem high] TCall_eql TCall_neq
attribute [local go_sem ↓] TItem_ld0 TItem_st0 TItem_fd0 TItem_bd0
attribute [local go_sem] TItem_size TItem_one TItem_piece TItem_c0 TItem_c1 TItem_set_rep TItem_set_num TItem_ld TItem_st TItem_f_rep TItem_f_num TItem_bd TItem_fl TItem_fl_rep TItem_fl_num
attribute [local go_sem high] TItem_eql TItem_neq
attribute [local go_sem ↓] TBallot_ld0 TBallot_st0 TBallot_fd0 TBallot_bd0
attribute [local go_sem] TBallot_size TBallot_one TBallot_piece TBallot_c0 TBallot_c1 TBallot_set_round TBallot_set_rep TBallot_ld TBallot_st TBallot_f_round TBallot_f_rep TBallot_bd TBallot_fl TBallot_fl_round TBallot_fl_rep
attribute [local go_sem high] TBallot_eql TBallot_neq
attribute [local go_sem ↓] TInst_ld0 TInst_st0 TInst_fd0 TInst_bd0
attribute [local go_sem] TInst_size TInst_one TInst_piece TInst_c0 TInst_c1 TInst_c2 TInst_c3 TInst_c4 TInst_c5 TInst_c6 TInst_c7 TInst_c8 TInst_c9 TInst_c10 TInst_c11 TInst_c12 TInst_c13 TInst_c14 TInst_c15 TInst_c16 TInst_c17 TInst_c18 TInst_c19 TInst_p_prom TInst_put_prom TInst_p_vote TInst_put_vote TInst_set_status TInst_p_call TInst_put_call TInst_set_same TInst_ld TInst_st TInst_f_prom TInst_f_vote TInst_f_status TInst_f_call TInst_f_same TInst_bd TInst_fl TInst_fl_prom TInst_fl_vote TInst_fl_status TInst_fl_call TInst_fl_same
attribute [local go_sem high] TInst_eql TInst_neq
section
variable {w W : World} {F : Nat → Prop} {R : List Res} {s lg p g bk bs : Nat} {I : Idx} {D : List UInt8} {safe : Nat} {m : RowsM}
set_option maxHeartbeats 2000000 in
theorem spAtR (s lg p g bk bs : Nat) (I : Idx) (D : List UInt8) (safe : Nat) (m : RowsM) (hm : RowsOk m) (x : Item) : Reads Tryz.prog 21 #[.pointer (some ⟨s, 0, none⟩), .agg (IV x)] (spL s lg p g bk bs I D safe m) (.agg (NV ((getM m x).getD noInst))) := by
  intro W G hS
  obtain ⟨w3, hw3⟩ : ∃ w3, w3 = (W.alloc (.cells (IV x) 32)).alloc (.cells (NV noInst) 52) := ⟨_, rfl⟩
  have T := ((Sts.start0 W).new (IV x) 32).new (NV noInst) 52
  simp only [World.size_alloc] at T
  rw [← hw3] at T
  rw [noInst_lit] at hw3
  obtain ⟨v, TS⟩ := (Sts.start hS).idxOpen
  have TS : Sts W G W [rowR s (spCells lg bk v bs), vecR 32 2 v I.lists.length (vl IV I.lists), keysR bk I.N I.keys, sesR bs I.N I.ses, rowR lg (ledCells p g m.n), plR p D safe, rowsIR g m] := TS
  have hlW := row_lt TS.row
  have hrl : ∀ W' R', Sts W (fun _ => False) W' R' → (W'.cell? ⟨s, 0, none⟩ = some (.pointer (some ⟨lg, 0, none⟩)) ∧ s < W'.heap.size) := fun W' R' T => by
    have r := (row_below T.below hlW).trans TS.row
    exact ⟨row_cell r 0, row_lt r⟩
  have hat : ∀ W' R', Sts W (fun _ => False) W' R' → Calls Tryz.prog 44 #[.pointer (some ⟨lg, 0, none⟩), .agg (IV x)] W' fun e W'' => e = .returned (.agg (NV ((getM m x).getD noInst))) ∧ Below W'.heap.size W' W'' := fun W' R' T => by
    have T9 := (TS.pure T.below).ord [4, 5, 6, 0, 1, 2, 3]
    exact (ledAtR lg p g D safe m hm x).at (R := [rowR s (spCells lg bk v bs), vecR 32 2 v I.lists.length (vl IV I.lists), keysR bk I.N I.keys, sesR bs I.N I.ses]) T9
  have HRL := Lib.hid hrl; have HAT := Lib.hid hat
  clear hrl hat TS hS
  obtain ⟨c0, l0⟩ := HRL.out w3 _ T
  go_enter Tryz.func21, Tryz.ntmps21
  go_wp2_with fail
  rw [← hw3]
  clear hw3
  generalize hg2 : W.heap.size + 1 = g2 at *
  generalize hg1 : W.heap.size = g1 at *
  have FS : ∀ W' R', Sts W (fun _ => False) W' (rowR g1 (IV x) :: R') → (W'.cell? ⟨s, 0, none⟩ = some (.pointer (some ⟨lg, 0, none⟩)) ∧ row? W' g1 = some (IV x)) := fun W' R' T => ⟨(HRL.out W' _ T).1, T.row⟩
  have S0 := FS _ _ T.drew.swap
  have HFS := Lib.hid FS
  have HT := Lib.hid T.drew
  clear FS T c0 l0 HRL
  generalize hres : (getM m x).getD noInst = res at *
  refine wp_region_stage (fun W' => (W'.cell? ⟨s, 0, none⟩ = some (.pointer (some ⟨lg, 0, none⟩)) ∧ row? W' g1 = some (IV x))) (fun W' => True) 6 (by kernel_rfl) S0 (fun hHeld => ?_)
  clear S0
  refine wpAnyL_take0 (i := 0) (oi := _) (v := ?_) rfl (by kernel_rfl) (by kernel_rfl) (by kernel_rfl) (by kernel_rfl) (by kernel_rfl) (fun _ _ _ h => h) (Or.inl ⟨by kernel_rfl, ?_⟩) (by assumption) ?_
  rotate_left
  · (intro w hSw; (try dsimp only at hSw); go_simp; try (with_reducible rfl))
  simp only [Act.put, List.getElem_toArray, List.getElem_cons_zero, List.setIfInBounds_toArray, List.set_cons_zero, List.set_cons_succ]
  refine wpAnyL_take0 (i := 1) (oi := _) (v := ?_) rfl (by kernel_rfl) (by kernel_rfl) (by kernel_rfl) (by kernel_rfl) (by kernel_rfl) (fun _ _ _ h => h) (Or.inl ⟨by kernel_rfl, ?_⟩) (by assumption) ?_
  rotate_left
  · (intro w hSw; (try dsimp only at hSw); go_simp; try (with_reducible rfl))
  simp only [Act.put, List.getElem_toArray, List.getElem_cons_succ, List.getElem_cons_zero, List.setIfInBounds_toArray, List.set_cons_zero, List.set_cons_succ]
  refine wpAnyL_take0 (i := 2) (oi := _) (v := ?_) rfl (by kernel_rfl) (by kernel_rfl) (by kernel_rfl) (by kernel_rfl) (by kernel_rfl) (fun _ _ _ h => h) (Or.inl ⟨by kernel_rfl, ?_⟩) (by assumption) ?_
  rotate_left
  · (intro w hSw; (try dsimp only at hSw); go_simp; try (with_reducible rfl))
  simp only [Act.put, List.getElem_toArray, List.getElem_cons_succ, List.getElem_cons_zero, List.setIfInBounds_toArray, List.set_cons_zero, List.set_cons_succ]
  refine wpAnyL_take0 (i := 3) (oi := _) (v := ?_) rfl (by kernel_rfl) (by kernel_rfl) (by kernel_rfl) (by kernel_rfl) (by kernel_rfl) (fun _ _ _ h => h) (Or.inl ⟨by kernel_rfl, ?_⟩) (by assumption) ?_
  rotate_left
  · (intro w hSw; (try dsimp only at hSw); go_simp; try (with_reducible rfl))
  simp only [Act.put, List.getElem_toArray, List.getElem_cons_succ, List.getElem_cons_zero, List.setIfInBounds_toArray, List.set_cons_zero, List.set_cons_succ]
  refine wpAnyL_take0 (i := 4) (oi := _) (v := ?_) rfl (by kernel_rfl) (by kernel_rfl) (by kernel_rfl) (by kernel_rfl) (by kernel_rfl) (fun _ _ _ h => h) (Or.inl ⟨by kernel_rfl, ?_⟩) (by assumption) ?_
  rotate_left
  · (intro w hSw; (try dsimp only at hSw); go_simp; try (with_reducible rfl))
  simp only [Act.put, List.getElem_toArray, List.getElem_cons_succ, List.getElem_cons_zero, List.setIfInBounds_toArray, List.set_cons_zero, List.set_cons_succ]
  refine wpAnyL_ready (rs := [5]) (by kernel_rfl) (by simp) ?_
  refine AllReadyL.cons0 (o := _) rfl (by kernel_rfl) (fun K hK => ?_) AllReadyL.nil
  go_simp
  refine (HAT.out _ _ HT.out).mono ?_
  rintro e w4 ⟨rfl, hb⟩
  have T1 := HT.out.pure hb
  clear hb HT HAT
  refine hK.out _ _ ?_ (fun hHeld => ?_)
  · exact HFS.out _ _ T1.swap
  clear hK K
  refine wpAnyL_ready (rs := [6]) (by kernel_rfl) (by simp) ?_
  refine AllReadyL.cons1 (o := _) rfl (by kernel_rfl) (fun K hK => ?_) AllReadyL.nil
  have r2 := T1.row; have l2 := row_lt r2
  rw [noInst_lit] at r2
  have T2 := T1.setRow (NV res)
  have HT2 := Lib.hid T2; clear T1 T2
  go_simp
  refine hK.out _ _ trivial (fun hHeld => ?_)
  clear hK K r2 l2
  refine wpAnyL_done (by kernel_rfl) ?_ _
  try simp only [Exit.then]
  generalize w4.setRow _ _ = w5 at *
  go_wp2
  refine ret_row (NV res) TInst_und rfl (by kernel_rfl) rfl rfl rfl (TInst_size _) HT2.out.row ?_
  exact ⟨by rw [hres], by first | exact HT2.out.below | (rw [hg1]; exact HT2.out.below) | (rw [← hg1]; exact HT2.out.below)⟩
end
end Go.Proofs.YtfgacjglfdehbaaGreatDoor
/- Layer 15: what is known of an item goes into the space; the deps of a call, merged with a way. -/
namespace Go.Proofs.YtfgacjglfdehbaaGreatDoor
open Go.RowKit
set_option linter.unusedVariables false
set_option maxRecDepth 20000
attribute [local go_sem] row_alloc row_drew row_drewN row_ext row_setCell row_setRow size_ext setRow_alloc setRow_drew loadOf storeOf piece_lit loadVal_at storeVal_at allOne_lit buildOf buildRes_some
attribute [local go_sem high] cell_alloc frozen_alloc setCell_alloc cell_ext frozen_ext cell_setRow frozen_setRow
attribute [local go_sem ↓] TDeed_ld0 TDeed_st0 TDeed_fd0 TDeed_bd0
attribute [local go_sem] TDeed_size TDeed_one TDeed_piece TDeed_c0 TDeed_c1 TDeed_c2 TDeed_c3 TDeed_c4 TDeed_c5 TDeed_set_kind TDeed_set_key TDeed_set_val TDeed_set_ver TDeed_set_ses TDeed_set_num TDeed_ld TDeed_st TDeed_f_kind TDeed_f_key TDeed_f_val TDeed_f_ver TDeed_f_ses TDeed_f_num TDeed_bd TDeed_fl TDeed_fl_kind TDeed_fl_key TDeed_fl_val TDeed_fl_ver TDeed_fl_ses TDeed_fl_num
attribute [local go_sem high] TDeed_eql TDeed_neq
attribute [local go_sem ↓] index_deps0 load_deps0 store_deps0
attribute [local go_sem] DV_piece DV_size DV_one index_deps load_deps store_deps
attribute [local go_sem high] TDeps_eql TDeps_neq
attribute [local go_sem ↓] TCall_ld0 TCall_st0 TCall_fd0 TCall_bd0
attribute [local go_sem] TCall_size TCall_one TCall_piece TCall_c0 TCall_c1 TCall_c2 TCall_c3 TCall_c4 TCall_c5 TCall_c6 TCall_c7 TCall_c8 TCall_c9 TCall_c10 TCall_c11 TCall_c12 TCall_c13 TCall_p_deed TCall_put_deed TCall_p_deps TCall_put_deps TCall_set_seq TCall_ld TCall_st TCall_f_deed TCall_f_deps TCall_f_seq TCall_bd TCall_fl TCall_fl_deed TCall_fl_deps TCall_fl_seq
attribute [local go_sem high] TCall_eql TCall_neq
attribute [local go_sem ↓] TItem_ld0 TItem_st0 TItem_fd0 TItem_bd0
attribute [local go_sem] TItem_size TItem_one TItem_piece TItem_c0 TItem_c1 TItem_set_rep TItem_set_num TItem_ld TItem_st TItem_f_rep TItem_f_num TItem_bd TItem_fl TItem_fl_rep TItem_fl_num
attribute [local go_sem high] TItem_eql TItem_neq
attribute [local go_sem ↓] TBallot_ld0 TBallot_st0 TBallot_fd0 TBallot_bd0
attribute [local go_sem] TBallot_size TBallot_one TBallot_piece TBallot_c0 TBallot_c1 TBallot_set_round TBallot_set_rep TBallot_ld TBallot_st TBallot_f_round TBallot_f_rep TBallot_bd TBallot_fl TBallot_fl_round TBallot_fl_rep
attribute [local go_sem high] TBallot_eql TBallot_neq
attribute [local go_sem ↓] TInst_ld0 TInst_st0 TInst_fd0 TInst_bd0
attribute [local go_sem] TInst_size TInst_one TInst_piece TInst_c0 TInst_c1 TInst_c2 TInst_c3 TInst_c4 TInst_c5 TInst_c6 TInst_c7 TInst_c8 TInst_c9 TInst_c10 TInst_c11 TInst_c12 TInst_c13 TInst_c14 TInst_c15 TInst_c16 TInst_c17 TInst_c18 TInst_c19 TInst_p_prom TInst_put_prom TInst_p_vote TInst_put_vote TInst_set_status TInst_p_call TInst_put_call TInst_set_same TInst_ld TInst_st TInst_f_prom TInst_f_vote TInst_f_status TInst_f_call TInst_f_same TInst_bd TInst_fl TInst_fl_prom TInst_fl_vote TInst_fl_status TInst_fl_call TInst_fl_same
attribute [local go_sem high] TInst_eql TInst_neq
/-- By how much the room may be used. -/
noncomputable def growV (m : RowsM) (y : Item) (i : Inst) : Nat := if eqA (NV (atM m y)) (NV i) = true then 0 else 1
theorem growV_same {m : RowsM} {y : Item} {i : Inst} (h : atM m y = i) : growV m y i = 0 := by
  unfold growV; rw [h, if_pos (eqA_refl _)]
theorem growV_le (m : RowsM) (y : Item) (i : Inst) : growV m y i ≤ 1 := by unfold growV; split <;> omega
theorem VotI.same {n : Int} {k : Nat} {I : Idx} {D : List UInt8} {m : RowsM} (h : VotI n k I D m) {y : Item} {i : Inst} (e : atM m y = i) : VotI n (k + growV m y i) I D m := by
  rw [growV_same e]; exact h
theorem VotI.up {n : Int} {k j : Nat} {I : Idx} {D : List UInt8} {m : RowsM} (h : VotI n k I D m) (hj : k ≤ j) : VotI n j I D m := by
  obtain ⟨d, rfl⟩ := Nat.exists_eq_add_of_le hj
  clear hj
  induction d with
  | zero => exact h
  | succ d ih => exact ih.mono
set_option maxHeartbeats 4000000 in
theorem vknow {n : Int} {k : Nat} {I : Idx} {D : List UInt8} {m : RowsM} (hv : VotI n k I D m) (hk : k ≤ 100) {safe s lg p g bk bs : Nat} (x : Item) (was now : Inst) (hw : atM m x = was) (hx : goodI x n = true) (hi : goodN now n = true) {w W : World} {F : Nat → Prop} {R : List Res} (T : Sts w F W (spL s lg p g bk bs I D safe m ++ R)) :
    Calls Tryz.prog 27 #[.pointer (some ⟨s, 0, none⟩), .agg (IV x), .agg (NV was), .agg (NV now)] W fun e W' => e = .returned (.bool true) ∧ ∃ I' D' safe', VotI n (k + growV m x now) I' D' (nowR m x now) ∧ Sts w F W' (spL s lg p g bk bs I' D' safe' (nowR m x now) ++ R) := by
  have hsp := hv.sp
  have hkn := spKnowD s lg p g bk bs I hsp.idx (by have := hsp.N; omega) D safe m hsp.ok hsp.good hsp.len x now
  obtain ⟨e1, e2, e3⟩ := hv.know hk safe hx hi
  rw [e1, e2] at hkn
  have en : nowR m x now = if eqA (NV was) (NV now) = true then m else setM m x now := by unfold nowR; rw [hw]
  have T1 : Sts w F W (idxR s lg bk bs I :: rowR lg (ledCells p g m.n) :: plR p D safe :: rowsIR g m :: R) := T
  have T2 := (((T1.new (IV x) 32).new (NV was) 52).new (NV now) 52).ord [3, 4, 5, 6, 0, 1, 2]
  simp only [World.size_alloc] at T2
  have r3 := (T2.ord [4, 0, 1, 2, 3, 5, 6]).row; have l3 := row_lt r3
  have r2 := (T2.ord [5, 0, 1, 2, 3, 4, 6]).row; have l2 := row_lt r2
  have r1 := (T2.ord [6, 0, 1, 2, 3, 4, 5]).row; have l1 := row_lt r1
  have HV := Lib.hid hv; have HT := Lib.hid T2; have HKN := Lib.hid hkn; have HE := Lib.hid en; have H3 := Lib.hid e3; have HW := Lib.hid hw
  clear hv T T1 T2 hkn en e3 e1 e2 hsp hw hx hi
  cases hq : eqA (NV was) (NV now)
  case true =>
    go_enter Tryz.func27, Tryz.ntmps27
    go_wp2
    go_ret
    have en : nowR m x now = m := by rw [HE.out, if_pos hq]
    rw [en]
    have T9 := (HT.out.ord [4, 5, 6, 0, 1, 2, 3]).drop.drop.drop
    have eg : growV m x now = 0 := by unfold growV; rw [HW.out, if_pos hq]
    rw [eg]
    exact ⟨rfl, I, D, safe, HV.out, T9⟩
  case false =>
    go_enter Tryz.func27, Tryz.ntmps27
    go_wp2_with fail
    refine (Does.at (R := _ :: _ :: _ :: R) HKN.out HT.out).mono ?_
    clear HKN HT r3 l3 r2 l2 r1 l1
    rintro e w4 ⟨rfl, T⟩
    have T : Sts w F w4 (idxR s lg bk bs (knowI I D safe m x now) :: rowR lg (ledCells p g (setM m x now).n) :: plR p (addM D safe m x now).1 (addM D safe m x now).2.1 :: rowsIR g (setM m x now) :: rowR (W.heap.size + 1 + 1) (NV now) :: rowR (W.heap.size + 1) (NV was) :: rowR W.heap.size (IV x) :: R) := T
    have HT := Lib.hid T; clear T
    go_wp2
    go_ret
    have en : nowR m x now = setM m x now := by rw [HE.out, if_neg (by simp [hq])]
    rw [en]
    have T9 := (HT.out.ord [4, 5, 6, 0, 1, 2, 3]).drop.drop.drop
    have eg : growV m x now = 1 := by unfold growV; rw [HW.out, if_neg (by simp [hq])]
    rw [eg]
    exact ⟨rfl, _, _, _, H3.out, T9⟩
end Go.Proofs.YtfgacjglfdehbaaGreatDoor
