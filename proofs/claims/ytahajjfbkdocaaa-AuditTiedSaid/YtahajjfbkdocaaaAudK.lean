/- Layer 24, the laws: what is more than is played. -/
import Derived.Test.YtahajjfbkdocaaaAudL
namespace Go.Proofs.Ytahajjfbkdocaaa
open Go.RowKit
set_option linter.unusedVariables false
attribute [local go_sem] row_alloc row_drew row_drewN row_ext row_setCell row_setRow size_ext setRow_alloc setRow_drew loadOf storeOf piece_lit loadVal_at storeVal_at allOne_lit buildOf buildRes_some
attribute [local go_sem high] cell_alloc frozen_alloc setCell_alloc cell_ext frozen_ext cell_setRow frozen_setRow
attribute [local go_sem ↓] TDeed_ld0 TDeed_st0 TDeed_fd0 TDeed_bd0
attribute [local go_sem] TDeed_size TDeed_one TDeed_piece TDeed_c0 TDeed_c1 TDeed_c2 TDeed_c3 TDeed_c4 TDeed_c5 TDeed_set_kind TDeed_set_key TDeed_set_val TDeed_set_ver TDeed_set_ses TDeed_set_num TDeed_ld TDeed_st TDeed_f_kind TDeed_f_key TDeed_f_val TDeed_f_ver TDeed_f_ses TDeed_f_num TDeed_bd TDeed_fl TDeed_fl_kind TDeed_fl_key TDeed_fl_val TDeed_fl_ver TDeed_fl_ses TDeed_fl_num
attribute [local go_sem high] TDeed_eql TDeed_neq
attribute [local go_sem ↓] index_deps0 load_deps0 store_deps0
attribute [local go_sem] DV_piece DV_size DV_one index_deps load_deps store_deps
attribute [local go_sem high] TDeps_eql TDeps_neq
attribute [local go_sem ↓] TCall_ld0 TCall_st0 TCall_fd0 TCall_bd0
attribute [local go_sem] TCall_size TCall_one TCall_piece TCall_c0 TCall_c1 TCall_c2 TCall_c3 TCall_c4 TCall_c5 TCall_c6 TCall_c7 TCall_c8 TCall_c9 TCall_c10 TCall_c11 TCall_c12 TCall_c13 TCall_p_deed TCall_put_deed TCall_p_deps TCall_put_deps TCall_set_seq TCall_ld TCall_st TCall_f_deed TCall_f_deps TCall_f_seq TCall_bd TCall_fl TCall_fl_deed TCall_fl_deps TCall_fl_seq
attribute [local go_sem high] TCall_eql TCall_neq
attribute [local go_sem ↓] TItem_ld0 TItem_st0 TItem_fd0 TItem_bd0
attribute [local go_sem] TItem_size TItem_one TItem_piece TItem_c0 TItem_c1 TItem_set_rep TItem_set_num TItem_ld TItem_st TItem_f_rep TItem_f_num TItem_bd TItem_fl TItem_fl_rep TItem_fl_num
attribute [local go_sem high] TItem_eql TItem_neq
attribute [local go_sem ↓] TBallot_ld0 TBallot_st0 TBallot_fd0 TBallot_bd0
attribute [local go_sem] TBallot_size TBallot_one TBallot_piece TBallot_c0 TBallot_c1 TBallot_set_round TBallot_set_rep TBallot_ld TBallot_st TBallot_f_round TBallot_f_rep TBallot_bd TBallot_fl TBallot_fl_round TBallot_fl_rep
attribute [local go_sem high] TBallot_eql TBallot_neq
attribute [local go_sem ↓] TInst_ld0 TInst_st0 TInst_fd0 TInst_bd0
attribute [local go_sem] TInst_size TInst_one TInst_piece TInst_c0 TInst_c1 TInst_c2 TInst_c3 TInst_c4 TInst_c5 TInst_c6 TInst_c7 TInst_c8 TInst_c9 TInst_c10 TInst_c11 TInst_c12 TInst_c13 TInst_c14 TInst_c15 TInst_c16 TInst_c17 TInst_c18 TInst_c19 TInst_p_prom TInst_put_prom TInst_p_vote TInst_put_vote TInst_set_status TInst_p_call TInst_put_call TInst_set_same TInst_ld TInst_st TInst_f_prom TInst_f_vote TInst_f_status TInst_f_call TInst_f_same TInst_bd TInst_fl TInst_fl_prom TInst_fl_vote TInst_fl_status TInst_fl_call TInst_fl_same
attribute [local go_sem high] TInst_eql TInst_neq
attribute [local go_sem ↓] TEntry_ld0 TEntry_st0 TEntry_fd0 TEntry_bd0
attribute [local go_sem] TEntry_size TEntry_one TEntry_piece TEntry_c0 TEntry_c1 TEntry_c2 TEntry_c3 TEntry_c4 TEntry_c5 TEntry_c6 TEntry_c7 TEntry_c8 TEntry_c9 TEntry_c10 TEntry_c11 TEntry_c12 TEntry_c13 TEntry_c14 TEntry_c15 TEntry_c16 TEntry_c17 TEntry_c18 TEntry_c19 TEntry_c20 TEntry_c21 TEntry_p_item TEntry_put_item TEntry_p_inst TEntry_put_inst TEntry_ld TEntry_st TEntry_f_item TEntry_f_inst TEntry_bd TEntry_fl TEntry_fl_item TEntry_fl_inst
attribute [local go_sem high] TEntry_eql TEntry_neq
noncomputable def overE (e : Entry) : Bool := decide ((100 : Int) < (e.inst.call.deed.key.size : Int) + (e.inst.call.deed.val.size : Int))
noncomputable def overD (d : Dump) : Bool := d.l.any overE || decide ((20 : Int) < (d.l.length : Int))
noncomputable def greatB (ds : List Dump) : Bool := ds.any overD || decide ((7 : Int) < (ds.length : Int))
/-- The dumps lie here. -/
structure DumpsIn (w : World) (A : Option Addr) (ds : List Dump) : Prop where
  rows : RowsIn w A 1 PV ds
  each : ∀ d ∈ ds, RowsIn w d.A 22 AV d.l
/-- Texts of such entries fit. -/
def TextsFit (ds : List Dump) : Prop := ∀ d ∈ ds, ∀ e ∈ d.l, e.inst.call.deed.key.size ≤ 140737488351232 ∧ e.inst.call.deed.val.size ≤ 140737488351232
theorem DumpsIn.load {w W : World} {a : Addr} {ds : List Dump} (hx : DumpsIn w (some a) ds) (hb : Below w.heap.size w W) {k : Nat} (hkl : k < ds.length) : W.cell? (a.add k) = some (.slice ds[k].A ds[k].l.length ds[k].c) := by
  have hc := hx.rows.cell a rfl k hkl 0 _ rfl
  rw [Nat.mul_one] at hc
  have e0 : ∀ b : Addr, b.add 0 = b := fun b => by unfold Addr.add; simp
  rw [e0] at hc
  exact (hb.cell (World.block_lt_of_cell? w _ hc)).trans hc
set_option maxHeartbeats 4000000 in
theorem great_any (A : Option Addr) (c : Nat) (ds : List Dump) (w W : World) (R : List Res) (hx : DumpsIn w A ds) (hf : TextsFit ds) (T : Sts w (fun _ => False) W R) :
    Calls Try.prog 7 #[.slice A ds.length c] W fun e W' => e = .returned (.bool (greatB ds)) ∧ Sts w (fun _ => False) W' R := by
  have hll := hx.rows.len
  go_enter Try.func7, Try.ntmps7
  go_wp2_with fail
  go_loopw [9] (fun i wr => ∃ k : Nat, k ≤ ds.length ∧ i = .int .i64 k ∧ (ds.take k).any overD = false ∧ Sts w (fun _ => False) wr R) (fun i _ => ds.length - (intOf i).toNat)
  case atStart => exact ⟨0, by omega, rfl, rfl, T⟩
  case round =>
    clear T
    obtain ⟨k, hk0, rfl, hno, T⟩ := hrel
    by_cases hkl : k < ds.length
    · cases A with
      | none => have := hx.rows.nil rfl; subst this; simp at hkl
      | some a =>
        have hld := hx.load T.below hkl
        have hdx := hx.each ds[k] (List.getElem_mem hkl)
        have hdf := hf ds[k] (List.getElem_mem hkl)
        have hox : ds[k]? = some ds[k] := List.getElem?_eq_getElem hkl
        have hmem : ds[k] ∈ ds := List.getElem_mem hkl
        generalize ds[k] = d at *
        have hdl := hdx.len
        go_wp2_with fail
        clear hld
        go_loopw [15] (fun i wi => ∃ j : Nat, j ≤ d.l.length ∧ i = .int .i64 j ∧ (d.l.take j).any overE = false ∧ Sts w (fun _ => False) wi R) (fun i _ => d.l.length - (intOf i).toNat)
        case atStart => exact ⟨0, by omega, rfl, rfl, T⟩
        case round =>
          clear T
          obtain ⟨j, hj0, rfl, hno1, T⟩ := hrel
          by_cases hjl : j < d.l.length
          · obtain ⟨dA, dc, dl⟩ := d
            cases dA with
            | none => have := hdx.nil rfl; dsimp only at *; subst this; simp at hjl
            | some b =>
              dsimp only at *
              have hld := hdx.load (P := Try.prog) (T := 40) TEntry_size TEntry_und rfl (by kernel_rfl) T.below rfl hjl
              obtain ⟨hk1, hk2⟩ := hdf dl[j] (List.getElem_mem hjl)
              have hoj : dl[j]? = some dl[j] := List.getElem?_eq_getElem hjl
              have hme : dl[j] ∈ dl := List.getElem_mem hjl
              generalize dl[j] = x at *
              have T := T.new (AV x) 40
              have hr := T.row; have hlt := row_lt hr; have hc := row_cell hr
              cases hov : overE x
              case false =>
                have hg : decide ((100 : Int) < (x.inst.call.deed.key.size : Int) + (x.inst.call.deed.val.size : Int)) = false := hov
                go_wp2
                go_roundw
                case rel => exact ⟨j + 1, by omega, by go_num, by rw [List.take_add_one, hoj, List.any_append, hno1]; simp [hov], T.drop⟩
                case measure => simp [intOf]; omega
              case true =>
                have hg : decide ((100 : Int) < (x.inst.call.deed.key.size : Int) + (x.inst.call.deed.val.size : Int)) = true := hov
                have hm : greatB ds = true := by
                  unfold greatB
                  rw [Bool.or_eq_true]; left
                  rw [List.any_eq_true]
                  refine ⟨_, hmem, ?_⟩
                  unfold overD
                  rw [Bool.or_eq_true]; left
                  rw [List.any_eq_true]
                  exact ⟨x, hme, hov⟩
                have HM := Lib.hid hm; clear hm
                go_wp2
                go_ret
                exact ⟨by rw [HM.out]; rfl, T.drop⟩
          · obtain rfl : j = d.l.length := by omega
            rw [List.take_length] at hno1
            cases hov : decide ((20 : Int) < (d.l.length : Int))
            case false =>
              have ho : overD d = false := by unfold overD; rw [hno1, hov]; rfl
              go_wp2
              go_roundw
              case rel => exact ⟨k + 1, by omega, by go_num, by rw [List.take_add_one, hox, List.any_append, hno]; simp [ho], T⟩
              case measure => simp [intOf]; omega
            case true =>
              have hm : greatB ds = true := by
                unfold greatB
                rw [Bool.or_eq_true]; left
                rw [List.any_eq_true]
                refine ⟨_, hmem, ?_⟩
                unfold overD
                rw [hov, Bool.or_true]
              have HM := Lib.hid hm; clear hm
              go_wp2
              go_ret
              exact ⟨by rw [HM.out]; rfl, T⟩
    · obtain rfl : k = ds.length := by omega
      rw [List.take_length] at hno
      have hm : greatB ds = decide ((7 : Int) < (ds.length : Int)) := by unfold greatB; rw [hno]; rfl
      have HM := Lib.hid hm; clear hm
      go_wp2
      go_ret
      exact ⟨by rw [HM.out]; rfl, T⟩
end Go.Proofs.Ytahajjfbkdocaaa
