/- Layer 24, the document: is a row the first one of its replica's item? -/
import Derived.Test.YtahajjfbkdocaaaAudL
import Derived.Test.YtahajjfbkdocaaaTRRow
import Derived.DataReads
namespace Go.Proofs.Ytahajjfbkdocaaa
open Go.RowKit
set_option linter.unusedVariables false
attribute [local go_sem] row_alloc row_drew row_drewN row_ext row_setCell row_setRow size_ext setRow_alloc setRow_drew loadOf storeOf piece_lit loadVal_at storeVal_at allOne_lit buildOf buildRes_some
attribute [local go_sem high] cell_alloc frozen_alloc setCell_alloc cell_ext frozen_ext cell_setRow frozen_setRow
attribute [local go_sem ↓] TDeed_ld0 TDeed_st0 TDeed_fd0 TDeed_bd0
attribute [local go_sem] TDeed_size TDeed_one TDeed_piece TDeed_c0 TDeed_c1 TDeed_c2 TDeed_c3 TDeed_c4 TDeed_c5 TDeed_set_kind TDeed_set_key TDeed_set_val TDeed_set_ver TDeed_set_ses TDeed_set_num TDeed_ld TDeed_st TDeed_f_kind TDeed_f_key TDeed_f_val TDeed_f_ver TDeed_f_ses TDeed_f_num TDeed_bd TDeed_fl TDeed_fl_kind TDeed_fl_key TDeed_fl_val TDeed_fl_ver TDeed_fl_ses TDeed_fl_num
attribute [local go_sem high] TDeed_eql TDeed_neq
attribute [local go_sem ↓] index_deps0 load_deps0 store_deps0
attribute [local go_sem] DV_piece DV_size DV_one index_deps load_deps store_deps
attribute [local go_sem high] TDeps_eql TDeps_neq
attribute [local go_sem ↓] TCall_ld0 TCall_st0 TCall_fd0 TCall_bd0
attribute [local go_sem] TCall_size TCall_one TCall_piece TCall_c0 TCall_c1 TCall_c2 TCall_c3 TCall_c4 TCall_c5 TCall_c6 TCall_c7 TCall_c8 TCall_c9 TCall_c10 TCall_c11 TCall_c12 TCall_c13 TCall_p_deed TCall_put_deed TCall_p_deps TCall_put_deps TCall_set_seq TCall_ld TCall_st TCall_f_deed TCall_f_deps TCall_f_seq TCall_bd TCall_fl TCall_fl_deed TCall_fl_deps TCall_fl_seq
attribute [local go_sem high] TCall_eql TCall_neq
attribute [local go_sem ↓] TItem_ld0 TItem_st0 TItem_fd0 TItem_bd0
attribute [local go_sem] TItem_size TItem_one TItem_piece TItem_c0 TItem_c1 TItem_set_rep TItem_set_num TItem_ld TItem_st TItem_f_rep TItem_f_num TItem_bd TItem_fl TItem_fl_rep TItem_fl_num
attribute [local go_sem high] TItem_eql TItem_neq
attribute [local go_sem ↓] TBallot_ld0 TBallot_st0 TBallot_fd0 TBallot_bd0
attribute [local go_sem] TBallot_size TBallot_one TBallot_piece TBallot_c0 TBallot_c1 TBallot_set_round TBallot_set_rep TBallot_ld TBallot_st TBallot_f_round TBallot_f_rep TBallot_bd TBallot_fl TBallot_fl_round TBallot_fl_rep
attribute [local go_sem high] TBallot_eql TBallot_neq
attribute [local go_sem ↓] TInst_ld0 TInst_st0 TInst_fd0 TInst_bd0
attribute [local go_sem] TInst_size TInst_one TInst_piece TInst_c0 TInst_c1 TInst_c2 TInst_c3 TInst_c4 TInst_c5 TInst_c6 TInst_c7 TInst_c8 TInst_c9 TInst_c10 TInst_c11 TInst_c12 TInst_c13 TInst_c14 TInst_c15 TInst_c16 TInst_c17 TInst_c18 TInst_c19 TInst_p_prom TInst_put_prom TInst_p_vote TInst_put_vote TInst_set_status TInst_p_call TInst_put_call TInst_set_same TInst_ld TInst_st TInst_f_prom TInst_f_vote TInst_f_status TInst_f_call TInst_f_same TInst_bd TInst_fl TInst_fl_prom TInst_fl_vote TInst_fl_status TInst_fl_call TInst_fl_same
attribute [local go_sem high] TInst_eql TInst_neq
attribute [local go_sem ↓] TRRow_ld0 TRRow_st0 TRRow_fd0 TRRow_bd0
attribute [local go_sem] TRRow_size TRRow_one TRRow_piece TRRow_c0 TRRow_c1 TRRow_c2 TRRow_c3 TRRow_c4 TRRow_c5 TRRow_c6 TRRow_c7 TRRow_c8 TRRow_c9 TRRow_c10 TRRow_c11 TRRow_c12 TRRow_c13 TRRow_c14 TRRow_c15 TRRow_c16 TRRow_c17 TRRow_c18 TRRow_c19 TRRow_c20 TRRow_c21 TRRow_c22 TRRow_set_rep TRRow_p_item TRRow_put_item TRRow_p_inst TRRow_put_inst TRRow_ld TRRow_st TRRow_f_rep TRRow_f_item TRRow_f_inst TRRow_bd TRRow_fl TRRow_fl_rep TRRow_fl_item TRRow_fl_inst
attribute [local go_sem high] TRRow_eql TRRow_neq
attribute [-go_sem] loadOf
section
variable {α : Type} {w W : World} {n : Nat} {V : α → Array Value} {l : List α} {P : Program} {T : TypeId} {d : TypeDesc} {g j : Nat}
/-- A part of a thing of such a slice, loaded whole. -/
theorem RowsIn.part (h : RowsIn w (some ⟨g, 0, none⟩) n V l) (hb : Below w.heap.size w W) (hj : j < l.length) (o m : Nat) (X : Array Value) (hX : ∀ i v, X[i]? = some v → (V l[j])[o + i]? = some v) (hm : X.size = m) (hu : P.underlying T = some d) (hd : d.isRow = true) (hi : (P.info? T).map (·.size) = some m) :
    loadOf P T m W g (j * n + o) = .ok (.agg X) W := by
  rw [← loadVal_at, ← load_val hu hd hi]
  refine loadAt_cells W _ _ (fun i v hv => ?_) hu hd (by rw [hi, hm])
  have hc := h.cell _ rfl j hj (o + i) v (hX i v hv)
  rw [add_none, add_none, Nat.zero_add] at hc
  rw [add_none, Nat.add_assoc]
  exact (hb.cell (World.block_lt_of_cell? w _ hc)).trans hc
/-- A cell of a thing of such a slice. -/
theorem RowsIn.one (h : RowsIn w (some ⟨g, 0, none⟩) n V l) (hb : Below w.heap.size w W) (hj : j < l.length) (o : Nat) (v : Value) (hv : (V l[j])[o]? = some v) : W.cell? ⟨g, j * n + o, none⟩ = some v := by
  have hc := h.cell _ rfl j hj o v hv
  rw [add_none, add_none, Nat.zero_add] at hc
  exact (hb.cell (World.block_lt_of_cell? w _ hc)).trans hc
end
noncomputable def sameRow (a b : RRow) : Bool := a.rep == b.rep && eqA (IV a.item) (IV b.item) && goodI a.item 7
noncomputable def firstB (l : List RRow) (x : RRow) : Bool := !l.any fun r => sameRow r x
set_option maxHeartbeats 4000000 in
theorem first_any (g c : Nat) (l : List RRow) (k : Nat) (hk : k < l.length) (w W : World) (R : List Res) (hx : RowsIn w (some ⟨g, 0, none⟩) 23 RwV l) (T : Sts w (fun _ => False) W R) :
    Calls Try.prog 14 #[.slice (some ⟨g, 0, none⟩) l.length c, .int .i64 k] W fun e W' => e = .returned (.bool (firstB (l.take k) l[k])) ∧ Sts w (fun _ => False) W' R := by
  have hll := hx.len
  have hok : l[k]? = some l[k] := List.getElem?_eq_getElem hk
  have k1 := fun W' (hb : Below w.heap.size w W') => hx.one hb hk 0 (.int .i64 l[k].rep) rfl
  have k2 := fun W' (hb : Below w.heap.size w W') => hx.part (P := Try.prog) (T := 28) hb hk 1 2 (IV l[k].item) (fun i v h => by match i with | 0 => exact h | 1 => exact h | (i + 2) => cases h) rfl TItem_und rfl (by kernel_rfl)
  have K1 := Lib.hid k1; have K2 := Lib.hid k2; clear k1 k2
  generalize l[k] = q at *
  go_enter Try.func14, Try.ntmps14
  go_wp2_with fail
  go_loopw [5] (fun i wr => ∃ j : Nat, j ≤ k ∧ i = .int .i64 j ∧ (l.take j).any (fun r => sameRow r q) = false ∧ Sts w (fun _ => False) wr R) (fun i _ => k - (intOf i).toNat)
  case atStart => exact ⟨0, by omega, rfl, rfl, T⟩
  case round =>
    clear T
    obtain ⟨j, hj0, rfl, hno, T⟩ := hrel
    by_cases hjk : j < k
    · have hjl : j < l.length := by omega
      have f1 := fun x => K1.out (ext wr x) (T.ext x).below
      have f2 := fun x => K2.out (ext wr x) (T.ext x).below
      have f3 := fun x => hx.one (T.ext x).below hjl 0 (.int .i64 l[j].rep) rfl
      have f4 := fun x => hx.part (P := Try.prog) (T := 28) (T.ext x).below hjl 1 2 (IV l[j].item) (fun i v h => by match i with | 0 => exact h | 1 => exact h | (i + 2) => cases h) rfl TItem_und rfl (by kernel_rfl)
      have hmem : l[j] ∈ l.take k := List.mem_take_iff_getElem.2 ⟨j, by omega, rfl⟩
      have hoj : l[j]? = some l[j] := List.getElem?_eq_getElem hjl
      generalize l[j] = p at *
      simp only [Nat.add_zero] at f1 f3
      have cg := ritemGood_any p.item 7
      have hcg := Lib.hid cg; clear cg
      cases h1 : (p.rep == q.rep)
      case false =>
        have hss : sameRow p q = false := by unfold sameRow; simp [h1]
        go_upto_region 4 with fail
        refine wp_region_ext (by kernel_rfl) (by kernel_rfl) ?_
        repeat (go_big_quiet_step (first | (go_at_call 13; exact hcg.out.quiet)))
        refine wpQuiet_nil ?_
        rintro _ ⟨x9, rfl⟩
        have T := T.ext x9
        clear hcg f1 f2 f3 f4
        generalize ext _ x9 = w1 at *
        go_wp2
        go_roundw
        case rel => exact ⟨j + 1, by omega, by go_num, by rw [List.take_add_one, hoj, List.any_append, hno]; simp [hss], T⟩
        case measure => simp [intOf]; omega
      case true =>
        cases h2 : eqA (IV p.item) (IV q.item)
        case false =>
          have hss : sameRow p q = false := by unfold sameRow; simp [h1, h2]
          go_upto_region 4 with fail
          refine wp_region_ext (by kernel_rfl) (by kernel_rfl) ?_
          repeat (go_big_quiet_step (first | (go_at_call 13; exact hcg.out.quiet)))
          refine wpQuiet_nil ?_
          rintro _ ⟨x9, rfl⟩
          have T := T.ext x9
          clear hcg f1 f2 f3 f4
          generalize ext _ x9 = w1 at *
          go_wp2
          go_roundw
          case rel => exact ⟨j + 1, by omega, by go_num, by rw [List.take_add_one, hoj, List.any_append, hno]; simp [hss], T⟩
          case measure => simp [intOf]; omega
        case true =>
          cases h3 : goodI p.item 7
          all_goals rw [h3] at hcg
          case false =>
            have hss : sameRow p q = false := by unfold sameRow; simp [h1, h2, h3]
            go_upto_region 4 with fail
            refine wp_region_ext (by kernel_rfl) (by kernel_rfl) ?_
            repeat (go_big_quiet_step (first | (go_at_call 13; exact hcg.out.quiet)))
            refine wpQuiet_nil ?_
            rintro _ ⟨x9, rfl⟩
            have T := T.ext x9
            clear hcg f1 f2 f3 f4
            generalize ext _ x9 = w1 at *
            go_wp2
            go_roundw
            case rel => exact ⟨j + 1, by omega, by go_num, by rw [List.take_add_one, hoj, List.any_append, hno]; simp [hss], T⟩
            case measure => simp [intOf]; omega
          case true =>
            have hss : sameRow p q = true := by unfold sameRow; simp [h1, h2, h3]
            have hm : firstB (l.take k) q = false := by
              unfold firstB
              rw [Bool.not_eq_false', List.any_eq_true]
              exact ⟨p, hmem, hss⟩
            have HM := Lib.hid hm; clear hm
            go_upto_region 4 with fail
            refine wp_region_ext (by kernel_rfl) (by kernel_rfl) ?_
            repeat (go_big_quiet_step (first | (go_at_call 13; exact hcg.out.quiet)))
            refine wpQuiet_nil ?_
            rintro _ ⟨x9, rfl⟩
            have T := T.ext x9
            clear hcg f1 f2 f3 f4
            generalize ext _ x9 = w1 at *
            go_wp2
            try simp only [Exit.inBlock, Exit.then]
            go_ret
            exact ⟨by rw [HM.out]; rfl, T⟩
    · obtain rfl : j = k := by omega
      have hm : firstB (l.take j) q = true := by unfold firstB; rw [hno]; rfl
      have HM := Lib.hid hm; clear hm
      go_wp2
      try simp only [Exit.inBlock, Exit.then]
      go_ret
      exact ⟨by rw [HM.out]; rfl, T⟩
end Go.Proofs.Ytahajjfbkdocaaa
