/- Several texts in one. -/
import Derived.Test.YtnjgjhjilolanaaH5
import Derived.Test.YtnjgjhjilolanaaH4
import Derived.BigQuiet
import Derived.Deep.RegionHeld3
import Derived.Deep.DeepCutAuto
/- Layer 3: rows of items: what stands at a place. -/
namespace Go.Proofs.Ytnjgjhjilolanaa
open Go.RowKit
set_option linter.unusedVariables false
set_option maxRecDepth 20000
attribute [local go_sem] row_alloc row_drew row_drewN row_ext row_setCell row_setRow size_ext setRow_alloc setRow_drew loadOf storeOf piece_lit loadVal_at storeVal_at allOne_lit buildOf buildRes_some
attribute [local go_sem high] cell_alloc frozen_alloc setCell_alloc cell_ext frozen_ext cell_setRow frozen_setRow
attribute [local go_sem ↓] TDeed_ld0 TDeed_st0 TDeed_fd0 TDeed_bd0
attribute [local go_sem] TDeed_size TDeed_one TDeed_piece TDeed_c0 TDeed_c1 TDeed_c2 TDeed_c3 TDeed_c4 TDeed_c5 TDeed_set_kind TDeed_set_key TDeed_set_val TDeed_set_ver TDeed_set_ses TDeed_set_num TDeed_ld TDeed_st TDeed_f_kind TDeed_f_key TDeed_f_val TDeed_f_ver TDeed_f_ses TDeed_f_num TDeed_bd TDeed_fl TDeed_fl_kind TDeed_fl_key TDeed_fl_val TDeed_fl_ver TDeed_fl_ses TDeed_fl_num
attribute [local go_sem high] TDeed_eql TDeed_neq
attribute [local go_sem ↓] index_deps0 load_deps0 store_deps0
attribute [local go_sem] DV_piece DV_size DV_one index_deps load_deps store_deps
attribute [local go_sem high] TDeps_eql TDeps_neq
attribute [local go_sem ↓] TCall_ld0 TCall_st0 TCall_fd0 TCall_bd0
attribute [local go_sem] TCall_size TCall_one TCall_piece TCall_c0 TCall_c1 TCall_c2 TCall_c3 TCall_c4 TCall_c5 TCall_c6 TCall_c7 TCall_c8 TCall_c9 TCall_c10 TCall_c11 TCall_c12 TCall_c13 TCall_p_deed TCall_put_deed TCall_p_deps TCall_put_deps TCall_set_seq TCall_ld TCall_st TCall_f_deed TCall_f_deps TCall_f_seq TCall_bd TCall_fl TCall_fl_deed TCall_fl_deps TCall_fl_seq
attribute [local go_sem high] TCall_eql TCall_neq
attribute [local go_sem ↓] TItem_ld0 TItem_st0 TItem_fd0 TItem_bd0
attribute [local go_sem] TItem_size TItem_one TItem_piece TItem_c0 TItem_c1 TItem_set_rep TItem_set_num TItem_ld TItem_st TItem_f_rep TItem_f_num TItem_bd TItem_fl TItem_fl_rep TItem_fl_num
attribute [local go_sem high] TItem_eql TItem_neq
attribute [local go_sem] rcells_n
theorem noInst_litK : CV noCall = #[.int .i64 0, .string { data := #[] }, .string { data := #[] }, .int .i64 0, .int .i64 0, .int .i64 0, .int .i64 0, .int .i64 0, .int .i64 0, .int .i64 0, .int .i64 0, .int .i64 0, .int .i64 0, .int .i64 0] := by kernel_rfl
/-- What lies in rows of items. -/
theorem rows_factsK {W : World} {G : Nat → Prop} {g : Nat} {m : RowsMK} (hS : Sat W [rowsIRK g m] G) {k : Nat} (hk : k < 7) : ∃ v h A c B d, v k = .slice A (m.f k).length c ∧ h k = .slice B (m.f k).length d ∧
    row? W g = some (rcells m.n v h) ∧ RowsIn W A 14 CVo (m.f k) ∧ RowsIn W B 1 HVoK (m.f k) ∧ (∀ a, A = some a → ∃ gv, a = ⟨gv, 0, none⟩) ∧ ∀ a, B = some a → ∃ gv, a = ⟨gv, 0, none⟩ := by
  obtain ⟨v, h, T⟩ := (Sts.start hS).rowsOpenK hk
  have hml : (m.f k).length ≤ 9223372036854775807 := by
    rcases T.drop.vec.2 with ⟨-, h⟩ | ⟨g, cap, cur, -, _, hg, hn, hm, _⟩
    · omega
    · unfold maxLen at hm; omega
  obtain ⟨A, c, hv, hA, _, hAa⟩ := vec_rows CVo_sizeK T.drop (by omega) hml
  obtain ⟨B, d, hh, hB, _, hBa⟩ := vec_rows HVo_sizeK T.drop.drop (by omega) hml
  exact ⟨v, h, A, c, B, d, hv, hh, T.row, hA, hB, hAa, hBa⟩
set_option maxHeartbeats 4000000 in
theorem irAtRK (g : Nat) (m : RowsMK) (hn : 0 ≤ m.n ∧ m.n ≤ 7) (x : Item) :
    Reads Try.prog 47 #[.pointer (some ⟨g, 0, none⟩), .agg (IV x)] [rowsIRK g m] (.tuple #[.agg (CV ((getMK m x).getD noCall)), .bool (getMK m x).isSome]) := by
  intro W G hS
  obtain ⟨w3, hw3⟩ : ∃ w3, w3 = ((W.alloc (.cells (IV x) 35)).alloc (.cells (CV noCall) 47)).alloc (.cells (CV noCall) 47) := ⟨_, rfl⟩
  have T := (((Sts.start0 W).new (IV x) 35).new (CV noCall) 47).new (CV noCall) 47
  simp only [World.size_alloc] at T
  rw [← hw3] at T
  rw [noInst_litK] at hw3
  -- result, none, item
  have cg := itemGood_any x m.n
  have hB := T.below
  cases hg : goodI x m.n
  case false =>
    obtain ⟨v, h, A, c, B, d, -, -, hr, -⟩ := rows_factsK hS (k := 0) (by omega)
    have r0 : row? w3 g = some (rcells m.n v h) := (row_below hB (row_lt hr)).trans hr
    have c0 : w3.cell? ⟨g, 0, none⟩ = some (.int .i64 m.n) := row_cell r0 0
    have hm : getMK m x = none := by unfold getMK; rw [hg, if_neg (by simp)]
    rw [hm]
    rw [hg] at cg
    clear hS hr hB hm hg
    go_enter Try.func47, Try.ntmps47
    go_wp2_with fail
    rw [← hw3]
    clear hw3
    generalize W.heap.size + 1 + 1 = g3 at *
    generalize W.heap.size + 1 = g2 at *
    generalize hg1 : W.heap.size = g1 at *
    have r4 := T.row; have r5 := T.row1; have r6 := T.row2
    have l4 := row_lt r4; have l5 := row_lt r5; have l6 := row_lt r6
    have c6 := row_cell r6
    have l0 : g < w3.heap.size := row_lt r0
    refine wp_region_ext (by kernel_rfl) (by kernel_rfl) ?_
    repeat (go_big_quiet_step (first | (go_at_call 66; exact cg.quiet)))
    refine wpQuiet_nil ?_
    rintro _ ⟨x9, rfl⟩
    have T := T.ext x9
    clear r4 r5 r6 l4 l5 l6 c6 c0 l0 r0
    generalize ext _ x9 = w4 at *
    have r4 := T.row; have r5 := T.row1; have l4 := row_lt r4; have l5 := row_lt r5; have c5 := row_cell r5
    go_wp2_with fail
    have T := T.swap.setRow (CV noCall)
    refine ret_row2 (CV noCall) TCall_und rfl (by kernel_rfl) rfl rfl rfl (TCall_size _) T.row ?_
    exact ⟨rfl, hg1 ▸ T.below⟩
  case true =>
    rw [hg] at cg
    have hg2 := hg
    unfold goodI at hg2
    rw [decide_eq_true_iff] at hg2
    obtain ⟨xr, xn⟩ := x
    dsimp only at hg2
    obtain ⟨k, rfl⟩ := Int.eq_ofNat_of_zero_le hg2.1
    obtain ⟨j, rfl⟩ : ∃ j : Nat, xn = (j : Int) + 1 := ⟨(xn - 1).toNat, by omega⟩
    have hk : k < 7 := by omega
    have hgm : getMK m ⟨(k : Int), (j : Int) + 1⟩ = ((m.f k)[j]?).join := by
      unfold getMK
      rw [hg, if_pos rfl]
      have e1 : ((k : Int)).toNat = k := by omega
      have e2 : ((j : Int) + 1).toNat - 1 = j := by omega
      dsimp only
      rw [e1, e2]
    rw [hgm]
    clear hgm hg
    obtain ⟨v, h, A, c, B, d, hv, hh, hr, hA, hBB, hAa, hBa⟩ := rows_factsK hS hk
    have r0 : row? w3 g = some (rcells m.n v h) := (row_below hB (row_lt hr)).trans hr
    have c0 : w3.cell? ⟨g, 0, none⟩ = some (.int .i64 m.n) := row_cell r0 0
    have hcv : w3.cell? ⟨g, 1 + k, none⟩ = some (.slice A (m.f k).length c) := by rw [row_cell r0, rcells_v _ _ _ _ hk, hv]
    have hch : w3.cell? ⟨g, 8 + k, none⟩ = some (.slice B (m.f k).length d) := by rw [row_cell r0, rcells_h _ _ _ _ hk, hh]
    have hj64 : j < 64 := by omega
    clear hS
    cases hoj : (m.f k)[j]? with
    | none =>
      have hjl : ¬ j < (m.f k).length := fun h => by rw [List.getElem?_eq_getElem h] at hoj; cases hoj
      have hdl : decide (((m.f k).length : Int) < (j : Int) + 1) = true := by rw [decide_eq_true_iff]; omega
      clear hr hB hA hBB hAa hBa
      go_enter Try.func47, Try.ntmps47
      go_wp2_with fail
      rw [← hw3]
      clear hw3
      generalize W.heap.size + 1 + 1 = g3 at *
      generalize W.heap.size + 1 = g2 at *
      generalize hg1 : W.heap.size = g1 at *
      have r4 := T.row; have r5 := T.row1; have r6 := T.row2
      have l4 := row_lt r4; have l5 := row_lt r5; have l6 := row_lt r6
      have c6 := row_cell r6
      have l0 : g < w3.heap.size := row_lt r0
      refine wp_region_ext (by kernel_rfl) (by kernel_rfl) ?_
      repeat (go_big_quiet_step (first | (go_at_call 66; exact cg.quiet)))
      refine wpQuiet_nil ?_
      rintro _ ⟨x9, rfl⟩
      have T := T.ext x9
      clear r4 r5 r6 l4 l5 l6 c6 c0 l0 r0 hcv hch
      generalize ext _ x9 = w4 at *
      have r4 := T.row; have r5 := T.row1; have l4 := row_lt r4; have l5 := row_lt r5; have c5 := row_cell r5
      go_wp2_with fail
      have T := T.swap.setRow (CV noCall)
      refine ret_row2 (CV noCall) TCall_und rfl (by kernel_rfl) rfl rfl rfl (TCall_size _) T.row ?_
      exact ⟨rfl, hg1 ▸ T.below⟩
    | some o =>
      have hjl : j < (m.f k).length := (List.getElem?_eq_some_iff.1 hoj).1
      have hdl : decide (((m.f k).length : Int) < (j : Int) + 1) = false := by rw [decide_eq_false_iff_not]; omega
      have hlj : (m.f k)[j] = o := (List.getElem?_eq_some_iff.1 hoj).2
      cases B with
      | none => rw [hBB.nil rfl] at hjl; simp at hjl
      | some b =>
      obtain ⟨gb, rfl⟩ := hBa b rfl
      have hcb : w3.cell? ⟨gb, j, none⟩ = some (.bool o.isSome) := by
        have := hBB.one hB hjl 0 (.bool o.isSome) (by rw [hlj]; rfl)
        rw [Nat.mul_one, Nat.add_zero] at this; exact this
      have hgb := World.block_lt_of_cell? w3 _ hcb
      cases o with
      | none =>
        clear hr hB hA hBB hAa hBa
        simp only [Option.isSome] at hcb
        go_enter Try.func47, Try.ntmps47
        go_wp2_with fail
        rw [← hw3]
        clear hw3
        generalize W.heap.size + 1 + 1 = g3 at *
        generalize W.heap.size + 1 = g2 at *
        generalize hg1 : W.heap.size = g1 at *
        have r4 := T.row; have r5 := T.row1; have r6 := T.row2
        have l4 := row_lt r4; have l5 := row_lt r5; have l6 := row_lt r6
        have c6 := row_cell r6
        have l0 : g < w3.heap.size := row_lt r0
        refine wp_region_ext (by kernel_rfl) (by kernel_rfl) ?_
        repeat (go_big_quiet_step (first | (go_at_call 66; exact cg.quiet)))
        refine wpQuiet_nil ?_
        rintro _ ⟨x9, rfl⟩
        have T := T.ext x9
        clear r4 r5 r6 l4 l5 l6 c6 c0 l0 r0 hcv hch hcb hgb
        generalize ext _ x9 = w4 at *
        have r4 := T.row; have r5 := T.row1; have l4 := row_lt r4; have l5 := row_lt r5; have c5 := row_cell r5
        go_wp2_with fail
        have T := T.swap.setRow (CV noCall)
        refine ret_row2 (CV noCall) TCall_und rfl (by kernel_rfl) rfl rfl rfl (TCall_size _) T.row ?_
        exact ⟨rfl, hg1 ▸ T.below⟩
      | some t =>
        simp only [Option.isSome] at hcb
        have hrg := row_lt hr
        have HR := Lib.hid hr; have HA := Lib.hid hA; have HAa := Lib.hid hAa
        clear hr hB hA hBB hAa hBa
        go_enter Try.func47, Try.ntmps47
        go_wp2_with fail
        rw [← hw3]
        clear hw3
        generalize W.heap.size + 1 + 1 = g3 at *
        generalize W.heap.size + 1 = g2 at *
        generalize hg1 : W.heap.size = g1 at *
        have r4 := T.row; have r5 := T.row1; have r6 := T.row2
        have l4 := row_lt r4; have l5 := row_lt r5; have l6 := row_lt r6
        have c6 := row_cell r6
        have l0 : g < w3.heap.size := row_lt r0
        refine wp_region_ext (by kernel_rfl) (by kernel_rfl) ?_
        repeat (go_big_quiet_step (first | (go_at_call 66; exact cg.quiet)))
        refine wpQuiet_nil ?_
        rintro _ ⟨x9, rfl⟩
        have T := T.ext x9
        clear r4 r5 r6 l4 l5 l6 c6 c0 l0 r0 hcv hch hcb hgb
        generalize ext _ x9 = w4 at *
        have r4 := T.row; have r5 := T.row1; have l4 := row_lt r4; have l5 := row_lt r5
        go_upto_region 4 with fail
        clear r4 l4
        have TE := T.swap
        obtain ⟨S, hSd⟩ : ∃ S : World → Prop, ∀ W', S W' ↔ ∃ Y, Sts W (fun _ => False) W' [rowR g2 Y, rowR g3 (CV noCall), rowR g1 (IV ⟨(k : Int), (j : Int) + 1⟩)] := ⟨_, fun _ => Iff.rfl⟩
        have s0 : S w4.drew := (hSd _).2 ⟨_, TE.drew⟩
        have KS : ∀ W' X, S W' → S (W'.setRow g2 X) := fun W' X h => let ⟨Y, h⟩ := (hSd _).1 h; (hSd _).2 ⟨X, h.setRow X⟩
        have BS : ∀ W', S W' → Below W.heap.size W W' := fun W' h => let ⟨Y, h⟩ := (hSd _).1 h; h.below
        cases A with
        | none => rw [HA.out.nil rfl] at hjl; simp at hjl
        | some a =>
          obtain ⟨gv, rfl⟩ := HAa.out a rfl
          have q1 : ∀ W', S W' → W'.cell? ⟨g, 1 + k, none⟩ = some (.slice (some ⟨gv, 0, none⟩) (m.f k).length c) := fun W' hs => by
            have := (row_below (BS _ hs) (row_lt HR.out)).trans HR.out
            rw [row_cell this, rcells_v _ _ _ _ hk, hv]
          have q2 : ∀ W', S W' → W'.cell? ⟨g1, 0, none⟩ = some (.int .i64 k) := fun W' hs => by
            obtain ⟨Y, h⟩ := (hSd _).1 hs
            exact row_cell h.row2 0
          have q3 : ∀ W', S W' → W'.cell? ⟨g1, 1, none⟩ = some (.int .i64 ((j : Int) + 1)) := fun W' hs => by
            obtain ⟨Y, h⟩ := (hSd _).1 hs
            exact row_cell h.row2 1
          have q4 : ∀ W', S W' → loadVal Try.prog 47 14 W' (.pointer (some ⟨gv, j * 14, none⟩)) = .ok (.agg (CV t)) W' := fun W' hs => by
            have := HA.out.load (P := Try.prog) (T := 47) CVo_sizeK TCall_und rfl (by kernel_rfl) (BS _ hs) rfl hjl
            rw [add_none, Nat.zero_add, hlj] at this
            exact this
          have FS : ∀ W', S W' → S W' ∧ W'.cell? ⟨g1, 0, none⟩ = some (.int .i64 k) ∧ W'.cell? ⟨g1, 1, none⟩ = some (.int .i64 ((j : Int) + 1)) ∧ W'.cell? ⟨g, 1 + k, none⟩ = some (.slice (some ⟨gv, 0, none⟩) (m.f k).length c) ∧ loadVal Try.prog 47 14 W' (.pointer (some ⟨gv, j * 14, none⟩)) = .ok (.agg (CV t)) W' := fun W' h => ⟨h, q2 W' h, q3 W' h, q1 W' h, q4 W' h⟩
          have K2 : ∀ W' X, (S W' ∧ W'.cell? ⟨g1, 0, none⟩ = some (.int .i64 k) ∧ W'.cell? ⟨g1, 1, none⟩ = some (.int .i64 ((j : Int) + 1)) ∧ W'.cell? ⟨g, 1 + k, none⟩ = some (.slice (some ⟨gv, 0, none⟩) (m.f k).length c) ∧ loadVal Try.prog 47 14 W' (.pointer (some ⟨gv, j * 14, none⟩)) = .ok (.agg (CV t)) W') → (S (W'.setRow g2 X) ∧ (W'.setRow g2 X).cell? ⟨g1, 0, none⟩ = some (.int .i64 k) ∧ (W'.setRow g2 X).cell? ⟨g1, 1, none⟩ = some (.int .i64 ((j : Int) + 1)) ∧ (W'.setRow g2 X).cell? ⟨g, 1 + k, none⟩ = some (.slice (some ⟨gv, 0, none⟩) (m.f k).length c) ∧ loadVal Try.prog 47 14 (W'.setRow g2 X) (.pointer (some ⟨gv, j * 14, none⟩)) = .ok (.agg (CV t)) (W'.setRow g2 X)) := fun W' X h => FS _ (KS W' X h.1)
          have S0 := FS _ s0
          have HTE := Lib.hid TE
          clear hSd TE q1 q2 q3 q4 KS FS s0 BS T HA HAa HR
          have hk7 : (k : Int) < 7 := by omega
          have hk0 : ¬ (k : Int) < 0 := by omega
          have hj7 : (j : Int) < ((m.f k).length : Int) := by omega
          have hj0 : (0 : Int) ≤ (j : Int) := by omega
          have hw1 : IntKind.i64.wrap ((j : Int) + 1 - 1) = j := by rw [IntKind.wrap_i64]; omega
          have hw2 : IntKind.i64.wrap (j : Int) = j := by rw [IntKind.wrap_i64]; omega
          go_region_held3 (fun W' => S W' ∧ W'.cell? ⟨g1, 0, none⟩ = some (.int .i64 k) ∧ W'.cell? ⟨g1, 1, none⟩ = some (.int .i64 ((j : Int) + 1)) ∧ W'.cell? ⟨g, 1 + k, none⟩ = some (.slice (some ⟨gv, 0, none⟩) (m.f k).length c) ∧ loadVal Try.prog 47 14 W' (.pointer (some ⟨gv, j * 14, none⟩)) = .ok (.agg (CV t)) W')
            (first | assumption | exact S0 | exact K2 _ _ (by assumption))
            (fail)
          have TF := HTE.out.drew.setRow (CV t)
          clear HTE S0 K2
          simp only [Exit.then]
          go_wp2_with fail
          refine ret_row2 (CV t) TCall_und rfl (by kernel_rfl) rfl rfl rfl (TCall_size _) TF.row ?_
          exact ⟨rfl, hg1 ▸ TF.below⟩
end Go.Proofs.Ytnjgjhjilolanaa
/- Layer 3: rows of items: none as yet; the greatest number. -/
namespace Go.Proofs.Ytnjgjhjilolanaa
open Go.RowKit
set_option linter.unusedVariables false
set_option maxRecDepth 20000
attribute [local go_sem] row_alloc row_drew row_drewN row_ext row_setCell row_setRow size_ext setRow_alloc setRow_drew loadOf storeOf piece_lit loadVal_at storeVal_at allOne_lit buildOf buildRes_some
attribute [local go_sem high] cell_alloc frozen_alloc setCell_alloc cell_ext frozen_ext cell_setRow frozen_setRow
attribute [local go_sem ↓] TDeed_ld0 TDeed_st0 TDeed_fd0 TDeed_bd0
attribute [local go_sem] TDeed_size TDeed_one TDeed_piece TDeed_c0 TDeed_c1 TDeed_c2 TDeed_c3 TDeed_c4 TDeed_c5 TDeed_set_kind TDeed_set_key TDeed_set_val TDeed_set_ver TDeed_set_ses TDeed_set_num TDeed_ld TDeed_st TDeed_f_kind TDeed_f_key TDeed_f_val TDeed_f_ver TDeed_f_ses TDeed_f_num TDeed_bd TDeed_fl TDeed_fl_kind TDeed_fl_key TDeed_fl_val TDeed_fl_ver TDeed_fl_ses TDeed_fl_num
attribute [local go_sem high] TDeed_eql TDeed_neq
attribute [local go_sem ↓] index_deps0 load_deps0 store_deps0
attribute [local go_sem] DV_piece DV_size DV_one index_deps load_deps store_deps
attribute [local go_sem high] TDeps_eql TDeps_neq
attribute [local go_sem ↓] TCall_ld0 TCall_st0 TCall_fd0 TCall_bd0
attribute [local go_sem] TCall_size TCall_one TCall_piece TCall_c0 TCall_c1 TCall_c2 TCall_c3 TCall_c4 TCall_c5 TCall_c6 TCall_c7 TCall_c8 TCall_c9 TCall_c10 TCall_c11 TCall_c12 TCall_c13 TCall_p_deed TCall_put_deed TCall_p_deps TCall_put_deps TCall_set_seq TCall_ld TCall_st TCall_f_deed TCall_f_deps TCall_f_seq TCall_bd TCall_fl TCall_fl_deed TCall_fl_deps TCall_fl_seq
attribute [local go_sem high] TCall_eql TCall_neq
attribute [local go_sem ↓] TItem_ld0 TItem_st0 TItem_fd0 TItem_bd0
attribute [local go_sem] TItem_size TItem_one TItem_piece TItem_c0 TItem_c1 TItem_set_rep TItem_set_num TItem_ld TItem_st TItem_f_rep TItem_f_num TItem_bd TItem_fl TItem_fl_rep TItem_fl_num
attribute [local go_sem high] TItem_eql TItem_neq
attribute [local go_sem] rcells_n
theorem pairs_nilK {w W : World} {F : Nat → Prop} : ∀ (ks : List Nat) {R : List Res}, Sts w F W R → Sts w F W (ks.map (pairRK (fun _ => []) (fun _ => .slice none 0 0) (fun _ => .slice none 0 0)) ++ R)
  | [], R, T => T
  | k :: ks, R, T => ((pairs_nilK ks T).vecNil 4 1 |>.vecNil 47 14).join
set_option maxHeartbeats 4000000 in
theorem irNewTK (n : Int) (hn : -9223372036854775808 ≤ n ∧ n ≤ 9223372036854775807) {w W : World} {F : Nat → Prop} {R : List Res} (T : Sts w F W R) :
    Calls Try.prog 62 #[.int .i64 n] W fun e W' => e = .returned (.pointer (some ⟨W.heap.size, 0, none⟩)) ∧ Sts w F W' (rowsIRK W.heap.size ⟨newN n, fun _ => []⟩ :: R) := by
  have TN := T.new (rcells (newN n) (fun _ => .slice none 0 0) (fun _ => .slice none 0 0)) 113
  have TR : Sts w F (W.alloc (.cells (rcells (newN n) (fun _ => .slice none 0 0) (fun _ => .slice none 0 0)) 113)) (rowsIRK W.heap.size ⟨newN n, fun _ => []⟩ :: R) := by
    have T1 := pairs_nilK (List.range 7) TN
    have T2 := T1.perm List.perm_middle
    exact (Sts.pack (L := rowR W.heap.size (rcells (newN n) (fun _ => .slice none 0 0) (fun _ => .slice none 0 0)) :: (List.range 7).map (pairRK (fun _ => []) (fun _ => .slice none 0 0) (fun _ => .slice none 0 0))) T2).close ((fun _ => .slice none 0 0), (fun _ => .slice none 0 0))
  have HR := Lib.hid TR; clear TN TR T
  by_cases h0 : n < 0
  · have e : newN n = 0 := by unfold newN; rw [if_pos h0]
    rw [e] at HR ⊢
    go_enter Try.func62, Try.ntmps62
    go_wp2
    go_ret
    exact ⟨rfl, HR.out⟩
  · by_cases h7 : 7 < n
    · have e : newN n = 7 := by unfold newN; rw [if_neg h0, if_pos h7]
      rw [e] at HR ⊢
      go_enter Try.func62, Try.ntmps62
      go_wp2
      go_ret
      exact ⟨rfl, HR.out⟩
    · have e : newN n = n := by unfold newN; rw [if_neg h0, if_neg h7]
      rw [e] at HR ⊢
      go_enter Try.func62, Try.ntmps62
      go_wp2
      go_ret
      exact ⟨rfl, HR.out⟩
end Go.Proofs.Ytnjgjhjilolanaa
