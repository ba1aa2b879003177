/- Several texts in one. -/
import Derived.Test.YtnjgjhjilolanaaH7
import Derived.Test.YtnjgjhjilolanaaH4
import Derived.BigQuiet
import Derived.Deep.RegionHeld3
import Derived.Deep.DeepCutAuto
import Derived.Test.YtnjgjhjilolanaaH5
import Derived.Deep.LoopGhost
/- Layer 3: rows of bits by items: what stands at a place. -/
namespace Go.Proofs.Ytnjgjhjilolanaa
open Go.RowKit
set_option linter.unusedVariables false
set_option maxRecDepth 20000
attribute [local go_sem] row_alloc row_drew row_drewN row_ext row_setCell row_setRow size_ext setRow_alloc setRow_drew loadOf storeOf piece_lit loadVal_at storeVal_at allOne_lit buildOf buildRes_some
attribute [local go_sem high] cell_alloc frozen_alloc setCell_alloc cell_ext frozen_ext cell_setRow frozen_setRow
attribute [local go_sem ↓] TItem_ld0 TItem_st0 TItem_fd0 TItem_bd0
attribute [local go_sem] TItem_size TItem_one TItem_piece TItem_c0 TItem_c1 TItem_set_rep TItem_set_num TItem_ld TItem_st TItem_f_rep TItem_f_num TItem_bd TItem_fl TItem_fl_rep TItem_fl_num
attribute [local go_sem high] TItem_eql TItem_neq
attribute [local go_sem] rcells_n
theorem rows_factsL {W : World} {G : Nat → Prop} {g : Nat} {m : RowsML} (hS : Sat W [rowsIRL g m] G) {k : Nat} (hk : k < 7) : ∃ v h A c B d, v k = .slice A (m.f k).length c ∧ h k = .slice B (m.f k).length d ∧
    row? W g = some (rcells m.n v h) ∧ RowsIn W A 1 BVo (m.f k) ∧ RowsIn W B 1 HVoL (m.f k) ∧ (∀ a, A = some a → ∃ gv, a = ⟨gv, 0, none⟩) ∧ ∀ a, B = some a → ∃ gv, a = ⟨gv, 0, none⟩ := by
  obtain ⟨v, h, T⟩ := (Sts.start hS).rowsOpenL hk
  have hml : (m.f k).length ≤ 9223372036854775807 := by
    rcases T.drop.vec.2 with ⟨-, h⟩ | ⟨g, cap, cur, -, _, hg, hn, hm, _⟩
    · omega
    · unfold maxLen at hm; omega
  obtain ⟨A, c, hv, hA, _, hAa⟩ := vec_rows BVo_sizeL T.drop (by omega) hml
  obtain ⟨B, d, hh, hB, _, hBa⟩ := vec_rows HVo_sizeL T.drop.drop (by omega) hml
  exact ⟨v, h, A, c, B, d, hv, hh, T.row, hA, hB, hAa, hBa⟩
set_option maxHeartbeats 4000000 in
theorem irAtRL (g : Nat) (m : RowsML) (hn : 0 ≤ m.n ∧ m.n ≤ 7) (x : Item) :
    Reads Try.prog 45 #[.pointer (some ⟨g, 0, none⟩), .agg (IV x)] [rowsIRL g m] (.tuple #[.bool ((getML m x).getD false), .bool (getML m x).isSome]) := by
  intro W G hS
  have T := (Sts.start0 W).new (IV x) 35
  have cg := itemGood_any x m.n
  have hB := T.below
  cases hg : goodI x m.n
  case false =>
    obtain ⟨v, h, A, c, B, d, -, -, hr, -⟩ := rows_factsL hS (k := 0) (by omega)
    have r0 := (row_below hB (row_lt hr)).trans hr
    have c0 := row_cell r0 0
    have hm : getML m x = none := by unfold getML; rw [hg, if_neg (by simp)]
    rw [hm]
    rw [hg] at cg
    clear hS hr hB hm hg
    go_enter Try.func45, Try.ntmps45
    go_wp2_with fail
    generalize hw3 : W.alloc _ = w3 at *
    clear hw3
    generalize hg1 : W.heap.size = g1 at *
    have r6 := T.row
    have l6 := row_lt r6
    have c6 := row_cell r6
    have l0 : g < w3.heap.size := row_lt r0
    refine wp_region_ext (by kernel_rfl) (by kernel_rfl) ?_
    repeat (go_big_quiet_step (first | (go_at_call 66; exact cg.quiet)))
    refine wpQuiet_nil ?_
    rintro _ ⟨x9, rfl⟩
    have T := T.ext x9
    clear r6 l6 c6 c0 l0 r0
    generalize ext _ x9 = w4 at *
    have HT := Lib.hid T; clear T
    go_wp2
    go_ret2
    exact ⟨rfl, hg1 ▸ HT.out.below⟩
  case true =>
    rw [hg] at cg
    have hg2 := hg
    unfold goodI at hg2
    rw [decide_eq_true_iff] at hg2
    obtain ⟨xr, xn⟩ := x
    dsimp only at hg2
    obtain ⟨k, rfl⟩ := Int.eq_ofNat_of_zero_le hg2.1
    obtain ⟨j, rfl⟩ : ∃ j : Nat, xn = (j : Int) + 1 := ⟨(xn - 1).toNat, by omega⟩
    have hk : k < 7 := by omega
    have hgm : getML m ⟨(k : Int), (j : Int) + 1⟩ = ((m.f k)[j]?).join := by
      unfold getML
      rw [hg, if_pos rfl]
      have e1 : ((k : Int)).toNat = k := by omega
      have e2 : ((j : Int) + 1).toNat - 1 = j := by omega
      dsimp only
      rw [e1, e2]
    rw [hgm]
    clear hgm hg
    obtain ⟨v, h, A, c, B, d, hv, hh, hr, hA, hBB, hAa, hBa⟩ := rows_factsL hS hk
    have r0 := (row_below hB (row_lt hr)).trans hr
    have c0 := row_cell r0 0
    have hcv := row_cell r0 (1 + k)
    rw [rcells_v _ _ _ _ hk, hv] at hcv
    have hch := row_cell r0 (8 + k)
    rw [rcells_h _ _ _ _ hk, hh] at hch
    have hj64 : j < 64 := by omega
    clear hS
    cases hoj : (m.f k)[j]? with
    | none =>
      have hjl : ¬ j < (m.f k).length := fun h => by rw [List.getElem?_eq_getElem h] at hoj; cases hoj
      have hdl : decide (((m.f k).length : Int) < (j : Int) + 1) = true := by rw [decide_eq_true_iff]; omega
      clear hr hB hA hBB hAa hBa
      go_enter Try.func45, Try.ntmps45
      go_wp2_with fail
      generalize hw3 : W.alloc _ = w3 at *
      clear hw3
      generalize hg1 : W.heap.size = g1 at *
      have r6 := T.row
      have l6 := row_lt r6
      have c6 := row_cell r6
      have l0 : g < w3.heap.size := row_lt r0
      refine wp_region_ext (by kernel_rfl) (by kernel_rfl) ?_
      repeat (go_big_quiet_step (first | (go_at_call 66; exact cg.quiet)))
      refine wpQuiet_nil ?_
      rintro _ ⟨x9, rfl⟩
      have T := T.ext x9
      clear r6 l6 c6 c0 l0 r0 hcv hch
      generalize ext _ x9 = w4 at *
      have HT := Lib.hid T; clear T
      go_wp2
      go_ret2
      exact ⟨rfl, hg1 ▸ HT.out.below⟩
    | some o =>
      have hjl : j < (m.f k).length := (List.getElem?_eq_some_iff.1 hoj).1
      have hdl : decide (((m.f k).length : Int) < (j : Int) + 1) = false := by rw [decide_eq_false_iff_not]; omega
      have hlj : (m.f k)[j] = o := (List.getElem?_eq_some_iff.1 hoj).2
      cases B with
      | none => rw [hBB.nil rfl] at hjl; simp at hjl
      | some b =>
      cases A with
      | none => rw [hA.nil rfl] at hjl; simp at hjl
      | some a =>
      obtain ⟨gb, rfl⟩ := hBa b rfl
      obtain ⟨gv, rfl⟩ := hAa a rfl
      have hcb := hBB.one hB hjl 0 (.bool o.isSome) (by rw [hlj]; rfl)
      rw [Nat.mul_one, Nat.add_zero] at hcb
      have hca := hA.one hB hjl 0 (.bool (o.getD false)) (by rw [hlj]; rfl)
      rw [Nat.mul_one, Nat.add_zero] at hca
      have hgb := World.block_lt_of_cell? _ _ hcb
      have hga := World.block_lt_of_cell? _ _ hca
      cases o with
      | none =>
        clear hr hB hA hBB hAa hBa hca hga
        simp only [Option.isSome] at hcb
        go_enter Try.func45, Try.ntmps45
        go_wp2_with fail
        generalize hw3 : W.alloc _ = w3 at *
        clear hw3
        generalize hg1 : W.heap.size = g1 at *
        have r6 := T.row
        have l6 := row_lt r6
        have c6 := row_cell r6
        have l0 : g < w3.heap.size := row_lt r0
        refine wp_region_ext (by kernel_rfl) (by kernel_rfl) ?_
        repeat (go_big_quiet_step (first | (go_at_call 66; exact cg.quiet)))
        refine wpQuiet_nil ?_
        rintro _ ⟨x9, rfl⟩
        have T := T.ext x9
        clear r6 l6 c6 c0 l0 r0 hcv hch hcb hgb
        generalize ext _ x9 = w4 at *
        have HT := Lib.hid T; clear T
        go_wp2
        go_ret2
        exact ⟨rfl, hg1 ▸ HT.out.below⟩
      | some t =>
        simp only [Option.isSome] at hcb
        simp only [Option.getD] at hca
        clear hr hB hA hBB hAa hBa
        go_enter Try.func45, Try.ntmps45
        go_wp2_with fail
        generalize hw3 : W.alloc _ = w3 at *
        clear hw3
        generalize hg1 : W.heap.size = g1 at *
        have r6 := T.row
        have l6 := row_lt r6
        have c6 := row_cell r6
        have l0 : g < w3.heap.size := row_lt r0
        refine wp_region_ext (by kernel_rfl) (by kernel_rfl) ?_
        repeat (go_big_quiet_step (first | (go_at_call 66; exact cg.quiet)))
        refine wpQuiet_nil ?_
        rintro _ ⟨x9, rfl⟩
        have T := T.ext x9
        have hk7 : (k : Int) < 7 := by omega
        have hk0 : ¬ (k : Int) < 0 := by omega
        have hj7 : (j : Int) < ((m.f k).length : Int) := by omega
        have hj0 : (0 : Int) ≤ (j : Int) := by omega
        have hw1 : IntKind.i64.wrap ((j : Int) + 1 - 1) = j := by rw [IntKind.wrap_i64]; omega
        have hw2 : IntKind.i64.wrap (j : Int) = j := by rw [IntKind.wrap_i64]; omega
        go_upto_region 4 with fail
        refine wp_region_ext (by kernel_rfl) (by kernel_rfl) ?_
        repeat (go_big_quiet_step (fail))
        refine wpQuiet_nil ?_
        rintro _ ⟨x8, rfl⟩
        have T := T.ext x8
        have HT := Lib.hid T; clear T
        go_wp2
        go_ret2
        exact ⟨rfl, hg1 ▸ HT.out.below⟩
end Go.Proofs.Ytnjgjhjilolanaa
/- Layer 3: rows of items: none as yet; the greatest number. -/
namespace Go.Proofs.Ytnjgjhjilolanaa
open Go.RowKit
set_option linter.unusedVariables false
set_option maxRecDepth 20000
attribute [local go_sem] row_alloc row_drew row_drewN row_ext row_setCell row_setRow size_ext setRow_alloc setRow_drew loadOf storeOf piece_lit loadVal_at storeVal_at allOne_lit buildOf buildRes_some
attribute [local go_sem high] cell_alloc frozen_alloc setCell_alloc cell_ext frozen_ext cell_setRow frozen_setRow
attribute [local go_sem ↓] TItem_ld0 TItem_st0 TItem_fd0 TItem_bd0
attribute [local go_sem] TItem_size TItem_one TItem_piece TItem_c0 TItem_c1 TItem_set_rep TItem_set_num TItem_ld TItem_st TItem_f_rep TItem_f_num TItem_bd TItem_fl TItem_fl_rep TItem_fl_num
attribute [local go_sem high] TItem_eql TItem_neq
attribute [local go_sem] rcells_n
theorem pairs_nilL {w W : World} {F : Nat → Prop} : ∀ (ks : List Nat) {R : List Res}, Sts w F W R → Sts w F W (ks.map (pairRL (fun _ => []) (fun _ => .slice none 0 0) (fun _ => .slice none 0 0)) ++ R)
  | [], R, T => T
  | k :: ks, R, T => ((pairs_nilL ks T).vecNil 4 1 |>.vecNil 4 1).join
set_option maxHeartbeats 4000000 in
theorem irNewTL (n : Int) (hn : -9223372036854775808 ≤ n ∧ n ≤ 9223372036854775807) {w W : World} {F : Nat → Prop} {R : List Res} (T : Sts w F W R) :
    Calls Try.prog 63 #[.int .i64 n] W fun e W' => e = .returned (.pointer (some ⟨W.heap.size, 0, none⟩)) ∧ Sts w F W' (rowsIRL W.heap.size ⟨newN n, fun _ => []⟩ :: R) := by
  have TN := T.new (rcells (newN n) (fun _ => .slice none 0 0) (fun _ => .slice none 0 0)) 110
  have TR : Sts w F (W.alloc (.cells (rcells (newN n) (fun _ => .slice none 0 0) (fun _ => .slice none 0 0)) 110)) (rowsIRL W.heap.size ⟨newN n, fun _ => []⟩ :: R) := by
    have T1 := pairs_nilL (List.range 7) TN
    have T2 := T1.perm List.perm_middle
    exact (Sts.pack (L := rowR W.heap.size (rcells (newN n) (fun _ => .slice none 0 0) (fun _ => .slice none 0 0)) :: (List.range 7).map (pairRL (fun _ => []) (fun _ => .slice none 0 0) (fun _ => .slice none 0 0))) T2).close ((fun _ => .slice none 0 0), (fun _ => .slice none 0 0))
  have HR := Lib.hid TR; clear TN TR T
  by_cases h0 : n < 0
  · have e : newN n = 0 := by unfold newN; rw [if_pos h0]
    rw [e] at HR ⊢
    go_enter Try.func63, Try.ntmps63
    go_wp2
    go_ret
    exact ⟨rfl, HR.out⟩
  · by_cases h7 : 7 < n
    · have e : newN n = 7 := by unfold newN; rw [if_neg h0, if_pos h7]
      rw [e] at HR ⊢
      go_enter Try.func63, Try.ntmps63
      go_wp2
      go_ret
      exact ⟨rfl, HR.out⟩
    · have e : newN n = n := by unfold newN; rw [if_neg h0, if_neg h7]
      rw [e] at HR ⊢
      go_enter Try.func63, Try.ntmps63
      go_wp2
      go_ret
      exact ⟨rfl, HR.out⟩
end Go.Proofs.Ytnjgjhjilolanaa
/- Layer 3: rows of items: a thing at a place. -/
namespace Go.Proofs.Ytnjgjhjilolanaa
open Go.RowKit
set_option linter.unusedVariables false
set_option maxRecDepth 20000
attribute [local go_sem] row_alloc row_drew row_drewN row_ext row_setCell row_setRow size_ext setRow_alloc setRow_drew loadOf storeOf piece_lit loadVal_at storeVal_at allOne_lit buildOf buildRes_some
attribute [local go_sem high] cell_alloc frozen_alloc setCell_alloc cell_ext frozen_ext cell_setRow frozen_setRow
attribute [local go_sem ↓] TItem_ld0 TItem_st0 TItem_fd0 TItem_bd0
attribute [local go_sem] TItem_size TItem_one TItem_piece TItem_c0 TItem_c1 TItem_set_rep TItem_set_num TItem_ld TItem_st TItem_f_rep TItem_f_num TItem_bd TItem_fl TItem_fl_rep TItem_fl_num
attribute [local go_sem high] TItem_eql TItem_neq
attribute [local go_sem] rcells_n
theorem set_shutL {w W : World} {F : Nat → Prop} {R : List Res} {g k : Nat} {nn : Int} {f : Nat → List (Option Bool)} {l : List (Option Bool)} {v h : Nat → Value} {x y : Value} (hk : k < 7)
    (T : Sts w F W (rowR g (rcells nn (updF v k x) (updF h k y)) :: vecR 4 1 x (l.length + 1) (vl BVo l ++ [Value.bool false]) :: vecR 4 1 y (l.length + 1) (vl HVoL l ++ [Value.bool false]) :: othersRL (updF f k l) v h k :: R)) :
    Sts w F W (rowsIRL g { n := nn, f := updF f k (l ++ [none]) } :: R) := by
  have eo : othersRL (updF f k l) v h k = othersRL (updF f k (l ++ [none])) (updF v k x) (updF h k y) k := by
    unfold othersRL
    congr 1
    refine row_others fun i hi => ?_
    unfold pairRL
    rw [updF_other _ _ hi, updF_other _ _ hi, updF_other _ _ hi, updF_other _ _ hi]
  rw [eo] at T
  refine Sts.rowsShutL (m := ⟨nn, updF f k (l ++ [none])⟩) (v := updF v k x) (h := updF h k y) hk ?_
  unfold instsRL bitsRL
  dsimp only
  rw [updF_same, updF_same, updF_same, vl_snoc, vl_snoc, List.length_append]
  exact T
set_option maxHeartbeats 4000000 in
theorem irSetDL (g : Nat) (m : RowsML) (hn : 0 ≤ m.n ∧ m.n ≤ 7) (x : Item) (t : Bool) :
    Does Try.prog 46 #[.pointer (some ⟨g, 0, none⟩), .agg (IV x), .bool t] [rowsIRL g m] (.bool (goodI x m.n)) [rowsIRL g (setML m x t)] := by
  intro W G hS
  have T := ((Sts.start hS).new (IV x) 35).swap
  clear hS
  have cg := itemGood_any x m.n
  cases hg : goodI x m.n
  case false =>
    have hsm : setML m x t = m := by unfold setML; rw [hg, if_neg (by simp)]
    rw [hsm]
    rw [hg] at cg
    clear hsm hg
    go_enter Try.func46, Try.ntmps46
    go_wp2_with fail
    generalize W.alloc _ = w3 at *
    generalize W.heap.size = g1 at *
    have r1 := T.row1; have l1 := row_lt r1; have c1 := row_cell r1
    obtain ⟨v, h, TO⟩ := T.rowsOpenL (k := 0) (by omega)
    have c0 : w3.cell? ⟨g, 0, none⟩ = some (.int .i64 m.n) := row_cell TO.row 0
    have l0 := row_lt TO.row
    clear TO
    refine wp_region_ext (by kernel_rfl) (by kernel_rfl) ?_
    repeat (go_big_quiet_step (first | (go_at_call 66; exact cg.quiet)))
    refine wpQuiet_nil ?_
    rintro _ ⟨x9, rfl⟩
    have T := T.ext x9
    clear r1 l1 c1 c0 l0
    generalize ext _ x9 = w4 at *
    go_wp2
    go_ret
    exact ⟨rfl, T.swap.drop⟩
  case true =>
    rw [hg] at cg
    have hg2 := hg
    unfold goodI at hg2
    rw [decide_eq_true_iff] at hg2
    obtain ⟨xr, xn⟩ := x
    dsimp only at hg2
    obtain ⟨k, rfl⟩ := Int.eq_ofNat_of_zero_le hg2.1
    obtain ⟨j, rfl⟩ : ∃ j : Nat, xn = (j : Int) + 1 := ⟨(xn - 1).toNat, by omega⟩
    have hk : k < 7 := by omega
    have hk7 : (k : Int) < 7 := by omega
    have hj64 : j < 64 := by omega
    have hsm : setML m ⟨(k : Int), (j : Int) + 1⟩ t = { m with f := updF m.f k (putLL (m.f k) j t) } := by
      unfold setML
      rw [hg, if_pos rfl]
      have e1 : ((k : Int)).toNat = k := by omega
      have e2 : ((j : Int) + 1).toNat - 1 = j := by omega
      dsimp only
      rw [e1, e2]
    rw [hsm]
    clear hsm hg
    go_enter Try.func46, Try.ntmps46
    go_wp2_with fail
    generalize W.alloc _ = w3 at *
    generalize W.heap.size = g1 at *
    have r1 := T.row1; have l1 := row_lt r1; have c1 := row_cell r1
    obtain ⟨v, h, TO⟩ := T.rowsOpenL hk
    have c0 : w3.cell? ⟨g, 0, none⟩ = some (.int .i64 m.n) := row_cell TO.row 0
    have l0 := row_lt TO.row
    clear TO
    refine wp_region_ext (by kernel_rfl) (by kernel_rfl) ?_
    repeat (go_big_quiet_step (first | (go_at_call 66; exact cg.quiet)))
    refine wpQuiet_nil ?_
    rintro _ ⟨x9, rfl⟩
    have T := T.ext x9
    clear r1 l1 c1 c0 l0
    generalize ext _ x9 = w4 at *
    go_wp2_with fail
    go_loopg [] (j + 1 - (m.f k).length) (fun gk wr => ∃ l : List (Option Bool), (∃ p, l = m.f k ++ List.replicate p none ∧ (p = 0 ∨ l.length ≤ j + 1)) ∧ gk = j + 1 - l.length ∧ Sts W G wr (rowsIRL g { m with f := updF m.f k l } :: rowR g1 (IV ⟨(k : Int), (j : Int) + 1⟩) :: []))
    case atStart =>
      refine ⟨m.f k, ⟨0, by simp, .inl rfl⟩, rfl, ?_⟩
      have e : updF m.f k (m.f k) = m.f := funext fun i => by unfold updF; split <;> simp_all
      rw [e]
      exact T
    case round =>
      clear T
      obtain ⟨l, hl, rfl, T⟩ := hrel
      have HL := Lib.hid hl; clear hl
      obtain ⟨v, h, T⟩ := T.rowsOpenL hk
      dsimp only at T
      rw [updF_same] at T
      obtain ⟨A, c, hv⟩ := vec_shape2 T.drop
      obtain ⟨B, d, hh⟩ := vec_shape2 T.drop.drop
      have hcv : wr.cell? ⟨g, 1 + k, none⟩ = some (.slice A l.length c) := by rw [row_cell T.row, rcells_v _ _ _ _ hk, hv]
      have hch : wr.cell? ⟨g, 8 + k, none⟩ = some (.slice B l.length d) := by rw [row_cell T.row, rcells_h _ _ _ _ hk, hh]
      have r0 := T.row; have r1 := T.drop.drop.row2; have l0 := row_lt r0; have l1 := row_lt r1; have c1 := row_cell r1
      by_cases hlj : l.length < j + 1
      · have hgd : decide ((l.length : Int) < (j : Int) + 1) = true := by rw [decide_eq_true_iff]; omega
        go_wp2_with fail
        refine wp_region_ext (by kernel_rfl) (by kernel_rfl) ?_
        repeat (go_big_quiet_step (fail))
        refine wpQuiet_nil ?_
        rintro _ ⟨x9, rfl⟩
        have T := T.ext x9
        clear hcv hch r0 r1 l0 l1 c1
        generalize ext _ x9 = w5 at *
        go_wp2_with fail
        generalize hw6 : w5 = w6 at *
        clear hw6
        obtain ⟨L0, hL0⟩ : ∃ L0, L0 = [rowR g (rcells m.n v h), rowR g1 (IV ⟨(k : Int), (j : Int) + 1⟩), othersRL (updF m.f k l) v h k] := ⟨_, rfl⟩
        have T0 : Sts W G w6 (instsRL (v k) l :: bitsRL (h k) l :: L0) := by
          rw [hL0]
          exact T.ord [1, 2, 0, 4, 3]
        have FS : ∀ W' a b, Sts W G W' (a :: b :: L0) → (W'.cell? ⟨g1, 0, none⟩ = some (.int .i64 k) ∧ W'.cell? ⟨g, 1 + k, none⟩ = some (.slice A l.length c) ∧ W'.cell? ⟨g, 8 + k, none⟩ = some (.slice B l.length d)) := fun W' a b T => by
          rw [hL0] at T
          exact ⟨row_cell T.row3 0, by rw [row_cell T.row2, rcells_v _ _ _ _ hk, hv], by rw [row_cell T.row2, rcells_h _ _ _ _ hk, hh]⟩
        have S0 := FS _ _ _ T0.drew
        have HFS := Lib.hid FS
        have HL0 := Lib.hid hL0
        have HT0 := Lib.hid T0
        clear FS hL0 T0 T
        have hk0 : ¬ (k : Int) < 0 := by omega
        have hm : ∀ W' : World, (W'.cell? ⟨g1, 0, none⟩ = some (.int .i64 k) ∧ W'.cell? ⟨g, 1 + k, none⟩ = some (.slice A l.length c) ∧ W'.cell? ⟨g, 8 + k, none⟩ = some (.slice B l.length d)) → (W'.cell? ⟨g1, 0, none⟩ = some (.int .i64 k)) := fun W' h => h.1
        have HM := Lib.hid hm
        have h63 : l.length + 1 ≤ maxLen := by unfold maxLen; omega
        have hbb : (l.length + 1) * 1 ≤ 140737488355328 := by omega
        have honb : ∀ u ∈ [Value.bool false], u.oneCell' = true := by simp [Value.oneCell']
        have HOB := Lib.hid honb
        clear hm honb
        refine wp_region_stage (fun W' : World => (W'.cell? ⟨g1, 0, none⟩ = some (.int .i64 k) ∧ W'.cell? ⟨g, 1 + k, none⟩ = some (.slice A l.length c) ∧ W'.cell? ⟨g, 8 + k, none⟩ = some (.slice B l.length d))) (fun W' : World => W'.cell? ⟨g1, 0, none⟩ = some (.int .i64 k)) 28 (by kernel_rfl) S0 (fun hHeld => ?_)
        clear S0
        refine tk0 0 rfl ?_
        simp only [Act.put, List.setIfInBounds_toArray, List.set_cons_zero, List.set_cons_succ]
        refine tk0 1 rfl ?_
        go_frame
        refine tk0 2 rfl ?_
        go_frame
        refine tk1 3 HM.out rfl ?_
        simp only [Act.put, List.setIfInBounds_toArray, List.set_cons_zero, List.set_cons_succ]
        refine tk1 4 HM.out rfl ?_
        go_frame
        refine tk1 5 HM.out rfl ?_
        go_frame
        refine tk0 6 rfl ?_
        simp only [Act.put, List.setIfInBounds_toArray, List.set_cons_zero, List.set_cons_succ]
        refine tk0 7 rfl ?_
        go_frame
        refine tk0 8 rfl ?_
        go_frame
        refine tk0 9 rfl ?_
        go_frame
        refine tk0 10 rfl ?_
        go_frame
        refine tk0 11 rfl ?_
        go_frame
        refine tk0 12 rfl ?_
        go_frame
        refine tk0 13 rfl ?_
        go_frame
        refine tk1 16 HM.out rfl ?_
        simp only [Act.put, List.setIfInBounds_toArray, List.set_cons_zero, List.set_cons_succ]
        refine tk1 17 HM.out rfl ?_
        go_frame
        refine tk1 18 HM.out rfl ?_
        go_frame
        refine tk1 19 HM.out rfl ?_
        go_frame
        refine tk1 20 HM.out rfl ?_
        go_frame
        refine tk1 21 HM.out rfl ?_
        go_frame
        refine tk0 22 rfl ?_
        simp only [Act.put, List.setIfInBounds_toArray, List.set_cons_zero, List.set_cons_succ]
        refine tk1 25 HM.out rfl ?_
        simp only [Act.put, List.setIfInBounds_toArray, List.set_cons_zero, List.set_cons_succ]
        refine tk1 26 HM.out rfl ?_
        go_frame
        refine tk1 29 HM.out rfl ?_
        simp only [Act.put, List.setIfInBounds_toArray, List.set_cons_zero, List.set_cons_succ]
        refine tk1 30 HM.out rfl ?_
        go_frame
        obtain ⟨i1, hi1, hy0, hy1, hy2⟩ := bool_i
        have T0 : Sts W G w6 (vecR 4 1 (.slice A l.length c) l.length (vl BVo l) :: vecR 4 1 (.slice B l.length d) l.length (vl HVoL l) :: L0) := by
          have := HT0.out
          unfold instsRL bitsRL at this
          rw [hv, hh] at this
          exact this
        clear HT0
        refine wpAnyL_ready (rs := [14, 23]) (by kernel_rfl) (by simp) ?_
        refine AllReadyL.cons0 (o := _) rfl (by kernel_rfl) (fun K hK => ?_) ?_
        · have Ta := (T0.new #[.bool false] 4).drew
          have HTa := Lib.hid Ta; clear T0 Ta
          go_simp
          refine hK.out _ _ ?_ (fun hHeld => ?_)
          · exact HFS.out _ _ _ HTa.out.drop
          clear hK K
          refine wpAnyL_ready (rs := [15, 23]) (by kernel_rfl) (by simp) ?_
          refine AllReadyL.cons0 (o := _) rfl (by kernel_rfl) (fun K hK => ?_) ?_
          · have Ta := HTa.out.ord [1, 0, 2]
            refine step_append_vec (by rfl) _ _ _ (by rfl) 4 i1 _ 1 1 Try.underlying56 hi1 hy0 hy1 hy2 rfl (by omega) (.slice A l.length c) l.length (vl BVo l) (by rfl) Ta ⟨w6.heap.size, 0, none⟩ 1 1 [.bool false] (by rfl) (by rfl) (news_row Ta.row1) HOB.out (by omega) h63 hbb ?_
            intro gv' cap1 w1 T1
            refine hK.out _ _ ?_ (fun hHeld => ?_)
            · exact HFS.out _ _ _ T1.drop
            clear hK K Ta
            refine wpAnyL_ready (rs := [23]) (by kernel_rfl) (by simp) ?_
            refine AllReadyL.cons0 (o := _) rfl (by kernel_rfl) (fun K hK => ?_) AllReadyL.nil
            have T2 := T1.new #[.bool false] 4
            have HT2 := Lib.hid T2; clear T1 T2
            go_simp
            refine hK.out _ _ ?_ (fun hHeld => ?_)
            · exact HFS.out _ _ _ HT2.out.drop.drop
            clear hK K
            refine wpAnyL_ready (rs := [24]) (by kernel_rfl) (by simp) ?_
            refine AllReadyL.cons0 (o := _) rfl (by kernel_rfl) (fun K hK => ?_) AllReadyL.nil
            have T2 := HT2.out.ord [3, 0, 1, 2]
            refine step_append_vec (by rfl) _ _ _ (by rfl) 4 i1 _ 1 1 Try.underlying56 hi1 hy0 hy1 hy2 rfl (by omega) (.slice B l.length d) l.length (vl HVoL l) (by rfl) T2 ⟨w1.heap.size, 0, none⟩ 1 1 [.bool false] (by rfl) (by rfl) (news_row T2.row1) HOB.out (by omega) h63 hbb ?_
            intro gb' cap2 w2 T3
            refine hK.out _ _ ?_ (fun hHeld => ?_)
            · exact HFS.out _ _ _ T3.drop.drop
            clear hK K T2 HT2 HTa
            have T4 := (T3.ord [1, 3, 0, 2]).drop.drop.swap
            clear T3
            -- T : the two slices, L0
            refine tk0 27 rfl ?_
            simp only [Act.put, List.getElem_toArray, List.getElem_cons_succ, List.getElem_cons_zero, List.setIfInBounds_toArray, List.set_cons_zero, List.set_cons_succ]
            have T4 := T4
            rw [HL0.out] at T4
            have rg := T4.row2
            have fg := row_frozen rg (1 + k)
            have T5 := T4.ord [2, 0, 1, 3, 4] |>.setCell (1 + k) (.slice (some ⟨gv', 0, none⟩) (l.length + 1) cap1)
            rw [rcells_setv _ _ _ _ _ hk] at T5
            have hz5 := row_cell T5.row3 0
            refine wpAnyL_ready (rs := [28]) (by kernel_rfl) (by simp) ?_
            refine AllReadyL.cons1 (o := _) rfl (by kernel_rfl) (fun K hK => ?_) AllReadyL.nil
            go_simp
            refine hK.out _ _ ?_ (fun hHeld => ?_)
            · exact hz5
            clear hK K rg fg hz5
            refine tk2 31 HM.out rfl ?_
            simp only [Act.put, List.setIfInBounds_toArray, List.set_cons_zero, List.set_cons_succ]
            have rg := T5.row
            have cg5 : (w2.setCell ⟨g, 1 + k, none⟩ (.slice (some ⟨gv', 0, none⟩) (l.length + 1) cap1)).cell? ⟨g, 8 + k, none⟩ = some (.slice B l.length d) := by rw [row_cell rg, rcells_h _ _ _ _ hk, hh]
            have fg := row_frozen rg (8 + k)
            have T6 := T5.setCell (8 + k) (.slice (some ⟨gb', 0, none⟩) (l.length + 1) cap2)
            rw [rcells_seth _ _ _ _ _ hk] at T6
            have hz6 := row_cell T6.row3 0
            have HT5 := Lib.hid T5; have HT6 := Lib.hid T6; clear T5 T6 rg
            refine wpAnyL_ready (rs := [32]) (by kernel_rfl) (by simp) ?_
            refine AllReadyL.cons1 (o := _) rfl (by kernel_rfl) (fun K hK => ?_) AllReadyL.nil
            go_simp
            refine hK.out _ _ ?_ (fun hHeld => ?_)
            · exact hz6
            clear hK K
            refine wpAnyL_done (by kernel_rfl) ?_ _
            clear cg5 fg hz6
            go_wp2
            go_roundg (j + 1 - (l.length + 1))
            case measure => omega
            case rel =>
              have eq : { m with f := updF m.f k (l ++ [none]) } = ({ n := m.n, f := updF m.f k (l ++ [none]) } : RowsML) := rfl
              refine ⟨l ++ [none], ?_, by simp, ?_⟩
              · obtain ⟨p, hlp, hpl⟩ := HL.out
                refine ⟨p + 1, ?_, .inr ?_⟩
                · rw [hlp, List.append_assoc, List.replicate_succ']
                · rw [List.length_append]; simp; omega
              · have T7 := (HT6.out.ord [0, 1, 2, 4, 3])
                exact set_shutL hk T7
          · refine AllReadyL.cons0 (o := _) rfl (by kernel_rfl) (fun K hK => ?_) AllReadyL.nil
            have T2 := HTa.out.new #[.bool false] 4
            have HT2 := Lib.hid T2; clear T2
            go_simp
            refine hK.out _ _ ?_ (fun hHeld => ?_)
            · exact HFS.out _ _ _ HT2.out.drop.drop
            clear hK K
            refine wpAnyL_ready (rs := [15]) (by kernel_rfl) (by simp) ?_
            refine AllReadyL.cons0 (o := _) rfl (by kernel_rfl) (fun K hK => ?_) AllReadyL.nil
            have T2 := HT2.out.ord [2, 1, 0, 3]
            refine step_append_vec (by rfl) _ _ _ (by rfl) 4 i1 _ 1 1 Try.underlying56 hi1 hy0 hy1 hy2 rfl (by omega) (.slice A l.length c) l.length (vl BVo l) (by rfl) T2 ⟨w6.heap.size, 0, none⟩ 1 1 [.bool false] (by rfl) (by rfl) (news_row T2.row1) HOB.out (by omega) h63 hbb ?_
            intro gv' cap1 w1 T3
            refine hK.out _ _ ?_ (fun hHeld => ?_)
            · exact HFS.out _ _ _ T3.drop.drop
            clear hK K T2 HT2 HTa
            refine wpAnyL_ready (rs := [24]) (by kernel_rfl) (by simp) ?_
            refine AllReadyL.cons0 (o := _) rfl (by kernel_rfl) (fun K hK => ?_) AllReadyL.nil
            simp only [size_drew, World.size_alloc] at T3
            have T2 := T3.ord [3, 2, 0, 1]
            refine step_append_vec (by rfl) _ _ _ (by rfl) 4 i1 _ 1 1 Try.underlying56 hi1 hy0 hy1 hy2 rfl (by omega) (.slice B l.length d) l.length (vl HVoL l) (by rfl) T2 ⟨w6.heap.size + 1, 0, none⟩ 1 1 [.bool false] (by rfl) (by rfl) (news_row T2.row1) HOB.out (by omega) h63 hbb ?_
            intro gb' cap2 w2 T4
            refine hK.out _ _ ?_ (fun hHeld => ?_)
            · exact HFS.out _ _ _ T4.drop.drop
            clear hK K T2 T3
            have T4 := (T4.ord [1, 3, 0, 2]).drop.drop.swap
            -- T : the two slices, L0
            refine tk0 27 rfl ?_
            simp only [Act.put, List.getElem_toArray, List.getElem_cons_succ, List.getElem_cons_zero, List.setIfInBounds_toArray, List.set_cons_zero, List.set_cons_succ]
            have T4 := T4
            rw [HL0.out] at T4
            have rg := T4.row2
            have fg := row_frozen rg (1 + k)
            have T5 := T4.ord [2, 0, 1, 3, 4] |>.setCell (1 + k) (.slice (some ⟨gv', 0, none⟩) (l.length + 1) cap1)
            rw [rcells_setv _ _ _ _ _ hk] at T5
            have hz5 := row_cell T5.row3 0
            refine wpAnyL_ready (rs := [28]) (by kernel_rfl) (by simp) ?_
            refine AllReadyL.cons1 (o := _) rfl (by kernel_rfl) (fun K hK => ?_) AllReadyL.nil
            go_simp
            refine hK.out _ _ ?_ (fun hHeld => ?_)
            · exact hz5
            clear hK K rg fg hz5
            refine tk2 31 HM.out rfl ?_
            simp only [Act.put, List.setIfInBounds_toArray, List.set_cons_zero, List.set_cons_succ]
            have rg := T5.row
            have cg5 : (w2.setCell ⟨g, 1 + k, none⟩ (.slice (some ⟨gv', 0, none⟩) (l.length + 1) cap1)).cell? ⟨g, 8 + k, none⟩ = some (.slice B l.length d) := by rw [row_cell rg, rcells_h _ _ _ _ hk, hh]
            have fg := row_frozen rg (8 + k)
            have T6 := T5.setCell (8 + k) (.slice (some ⟨gb', 0, none⟩) (l.length + 1) cap2)
            rw [rcells_seth _ _ _ _ _ hk] at T6
            have hz6 := row_cell T6.row3 0
            have HT5 := Lib.hid T5; have HT6 := Lib.hid T6; clear T5 T6 rg
            refine wpAnyL_ready (rs := [32]) (by kernel_rfl) (by simp) ?_
            refine AllReadyL.cons1 (o := _) rfl (by kernel_rfl) (fun K hK => ?_) AllReadyL.nil
            go_simp
            refine hK.out _ _ ?_ (fun hHeld => ?_)
            · exact hz6
            clear hK K
            refine wpAnyL_done (by kernel_rfl) ?_ _
            clear cg5 fg hz6
            go_wp2
            go_roundg (j + 1 - (l.length + 1))
            case measure => omega
            case rel =>
              have eq : { m with f := updF m.f k (l ++ [none]) } = ({ n := m.n, f := updF m.f k (l ++ [none]) } : RowsML) := rfl
              refine ⟨l ++ [none], ?_, by simp, ?_⟩
              · obtain ⟨p, hlp, hpl⟩ := HL.out
                refine ⟨p + 1, ?_, .inr ?_⟩
                · rw [hlp, List.append_assoc, List.replicate_succ']
                · rw [List.length_append]; simp; omega
              · have T7 := (HT6.out.ord [0, 1, 2, 4, 3])
                exact set_shutL hk T7
        refine AllReadyL.cons0 (o := _) rfl (by kernel_rfl) (fun K hK => ?_) AllReadyL.nil
        have Ta := (T0.new #[.bool false] 4).drew
        have HTa := Lib.hid Ta; clear T0 Ta
        go_simp
        refine hK.out _ _ ?_ (fun hHeld => ?_)
        · exact HFS.out _ _ _ HTa.out.drop
        clear hK K
        refine wpAnyL_ready (rs := [14]) (by kernel_rfl) (by simp) ?_
        refine AllReadyL.cons0 (o := _) rfl (by kernel_rfl) (fun K hK => ?_) AllReadyL.nil
        have T2 := HTa.out.new #[.bool false] 4
        have HT2 := Lib.hid T2; clear T2
        go_simp
        refine hK.out _ _ ?_ (fun hHeld => ?_)
        · exact HFS.out _ _ _ HT2.out.drop.drop
        clear hK K
        refine wpAnyL_ready (rs := [15]) (by kernel_rfl) (by simp) ?_
        refine AllReadyL.cons0 (o := _) rfl (by kernel_rfl) (fun K hK => ?_) AllReadyL.nil
        have T2 := HT2.out
        simp only [size_drew, World.size_alloc] at T2
        have T2 := T2.ord [2, 0, 1, 3]
        refine step_append_vec (by rfl) _ _ _ (by rfl) 4 i1 _ 1 1 Try.underlying56 hi1 hy0 hy1 hy2 rfl (by omega) (.slice A l.length c) l.length (vl BVo l) (by rfl) T2 ⟨w6.heap.size + 1, 0, none⟩ 1 1 [.bool false] (by rfl) (by rfl) (news_row T2.row1) HOB.out (by omega) h63 hbb ?_
        intro gv' cap1 w1 T3
        refine hK.out _ _ ?_ (fun hHeld => ?_)
        · exact HFS.out _ _ _ T3.drop.drop
        clear hK K T2 HT2 HTa
        refine wpAnyL_ready (rs := [24]) (by kernel_rfl) (by simp) ?_
        refine AllReadyL.cons0 (o := _) rfl (by kernel_rfl) (fun K hK => ?_) AllReadyL.nil
        have T2 := T3.ord [3, 2, 0, 1]
        refine step_append_vec (by rfl) _ _ _ (by rfl) 4 i1 _ 1 1 Try.underlying56 hi1 hy0 hy1 hy2 rfl (by omega) (.slice B l.length d) l.length (vl HVoL l) (by rfl) T2 ⟨w6.heap.size, 0, none⟩ 1 1 [.bool false] (by rfl) (by rfl) (news_row T2.row1) HOB.out (by omega) h63 hbb ?_
        intro gb' cap2 w2 T4
        refine hK.out _ _ ?_ (fun hHeld => ?_)
        · exact HFS.out _ _ _ T4.drop.drop
        clear hK K T2 T3
        have T4 := (T4.ord [1, 3, 0, 2]).drop.drop.swap
        -- T : the two slices, L0
        refine tk0 27 rfl ?_
        simp only [Act.put, List.getElem_toArray, List.getElem_cons_succ, List.getElem_cons_zero, List.setIfInBounds_toArray, List.set_cons_zero, List.set_cons_succ]
        have T4 := T4
        rw [HL0.out] at T4
        have rg := T4.row2
        have fg := row_frozen rg (1 + k)
        have T5 := T4.ord [2, 0, 1, 3, 4] |>.setCell (1 + k) (.slice (some ⟨gv', 0, none⟩) (l.length + 1) cap1)
        rw [rcells_setv _ _ _ _ _ hk] at T5
        have hz5 := row_cell T5.row3 0
        refine wpAnyL_ready (rs := [28]) (by kernel_rfl) (by simp) ?_
        refine AllReadyL.cons1 (o := _) rfl (by kernel_rfl) (fun K hK => ?_) AllReadyL.nil
        go_simp
        refine hK.out _ _ ?_ (fun hHeld => ?_)
        · exact hz5
        clear hK K rg fg hz5
        refine tk2 31 HM.out rfl ?_
        simp only [Act.put, List.setIfInBounds_toArray, List.set_cons_zero, List.set_cons_succ]
        have rg := T5.row
        have cg5 : (w2.setCell ⟨g, 1 + k, none⟩ (.slice (some ⟨gv', 0, none⟩) (l.length + 1) cap1)).cell? ⟨g, 8 + k, none⟩ = some (.slice B l.length d) := by rw [row_cell rg, rcells_h _ _ _ _ hk, hh]
        have fg := row_frozen rg (8 + k)
        have T6 := T5.setCell (8 + k) (.slice (some ⟨gb', 0, none⟩) (l.length + 1) cap2)
        rw [rcells_seth _ _ _ _ _ hk] at T6
        have hz6 := row_cell T6.row3 0
        have HT5 := Lib.hid T5; have HT6 := Lib.hid T6; clear T5 T6 rg
        refine wpAnyL_ready (rs := [32]) (by kernel_rfl) (by simp) ?_
        refine AllReadyL.cons1 (o := _) rfl (by kernel_rfl) (fun K hK => ?_) AllReadyL.nil
        go_simp
        refine hK.out _ _ ?_ (fun hHeld => ?_)
        · exact hz6
        clear hK K
        refine wpAnyL_done (by kernel_rfl) ?_ _
        clear cg5 fg hz6
        go_wp2
        go_roundg (j + 1 - (l.length + 1))
        case measure => omega
        case rel =>
          have eq : { m with f := updF m.f k (l ++ [none]) } = ({ n := m.n, f := updF m.f k (l ++ [none]) } : RowsML) := rfl
          refine ⟨l ++ [none], ?_, by simp, ?_⟩
          · obtain ⟨p, hlp, hpl⟩ := HL.out
            refine ⟨p + 1, ?_, .inr ?_⟩
            · rw [hlp, List.append_assoc, List.replicate_succ']
            · rw [List.length_append]; simp; omega
          · have T7 := (HT6.out.ord [0, 1, 2, 4, 3])
            exact set_shutL hk T7
      · have hgd : decide ((l.length : Int) < (j : Int) + 1) = false := by rw [decide_eq_false_iff_not]; omega
        go_wp2_with fail
        refine wp_region_ext (by kernel_rfl) (by kernel_rfl) ?_
        repeat (go_big_quiet_step (fail))
        refine wpQuiet_nil ?_
        rintro _ ⟨x9, rfl⟩
        have T := T.ext x9
        clear hcv hch r0 r1 l0 l1 c1
        generalize ext _ x9 = w5 at *
        obtain ⟨p, hlp, hpl⟩ := HL.out
        have hput := putL_ofL t hlp hpl (show j + 1 ≤ l.length by omega)
        have HP := Lib.hid hput
        clear hput hlp hpl HL
        go_upto_region 6 with fail
        have hjl : j < l.length := by omega
        have TD := T.drew
        have TS : Sts W G w5.drew (vecR 4 1 (v k) l.length (vl BVo l) :: rowR g (rcells m.n v h) :: bitsRL (h k) l :: othersRL (updF m.f k l) v h k :: rowR g1 (IV ⟨(k : Int), (j : Int) + 1⟩) :: []) := TD.swap
        obtain ⟨gv, cv, curv, hv1, rv, sv, SV⟩ := vec_at1 BVo_sizeL TS hjl
        have T2a := (SV (some t) (.bool t) rfl).ord [2, 0, 1, 3, 4]
        have T2 : Sts W G (w5.drew.setCell ⟨gv, j, none⟩ (.bool t)) (vecR 4 1 (h k) l.length (vl HVoL l) :: vecR 4 1 (v k) l.length (vl BVo (l.set j (some t))) :: rowR g (rcells m.n v h) :: othersRL (updF m.f k l) v h k :: rowR g1 (IV ⟨(k : Int), (j : Int) + 1⟩) :: []) := T2a
        obtain ⟨gb, cb, curb, hb1, rb, sb, SB⟩ := vec_at1 HVo_sizeL T2 hjl
        have T3 := SB (some t) (.bool true) rfl
        have RS : ∀ W' L', Sts W G W' (rowR g (rcells m.n v h) :: rowR g1 (IV ⟨(k : Int), (j : Int) + 1⟩) :: L') → W'.cell? ⟨g1, 0, none⟩ = some (.int .i64 k) ∧ W'.cell? ⟨g1, 1, none⟩ = some (.int .i64 ((j : Int) + 1)) ∧ W'.cell? ⟨g, 1 + k, none⟩ = some (.slice (some ⟨gv, 0, none⟩) l.length cv) ∧ W'.cell? ⟨g, 8 + k, none⟩ = some (.slice (some ⟨gb, 0, none⟩) l.length cb) := fun W' L' T =>
          ⟨row_cell T.row1 0, row_cell T.row1 1, by rw [row_cell T.row, rcells_v _ _ _ _ hk, hv1], by rw [row_cell T.row, rcells_h _ _ _ _ hk, hb1]⟩
        have F0 := RS _ _ (TS.ord [1, 4, 0, 2, 3])
        have F1 := RS _ _ (T2.ord [2, 4, 0, 1, 3])
        have F2 := RS _ _ (T3.ord [2, 4, 0, 1, 3])
        have eo : othersRL (updF m.f k l) v h k = othersRL (updF m.f k (l.set j (some t))) v h k := by
          unfold othersRL
          congr 1
          refine row_others fun i hi => ?_
          unfold pairRL
          rw [updF_other _ _ hi, updF_other _ _ hi]
        have TF : Sts W G ((w5.drew.setCell ⟨gv, j, none⟩ (.bool t)).setCell ⟨gb, j, none⟩ (.bool true)) [rowsIRL g { m with f := updF m.f k (putLL (m.f k) j t) }] := by
          rw [HP.out]
          refine Sts.rowsShutL (m := { m with f := updF m.f k (l.set j (some t)) }) (v := v) (h := h) hk ?_
          show Sts W G _ [rowR g (rcells m.n v h), instsRL (v k) (updF m.f k (l.set j (some t)) k), bitsRL (h k) (updF m.f k (l.set j (some t)) k), othersRL (updF m.f k (l.set j (some t))) v h k]
          rw [← eo, updF_same]
          have hl2 : (l.set j (some t)).length = l.length := List.length_set
          unfold instsRL bitsRL
          rw [hl2]
          exact (T3.ord [4, 2, 1, 0, 3]).drop
        have HTF := Lib.hid TF
        have z0 : w5.cell? ⟨gv, j, none⟩ = some (curv[j]'sv) := (row_cell rv j).trans (Array.getElem?_eq_getElem sv)
        have z1 : w5.frozen? ⟨gv, j, none⟩ = false := row_frozen rv j
        have z2 : (w5.setCell ⟨gv, j, none⟩ (.bool t)).cell? ⟨gb, j, none⟩ = some (curb[j]'sb) := (row_cell rb j).trans (Array.getElem?_eq_getElem sb)
        have z3 : (w5.setCell ⟨gv, j, none⟩ (.bool t)).frozen? ⟨gb, j, none⟩ = false := row_frozen rb j
        have z4 := row_lt rv
        have hk0 : ¬ (k : Int) < 0 := by omega
        have hj7 : (j : Int) < (l.length : Int) := by omega
        have hj0 : (0 : Int) ≤ (j : Int) := by omega
        have hw1 : IntKind.i64.wrap ((j : Int) + 1 - 1) = j := by rw [IntKind.wrap_i64]; omega
        have hw2 : IntKind.i64.wrap (j : Int) = j := by rw [IntKind.wrap_i64]; omega
        have G0 := Lib.hid F0; have G1 := Lib.hid F1; have G2 := Lib.hid F2
        clear F0 F1 F2 RS TF SB SV T T2 T2a T3 TD TS eo HP rv rb hv1 hb1
        go_region_held3 (fun W' => W'.cell? ⟨g1, 0, none⟩ = some (.int .i64 k) ∧ W'.cell? ⟨g1, 1, none⟩ = some (.int .i64 ((j : Int) + 1)) ∧ W'.cell? ⟨g, 1 + k, none⟩ = some (.slice (some ⟨gv, 0, none⟩) l.length cv) ∧ W'.cell? ⟨g, 8 + k, none⟩ = some (.slice (some ⟨gb, 0, none⟩) l.length cb))
          (first | assumption | exact G0.out | exact G1.out | exact G2.out)
          (fail)
        simp only [Exit.then]
        go_wp2
        go_ret
        exact ⟨rfl, HTF.out⟩
end Go.Proofs.Ytnjgjhjilolanaa
/- Things in memory, in another order that is known. Nothing of the program stands here. -/
namespace Go.Proofs.Ytnjgjhjilolanaa
open Go.RowKit
end Go.Proofs.Ytnjgjhjilolanaa
