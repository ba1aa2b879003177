/- Several texts in one. -/
import Derived.Test.YtomlilkobhkoiaaGreatDoorQ9
import Derived.Test.YtomlilkobhkoiaaGreatDoorQ3
import Derived.Test.YtomlilkobhkoiaaGreatDoorQ4
import Derived.BigQuiet
import Derived.Deep.RegionHeld3
import Derived.Deep.DeepCutAuto
/- Layer 3: rows of items: what stands at a place. -/
namespace Go.Proofs.YtomlilkobhkoiaaGreatDoor
open Go.RowKit
set_option linter.unusedVariables false
set_option maxRecDepth 20000
attribute [local go_sem] row_alloc row_drew row_drewN row_ext row_setCell row_setRow size_ext setRow_alloc setRow_drew loadOf storeOf piece_lit loadVal_at storeVal_at allOne_lit buildOf buildRes_some
attribute [local go_sem high] cell_alloc frozen_alloc setCell_alloc cell_ext frozen_ext cell_setRow frozen_setRow
attribute [local go_sem ↓] TDeed_ld0 TDeed_st0 TDeed_fd0 TDeed_bd0
attribute [local go_sem] TDeed_size TDeed_one TDeed_piece TDeed_c0 TDeed_c1 TDeed_c2 TDeed_c3 TDeed_c4 TDeed_c5 TDeed_set_kind TDeed_set_key TDeed_set_val TDeed_set_ver TDeed_set_ses TDeed_set_num TDeed_ld TDeed_st TDeed_f_kind TDeed_f_key TDeed_f_val TDeed_f_ver TDeed_f_ses TDeed_f_num TDeed_bd TDeed_fl TDeed_fl_kind TDeed_fl_key TDeed_fl_val TDeed_fl_ver TDeed_fl_ses TDeed_fl_num
attribute [local go_sem high] TDeed_eql TDeed_neq
attribute [local go_sem ↓] index_deps0 load_deps0 store_deps0
attribute [local go_sem] DV_piece DV_size DV_one index_deps load_deps store_deps
attribute [local go_sem high] TDeps_eql TDeps_neq
attribute [local go_sem ↓] TCall_ld0 TCall_st0 TCall_fd0 TCall_bd0
attribute [local go_sem] TCall_size TCall_one TCall_piece TCall_c0 TCall_c1 TCall_c2 TCall_c3 TCall_c4 TCall_c5 TCall_c6 TCall_c7 TCall_c8 TCall_c9 TCall_c10 TCall_c11 TCall_c12 TCall_c13 TCall_p_deed TCall_put_deed TCall_p_deps TCall_put_deps TCall_set_seq TCall_ld TCall_st TCall_f_deed TCall_f_deps TCall_f_seq TCall_bd TCall_fl TCall_fl_deed TCall_fl_deps TCall_fl_seq
attribute [local go_sem high] TCall_eql TCall_neq
attribute [local go_sem ↓] TItem_ld0 TItem_st0 TItem_fd0 TItem_bd0
attribute [local go_sem] TItem_size TItem_one TItem_piece TItem_c0 TItem_c1 TItem_set_rep TItem_set_num TItem_ld TItem_st TItem_f_rep TItem_f_num TItem_bd TItem_fl TItem_fl_rep TItem_fl_num
attribute [local go_sem high] TItem_eql TItem_neq
attribute [local go_sem ↓] TBallot_ld0 TBallot_st0 TBallot_fd0 TBallot_bd0
attribute [local go_sem] TBallot_size TBallot_one TBallot_piece TBallot_c0 TBallot_c1 TBallot_set_round TBallot_set_rep TBallot_ld TBallot_st TBallot_f_round TBallot_f_rep TBallot_bd TBallot_fl TBallot_fl_round TBallot_fl_rep
attribute [local go_sem high] TBallot_eql TBallot_neq
attribute [local go_sem ↓] TInst_ld0 TInst_st0 TInst_fd0 TInst_bd0
attribute [local go_sem] TInst_size TInst_one TInst_piece TInst_c0 TInst_c1 TInst_c2 TInst_c3 TInst_c4 TInst_c5 TInst_c6 TInst_c7 TInst_c8 TInst_c9 TInst_c10 TInst_c11 TInst_c12 TInst_c13 TInst_c14 TInst_c15 TInst_c16 TInst_c17 TInst_c18 TInst_c19 TInst_p_prom TInst_put_prom TInst_p_vote TInst_put_vote TInst_set_status TInst_p_call TInst_put_call TInst_set_same TInst_ld TInst_st TInst_f_prom TInst_f_vote TInst_f_status TInst_f_call TInst_f_same TInst_bd TInst_fl TInst_fl_prom TInst_fl_vote TInst_fl_status TInst_fl_call TInst_fl_same
attribute [local go_sem high] TInst_eql TInst_neq
attribute [local go_sem] rcells_n
theorem ret_row2 {P : Program} {fn : Func} {R : Ending → World → Prop} {a : Act} {w : World} {p u : Tmp} {T : TypeId} {n : Nat} {d : TypeDesc} (X : Array Value) {g : Nat} (hu : P.underlying T = some d) (hd : d.isRow = true)
  (hi : (P.info? T).map (·.size) = some n) (hr : fn.results = #[.cell p T, .tmp u]) (hp : a.tmps.getD p undef = .pointer (some ⟨g, 0, none⟩)) (hdf : a.defers = []) (hX : X.size = n) (hrow : row? w g = some X) (hR : R (.returned (.tuple #[.agg X, a.tmps.getD u undef])) w) : bodyPost P fn R .ret a w := by
 obtain ⟨t, ht⟩ := row_some hrow
 refine bodyPost_ret (v := .tuple #[.agg X, a.tmps.getD u undef]) ?_ hdf hR
 have hp' : a.tmps[p]?.getD undef = .pointer (some ⟨g, 0, none⟩) := by simpa using hp
 simp [results, hr, hp', asAddr, run_loadVar_row w g t T X (0, 0) d ht hu (by cases d <;> first | rfl | exact hd) (by rw [hi, hX])]
theorem noInst_lit : NV noInst = #[.int .i64 0, .int .i64 0, .int .i64 0, .int .i64 0, .int .i64 0, .int .i64 0, .string { data := #[] }, .string { data := #[] }, .int .i64 0, .int .i64 0, .int .i64 0, .int .i64 0, .int .i64 0, .int .i64 0, .int .i64 0, .int .i64 0, .int .i64 0, .int .i64 0, .int .i64 0, .bool false] := by kernel_rfl
/-- A call that reads some things, and leaves all as it was. -/
def Reads (P : Program) (f : FuncId) (args : Array Value) (L : List Res) (v : Value) : Prop :=
 ∀ W G, Sat W L G → Calls P f args W fun e W' => e = .returned v ∧ Below W.heap.size W W'
theorem Sts.satOf {w W : World} {F : Nat → Prop} {L R : List Res} (T : Sts w F W (L ++ R)) : ∃ G, Sat W L G := by
 obtain ⟨G, hG, _⟩ := T.call
 exact ⟨G, hG⟩
theorem Reads.at {P : Program} {f : FuncId} {args : Array Value} {L R : List Res} {v : Value} {w W : World} {F : Nat → Prop} (h : Reads P f args L v) (T : Sts w F W (L ++ R)) : Calls P f args W fun e W' => e = .returned v ∧ Below W.heap.size W W' := by
 obtain ⟨G, hG⟩ := T.satOf
 exact h W G hG
theorem Reads.at1 {P : Program} {f : FuncId} {args : Array Value} {r : Res} {R : List Res} {v : Value} {w W : World} {F : Nat → Prop} (h : Reads P f args [r] v) (T : Sts w F W (r :: R)) : Calls P f args W fun e W' => e = .returned v ∧ Below W.heap.size W W' := Reads.at (R := R) h T
theorem Reads.does {P : Program} {f : FuncId} {args : Array Value} {L : List Res} {v : Value} (h : Reads P f args L v) : Does P f args L v L := fun W G hS =>
 (h W G hS).mono fun _ _ ⟨he, hb⟩ => ⟨he, (Sts.start hS).pure hb⟩
/-- What lies in rows of items. -/
theorem rows_facts {W : World} {G : Nat → Prop} {g : Nat} {m : RowsM} (hS : Sat W [rowsIR g m] G) {k : Nat} (hk : k < 7) : ∃ v h A c B d, v k = .slice A (m.f k).length c ∧ h k = .slice B (m.f k).length d ∧
  row? W g = some (rcells m.n v h) ∧ RowsIn W A 20 NVo (m.f k) ∧ RowsIn W B 1 HVo (m.f k) ∧ (∀ a, A = some a → ∃ gv, a = ⟨gv, 0, none⟩) ∧ ∀ a, B = some a → ∃ gv, a = ⟨gv, 0, none⟩ := by
 obtain ⟨v, h, T⟩ := (Sts.start hS).rowsOpen hk
 have hml : (m.f k).length ≤ 9223372036854775807 := by
  rcases T.drop.vec.2 with ⟨-, h⟩ | ⟨g, cap, cur, -, _, hg, hn, hm, _⟩
  ·omega
  ·unfold maxLen at hm; omega
 obtain ⟨A, c, hv, hA, _, hAa⟩ := vec_rows NVo_size T.drop (by omega) hml
 obtain ⟨B, d, hh, hB, _, hBa⟩ := vec_rows HVo_size T.drop.drop (by omega) hml
 exact ⟨v, h, A, c, B, d, hv, hh, T.row, hA, hB, hAa, hBa⟩
set_option maxHeartbeats 4000000 in
theorem irAtR (g : Nat) (m : RowsM) (hn : 0 ≤ m.n ∧ m.n ≤ 7) (x : Item) :
  Reads Tryz.prog 88 #[.pointer (some ⟨g, 0, none⟩), .agg (IV x)] [rowsIR g m] (.tuple #[.agg (NV ((getM m x).getD noInst)), .bool (getM m x).isSome]) := by
 intro W G hS
 obtain ⟨w3, hw3⟩ : ∃ w3, w3 = ((W.alloc (.cells (IV x) 33)).alloc (.cells (NV noInst) 70)).alloc (.cells (NV noInst) 70) := ⟨_, rfl⟩
 have T := (((Sts.start0 W).new (IV x) 33).new (NV noInst) 70).new (NV noInst) 70
 simp only [World.size_alloc] at T
 rw [← hw3] at T
 rw [noInst_lit] at hw3
 -- result, none, item
 have cg := itemGood_any x m.n
 have hB := T.below
 cases hg : goodI x m.n
 case false =>
  obtain ⟨v, h, A, c, B, d, -, -, hr, -⟩ := rows_facts hS (k := 0) (by omega)
  have r0 : row? w3 g = some (rcells m.n v h) := (row_below hB (row_lt hr)).trans hr
  have c0 : w3.cell? ⟨g, 0, none⟩ = some (.int .i64 m.n) := row_cell r0 0
  have hm : getM m x = none := by unfold getM; rw [hg, if_neg (by simp)]
  rw [hm]
  rw [hg] at cg
  clear hS hr hB hm hg
  go_enter Tryz.func88, Tryz.ntmps88
  go_wp2_with fail
  rw [← hw3]
  clear hw3
  generalize W.heap.size + 1 + 1 = g3 at *
  generalize W.heap.size + 1 = g2 at *
  generalize hg1 : W.heap.size = g1 at *
  have r4 := T.row; have r5 := T.row1; have r6 := T.row2
  have l4 := row_lt r4; have l5 := row_lt r5; have l6 := row_lt r6
  have c6 := row_cell r6
  have l0 : g < w3.heap.size := row_lt r0
  refine wp_region_ext (by kernel_rfl) (by kernel_rfl) ?_
  repeat (go_big_quiet_step (first | (go_at_call 107; exact cg.quiet)))
  refine wpQuiet_nil ?_
  rintro _ ⟨x9, rfl⟩
  have T := T.ext x9
  clear r4 r5 r6 l4 l5 l6 c6 c0 l0 r0
  generalize ext _ x9 = w4 at *
  have r4 := T.row; have r5 := T.row1; have l4 := row_lt r4; have l5 := row_lt r5; have c5 := row_cell r5
  go_wp2_with fail
  have T := T.swap.setRow (NV noInst)
  refine ret_row2 (NV noInst) TInst_und rfl (by kernel_rfl) rfl rfl rfl (TInst_size _) T.row ?_
  exact ⟨rfl, hg1 ▸ T.below⟩
 case true =>
  rw [hg] at cg
  have hg2 := hg
  unfold goodI at hg2
  rw [decide_eq_true_iff] at hg2
  obtain ⟨xr, xn⟩ := x
  dsimp only at hg2
  obtain ⟨k, rfl⟩ := Int.eq_ofNat_of_zero_le hg2.1
  obtain ⟨j, rfl⟩ : ∃ j : Nat, xn = (j : Int) + 1 := ⟨(xn - 1).toNat, by omega⟩
  have hk : k < 7 := by omega
  have hgm : getM m ⟨(k : Int), (j : Int) + 1⟩ = ((m.f k)[j]?).join := by
   unfold getM
   rw [hg, if_pos rfl]
   have e1 : ((k : Int)).toNat = k := by omega
   have e2 : ((j : Int) + 1).toNat - 1 = j := by omega
   dsimp only
   rw [e1, e2]
  rw [hgm]
  clear hgm hg
  obtain ⟨v, h, A, c, B, d, hv, hh, hr, hA, hBB, hAa, hBa⟩ := rows_facts hS hk
  have r0 : row? w3 g = some (rcells m.n v h) := (row_below hB (row_lt hr)).trans hr
  have c0 : w3.cell? ⟨g, 0, none⟩ = some (.int .i64 m.n) := row_cell r0 0
  have hcv : w3.cell? ⟨g, 1 + k, none⟩ = some (.slice A (m.f k).length c) := by rw [row_cell r0, rcells_v _ _ _ _ hk, hv]
  have hch : w3.cell? ⟨g, 8 + k, none⟩ = some (.slice B (m.f k).length d) := by rw [row_cell r0, rcells_h _ _ _ _ hk, hh]
  have hj64 : j < 64 := by omega
  clear hS
  cases hoj : (m.f k)[j]? with
  | none =>
   have hjl : ¬ j < (m.f k).length := fun h => by rw [List.getElem?_eq_getElem h] at hoj; cases hoj
   have hdl : decide (((m.f k).length : Int) < (j : Int) + 1) = true := by rw [decide_eq_true_iff]; omega
   clear hr hB hA hBB hAa hBa
   go_enter Tryz.func88, Tryz.ntmps88
   go_wp2_with fail
   rw [← hw3]
   clear hw3
   generalize W.heap.size + 1 + 1 = g3 at *
   generalize W.heap.size + 1 = g2 at *
   generalize hg1 : W.heap.size = g1 at *
   have r4 := T.row; have r5 := T.row1; have r6 := T.row2
   have l4 := row_lt r4; have l5 := row_lt r5; have l6 := row_lt r6
   have c6 := row_cell r6
   have l0 : g < w3.heap.size := row_lt r0
   refine wp_region_ext (by kernel_rfl) (by kernel_rfl) ?_
   repeat (go_big_quiet_step (first | (go_at_call 107; exact cg.quiet)))
   refine wpQuiet_nil ?_
   rintro _ ⟨x9, rfl⟩
   have T := T.ext x9
   clear r4 r5 r6 l4 l5 l6 c6 c0 l0 r0 hcv hch
   generalize ext _ x9 = w4 at *
   have r4 := T.row; have r5 := T.row1; have l4 := row_lt r4; have l5 := row_lt r5; have c5 := row_cell r5
   go_wp2_with fail
   have T := T.swap.setRow (NV noInst)
   refine ret_row2 (NV noInst) TInst_und rfl (by kernel_rfl) rfl rfl rfl (TInst_size _) T.row ?_
   exact ⟨rfl, hg1 ▸ T.below⟩
  | some o =>
   have hjl : j < (m.f k).length := (List.getElem?_eq_some_iff.1 hoj).1
   have hdl : decide (((m.f k).length : Int) < (j : Int) + 1) = false := by rw [decide_eq_false_iff_not]; omega
   have hlj : (m.f k)[j] = o := (List.getElem?_eq_some_iff.1 hoj).2
   cases B with
   | none => rw [hBB.nil rfl] at hjl; simp at hjl
   | some b =>
   obtain ⟨gb, rfl⟩ := hBa b rfl
   have hcb : w3.cell? ⟨gb, j, none⟩ = some (.bool o.isSome) := by
    have := hBB.one hB hjl 0 (.bool o.isSome) (by rw [hlj]; rfl)
    rw [Nat.mul_one, Nat.add_zero] at this; exact this
   have hgb := World.block_lt_of_cell? w3 _ hcb
   cases o with
   | none =>
    clear hr hB hA hBB hAa hBa
    simp only [Option.isSome] at hcb
    go_enter Tryz.func88, Tryz.ntmps88
    go_wp2_with fail
    rw [← hw3]
    clear hw3
    generalize W.heap.size + 1 + 1 = g3 at *
    generalize W.heap.size + 1 = g2 at *
    generalize hg1 : W.heap.size = g1 at *
    have r4 := T.row; have r5 := T.row1; have r6 := T.row2
    have l4 := row_lt r4; have l5 := row_lt r5; have l6 := row_lt r6
    have c6 := row_cell r6
    have l0 : g < w3.heap.size := row_lt r0
    refine wp_region_ext (by kernel_rfl) (by kernel_rfl) ?_
    repeat (go_big_quiet_step (first | (go_at_call 107; exact cg.quiet)))
    refine wpQuiet_nil ?_
    rintro _ ⟨x9, rfl⟩
    have T := T.ext x9
    clear r4 r5 r6 l4 l5 l6 c6 c0 l0 r0 hcv hch hcb hgb
    generalize ext _ x9 = w4 at *
    have r4 := T.row; have r5 := T.row1; have l4 := row_lt r4; have l5 := row_lt r5; have c5 := row_cell r5
    go_wp2_with fail
    have T := T.swap.setRow (NV noInst)
    refine ret_row2 (NV noInst) TInst_und rfl (by kernel_rfl) rfl rfl rfl (TInst_size _) T.row ?_
    exact ⟨rfl, hg1 ▸ T.below⟩
   | some t =>
    simp only [Option.isSome] at hcb
    have hrg := row_lt hr
    have HR := Lib.hid hr; have HA := Lib.hid hA; have HAa := Lib.hid hAa
    clear hr hB hA hBB hAa hBa
    go_enter Tryz.func88, Tryz.ntmps88
    go_wp2_with fail
    rw [← hw3]
    clear hw3
    generalize W.heap.size + 1 + 1 = g3 at *
    generalize W.heap.size + 1 = g2 at *
    generalize hg1 : W.heap.size = g1 at *
    have r4 := T.row; have r5 := T.row1; have r6 := T.row2
    have l4 := row_lt r4; have l5 := row_lt r5; have l6 := row_lt r6
    have c6 := row_cell r6
    have l0 : g < w3.heap.size := row_lt r0
    refine wp_region_ext (by kernel_rfl) (by kernel_rfl) ?_
    repeat (go_big_quiet_step (first | (go_at_call 107; exact cg.quiet)))
    refine wpQuiet_nil ?_
    rintro _ ⟨x9, rfl⟩
    have T := T.ext x9
    clear r4 r5 r6 l4 l5 l6 c6 c0 l0 r0 hcv hch hcb hgb
    generalize ext _ x9 = w4 at *
    have r4 := T.row; have r5 := T.row1; have l4 := row_lt r4; have l5 := row_lt r5
    go_upto_region 4 with fail
    clear r4 l4
    have TE := T.swap
    obtain ⟨S, hSd⟩ : ∃ S : World → Prop, ∀ W', S W' ↔ ∃ Y, Sts W (fun _ => False) W' [rowR g2 Y, rowR g3 (NV noInst), rowR g1 (IV ⟨(k : Int), (j : Int) + 1⟩)] := ⟨_, fun _ => Iff.rfl⟩
    have s0 : S w4.drew := (hSd _).2 ⟨_, TE.drew⟩
    have KS : ∀ W' X, S W' → S (W'.setRow g2 X) := fun W' X h => let ⟨Y, h⟩ := (hSd _).1 h; (hSd _).2 ⟨X, h.setRow X⟩
    have BS : ∀ W', S W' → Below W.heap.size W W' := fun W' h => let ⟨Y, h⟩ := (hSd _).1 h; h.below
    cases A with
    | none => rw [HA.out.nil rfl] at hjl; simp at hjl
    | some a =>
     obtain ⟨gv, rfl⟩ := HAa.out a rfl
     have q1 : ∀ W', S W' → W'.cell? ⟨g, 1 + k, none⟩ = some (.slice (some ⟨gv, 0, none⟩) (m.f k).length c) := fun W' hs => by
      have := (row_below (BS _ hs) (row_lt HR.out)).trans HR.out
      rw [row_cell this, rcells_v _ _ _ _ hk, hv]
     have q2 : ∀ W', S W' → W'.cell? ⟨g1, 0, none⟩ = some (.int .i64 k) := fun W' hs => by
      obtain ⟨Y, h⟩ := (hSd _).1 hs
      exact row_cell h.row2 0
     have q3 : ∀ W', S W' → W'.cell? ⟨g1, 1, none⟩ = some (.int .i64 ((j : Int) + 1)) := fun W' hs => by
      obtain ⟨Y, h⟩ := (hSd _).1 hs
      exact row_cell h.row2 1
     have q4 : ∀ W', S W' → loadVal Tryz.prog 70 20 W' (.pointer (some ⟨gv, j * 20, none⟩)) = .ok (.agg (NV t)) W' := fun W' hs => by
      have := HA.out.load (P := Tryz.prog) (T := 70) NVo_size TInst_und rfl (by kernel_rfl) (BS _ hs) rfl hjl
      rw [add_none, Nat.zero_add, hlj] at this
      exact this
     have FS : ∀ W', S W' → S W' ∧ W'.cell? ⟨g1, 0, none⟩ = some (.int .i64 k) ∧ W'.cell? ⟨g1, 1, none⟩ = some (.int .i64 ((j : Int) + 1)) ∧ W'.cell? ⟨g, 1 + k, none⟩ = some (.slice (some ⟨gv, 0, none⟩) (m.f k).length c) ∧ loadVal Tryz.prog 70 20 W' (.pointer (some ⟨gv, j * 20, none⟩)) = .ok (.agg (NV t)) W' := fun W' h => ⟨h, q2 W' h, q3 W' h, q1 W' h, q4 W' h⟩
     have K2 : ∀ W' X, (S W' ∧ W'.cell? ⟨g1, 0, none⟩ = some (.int .i64 k) ∧ W'.cell? ⟨g1, 1, none⟩ = some (.int .i64 ((j : Int) + 1)) ∧ W'.cell? ⟨g, 1 + k, none⟩ = some (.slice (some ⟨gv, 0, none⟩) (m.f k).length c) ∧ loadVal Tryz.prog 70 20 W' (.pointer (some ⟨gv, j * 20, none⟩)) = .ok (.agg (NV t)) W') → (S (W'.setRow g2 X) ∧ (W'.setRow g2 X).cell? ⟨g1, 0, none⟩ = some (.int .i64 k) ∧ (W'.setRow g2 X).cell? ⟨g1, 1, none⟩ = some (.int .i64 ((j : Int) + 1)) ∧ (W'.setRow g2 X).cell? ⟨g, 1 + k, none⟩ = some (.slice (some ⟨gv, 0, none⟩) (m.f k).length c) ∧ loadVal Tryz.prog 70 20 (W'.setRow g2 X) (.pointer (some ⟨gv, j * 20, none⟩)) = .ok (.agg (NV t)) (W'.setRow g2 X)) := fun W' X h => FS _ (KS W' X h.1)
     have S0 := FS _ s0
     have HTE := Lib.hid TE
     clear hSd TE q1 q2 q3 q4 KS FS s0 BS T HA HAa HR
     have hk7 : (k : Int) < 7 := by omega
     have hk0 : ¬ (k : Int) < 0 := by omega
     have hj7 : (j : Int) < ((m.f k).length : Int) := by omega
     have hj0 : (0 : Int) ≤ (j : Int) := by omega
     have hw1 : IntKind.i64.wrap ((j : Int) + 1 - 1) = j := by rw [IntKind.wrap_i64]; omega
     have hw2 : IntKind.i64.wrap (j : Int) = j := by rw [IntKind.wrap_i64]; omega
     go_region_held3 (fun W' => S W' ∧ W'.cell? ⟨g1, 0, none⟩ = some (.int .i64 k) ∧ W'.cell? ⟨g1, 1, none⟩ = some (.int .i64 ((j : Int) + 1)) ∧ W'.cell? ⟨g, 1 + k, none⟩ = some (.slice (some ⟨gv, 0, none⟩) (m.f k).length c) ∧ loadVal Tryz.prog 70 20 W' (.pointer (some ⟨gv, j * 20, none⟩)) = .ok (.agg (NV t)) W')
      (first | assumption | exact S0 | exact K2 _ _ (by assumption))
      (fail)
     have TF := HTE.out.drew.setRow (NV t)
     clear HTE S0 K2
     simp only [Exit.then]
     go_wp2_with fail
     refine ret_row2 (NV t) TInst_und rfl (by kernel_rfl) rfl rfl rfl (TInst_size _) TF.row ?_
     exact ⟨rfl, hg1 ▸ TF.below⟩
end Go.Proofs.YtomlilkobhkoiaaGreatDoor
/- Layer 3: rows of items: none as yet; the greatest number. -/
namespace Go.Proofs.YtomlilkobhkoiaaGreatDoor
open Go.RowKit
set_option linter.unusedVariables false
set_option maxRecDepth 20000
attribute [local go_sem] row_alloc row_drew row_drewN row_ext row_setCell row_setRow size_ext setRow_alloc setRow_drew loadOf storeOf piece_lit loadVal_at storeVal_at allOne_lit buildOf buildRes_some
attribute [local go_sem high] cell_alloc frozen_alloc setCell_alloc cell_ext frozen_ext cell_setRow frozen_setRow
attribute [local go_sem ↓] TDeed_ld0 TDeed_st0 TDeed_fd0 TDeed_bd0
attribute [local go_sem] TDeed_size TDeed_one TDeed_piece TDeed_c0 TDeed_c1 TDeed_c2 TDeed_c3 TDeed_c4 TDeed_c5 TDeed_set_kind TDeed_set_key TDeed_set_val TDeed_set_ver TDeed_set_ses TDeed_set_num TDeed_ld TDeed_st TDeed_f_kind TDeed_f_key TDeed_f_val TDeed_f_ver TDeed_f_ses TDeed_f_num TDeed_bd TDeed_fl TDeed_fl_kind TDeed_fl_key TDeed_fl_val TDeed_fl_ver TDeed_fl_ses TDeed_fl_num
attribute [local go_sem high] TDeed_eql TDeed_neq
attribute [local go_sem ↓] index_deps0 load_deps0 store_deps0
attribute [local go_sem] DV_piece DV_size DV_one index_deps load_deps store_deps
attribute [local go_sem high] TDeps_eql TDeps_neq
attribute [local go_sem ↓] TCall_ld0 TCall_st0 TCall_fd0 TCall_bd0
attribute [local go_sem] TCall_size TCall_one TCall_piece TCall_c0 TCall_c1 TCall_c2 TCall_c3 TCall_c4 TCall_c5 TCall_c6 TCall_c7 TCall_c8 TCall_c9 TCall_c10 TCall_c11 TCall_c12 TCall_c13 TCall_p_deed TCall_put_deed TCall_p_deps TCall_put_deps TCall_set_seq TCall_ld TCall_st TCall_f_deed TCall_f_deps TCall_f_seq TCall_bd TCall_fl TCall_fl_deed TCall_fl_deps TCall_fl_seq
attribute [local go_sem high] TCall_eql TCall_neq
attribute [local go_sem ↓] TItem_ld0 TItem_st0 TItem_fd0 TItem_bd0
attribute [local go_sem] TItem_size TItem_one TItem_piece TItem_c0 TItem_c1 TItem_set_rep TItem_set_num TItem_ld TItem_st TItem_f_rep TItem_f_num TItem_bd TItem_fl TItem_fl_rep TItem_fl_num
attribute [local go_sem high] TItem_eql TItem_neq
attribute [local go_sem ↓] TBallot_ld0 TBallot_st0 TBallot_fd0 TBallot_bd0
attribute [local go_sem] TBallot_size TBallot_one TBallot_piece TBallot_c0 TBallot_c1 TBallot_set_round TBallot_set_rep TBallot_ld TBallot_st TBallot_f_round TBallot_f_rep TBallot_bd TBallot_fl TBallot_fl_round TBallot_fl_rep
attribute [local go_sem high] TBallot_eql TBallot_neq
attribute [local go_sem ↓] TInst_ld0 TInst_st0 TInst_fd0 TInst_bd0
attribute [local go_sem] TInst_size TInst_one TInst_piece TInst_c0 TInst_c1 TInst_c2 TInst_c3 TInst_c4 TInst_c5 TInst_c6 TInst_c7 TInst_c8 TInst_c9 TInst_c10 TInst_c11 TInst_c12 TInst_c13 TInst_c14 TInst_c15 TInst_c16 TInst_c17 TInst_c18 TInst_c19 TInst_p_prom TInst_put_prom TInst_p_vote TInst_put_vote TInst_set_status TInst_p_call TInst_put_call TInst_set_same TInst_ld TInst_st TInst_f_prom TInst_f_vote TInst_f_status TInst_f_call TInst_f_same TInst_bd TInst_fl TInst_fl_prom TInst_fl_vote TInst_fl_status TInst_fl_call TInst_fl_same
attribute [local go_sem high] TInst_eql TInst_neq
attribute [local go_sem] rcells_n
def topM (m : RowsM) (rep : Int) : Int := if 0 ≤ rep ∧ rep < m.n then (m.f rep.toNat).length else 0
set_option maxHeartbeats 4000000 in
theorem irTopR (g : Nat) (m : RowsM) (hn : 0 ≤ m.n ∧ m.n ≤ 7) (rep : Int) :
  Reads Tryz.prog 54 #[.pointer (some ⟨g, 0, none⟩), .int .i64 rep] [rowsIR g m] (.int .i64 (topM m rep)) := by
 intro W G hS
 by_cases h0 : 0 ≤ rep
 ·by_cases h1 : rep < m.n
  ·obtain ⟨k, rfl⟩ := Int.eq_ofNat_of_zero_le h0
   have hk : k < 7 := by omega
   have hk7 : (k : Int) < 7 := by omega
   have ht : topM m k = ((m.f k).length : Int) := by
    unfold topM
    have e1 : ((k : Int)).toNat = k := by omega
    rw [if_pos ⟨h0, h1⟩, e1]
   rw [ht]
   obtain ⟨v, h, A, c, B, d, hv, -, hr, -⟩ := rows_facts hS hk
   have hcv : W.cell? ⟨g, 1 + k, none⟩ = some (.slice A (m.f k).length c) := by rw [row_cell hr, rcells_v _ _ _ _ hk, hv]
   have c0 : W.cell? ⟨g, 0, none⟩ = some (.int .i64 m.n) := row_cell hr 0
   have l0 := row_lt hr
   clear hS hr hv ht
   go_enter Tryz.func54, Tryz.ntmps54
   go_wp2
   go_ret
   exact ⟨rfl, Below.refl _ _⟩
  ·have ht : topM m rep = 0 := by unfold topM; rw [if_neg (fun h => h1 h.2)]
   rw [ht]
   obtain ⟨v, h, A, c, B, d, -, -, hr, -⟩ := rows_facts hS (k := 0) (by omega)
   have c0 : W.cell? ⟨g, 0, none⟩ = some (.int .i64 m.n) := row_cell hr 0
   have l0 := row_lt hr
   clear hS hr ht
   go_enter Tryz.func54, Tryz.ntmps54
   go_wp2
   go_ret
   exact ⟨rfl, Below.refl _ _⟩
 ·have ht : topM m rep = 0 := by unfold topM; rw [if_neg (fun h => h0 h.1)]
  rw [ht]
  obtain ⟨v, h, A, c, B, d, -, -, hr, -⟩ := rows_facts hS (k := 0) (by omega)
  have c0 : W.cell? ⟨g, 0, none⟩ = some (.int .i64 m.n) := row_cell hr 0
  have l0 := row_lt hr
  clear hS hr ht
  go_enter Tryz.func54, Tryz.ntmps54
  go_wp2
  go_ret
  exact ⟨rfl, Below.refl _ _⟩
def newN (n : Int) : Int := if n < 0 then 0 else if 7 < n then 7 else n
theorem pairs_nil {w W : World} {F : Nat → Prop} : ∀ (ks : List Nat) {R : List Res}, Sts w F W R → Sts w F W (ks.map (pairR (fun _ => []) (fun _ => .slice none 0 0) (fun _ => .slice none 0 0)) ++ R)
 | [], R, T => T
 | k :: ks, R, T => ((pairs_nil ks T).vecNil 4 1 |>.vecNil 70 20).join
set_option maxHeartbeats 4000000 in
theorem irNewT (n : Int) (hn : -9223372036854775808 ≤ n ∧ n ≤ 9223372036854775807) {w W : World} {F : Nat → Prop} {R : List Res} (T : Sts w F W R) :
  Calls Tryz.prog 57 #[.int .i64 n] W fun e W' => e = .returned (.pointer (some ⟨W.heap.size, 0, none⟩)) ∧ Sts w F W' (rowsIR W.heap.size ⟨newN n, fun _ => []⟩ :: R) := by
 have TN := T.new (rcells (newN n) (fun _ => .slice none 0 0) (fun _ => .slice none 0 0)) 216
 have TR : Sts w F (W.alloc (.cells (rcells (newN n) (fun _ => .slice none 0 0) (fun _ => .slice none 0 0)) 216)) (rowsIR W.heap.size ⟨newN n, fun _ => []⟩ :: R) := by
  have T1 := pairs_nil (List.range 7) TN
  have T2 := T1.perm List.perm_middle
  exact (Sts.pack (L := rowR W.heap.size (rcells (newN n) (fun _ => .slice none 0 0) (fun _ => .slice none 0 0)) :: (List.range 7).map (pairR (fun _ => []) (fun _ => .slice none 0 0) (fun _ => .slice none 0 0))) T2).close ((fun _ => .slice none 0 0), (fun _ => .slice none 0 0))
 have HR := Lib.hid TR; clear TN TR T
 by_cases h0 : n < 0
 ·have e : newN n = 0 := by unfold newN; rw [if_pos h0]
  rw [e] at HR ⊢
  go_enter Tryz.func57, Tryz.ntmps57
  go_wp2
  go_ret
  exact ⟨rfl, HR.out⟩
 ·by_cases h7 : 7 < n
  ·have e : newN n = 7 := by unfold newN; rw [if_neg h0, if_pos h7]
   rw [e] at HR ⊢
   go_enter Tryz.func57, Tryz.ntmps57
   go_wp2
   go_ret
   exact ⟨rfl, HR.out⟩
  ·have e : newN n = n := by unfold newN; rw [if_neg h0, if_neg h7]
   rw [e] at HR ⊢
   go_enter Tryz.func57, Tryz.ntmps57
   go_wp2
   go_ret
   exact ⟨rfl, HR.out⟩
end Go.Proofs.YtomlilkobhkoiaaGreatDoor
/- Slices of the call's own: a thing in its place. Nothing of the program stands here. -/
namespace Go.Proofs.YtomlilkobhkoiaaGreatDoor
open Go.RowKit
set_option linter.unusedVariables false
/-- The block of such a slice, and the slice behind a store of one thing. -/
theorem vec_at {α : Type} {V : α → Array Value} {size : Nat} (hV : ∀ x, (V x).size = size) {e : TypeId} {v : Value} {l : List α} {w W : World} {F : Nat → Prop} {R : List Res} (T : Sts w F W (vecR e size v l.length (vl V l) :: R)) (h0 : 0 < size) {j : Nat} (hj : j < l.length) :
  ∃ g c cur, v = .slice (some ⟨g, 0, none⟩) l.length c ∧ row? W g = some cur ∧ j * size + size ≤ cur.size ∧ ∀ x, Sts w F (W.setRow g (splice cur (j * size) (V x))) (vecR e size v l.length (vl V (l.set j x)) :: R) := by
 have hown := T.vec
 rcases hown.2 with ⟨_, h⟩ | ⟨g, cap, cur, rfl, hb, hg, hn, hm, hc, ht⟩
 ·omega
 ·have hle : l.length * size ≤ cap * size := Nat.mul_le_mul_right _ hn
  have hjs : j * size + size ≤ l.length * size := by
   have := Nat.mul_le_mul_right size (show j + 1 ≤ l.length from hj)
   rw [Nat.succ_mul] at this
   exact this
  refine ⟨g, cap, cur, rfl, by unfold row?; rw [hg]; rfl, by rw [hc]; omega, fun x => ?_⟩
  have hset : (W.setRow g (splice cur (j * size) (V x))).heap[g]? = some (.cells (splice cur (j * size) (V x)) e (0, 0)) := setRow_heap W g cur _ e (0, 0) hg
  have hlen : (vl V (l.set j x)).length = l.length * size := by
   unfold vl
   rw [Array.length_toList, flatV_size hV, List.length_set]
  refine T.turn fun A ha => ⟨A, ⟨⟨hlen, .inr ⟨g, cap, _, rfl, hb, hset, hn, hm, by rw [splice_size, hc], ?_⟩⟩, fun k => ha.2 k⟩, fun _ h => .inl h, rfl, rfl, rfl, by simp, fun k hk hn' => setRow_other W g k _ fun e => hn' ((ha.2 k).2 (by rw [e]; rfl))⟩
  apply List.ext_getElem?
  intro i
  rw [List.getElem?_take]
  by_cases hi : i < l.length * size
  ·rw [if_pos hi, Array.getElem?_toList, splice_get, hV]
   have hq : i / size < l.length := Nat.div_lt_of_lt_mul (by rw [Nat.mul_comm]; exact hi)
   have hr : i % size < size := Nat.mod_lt _ h0
   have hir : i / size * size + i % size = i := by rw [Nat.mul_comm]; exact Nat.div_add_mod i size
   have hold : cur[i]? = (V l[i / size])[i % size]? := by
    have h1 : (cur.toList.take (l.length * size))[i]? = (vl V l)[i]? := by rw [ht]
    rw [List.getElem?_take, if_pos hi, Array.getElem?_toList] at h1
    rw [h1]
    unfold vl
    rw [Array.getElem?_toList, ← flatV_get hV l (i / size) hq (i % size) hr, hir]
   have hq' : i / size < (l.set j x).length := by rw [List.length_set]; exact hq
   have hnew : (vl V (l.set j x))[i]? = (V ((l.set j x)[i / size]))[i % size]? := by
    unfold vl
    rw [Array.getElem?_toList, ← flatV_get hV (l.set j x) (i / size) hq' (i % size) hr, hir]
   rw [hnew, List.getElem_set]
   by_cases hqj : j = i / size
   ·rw [if_pos hqj]
    have hji : j * size + i % size = i := by rw [hqj]; exact hir
    rw [if_pos ⟨by omega, by omega, by rw [hc]; omega⟩]
    congr 1
    omega
   ·rw [if_neg hqj, hold, if_neg]
    rintro ⟨a, b, _⟩
    apply hqj
    exact (Nat.div_eq_of_lt_le a (by rw [Nat.succ_mul]; exact b)).symm
  ·rw [if_neg hi, List.getElem?_eq_none (by rw [hlen]; omega)]
theorem setCell_row (W : World) (g j : Nat) (u : Value) (cur : Array Value) (h : row? W g = some cur) : W.setCell ⟨g, j, none⟩ u = W.setRow g (cur.setIfInBounds j u) := by
 have h1 := setCells_row g [u] W j cur h
 have h2 : setMany cur j [u] = cur.setIfInBounds j u := rfl
 rw [h2] at h1
 rw [← h1]
 rfl
/-- The same for things of one cell. -/
theorem vec_at1 {α : Type} {V : α → Array Value} (hV : ∀ x, (V x).size = 1) {e : TypeId} {v : Value} {l : List α} {w W : World} {F : Nat → Prop} {R : List Res} (T : Sts w F W (vecR e 1 v l.length (vl V l) :: R)) {j : Nat} (hj : j < l.length) :
  ∃ g c cur, v = .slice (some ⟨g, 0, none⟩) l.length c ∧ row? W g = some cur ∧ j < cur.size ∧ ∀ x u, V x = #[u] → Sts w F (W.setCell ⟨g, j, none⟩ u) (vecR e 1 v l.length (vl V (l.set j x)) :: R) := by
 obtain ⟨g, c, cur, hv, hr, hs, hx⟩ := vec_at hV T (by omega) hj
 refine ⟨g, c, cur, hv, hr, by omega, fun x u hu => ?_⟩
 have h1 := hx x
 rw [hu, Nat.mul_one] at h1
 rw [setCell_row W g j u cur hr]
 exact h1
end Go.Proofs.YtomlilkobhkoiaaGreatDoor
