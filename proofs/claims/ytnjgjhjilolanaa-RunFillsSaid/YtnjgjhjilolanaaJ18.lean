/- Several texts in one. -/
import Derived.Test.YtnjgjhjilolanaaJ16
/- Layer 18: a search through a graph, in memory; a frame is left. -/
namespace Go.Proofs.Ytnjgjhjilolanaa
open Go.RowKit Go.Shelf
set_option linter.unusedVariables false
set_option maxRecDepth 20000
attribute [local go_sem] row_alloc row_drew row_drewN row_ext row_setCell row_setRow size_ext setRow_alloc setRow_drew loadOf storeOf piece_lit loadVal_at storeVal_at allOne_lit buildOf buildRes_some
attribute [local go_sem high] cell_alloc frozen_alloc setCell_alloc cell_ext frozen_ext cell_setRow frozen_setRow
attribute [local go_sem ↓] TDeed_ld0 TDeed_st0 TDeed_fd0 TDeed_bd0
attribute [local go_sem] TDeed_size TDeed_one TDeed_piece TDeed_c0 TDeed_c1 TDeed_c2 TDeed_c3 TDeed_c4 TDeed_c5 TDeed_set_kind TDeed_set_key TDeed_set_val TDeed_set_ver TDeed_set_ses TDeed_set_num TDeed_ld TDeed_st TDeed_f_kind TDeed_f_key TDeed_f_val TDeed_f_ver TDeed_f_ses TDeed_f_num TDeed_bd TDeed_fl TDeed_fl_kind TDeed_fl_key TDeed_fl_val TDeed_fl_ver TDeed_fl_ses TDeed_fl_num
attribute [local go_sem high] TDeed_eql TDeed_neq
attribute [local go_sem ↓] index_deps0 load_deps0 store_deps0
attribute [local go_sem] DV_piece DV_size DV_one index_deps load_deps store_deps
attribute [local go_sem high] TDeps_eql TDeps_neq
attribute [local go_sem ↓] TCall_ld0 TCall_st0 TCall_fd0 TCall_bd0
attribute [local go_sem] TCall_size TCall_one TCall_piece TCall_c0 TCall_c1 TCall_c2 TCall_c3 TCall_c4 TCall_c5 TCall_c6 TCall_c7 TCall_c8 TCall_c9 TCall_c10 TCall_c11 TCall_c12 TCall_c13 TCall_p_deed TCall_put_deed TCall_p_deps TCall_put_deps TCall_set_seq TCall_ld TCall_st TCall_f_deed TCall_f_deps TCall_f_seq TCall_bd TCall_fl TCall_fl_deed TCall_fl_deps TCall_fl_seq
attribute [local go_sem high] TCall_eql TCall_neq
attribute [local go_sem ↓] TItem_ld0 TItem_st0 TItem_fd0 TItem_bd0
attribute [local go_sem] TItem_size TItem_one TItem_piece TItem_c0 TItem_c1 TItem_set_rep TItem_set_num TItem_ld TItem_st TItem_f_rep TItem_f_num TItem_bd TItem_fl TItem_fl_rep TItem_fl_num
attribute [local go_sem high] TItem_eql TItem_neq
theorem min_if (a b : Int) : min a b = if b < a then b else a := by
  rw [Int.min_def]
  split <;> split <;> omega
section
variable {w W : World} {F : Nat → Prop} {R : List Res} {b gc gd : Nat} {m : RowsMK} {q : RowsML}
set_option maxHeartbeats 16000000 in
theorem grPopT {K : Nat} (hK : SortsTo K) (hK6 : K ≤ 1000000) {wk N : Nat} {A : WA} {S : WS} (hA : A.le N) (hN : N + 1 + K < maxLen) (hst : S.st.length ≤ K) (hpa : S.pa.length ≤ 1000000) (hm : 0 ≤ m.n ∧ m.n ≤ 7) {frs : List (Item × List Item)} {x : Item} (hfr : S.fr = frs ++ [(x, [])]) (hfl : frs.length ≤ 1000000) (hfi : ∀ f ∈ frs, InI f.1) (hx : InI x) (hin : ∀ y ∈ S.st, InI y) (hmem : idxN x S.st < S.st.length)
    (T : Sts w F W (wkL wk b A S ++ (grL b gc gd m q ++ R))) :
    Calls Try.prog 44 #[.pointer (some ⟨wk, 0, none⟩)] W fun e W' => e = .returned (.tuple #[]) ∧ ∃ A', A'.le (N + 1 + K) ∧ Sts w F W' (wkL wk b A' (popM m S frs x) ++ (grL b gc gd m q ++ R)) := by
  obtain ⟨bi, bl, bo, n1, n2, c2, n3, c3, vs, vf, vp, vm⟩ := A
  obtain ⟨ix, ci, lo, on, st, fr, pa, mi⟩ := S
  obtain ⟨hA1, hA2, hA3⟩ := hA
  dsimp only at hst hpa hA1 hA2 hA3 hin hmem hfr
  subst hfr
  have T : Sts w F W (rowR wk (wkC b bi bl bo vs vf vp vm) :: numR bi n1 ci ix :: numR bl n2 c2 lo :: bitR bo n3 c3 on :: vecR 35 2 vs st.length (vl IV st) :: frR vf (frs ++ [(x, [])]) :: paR vp pa :: vecR 35 2 vm mi.length (vl IV mi) :: (grL b gc gd m q ++ R)) := T
  have T := T.ord [5, 0, 2, 1, 3, 4, 6, 7]
  generalize hRR : bitR bo n3 c3 on :: vecR 35 2 vs st.length (vl IV st) :: paR vp pa :: vecR 35 2 vm mi.length (vl IV mi) :: (grL b gc gd m q ++ R) = RR at *
  have HRR := Lib.hid hRR; clear hRR
  obtain ⟨gv, u, hgv, T1⟩ := T.frLast
  obtain ⟨gf, cf, rfl, hcf⟩ := T1.frTop
  obtain ⟨au, cu, rfl, -, -⟩ := (T1.ord [2, 0, 1]).cut
  have T2 := T1.ord [3, 0, 4, 5, 1, 2]
  obtain ⟨nf, hnf⟩ : ∃ nf, nf = gv.length := ⟨_, rfl⟩
  obtain ⟨nl, hnl⟩ : ∃ nl, nl = gv.length + 1 := ⟨_, rfl⟩
  have hnfl : nf ≤ 1000000 := by rw [hnf]; rw [← hgv, List.length_map] at hfl; exact hfl
  have e1 : (nl : Int) - 1 = (nf : Int) := by omega
  have e2 : (nf : Int) < (nl : Int) := by omega
  have e3 : nl ≤ cf := by omega
  have e4 : nl ≤ 1000001 := by omega
  have e5 : IntKind.i64.wrap (nf : Int) = (nf : Int) := by rw [IntKind.wrap_i64] <;> omega
  have e6 : (0 : Int) ≤ (nf : Int) := by omega
  try simp only [List.length_nil] at T2
  rw [← hnl] at T2
  have HT := Lib.hid T2
  have HNF := Lib.hid hnf; have HNL := Lib.hid hnl; have HGV := Lib.hid hgv
  clear T T1 T2 hnf hnl hgv hcf
  have FS : ∀ W' X R', Sts w F W' (rowR wk X :: R') → X[5]? = some (.slice (some ⟨gf, 0, none⟩) nl cf) → (W'.cell? ⟨wk, 5, none⟩ = some (.slice (some ⟨gf, 0, none⟩) nl cf)) := fun W' X R' T h1 => by rw [row_cell T.row 5, h1]
  have HFS := Lib.hid FS
  have HT0 := Lib.hid HT.out.drew
  have S0 := HFS.out _ _ _ HT0.out rfl
  clear HT FS
  go_enter Try.func44, Try.ntmps44
  go_upto_region 0 with fail
  refine wp_region_held_drew (S := fun W' => (W'.cell? ⟨wk, 5, none⟩ = some (.slice (some ⟨gf, 0, none⟩) nl cf))) (by kernel_rfl) S0 (fun hHeld => ?_)
  clear S0
  refine tkH 0 rfl (v := ?_) ?_ ?_
  rotate_left
  · intro w h; (try dsimp only at h); go_simp; try with_reducible rfl
  simp only [Act.put, List.setIfInBounds_toArray, List.set_cons_zero, List.set_cons_succ]
  refine tkH 1 rfl (v := ?_) ?_ ?_
  rotate_left
  · intro w h; (try dsimp only at h); go_simp; try with_reducible rfl
  go_frame
  refine tkH 2 rfl (v := ?_) ?_ ?_
  rotate_left
  · intro w h; (try dsimp only at h); go_simp; try with_reducible rfl
  go_frame
  refine tkH 3 rfl (v := ?_) ?_ ?_
  rotate_left
  · intro w h; (try dsimp only at h); go_simp; try with_reducible rfl
  go_frame
  refine tkH 4 rfl (v := ?_) ?_ ?_
  rotate_left
  · intro w h; (try dsimp only at h); go_simp; try with_reducible rfl
  go_frame
  refine tkH 5 rfl (v := ?_) ?_ ?_
  rotate_left
  · intro w h; (try dsimp only at h); go_simp; try with_reducible rfl
  go_frame
  refine tkH 6 rfl (v := ?_) ?_ ?_
  rotate_left
  · intro w h; (try dsimp only at h); go_simp; try with_reducible rfl
  go_frame
  refine tkH 7 rfl (v := ?_) ?_ ?_
  rotate_left
  · intro w h; (try dsimp only at h); go_simp; try with_reducible rfl
  go_frame
  refine tkH 8 rfl (v := ?_) ?_ ?_
  rotate_left
  · intro w h; (try dsimp only at h); go_simp; try with_reducible rfl
  go_frame
  refine tkH 9 rfl (v := ?_) ?_ ?_
  rotate_left
  · intro w h; (try dsimp only at h); go_simp; try with_reducible rfl
  go_frame
  refine tkH 10 rfl (v := ?_) ?_ ?_
  rotate_left
  · intro w h; (try dsimp only at h); go_simp; try with_reducible rfl
  go_frame
  refine tkH 11 rfl (v := ?_) ?_ ?_
  rotate_left
  · intro w h; (try dsimp only at h); go_simp; try with_reducible rfl
  go_frame
  refine wpAnyH_done (by kernel_rfl) ?_ _
  try simp only [Exit.then]
  generalize W.drew = w1 at *
  have hfc := (HT0.out.ord [1, 0]).frCells
  rw [← HNF.out] at hfc
  obtain ⟨l1, l2, l3⟩ := hfc
  go_upto_region 3 with fail
  have Ta := (HT0.out.new (IV x) 35).ord [1, 0]
  have HT := Lib.hid Ta
  clear HT0 Ta l1 l2 l3 hHeld
  generalize hw2 : w1.alloc _ = w2 at *
  generalize w1.heap.size = gx at *
  clear hw2
  have HT0 := Lib.hid HT.out.drew
  have S0 := HFS.out _ _ _ HT0.out rfl
  have HM := Lib.hid (show ∀ W' : World, (W'.cell? ⟨wk, 5, none⟩ = some (.slice (some ⟨gf, 0, none⟩) nl cf)) → True from fun _ _ => trivial)
  clear HT
  refine wp_region_stage (fun W' => (W'.cell? ⟨wk, 5, none⟩ = some (.slice (some ⟨gf, 0, none⟩) nl cf))) (fun _ => True) 14 (by kernel_rfl) S0 (fun hHeld => ?_)
  clear S0
  have e7 : (nf : Int) ≤ (cf : Int) := by omega
  refine tk0 0 rfl (v := ?_) ?_ ?_
  rotate_left
  · intro w h; (try dsimp only at h); go_simp; try with_reducible rfl
  simp only [Act.put, List.setIfInBounds_toArray, List.set_cons_zero, List.set_cons_succ]
  refine tk0 1 rfl (v := ?_) ?_ ?_
  rotate_left
  · intro w h; (try dsimp only at h); go_simp; try with_reducible rfl
  go_frame
  refine tk0 2 rfl (v := ?_) ?_ ?_
  rotate_left
  · intro w h; (try dsimp only at h); go_simp; try with_reducible rfl
  go_frame
  refine tk0 3 rfl (v := ?_) ?_ ?_
  rotate_left
  · intro w h; (try dsimp only at h); go_simp; try with_reducible rfl
  go_frame
  refine tk0 4 rfl (v := ?_) ?_ ?_
  rotate_left
  · intro w h; (try dsimp only at h); go_simp; try with_reducible rfl
  go_frame
  refine tk0 5 rfl (v := ?_) ?_ ?_
  rotate_left
  · intro w h; (try dsimp only at h); go_simp; try with_reducible rfl
  go_frame
  refine tk0 6 rfl (v := ?_) ?_ ?_
  rotate_left
  · intro w h; (try dsimp only at h); go_simp; try with_reducible rfl
  go_frame
  refine tk0 7 rfl (v := ?_) ?_ ?_
  rotate_left
  · intro w h; (try dsimp only at h); go_simp; try with_reducible rfl
  go_frame
  refine tk0 8 rfl (v := ?_) ?_ ?_
  rotate_left
  · intro w h; (try dsimp only at h); go_simp; try with_reducible rfl
  go_frame
  refine tk0 9 rfl (v := ?_) ?_ ?_
  rotate_left
  · intro w h; (try dsimp only at h); go_simp; try with_reducible rfl
  go_frame
  refine tk0 10 rfl (v := ?_) ?_ ?_
  rotate_left
  · intro w h; (try dsimp only at h); go_simp; try with_reducible rfl
  go_frame
  refine tk0 11 rfl (v := ?_) ?_ ?_
  rotate_left
  · intro w h; (try dsimp only at h); go_simp; try with_reducible rfl
  go_frame
  refine tk1 12 HM.out rfl (v := ?_) ?_ ?_
  rotate_left
  · intro w h; (try dsimp only at h); go_simp; try with_reducible rfl
  simp only [Act.put, List.setIfInBounds_toArray, List.set_cons_zero, List.set_cons_succ]
  refine tk0 13 rfl (v := ?_) ?_ ?_
  rotate_left
  · intro w h; (try dsimp only at h); go_simp; try with_reducible rfl
  simp only [Act.put, List.setIfInBounds_toArray, List.set_cons_zero, List.set_cons_succ]
  generalize w2.drew = w3 at *
  have hf := row_frozen HT0.out.row 5
  have T2 := HT0.out.setCell 5 (.slice (some ⟨gf, 0, none⟩) nf cf)
  have HT2 := Lib.hid T2; clear T2 HT0
  refine wpAnyL_ready (rs := [14]) (by kernel_rfl) (by simp) ?_
  refine AllReadyL.cons1 (o := _) rfl (by kernel_rfl) (fun K hK => ?_) AllReadyL.nil
  go_simp
  refine hK.out _ _ trivial (fun hHeld => ?_)
  clear hK K hf HFS HM
  refine wpAnyL_done (by kernel_rfl) ?_ _
  try simp only [Exit.then]
  generalize w3.setCell _ _ = w4 at *
  have T3 : Sts w F w4 (rowR wk (wkC b bi bl bo vs (.slice (some ⟨gf, 0, none⟩) nf cf) vp vm) :: rowR gx (IV x) :: vecR 105 3 (.slice (some ⟨gf, 0, none⟩) nl cf) (gv ++ [(x, Value.slice au 0 cu, ([] : List Item))]).length (vl FV (gv ++ [(x, Value.slice au 0 cu, ([] : List Item))])) :: numR bl n2 c2 lo :: numR bi n1 ci ix :: packR (gv.map (fun f => cutR f.2.1 f.2.2)) :: cutR (.slice au 0 cu) [] :: RR) := HT2.out
  have T4 := (T3.ord [2, 5, 0, 1, 3, 4]).vecShort (k := gv.length) FV_size (by simp) (A := some ⟨gf, 0, none⟩) (c := cf) (by rw [HNL.out]; simp)
  rw [List.take_left] at T4
  have T5 := T4.frShut2
  rw [HGV.out, ← HNF.out] at T5
  have T6 := (T5.ord [5, 1, 2, 0, 3, 4]).drop
  have HT := Lib.hid T6
  have hnf : nf = frs.length := by rw [HNF.out, ← HGV.out, List.length_map]
  have HNF2 := Lib.hid hnf
  clear HT2 T3 T4 T5 T6 HNF HNL HGV hnf e1 e2 e3 e4 e7
  obtain ⟨lo', hlo'⟩ : ∃ lo', lo' = upM lo frs x := ⟨_, rfl⟩
  go_step
  go_step
  go_cut [4] from 43 to 79 (fun u4 wx => Sts w F wx [] ∧ ∃ n2' c2', n2' ≤ n2 + 1 ∧ Sts w F wx (rowR wk (wkC b bi bl bo vs (.slice (some ⟨gf, 0, none⟩) nf cf) vp vm) :: rowR gx (IV x) :: frR (.slice (some ⟨gf, 0, none⟩) nf cf) frs :: numR bl n2' c2' lo' :: numR bi n1 ci ix :: RR))
  case first =>
    rcases List.eq_nil_or_concat frs with rfl | ⟨frs', ⟨up, lu⟩, rfl⟩
    · obtain rfl : nf = 0 := HNF2.out
      obtain rfl : lo' = lo := hlo'
      have r := HT.out.row; have lr := row_lt r
      have c5 : w4.cell? ⟨wk, 5, none⟩ = some (.slice (some ⟨gf, 0, none⟩) 0 cf) := by rw [row_cell r 5]; rfl
      go_wp2
      go_meet
      case rel => exact ⟨HT.out.nil, n2, c2, by omega, HT.out⟩
    · rw [List.concat_eq_append] at *
      rw [upM_snoc] at hlo'
      have hup : InI up := hfi (up, lu) (by simp)
      have hnf0 : (0 : Int) < (nf : Int) := by rw [HNF2.out, List.length_append, List.length_singleton]; omega
      have hnf1 : 0 < nf := by omega
      obtain ⟨gv2, u2, hgv2, T1⟩ := (HT.out.ord [2, 0, 1]).frLast
      obtain ⟨nu, hnu⟩ : ∃ nu, nu = gv2.length := ⟨_, rfl⟩
      have e1 : (nf : Int) - 1 = (nu : Int) := by
        rw [HNF2.out, hnu, List.length_append, List.length_singleton, ← hgv2, List.length_map]; omega
      have e2 : (nu : Int) < (nf : Int) := by omega
      have e7 : IntKind.i64.wrap (nu : Int) = (nu : Int) := by rw [IntKind.wrap_i64] <;> omega
      have e8 : (0 : Int) ≤ (nu : Int) := by omega
      have r := HT.out.row; have lr := row_lt r
      have c5 : w4.cell? ⟨wk, 5, none⟩ = some (.slice (some ⟨gf, 0, none⟩) nf cf) := by rw [row_cell r 5]; rfl
      have T2 := T1.ord [0, 3, 4, 1, 2, 5, 6]
      have HT2 := Lib.hid T2.drew
      have HNU := Lib.hid hnu; have HGV2 := Lib.hid hgv2
      clear T1 T2 hnu hgv2
      have FS : ∀ W' X R', Sts w F W' (vecR 105 3 (.slice (some ⟨gf, 0, none⟩) nf cf) (gv2 ++ [(up, u2, lu)]).length (vl FV (gv2 ++ [(up, u2, lu)])) :: rowR wk X :: R') → X[5]? = some (.slice (some ⟨gf, 0, none⟩) nf cf) → (W'.cell? ⟨wk, 5, none⟩ = some (.slice (some ⟨gf, 0, none⟩) nf cf) ∧ loadVal Try.prog 35 2 W' (.pointer (some ⟨gf, nu * 3, none⟩)) = .ok (.agg (IV up)) W') := fun W' X R' T h1 => ⟨by rw [row_cell T.row1 5, h1], by rw [HNU.out]; exact T.frCells.2.1⟩
      have HFS := Lib.hid FS
      have S0 := HFS.out _ _ _ HT2.out rfl
      go_upto_region 5 with fail
      clear c5 r lr FS HT
      refine wp_region_held_drew (S := fun W' => (W'.cell? ⟨wk, 5, none⟩ = some (.slice (some ⟨gf, 0, none⟩) nf cf) ∧ loadVal Try.prog 35 2 W' (.pointer (some ⟨gf, nu * 3, none⟩)) = .ok (.agg (IV up)) W')) (by kernel_rfl) S0 (fun hHeld => ?_)
      clear S0
      refine tkH 0 rfl (v := ?_) ?_ ?_
      rotate_left
      · intro w h; (try dsimp only at h); go_simp; try with_reducible rfl
      simp only [Act.put, List.setIfInBounds_toArray, List.set_cons_zero, List.set_cons_succ]
      refine tkH 1 rfl (v := ?_) ?_ ?_
      rotate_left
      · intro w h; (try dsimp only at h); go_simp; try with_reducible rfl
      go_frame
      refine tkH 2 rfl (v := ?_) ?_ ?_
      rotate_left
      · intro w h; (try dsimp only at h); go_simp; try with_reducible rfl
      go_frame
      refine tkH 3 rfl (v := ?_) ?_ ?_
      rotate_left
      · intro w h; (try dsimp only at h); go_simp; try with_reducible rfl
      go_frame
      refine tkH 4 rfl (v := ?_) ?_ ?_
      rotate_left
      · intro w h; (try dsimp only at h); go_simp; try with_reducible rfl
      go_frame
      refine tkH 5 rfl (v := ?_) ?_ ?_
      rotate_left
      · intro w h; (try dsimp only at h); go_simp; try with_reducible rfl
      go_frame
      refine tkH 6 rfl (v := ?_) ?_ ?_
      rotate_left
      · intro w h; (try dsimp only at h); go_simp; try with_reducible rfl
      go_frame
      refine tkH 7 rfl (v := ?_) ?_ ?_
      rotate_left
      · intro w h; (try dsimp only at h); go_simp; try with_reducible rfl
      go_frame
      refine tkH 8 rfl (v := ?_) ?_ ?_
      rotate_left
      · intro w h; (try dsimp only at h); go_simp; try with_reducible rfl
      go_frame
      refine tkH 9 rfl (v := ?_) ?_ ?_
      rotate_left
      · intro w h; (try dsimp only at h); go_simp; try with_reducible rfl
      go_frame
      refine tkH 10 rfl (v := ?_) ?_ ?_
      rotate_left
      · intro w h; (try dsimp only at h); go_simp; try with_reducible rfl
      go_frame
      refine tkH 11 rfl (v := ?_) ?_ ?_
      rotate_left
      · intro w h; (try dsimp only at h); go_simp; try with_reducible rfl
      go_frame
      refine tkH 12 rfl (v := ?_) ?_ ?_
      rotate_left
      · intro w h; (try dsimp only at h); go_simp; try with_reducible rfl
      go_frame
      generalize w4.drew = w5 at *
      have T1 := HT2.out.new #[.int .i64 0, .int .i64 0] 35
      have r1 := T1.row; have l1 := row_lt r1
      have HT1 := Lib.hid T1; clear T1
      refine wpAnyH_ready (rs := [13]) (by kernel_rfl) (by simp) ?_
      refine AllReadyH.cons (o := _) rfl (fun K hK => ?_) AllReadyH.nil
      go_simp
      refine hK.out _ _ (HFS.out _ _ _ (HT1.out.ord [1, 2, 0]) rfl) (fun hHeld => ?_)
      clear hK K
      have T3 := HT2.out.new (IV up) 35
      have HT3 := Lib.hid T3; clear T3 HT2
      refine wpAnyH_ready (rs := [14]) (by kernel_rfl) (by simp) ?_
      refine AllReadyH.cons (o := _) rfl (fun K hK => ?_) AllReadyH.nil
      go_simp
      refine hK.out _ _ (HFS.out _ _ _ (HT3.out.ord [1, 2, 0]) rfl) (fun hHeld => ?_)
      clear hK K r1 l1 HT1 HFS
      refine wpAnyH_done (by kernel_rfl) ?_ _
      try simp only [Exit.then]
      generalize w5.alloc (.cells (IV up) 35) = w6 at *
      generalize w5.heap.size = gu at *
      have T4 := (HT3.out.ord [1, 4, 5, 2, 0, 3]).frShut3
      rw [HGV2.out] at T4
      have T5 := (T4.ord [1, 2, 3, 4, 0]).drew
      have HT := Lib.hid T5
      clear HT3 T4 T5
      have FS : ∀ W' X R', Sts w F W' (rowR wk X :: rowR gu (IV up) :: rowR gx (IV x) :: numR bl n2 c2 lo :: R') → X[2]? = some (.map (some bl)) → (W'.cell? ⟨wk, 2, none⟩ = some (.map (some bl)) ∧ row? W' gu = some (IV up) ∧ row? W' gx = some (IV x) ∧ (Instr.lookup 64 (.map (some bl)) (.agg (IV up)) false).run Try.prog W' = .ok (.int .i64 (valN lo up)) W' ∧ (Instr.lookup 64 (.map (some bl)) (.agg (IV x)) false).run Try.prog W' = .ok (.int .i64 (valN lo x)) W') := fun W' X R' T h1 => ⟨by rw [row_cell T.row 2, h1], T.row1, T.row2, (T.ord [3, 0, 1, 2]).lookN up hup, (T.ord [3, 0, 1, 2]).lookN x hx⟩
      have HFS := Lib.hid FS
      have S0 := HFS.out _ _ _ HT.out rfl
      have HM := Lib.hid (show ∀ W' : World, (W'.cell? ⟨wk, 2, none⟩ = some (.map (some bl)) ∧ row? W' gu = some (IV up) ∧ row? W' gx = some (IV x) ∧ (Instr.lookup 64 (.map (some bl)) (.agg (IV up)) false).run Try.prog W' = .ok (.int .i64 (valN lo up)) W' ∧ (Instr.lookup 64 (.map (some bl)) (.agg (IV x)) false).run Try.prog W' = .ok (.int .i64 (valN lo x)) W') → True from fun _ _ => trivial)
      obtain ⟨w7, h7, T7, hsz⟩ := (HT.out.ord [3, 0, 1, 2]).mapCPut itemOk Try.underlying64 (by omega) up hup (if valN lo x < valN lo up then valN lo x else valN lo up)
      rw [← min_if, ← hlo'] at T7
      have HT7 := Lib.hid (T7.ord [2, 1, 3, 4, 0]).drop; have H7 := Lib.hid h7
      clear FS HT T7 hsz h7 hlo'
      generalize valN lo up = v1 at *
      generalize valN lo x = v2 at *
      go_upto_region 6 with fail
      refine wp_region_stage (fun W' => (W'.cell? ⟨wk, 2, none⟩ = some (.map (some bl)) ∧ row? W' gu = some (IV up) ∧ row? W' gx = some (IV x) ∧ (Instr.lookup 64 (.map (some bl)) (.agg (IV up)) false).run Try.prog W' = .ok (.int .i64 v1) W' ∧ (Instr.lookup 64 (.map (some bl)) (.agg (IV x)) false).run Try.prog W' = .ok (.int .i64 v2) W')) (fun _ => True) 18 (by kernel_rfl) S0 (fun hHeld => ?_)
      clear S0
      refine tk0 0 rfl (v := ?_) ?_ ?_
      rotate_left
      · intro w h; (try dsimp only at h); go_simp; try with_reducible rfl
      simp only [Act.put, List.setIfInBounds_toArray, List.set_cons_zero, List.set_cons_succ]
      refine tk0 1 rfl (v := ?_) ?_ ?_
      rotate_left
      · intro w h; (try dsimp only at h); go_simp; try with_reducible rfl
      go_frame
      refine tk0 2 rfl (v := ?_) ?_ ?_
      rotate_left
      · intro w h; (try dsimp only at h); go_simp; try with_reducible rfl
      go_frame
      refine tk0 3 rfl (v := ?_) ?_ ?_
      rotate_left
      · intro w h; (try dsimp only at h); go_simp; try with_reducible rfl
      go_frame
      refine tk0 4 rfl (v := ?_) ?_ ?_
      rotate_left
      · intro w h; (try dsimp only at h); go_simp; try with_reducible rfl
      go_frame
      refine tk0 5 rfl (v := ?_) ?_ ?_
      rotate_left
      · intro w h; (try dsimp only at h); go_simp; try with_reducible rfl
      go_frame
      refine tk0 6 rfl (v := ?_) ?_ ?_
      rotate_left
      · intro w h; (try dsimp only at h); go_simp; try with_reducible rfl
      go_frame
      refine tk0 7 rfl (v := ?_) ?_ ?_
      rotate_left
      · intro w h; (try dsimp only at h); go_simp; try with_reducible rfl
      go_frame
      refine tk0 8 rfl (v := ?_) ?_ ?_
      rotate_left
      · intro w h; (try dsimp only at h); go_simp; try with_reducible rfl
      go_frame
      refine tk0 9 rfl (v := ?_) ?_ ?_
      rotate_left
      · intro w h; (try dsimp only at h); go_simp; try with_reducible rfl
      go_frame
      refine tk0 10 rfl (v := ?_) ?_ ?_
      rotate_left
      · intro w h; (try dsimp only at h); go_simp; try with_reducible rfl
      go_frame
      refine tk0 11 rfl (v := ?_) ?_ ?_
      rotate_left
      · intro w h; (try dsimp only at h); go_simp; try with_reducible rfl
      go_frame
      refine tk0 12 rfl (v := ?_) ?_ ?_
      rotate_left
      · intro w h; (try dsimp only at h); go_simp; try with_reducible rfl
      go_frame
      refine tk0 13 rfl (v := ?_) ?_ ?_
      rotate_left
      · intro w h; (try dsimp only at h); go_simp; try with_reducible rfl
      go_frame
      refine tk0 14 rfl (v := ?_) ?_ ?_
      rotate_left
      · intro w h; (try dsimp only at h); go_simp; try with_reducible rfl
      go_frame
      refine tk0 15 rfl (v := ?_) ?_ ?_
      rotate_left
      · intro w h; (try dsimp only at h); go_simp; try with_reducible rfl
      go_frame
      refine tk0 16 rfl (v := ?_) ?_ ?_
      rotate_left
      · intro w h; (try dsimp only at h); go_simp; try with_reducible rfl
      go_frame
      refine tk0 17 rfl (v := ?_) ?_ ?_
      rotate_left
      · intro w h; (try dsimp only at h); go_simp; try with_reducible rfl
      go_frame
      have h7 := H7.out
      refine wpAnyL_ready (rs := [18]) (by kernel_rfl) (by simp) ?_
      refine AllReadyL.cons1 (o := _) rfl (by kernel_rfl) (fun K hK => ?_) AllReadyL.nil
      go_simp
      refine hK.out _ _ trivial (fun hHeld => ?_)
      clear hK K HFS HM H7 h7
      refine wpAnyL_done (by kernel_rfl) ?_ _
      try simp only [Exit.then]
      generalize ite (v2 < v1) v2 v1 = kk at *
      go_wp2
      go_meet
      case rel => exact ⟨HT7.out.nil, _, _, Nat.le_refl _, HT7.out⟩
  case rest =>
    obtain ⟨-, n2', c2', hn2, T⟩ := hcut
    have FS : ∀ W' X R', Sts w F W' (rowR wk X :: rowR gx (IV x) :: frR (.slice (some ⟨gf, 0, none⟩) nf cf) frs :: numR bl n2' c2' lo' :: numR bi n1 ci ix :: R') → X[1]? = some (.map (some bi)) → X[2]? = some (.map (some bl)) → (W'.cell? ⟨wk, 1, none⟩ = some (.map (some bi)) ∧ W'.cell? ⟨wk, 2, none⟩ = some (.map (some bl)) ∧ row? W' gx = some (IV x) ∧ (Instr.lookup 64 (.map (some bl)) (.agg (IV x)) false).run Try.prog W' = .ok (.int .i64 (valN lo' x)) W' ∧ (Instr.lookup 64 (.map (some bi)) (.agg (IV x)) false).run Try.prog W' = .ok (.int .i64 (valN ix x)) W') := fun W' X R' T h1 h2 => ⟨by rw [row_cell T.row 1, h1], by rw [row_cell T.row 2, h2], T.row1, (T.ord [3, 0, 1, 2]).lookN x hx, (T.ord [4, 0, 1, 2, 3]).lookN x hx⟩
    have HT2 := Lib.hid T.drew
    have S0 := FS _ _ _ HT2.out rfl rfl
    clear T FS HT
    obtain ⟨v1, hv1⟩ : ∃ v1, v1 = valN lo' x := ⟨_, rfl⟩
    obtain ⟨v2, hv2⟩ : ∃ v2, v2 = valN ix x := ⟨_, rfl⟩
    rw [← hv1, ← hv2] at S0
    have HV1 := Lib.hid hv1; have HV2 := Lib.hid hv2; have HLO := Lib.hid hlo'
    clear hv1 hv2 hlo'
    go_upto_region 7 with fail
    refine wp_region_held_drew (S := fun W' => (W'.cell? ⟨wk, 1, none⟩ = some (.map (some bi)) ∧ W'.cell? ⟨wk, 2, none⟩ = some (.map (some bl)) ∧ row? W' gx = some (IV x) ∧ (Instr.lookup 64 (.map (some bl)) (.agg (IV x)) false).run Try.prog W' = .ok (.int .i64 v1) W' ∧ (Instr.lookup 64 (.map (some bi)) (.agg (IV x)) false).run Try.prog W' = .ok (.int .i64 v2) W')) (by kernel_rfl) S0 (fun hHeld => ?_)
    clear S0
    refine tkH 0 rfl (v := ?_) ?_ ?_
    rotate_left
    · intro w h; (try dsimp only at h); go_simp; try with_reducible rfl
    simp only [Act.put, List.setIfInBounds_toArray, List.set_cons_zero, List.set_cons_succ]
    refine tkH 1 rfl (v := ?_) ?_ ?_
    rotate_left
    · intro w h; (try dsimp only at h); go_simp; try with_reducible rfl
    go_frame
    refine tkH 2 rfl (v := ?_) ?_ ?_
    rotate_left
    · intro w h; (try dsimp only at h); go_simp; try with_reducible rfl
    go_frame
    refine tkH 3 rfl (v := ?_) ?_ ?_
    rotate_left
    · intro w h; (try dsimp only at h); go_simp; try with_reducible rfl
    go_frame
    refine tkH 4 rfl (v := ?_) ?_ ?_
    rotate_left
    · intro w h; (try dsimp only at h); go_simp; try with_reducible rfl
    go_frame
    refine tkH 5 rfl (v := ?_) ?_ ?_
    rotate_left
    · intro w h; (try dsimp only at h); go_simp; try with_reducible rfl
    go_frame
    refine tkH 6 rfl (v := ?_) ?_ ?_
    rotate_left
    · intro w h; (try dsimp only at h); go_simp; try with_reducible rfl
    go_frame
    refine tkH 7 rfl (v := ?_) ?_ ?_
    rotate_left
    · intro w h; (try dsimp only at h); go_simp; try with_reducible rfl
    go_frame
    refine tkH 8 rfl (v := ?_) ?_ ?_
    rotate_left
    · intro w h; (try dsimp only at h); go_simp; try with_reducible rfl
    go_frame
    refine tkH 9 rfl (v := ?_) ?_ ?_
    rotate_left
    · intro w h; (try dsimp only at h); go_simp; try with_reducible rfl
    go_frame
    refine tkH 10 rfl (v := ?_) ?_ ?_
    rotate_left
    · intro w h; (try dsimp only at h); go_simp; try with_reducible rfl
    go_frame
    refine tkH 11 rfl (v := ?_) ?_ ?_
    rotate_left
    · intro w h; (try dsimp only at h); go_simp; try with_reducible rfl
    go_frame
    refine tkH 12 rfl (v := ?_) ?_ ?_
    rotate_left
    · intro w h; (try dsimp only at h); go_simp; try with_reducible rfl
    go_frame
    refine wpAnyH_done (by kernel_rfl) ?_ _
    try simp only [Exit.then]
    generalize World.drew _ = w8 at *
    clear hHeld
    have T2 := HT2.out.ord [0, 4, 3, 2, 1]
    rw [← HRR.out] at T2
    have T3 : Sts w F w8 (rowR wk (wkC b bi bl bo vs (.slice (some ⟨gf, 0, none⟩) nf cf) vp vm) :: numR bi n1 ci ix :: numR bl n2' c2' lo' :: frR (.slice (some ⟨gf, 0, none⟩) nf cf) frs :: rowR gx (IV x) :: bitR bo n3 c3 on :: vecR 35 2 vs st.length (vl IV st) :: paR vp pa :: vecR 35 2 vm mi.length (vl IV mi) :: rowR b #[.pointer (some ⟨gc, 0, none⟩), .pointer (some ⟨gd, 0, none⟩)] :: rowsIRK gc m :: rowsIRL gd q :: R) := T2
    have T4 := T3.ord [0, 1, 2, 5, 6, 3, 7, 8, 9, 10, 11, 4]
    have HT := Lib.hid T4
    clear T2 T3 T4 HT2 HRR
    by_cases hv : v1 = v2
    · have hp : popM m ⟨ix, ci, lo, on, st, frs ++ [(x, [])], pa, mi⟩ frs x = partM m x ⟨ix, ci, lo', on, st, frs, pa, mi⟩ := by
        unfold popM
        dsimp only
        rw [if_pos (by rw [← HLO.out, ← HV1.out, ← HV2.out]; exact hv), ← HLO.out]
      have HPM := Lib.hid hp
      have HP := Lib.hid (grPartT (R := rowR gx (IV x) :: R) (wk := wk) (N := N + 1) (A := ⟨bi, bl, bo, n1, n2', c2', n3, c3, vs, .slice (some ⟨gf, 0, none⟩) nf cf, vp, vm⟩) (S := ⟨ix, ci, lo', on, st, frs, pa, mi⟩) hK hK6 ⟨by dsimp only; omega, by dsimp only; omega, by dsimp only; omega⟩ hN hst hpa hm x hin hmem HT.out)
      have hr := (HT.out.ord [11, 0, 1, 2, 3, 4, 5, 6, 7, 8, 9, 10]).row
      have hlt := row_lt hr
      clear hp
      go_wp2_with fail
      refine HP.out.mono ?_
      clear HP HT hr hlt
      rintro e5 w5 ⟨rfl, A', hA', T⟩
      have T : Sts w F w5 (wkL wk b A' (partM m x ⟨ix, ci, lo', on, st, frs, pa, mi⟩) ++ (grL b gc gd m q ++ rowR gx (IV x) :: R)) := T
      have HT := Lib.hid T; clear T
      go_wp2
      try simp only [Exit.inBlock, Exit.then]
      refine bodyPost_ret (results_none rfl _ _ _) rfl ?_
      rw [HPM.out]
      refine ⟨rfl, A', hA', ?_⟩
      have T5 : Sts w F w5 (rowR gx (IV x) :: ((wkL wk b A' (partM m x ⟨ix, ci, lo', on, st, frs, pa, mi⟩) ++ grL b gc gd m q) ++ R)) := HT.out.perm (by
        rw [← List.append_assoc]
        exact List.perm_middle)
      have T6 := T5.drop
      rw [List.append_assoc] at T6
      exact T6
    · have hp : popM m ⟨ix, ci, lo, on, st, frs ++ [(x, [])], pa, mi⟩ frs x = ⟨ix, ci, lo', on, st, frs, pa, mi⟩ := by
        unfold popM
        dsimp only
        rw [if_neg (by rw [← HLO.out, ← HV1.out, ← HV2.out]; exact hv), ← HLO.out]
      have HPM := Lib.hid hp
      clear hp
      go_wp2
      try simp only [Exit.inBlock, Exit.then]
      refine bodyPost_ret (results_none rfl _ _ _) rfl ?_
      rw [HPM.out]
      refine ⟨rfl, ⟨bi, bl, bo, n1, n2', c2', n3, c3, vs, .slice (some ⟨gf, 0, none⟩) nf cf, vp, vm⟩, ⟨by dsimp only; omega, by dsimp only; omega, by dsimp only; omega⟩, ?_⟩
      have T5 := (HT.out.ord [11, 0, 1, 2, 3, 4, 5, 6, 7, 8, 9, 10]).drop
      exact T5
end
end Go.Proofs.Ytnjgjhjilolanaa
