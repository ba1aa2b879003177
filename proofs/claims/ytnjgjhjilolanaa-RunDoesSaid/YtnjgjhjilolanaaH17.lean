/- Several texts in one. -/
import Derived.Test.YtnjgjhjilolanaaH15
/- Layer 18: a search through a graph, in memory; a frame goes on. -/
namespace Go.Proofs.Ytnjgjhjilolanaa
open Go.RowKit Go.Shelf
set_option linter.unusedVariables false
set_option maxRecDepth 20000
attribute [local go_sem] row_alloc row_drew row_drewN row_ext row_setCell row_setRow size_ext setRow_alloc setRow_drew loadOf storeOf piece_lit loadVal_at storeVal_at allOne_lit buildOf buildRes_some
attribute [local go_sem high] cell_alloc frozen_alloc setCell_alloc cell_ext frozen_ext cell_setRow frozen_setRow
attribute [local go_sem ↓] TDeed_ld0 TDeed_st0 TDeed_fd0 TDeed_bd0
attribute [local go_sem] TDeed_size TDeed_one TDeed_piece TDeed_c0 TDeed_c1 TDeed_c2 TDeed_c3 TDeed_c4 TDeed_c5 TDeed_set_kind TDeed_set_key TDeed_set_val TDeed_set_ver TDeed_set_ses TDeed_set_num TDeed_ld TDeed_st TDeed_f_kind TDeed_f_key TDeed_f_val TDeed_f_ver TDeed_f_ses TDeed_f_num TDeed_bd TDeed_fl TDeed_fl_kind TDeed_fl_key TDeed_fl_val TDeed_fl_ver TDeed_fl_ses TDeed_fl_num
attribute [local go_sem high] TDeed_eql TDeed_neq
attribute [local go_sem ↓] index_deps0 load_deps0 store_deps0
attribute [local go_sem] DV_piece DV_size DV_one index_deps load_deps store_deps
attribute [local go_sem high] TDeps_eql TDeps_neq
attribute [local go_sem ↓] TCall_ld0 TCall_st0 TCall_fd0 TCall_bd0
attribute [local go_sem] TCall_size TCall_one TCall_piece TCall_c0 TCall_c1 TCall_c2 TCall_c3 TCall_c4 TCall_c5 TCall_c6 TCall_c7 TCall_c8 TCall_c9 TCall_c10 TCall_c11 TCall_c12 TCall_c13 TCall_p_deed TCall_put_deed TCall_p_deps TCall_put_deps TCall_set_seq TCall_ld TCall_st TCall_f_deed TCall_f_deps TCall_f_seq TCall_bd TCall_fl TCall_fl_deed TCall_fl_deps TCall_fl_seq
attribute [local go_sem high] TCall_eql TCall_neq
attribute [local go_sem ↓] TItem_ld0 TItem_st0 TItem_fd0 TItem_bd0
attribute [local go_sem] TItem_size TItem_one TItem_piece TItem_c0 TItem_c1 TItem_set_rep TItem_set_num TItem_ld TItem_st TItem_f_rep TItem_f_num TItem_bd TItem_fl TItem_fl_rep TItem_fl_num
attribute [local go_sem high] TItem_eql TItem_neq
attribute [local go_sem ↓] itm_slice0
attribute [local go_sem] itm_slice1
def cutSem (v : Value) (lo hi mx : Option Value) : Sem Value := Instr.sliceAt 30 v lo hi mx
theorem cut_hold (v : Value) (lo hi mx : Option Value) : Instr.sliceAt 30 v lo hi mx = cutSem v lo hi mx := rfl
theorem cut_one (w : World) (g o n c : Nat) (hn : 1 ≤ n) (hc : n ≤ c) (h9 : n ≤ 2000000) : (cutSem (.slice (some ⟨g, o, none⟩) n c) (some (.int .i64 1)) none none).run Try.prog w = .ok (.slice (if c = 1 then some ⟨g, o, none⟩ else some ⟨g, o + 2, none⟩) (n - 1) (c - 1)) w := by
  unfold cutSem
  have h1 : (1 : Int) ≤ (n : Int) := by omega
  have h2 : (n : Int) ≤ (c : Int) := by omega
  by_cases h : c = 1
  · simp [go_sem, h, h1]
  · simp [go_sem, h, h1]
attribute [local go_sem ↓] cut_hold
theorem min_if2 (a b : Int) : min a b = if b < a then b else a := by
  rw [Int.min_def]
  split <;> split <;> omega
section
variable {w W : World} {F : Nat → Prop} {R : List Res} {b gc gd : Nat} {m : RowsMK} {q : RowsML}
set_option maxHeartbeats 16000000 in
theorem grNextT {wk N : Nat} {A : WA} {S : WS} (hA : A.le N) (hN : N + 1 < maxLen) (hst : S.st.length ≤ 1000000) (hmi : S.mi.length ≤ 1000000) (hm : 0 ≤ m.n ∧ m.n ≤ 7) (hq : 0 ≤ q.n ∧ q.n ≤ 7) {frs : List (Item × List Item)} {x y : Item} {l : List Item} (hfr : S.fr = frs ++ [(x, y :: l)]) (hfl : frs.length ≤ 900000) (hll : l.length ≤ 1000000) (hx : InI x) (hy : InI y) (hd : ∀ i, i < 7 → ((getMK m y).getD noCall).deps i ≤ 64)
    (T : Sts w F W (wkL wk b A S ++ (grL b gc gd m q ++ R))) :
    Calls Try.prog 44 #[.pointer (some ⟨wk, 0, none⟩)] W fun e W' => e = .returned (.tuple #[]) ∧ ∃ A', A'.le (N + 1) ∧ Sts w F W' (wkL wk b A' (nextM m q S frs x y l) ++ (grL b gc gd m q ++ R)) := by
  obtain ⟨bi, bl, bo, n1, n2, c2, n3, c3, vs, vf, vp, vm⟩ := A
  obtain ⟨ix, ci, lo, on, st, fr, pa, mi⟩ := S
  obtain ⟨hA1, hA2, hA3⟩ := hA
  dsimp only at hst hmi hA1 hA2 hA3 hfr
  subst hfr
  have T : Sts w F W (rowR wk (wkC b bi bl bo vs vf vp vm) :: numR bi n1 ci ix :: numR bl n2 c2 lo :: bitR bo n3 c3 on :: vecR 35 2 vs st.length (vl IV st) :: frR vf (frs ++ [(x, y :: l)]) :: paR vp pa :: vecR 35 2 vm mi.length (vl IV mi) :: rowR b #[.pointer (some ⟨gc, 0, none⟩), .pointer (some ⟨gd, 0, none⟩)] :: rowsIRK gc m :: rowsIRL gd q :: R) := T
  obtain ⟨gv, u, hgv, T1⟩ := (T.ord [5, 0, 1, 2, 3, 4, 6, 7, 8, 9, 10]).frLast
  obtain ⟨gf, cf, rfl, hcf⟩ := T1.frTop
  obtain ⟨au, cu, rfl, hcu, hcell⟩ := (T1.ord [2, 0, 1]).cut
  obtain ⟨g0, o0, rfl, hg0, -, -⟩ := hcell 0 y rfl
  clear hcell
  obtain ⟨nf, hnf⟩ : ∃ nf, nf = gv.length := ⟨_, rfl⟩
  obtain ⟨nl, hnl⟩ : ∃ nl, nl = gv.length + 1 := ⟨_, rfl⟩
  obtain ⟨nn, hnn⟩ : ∃ nn, nn = l.length + 1 := ⟨_, rfl⟩
  have hnfl : nf ≤ 900000 := by rw [hnf]; rw [← hgv, List.length_map] at hfl; exact hfl
  have e1 : (nl : Int) - 1 = (nf : Int) := by omega
  have e2 : (nf : Int) < (nl : Int) := by omega
  have e3 : nl ≤ cf := by omega
  have e4 : nl ≤ 1000001 := by omega
  have e5 : IntKind.i64.wrap (nf : Int) = (nf : Int) := by rw [IntKind.wrap_i64] <;> omega
  have e6 : (0 : Int) ≤ (nf : Int) := by omega
  have e7 : (0 : Int) < (nn : Int) := by omega
  have e8 : ¬ (nn : Int) = 0 := by omega
  have e9 : ¬ nn = 0 := by omega
  have e10 : (1 : Int) ≤ (nn : Int) := by omega
  have e11 : nn ≤ cu := by rw [hnn]; simpa using hcu
  have e12 : (nn : Int) ≤ (cu : Int) := by omega
  rw [← hnl] at T1
  -- wk frames packR cutR ix lo on st pa mi b gc gd R
  have T2 := T1.ord [3, 0, 1, 2, 4, 5, 6, 7, 8, 9, 10, 11, 12]
  rw [← hnn] at T2
  have HT := Lib.hid T2
  have HNF := Lib.hid hnf; have HNL := Lib.hid hnl; have HGV := Lib.hid hgv; have HNN := Lib.hid hnn
  clear T T1 T2 hnf hnl hgv hcf hnn hcu
  have FS : ∀ W' X R', Sts w F W' (rowR wk X :: R') → X[5]? = some (.slice (some ⟨gf, 0, none⟩) nl cf) → (W'.cell? ⟨wk, 5, none⟩ = some (.slice (some ⟨gf, 0, none⟩) nl cf)) := fun W' X R' T h1 => by rw [row_cell T.row 5, h1]
  have HFS := Lib.hid FS
  have HT0 := Lib.hid HT.out.drew
  have S0 := HFS.out _ _ _ HT0.out rfl
  clear HT FS
  go_enter Try.func44, Try.ntmps44
  go_upto_region 0 with fail
  refine wp_region_held_drew (S := fun W' => (W'.cell? ⟨wk, 5, none⟩ = some (.slice (some ⟨gf, 0, none⟩) nl cf))) (by kernel_rfl) S0 (fun hHeld => ?_)
  clear S0
  refine tkH 0 rfl ?_
  simp only [Act.put, List.setIfInBounds_toArray, List.set_cons_zero, List.set_cons_succ]
  refine tkH 1 rfl ?_
  go_frame
  refine tkH 2 rfl ?_
  go_frame
  refine tkH 3 rfl ?_
  go_frame
  refine tkH 4 rfl ?_
  go_frame
  refine tkH 5 rfl ?_
  go_frame
  refine tkH 6 rfl ?_
  go_frame
  refine tkH 7 rfl ?_
  go_frame
  refine tkH 8 rfl ?_
  go_frame
  refine tkH 9 rfl ?_
  go_frame
  refine tkH 10 rfl ?_
  go_frame
  refine tkH 11 rfl ?_
  go_frame
  refine wpAnyH_done (by kernel_rfl) ?_ _
  try simp only [Exit.then]
  generalize W.drew = w1 at *
  have hfc := (HT0.out.ord [1, 0]).frCells
  rw [← HNF.out] at hfc
  obtain ⟨l1, l2, l3⟩ := hfc
  have hy0 : loadVal Try.prog 35 2 w1 (.pointer (some ⟨g0, o0, none⟩)) = .ok (.agg (IV y)) w1 := by
    obtain ⟨a', c', hv, -, hcell⟩ := (HT0.out.ord [3, 0, 1, 2]).cut
    injection hv with e1 e2 e3
    obtain ⟨g1, o1, ha, -, h0, h1⟩ := hcell 0 y rfl
    rw [← e1] at ha
    injection ha with ha
    injection ha with ha1 ha2
    subst ha1 ha2
    exact itm_at h0 h1
  obtain ⟨A2, hA2⟩ : ∃ A2 : Option Addr, A2 = if cu = 1 then some ⟨g0, o0, none⟩ else some ⟨g0, o0 + 2, none⟩ := ⟨_, rfl⟩
  have hsl : ∀ w : World, (cutSem (.slice (some ⟨g0, o0, none⟩) nn cu) (some (.int .i64 1)) none none).run Try.prog w = .ok (.slice A2 (nn - 1) (cu - 1)) w := fun w => by rw [hA2]; exact cut_one w g0 o0 nn cu (by omega) e11 (by rw [HNN.out]; omega)
  have HFR := Lib.hid ((HT0.out.ord [1, 0]).frSet (.slice A2 (nn - 1) (cu - 1)) l)
  have f5 := HFR.out.1
  rw [← HNF.out] at f5
  have HA2 := Lib.hid hA2
  clear hA2
  go_upto_region 11 with fail
  have T1 := HFR.out.2
  rw [← HNF.out] at T1
  have T2 := (T1.ord [3, 0, 1, 2]).cutNext
  have hA3 : (if cu = 1 then (some ⟨g0, o0, none⟩ : Option Addr) else (some ⟨g0, o0, none⟩ : Option Addr).map (·.add 2)) = A2 := by rw [HA2.out]; rfl
  have hln : l.length = nn - 1 := by rw [HNN.out]; omega
  rw [hA3, hln] at T2
  have T3 := (T2.new (IV y) 35).ord [3, 0, 2, 4, 1]
  have HT := Lib.hid T3
  clear T1 T2 T3 hA3 hln HA2 HFR f5 l1 l2 l3 hy0 HT0 hHeld HFS hsl
  have hsz : (w1.setCell ⟨gf, nf * 3 + 2, none⟩ (.slice A2 (nn - 1) (cu - 1))).heap.size = w1.heap.size := by simp
  rw [hsz] at HT
  clear hsz
  generalize World.alloc _ _ = w2 at *
  generalize w1.heap.size = gy at *
  have FS : ∀ W' X R', Sts w F W' (rowR wk X :: rowR gy (IV y) :: numR bi n1 ci ix :: R') → X[1]? = some (.map (some bi)) → (W'.cell? ⟨wk, 1, none⟩ = some (.map (some bi)) ∧ row? W' gy = some (IV y) ∧ (Instr.lookup 64 (.map (some bi)) (.agg (IV y)) true).run Try.prog W' = .ok (.tuple #[.int .i64 (valN ix y), .bool (ix y).isSome]) W') := fun W' X R' T h1 => ⟨by rw [row_cell T.row 1, h1], T.row1, (T.ord [2, 0, 1]).lookNs y hy⟩
  have HT0 := Lib.hid HT.out.drew
  have S0 := FS _ _ _ (HT0.out.ord [0, 1, 5, 2, 3, 4]) rfl
  clear FS HT
  obtain ⟨v6, hv6⟩ : ∃ v, v = valN ix y := ⟨_, rfl⟩
  obtain ⟨v7, hv7⟩ : ∃ v, v = (ix y).isSome := ⟨_, rfl⟩
  rw [← hv6, ← hv7] at S0
  have HV6 := Lib.hid hv6; have HV7 := Lib.hid hv7
  clear hv6 hv7
  refine wp_region_held_drew (S := fun W' => (W'.cell? ⟨wk, 1, none⟩ = some (.map (some bi)) ∧ row? W' gy = some (IV y) ∧ (Instr.lookup 64 (.map (some bi)) (.agg (IV y)) true).run Try.prog W' = .ok (.tuple #[.int .i64 v6, .bool v7]) W')) (by kernel_rfl) S0 (fun hHeld => ?_)
  clear S0
  refine tkH 0 rfl ?_
  simp only [Act.put, List.setIfInBounds_toArray, List.set_cons_zero, List.set_cons_succ]
  refine tkH 1 rfl ?_
  go_frame
  refine tkH 2 rfl ?_
  go_frame
  refine tkH 3 rfl ?_
  go_frame
  refine tkH 4 rfl ?_
  go_frame
  refine tkH 5 rfl ?_
  go_frame
  refine tkH 6 rfl ?_
  go_frame
  refine tkH 7 rfl ?_
  go_frame
  refine tkH 8 rfl ?_
  go_frame
  refine tkH 9 rfl ?_
  go_frame
  refine tkH 10 rfl ?_
  go_frame
  refine wpAnyH_done (by kernel_rfl) ?_ _
  try simp only [Exit.then]
  clear hHeld
  generalize w2.drew = w3 at *
  have FS : ∀ W' X R', Sts w F W' (rowR wk X :: rowR gy (IV y) :: R') → X[0]? = some (.pointer (some ⟨b, 0, none⟩)) → (W'.cell? ⟨wk, 0, none⟩ = some (.pointer (some ⟨b, 0, none⟩)) ∧ row? W' gy = some (IV y)) := fun W' X R' T h1 => ⟨by rw [row_cell T.row 0, h1], T.row1⟩
  have HFS := Lib.hid FS
  have HT := Lib.hid HT0.out.drew
  have S0 := HFS.out _ _ _ HT.out rfl
  clear FS HT0
  go_upto_region 12 with fail
  refine wp_region_held_drew (S := fun W' => (W'.cell? ⟨wk, 0, none⟩ = some (.pointer (some ⟨b, 0, none⟩)) ∧ row? W' gy = some (IV y))) (by kernel_rfl) S0 (fun hHeld => ?_)
  clear S0
  refine tkH 0 rfl ?_
  simp only [Act.put, List.setIfInBounds_toArray, List.set_cons_zero, List.set_cons_succ]
  refine tkH 1 rfl ?_
  go_frame
  refine tkH 2 rfl ?_
  go_frame
  refine tkH 3 rfl ?_
  go_frame
  refine tkH 4 rfl ?_
  go_frame
  have HIS := Lib.hid (grIsR b gc gd m q hm y)
  obtain ⟨is, his⟩ : ∃ v, v = (getMK m y).isSome := ⟨_, rfl⟩
  rw [← his] at HIS
  have HIV := Lib.hid his; clear his
  refine wpAnyH_ready (rs := [5]) (by kernel_rfl) (by simp) ?_
  refine AllReadyH.cons (o := _) rfl (fun K hK => ?_) AllReadyH.nil
  go_simp
  have TI := HT.out.ord [11, 12, 13, 0, 1, 2, 3, 4, 5, 6, 7, 8, 9, 10]
  refine (HIS.out.at (R := rowR wk _ :: _) TI).mono ?_
  clear TI HIS
  rintro e4 w4 ⟨rfl, hb⟩
  have T4 := HT.out.pure hb
  clear hb HT
  refine hK.out _ _ (HFS.out _ _ _ T4 rfl) (fun hHeld => ?_)
  clear hK K HFS
  have HT := Lib.hid T4; clear T4
  refine tkH 6 rfl ?_
  simp only [Act.put, List.setIfInBounds_toArray, List.set_cons_zero, List.set_cons_succ]
  refine tkH 7 rfl ?_
  go_frame
  refine wpAnyH_done (by kernel_rfl) ?_ _
  try simp only [Exit.then]
  clear hHeld
  cases is
  case false =>
    have FS : ∀ W' X R', Sts w F W' (rowR wk X :: rowR gy (IV y) :: R') → X[7]? = some vm → (W'.cell? ⟨wk, 7, none⟩ = some vm ∧ row? W' gy = some (IV y)) := fun W' X R' T h1 => ⟨by rw [row_cell T.row 7, h1], T.row1⟩
    have HFS := Lib.hid FS
    have HT0 := Lib.hid HT.out.drew
    have S0 := HFS.out _ _ _ HT0.out rfl
    clear FS HT
    go_upto_region 13 with fail
    refine wp_region_held_drew (S := fun W' => (W'.cell? ⟨wk, 7, none⟩ = some vm ∧ row? W' gy = some (IV y))) (by kernel_rfl) S0 (fun hHeld => ?_)
    clear S0
    refine tkH 0 rfl ?_
    simp only [Act.put, List.setIfInBounds_toArray, List.set_cons_zero, List.set_cons_succ]
    refine tkH 1 rfl ?_
    go_frame
    refine tkH 2 rfl ?_
    go_frame
    refine tkH 3 rfl ?_
    go_frame
    refine tkH 4 rfl ?_
    go_frame
    have HCR := Lib.hid (containsR vm mi hmi y)
    obtain ⟨cv, hcv⟩ : ∃ v, v = decide (0 ≤ idxI y mi) := ⟨_, rfl⟩
    rw [← hcv] at HCR
    have HCV := Lib.hid hcv; clear hcv
    refine wpAnyH_ready (rs := [5]) (by kernel_rfl) (by simp) ?_
    refine AllReadyH.cons (o := _) rfl (fun K hK => ?_) AllReadyH.nil
    go_simp
    have TI := HT0.out.ord [10, 0, 1, 2, 3, 4, 5, 6, 7, 8, 9]
    refine (HCR.out.at1 TI).mono ?_
    clear TI HCR
    rintro e5 w5 ⟨rfl, hb⟩
    have T4 := HT0.out.pure hb
    clear hb HT0
    refine hK.out _ _ (HFS.out _ _ _ T4 rfl) (fun hHeld => ?_)
    clear hK K
    have HT := Lib.hid T4; clear T4
    refine tkH 6 rfl ?_
    simp only [Act.put, List.setIfInBounds_toArray, List.set_cons_zero, List.set_cons_succ]
    refine wpAnyH_done (by kernel_rfl) ?_ _
    try simp only [Exit.then]
    clear hHeld
    cases cv
    case true =>
      have hp : nextM m q ⟨ix, ci, lo, on, st, frs ++ [(x, y :: l)], pa, mi⟩ frs x y l = ⟨ix, ci, lo, on, st, frs ++ [(x, l)], pa, mi⟩ := by
        have h1 := of_decide_eq_true HCV.out.symm
        have h2 : idxN y mi < mi.length := by
          unfold idxI at h1
          split at h1
          · assumption
          · omega
        unfold nextM
        dsimp only
        rw [← HIV.out, if_neg (by simp), if_pos h2]
      have HPM := Lib.hid hp; clear hp HFS
      go_wp2
      try simp only [Exit.inBlock, Exit.then]
      first | refine bodyPost_ret (results_none rfl _ _ _) rfl ?_ | refine bodyPost_end (results_none rfl _ _ _) rfl ?_
      rw [HPM.out]
      refine ⟨rfl, ⟨bi, bl, bo, n1, n2, c2, n3, c3, vs, .slice (some ⟨gf, 0, none⟩) nl cf, vp, vm⟩, ⟨by dsimp only; omega, by dsimp only; omega, by dsimp only; omega⟩, ?_⟩
      have T8 := (HT.out.ord [2, 3, 4, 0, 1]).frShut3
      rw [HGV.out] at T8
      have T9 := (T8.ord [2, 1, 3, 4, 5, 6, 0]).drop
      exact T9
    case false =>
      have hp : nextM m q ⟨ix, ci, lo, on, st, frs ++ [(x, y :: l)], pa, mi⟩ frs x y l = ⟨ix, ci, lo, on, st, frs ++ [(x, l)], pa, mi ++ [y]⟩ := by
        have h1 := of_decide_eq_false HCV.out.symm
        have h2 : ¬ idxN y mi < mi.length := by
          unfold idxI at h1
          split at h1
          · omega
          · assumption
        unfold nextM
        dsimp only
        rw [← HIV.out, if_neg (by simp), if_neg h2]
      have HPM := Lib.hid hp; clear hp
      have HT0 := Lib.hid HT.out.drew
      have S0 := HFS.out _ _ _ HT0.out rfl
      have HM := Lib.hid (show ∀ W' : World, (W'.cell? ⟨wk, 7, none⟩ = some vm ∧ row? W' gy = some (IV y)) → True from fun _ _ => trivial)
      clear HT
      go_upto_region 14 with fail
      refine wp_region_stage (fun W' => (W'.cell? ⟨wk, 7, none⟩ = some vm ∧ row? W' gy = some (IV y))) (fun _ => True) 10 (by kernel_rfl) S0 (fun hHeld => ?_)
      clear S0
      refine tk0 0 rfl ?_
      simp only [Act.put, List.setIfInBounds_toArray, List.set_cons_zero, List.set_cons_succ]
      refine tk0 1 rfl ?_
      go_frame
      refine tk0 2 rfl ?_
      go_frame
      refine tk0 3 rfl ?_
      go_frame
      refine tk0 4 rfl ?_
      go_frame
      refine tk0 5 rfl ?_
      go_frame
      generalize w5.drew = w6 at *
      refine wpAnyL_ready (rs := [6]) (by kernel_rfl) (by simp) ?_
      refine AllReadyL.cons0 (o := _) rfl (by kernel_rfl) (fun K hK => ?_) AllReadyL.nil
      have Ta := HT0.out.new (IV y) 35
      have HTa := Lib.hid Ta; clear Ta HT0
      go_simp
      refine hK.out _ _ ?_ (fun hHeld => ?_)
      · exact HFS.out _ _ _ HTa.out.drop rfl
      clear hK K
      refine wpAnyL_ready (rs := [7]) (by kernel_rfl) (by simp) ?_
      refine AllReadyL.cons0 (o := _) rfl (by kernel_rfl) (fun K hK => ?_) AllReadyL.nil
      have Tb := HTa.out.ord [11, 0, 1, 2, 3, 4, 5, 6, 7, 8, 9, 10]
      clear HTa
      obtain ⟨i0, hi, hz0, hz1, hz2⟩ := itm_i
      have HOK := Lib.hid (itm_one y)
      refine step_append_vec (by rfl) _ _ _ (by rfl) 35 i0 _ 2 16 Try.underlying30 hi hz0 hz1 hz2 rfl (by omega) vm mi.length (vl IV mi) (by rfl) Tb ⟨w6.heap.size, 0, none⟩ 1 1 (IV y).toList (by rfl) (by rfl) (news_row Tb.row1) HOK.out (by omega) (by unfold maxLen; omega) (by omega) ?_
      intro gv' cap1 w12 T1
      have T1 := (T1.ord [2, 3, 0, 1])
      refine hK.out _ _ ?_ (fun hHeld => ?_)
      · exact HFS.out _ _ _ T1 rfl
      clear hK K Tb HOK
      refine tk1 8 HM.out rfl ?_
      simp only [Act.put, List.getElem_toArray, List.getElem_cons_succ, List.getElem_cons_zero, List.setIfInBounds_toArray, List.set_cons_zero, List.set_cons_succ]
      refine tk0 9 rfl ?_
      simp only [Act.put, List.setIfInBounds_toArray, List.set_cons_zero, List.set_cons_succ]
      have hf := row_frozen T1.row 7
      have T2 := T1.setCell 7 (.slice (some ⟨gv', 0, none⟩) (mi.length + 1) cap1)
      have HT2 := Lib.hid T2; clear T1 T2
      refine wpAnyL_ready (rs := [10]) (by kernel_rfl) (by simp) ?_
      refine AllReadyL.cons1 (o := _) rfl (by kernel_rfl) (fun K hK => ?_) AllReadyL.nil
      go_simp
      refine hK.out _ _ trivial (fun hHeld => ?_)
      clear hK K hf HFS HM hi hz0 hz1 hz2
      refine wpAnyL_done (by kernel_rfl) ?_ _
      try simp only [Exit.then]
      generalize w12.setCell _ _ = w13 at *
      have T3a := HT2.out
      rw [show mi.length + 1 = (mi ++ [y]).length by simp, show vl IV mi ++ (IV y).toList = vl IV (mi ++ [y]) from (vl_snoc IV mi y).symm] at T3a
      have T3 := (T3a.ord [3, 0, 1, 4, 5, 6, 7, 8, 9, 10, 11, 2]).drop
      have HT := Lib.hid T3; clear HT2 T3a T3
      go_wp2
      try simp only [Exit.inBlock, Exit.then]
      first | refine bodyPost_ret (results_none rfl _ _ _) rfl ?_ | refine bodyPost_end (results_none rfl _ _ _) rfl ?_
      rw [HPM.out]
      refine ⟨rfl, ⟨bi, bl, bo, n1, n2, c2, n3, c3, vs, .slice (some ⟨gf, 0, none⟩) nl cf, vp, .slice (some ⟨gv', 0, none⟩) (mi ++ [y]).length cap1⟩, ⟨by dsimp only; omega, by dsimp only; omega, by dsimp only; omega⟩, ?_⟩
      have T8 := (HT.out.ord [2, 3, 4, 0, 1]).frShut3
      rw [HGV.out] at T8
      have T9 := (T8.ord [2, 1, 3, 4, 5, 6, 0]).drop
      exact T9
  case true =>
    cases hix : ix y
    case none =>
      have hp : nextM m q ⟨ix, ci, lo, on, st, frs ++ [(x, y :: l)], pa, mi⟩ frs x y l = pushM m q y ⟨ix, ci, lo, on, st, frs ++ [(x, l)], pa, mi⟩ := by
        unfold nextM
        dsimp only
        rw [← HIV.out, if_pos rfl, hix]
      have HPM := Lib.hid hp; clear hp
      obtain rfl : v7 = false := by rw [HV7.out, hix]; rfl
      have T8 := (HT.out.ord [2, 3, 4, 0, 1]).frShut3
      rw [HGV.out] at T8
      have T9 := T8.ord [1, 3, 4, 5, 6, 0, 7, 8, 9, 10, 11, 2]
      have hr := T8.row2; have hlt := row_lt hr
      have HP := Lib.hid (grPushT (R := rowR gy (IV y) :: R) (wk := wk) (N := N) (A := ⟨bi, bl, bo, n1, n2, c2, n3, c3, vs, .slice (some ⟨gf, 0, none⟩) nl cf, vp, vm⟩) (S := ⟨ix, ci, lo, on, st, frs ++ [(x, l)], pa, mi⟩) ⟨hA1, hA2, hA3⟩ hN hst (by dsimp only; simp; omega) hm hq y hy hd T9)
      clear T8 T9 hix HT
      go_wp2_with fail
      refine HP.out.mono ?_
      clear HP hr hlt
      rintro e5 w5 ⟨rfl, A', hA', T⟩
      have T : Sts w F w5 (wkL wk b A' (pushM m q y ⟨ix, ci, lo, on, st, frs ++ [(x, l)], pa, mi⟩) ++ (grL b gc gd m q ++ rowR gy (IV y) :: R)) := T
      have HT := Lib.hid T; clear T
      go_wp2
      try simp only [Exit.inBlock, Exit.then]
      first | refine bodyPost_ret (results_none rfl _ _ _) rfl ?_ | refine bodyPost_end (results_none rfl _ _ _) rfl ?_
      rw [HPM.out]
      refine ⟨rfl, A', hA', ?_⟩
      have T5 : Sts w F w5 (rowR gy (IV y) :: ((wkL wk b A' (pushM m q y ⟨ix, ci, lo, on, st, frs ++ [(x, l)], pa, mi⟩) ++ grL b gc gd m q) ++ R)) := HT.out.perm (by
        rw [← List.append_assoc]
        exact List.perm_middle)
      have T6 := T5.drop
      rw [List.append_assoc] at T6
      exact T6
    case some at_ =>
      obtain rfl : v7 = true := by rw [HV7.out, hix]; rfl
      obtain rfl : v6 = at_ := by rw [HV6.out, valN, hix]; rfl
      have FS : ∀ W' X R', Sts w F W' (rowR wk X :: rowR gy (IV y) :: bitR bo n3 c3 on :: R') → X[3]? = some (.map (some bo)) → (W'.cell? ⟨wk, 3, none⟩ = some (.map (some bo)) ∧ row? W' gy = some (IV y) ∧ (Instr.lookup 29 (.map (some bo)) (.agg (IV y)) false).run Try.prog W' = .ok (.bool (valB on y)) W') := fun W' X R' T h1 => ⟨by rw [row_cell T.row 3, h1], T.row1, (T.ord [2, 0, 1]).lookB y hy⟩
      have HT0 := Lib.hid HT.out.drew
      have S0 := FS _ _ _ (HT0.out.ord [0, 1, 7, 2, 3, 4, 5, 6]) rfl
      clear FS HT
      obtain ⟨bv, hbv⟩ : ∃ v, v = valB on y := ⟨_, rfl⟩
      rw [← hbv] at S0
      have HBV := Lib.hid hbv; have HIX := Lib.hid hix
      clear hbv hix
      go_upto_region 17 with fail
      refine wp_region_held_drew (S := fun W' => (W'.cell? ⟨wk, 3, none⟩ = some (.map (some bo)) ∧ row? W' gy = some (IV y) ∧ (Instr.lookup 29 (.map (some bo)) (.agg (IV y)) false).run Try.prog W' = .ok (.bool bv) W')) (by kernel_rfl) S0 (fun hHeld => ?_)
      clear S0
      refine tkH 0 rfl ?_
      simp only [Act.put, List.setIfInBounds_toArray, List.set_cons_zero, List.set_cons_succ]
      refine tkH 1 rfl ?_
      go_frame
      refine tkH 2 rfl ?_
      go_frame
      refine tkH 3 rfl ?_
      go_frame
      refine tkH 4 rfl ?_
      go_frame
      refine tkH 5 rfl ?_
      go_frame
      refine tkH 6 rfl ?_
      go_frame
      refine wpAnyH_done (by kernel_rfl) ?_ _
      try simp only [Exit.then]
      clear hHeld
      generalize w4.drew = w5 at *
      cases bv
      case false =>
        have hp : nextM m q ⟨ix, ci, lo, on, st, frs ++ [(x, y :: l)], pa, mi⟩ frs x y l = ⟨ix, ci, lo, on, st, frs ++ [(x, l)], pa, mi⟩ := by
          unfold nextM
          dsimp only
          rw [← HIV.out, if_pos rfl, HIX.out]
          dsimp only
          rw [← HBV.out, if_neg (by simp)]
        have HPM := Lib.hid hp; clear hp
        go_wp2
        try simp only [Exit.inBlock, Exit.then]
        first | refine bodyPost_ret (results_none rfl _ _ _) rfl ?_ | refine bodyPost_end (results_none rfl _ _ _) rfl ?_
        rw [HPM.out]
        refine ⟨rfl, ⟨bi, bl, bo, n1, n2, c2, n3, c3, vs, .slice (some ⟨gf, 0, none⟩) nl cf, vp, vm⟩, ⟨by dsimp only; omega, by dsimp only; omega, by dsimp only; omega⟩, ?_⟩
        have T8 := (HT0.out.ord [2, 3, 4, 0, 1]).frShut3
        rw [HGV.out] at T8
        have T9 := (T8.ord [2, 1, 3, 4, 5, 6, 0]).drop
        exact T9
      case true =>
        have hp : nextM m q ⟨ix, ci, lo, on, st, frs ++ [(x, y :: l)], pa, mi⟩ frs x y l = ⟨ix, ci, putF lo x (if v6 < valN lo x then v6 else valN lo x), on, st, frs ++ [(x, l)], pa, mi⟩ := by
          unfold nextM
          dsimp only
          rw [← HIV.out, if_pos rfl, HIX.out]
          dsimp only
          rw [← HBV.out, if_pos rfl, min_if2]
        have HPM := Lib.hid hp; clear hp
        have HT := Lib.hid HT0.out.drew
        clear HT0
        have FS : ∀ W' X R', Sts w F W' (vecR 105 3 (.slice (some ⟨gf, 0, none⟩) nl cf) (gv ++ [(x, Value.slice A2 (nn - 1) (cu - 1), l)]).length (vl FV (gv ++ [(x, Value.slice A2 (nn - 1) (cu - 1), l)])) :: rowR wk X :: numR bl n2 c2 lo :: R') → X[2]? = some (.map (some bl)) → (W'.cell? ⟨wk, 2, none⟩ = some (.map (some bl)) ∧ loadVal Try.prog 35 2 W' (.pointer (some ⟨gf, nf * 3, none⟩)) = .ok (.agg (IV x)) W' ∧ (Instr.lookup 64 (.map (some bl)) (.agg (IV x)) false).run Try.prog W' = .ok (.int .i64 (valN lo x)) W') := fun W' X R' T h1 => ⟨by rw [row_cell T.row1 2, h1], by rw [HNF.out]; exact T.frCells.2.1, (T.ord [2, 0, 1]).lookN x hx⟩
        have S0 := FS _ _ _ (HT.out.ord [2, 0, 6, 1, 3, 4, 5]) rfl
        have HM := Lib.hid (show ∀ W' : World, (W'.cell? ⟨wk, 2, none⟩ = some (.map (some bl)) ∧ loadVal Try.prog 35 2 W' (.pointer (some ⟨gf, nf * 3, none⟩)) = .ok (.agg (IV x)) W' ∧ (Instr.lookup 64 (.map (some bl)) (.agg (IV x)) false).run Try.prog W' = .ok (.int .i64 (valN lo x)) W') → True from fun _ _ => trivial)
        obtain ⟨w7, h7, T7, hsz⟩ := (HT.out.ord [6, 0, 1, 2, 3, 4, 5]).mapCPut itemOk Try.underlying64 (by omega) x hx (if v6 < valN lo x then v6 else valN lo x)
        have HT7 := Lib.hid (T7.ord [1, 2, 3, 4, 5, 6, 0]); have H7 := Lib.hid h7
        clear FS HT T7 hsz h7
        generalize valN lo x = v1 at *
        go_upto_region 18 with fail
        refine wp_region_stage (fun W' => (W'.cell? ⟨wk, 2, none⟩ = some (.map (some bl)) ∧ loadVal Try.prog 35 2 W' (.pointer (some ⟨gf, nf * 3, none⟩)) = .ok (.agg (IV x)) W' ∧ (Instr.lookup 64 (.map (some bl)) (.agg (IV x)) false).run Try.prog W' = .ok (.int .i64 v1) W')) (fun _ => True) 19 (by kernel_rfl) S0 (fun hHeld => ?_)
        clear S0
        refine tk0 0 rfl ?_
        simp only [Act.put, List.setIfInBounds_toArray, List.set_cons_zero, List.set_cons_succ]
        refine tk0 1 rfl ?_
        go_frame
        refine tk0 2 rfl ?_
        go_frame
        refine tk0 3 rfl ?_
        go_frame
        refine tk0 4 rfl ?_
        go_frame
        refine tk0 5 rfl ?_
        go_frame
        refine tk0 6 rfl ?_
        go_frame
        refine tk0 7 rfl ?_
        go_frame
        refine tk0 8 rfl ?_
        go_frame
        refine tk0 9 rfl ?_
        go_frame
        refine tk0 10 rfl ?_
        go_frame
        refine tk0 11 rfl ?_
        go_frame
        refine tk0 12 rfl ?_
        go_frame
        refine tk0 13 rfl ?_
        go_frame
        refine tk0 14 rfl ?_
        go_frame
        refine tk0 15 rfl ?_
        go_frame
        refine tk0 16 rfl ?_
        go_frame
        refine tk0 17 rfl ?_
        go_frame
        refine tk0 18 rfl ?_
        go_frame
        have h7 := H7.out
        refine wpAnyL_ready (rs := [19]) (by kernel_rfl) (by simp) ?_
        refine AllReadyL.cons1 (o := _) rfl (by kernel_rfl) (fun K hK => ?_) AllReadyL.nil
        go_simp
        refine hK.out _ _ trivial (fun hHeld => ?_)
        clear hK K HM H7 h7
        refine wpAnyL_done (by kernel_rfl) ?_ _
        try simp only [Exit.then]
        generalize ite (v6 < v1) v6 v1 = kk at *
        go_wp2
        try simp only [Exit.inBlock, Exit.then]
        first | refine bodyPost_ret (results_none rfl _ _ _) rfl ?_ | refine bodyPost_end (results_none rfl _ _ _) rfl ?_
        rw [HPM.out]
        refine ⟨rfl, ⟨bi, bl, bo, n1, n2 + 1, if (lo x).isSome then c2 else c2 + 1, n3, c3, vs, .slice (some ⟨gf, 0, none⟩) nl cf, vp, vm⟩, ⟨by dsimp only; omega, by dsimp only; omega, by dsimp only; omega⟩, ?_⟩
        have T8 := (HT7.out.ord [2, 3, 4, 0, 1]).frShut3
        rw [HGV.out] at T8
        have T9 := (T8.ord [2, 1, 3, 4, 5, 6, 0]).drop
        exact T9
end
end Go.Proofs.Ytnjgjhjilolanaa
