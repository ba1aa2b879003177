/- Several texts in one. -/
import Derived.Test.YtomlilkobhkoiaaGreatDoorQ20
import Derived.Test.YtomlilkobhkoiaaGreatDoorQ16
import Derived.Test.YtomlilkobhkoiaaGreatDoorQ8
/- Layer 9: what is known of an item is added to a ledger. -/
namespace Go.Proofs.YtomlilkobhkoiaaGreatDoor
open Go.RowKit Go.Shelf
set_option linter.unusedVariables false
set_option maxRecDepth 20000
attribute [local go_sem] row_alloc row_drew row_drewN row_ext row_setCell row_setRow size_ext setRow_alloc setRow_drew loadOf storeOf piece_lit loadVal_at storeVal_at allOne_lit buildOf buildRes_some
attribute [local go_sem high] cell_alloc frozen_alloc setCell_alloc cell_ext frozen_ext cell_setRow frozen_setRow
attribute [local go_sem ↓] TDeed_ld0 TDeed_st0 TDeed_fd0 TDeed_bd0
attribute [local go_sem] TDeed_size TDeed_one TDeed_piece TDeed_c0 TDeed_c1 TDeed_c2 TDeed_c3 TDeed_c4 TDeed_c5 TDeed_set_kind TDeed_set_key TDeed_set_val TDeed_set_ver TDeed_set_ses TDeed_set_num TDeed_ld TDeed_st TDeed_f_kind TDeed_f_key TDeed_f_val TDeed_f_ver TDeed_f_ses TDeed_f_num TDeed_bd TDeed_fl TDeed_fl_kind TDeed_fl_key TDeed_fl_val TDeed_fl_ver TDeed_fl_ses TDeed_fl_num
attribute [local go_sem high] TDeed_eql TDeed_neq
attribute [local go_sem ↓] index_deps0 load_deps0 store_deps0
attribute [local go_sem] DV_piece DV_size DV_one index_deps load_deps store_deps
attribute [local go_sem high] TDeps_eql TDeps_neq
attribute [local go_sem ↓] TCall_ld0 TCall_st0 TCall_fd0 TCall_bd0
attribute [local go_sem] TCall_size TCall_one TCall_piece TCall_c0 TCall_c1 TCall_c2 TCall_c3 TCall_c4 TCall_c5 TCall_c6 TCall_c7 TCall_c8 TCall_c9 TCall_c10 TCall_c11 TCall_c12 TCall_c13 TCall_p_deed TCall_put_deed TCall_p_deps TCall_put_deps TCall_set_seq TCall_ld TCall_st TCall_f_deed TCall_f_deps TCall_f_seq TCall_bd TCall_fl TCall_fl_deed TCall_fl_deps TCall_fl_seq
attribute [local go_sem high] TCall_eql TCall_neq
attribute [local go_sem ↓] TItem_ld0 TItem_st0 TItem_fd0 TItem_bd0
attribute [local go_sem] TItem_size TItem_one TItem_piece TItem_c0 TItem_c1 TItem_set_rep TItem_set_num TItem_ld TItem_st TItem_f_rep TItem_f_num TItem_bd TItem_fl TItem_fl_rep TItem_fl_num
attribute [local go_sem high] TItem_eql TItem_neq
attribute [local go_sem ↓] TBallot_ld0 TBallot_st0 TBallot_fd0 TBallot_bd0
attribute [local go_sem] TBallot_size TBallot_one TBallot_piece TBallot_c0 TBallot_c1 TBallot_set_round TBallot_set_rep TBallot_ld TBallot_st TBallot_f_round TBallot_f_rep TBallot_bd TBallot_fl TBallot_fl_round TBallot_fl_rep
attribute [local go_sem high] TBallot_eql TBallot_neq
attribute [local go_sem ↓] TInst_ld0 TInst_st0 TInst_fd0 TInst_bd0
attribute [local go_sem] TInst_size TInst_one TInst_piece TInst_c0 TInst_c1 TInst_c2 TInst_c3 TInst_c4 TInst_c5 TInst_c6 TInst_c7 TInst_c8 TInst_c9 TInst_c10 TInst_c11 TInst_c12 TInst_c13 TInst_c14 TInst_c15 TInst_c16 TInst_c17 TInst_c18 TInst_c19 TInst_p_prom TInst_put_prom TInst_p_vote TInst_put_vote TInst_set_status TInst_p_call TInst_put_call TInst_set_same TInst_ld TInst_st TInst_f_prom TInst_f_vote TInst_f_status TInst_f_call TInst_f_same TInst_bd TInst_fl TInst_fl_prom TInst_fl_vote TInst_fl_status TInst_fl_call TInst_fl_same
attribute [local go_sem high] TInst_eql TInst_neq
attribute [local go_sem] led_n led_p led_g
noncomputable def tightP (D : List UInt8) (safe : Nat) (m : RowsM) (n : Nat) : List UInt8 × Nat × Int := if 32768 < D.length + n then tidyP D safe m else (D, safe, 0)
noncomputable def addM (D : List UInt8) (safe : Nat) (m : RowsM) (x : Item) (i : Inst) : List UInt8 × Nat × RowsM × Int :=
 if goodI x m.n = true ∧ goodN i m.n = true then
  if (tightP D safe m (recOf (x, i)).length).2.2 = 0 then
   if (tightP D safe m (recOf (x, i)).length).1.length + (recOf (x, i)).length ≤ 65536 then ((tightP D safe m (recOf (x, i)).length).1 ++ recOf (x, i), (tightP D safe m (recOf (x, i)).length).2.1, setM m x i, 0)
   else ((tightP D safe m (recOf (x, i)).length).1, (tightP D safe m (recOf (x, i)).length).2.1, m, 6)
  else ((tightP D safe m (recOf (x, i)).length).1, (tightP D safe m (recOf (x, i)).length).2.1, m, (tightP D safe m (recOf (x, i)).length).2.2)
 else (D, safe, m, 1)
theorem tidyP_len {D : List UInt8} {safe : Nat} {m : RowsM} (h : D.length ≤ 65536) : (tidyP D safe m).1.length ≤ 65536 := by
 unfold tidyP; split
 ·assumption
 ·exact h
theorem tightP_len {D : List UInt8} {safe : Nat} {m : RowsM} {n : Nat} (h : D.length ≤ 65536) : (tightP D safe m n).1.length ≤ 65536 := by
 unfold tightP; split
 ·exact tidyP_len h
 ·exact h
set_option maxHeartbeats 8000000 in
theorem addD (l p g : Nat) (D : List UInt8) (safe : Nat) (m : RowsM) (hm : RowsOk m) (hg : RowsGood m) (hD : D.length ≤ 65536) (x : Item) (i : Inst) :
  Does Tryz.prog 209 #[.pointer (some ⟨l, 0, none⟩), .agg (IV x), .agg (NV i)] (ledL l p g D safe m) (.int .i64 (addM D safe m x i).2.2.2) (ledL l p g (addM D safe m x i).1 (addM D safe m x i).2.1 (addM D safe m x i).2.2.1) := by
 intro W G hS
 have T : Sts W G ((W.alloc (.cells (IV x) 33)).alloc (.cells (NV i) 70)) (rowR (W.heap.size + 1) (NV i) :: rowR W.heap.size (IV x) :: rowR l (ledCells p g m.n) :: plR p D safe :: rowsIR g m :: []) := by
  have := ((Sts.start hS).new (IV x) 33).new (NV i) 70
  rw [World.size_alloc] at this
  exact this
 clear hS
 have cg := itemGood_any x m.n
 have cn := goodN_any i m.n
 by_cases hgi : goodI x m.n = true
 ·by_cases hgn : goodN i m.n = true
  ·have hin := goodI_in hgi hm.n.2
   have hrec : Ans Tryz.prog 222 #[.agg (IV x), .agg (NV i)] (.string (strL (recOf (x, i)))) := record_any x i 100 hin.1 hin.2 (goodN_in hgn hm.n.2) (by omega)
   have hrl : (recOf (x, i)).length ≤ 310 := recOf_len hin.1 hin.2 (goodN_in hgn hm.n.2)
   have hset := irSetD g m hm.n x i
   rw [hgi] at cg hset
   rw [hgn] at cn
   have hts := strL_size (recOf (x, i))
   have hl1 := tightP_len (safe := safe) (m := m) (n := (recOf (x, i)).length) hD
   have hent := hg.ents hm
   have htidy := tidyD l p g D safe m hm hent
   have ha : addM D safe m x i = if (tightP D safe m (recOf (x, i)).length).2.2 = 0 then
     if (tightP D safe m (recOf (x, i)).length).1.length + (recOf (x, i)).length ≤ 65536 then ((tightP D safe m (recOf (x, i)).length).1 ++ recOf (x, i), (tightP D safe m (recOf (x, i)).length).2.1, setM m x i, 0)
     else ((tightP D safe m (recOf (x, i)).length).1, (tightP D safe m (recOf (x, i)).length).2.1, m, 6)
    else ((tightP D safe m (recOf (x, i)).length).1, (tightP D safe m (recOf (x, i)).length).2.1, m, (tightP D safe m (recOf (x, i)).length).2.2) := by
    unfold addM; rw [if_pos ⟨hgi, hgn⟩]
   have hti : tightP D safe m (recOf (x, i)).length = if 32768 < D.length + (recOf (x, i)).length then tidyP D safe m else (D, safe, 0) := rfl
   rw [ha]
   clear ha
   generalize recOf (x, i) = rc at *
   generalize hq : tightP D safe m rc.length = q at *
   generalize tidyP D safe m = q0 at *
   generalize hres : (if q.2.2 = 0 then (if q.1.length + rc.length ≤ 65536 then (q.1 ++ rc, q.2.1, setM m x i, (0 : Int)) else (q.1, q.2.1, m, 6)) else (q.1, q.2.1, m, q.2.2)) = res at *
   have HRES := Lib.hid hres; clear hres
   have HREC := Lib.hid hrec; have HSET := Lib.hid hset; have HTS := Lib.hid hts; have HTI := Lib.hid hti; have HTIDY := Lib.hid htidy
   clear hrec hset hts hti htidy hin hq hent hgi hgn hg hm
   go_enter Tryz.func209, Tryz.ntmps209
   go_wp2_with fail
   generalize (W.alloc _).alloc _ = w3 at *
   generalize W.heap.size + 1 = g2 at *
   generalize W.heap.size = g1 at *
   have r2 := T.row; have r1 := T.row1; have r0 := T.row2; have l2 := row_lt r2; have l1 := row_lt r1; have l0 := row_lt r0; have c0 := row_cell r0 1
   refine wp_region_ext (by kernel_rfl) (by kernel_rfl) ?_
   repeat (go_big_quiet_step (first | (go_at_call 107; exact cg.quiet) | (go_at_call 108; exact cn.quiet)))
   refine wpQuiet_nil ?_
   rintro _ ⟨x9, rfl⟩
   have T := T.ext x9
   clear r0 r1 r2 l0 l1 l2 c0 cg cn
   generalize ext _ x9 = w4 at *
   have r2 := T.row; have r1 := T.row1; have l2 := row_lt r2; have l1 := row_lt r1
   go_wp2_with fail
   refine (Ans.at HREC.out T).mono ?_
   clear r1 r2 l1 l2 T HREC
   rintro e w5 ⟨rfl, T⟩
   have r0 := T.row2; have l0 := row_lt r0; have c0 := row_cell r0 0
   have hts : (strL rc).size = rc.length := HTS.out
   go_wp2_with fail
   refine (lenT (T.ord [3, 0, 1, 2])).mono ?_
   rintro e w6 ⟨rfl, rfl⟩
   by_cases hti : 32768 < D.length + rc.length
   ·have hcm : (32768 : Int) < (D.length : Int) + rc.length := by omega
    have hq : q = q0 := by have := HTI.out; rw [if_pos hti] at this; exact this
    subst hq
    clear r0 l0 c0
    go_wp2_with fail
    refine (Does.at (R := [rowR g2 (NV i), rowR g1 (IV x)]) HTIDY.out (show Sts W G w5 (ledL l p g D safe m ++ [rowR g2 (NV i), rowR g1 (IV x)]) from by have T := T.ord [2, 3, 4, 0, 1]; exact T)).mono ?_
    clear T HTIDY HTI
    rintro e w6 ⟨rfl, T⟩
    have T : Sts W G w6 [rowR l (ledCells p g m.n), plR p q.1 q.2.1, rowsIR g m, rowR g2 (NV i), rowR g1 (IV x)] := T
    obtain ⟨D1, s1, e1⟩ := q
    dsimp only at *
    by_cases he : e1 = 0
    ·subst he
     have hrs := HRES.out
     try dsimp only at hrs
     rw [if_pos rfl] at hrs
     have HRS := Lib.hid hrs; clear hrs HRES
     have T := T.ord [3, 4, 0, 1, 2]
     have r0 := T.row2; have l0 := row_lt r0; have c0 := row_cell r0 0
     go_wp2_with fail
     clear r0 l0 c0
     have TA := ((T.new #[.string (strL rc)] 9).ord [4, 0, 1, 2, 3])
     have hcat : cat [strL rc] = rc := by simp [cat, strL]
     have hap := appendT (l := [strL rc]) TA 1 (by simp) hl1 (by rw [hcat]; omega)
     rw [hcat] at hap
     refine hap.mono ?_
     clear T TA hcat hap
     rintro e w7 ⟨rfl, T⟩
     unfold appP at T ⊢
     by_cases hfit : D1.length + rc.length ≤ 65536
     ·have hrs := HRS.out
      rw [if_pos hfit] at hrs
      simp only [if_pos hfit] at T
      rw [if_pos hfit]
      have T := T.ord [5, 2, 3, 4, 0, 1]
      have HRES := Lib.hid hrs; clear hrs HRS
      go_wp2_with fail
      have FS : ∀ W' R' r, Sts W G W' (r :: rowR g2 (NV i) :: rowR g1 (IV x) :: rowR l (ledCells p g m.n) :: R') → (row? W' g2 = some (NV i) ∧ row? W' g1 = some (IV x) ∧ W'.cell? ⟨l, 2, none⟩ = some (.pointer (some ⟨g, 0, none⟩)) ∧ l < W'.heap.size) := fun W' R' r T => ⟨T.row1, T.row2, row_cell T.row3 2, row_lt T.row3⟩
      have S0 := FS _ _ _ T.drew
      have HFS := Lib.hid FS; have HT := Lib.hid T.drew
      clear FS T
      refine wp_region_held_drew (S := fun W' => (row? W' g2 = some (NV i) ∧ row? W' g1 = some (IV x) ∧ W'.cell? ⟨l, 2, none⟩ = some (.pointer (some ⟨g, 0, none⟩)) ∧ l < W'.heap.size)) (by kernel_rfl) S0 (fun hHeld => ?_)
      clear S0
      refine tkH 0 rfl ?_
      simp only [Act.put, List.setIfInBounds_toArray, List.set_cons_zero, List.set_cons_succ]
      refine tkH 1 rfl ?_
      go_frame
      refine tkH 2 rfl ?_
      go_frame
      refine tkH 3 rfl ?_
      go_frame
      refine tkH 4 rfl ?_
      go_frame
      refine tkH 5 rfl ?_
      go_frame
      refine wpAnyH_ready (rs := [6]) (by kernel_rfl) (by simp) ?_
      refine AllReadyH.cons (o := _) rfl (fun K hK => ?_) AllReadyH.nil
      go_simp
      refine (Does.at1 HSET.out HT.out).mono ?_
      rintro e w8 ⟨rfl, T⟩
      refine hK.out _ _ ?_ (fun hHeld => ?_)
      ·exact HFS.out _ _ _ T
      clear hK K HT HSET HFS
      refine wpAnyH_done (by kernel_rfl) ?_ _
      have T2 := Sts.nilTail (M := [rowR l (ledCells p g m.n), plR p (D1 ++ rc) _, rowsIR g (setM m x i)]) (T.ord [3, 4, 0, 1, 2, 5])
      have HT2 := Lib.hid T2; clear T T2
      simp only [Exit.then]
      go_wp2
      go_ret
      rw [← HRES.out]
      refine ⟨rfl, ?_⟩
      have hmn : (setM m x i).n = m.n := by unfold setM; split <;> rfl
      unfold ledL
      rw [hmn]
      exact HT2.out
     ·have hrs := HRS.out
      rw [if_neg hfit] at hrs
      simp only [if_neg hfit] at T
      rw [if_neg hfit]
      have T2 := Sts.nilTail (M := [rowR l (ledCells p g m.n), plR p D1 _, rowsIR g m]) (T.ord [4, 0, 5, 1, 2, 3])
      have HRES := Lib.hid hrs; clear hrs HRS
      have HT2 := Lib.hid T2; clear T T2
      go_wp2
      go_ret
      rw [← HRES.out]
      exact ⟨rfl, HT2.out⟩
    ·have he2 : (e1 != 0) = true := by simp [he]
     have hrs := HRES.out
     try dsimp only at hrs
     rw [if_neg he] at hrs
     have HRS := Lib.hid hrs; clear hrs HRES
     have HT := Lib.hid T; clear T he
     go_wp2
     go_ret
     have T2 := Sts.nilTail (M := [rowR l (ledCells p g m.n), plR p D1 s1, rowsIR g m]) HT.out
     rw [← HRS.out]
     exact ⟨rfl, T2⟩
   ·have hcm : ¬ (32768 : Int) < (D.length : Int) + rc.length := by omega
    have hq : q = (D, safe, 0) := by have := HTI.out; rw [if_neg hti] at this; exact this
    subst hq
    have hrs := HRES.out
    try dsimp only at hrs
    rw [if_pos rfl] at hrs
    have HRS := Lib.hid hrs; clear hrs HRES
    dsimp only at *
    clear HTIDY HTI
    go_wp2_with fail
    clear r0 l0 c0
    have TA := ((T.new #[.string (strL rc)] 9).ord [4, 0, 1, 2, 3])
    have hcat : cat [strL rc] = rc := by simp [cat, strL]
    have hap := appendT (l := [strL rc]) TA 1 (by simp) hl1 (by rw [hcat]; omega)
    rw [hcat] at hap
    refine hap.mono ?_
    clear T TA hcat hap
    rintro e w7 ⟨rfl, T⟩
    unfold appP at T ⊢
    by_cases hfit : D.length + rc.length ≤ 65536
    ·have hrs := HRS.out
     rw [if_pos hfit] at hrs
     simp only [if_pos hfit] at T
     rw [if_pos hfit]
     have T := T.ord [5, 2, 3, 4, 0, 1]
     have HRES := Lib.hid hrs; clear hrs HRS
     go_wp2_with fail
     have FS : ∀ W' R' r, Sts W G W' (r :: rowR g2 (NV i) :: rowR g1 (IV x) :: rowR l (ledCells p g m.n) :: R') → (row? W' g2 = some (NV i) ∧ row? W' g1 = some (IV x) ∧ W'.cell? ⟨l, 2, none⟩ = some (.pointer (some ⟨g, 0, none⟩)) ∧ l < W'.heap.size) := fun W' R' r T => ⟨T.row1, T.row2, row_cell T.row3 2, row_lt T.row3⟩
     have S0 := FS _ _ _ T.drew
     have HFS := Lib.hid FS; have HT := Lib.hid T.drew
     clear FS T
     refine wp_region_held_drew (S := fun W' => (row? W' g2 = some (NV i) ∧ row? W' g1 = some (IV x) ∧ W'.cell? ⟨l, 2, none⟩ = some (.pointer (some ⟨g, 0, none⟩)) ∧ l < W'.heap.size)) (by kernel_rfl) S0 (fun hHeld => ?_)
     clear S0
     refine tkH 0 rfl ?_
     simp only [Act.put, List.setIfInBounds_toArray, List.set_cons_zero, List.set_cons_succ]
     refine tkH 1 rfl ?_
     go_frame
     refine tkH 2 rfl ?_
     go_frame
     refine tkH 3 rfl ?_
     go_frame
     refine tkH 4 rfl ?_
     go_frame
     refine tkH 5 rfl ?_
     go_frame
     refine wpAnyH_ready (rs := [6]) (by kernel_rfl) (by simp) ?_
     refine AllReadyH.cons (o := _) rfl (fun K hK => ?_) AllReadyH.nil
     go_simp
     refine (Does.at1 HSET.out HT.out).mono ?_
     rintro e w8 ⟨rfl, T⟩
     refine hK.out _ _ ?_ (fun hHeld => ?_)
     ·exact HFS.out _ _ _ T
     clear hK K HT HSET HFS
     refine wpAnyH_done (by kernel_rfl) ?_ _
     have T2 := Sts.nilTail (M := [rowR l (ledCells p g m.n), plR p (D ++ rc) _, rowsIR g (setM m x i)]) (T.ord [3, 4, 0, 1, 2, 5])
     have HT2 := Lib.hid T2; clear T T2
     simp only [Exit.then]
     go_wp2
     go_ret
     rw [← HRES.out]
     refine ⟨rfl, ?_⟩
     have hmn : (setM m x i).n = m.n := by unfold setM; split <;> rfl
     unfold ledL
     rw [hmn]
     exact HT2.out
    ·have hrs := HRS.out
     rw [if_neg hfit] at hrs
     simp only [if_neg hfit] at T
     rw [if_neg hfit]
     have T2 := Sts.nilTail (M := [rowR l (ledCells p g m.n), plR p D _, rowsIR g m]) (T.ord [4, 0, 5, 1, 2, 3])
     have HRES := Lib.hid hrs; clear hrs HRS
     have HT2 := Lib.hid T2; clear T T2
     go_wp2
     go_ret
     rw [← HRES.out]
     exact ⟨rfl, HT2.out⟩
  ·have hgn2 : goodN i m.n = false := by simpa using hgn
   have ha : addM D safe m x i = (D, safe, m, 1) := by unfold addM; rw [if_neg (fun h => hgn h.2)]
   rw [ha]
   rw [hgi] at cg
   rw [hgn2] at cn
   clear hgn hgi hgn2 ha hg hm
   go_enter Tryz.func209, Tryz.ntmps209
   go_wp2_with fail
   generalize (W.alloc _).alloc _ = w3 at *
   generalize W.heap.size + 1 = g2 at *
   generalize W.heap.size = g1 at *
   have r2 := T.row; have r1 := T.row1; have r0 := T.row2; have l2 := row_lt r2; have l1 := row_lt r1; have l0 := row_lt r0; have c0 := row_cell r0 1
   refine wp_region_ext (by kernel_rfl) (by kernel_rfl) ?_
   repeat (go_big_quiet_step (first | (go_at_call 107; exact cg.quiet) | (go_at_call 108; exact cn.quiet)))
   refine wpQuiet_nil ?_
   rintro _ ⟨x9, rfl⟩
   have T := T.ext x9
   clear r0 r1 r2 l0 l1 l2 c0
   generalize ext _ x9 = w4 at *
   go_wp2
   go_ret
   exact ⟨rfl, T.drop.drop⟩
 ·have hgi2 : goodI x m.n = false := by simpa using hgi
  have ha : addM D safe m x i = (D, safe, m, 1) := by unfold addM; rw [if_neg (fun h => hgi h.1)]
  rw [ha]
  rw [hgi2] at cg
  clear hgi hgi2 ha hg hm cn
  go_enter Tryz.func209, Tryz.ntmps209
  go_wp2_with fail
  generalize (W.alloc _).alloc _ = w3 at *
  generalize W.heap.size + 1 = g2 at *
  generalize W.heap.size = g1 at *
  have r2 := T.row; have r1 := T.row1; have r0 := T.row2; have l2 := row_lt r2; have l1 := row_lt r1; have l0 := row_lt r0; have c0 := row_cell r0 1
  refine wp_region_ext (by kernel_rfl) (by kernel_rfl) ?_
  repeat (go_big_quiet_step (first | (go_at_call 107; exact cg.quiet)))
  refine wpQuiet_nil ?_
  rintro _ ⟨x9, rfl⟩
  have T := T.ext x9
  clear r0 r1 r2 l0 l1 l2 c0
  generalize ext _ x9 = w4 at *
  go_wp2
  go_ret
  exact ⟨rfl, T.drop.drop⟩
end Go.Proofs.YtomlilkobhkoiaaGreatDoor
/- Layer 6: the texts that stand sealed, one by one. -/
namespace Go.Proofs.YtomlilkobhkoiaaGreatDoor
open Go.RowKit Go.Shelf
set_option linter.unusedVariables false
attribute [local go_sem] Oper.semAt_some
attribute [local go_sem] row_alloc row_drew row_drewN row_ext row_setCell row_setRow size_ext setRow_alloc setRow_drew loadOf storeOf piece_lit loadVal_at storeVal_at allOne_lit buildOf buildRes_some
attribute [local go_sem high] cell_alloc frozen_alloc setCell_alloc cell_ext frozen_ext cell_setRow frozen_setRow
/-- Sealed texts, one behind the other, with how far each reaches. -/
def seals : Nat → Nat → List UInt8 → List (Nat × List UInt8)
 | 0, _, _ => []
 | f + 1, at', b => if (openS b).2 = 0 then [] else (at' + (openS b).2, (openS b).1) :: seals f (at' + (openS b).2) (b.drop (openS b).2)
def allS (b : List UInt8) : List (Nat × List UInt8) := seals b.length 0 b
theorem openS_le (b : List UInt8) : (openS b).2 ≤ b.length := by
 unfold openS
 dsimp only
 split
 ·exact Nat.zero_le _
 ·simp only []; omega
theorem drop_at {α : Type} {l : List α} {k : Nat} {x : α} {t : List α} (h : l.drop k = x :: t) : l[k]? = some x ∧ l.drop (k + 1) = t ∧ k < l.length := by
 have h1 : (l.drop k)[0]? = some x := by rw [h]; rfl
 rw [List.getElem?_drop] at h1
 refine ⟨h1, ?_, (List.getElem?_eq_some_iff.1 h1).1⟩
 have : (l.drop k).drop 1 = t := by rw [h]; rfl
 rw [List.drop_drop] at this
 exact this
set_option maxHeartbeats 2000000 in
theorem sealAllG (c : Nat) (b : List UInt8) (hb : b.length ≤ 1000000000) (W0 : World) (H : Nat → Prop) (hS : Sat W0 [rowR c #[.string (strL b)]] H) :
  Gives Tryz.prog 98 #[.pointer (some ⟨c, 0, none⟩)] (fun x : Nat × List UInt8 => #[.int .i64 x.1, .string (strL x.2)]) (fun A B => ∀ k, H k → B.heap[k]? = A.heap[k]?) (allS b) W0 := by
 intro l J Jx W hW hJ hJx hY h0
 have hS1 : Sat W [rowR c #[.string (strL b)]] H := hS.stay fun k hk => hW.block k (hS.lt k hk)
 have hab : ∀ k A B, J k A → Below A.heap.size A B → J k B := fun k A B h hb => hJ k A B none h ⟨hb.os, hb.tape, hb.output, hb.size, fun j hj _ => hb.block j hj⟩ (fun r e => by cases e)
 have hsb : ∀ A B, Sat A [rowR c #[.string (strL b)]] H → Below A.heap.size A B → Sat B [rowR c #[.string (strL b)]] H := fun A B h hb => h.stay fun j hj => hb.block j (h.lt j hj)
 have HSB := Lib.hid hsb; clear hsb
 have HAB := Lib.hid hab; have HJY := Lib.hid hY
 clear hS hab hJ hJx hW hY
 have hbz := strL_size b
 have HBZ := Lib.hid hbz; clear hbz
 refine callsIn_of_wp Tryz.func98 rfl trivial ?_ rfl
 simp only [Tryz.ntmps98, List.size_toArray, List.length_cons, List.length_nil, Nat.reduceAdd, Nat.reduceSub, Array.replicate_succ, Array.replicate_zero, List.push_toArray, List.append_toArray, List.nil_append, List.cons_append]
 gi_wp2
 gi_loopw [3] (fun i wr => ∃ at' k : Nat, at' ≤ b.length ∧ i = .int .i64 at' ∧ J k wr ∧ (∃ f, b.length - at' ≤ f ∧ (allS b).drop k = seals f at' (b.drop at')) ∧ k ≤ (allS b).length ∧ Sat wr [rowR c #[.string (strL b)]] H) (fun i _ => b.length - (intOf i).toNat)
 case atStart => exact ⟨0, 0, by omega, rfl, h0, ⟨b.length, by omega, by simp [allS]⟩, by omega, hS1⟩
 case round =>
  clear hS1 h0
  obtain ⟨at', k, hat, rfl, hJk, hdr, hk, hSk⟩ := hrel
  have hr := (Sts.start hSk).row
  have hc := row_cell hr 0
  have hlc := row_lt hr
  have hex : (strL b).extract at' b.length = strL (b.drop at') := strL_drop b at'
  have ho := open_any (b.drop at') (by rw [List.length_drop]; omega)
  have hle := openS_le (b.drop at')
  rw [List.length_drop] at hle
  have HEX := Lib.hid hex; have HO := Lib.hid ho; have HDR := Lib.hid hdr
  clear hex ho hdr hr
  have hbs : (strL b).size = b.length := HBZ.out
  gi_wp2_with fail
  rw [HEX.out]
  refine ⟨trivial, ?_⟩
  refine (callsIn_wide.2 (HO.out wr)).mono ?_
  rintro e w1 ⟨rfl, hb1⟩
  have hJ1 := HAB.out _ _ _ hJk hb1
  have hS1 := HSB.out _ _ hSk hb1
  clear hJk hSk hb1 hc hlc HO HEX
  obtain ⟨f, hf, hdr⟩ := HDR.out
  clear HDR
  generalize hn : (openS (b.drop at')).2 = n at *
  generalize ht : (openS (b.drop at')).1 = t at *
  by_cases h0 : n = 0
  ·subst h0
   have hk2 : (allS b).length = k := by
    have h9 : seals f at' (b.drop at') = [] := by
     cases f with
     | zero => rfl
     | succ f => unfold seals; rw [if_pos hn]
    rw [h9, List.drop_eq_nil_iff] at hdr
    omega
   have hJ2 : J (allS b).length w1 := by rw [hk2]; exact hJ1
   have HJ2 := Lib.hid hJ2
   clear hJ2 hJ1 hS1 hdr hk2 hn ht HAB HSB HJY
   gi_wp2
   refine bodyPost_ret (results_none rfl _ _ _) rfl ?_
   exact ⟨⟨_, rfl⟩, .inl HJ2.out⟩
  ·have hdr2 : (allS b).drop k = (at' + n, t) :: seals (f - 1) (at' + n) (b.drop (at' + n)) := by
    rw [hdr]
    obtain ⟨f, rfl⟩ : ∃ f', f = f' + 1 := ⟨f - 1, by omega⟩
    conv => lhs; unfold seals
    rw [if_neg (by rw [hn]; exact h0), hn, ht, List.drop_drop, Nat.add_sub_cancel]
   clear hdr
   obtain ⟨hx, hd1, hk1⟩ := drop_at hdr2
   have hY := HJY.out k _ w1 hx hJ1
   have h0b : ((n : Int) == 0) = false := by simp; omega
   have hat2 : ((at' + n : Nat) : Int) = (at' : Int) + n := by omega
   have H1 := Lib.hid hd1; have H2 := Lib.hid hS1; have H3 := Lib.hid hat2
   clear hdr2 hd1 hx hJ1 hS1 hn ht hat2
   dsimp only at hY
   rw [H3.out] at hY
   obtain ⟨fn, tmps, assign, body, hy, hR⟩ := hY
   gi_wp2
   refine hR.mono ?_
   rintro e W3 (⟨rfl, hJ5, hk5⟩ | ⟨rfl, hJx5⟩)
   ·have hS5 : Sat W3 [rowR c #[.string (strL b)]] H := H2.out.stay fun j hj => hk5 j hj
    have H5 := Lib.hid hJ5; have H6 := Lib.hid hS5
    clear hJ5 hS5 hk5 hy hR
    gi_wp2
    go_roundw
    case rel => exact ⟨at' + n, k + 1, by omega, by rw [H3.out], H5.out, ⟨f - 1, by omega, H1.out⟩, by omega, H6.out⟩
    case measure => simp [intOf]; omega
   ·have H5 := Lib.hid hJx5; clear hJx5 hy hR
    gi_wp2
    refine bodyPost_ret (results_none rfl _ _ _) rfl ?_
    exact ⟨⟨_, rfl⟩, .inr ⟨_, Nat.succ_pos _, by omega, H5.out⟩⟩
set_option maxHeartbeats 1000000 in
theorem sealAllS {w W : World} {F : Nat → Prop} {L : List Res} (T : Sts w F W L) (b : List UInt8) : Calls Tryz.prog 59 #[.string (strL b)] W fun e W' => e = .returned (.func (.func 98) #[] #[.pointer (some ⟨W.heap.size, 0, none⟩)]) ∧ Sts w F W' (rowR W.heap.size #[.string (strL b)] :: L) := by
 have T := T.new #[.string (strL b)] 9
 go_enter Tryz.func59, Tryz.ntmps59
 go_wp2
 go_ret
 exact ⟨rfl, T⟩
end Go.Proofs.YtomlilkobhkoiaaGreatDoor
/- Layer 9: a ledger is opened. -/
namespace Go.Proofs.YtomlilkobhkoiaaGreatDoor
open Go.RowKit Go.Shelf
set_option linter.unusedVariables false
set_option maxRecDepth 20000
attribute [local go_sem] Oper.semAt_some
attribute [local go_sem] row_alloc row_drew row_drewN row_ext row_setCell row_setRow size_ext setRow_alloc setRow_drew loadOf storeOf piece_lit loadVal_at storeVal_at allOne_lit buildOf buildRes_some
attribute [local go_sem high] cell_alloc frozen_alloc setCell_alloc cell_ext frozen_ext cell_setRow frozen_setRow
attribute [local go_sem ↓] TDeed_ld0 TDeed_st0 TDeed_fd0 TDeed_bd0
attribute [local go_sem] TDeed_size TDeed_one TDeed_piece TDeed_c0 TDeed_c1 TDeed_c2 TDeed_c3 TDeed_c4 TDeed_c5 TDeed_set_kind TDeed_set_key TDeed_set_val TDeed_set_ver TDeed_set_ses TDeed_set_num TDeed_ld TDeed_st TDeed_f_kind TDeed_f_key TDeed_f_val TDeed_f_ver TDeed_f_ses TDeed_f_num TDeed_bd TDeed_fl TDeed_fl_kind TDeed_fl_key TDeed_fl_val TDeed_fl_ver TDeed_fl_ses TDeed_fl_num
attribute [local go_sem high] TDeed_eql TDeed_neq
attribute [local go_sem ↓] index_deps0 load_deps0 store_deps0
attribute [local go_sem] DV_piece DV_size DV_one index_deps load_deps store_deps
attribute [local go_sem high] TDeps_eql TDeps_neq
attribute [local go_sem ↓] TCall_ld0 TCall_st0 TCall_fd0 TCall_bd0
attribute [local go_sem] TCall_size TCall_one TCall_piece TCall_c0 TCall_c1 TCall_c2 TCall_c3 TCall_c4 TCall_c5 TCall_c6 TCall_c7 TCall_c8 TCall_c9 TCall_c10 TCall_c11 TCall_c12 TCall_c13 TCall_p_deed TCall_put_deed TCall_p_deps TCall_put_deps TCall_set_seq TCall_ld TCall_st TCall_f_deed TCall_f_deps TCall_f_seq TCall_bd TCall_fl TCall_fl_deed TCall_fl_deps TCall_fl_seq
attribute [local go_sem high] TCall_eql TCall_neq
attribute [local go_sem ↓] TItem_ld0 TItem_st0 TItem_fd0 TItem_bd0
attribute [local go_sem] TItem_size TItem_one TItem_piece TItem_c0 TItem_c1 TItem_set_rep TItem_set_num TItem_ld TItem_st TItem_f_rep TItem_f_num TItem_bd TItem_fl TItem_fl_rep TItem_fl_num
attribute [local go_sem high] TItem_eql TItem_neq
attribute [local go_sem ↓] TBallot_ld0 TBallot_st0 TBallot_fd0 TBallot_bd0
attribute [local go_sem] TBallot_size TBallot_one TBallot_piece TBallot_c0 TBallot_c1 TBallot_set_round TBallot_set_rep TBallot_ld TBallot_st TBallot_f_round TBallot_f_rep TBallot_bd TBallot_fl TBallot_fl_round TBallot_fl_rep
attribute [local go_sem high] TBallot_eql TBallot_neq
attribute [local go_sem ↓] TInst_ld0 TInst_st0 TInst_fd0 TInst_bd0
attribute [local go_sem] TInst_size TInst_one TInst_piece TInst_c0 TInst_c1 TInst_c2 TInst_c3 TInst_c4 TInst_c5 TInst_c6 TInst_c7 TInst_c8 TInst_c9 TInst_c10 TInst_c11 TInst_c12 TInst_c13 TInst_c14 TInst_c15 TInst_c16 TInst_c17 TInst_c18 TInst_c19 TInst_p_prom TInst_put_prom TInst_p_vote TInst_put_vote TInst_set_status TInst_p_call TInst_put_call TInst_set_same TInst_ld TInst_st TInst_f_prom TInst_f_vote TInst_f_status TInst_f_call TInst_f_same TInst_bd TInst_fl TInst_fl_prom TInst_fl_vote TInst_fl_status TInst_fl_call TInst_fl_same
attribute [local go_sem high] TInst_eql TInst_neq
attribute [local go_sem] led_n led_p led_g
def sizeB (n : Int) : Bool := n == 3 || n == 5 || n == 7
theorem size_any (n : Int) : Ans Tryz.prog 56 #[.int .i64 n] (.bool (sizeB n)) := by
 intro W
 by_cases h3 : n = 3
 ·subst h3
  go_enter Tryz.func56, Tryz.ntmps56
  go_wp2
  go_ret
  exact ⟨rfl, Below.refl _ _⟩
 ·by_cases h5 : n = 5
  ·subst h5
   go_enter Tryz.func56, Tryz.ntmps56
   go_wp2
   go_ret
   exact ⟨rfl, Below.refl _ _⟩
  ·have e3 : (n == 3) = false := by simpa using h3
   have e5 : (n == 5) = false := by simpa using h5
   have e : sizeB n = (n == 7) := by unfold sizeB; rw [e3, e5]; rfl
   rw [e]
   clear h3 h5 e
   go_enter Tryz.func56, Tryz.ntmps56
   go_wp2
   go_ret
   exact ⟨rfl, Below.refl _ _⟩
/-- Is that text a record that can be? -/
noncomputable def okT (n : Int) (s : List UInt8) : Bool := !(readS ⟨s, false⟩).2.2.dry && (readS ⟨s, false⟩).2.2.left.isEmpty && goodI (readS ⟨s, false⟩).1 n && goodN (readS ⟨s, false⟩).2.1 n
noncomputable def mK (n : Int) (ts : List (Nat × List UInt8)) : RowsM := ts.foldl (fun m t => setM m (readS ⟨t.2, false⟩).1 (readS ⟨t.2, false⟩).2.1) ⟨n, fun _ => []⟩
def eK (ts : List (Nat × List UInt8)) : Nat := (ts.getLast?.map (·.1)).getD 0
/-- The records that stand on a plate. -/
noncomputable def goT (n : Int) (D : List UInt8) : List (Nat × List UInt8) := (allS D).takeWhile fun t => okT n t.2
theorem setM_n (m : RowsM) (x : Item) (t : Inst) : (setM m x t).n = m.n := by unfold setM; split <;> rfl
theorem foldSet_n (ts : List (Nat × List UInt8)) : ∀ m : RowsM, (ts.foldl (fun m t => setM m (readS ⟨t.2, false⟩).1 (readS ⟨t.2, false⟩).2.1) m).n = m.n := by
 induction ts with
 | nil => intro m; rfl
 | cons t ts ih => intro m; rw [List.foldl_cons, ih, setM_n]
theorem mK_n (n : Int) (ts : List (Nat × List UInt8)) : (mK n ts).n = n := foldSet_n ts _
theorem mK_snoc (n : Int) (ts : List (Nat × List UInt8)) (t : Nat × List UInt8) : mK n (ts ++ [t]) = setM (mK n ts) (readS ⟨t.2, false⟩).1 (readS ⟨t.2, false⟩).2.1 := by
 unfold mK; rw [List.foldl_append]; rfl
theorem eK_snoc (ts : List (Nat × List UInt8)) (t : Nat × List UInt8) : eK (ts ++ [t]) = t.1 := by simp [eK]
theorem take_snoc' {α : Type} {l : List α} {k : Nat} {x : α} (h : l[k]? = some x) : l.take (k + 1) = l.take k ++ [x] := by
 rw [List.take_add_one, h]; rfl
theorem takeWhile_all {α : Type} {p : α → Bool} {l : List α} (h : l.all p = true) : l.takeWhile p = l := by
 induction l with
 | nil => rfl
 | cons a l ih => simp at h; simp [h.1]; exact ih (by simpa using h.2)
theorem takeWhile_stop {α : Type} {p : α → Bool} {x : α} : ∀ {l : List α} {k : Nat}, (l.take k).all p = true → l[k]? = some x → p x = false → l.takeWhile p = l.take k
 | [], k, _, h, _ => by simp at h
 | a :: l, 0, _, h, hp => by simp at h; subst h; simp [hp]
 | a :: l, k + 1, ha, h, hp => by
  simp at ha h
  simp [ha.1]
  exact takeWhile_stop (by simpa using ha.2) h hp
/-- How far texts reach. -/
theorem seals_le : ∀ (f at' : Nat) (b : List UInt8), ∀ t ∈ seals f at' b, t.1 ≤ at' + b.length
 | 0, _, _, t, h => by simp [seals] at h
 | f + 1, at', b, t, h => by
  unfold seals at h
  have h1 := openS_le b
  split at h
  ·simp at h
  ·rcases List.mem_cons.1 h with rfl | h
   ·simp only; omega
   ·have := seals_le f _ _ t h
    rw [List.length_drop] at this
    omega
theorem allS_le (b : List UInt8) : ∀ t ∈ allS b, t.1 ≤ b.length := fun t h => by have := seals_le _ _ _ t h; omega
theorem eK_le {ts : List (Nat × List UInt8)} {N : Nat} (h : ∀ t ∈ ts, t.1 ≤ N) : eK ts ≤ N := by
 unfold eK
 cases hl : ts.getLast? with
 | none => simp
 | some t => exact h t (List.mem_of_getLast? hl)
end Go.Proofs.YtomlilkobhkoiaaGreatDoor
