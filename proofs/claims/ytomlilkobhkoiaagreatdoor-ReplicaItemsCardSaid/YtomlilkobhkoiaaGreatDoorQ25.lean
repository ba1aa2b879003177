/- Several texts in one. -/
import Derived.Test.YtomlilkobhkoiaaGreatDoorQ24
import Derived.Test.YtomlilkobhkoiaaGreatDoorQ5
/- Layer 12: the items that may be in a deed's way (Space.near), for deeds that name one key. -/
namespace Go.Proofs.YtomlilkobhkoiaaGreatDoor
open Go.RowKit Go.Shelf
set_option linter.unusedVariables false
set_option maxRecDepth 20000
attribute [local go_sem] Oper.semAt_some
attribute [local go_sem] row_alloc row_drew row_drewN row_ext row_setCell row_setRow size_ext setRow_alloc setRow_drew loadOf storeOf piece_lit loadVal_at storeVal_at allOne_lit buildOf buildRes_some
attribute [local go_sem high] cell_alloc frozen_alloc setCell_alloc cell_ext frozen_ext cell_setRow frozen_setRow
attribute [local go_sem ↓] TDeed_ld0 TDeed_st0 TDeed_fd0 TDeed_bd0
attribute [local go_sem] TDeed_size TDeed_one TDeed_piece TDeed_c0 TDeed_c1 TDeed_c2 TDeed_c3 TDeed_c4 TDeed_c5 TDeed_set_kind TDeed_set_key TDeed_set_val TDeed_set_ver TDeed_set_ses TDeed_set_num TDeed_ld TDeed_st TDeed_f_kind TDeed_f_key TDeed_f_val TDeed_f_ver TDeed_f_ses TDeed_f_num TDeed_bd TDeed_fl TDeed_fl_kind TDeed_fl_key TDeed_fl_val TDeed_fl_ver TDeed_fl_ses TDeed_fl_num
attribute [local go_sem high] TDeed_eql TDeed_neq
attribute [local go_sem ↓] index_deps0 load_deps0 store_deps0
attribute [local go_sem] DV_piece DV_size DV_one index_deps load_deps store_deps
attribute [local go_sem high] TDeps_eql TDeps_neq
attribute [local go_sem ↓] TCall_ld0 TCall_st0 TCall_fd0 TCall_bd0
attribute [local go_sem] TCall_size TCall_one TCall_piece TCall_c0 TCall_c1 TCall_c2 TCall_c3 TCall_c4 TCall_c5 TCall_c6 TCall_c7 TCall_c8 TCall_c9 TCall_c10 TCall_c11 TCall_c12 TCall_c13 TCall_p_deed TCall_put_deed TCall_p_deps TCall_put_deps TCall_set_seq TCall_ld TCall_st TCall_f_deed TCall_f_deps TCall_f_seq TCall_bd TCall_fl TCall_fl_deed TCall_fl_deps TCall_fl_seq
attribute [local go_sem high] TCall_eql TCall_neq
attribute [local go_sem ↓] TItem_ld0 TItem_st0 TItem_fd0 TItem_bd0
attribute [local go_sem] TItem_size TItem_one TItem_piece TItem_c0 TItem_c1 TItem_set_rep TItem_set_num TItem_ld TItem_st TItem_f_rep TItem_f_num TItem_bd TItem_fl TItem_fl_rep TItem_fl_num
attribute [local go_sem high] TItem_eql TItem_neq
attribute [local go_sem ↓] TBallot_ld0 TBallot_st0 TBallot_fd0 TBallot_bd0
attribute [local go_sem] TBallot_size TBallot_one TBallot_piece TBallot_c0 TBallot_c1 TBallot_set_round TBallot_set_rep TBallot_ld TBallot_st TBallot_f_round TBallot_f_rep TBallot_bd TBallot_fl TBallot_fl_round TBallot_fl_rep
attribute [local go_sem high] TBallot_eql TBallot_neq
attribute [local go_sem ↓] TInst_ld0 TInst_st0 TInst_fd0 TInst_bd0
attribute [local go_sem] TInst_size TInst_one TInst_piece TInst_c0 TInst_c1 TInst_c2 TInst_c3 TInst_c4 TInst_c5 TInst_c6 TInst_c7 TInst_c8 TInst_c9 TInst_c10 TInst_c11 TInst_c12 TInst_c13 TInst_c14 TInst_c15 TInst_c16 TInst_c17 TInst_c18 TInst_c19 TInst_p_prom TInst_put_prom TInst_p_vote TInst_put_vote TInst_set_status TInst_p_call TInst_put_call TInst_set_same TInst_ld TInst_st TInst_f_prom TInst_f_vote TInst_f_status TInst_f_call TInst_f_same TInst_bd TInst_fl TInst_fl_prom TInst_fl_vote TInst_fl_status TInst_fl_call TInst_fl_same
attribute [local go_sem high] TInst_eql TInst_neq
def nearL (s lg bk bs c1 c2 : Nat) (I : Idx) (d : Deed) : List Res := [rowR c1 #[.pointer (some ⟨s, 0, none⟩)], rowR c2 (EV d), idxR s lg bk bs I]
/-- What is read of a space's places, in every world that leaves them. -/
structure NearF (s bk bs c1 c2 : Nat) (I : Idx) (d : Deed) (Al As Ak : Option Addr) (cl cs ck : Nat) (W : World) : Prop where
  c1 : W.cell? ⟨c1, 0, none⟩ = some (.pointer (some ⟨s, 0, none⟩))
  c2 : row? W c2 = some (EV d)
  keys : W.cell? ⟨s, 1, none⟩ = some (.map (some bk))
  lists : W.cell? ⟨s, 2, none⟩ = some (.slice Al I.lists.length cl)
  ses : W.cell? ⟨s, 3, none⟩ = some (.map (some bs))
  lookS : (Instr.lookup 90 (.map (some bs)) (.int .i64 d.ses) false).run Tryz.prog W = .ok (.slice As (I.ses d.ses).length cs) W
  lookK : (Instr.lookup 88 (.map (some bk)) (.string d.key) false).run Tryz.prog W = .ok (.slice Ak (I.keys d.key).length ck) W
  rowsL : RowsIn W Al 2 IV I.lists
  rowsS : RowsIn W As 2 IV (I.ses d.ses)
  rowsK : RowsIn W Ak 2 IV (I.keys d.key)
theorem near_facts (s lg bk bs c1 c2 : Nat) (I : Idx) (hI : IdxOk I) (d : Deed) (hk : d.key.size ≤ maxLen) (hs : intKOk d.ses) (W0 : World) (H : Nat → Prop) (hS : Sat W0 (nearL s lg bk bs c1 c2 I d) H) :
    ∃ Al As Ak cl cs ck, ∀ w F W R, Sts w F W (pinR H W0 :: R) → NearF s bk bs c1 c2 I d Al As Ak cl cs ck W := by
  have T := Sts.start hS
  unfold nearL at T
  obtain ⟨v, T⟩ := (T.ord [2, 0, 1]).idxOpen
  have T1 := T.ord [3, 0, 1, 2, 4, 5]
  obtain ⟨u, n, g, O, hn, hv, T2, -, -⟩ := T1.kmapPick d.ses hs
  have T3 := T2.ord [5, 0, 1, 2, 3, 4, 6, 7]
  obtain ⟨uk, nk, gk, Ok, hnk, hvk, T4, -, -⟩ := T3.kmapPick d.key hk
  obtain ⟨Al, cl, rfl⟩ := vec_shape2 (T4.ord [7, 0, 1, 2, 3, 4, 5, 6])
  obtain ⟨As, cs, rfl⟩ := vec_shape2 (T4.ord [4, 0, 1, 2, 3])
  obtain ⟨Ak, ck, rfl⟩ := vec_shape2 T4.drop
  obtain ⟨G, hG1, hG2⟩ := Sts.among hS T4
  refine ⟨Al, As, Ak, cl, cs, ck, fun w F W R TP => ?_⟩
  have T5 := Sts.start (TP.pinned hG1 hG2)
  clear T T1 T2 T3 T4
  have r1 := (T5.ord [8, 0, 1, 2, 3, 4, 5, 6, 7]).row
  have r2 := (T5.ord [9, 0, 1, 2, 3, 4, 5, 6, 7, 8]).row
  have r3 := (T5.ord [6, 0, 1, 2, 3, 4, 5]).row
  have lS := ((T5.ord [3, 0, 1, 2]).map).look0 intOk Tryz.underlying90 zeroItems d.ses hs hv
  have lK := (T5.map).look0 strOk Tryz.underlying88 zeroItems d.key hk hvk
  have hN := hI.N; have h1 := hI.lists; have h2 := hI.ses d.ses; have h3 := hI.keys d.key
  obtain ⟨A1, q1, e1, R1, -, -⟩ := vec_rows (V := IV) (fun _ => rfl) (T5.ord [7, 0, 1, 2, 3, 4, 5, 6]) (by omega) (by omega)
  obtain ⟨A2, q2, e2, R2, -, -⟩ := vec_rows (V := IV) (fun _ => rfl) (T5.ord [4, 0, 1, 2, 3]) (by omega) (by omega)
  obtain ⟨A3, q3, e3, R3, -, -⟩ := vec_rows (V := IV) (fun _ => rfl) T5.drop (by omega) (by omega)
  injection e1 with e1; subst e1
  injection e2 with e2; subst e2
  injection e3 with e3; subst e3
  exact ⟨row_cell r1 0, r2, row_cell r3 1, row_cell r3 2, row_cell r3 3, lS, lK, R1, R2, R3⟩
theorem items_i : ∃ i, Tryz.prog.info? 89 = some i ∧ i.zero = some (.slice none 0 0) ∧ i.size = 1 ∧ i.bytes = 24 := by
  have h : (Tryz.prog.info? 89).map (fun i => (i.zero, i.size, i.bytes)) = some (some (.slice none 0 0), 1, 24) := by kernel_rfl
  cases hi : Tryz.prog.info? 89 with
  | none => rw [hi] at h; simp at h
  | some i => rw [hi] at h; simp at h; exact ⟨i, rfl, h.1, h.2.1, h.2.2⟩
theorem perm_pre {M X R : List Res} : (M ++ (X ++ R)).Perm (X ++ (M ++ R)) := by
  rw [← List.append_assoc, ← List.append_assoc]
  exact List.perm_append_comm.append_right R
set_option maxHeartbeats 8000000 in
theorem nearG (s lg bk bs c1 c2 : Nat) (I : Idx) (hI : IdxOk I) (d : Deed) (h5 : ¬ d.kind = 5) (hk : d.key.size ≤ maxLen) (hs : intKOk d.ses) (W0 : World) (H : Nat → Prop) (hS : Sat W0 (nearL s lg bk bs c1 c2 I d) H) :
    GivesD Tryz.prog 86 #[.pointer (some ⟨c1, 0, none⟩), .pointer (some ⟨c2, 0, none⟩)] (fun x : Item => #[.agg (IV x)]) [pinR H W0] (fun xs => xs = I.lists ++ I.ses d.ses ++ I.keys d.key) := by
  obtain ⟨Al, As, Ak, cl, cs, ck, hF⟩ := near_facts s lg bk bs c1 c2 I hI d hk hs W0 H hS
  have HF := Lib.hid hF; clear hF hS
  intro l own ownX hY w F W R T
  have HY := Lib.hid hY; clear hY
  have T : Sts w F W (pinR H W0 :: (own [] ++ R)) := T.perm perm_one
  have HT := Lib.hid T; clear T
  refine callsIn_of_wp Tryz.func86 rfl trivial ?_ rfl
  simp only [Tryz.ntmps86, List.size_toArray, List.length_cons, List.length_nil, Nat.reduceAdd, Nat.reduceSub, Array.replicate_succ, Array.replicate_zero, List.push_toArray, List.append_toArray, List.nil_append, List.cons_append]
  gi_wp2_with fail
  have FS : ∀ W' R', Sts w F W' (pinR H W0 :: R') → (W'.cell? ⟨c1, 0, none⟩ = some (.pointer (some ⟨s, 0, none⟩)) ∧ W'.cell? ⟨c2, 4, none⟩ = some (.int .i64 d.ses) ∧ W'.cell? ⟨s, 2, none⟩ = some (.slice Al I.lists.length cl) ∧ W'.cell? ⟨s, 3, none⟩ = some (.map (some bs)) ∧ (Instr.lookup 90 (.map (some bs)) (.int .i64 d.ses) false).run Tryz.prog W' = .ok (.slice As (I.ses d.ses).length cs) W') := fun W' R' T => by
    have f := HF.out _ _ _ _ T
    exact ⟨f.c1, row_cell f.c2 4, f.lists, f.ses, f.lookS⟩
  have S0 := FS _ _ HT.out.drew
  have HFS := Lib.hid FS; clear FS
  refine wpIn_wide.2 ?_
  refine wp_region_held_drew (S := fun W' => (W'.cell? ⟨c1, 0, none⟩ = some (.pointer (some ⟨s, 0, none⟩)) ∧ W'.cell? ⟨c2, 4, none⟩ = some (.int .i64 d.ses) ∧ W'.cell? ⟨s, 2, none⟩ = some (.slice Al I.lists.length cl) ∧ W'.cell? ⟨s, 3, none⟩ = some (.map (some bs)) ∧ (Instr.lookup 90 (.map (some bs)) (.int .i64 d.ses) false).run Tryz.prog W' = .ok (.slice As (I.ses d.ses).length cs) W')) (by kernel_rfl) S0 (fun hHeld => ?_)
  clear S0
  refine tkH 0 rfl ?_
  simp only [Act.put, List.setIfInBounds_toArray, List.set_cons_zero, List.set_cons_succ]
  refine tkH 1 rfl ?_
  go_frame
  refine tkH 2 rfl ?_
  go_frame
  refine tkH 3 rfl ?_
  go_frame
  refine tkH 4 rfl ?_
  go_frame
  refine tkH 5 rfl ?_
  go_frame
  refine tkH 6 rfl ?_
  go_frame
  refine tkH 7 rfl ?_
  go_frame
  refine tkH 8 rfl ?_
  go_frame
  refine tkH 9 rfl ?_
  go_frame
  refine tkH 10 rfl ?_
  go_frame
  refine wpAnyH_ready (rs := [11]) (by kernel_rfl) (by simp) ?_
  refine AllReadyH.cons (o := _) rfl (fun K hK => ?_) AllReadyH.nil
  have Ta := (HT.out.vecNew #[.slice Al I.lists.length cl, .slice As (I.ses d.ses).length cs] 89 1 2 rfl (by unfold maxLen; omega)).drew
  have HTa := Lib.hid (Ta.ord [1, 0]); clear Ta HT
  go_simp
  refine hK.out _ _ (HFS.out _ _ HTa.out) (fun hHeld => ?_)
  clear hK K HFS
  refine tkH 12 rfl ?_
  simp only [Act.put, List.setIfInBounds_toArray, List.set_cons_zero, List.set_cons_succ]
  refine wpAnyH_done (by kernel_rfl) ?_ _
  simp only [Exit.then]
  generalize hw1 : (W.alloc _).drew = w1 at *
  generalize W.heap.size = g0 at *
  clear hw1
  have r2 := (HF.out _ _ _ _ HTa.out).c2; have l2 := row_lt r2; have c20 := row_cell r2 0
  have h5b : (d.kind == 5) = false := by simpa using h5
  gi_wp2_with fail
  clear r2 l2 c20
  have FS : ∀ W' R', Sts w F W' (pinR H W0 :: R') → (W'.cell? ⟨c1, 0, none⟩ = some (.pointer (some ⟨s, 0, none⟩)) ∧ W'.cell? ⟨c2, 1, none⟩ = some (.string d.key) ∧ W'.cell? ⟨s, 1, none⟩ = some (.map (some bk)) ∧ (Instr.lookup 88 (.map (some bk)) (.string d.key) false).run Tryz.prog W' = .ok (.slice Ak (I.keys d.key).length ck) W') := fun W' R' T => by
    have f := HF.out _ _ _ _ T
    exact ⟨f.c1, row_cell f.c2 1, f.keys, f.lookK⟩
  have S0 := FS _ _ HTa.out.drew
  have HFS := Lib.hid FS; clear FS
  refine wpIn_wide.2 ?_
  refine wp_region_held_drew (S := fun W' => (W'.cell? ⟨c1, 0, none⟩ = some (.pointer (some ⟨s, 0, none⟩)) ∧ W'.cell? ⟨c2, 1, none⟩ = some (.string d.key) ∧ W'.cell? ⟨s, 1, none⟩ = some (.map (some bk)) ∧ (Instr.lookup 88 (.map (some bk)) (.string d.key) false).run Tryz.prog W' = .ok (.slice Ak (I.keys d.key).length ck) W')) (by kernel_rfl) S0 (fun hHeld => ?_)
  clear S0
  refine tkH 0 rfl ?_
  simp only [Act.put, List.setIfInBounds_toArray, List.set_cons_zero, List.set_cons_succ]
  refine tkH 1 rfl ?_
  go_frame
  refine tkH 2 rfl ?_
  go_frame
  refine tkH 3 rfl ?_
  go_frame
  refine tkH 4 rfl ?_
  go_frame
  refine tkH 5 rfl ?_
  go_frame
  refine tkH 6 rfl ?_
  go_frame
  refine tkH 7 rfl ?_
  go_frame
  refine wpAnyH_ready (rs := [8]) (by kernel_rfl) (by simp) ?_
  refine AllReadyH.cons (o := _) rfl (fun K hK => ?_) AllReadyH.nil
  have Tb := (HTa.out.new #[.slice Ak (I.keys d.key).length ck] 89).drew
  have HTb := Lib.hid (Tb.ord [1, 0, 2]); clear Tb HTa
  go_simp
  refine hK.out _ _ (HFS.out _ _ HTb.out) (fun hHeld => ?_)
  clear hK K
  generalize hw2 : (w1.alloc _).drew = w2 at *
  generalize w1.heap.size = g1 at *
  clear hw2
  refine wpAnyH_ready (rs := [9]) (by kernel_rfl) (by simp) ?_
  refine AllReadyH.cons (o := _) rfl (fun K hK => ?_) AllReadyH.nil
  obtain ⟨i0, hi, hz0, hz1, hz2⟩ := items_i
  have Tc := HTb.out.ord [2, 1, 0]
  clear HTb
  refine step_append_vec (by rfl) _ _ _ (by rfl) 89 i0 _ 1 24 Tryz.underlying190 hi hz0 hz1 hz2 rfl (by omega) (.slice (some ⟨g0, 0, none⟩) 2 2) 2 [.slice Al I.lists.length cl, .slice As (I.ses d.ses).length cs] (by rfl) Tc ⟨g1, 0, none⟩ 1 1 [.slice Ak (I.keys d.key).length ck] (by rfl) (by rfl) (news_row Tc.row1) (by simp [Value.oneCell']) (by omega) (by unfold maxLen; omega) (by omega) ?_
  intro gv cap w3 T3
  have T4 := T3.ord [2, 0, 1]
  refine hK.out _ _ (HFS.out _ _ T4) (fun hHeld => ?_)
  clear hK K HFS Tc T3
  refine tkH 10 rfl ?_
  simp only [Act.put, List.getElem_toArray, List.getElem_cons_succ, List.getElem_cons_zero, List.setIfInBounds_toArray, List.set_cons_zero, List.set_cons_succ]
  refine wpAnyH_done (by kernel_rfl) ?_ _
  simp only [Exit.then]
  have T5 : Sts w F w3 (pinR H W0 :: vecR 89 1 (.slice (some ⟨gv, 0, none⟩) 3 cap) 3 [.slice Al I.lists.length cl, .slice As (I.ses d.ses).length cs, .slice Ak (I.keys d.key).length ck] :: rowR g1 #[.slice Ak (I.keys d.key).length ck] :: (own [] ++ R)) := T4
  have HT := Lib.hid T5; clear T4 T5
  gi_wp2_with fail
  obtain ⟨tot, htot⟩ : ∃ tot, tot = I.lists ++ I.ses d.ses ++ I.keys d.key := ⟨_, rfl⟩
  obtain ⟨sm, hsm⟩ : ∃ sm : Nat → List Item, sm = fun i => (([I.lists, I.ses d.ses, I.keys d.key] : List (List Item)).take i).flatten := ⟨_, rfl⟩
  have hsm0 : sm 0 = [] := by rw [hsm]; rfl
  have hsm3 : sm 3 = tot := by rw [hsm, htot]; simp
  have hrow : ∀ (w : World) (F : Nat → Prop) (W : World) (R : List Res) (i : Nat), i < 3 → Sts w F W (pinR H W0 :: vecR 89 1 (.slice (some ⟨gv, 0, none⟩) 3 cap) 3 [.slice Al I.lists.length cl, .slice As (I.ses d.ses).length cs, .slice Ak (I.keys d.key).length ck] :: R) →
      ∃ A c li rest, W.cell? ⟨gv, i, none⟩ = some (.slice A (List.length li) c) ∧ (∀ w F W R, Sts w F W (pinR H W0 :: R) → RowsIn W A 2 IV li) ∧ sm (i + 1) = sm i ++ li ∧ tot = sm i ++ li ++ rest := fun w F W R i hi T => by
    have hv := vec_rows (V := fun v : Value => #[v]) (l := [.slice Al I.lists.length cl, .slice As (I.ses d.ses).length cs, .slice Ak (I.keys d.key).length ck]) (fun _ => rfl) (e := 89) (size := 1) T.drop (by omega) (by simp)
    obtain ⟨A', c', e1, hR, -, -⟩ := hv
    injection e1 with e1; subst e1
    have hone : ∀ j (hj : j < 3) v, ([.slice Al I.lists.length cl, .slice As (I.ses d.ses).length cs, .slice Ak (I.keys d.key).length ck] : List Value)[j]? = some v → W.cell? ⟨gv, j, none⟩ = some v := fun j hj v h => by
      have h2 := hR.one (Below.refl _ _) (j := j) (by simpa using hj) 0 v (by
        obtain ⟨h3, h4⟩ := List.getElem?_eq_some_iff.1 h
        rw [h4]; rfl)
      rw [Nat.mul_one, Nat.add_zero] at h2
      exact h2
    match i, hi with
    | 0, _ => exact ⟨Al, cl, I.lists, I.ses d.ses ++ I.keys d.key, hone 0 (by omega) _ rfl, fun _ _ _ _ T => (HF.out _ _ _ _ T).rowsL, by rw [hsm]; simp, by rw [htot, hsm0]; simp⟩
    | 1, _ => exact ⟨As, cs, I.ses d.ses, I.keys d.key, hone 1 (by omega) _ rfl, fun _ _ _ _ T => (HF.out _ _ _ _ T).rowsS, by rw [hsm]; simp, by rw [htot, hsm]; simp⟩
    | 2, _ => exact ⟨Ak, ck, I.keys d.key, [], hone 2 (by omega) _ rfl, fun _ _ _ _ T => (HF.out _ _ _ _ T).rowsK, by rw [hsm]; simp, by rw [htot, hsm]; simp⟩
  have HROW := Lib.hid hrow
  have HT2 : Sts w F w3 (pinR H W0 :: vecR 89 1 (.slice (some ⟨gv, 0, none⟩) 3 cap) 3 [.slice Al I.lists.length cl, .slice As (I.ses d.ses).length cs, .slice Ak (I.keys d.key).length ck] :: rowR g1 #[.slice Ak (I.keys d.key).length ck] :: (own (sm 0) ++ R)) := by rw [hsm0]; exact HT.out
  have HT := Lib.hid HT2
  have HTOT := Lib.hid htot; have HSM3 := Lib.hid hsm3
  clear hrow HT2 hsm hsm0 hsm3 htot
  gi_loopw [56] (fun i wr => ∃ r : Nat, r ≤ 3 ∧ i = .int .i64 r ∧ Sts w F wr (pinR H W0 :: vecR 89 1 (.slice (some ⟨gv, 0, none⟩) 3 cap) 3 [.slice Al I.lists.length cl, .slice As (I.ses d.ses).length cs, .slice Ak (I.keys d.key).length ck] :: rowR g1 #[.slice Ak (I.keys d.key).length ck] :: (own (sm r) ++ R))) (fun i _ => 3 - (intOf i).toNat)
  case atStart => exact ⟨0, by omega, rfl, HT.out⟩
  case round =>
    clear HT
    obtain ⟨r, hr3, rfl, T⟩ := hrel
    by_cases hlt : r < 3
    · have hlt' : (0 : Int) ≤ (r : Int) ∧ (r : Int) < 3 := by omega
      obtain ⟨A, c, li, rest, hcell, hrows, hsr, htr⟩ := HROW.out _ _ _ _ r hlt T
      have HRW := Lib.hid hrows; have HSR := Lib.hid hsr; have HTR := Lib.hid htr; have HT := Lib.hid T
      have hll := (hrows _ _ _ _ T).len
      clear hrows hsr htr T
      gi_wp2_with fail
      clear hcell
      gi_loopw [62] (fun j wr => ∃ k : Nat, k ≤ li.length ∧ j = .int .i64 k ∧ Sts w F wr (pinR H W0 :: vecR 89 1 (.slice (some ⟨gv, 0, none⟩) 3 cap) 3 [.slice Al I.lists.length cl, .slice As (I.ses d.ses).length cs, .slice Ak (I.keys d.key).length ck] :: rowR g1 #[.slice Ak (I.keys d.key).length ck] :: (own (sm r ++ li.take k) ++ R))) (fun j _ => li.length - (intOf j).toNat)
      case atStart => exact ⟨0, Nat.zero_le _, rfl, by rw [List.take_zero, List.append_nil]; exact HT.out⟩
      case round =>
        clear HT
        obtain ⟨k, hk, rfl, T⟩ := hrel
        by_cases hkl : k < li.length
        · have hR := HRW.out _ _ _ _ T
          cases A with
          | none => have := hR.nil rfl; subst this; simp at hkl
          | some a =>
            have hld := hR.load (P := Tryz.prog) (T := 33) (fun _ => rfl) TItem_und rfl (by kernel_rfl) (Below.refl _ _) rfl hkl
            have hpost : ∃ post, sm r ++ li.take k ++ li[k] :: post = I.lists ++ I.ses d.ses ++ I.keys d.key := by
              refine ⟨li.drop (k + 1) ++ rest, ?_⟩
              rw [← HTOT.out, HTR.out]
              have h1 : li.take k ++ li[k] :: li.drop (k + 1) = li := by rw [List.getElem_cons_drop, List.take_append_drop]
              have h2 : sm r ++ li ++ rest = sm r ++ (li.take k ++ li[k] :: li.drop (k + 1)) ++ rest := by rw [h1]
              rw [h2]
              simp only [List.append_assoc, List.cons_append]
            have htk : sm r ++ li.take (k + 1) = sm r ++ li.take k ++ [li[k]] := by rw [List.take_succ_eq_append_getElem hkl, List.append_assoc]
            have hk3 : (k : Int) < (li.length : Int) := by omega
            have hk0 : (0 : Int) ≤ (k : Int) := by omega
            generalize li[k] = x at *
            have T2 := T.new (IV x) 33
            have T3 := T2.ord [1, 0, 2, 3]
            have hY := HY.out (sm r ++ li.take k) x w F _ _ hpost (T3.perm (perm_pre (M := [_, _, _, _])))
            have HTK := Lib.hid htk
            have r1 := T2.row; have l1 := row_lt r1
            clear hR hpost T T2 T3 htk
            obtain ⟨fn, tmps, assign, body, hy, hRR⟩ := hY
            gi_wp2_with fail
            refine hRR.mono ?_
            clear hy hRR r1 l1 hld
            rintro e W3 (⟨rfl, T⟩ | ⟨rfl, T⟩)
            · have T5 := (T.perm (perm_pre (M := [_, _, _, _])).symm).ord [1, 0, 2, 3]
              have HT := Lib.hid T5.drop; clear T T5
              gi_wp2
              refine ⟨⟨_, _, _, _, _, _, _, _, _, _, ?rel, rfl⟩, ?measure⟩
              case rel => exact ⟨k + 1, by omega, by go_num, by rw [HTK.out]; exact HT.out⟩
              case measure => simp [intOf]; omega
            · have T5 := (T.perm (perm_pre (M := [_, _, _, _])).symm).ord [1, 2, 3, 0]
              have T6 := T5.drop.drop.drop
              have HT := Lib.hid (T6.perm (perm_pre (M := [_]))); clear T T5 T6
              gi_wp2
              refine bodyPost_ret (results_none rfl _ _ _) rfl ?_
              exact ⟨⟨_, rfl⟩, .inr ⟨_, HT.out⟩⟩
        · obtain rfl : k = li.length := by omega
          rw [List.take_length, ← HSR.out] at T
          have HT := Lib.hid T; clear T
          gi_wp2
          go_roundw
          case rel => exact ⟨r + 1, by omega, by go_num, HT.out⟩
          case measure => simp [intOf]; omega
    · obtain rfl : r = 3 := by omega
      rw [HSM3.out] at T
      have T6 := (T.ord [1, 2, 0]).drop.drop
      have HT := Lib.hid (T6.perm (perm_pre (M := [_]))); clear T T6
      gi_wp2
      go_end0
      exact ⟨⟨_, rfl⟩, .inl ⟨tot, HTOT.out, HT.out⟩⟩
end Go.Proofs.YtomlilkobhkoiaaGreatDoor

namespace Go.Proofs.YtomlilkobhkoiaaGreatDoor
open Go.RowKit
attribute [local go_sem] row_alloc row_drew row_drewN row_ext row_setCell row_setRow size_ext setRow_alloc setRow_drew loadOf storeOf piece_lit DV_piece loadVal_at storeVal_at allOne_lit DV_size DV_one
attribute [local go_sem high] cell_alloc frozen_alloc setCell_alloc cell_ext frozen_ext
attribute [local go_sem ↓] index_deps0 load_deps0 store_deps0
attribute [local go_sem] index_deps load_deps store_deps
/-! The document's Has: the same, by a loop. -/
end Go.Proofs.YtomlilkobhkoiaaGreatDoor

namespace Go.Proofs.YtomlilkobhkoiaaGreatDoor
open Go.RowKit
attribute [local go_sem] row_alloc row_drew row_drewN row_ext row_setCell row_setRow size_ext setRow_alloc setRow_drew loadOf storeOf piece_lit DV_piece loadVal_at storeVal_at allOne_lit DV_size DV_one
attribute [local go_sem high] cell_alloc frozen_alloc setCell_alloc cell_ext frozen_ext
attribute [local go_sem ↓] index_deps0 load_deps0 store_deps0
attribute [local go_sem] index_deps load_deps store_deps
set_option maxHeartbeats 400000 in
theorem with_yes (d : Nat → Int) (r n : Int) (hr0 : 0 ≤ r) (hr : r < 7) : 
    Ans Tryz.prog 50 #[.agg (DV d), .agg #[.int .i64 r, .int .i64 n]] (.agg (DV (upd d r.toNat (max (d r.toNat) n)))) := by
  intro w
  have hD := DV_get d r.toNat (by omega)
  have hset := DV_set d r.toNat 
  generalize d r.toNat = v at *
  go_enter Tryz.func50, Tryz.ntmps50
  go_wp2
  go_region
  all_goals go_wp2
  · refine ret_deps (upd d r.toNat n) rfl rfl rfl (by go_simp) ⟨?_, ?_⟩
    · rw [Int.max_eq_right (by omega)]
    · exact ((((Below.refl _ _).alloc (Nat.le_refl _) _).alloc (by simp) _).alloc (by simp; omega) _).drew
  · refine ret_deps (upd d r.toNat v) rfl rfl rfl (by go_simp) ⟨?_, ?_⟩
    · rw [Int.max_eq_left (by omega)]
    · exact ((((Below.refl _ _).alloc (Nat.le_refl _) _).alloc (by simp) _).alloc (by simp; omega) _).drew
set_option maxHeartbeats 400000 in
theorem with_no (d : Nat → Int) (r n : Int) (h : ¬ (0 ≤ r ∧ r < 7)) : Ans Tryz.prog 50 #[.agg (DV d), .agg #[.int .i64 r, .int .i64 n]] (.agg (DV d)) := by
  intro w
  by_cases hr0 : 0 ≤ r
  · have hr : ¬ r < 7 := by omega
    clear h
    go_enter Tryz.func50, Tryz.ntmps50
    go_wp2
    refine ret_deps d rfl rfl rfl (by go_simp) ⟨rfl, ?_⟩
    exact ((((Below.refl _ _).alloc (Nat.le_refl _) _).alloc (by simp) _).alloc (by simp; omega) _)
  · clear h
    go_enter Tryz.func50, Tryz.ntmps50
    go_wp2
    refine ret_deps d rfl rfl rfl (by go_simp) ⟨rfl, ?_⟩
    exact ((((Below.refl _ _).alloc (Nat.le_refl _) _).alloc (by simp) _).alloc (by simp; omega) _)
def withD (d : Nat → Int) (r n : Int) : Nat → Int := if 0 ≤ r ∧ r < 7 then upd d r.toNat (max (d r.toNat) n) else d
theorem with_any (d : Nat → Int) (r n : Int) : Ans Tryz.prog 50 #[.agg (DV d), .agg #[.int .i64 r, .int .i64 n]] (.agg (DV (withD d r n))) := by
  by_cases h : 0 ≤ r ∧ r < 7
  · rw [show withD d r n = upd d r.toNat (max (d r.toNat) n) from if_pos h]; exact with_yes d r n h.1 h.2
  · rw [show withD d r n = d from if_neg h]; exact with_no d r n h

end Go.Proofs.YtomlilkobhkoiaaGreatDoor

namespace Go.Proofs.YtomlilkobhkoiaaGreatDoor
open Go.RowKit
attribute [local go_sem] row_alloc row_drew row_drewN row_ext row_setCell row_setRow size_ext setRow_alloc setRow_drew loadOf storeOf piece_lit loadVal_at storeVal_at allOne_lit EV_size EV_one EV_piece EV_0 EV_1 EV_2 EV_3 EV_4 EV_5
attribute [local go_sem high] cell_alloc frozen_alloc setCell_alloc cell_ext frozen_ext
attribute [local go_sem ↓] load_deed0 store_deed0
attribute [local go_sem] load_deed store_deed
def writes (d : Deed) : Bool := decide (2 ≤ d.kind ∧ d.kind ≤ 4)
set_option maxHeartbeats 1000000 in
theorem writes_any (d : Deed) : Ans Tryz.prog 135 #[.agg (EV d)] (.bool (writes d)) := by
  intro w
  go_enter Tryz.func135, Tryz.ntmps135
  go_wp2
  all_goals
    go_ret
    refine ⟨congrArg (fun b => Ending.returned (.bool b)) ?_, (Below.refl _ _).alloc (Nat.le_refl _) _⟩
    unfold writes
    first
      | exact (decide_eq_true (by omega)).symm
      | (rw [Bool.eq_iff_iff, decide_eq_true_eq]; simp only [Bool.or_eq_true, beq_iff_eq]; constructor <;> intro h <;> omega)
end Go.Proofs.YtomlilkobhkoiaaGreatDoor

namespace Go.Proofs.YtomlilkobhkoiaaGreatDoor
open Go.RowKit
attribute [local go_sem] row_alloc row_drew row_drewN row_ext row_setCell row_setRow size_ext setRow_alloc setRow_drew loadOf storeOf piece_lit loadVal_at storeVal_at allOne_lit EV_size EV_one EV_piece EV_0 EV_1 EV_2 EV_3 EV_4 EV_5
attribute [local go_sem high] cell_alloc frozen_alloc setCell_alloc cell_ext frozen_ext
attribute [local go_sem ↓] load_deed0 store_deed0
attribute [local go_sem] load_deed store_deed

attribute [local go_sem high] run_eql_deed
attribute [local go_sem] zero_deed

def preB (s p : ByteArray) : Bool := decide (p.size ≤ s.size) && ((s.extract 0 p.size).toList == p.toList)
set_option maxHeartbeats 1000000 in
set_option linter.unusedVariables false in
theorem pre_any (s p : ByteArray) (hs : s.size ≤ maxLen) (hp : p.size ≤ maxLen) : Ans Tryz.prog 87 #[.string s, .string p] (.bool (preB s p)) := by
  intro w
  unfold maxLen at hs hp
  by_cases h : p.size ≤ s.size
  · have h' : decide ((p.size : Int) ≤ (s.size : Int)) = true := by simpa using h
    go_enter Tryz.func87, Tryz.ntmps87
    go_wp2
    all_goals go_ret
    all_goals exact ⟨congrArg (fun b => Ending.returned (.bool b)) (by simp [preB, h]), Below.refl _ _⟩
  · have h' : decide ((p.size : Int) ≤ (s.size : Int)) = false := by simpa using h
    go_enter Tryz.func87, Tryz.ntmps87
    go_wp2
    all_goals go_ret
    all_goals exact ⟨congrArg (fun b => Ending.returned (.bool b)) (by simp [preB, h]), Below.refl _ _⟩
def aboutB (d : Deed) (k : ByteArray) : Bool := if d.kind = 5 then preB k d.key else d.key.toList == k.toList
def touchB (r x : Deed) : Bool := writes x && !(r.kind == 0) && aboutB r x.key
set_option maxHeartbeats 1000000 in
theorem touches_any (r x : Deed) (hs : r.key.size ≤ maxLen) (hp : x.key.size ≤ maxLen) : Ans Tryz.prog 89 #[.agg (EV r), .agg (EV x)] (.bool (touchB r x)) := by
  intro w
  have c1 := writes_any x
  have c2 := pre_any x.key r.key hp hs
  have C2 := Lib.hid c2; clear c2
  have T := ((St.start w).new (EV r) 31).new (EV x) 31
  cases hw : writes x
  all_goals rw [hw] at c1
  all_goals have C1 := Lib.hid c1; clear c1
  · have e : touchB r x = false := by simp [touchB, hw]
    have E := Lib.hid e; clear e hw
    go_enter Tryz.func89, Tryz.ntmps89
    go_wp2_with fail
    refine (Ans.call C1.out _).mono ?_
    rintro e w1 ⟨rfl, hb⟩
    replace T := T.call hb; clear hb
    have k := T.2; simp only [Knows, World.size_alloc] at k T
    go_wp2
    go_ret
    exact ⟨congrArg (fun b => Ending.returned (.bool b)) E.out.symm, T.below⟩
  · by_cases h0 : r.kind = 0
    · have h0' : (r.kind == 0) = true := by simpa using h0
      have e : touchB r x = false := by simp [touchB, h0']
      have E := Lib.hid e; clear e hw h0
      go_enter Tryz.func89, Tryz.ntmps89
      go_wp2_with fail
      refine (Ans.call C1.out _).mono ?_
      rintro e w1 ⟨rfl, hb⟩
      replace T := T.call hb; clear hb
      have k := T.2; simp only [Knows, World.size_alloc] at k T
      have hc := row_cell k.2.1.1
      go_wp2
      go_ret
      exact ⟨congrArg (fun b => Ending.returned (.bool b)) E.out.symm, T.below⟩
    · have h0' : (r.kind == 0) = false := by simpa using h0
      by_cases h5 : r.kind = 5
      · have h5' : (r.kind == 5) = true := by simpa using h5
        have e : touchB r x = preB x.key r.key := by simp [touchB, hw, aboutB, h5]
        have E := Lib.hid e; clear e hw h0 h5
        go_enter Tryz.func89, Tryz.ntmps89
        go_wp2_with fail
        refine (Ans.call C1.out _).mono ?_
        rintro e w1 ⟨rfl, hb⟩
        replace T := T.call hb; clear hb
        have k := T.2; simp only [Knows, World.size_alloc] at k T
        have hc := row_cell k.2.1.1
        have hc2 := row_cell k.1.1
        go_wp2_with fail
        refine (Ans.call C2.out _).mono ?_
        rintro e w2 ⟨rfl, hb⟩
        replace T := T.call hb; clear hb
        go_wp2_with fail
        go_ret
        exact ⟨congrArg (fun b => Ending.returned (.bool b)) E.out.symm, T.below⟩
      · have h5' : (r.kind == 5) = false := by simpa using h5
        have e : touchB r x = (r.key.toList == x.key.toList) := by simp [touchB, h0', hw, aboutB, h5]
        have E := Lib.hid e; clear e hw h0 h5
        go_enter Tryz.func89, Tryz.ntmps89
        go_wp2_with fail
        refine (Ans.call C1.out _).mono ?_
        rintro e w1 ⟨rfl, hb⟩
        replace T := T.call hb; clear hb
        have k := T.2; simp only [Knows, World.size_alloc] at k T
        have hc := row_cell k.2.1.1
        have hc2 := row_cell k.1.1
        go_wp2_with fail
        go_ret
        exact ⟨congrArg (fun b => Ending.returned (.bool b)) E.out.symm, T.below⟩
end Go.Proofs.YtomlilkobhkoiaaGreatDoor

namespace Go.Proofs.YtomlilkobhkoiaaGreatDoor
open Go.RowKit
set_option linter.unusedVariables false
attribute [local go_sem] row_alloc row_drew row_drewN row_ext row_setCell row_setRow size_ext setRow_alloc setRow_drew loadOf storeOf piece_lit loadVal_at storeVal_at allOne_lit EV_size EV_one EV_piece EV_0 EV_1 EV_2 EV_3 EV_4 EV_5
attribute [local go_sem high] cell_alloc frozen_alloc setCell_alloc cell_ext frozen_ext
attribute [local go_sem ↓] load_deed0 store_deed0
attribute [local go_sem] load_deed store_deed

attribute [local go_sem high] run_eql_deed
attribute [local go_sem] zero_deed


def clashB (a b : Deed) : Bool := !(a.kind == 0) && !(b.kind == 0) && ((!(a.ses == 0) && (a.ses == b.ses)) || touchB a b || touchB b a)
set_option maxHeartbeats 1000000 in
theorem clash_1 (a b : Deed) (ha : a.key.size ≤ maxLen) (hb : b.key.size ≤ maxLen) (ha0 : (a.kind == 0) = true) : Ans Tryz.prog 49 #[.agg (EV a), .agg (EV b)] (.bool (clashB a b)) := by
  intro w
  have e : clashB a b = false := by simp [clashB, ha0]
  have E := Lib.hid e; clear e
  have T := ((St.start w).new (EV a) 31).new (EV b) 31
  simp only [World.size_alloc] at T
  clear ha hb
  go_enter Tryz.func49, Tryz.ntmps49
  go_wp2_with fail
  go_ret
  exact ⟨congrArg (fun b => Ending.returned (.bool b)) E.out.symm, T.below⟩
set_option maxHeartbeats 1000000 in
theorem clash_2 (a b : Deed) (ha : a.key.size ≤ maxLen) (hb : b.key.size ≤ maxLen) (ha0 : (a.kind == 0) = false) (hb0 : (b.kind == 0) = true) : Ans Tryz.prog 49 #[.agg (EV a), .agg (EV b)] (.bool (clashB a b)) := by
  intro w
  have e : clashB a b = false := by simp [clashB, hb0]
  have E := Lib.hid e; clear e
  have T := ((St.start w).new (EV a) 31).new (EV b) 31
  simp only [World.size_alloc] at T
  clear ha hb
  go_enter Tryz.func49, Tryz.ntmps49
  go_wp2_with fail
  go_ret
  exact ⟨congrArg (fun b => Ending.returned (.bool b)) E.out.symm, T.below⟩
set_option maxHeartbeats 1000000 in
theorem clash_3 (a b : Deed) (ha : a.key.size ≤ maxLen) (hb : b.key.size ≤ maxLen) (ha0 : (a.kind == 0) = false) (hb0 : (b.kind == 0) = false) (hs0 : (a.ses == 0) = false) (hss : (a.ses == b.ses) = true) : Ans Tryz.prog 49 #[.agg (EV a), .agg (EV b)] (.bool (clashB a b)) := by
  intro w
  have hn0 : (a.ses != 0) = true := by simp [bne, hs0]
  have e : clashB a b = true := by simp [clashB, ha0, hb0, hs0, hss]
  have E := Lib.hid e; clear e
  have T := ((St.start w).new (EV a) 31).new (EV b) 31
  simp only [World.size_alloc] at T
  clear ha hb
  go_enter Tryz.func49, Tryz.ntmps49
  go_wp2_with fail
  go_ret
  exact ⟨congrArg (fun b => Ending.returned (.bool b)) E.out.symm, T.below⟩
set_option maxHeartbeats 1000000 in
theorem clash_4 (a b : Deed) (ha : a.key.size ≤ maxLen) (hb : b.key.size ≤ maxLen) (ha0 : (a.kind == 0) = false) (hb0 : (b.kind == 0) = false) (hs0 : (a.ses == 0) = true) (htab : touchB a b = true) : Ans Tryz.prog 49 #[.agg (EV a), .agg (EV b)] (.bool (clashB a b)) := by
  intro w
  have hn0 : (a.ses != 0) = false := by simp [bne, hs0]
  have e : clashB a b = true := by simp [clashB, ha0, hb0, hs0, htab]
  have E := Lib.hid e; clear e
  have T := ((St.start w).new (EV a) 31).new (EV b) 31
  simp only [World.size_alloc] at T
  have c1 := touches_any a b ha hb
  rw [htab] at c1
  have C1 := Lib.hid c1; clear c1
  clear htab
  clear ha hb
  go_enter Tryz.func49, Tryz.ntmps49
  go_wp2_with fail
  refine (Ans.call C1.out _).mono ?_
  rintro e w1 ⟨rfl, hb⟩
  replace T := T.call hb; clear hb
  have k := T.2; simp only [Knows] at k
  have q1 := row_cell k.2.1.1
  have q2 := row_cell k.1.1
  go_wp2_with fail
  go_ret
  exact ⟨congrArg (fun b => Ending.returned (.bool b)) E.out.symm, T.below⟩
set_option maxHeartbeats 1000000 in
theorem clash_5 (a b : Deed) (ha : a.key.size ≤ maxLen) (hb : b.key.size ≤ maxLen) (ha0 : (a.kind == 0) = false) (hb0 : (b.kind == 0) = false) (hs0 : (a.ses == 0) = true) (htab : touchB a b = false) : Ans Tryz.prog 49 #[.agg (EV a), .agg (EV b)] (.bool (clashB a b)) := by
  intro w
  have hn0 : (a.ses != 0) = false := by simp [bne, hs0]
  have e : clashB a b = touchB b a := by simp [clashB, ha0, hb0, hs0, htab]
  have E := Lib.hid e; clear e
  have T := ((St.start w).new (EV a) 31).new (EV b) 31
  simp only [World.size_alloc] at T
  have c1 := touches_any a b ha hb
  rw [htab] at c1
  have C1 := Lib.hid c1; clear c1
  have c2 := touches_any b a hb ha
  have C2 := Lib.hid c2; clear c2
  clear htab
  clear ha hb
  go_enter Tryz.func49, Tryz.ntmps49
  go_wp2_with fail
  refine (Ans.call C1.out _).mono ?_
  rintro e w1 ⟨rfl, hb⟩
  replace T := T.call hb; clear hb
  have k := T.2; simp only [Knows] at k
  have q1 := row_cell k.2.1.1
  have q2 := row_cell k.1.1
  go_wp2_with fail
  refine (Ans.call C2.out _).mono ?_
  rintro e w2 ⟨rfl, hb⟩
  replace T := T.call hb; clear hb k q1 q2
  have k := T.2; simp only [Knows] at k
  have q1 := row_cell k.2.1.1
  have q2 := row_cell k.1.1
  go_wp2_with fail
  go_ret
  exact ⟨congrArg (fun b => Ending.returned (.bool b)) E.out.symm, T.below⟩
set_option maxHeartbeats 1000000 in
theorem clash_6 (a b : Deed) (ha : a.key.size ≤ maxLen) (hb : b.key.size ≤ maxLen) (ha0 : (a.kind == 0) = false) (hb0 : (b.kind == 0) = false) (hs0 : (a.ses == 0) = false) (hss : (a.ses == b.ses) = false) (htab : touchB a b = true) : Ans Tryz.prog 49 #[.agg (EV a), .agg (EV b)] (.bool (clashB a b)) := by
  intro w
  have hn0 : (a.ses != 0) = true := by simp [bne, hs0]
  have e : clashB a b = true := by simp [clashB, ha0, hb0, hs0, hss, htab]
  have E := Lib.hid e; clear e
  have T := ((St.start w).new (EV a) 31).new (EV b) 31
  simp only [World.size_alloc] at T
  have c1 := touches_any a b ha hb
  rw [htab] at c1
  have C1 := Lib.hid c1; clear c1
  clear htab
  clear ha hb
  go_enter Tryz.func49, Tryz.ntmps49
  go_wp2_with fail
  refine (Ans.call C1.out _).mono ?_
  rintro e w1 ⟨rfl, hb⟩
  replace T := T.call hb; clear hb
  have k := T.2; simp only [Knows] at k
  have q1 := row_cell k.2.1.1
  have q2 := row_cell k.1.1
  go_wp2_with fail
  go_ret
  exact ⟨congrArg (fun b => Ending.returned (.bool b)) E.out.symm, T.below⟩
set_option maxHeartbeats 1000000 in
theorem clash_7 (a b : Deed) (ha : a.key.size ≤ maxLen) (hb : b.key.size ≤ maxLen) (ha0 : (a.kind == 0) = false) (hb0 : (b.kind == 0) = false) (hs0 : (a.ses == 0) = false) (hss : (a.ses == b.ses) = false) (htab : touchB a b = false) : Ans Tryz.prog 49 #[.agg (EV a), .agg (EV b)] (.bool (clashB a b)) := by
  intro w
  have hn0 : (a.ses != 0) = true := by simp [bne, hs0]
  have e : clashB a b = touchB b a := by simp [clashB, ha0, hb0, hs0, hss, htab]
  have E := Lib.hid e; clear e
  have T := ((St.start w).new (EV a) 31).new (EV b) 31
  simp only [World.size_alloc] at T
  have c1 := touches_any a b ha hb
  rw [htab] at c1
  have C1 := Lib.hid c1; clear c1
  have c2 := touches_any b a hb ha
  have C2 := Lib.hid c2; clear c2
  clear htab
  clear ha hb
  go_enter Tryz.func49, Tryz.ntmps49
  go_wp2_with fail
  refine (Ans.call C1.out _).mono ?_
  rintro e w1 ⟨rfl, hb⟩
  replace T := T.call hb; clear hb
  have k := T.2; simp only [Knows] at k
  have q1 := row_cell k.2.1.1
  have q2 := row_cell k.1.1
  go_wp2_with fail
  refine (Ans.call C2.out _).mono ?_
  rintro e w2 ⟨rfl, hb⟩
  replace T := T.call hb; clear hb k q1 q2
  have k := T.2; simp only [Knows] at k
  have q1 := row_cell k.2.1.1
  have q2 := row_cell k.1.1
  go_wp2_with fail
  go_ret
  exact ⟨congrArg (fun b => Ending.returned (.bool b)) E.out.symm, T.below⟩
theorem clash_any (a b : Deed) (ha : a.key.size ≤ maxLen) (hb : b.key.size ≤ maxLen) : Ans Tryz.prog 49 #[.agg (EV a), .agg (EV b)] (.bool (clashB a b)) := by
  cases h1 : (a.kind == 0)
  · cases h2 : (b.kind == 0)
    · cases h3 : (a.ses == 0)
      · cases h4 : (a.ses == b.ses)
        · cases h5 : touchB a b
          · exact clash_7 a b ha hb h1 h2 h3 h4 h5
          · exact clash_6 a b ha hb h1 h2 h3 h4 h5
        · exact clash_3 a b ha hb h1 h2 h3 h4
      · cases h5 : touchB a b
        · exact clash_5 a b ha hb h1 h2 h3 h5
        · exact clash_4 a b ha hb h1 h2 h3 h5
    · exact clash_2 a b ha hb h1 h2
  · exact clash_1 a b ha hb h1
end Go.Proofs.YtomlilkobhkoiaaGreatDoor

namespace Go.Proofs.YtomlilkobhkoiaaGreatDoor
open Go.RowKit
set_option linter.unusedVariables false
attribute [local go_sem] row_alloc row_drew row_drewN row_ext row_setCell row_setRow size_ext setRow_alloc setRow_drew loadOf storeOf piece_lit loadVal_at storeVal_at allOne_lit EV_size EV_one EV_piece EV_0 EV_1 EV_2 EV_3 EV_4 EV_5
attribute [local go_sem high] cell_alloc frozen_alloc setCell_alloc cell_ext frozen_ext
attribute [local go_sem ↓] load_deed0 store_deed0
attribute [local go_sem] load_deed store_deed

attribute [local go_sem high] run_eql_deed
attribute [local go_sem] zero_deed


end Go.Proofs.YtomlilkobhkoiaaGreatDoor
