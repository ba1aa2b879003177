/- Several texts in one. -/
import Derived.Test.YtnjgjhjilolanaaJ35
import Derived.Test.YtnjgjhjilolanaaJ37
import Derived.Test.YtnjgjhjilolanaaJ31
import Derived.Test.YtnjgjhjilolanaaJ20
/- Layer 19: what is missing, told by a run. -/
namespace Go.Proofs.Ytnjgjhjilolanaa
open Go.RowKit Go.Shelf
open Go.Sort (pdq bitsLen SWO)
set_option linter.unusedVariables false
set_option maxRecDepth 20000
attribute [local go_sem] row_alloc row_drew row_drewN row_ext row_setCell row_setRow size_ext setRow_alloc setRow_drew loadOf storeOf piece_lit loadVal_at storeVal_at allOne_lit buildOf buildRes_some
attribute [local go_sem high] cell_alloc frozen_alloc setCell_alloc cell_ext frozen_ext cell_setRow frozen_setRow
attribute [local go_sem ↓] TDeed_ld0 TDeed_st0 TDeed_fd0 TDeed_bd0
attribute [local go_sem] TDeed_size TDeed_one TDeed_piece TDeed_c0 TDeed_c1 TDeed_c2 TDeed_c3 TDeed_c4 TDeed_c5 TDeed_set_kind TDeed_set_key TDeed_set_val TDeed_set_ver TDeed_set_ses TDeed_set_num TDeed_ld TDeed_st TDeed_f_kind TDeed_f_key TDeed_f_val TDeed_f_ver TDeed_f_ses TDeed_f_num TDeed_bd TDeed_fl TDeed_fl_kind TDeed_fl_key TDeed_fl_val TDeed_fl_ver TDeed_fl_ses TDeed_fl_num
attribute [local go_sem high] TDeed_eql TDeed_neq
attribute [local go_sem ↓] index_deps0 load_deps0 store_deps0
attribute [local go_sem] DV_piece DV_size DV_one index_deps load_deps store_deps
attribute [local go_sem high] TDeps_eql TDeps_neq
attribute [local go_sem ↓] TCall_ld0 TCall_st0 TCall_fd0 TCall_bd0
attribute [local go_sem] TCall_size TCall_one TCall_piece TCall_c0 TCall_c1 TCall_c2 TCall_c3 TCall_c4 TCall_c5 TCall_c6 TCall_c7 TCall_c8 TCall_c9 TCall_c10 TCall_c11 TCall_c12 TCall_c13 TCall_p_deed TCall_put_deed TCall_p_deps TCall_put_deps TCall_set_seq TCall_ld TCall_st TCall_f_deed TCall_f_deps TCall_f_seq TCall_bd TCall_fl TCall_fl_deed TCall_fl_deps TCall_fl_seq
attribute [local go_sem high] TCall_eql TCall_neq
attribute [local go_sem ↓] TItem_ld0 TItem_st0 TItem_fd0 TItem_bd0
attribute [local go_sem] TItem_size TItem_one TItem_piece TItem_c0 TItem_c1 TItem_set_rep TItem_set_num TItem_ld TItem_st TItem_f_rep TItem_f_num TItem_bd TItem_fl TItem_fl_rep TItem_fl_num
attribute [local go_sem high] TItem_eql TItem_neq
noncomputable def cmp2 (x y : Item) : Int := if lessI x y = true then -1 else 1
set_option maxHeartbeats 2000000 in
theorem misCmp_any (x y : Item) : Ans Try.prog 60 #[.agg (IV x), .agg (IV y)] (.int .i64 (cmp2 x y)) := by
  refine Ans.of_sts fun W => ?_
  have T := ((Sts.start0 W).new (IV x) 35).new (IV y) 35
  simp only [World.size_alloc] at T
  have HL := Lib.hid (itemLess_any x y)
  have r2 := T.row; have l2 := row_lt r2; have c2 := row_cell r2
  have r1 := T.row1; have l1 := row_lt r1; have c1 := row_cell r1
  have HT := Lib.hid T; clear T
  obtain ⟨ls, hls⟩ : ∃ v, v = lessI x y := ⟨_, rfl⟩
  have HV := Lib.hid (show cmp2 x y = if ls = true then -1 else 1 by rw [hls]; rfl)
  rw [← hls] at HL
  clear hls
  go_enter Try.func60, Try.ntmps60
  go_wp2_with fail
  refine (Ans.at HL.out HT.out).mono ?_
  clear HL r1 r2 l1 l2 c1 c2
  rintro e w5 ⟨rfl, T⟩
  have HT := Lib.hid T.nil; clear T
  cases ls with
  | true =>
    go_wp2
    go_ret
    exact ⟨by rw [HV.out]; rfl, HT.out⟩
  | false =>
    go_wp2
    go_ret
    exact ⟨by rw [HV.out]; rfl, HT.out⟩
noncomputable abbrev cmpD : CmpK := ⟨60, #[], [], cmp2⟩
theorem cmpD_lt : cmpD.lt = cmpC.lt := by
  funext x y
  rw [Bool.eq_iff_iff, cmpC_lt]
  unfold CmpK.lt
  rw [decide_eq_true_eq]
  show cmp2 x y < 0 ↔ _
  unfold cmp2
  by_cases h : lessI x y = true
  · rw [if_pos h]
    have h := of_decide_eq_true h
    exact ⟨fun _ => h, fun _ => by decide⟩
  · rw [if_neg h]
    have h : ¬ (x.num < y.num ∨ x.num = y.num ∧ x.rep < y.rep) := fun h2 => h (decide_eq_true h2)
    exact ⟨fun h2 => absurd h2 (by decide), fun h2 => absurd h2 h⟩
theorem cmpD_ok : cmpD.Ok where
  reads x y := by
    intro W G hS
    exact (misCmp_any x y W).mono fun e W' h => h
  swo := by rw [cmpD_lt]; exact cmpC_ok.swo
  enter args w := by rfl
section
variable {w W : World} {F : Nat → Prop} {R : List Res} {r : Nat} {m : RowsMK} {q : RowsML} {D O its : List Item}
set_option maxHeartbeats 4000000 in
theorem insNilT (cv : Value) (T : Sts w F W R) :
    Calls Try.prog 74 #[.slice none 0 0, .int .i64 0, .int .i64 0, cv] W fun e W' => e = .returned (.tuple #[]) ∧ Sts w F W' R := by
  have HT := Lib.hid T; clear T
  go_enter Try.func74, Try.ntmps74
  go_wp2_with fail
  go_loopw [8] (fun u8 wr => u8 = .int .i64 1 ∧ Sts w F wr R) (fun _ _ => 0)
  case atStart => exact ⟨rfl, HT.out⟩
  case round =>
    obtain ⟨rfl, T1⟩ := hrel
    have HT1 := Lib.hid T1; clear T1
    go_wp2
    go_end0
    exact ⟨rfl, HT1.out⟩
set_option maxHeartbeats 4000000 in
theorem pdqNilT (cv : Value) (T : Sts w F W R) :
    Calls Try.prog 68 #[.slice none 0 0, .int .i64 0, .int .i64 0, .int .i64 0, cv] W fun e W' => e = .returned (.tuple #[]) ∧ Sts w F W' R := by
  have HT := Lib.hid T; clear T
  go_enter Try.func68, Try.ntmps68
  go_wp2_with fail
  go_loopw [1, 2] (fun u1 u2 wr => u1 = .int .i64 0 ∧ u2 = .int .i64 0 ∧ Sts w F wr R) (fun _ _ _ => 0)
  case atStart => exact ⟨rfl, rfl, HT.out⟩
  case round =>
    obtain ⟨rfl, rfl, T1⟩ := hrel
    have HT1 := Lib.hid T1; clear T1
    go_wp2_with fail
    refine (insNilT cv HT1.out).mono ?_
    rintro e w5 ⟨rfl, T⟩
    have HT2 := Lib.hid T; clear T
    go_wp2
    try simp only [Exit.inBlock, Exit.then]
    refine bodyPost_ret (results_none rfl _ _ _) rfl ?_
    exact ⟨rfl, HT2.out⟩
set_option maxHeartbeats 4000000 in
theorem sortNilT (cv : Value) (T : Sts w F W R) :
    Calls Try.prog 53 #[.slice none 0 0, cv] W fun e W' => e = .returned (.tuple #[]) ∧ Sts w F W' R := by
  have HT := Lib.hid T; clear T
  have HB := Lib.hid (bitsLenT 0 (by omega))
  rw [show bitsLen 0 = 0 from rfl] at HB
  go_enter Try.func53, Try.ntmps53
  go_wp2_with fail
  refine (HB.out _).mono ?_
  rintro e w5 ⟨rfl, rfl⟩
  go_wp2_with fail
  refine (pdqNilT cv HT.out).mono ?_
  rintro e w5 ⟨rfl, T⟩
  have HT2 := Lib.hid T; clear T HT
  go_wp2
  go_end0
  exact ⟨rfl, HT2.out⟩
/-- Sorted in its place, nil or not. -/
theorem sortMisT {l : List Item} {v : Value} (hl : l.length ≤ 511) (T : Sts w F W (vecR 35 2 v l.length (vl IV l) :: R)) :
    Calls Try.prog 53 #[v, cmpD.cv] W fun e W' => e = .returned (.tuple #[]) ∧ Sts w F W' (vecR 35 2 v (sortO l).length (vl IV (sortO l)) :: R) := by
  rcases T.vec.2 with ⟨hv, h0⟩ | ⟨g, c, cur, hv, _⟩
  · subst hv
    have hl0 : l = [] := List.eq_nil_of_length_eq_zero (by simpa using h0)
    subst hl0
    have hs : sortO [] = [] := List.eq_nil_of_length_eq_zero (sortO_length [])
    rw [hs]
    exact sortNilT _ T
  · subst hv
    have T2 : Sts w F W (itR g c l.toArray :: (cmpD.L ++ R)) := by
      unfold itR
      rw [List.size_toArray]
      exact T
    refine (sorts511C w W F R g c cmpD l.toArray l.length (by simp) hl cmpD_ok T2).mono ?_
    rintro e w5 ⟨rfl, T3⟩
    refine ⟨rfl, ?_⟩
    rw [cmpD_lt] at T3
    have hpd : pdq cmpC.lt l.toArray 0 l.length (bitsLen l.length) true true = (sortO l).toArray := by unfold sortO; simp
    rw [hpd] at T3
    have T4 : Sts w F w5 (vecR 35 2 (.slice (some ⟨g, 0, none⟩) (sortO l).toArray.size c) (sortO l).toArray.size (vl IV (sortO l)) :: R) := T3
    rw [List.size_toArray, sortO_length] at T4
    rw [sortO_length]
    exact T4
/-- What isn't committed, and one of these reaches. -/
structure MisI (m : RowsMK) (q : RowsML) (X L : List Item) : Prop where
  nd : L.Nodup
  all : ∀ y ∈ L, y ∈ allIt
  mem : ∀ z, z ∈ L ↔ ∃ x ∈ X, z ∈ reachL m q x ∧ (getMK m z).isSome = false
theorem MisI.nil : MisI m q [] [] := ⟨List.nodup_nil, by simp, by simp⟩
theorem MisI.len {X L : List Item} (h : MisI m q X L) : L.length ≤ 448 := Nat.le_trans (nodup_len L allIt h.nd h.all) allIt_len
theorem MisI.part {X L M : List Item} (h : MisI m q X L) (hM : ∀ y ∈ M, y ∈ allIt) (j : Nat) : (addL (M.take j) L).length ≤ 448 :=
  Nat.le_trans (nodup_len _ allIt (addL_nodup h.nd) fun y hy => by
    rcases addL_mem.1 hy with h1 | h1
    · exact h.all y h1
    · exact hM y (List.mem_of_mem_take h1)) allIt_len
theorem MisI.step (G : GInv m its) {X L M : List Item} {x : Item} {P : List (List Item)} (h : MisI m q X L) (a1 : (getMK m x).isSome = true) (a2 : (getML q x).isSome = false) (ho : OrdM m q its x P M) : MisI m q (X ++ [x]) (addL M L) ∧ (∀ y ∈ M, y ∈ allIt) ∧ M.length ≤ 448 := by
  obtain ⟨b1, b2, -⟩ := ord_want G a1 a2 ho
  have hM : ∀ y ∈ M, y ∈ allIt := fun y hy => (reach_inv (q := q) (x := x) G).all y ((b2 y).1 hy).1
  refine ⟨⟨addL_nodup h.nd, fun y hy => ?_, fun z => ?_⟩, hM, Nat.le_trans (nodup_len M allIt b1 hM) allIt_len⟩
  · rcases addL_mem.1 hy with h1 | h1
    · exact h.all y h1
    · exact hM y h1
  · rw [addL_mem, h.mem z, b2 z]
    constructor
    · rintro (⟨u, h1, h2⟩ | h1)
      · exact ⟨u, by simp [h1], h2⟩
      · exact ⟨x, by simp, h1⟩
    · rintro ⟨u, h1, h2⟩
      rw [List.mem_append, List.mem_singleton] at h1
      rcases h1 with h1 | rfl
      · exact .inl ⟨u, h1, h2⟩
      · exact .inr h2
theorem con_in {y : Item} {l : List Item} : decide (0 ≤ idxI y l) = inB y l := by
  unfold idxI inB
  by_cases h : idxN y l < l.length
  · rw [if_pos h, decide_eq_true h]; exact decide_eq_true (by omega)
  · rw [if_neg h, decide_eq_false h]; exact decide_eq_false (by omega)
set_option maxHeartbeats 16000000 in
theorem runMissT (hm : 0 ≤ m.n ∧ m.n ≤ 7) (hq : 0 ≤ q.n ∧ q.n ≤ 7) (G : GInv m its) (hits : its.length ≤ 511) (hO : O.length ≤ 511) (hOC : ∀ x ∈ O, (getMK m x).isSome = true ∧ (getML q x).isSome = false) (T : Sts w F W (runR r m q D O :: R)) :
    Calls Try.prog 34 #[.pointer (some ⟨r, 0, none⟩)] W fun e W' => ∃ v L, e = .returned v ∧ MisI m q O L ∧ Sts w F W' (vecR 35 2 v (sortO L).length (vl IV (sortO L)) :: runR r m q D O :: R) := by
  obtain ⟨b, gc, gd, vd, vo, T1⟩ := T.runOpen
  obtain ⟨Ao, co, rfl⟩ := vec_shape2 (T1.ord [5, 0, 1, 2, 3, 4])
  have r0 := T1.row; have l0 := row_lt r0; have c1 := row_cell r0 2
  have T2 := T1.vecNil 35 2
  obtain ⟨no, hno⟩ : ∃ k, k = O.length := ⟨_, rfl⟩
  have HNO := Lib.hid hno
  have HT := Lib.hid T2
  have HOC := Lib.hid hOC
  rw [← hno] at hO c1 r0
  clear T T1 T2 hno hOC
  go_enter Try.func34, Try.ntmps34
  go_wp2_with fail
  go_loopw [3, 17] (fun u3 u17 wr => ∃ (k : Nat) (L : List Item), u17 = .int .i64 k ∧ k ≤ no ∧ MisI m q (O.take k) L ∧ Sts w F wr (vecR 35 2 u3 L.length (vl IV L) :: rowR r (runC b vd (.slice Ao O.length co)) :: rowR b #[.pointer (some ⟨gc, 0, none⟩), .pointer (some ⟨gd, 0, none⟩)] :: rowsIRK gc m :: rowsIRL gd q :: vecR 35 2 vd D.length (vl IV D) :: vecR 35 2 (.slice Ao O.length co) O.length (vl IV O) :: R)) (fun _ u17 _ => no - (intOf u17).toNat)
  case atStart => exact ⟨0, [], rfl, Nat.zero_le _, MisI.nil, HT.out⟩
  case round =>
    clear HT r0 l0 c1
    obtain ⟨k, L, rfl, hk, hL, T⟩ := hrel
    have HL := Lib.hid hL
    have hL448 := hL.len
    clear hL
    by_cases hkn : k < no
    · have hk1 : (k : Int) < (no : Int) := by omega
      have hk0 : (0 : Int) ≤ (k : Int) := by omega
      obtain ⟨x, hx⟩ : ∃ x, O[k]? = some x := ⟨O[k]'(by rw [← HNO.out]; exact hkn), List.getElem?_eq_getElem _⟩
      obtain ⟨ga, rfl, hld⟩ := vec_load (P := Try.prog) (e := 35) TItem_size (by omega) TItem_und rfl (by kernel_rfl) (T.ord [6, 0, 1, 2, 3, 4, 5]) rfl hx (by have := HNO.out; omega)
      have hoc := HOC.out x (List.mem_of_getElem? hx)
      have htk : O.take (k + 1) = O.take k ++ [x] := by
        obtain ⟨hj, rfl⟩ := List.getElem?_eq_some_iff.1 hx
        rw [List.take_succ_eq_append_getElem hj]
      generalize hRR : vecR 35 2 vd D.length (vl IV D) :: vecR 35 2 (.slice (some ⟨ga, 0, none⟩) O.length co) O.length (vl IV O) :: R = RR at *
      have HRR := Lib.hid hRR; have HOK := Lib.hid hoc; have HTK := Lib.hid htk
      have T2 := T.new (IV x) 35
      have HT := Lib.hid (T2.ord [2, 0, 3, 4, 5, 1])
      clear T T2 hx hRR hoc htk
      go_upto_region 7 with fail
      generalize hw3 : wr.alloc _ = w3 at *
      generalize wr.heap.size = gx at *
      clear hw3 hld
      have FS : ∀ W' R', Sts w F W' (rowR r (runC b vd (.slice (some ⟨ga, 0, none⟩) O.length co)) :: rowR gx (IV x) :: R') → (W'.cell? ⟨r, 0, none⟩ = some (.pointer (some ⟨b, 0, none⟩)) ∧ row? W' gx = some (IV x)) := fun W' R' T => ⟨by rw [row_cell T.row 0]; rfl, T.row1⟩
      have HFS := Lib.hid FS
      have HT0 := Lib.hid HT.out.drew
      have S0 := HFS.out _ _ HT0.out
      have HOR := Lib.hid (grOrderT (its := its) (b := b) (gc := gc) (gd := gd) (R := rowR r (runC b vd (.slice (some ⟨ga, 0, none⟩) O.length co)) :: rowR gx (IV x) :: _) (sortsG hits) hits G hm hq x (by have T0 := HT0.out.ord [2, 3, 4, 0, 1]; exact T0))
      clear HT FS
      refine wp_region_held_drew (S := fun W' => (W'.cell? ⟨r, 0, none⟩ = some (.pointer (some ⟨b, 0, none⟩)) ∧ row? W' gx = some (IV x))) (by kernel_rfl) S0 (fun hHeld => ?_)
      clear S0
      refine tkH 0 rfl (v := ?_) ?_ ?_
      rotate_left
      · intro w h; (try dsimp only at h); go_simp; try with_reducible rfl
      simp only [Act.put, List.setIfInBounds_toArray, List.set_cons_zero, List.set_cons_succ]
      refine tkH 1 rfl (v := ?_) ?_ ?_
      rotate_left
      · intro w h; (try dsimp only at h); go_simp; try with_reducible rfl
      go_frame
      refine tkH 2 rfl (v := ?_) ?_ ?_
      rotate_left
      · intro w h; (try dsimp only at h); go_simp; try with_reducible rfl
      go_frame
      refine tkH 3 rfl (v := ?_) ?_ ?_
      rotate_left
      · intro w h; (try dsimp only at h); go_simp; try with_reducible rfl
      go_frame
      refine tkH 4 rfl (v := ?_) ?_ ?_
      rotate_left
      · intro w h; (try dsimp only at h); go_simp; try with_reducible rfl
      go_frame
      refine wpAnyH_ready (rs := [5]) (by kernel_rfl) (by simp) ?_
      refine AllReadyH.cons (o := _) rfl (fun K hK => ?_) AllReadyH.nil
      go_simp
      refine HOR.out.mono ?_
      clear HOR HT0
      rintro e5 w5 ⟨vp, vm, P, M, rfl, hord, T⟩
      obtain ⟨hM1, hM2, hM3⟩ := HL.out.step G HOK.out.1 HOK.out.2 hord
      have hpart := HL.out.part hM2
      have T : Sts w F w5 (paR vp P :: vecR 35 2 vm M.length (vl IV M) :: rowR b #[.pointer (some ⟨gc, 0, none⟩), .pointer (some ⟨gd, 0, none⟩)] :: rowsIRK gc m :: rowsIRL gd q :: rowR r (runC b vd (.slice (some ⟨ga, 0, none⟩) O.length co)) :: rowR gx (IV x) :: vecR 35 2 u3 L.length (vl IV L) :: RR) := T
      have HT := Lib.hid (T.ord [5, 6, 7, 1, 2, 3, 4, 0])
      clear T hord
      refine hK.out _ _ (HFS.out _ _ HT.out) (fun hHeld => ?_)
      clear hK K HFS
      refine tkH 6 rfl (v := ?_) ?_ ?_
      rotate_left
      · intro w h; (try dsimp only at h); go_simp; try with_reducible rfl
      simp only [Act.put, List.setIfInBounds_toArray, List.set_cons_zero, List.set_cons_succ]
      refine tkH 7 rfl (v := ?_) ?_ ?_
      rotate_left
      · intro w h; (try dsimp only at h); go_simp; try with_reducible rfl
      go_frame
      refine tkH 8 rfl (v := ?_) ?_ ?_
      rotate_left
      · intro w h; (try dsimp only at h); go_simp; try with_reducible rfl
      go_frame
      refine tkH 9 rfl (v := ?_) ?_ ?_
      rotate_left
      · intro w h; (try dsimp only at h); go_simp; try with_reducible rfl
      go_frame
      refine tkH 10 rfl (v := ?_) ?_ ?_
      rotate_left
      · intro w h; (try dsimp only at h); go_simp; try with_reducible rfl
      go_frame
      refine wpAnyH_done (by kernel_rfl) ?_ _
      try simp only [Exit.then]
      have T2 := (HT.out.ord [1, 7, 2, 0, 3, 4, 5, 6]).drop.drop
      obtain ⟨Am, cm, rfl⟩ := vec_shape2 (T2.ord [2, 0, 1])
      obtain ⟨nm, hnm⟩ : ∃ k, k = M.length := ⟨_, rfl⟩
      have HNM := Lib.hid hnm; have HM1 := Lib.hid hM1; have HPA := Lib.hid hpart
      rw [← hnm] at T2 hM3
      rw [← hnm]
      have HT2 := Lib.hid T2
      clear HT T2 hnm hM1 hM2 hpart
      obtain ⟨i0, hi, hz0, hz1, hz2⟩ := itm_i
      go_wp2_with fail
      go_loopw [3, 32] (fun u3 u32 wx => ∃ (j : Nat), u32 = .int .i64 j ∧ j ≤ nm ∧ Sts w F wx (vecR 35 2 u3 (addL (M.take j) L).length (vl IV (addL (M.take j) L)) :: rowR r (runC b vd (.slice (some ⟨ga, 0, none⟩) O.length co)) :: vecR 35 2 (.slice Am nm cm) nm (vl IV M) :: rowR b #[.pointer (some ⟨gc, 0, none⟩), .pointer (some ⟨gd, 0, none⟩)] :: rowsIRK gc m :: rowsIRL gd q :: RR)) (fun _ u32 _ => nm - (intOf u32).toNat)
      case atStart => exact ⟨0, rfl, Nat.zero_le _, HT2.out⟩
      case round =>
        clear HT2
        obtain ⟨j, rfl, hj, T⟩ := hrel
        have hlen := HPA.out j
        by_cases hjn : j < nm
        · have hj1 : (j : Int) < (nm : Int) := by omega
          have hj0 : (0 : Int) ≤ (j : Int) := by omega
          obtain ⟨y, hy⟩ : ∃ y, M[j]? = some y := ⟨M[j]'(by rw [← HNM.out]; exact hjn), List.getElem?_eq_getElem _⟩
          obtain ⟨gM, rfl, hld⟩ := vec_load (P := Try.prog) (e := 35) TItem_size (by omega) TItem_und rfl (by kernel_rfl) (T.ord [2, 0, 1]) HNM.out hy (by omega)
          have htk : addL (M.take (j + 1)) L = if inB y (addL (M.take j) L) = true then addL (M.take j) L else addL (M.take j) L ++ [y] := by
            obtain ⟨hj, rfl⟩ := List.getElem?_eq_some_iff.1 hy
            rw [List.take_succ_eq_append_getElem hj, addL_snoc]
            rfl
          have HTK2 := Lib.hid htk
          clear htk
          generalize addL (M.take j) L = L1 at *
          have T2 := T.new (IV y) 35
          have HT := Lib.hid T2
          clear T T2 hy
          go_upto_region 11 with fail
          generalize wr.alloc _ = w12 at *
          generalize wr.heap.size = gy at *
          clear hld
          have ry := HT.out.row; have ly := row_lt ry
          have HAT := Lib.hid ((containsR u3 L1 (by omega) y).at (R := rowR gy (IV y) :: _) (by have T0 := HT.out.ord [1, 0]; exact T0))
          rw [con_in] at HAT
          go_wp2_with fail
          refine HAT.out.mono ?_
          clear HAT ry ly
          rintro e12 w13 ⟨rfl, hb⟩
          have T := HT.out.pure hb
          clear HT hb
          cases hin : inB y L1 with
          | true =>
            have hnx := HTK2.out
            rw [if_pos hin] at hnx
            have HN2 := Lib.hid hnx
            have HT := Lib.hid T.drop
            clear T hnx hin HTK2
            go_wp2_with fail
            go_roundw
            case rel => exact ⟨j + 1, by go_num, by omega, by rw [HN2.out]; exact HT.out⟩
            case measure => simp [intOf]; omega
          | false =>
            have hnx := HTK2.out
            rw [hin, if_neg Bool.false_ne_true] at hnx
            have HN2 := Lib.hid hnx
            clear hnx hin HTK2
            have ry := T.row; have ly := row_lt ry
            have TA := T.new (IV y) 35
            have hnw := Lib.hid (news_row TA.row)
            have TA := Lib.hid (TA.ord [2, 0, 1])
            have h63 : L1.length + 1 ≤ maxLen := by unfold maxLen; omega
            have hby : (L1.length + 1) * 16 ≤ 140737488355328 := by omega
            have HOK2 := Lib.hid (itm_one y)
            clear T
            go_wp2_with (at_builtin; refine wpList_append_vec rfl _ _ 30 rfl 35 i0 (.agg (IV noItem)) 2 16 Try.underlying30 hi hz0 hz1 hz2 rfl (by decide) _ _ _ rfl TA.out ⟨_, 0, none⟩ 1 1 (IV y).toList rfl rfl hnw.out HOK2.out h63 hby ?_)
            intro v14 w14 T14
            have hl1 : L1.length + 1 = (L1 ++ [y]).length := by simp
            rw [hl1, show vl IV L1 ++ (IV y).toList = vl IV (L1 ++ [y]) from (vl_snoc IV L1 y).symm] at T14
            have HT := Lib.hid (T14.ord [1, 2, 0]).drop.drop
            clear TA hnw ry ly h63 hby T14 HOK2 hl1
            go_wp2_with fail
            go_roundw
            case rel => exact ⟨j + 1, by go_num, by omega, by rw [HN2.out]; exact HT.out⟩
            case measure => simp [intOf]; omega
        · have hj1 : ¬ (j : Int) < (nm : Int) := by omega
          have hjm : M.take j = M := List.take_of_length_le (by rw [← HNM.out]; omega)
          rw [hjm] at T
          have T2 := (T.ord [2, 0, 1, 3, 4, 5]).drop
          have HT := Lib.hid T2
          clear T T2 hjm hlen
          go_wp2_with fail
          go_roundw
          case rel => exact ⟨k + 1, addL M L, by go_num, by omega, by rw [HTK.out]; exact HM1.out, HT.out⟩
          case measure => simp [intOf]; omega
    · have hk1 : ¬ (k : Int) < (no : Int) := by omega
      have hkO : O.take k = O := List.take_of_length_le (by rw [← HNO.out]; omega)
      have hl := HL.out
      rw [hkO] at hl
      have HL2 := Lib.hid hl
      have HS := Lib.hid (sortMisT (by omega) T)
      clear hl HL hkO T
      go_wp2_with fail
      refine HS.out.mono ?_
      clear HS
      rintro e5 w5 ⟨rfl, T⟩
      have HT := Lib.hid T; clear T
      go_wp2
      go_ret
      have T1 := HT.out.ord [1, 2, 3, 4, 5, 6, 0]
      exact ⟨_, L, rfl, HL2.out, (T1.runShut).swap⟩
end
end Go.Proofs.Ytnjgjhjilolanaa
/- Layer 18, plain: what is asked of the parts of an order. No walk stands here. -/
namespace Go.Proofs.Ytnjgjhjilolanaa
open Go.RowKit
set_option linter.unusedVariables false
structure PartsOk (m : RowsMK) (q : RowsML) (x : Item) (P : List (List Item)) : Prop where
  nd : P.flatten.Nodup
  mem : ∀ y, y ∈ P.flatten ↔ Rch m q x y
  srt : ∀ p ∈ P, Srt m p
  scc : ∀ p ∈ P, ∀ u ∈ p, ∀ v ∈ p, Rch m q u v
  ord : P.Pairwise (fun p p' => ∀ u ∈ p, ∀ v ∈ p', ¬ Rch m q u v)
  com : ∀ y ∈ P.flatten, (getMK m y).isSome = true
  ne : ∀ p ∈ P, p ≠ []
section
variable {m : RowsMK} {q : RowsML} {its : List Item} {x : Item} {P : List (List Item)}
theorem parts_ok (G : GInv m its) (a1 : (getMK m x).isSome = true) (a2 : (getML q x).isSome = false) (h : OrdM m q its x P []) : PartsOk m q x P ∧ P = (ovF m q (partL m q) its.length x ([], [])).2 := by
  obtain ⟨h1, h2, h3, h4, h5⟩ := ord_told G a1 a2 h (partOk G)
  obtain ⟨g1, g2, g3, -, -, -⟩ := ord_all G a1 a2 h
  refine ⟨⟨g2, fun y => ⟨h5 y, fun hr => (ord_reach G a1 a2 h y hr).2⟩, fun p hp => ?_, h2, h3, fun y hy => (g3 y hy).2, g1⟩, h1⟩
  obtain ⟨l, rfl⟩ := h4 p hp
  have hn : (sortM m l).Nodup := g2.sublist (List.sublist_flatten_of_mem hp)
  exact sortM_srt ((sortM_perm m l).nodup_iff.1 hn)
theorem PartsOk.split (h : PartsOk m q x P) {k : Nat} {p : List Item} (hp : P[k]? = some p) : P = P.take k ++ p :: P.drop (k + 1) := by
  obtain ⟨hk, rfl⟩ := List.getElem?_eq_some_iff.1 hp
  rw [← List.drop_eq_getElem_cons hk, List.take_append_drop]
theorem PartsOk.inP (h : PartsOk m q x P) {k : Nat} {p : List Item} (hp : P[k]? = some p) {y : Item} (hy : y ∈ p) : y ∈ P.flatten := List.mem_flatten.2 ⟨p, List.mem_of_getElem? hp, hy⟩
theorem PartsOk.fresh (h : PartsOk m q x P) {k : Nat} {p : List Item} (hp : P[k]? = some p) {y : Item} (hy : y ∈ p) : inB y (P.take k).flatten = false := by
  cases hc : inB y (P.take k).flatten with
  | false => rfl
  | true =>
    have hn := h.nd
    rw [h.split hp, List.flatten_append, List.flatten_cons, List.nodup_append] at hn
    exact absurd rfl (hn.2.2 y (inB_iff.1 hc) y (List.mem_append.2 (.inl hy)))
theorem PartsOk.all (h : PartsOk m q x P) (G : GInv m its) {k : Nat} {p : List Item} (hp : P[k]? = some p) {y : Item} (hy : y ∈ p) : inB y (reachL m q x ++ [x]) = true := by
  rw [inB_iff, List.mem_append]
  have hr := (h.mem y).1 (h.inP hp hy)
  by_cases e : y = x
  · right; simp [e]
  · exact .inl ((reach_iff G e).2 hr)
theorem PartsOk.before (h : PartsOk m q x P) {k : Nat} {p : List Item} (hp : P[k]? = some p) {i : Nat} {u y : Item} (hu : p[i]? = some u) (hy : p[i + 1]? = some y) : befB m u y = true := by
  have hs := h.srt p (List.mem_of_getElem? hp)
  obtain ⟨h1, rfl⟩ := List.getElem?_eq_some_iff.1 hu
  obtain ⟨h2, rfl⟩ := List.getElem?_eq_some_iff.1 hy
  rw [bef_lt]
  exact (List.pairwise_iff_getElem.1 hs) i (i + 1) h1 h2 (by omega)
theorem PartsOk.same (h : PartsOk m q x P) {k : Nat} {p : List Item} (hp : P[k]? = some p) {y z : Item} (hy : y ∈ p) (h1 : Rch m q y z) : (Rch m q z y → z ∈ p) ∧ (¬ Rch m q z y → z ∈ (P.take k).flatten) := by
  have hz : z ∈ P.flatten := (h.mem z).2 (((h.mem y).1 (h.inP hp hy)).trans h1)
  have ho := h.ord
  have hs := h.split hp
  rw [hs] at ho hz
  rw [List.pairwise_append, List.pairwise_cons] at ho
  rw [List.flatten_append, List.flatten_cons] at hz
  rcases List.mem_append.1 hz with hz | hz
  · refine ⟨fun hc => ?_, fun _ => hz⟩
    obtain ⟨p', hp', hz'⟩ := List.mem_flatten.1 hz
    exact absurd hc (ho.2.2 p' hp' p (by simp) z hz' y hy)
  · rcases List.mem_append.1 hz with hz | hz
    · exact ⟨fun _ => hz, fun hc => absurd (h.scc p (List.mem_of_getElem? hp) z hz y hy) hc⟩
    · obtain ⟨p', hp', hz'⟩ := List.mem_flatten.1 hz
      exact absurd h1 (ho.2.1.1 p' hp' y hy z hz')
theorem PartsOk.ahead (h : PartsOk m q x P) (G : GInv m its) {k : Nat} {p : List Item} (hp : P[k]? = some p) {y z : Item} (hy : y ∈ p) (hz : z ∈ reachL m q y) (hne : z ≠ y) (hm : inB y (reachL m q z) = false) : inB z (P.take k).flatten = true := by
  have h1 : Rch m q y z := (reach_iff G hne).1 hz
  rw [inB_iff]
  refine (h.same hp hy h1).2 fun hc => ?_
  have := inB_iff.2 ((reach_iff G (fun e => hne e.symm)).2 hc)
  rw [hm] at this; cases this
theorem PartsOk.len (h : PartsOk m q x P) (G : GInv m its) : P.flatten.length ≤ its.length ∧ P.length ≤ its.length ∧ ∀ p ∈ P, p.length ≤ its.length := by
  have h1 : P.flatten.length ≤ its.length := nodup_len _ _ h.nd fun y hy => G.mem y (h.com y hy)
  refine ⟨h1, ?_, fun p hp => Nat.le_trans (List.sublist_flatten_of_mem hp).length_le h1⟩
  have h2 : ∀ (P : List (List Item)), (∀ p ∈ P, p ≠ []) → P.length ≤ P.flatten.length := by
    intro P
    induction P with
    | nil => simp
    | cons a t ih =>
      intro h
      have := ih (fun p hp => h p (by simp [hp]))
      have ha := h a (by simp)
      have : 0 < a.length := List.length_pos_iff.2 ha
      simp only [List.length_cons, List.flatten_cons, List.length_append]
      omega
  exact Nat.le_trans (h2 P h.ne) h1
end
end Go.Proofs.Ytnjgjhjilolanaa
/- Layer 19, plain: what a run has done, and in which order, hangs on what is committed alone. No walk stands here. -/
namespace Go.Proofs.Ytnjgjhjilolanaa
open Go.RowKit Go.Shelf
set_option linter.unusedVariables false
/-- Nothing is over. -/
def Q0 : RowsML := ⟨0, fun _ => []⟩
theorem Q0_no (y : Item) : (getML Q0 y).isSome = false := by unfold Q0; rw [getML_new]; rfl
section
variable {m m' : RowsMK} {q : RowsML} {its : List Item} {D : List Item} {x : Item}
theorem waits_q {v y : Item} : y ∈ waitsM m q v ↔ y ∈ waitsM m Q0 v ∧ (getML q y).isSome = false := by
  unfold waitsM
  rw [List.mem_filter, List.mem_filter]
  unfold waitB
  rw [Q0_no]
  simp only [Bool.and_eq_true, Bool.not_eq_true', Bool.not_false, and_true]
  exact ⟨fun ⟨a, b, c⟩ => ⟨⟨a, b⟩, c⟩, fun ⟨⟨a, b⟩, c⟩ => ⟨a, b, c⟩⟩
theorem Rch.full {a b : Item} (h : Rch m q a b) : Rch m Q0 a b := by
  induction h with
  | refl => exact .refl _
  | step _ h ih => exact .step ih (waits_q.1 h).1
/-- What is done is closed, and stands in its order. -/
structure DOk (m : RowsMK) (D : List Item) : Prop where
  nd : D.Nodup
  com : ∀ y ∈ D, (getMK m y).isSome = true
  clo : ∀ y ∈ D, ∀ z ∈ waitsM m Q0 y, z ∈ D
  ord : ∀ y ∈ D, ∀ z ∈ waitsM m Q0 y, (¬ Rch m Q0 z y → idxN z D < idxN y D) ∧ (Rch m Q0 z y → (idxN z D < idxN y D ↔ ltM m z y = true))
theorem DOk.reach (h : DOk m D) {y z : Item} (hy : y ∈ D) (hr : Rch m Q0 y z) : z ∈ D := by
  induction hr with
  | refl => exact hy
  | step _ hz ih => exact h.clo _ ih _ hz
theorem DOk.new (m : RowsMK) : DOk m [] := ⟨List.nodup_nil, by simp, by simp, by simp⟩
theorem waits_call {y : Item} (h : getMK m' y = getMK m y) (q : RowsML) : waitsM m' q y = waitsM m q y := by unfold waitsM; rw [h]
theorem DOk.commit (h : DOk m D) (hs : ∀ y, (getMK m y).isSome = true → getMK m' y = getMK m y) : DOk m' D := by
  have hw : ∀ y ∈ D, waitsM m' Q0 y = waitsM m Q0 y := fun y hy => waits_call (hs y (h.com y hy)) Q0
  have h1 : ∀ {y z : Item}, y ∈ D → (Rch m Q0 y z ↔ Rch m' Q0 y z) := fun {y z} hy => by
    constructor
    · intro hr
      induction hr with
      | refl => exact .refl _
      | step hr hz ih =>
        have := h.reach hy hr
        exact .step ih (by rw [hw _ this]; exact hz)
    · intro hr
      have key : Rch m Q0 y z ∧ z ∈ D := by
        induction hr with
        | refl => exact ⟨.refl _, hy⟩
        | step hr hz ih =>
          obtain ⟨i1, i2⟩ := ih
          rw [hw _ i2] at hz
          exact ⟨.step i1 hz, h.clo _ i2 _ hz⟩
      exact key.1
  have h2 : ∀ {y z : Item}, y ∈ D → z ∈ D → ltM m' z y = ltM m z y := fun {y z} hy hz => by
    have e1 : seqK m' y = seqK m y := by unfold seqK; rw [hs y (h.com y hy)]
    have e2 : seqK m' z = seqK m z := by unfold seqK; rw [hs z (h.com z hz)]
    rw [Bool.eq_iff_iff, ltM_iff, ltM_iff, e1, e2]
  refine ⟨h.nd, fun y hy => by rw [hs y (h.com y hy)]; exact h.com y hy, fun y hy z hz => ?_, fun y hy z hz => ?_⟩
  · rw [hw y hy] at hz
    exact h.clo y hy z hz
  · rw [hw y hy] at hz
    have hzD := h.clo y hy z hz
    rw [← h1 hzD, h2 hy hzD]
    exact h.ord y hy z hz
theorem idxN_app {z : Item} {a c : List Item} (h : z ∉ a) : idxN z (a ++ c) = a.length + idxN z c := by
  have h5 : ¬ idxN z a < a.length := fun hc => h (idxN_lt.1 hc)
  unfold idxN at h5 ⊢
  rw [List.findIdx_append, if_neg h5, Nat.add_comm]
theorem srt_idx {p : List Item} (h : Srt m p) {z y : Item} (hz : z ∈ p) (hy : y ∈ p) : idxN z p < idxN y p ↔ ltM m z y = true := by
  have h1 : ∀ x ∈ p, ∃ hx : idxN x p < p.length, p[idxN x p] = x := fun x hx => by
    have hlt := idxN_lt.2 hx
    refine ⟨hlt, ?_⟩
    have := List.findIdx_getElem (xs := p) (p := fun z => eqA (IV x) (IV z)) (w := hlt)
    exact (IV_eq (eqA_iff.1 this)).symm
  obtain ⟨a1, a2⟩ := h1 z hz
  obtain ⟨b1, b2⟩ := h1 y hy
  constructor
  · intro hlt
    have := (List.pairwise_iff_getElem.1 h) _ _ a1 b1 hlt
    rw [a2, b2] at this
    exact this
  · intro hlt
    rcases Nat.lt_trichotomy (idxN z p) (idxN y p) with c | c | c
    · exact c
    · exfalso
      have e : z = y := by
        rw [← a2, ← b2]
        congr 1
      exact ltM_ne hlt e
    · exfalso
      have := (List.pairwise_iff_getElem.1 h) _ _ b1 a1 c
      rw [a2, b2] at this
      exact ltM_ne ((ltM_swo m).trans _ _ _ this hlt) rfl
/-- Some parts more are done. -/
theorem DOk.parts (G : GInv m its) (h : DOk m D) (hx : x ∉ D) (hq : ∀ y, (getML q y).isSome = true ↔ y ∈ D) {P : List (List Item)} (hP : PartsOk m q x P) : DOk m (D ++ P.flatten) := by
  have hno : ∀ y ∈ P.flatten, y ∉ D := fun y hy hc => by
    have hr := (hP.mem y).1 hy
    cases hr with
    | refl => exact hx hc
    | step h1 h2 =>
      have := (waits_q.1 h2).2
      rw [(hq y).2 hc] at this; cases this
  have hfull : ∀ {z y : Item}, z ∈ P.flatten → y ∉ D → Rch m Q0 z y → Rch m q z y ∧ y ∈ P.flatten := fun {z y} hz hy hr => by
    have key : y ∉ D → Rch m q z y ∧ y ∈ P.flatten := by
      clear hy
      induction hr with
      | refl => exact fun _ => ⟨.refl _, hz⟩
      | step hr hw ih =>
        intro hy
        rename_i a b
        have ha : a ∉ D := fun hc => hy (h.clo _ hc _ hw)
        obtain ⟨i1, i2⟩ := ih ha
        have hw2 : b ∈ waitsM m q a := waits_q.2 ⟨hw, by
          cases hc : (getML q b).isSome with
          | false => rfl
          | true => exact absurd ((hq b).1 hc) hy⟩
        exact ⟨.step i1 hw2, (hP.mem b).2 (.step ((hP.mem a).1 i2) hw2)⟩
    exact key hy
  refine ⟨?_, fun y hy => ?_, fun y hy z hz => ?_, fun y hy z hz => ?_⟩
  · rw [List.nodup_append]
    exact ⟨h.nd, hP.nd, fun a ha b hb e => hno b hb (e ▸ ha)⟩
  · rcases List.mem_append.1 hy with hy | hy
    · exact h.com y hy
    · exact hP.com y hy
  · rcases List.mem_append.1 hy with hy | hy
    · exact List.mem_append.2 (.inl (h.clo y hy z hz))
    · by_cases hzD : z ∈ D
      · exact List.mem_append.2 (.inl hzD)
      · exact List.mem_append.2 (.inr (hfull hy hzD (.one hz)).2)
  · rcases List.mem_append.1 hy with hy | hy
    · have hzD := h.clo y hy z hz
      rw [idxN_in hy, idxN_in hzD]
      exact h.ord y hy z hz
    · have hyD := hno y hy
      by_cases hzD : z ∈ D
      · have h1 := idxN_lt.2 hzD
        rw [idxN_in hzD, idxN_app hyD]
        exact ⟨fun _ => by omega, fun hr => absurd (h.reach hzD hr) hyD⟩
      · obtain ⟨hzq, hzP⟩ := hfull hy hzD (.one hz)
        rw [idxN_app hyD, idxN_app hzD]
        obtain ⟨p, hp, hyp⟩ := List.mem_flatten.1 hy
        obtain ⟨k, hk, rfl⟩ := List.getElem_of_mem hp
        have hPk : P[k]? = some P[k] := List.getElem?_eq_getElem hk
        have hsame := hP.same hPk hyp hzq
        have hsp := hP.split hPk
        have hynot : y ∉ (P.take k).flatten := fun hc => by
          have := hP.fresh hPk hyp
          rw [inB_iff.2 hc] at this; cases this
        have hyi : idxN y P.flatten = (P.take k).flatten.length + idxN y P[k] := by
          conv => lhs; rw [hsp]
          rw [List.flatten_append, List.flatten_cons, idxN_app hynot, idxN_in hyp]
        constructor
        · intro hnr
          have hz1 := hsame.2 fun hr => hnr hr.full
          have : idxN z P.flatten = idxN z (P.take k).flatten := by
            conv => lhs; rw [hsp]
            rw [List.flatten_append, idxN_in hz1]
          have := idxN_lt.2 hz1
          omega
        · intro hr
          have hzp := hsame.1 (hfull hzP hyD hr).1
          have hznot : z ∉ (P.take k).flatten := fun hc => by
            have := hP.fresh hPk hzp
            rw [inB_iff.2 hc] at this; cases this
          have hzi : idxN z P.flatten = (P.take k).flatten.length + idxN z P[k] := by
            conv => lhs; rw [hsp]
            rw [List.flatten_append, List.flatten_cons, idxN_app hznot, idxN_in hzp]
          rw [← srt_idx (hP.srt _ hp) hzp hyp, hyi, hzi]
          omega
theorem GoR.dok (G : GInv m its) : ∀ {xs : List Item} {q : RowsML} {O : List Item} {q1 : RowsML} {O1 l1 D : List Item}, GoR m its xs q O q1 O1 l1 → DOk m D → (∀ y, (getML q y).isSome = true ↔ y ∈ D) → m.n = q.n → DOk m (D ++ l1) ∧ (∀ y, (getML q1 y).isSome = true ↔ y ∈ D ++ l1) ∧ q1.n = q.n
  | [], q, O, q1, O1, l1, D, h, hd, hq, hn => by
    obtain ⟨rfl, rfl, rfl⟩ := h
    rw [List.append_nil]
    exact ⟨hd, hq, rfl⟩
  | a :: xs, q, O, q1, O1, l1, D, h, hd, hq, hn => by
    obtain ⟨P, M, l2, h1, rfl, h2⟩ := h
    by_cases hP : P = []
    · subst hP
      exact GoR.dok G h2 hd hq hn
    · have key : (getMK m a).isSome = true ∧ (getML q a).isSome = false ∧ M = [] := by
        have h0 := h1
        rcases h1 with ⟨-, e, -⟩ | ⟨⟨a1, a2⟩, -⟩
        · exact absurd e hP
        · refine ⟨a1, a2, ?_⟩
          cases M with
          | nil => rfl
          | cons b t => exact absurd ((ord_all G a1 a2 h0).2.2.2.1 (by simp)).1 hP
      obtain ⟨a1, a2, rfl⟩ := key
      obtain ⟨hOK, -⟩ := parts_ok G a1 a2 h1
      have hgood : ∀ y ∈ P.flatten, goodI y q.n = true := fun y hy => by rw [← hn]; exact getMK_good (hOK.com y hy)
      have haD : a ∉ D := fun hc => by rw [(hq a).2 hc] at a2; cases a2
      have hq2 : ∀ y, (getML (doneM q P.flatten) y).isSome = true ↔ y ∈ D ++ P.flatten := fun y => by
        rw [doneM_is _ _ hgood, hq y, List.mem_append]
      obtain ⟨r1, r2, r3⟩ := GoR.dok G h2 (hd.parts G haD hq hOK) hq2 (by rw [doneM_n]; exact hn)
      rw [← List.append_assoc]
      exact ⟨r1, r2, by rw [r3, doneM_n]⟩
theorem Bad.reach {y : Item} (h : Bad m q y) : ∃ z, Rch m q y z ∧ (getMK m z).isSome = false := by
  induction h with
  | here _ _ h1 h2 => exact ⟨_, .one h1, h2⟩
  | up _ _ h1 _ ih =>
    obtain ⟨z, h2, h3⟩ := ih
    exact ⟨z, (Rch.one h1).trans h2, h3⟩
end
/-- A run, and the document's graph beside it. -/
structure RunI (n : Int) (k : Nat) (m : RowsMK) (q : RowsML) (items : List Item) (calls : List Call) (D O : List Item) : Prop where
  bld : GBld n k m q items calls D
  ok : DOk m D
  opn : ∀ y, y ∈ O ↔ y ∈ items ∧ y ∉ D
  ond : O.Nodup
section
variable {n : Int} {k : Nat} {m m' : RowsMK} {q q' : RowsML} {items : List Item} {calls : List Call} {D D' O O' : List Item}
theorem RunI.new (n : Int) : RunI n 0 ⟨n, fun _ => []⟩ ⟨n, fun _ => []⟩ [] [] [] [] := ⟨GBld.new n, DOk.new _, by simp, List.nodup_nil⟩
theorem RunI.olen (h : RunI n k m q items calls D O) : O.length ≤ items.length := nodup_len _ _ h.ond fun y hy => ((h.opn y).1 hy).1
theorem RunI.dlen (h : RunI n k m q items calls D O) : D.length ≤ items.length := nodup_len _ _ h.ok.nd fun y hy => (h.bld.is y).1 (h.ok.com y hy)
/-- What is open behind a commit. -/
noncomputable def nextP (m : RowsMK) (O : List Item) (x : Item) (c : Call) : List Item := if canC m x c = true then sortO (O ++ [x]) else O
theorem RunI.commit (h : RunI n k m q items calls D O) (x : Item) (c : Call) : ∃ items' calls', RunI n (k + 1) (comC m x c) q items' calls' D (nextP m O x c) ∧ (canC m x c = true → items' = items ++ [x] ∧ calls' = calls ++ [c]) ∧ (canC m x c = false → items' = items ∧ calls' = calls) := by
  unfold nextP
  cases hc : canC m x c with
  | false =>
    rw [if_neg (by simp)]
    refine ⟨items, calls, ⟨h.bld.same hc, ?_, h.opn, h.ond⟩, by simp, by simp⟩
    rw [comC_no hc]; exact h.ok
  | true =>
    rw [if_pos rfl]
    obtain ⟨hg, hd, hs⟩ := canC_good hc
    have hx : x ∉ items := fun hm => by rw [(h.bld.is x).2 hm] at hs; simp at hs
    have hxD : x ∉ D := fun hm => by rw [h.ok.com x hm] at hs; cases hs
    have hsame : ∀ y, (getMK m y).isSome = true → getMK (comC m x c) y = getMK m y := fun y hy => by
      rw [comC_yes hc, getMK_set_other c hg]
      rintro rfl
      rw [hs] at hy; cases hy
    refine ⟨_, _, ⟨h.bld.commit hc, h.ok.commit hsame, fun y => ?_, ?_⟩, by simp, by simp⟩
    · rw [(sortO_perm _).mem_iff, List.mem_append, List.mem_append, h.opn y]
      constructor
      · rintro (⟨a, b⟩ | a)
        · exact ⟨.inl a, b⟩
        · simp at a; subst a; exact ⟨.inr (by simp), hxD⟩
      · rintro ⟨a | a, b⟩
        · exact .inl ⟨a, b⟩
        · exact .inr a
    · rw [(sortO_perm _).nodup_iff, List.nodup_append]
      exact ⟨h.ond, by simp, fun a ha b hb => by simp at hb; subst hb; exact fun e => hx (e ▸ ((h.opn a).1 ha).1)⟩
theorem RunI.go (h : RunI n k m q items calls D O) (hn : n ≤ 7) {q1 : RowsML} {O1 l1 : List Item} (hg : GoR m items O q O q1 O1 l1) :
    RunI n k m q1 items calls (D ++ l1) O1 ∧ (∀ y, y ∈ D ++ l1 ↔ (getMK m y).isSome = true ∧ ∀ z, Rch m Q0 y z → (getMK m z).isSome = true) := by
  have G := h.bld.inv hn
  have hmn : m.n = q.n := by rw [h.bld.mn, h.bld.qn]
  obtain ⟨r1, r2, r3⟩ := hg.dok G h.ok h.bld.over hmn
  have hOn : ∀ y ∈ O, (getML q y).isSome = false := fun y hy => by
    cases hc : (getML q y).isSome with
    | false => rfl
    | true => exact absurd ((h.bld.over y).1 hc) ((h.opn y).1 hy).2
  have hb := hg.bad G hmn hOn (fun y hy => (h.bld.is y).2 ((h.opn y).1 hy).1)
  have hlen : (D ++ l1).length ≤ items.length := nodup_len _ _ r1.nd fun y hy => (h.bld.is y).1 (r1.com y hy)
  have hDD : ∀ y, y ∈ D → y ∈ D ++ l1 := fun y hy => List.mem_append.2 (.inl hy)
  have hO1 : ∀ y, y ∈ O1 ↔ y ∈ items ∧ y ∉ D ++ l1 := fun y => by
    rw [hb.1 y, h.opn y]
    constructor
    · rintro ⟨⟨a, _⟩, b⟩
      exact ⟨a, fun hc => by rw [(r2 y).2 hc] at b; cases b⟩
    · rintro ⟨a, b⟩
      refine ⟨⟨a, fun hc => b (hDD y hc)⟩, ?_⟩
      cases hc : (getML q1 y).isSome with
      | false => rfl
      | true => exact absurd ((r2 y).1 hc) b
  refine ⟨⟨{ h.bld with qn := by rw [r3, h.bld.qn], led := Nat.le_trans hlen h.bld.lei, dnodup := r1.nd, over := r2, dgood := fun x hx => ?_ }, r1, hO1, h.ond.sublist hg.sub⟩, fun y => ?_⟩
  · rw [← h.bld.mn]; exact getMK_good (r1.com x hx)
  · constructor
    · intro hy
      exact ⟨r1.com y hy, fun z hz => r1.com z (r1.reach hy hz)⟩
    · rintro ⟨a, b⟩
      by_cases hy : y ∈ D ++ l1
      · exact hy
      · exfalso
        have hyi := (h.bld.is y).1 a
        have hyO : y ∈ O := (h.opn y).2 ⟨hyi, fun hc => hy (hDD y hc)⟩
        have hov : (getML q1 y).isSome = false := by
          cases hc : (getML q1 y).isSome with
          | false => rfl
          | true => exact absurd ((r2 y).1 hc) hy
        obtain ⟨z, h1, h2⟩ := (hb.2.2.2 y hyO hov).reach
        rw [b z h1.full] at h2; cases h2
end
end Go.Proofs.Ytnjgjhjilolanaa
