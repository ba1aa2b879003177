/- Several texts in one. -/
import Derived.Test.YtnjgjhjilolanaaH31
import Derived.Test.YtnjgjhjilolanaaH34
/- Layer 19: what is missing, told by a run. -/
namespace Go.Proofs.Ytnjgjhjilolanaa
open Go.RowKit Go.Shelf
open Go.Sort (pdq bitsLen SWO)
set_option linter.unusedVariables false
set_option maxRecDepth 20000
attribute [local go_sem] row_alloc row_drew row_drewN row_ext row_setCell row_setRow size_ext setRow_alloc setRow_drew loadOf storeOf piece_lit loadVal_at storeVal_at allOne_lit buildOf buildRes_some
attribute [local go_sem high] cell_alloc frozen_alloc setCell_alloc cell_ext frozen_ext cell_setRow frozen_setRow
attribute [local go_sem ↓] TDeed_ld0 TDeed_st0 TDeed_fd0 TDeed_bd0
attribute [local go_sem] TDeed_size TDeed_one TDeed_piece TDeed_c0 TDeed_c1 TDeed_c2 TDeed_c3 TDeed_c4 TDeed_c5 TDeed_set_kind TDeed_set_key TDeed_set_val TDeed_set_ver TDeed_set_ses TDeed_set_num TDeed_ld TDeed_st TDeed_f_kind TDeed_f_key TDeed_f_val TDeed_f_ver TDeed_f_ses TDeed_f_num TDeed_bd TDeed_fl TDeed_fl_kind TDeed_fl_key TDeed_fl_val TDeed_fl_ver TDeed_fl_ses TDeed_fl_num
attribute [local go_sem high] TDeed_eql TDeed_neq
attribute [local go_sem ↓] index_deps0 load_deps0 store_deps0
attribute [local go_sem] DV_piece DV_size DV_one index_deps load_deps store_deps
attribute [local go_sem high] TDeps_eql TDeps_neq
attribute [local go_sem ↓] TCall_ld0 TCall_st0 TCall_fd0 TCall_bd0
attribute [local go_sem] TCall_size TCall_one TCall_piece TCall_c0 TCall_c1 TCall_c2 TCall_c3 TCall_c4 TCall_c5 TCall_c6 TCall_c7 TCall_c8 TCall_c9 TCall_c10 TCall_c11 TCall_c12 TCall_c13 TCall_p_deed TCall_put_deed TCall_p_deps TCall_put_deps TCall_set_seq TCall_ld TCall_st TCall_f_deed TCall_f_deps TCall_f_seq TCall_bd TCall_fl TCall_fl_deed TCall_fl_deps TCall_fl_seq
attribute [local go_sem high] TCall_eql TCall_neq
attribute [local go_sem ↓] TItem_ld0 TItem_st0 TItem_fd0 TItem_bd0
attribute [local go_sem] TItem_size TItem_one TItem_piece TItem_c0 TItem_c1 TItem_set_rep TItem_set_num TItem_ld TItem_st TItem_f_rep TItem_f_num TItem_bd TItem_fl TItem_fl_rep TItem_fl_num
attribute [local go_sem high] TItem_eql TItem_neq
noncomputable def cmp2 (x y : Item) : Int := if lessI x y = true then -1 else 1
set_option maxHeartbeats 2000000 in
theorem misCmp_any (x y : Item) : Ans Try.prog 60 #[.agg (IV x), .agg (IV y)] (.int .i64 (cmp2 x y)) := by
  refine Ans.of_sts fun W => ?_
  have T := ((Sts.start0 W).new (IV x) 35).new (IV y) 35
  simp only [World.size_alloc] at T
  have HL := Lib.hid (itemLess_any x y)
  have r2 := T.row; have l2 := row_lt r2; have c2 := row_cell r2
  have r1 := T.row1; have l1 := row_lt r1; have c1 := row_cell r1
  have HT := Lib.hid T; clear T
  obtain ⟨ls, hls⟩ : ∃ v, v = lessI x y := ⟨_, rfl⟩
  have HV := Lib.hid (show cmp2 x y = if ls = true then -1 else 1 by rw [hls]; rfl)
  rw [← hls] at HL
  clear hls
  go_enter Try.func60, Try.ntmps60
  go_wp2_with fail
  refine (Ans.at HL.out HT.out).mono ?_
  clear HL r1 r2 l1 l2 c1 c2
  rintro e w5 ⟨rfl, T⟩
  have HT := Lib.hid T.nil; clear T
  cases ls with
  | true =>
    go_wp2
    go_ret
    exact ⟨by rw [HV.out]; rfl, HT.out⟩
  | false =>
    go_wp2
    go_ret
    exact ⟨by rw [HV.out]; rfl, HT.out⟩
noncomputable abbrev cmpD : CmpK := ⟨60, #[], [], cmp2⟩
theorem cmpD_lt : cmpD.lt = cmpC.lt := by
  funext x y
  rw [Bool.eq_iff_iff, cmpC_lt]
  unfold CmpK.lt
  rw [decide_eq_true_eq]
  show cmp2 x y < 0 ↔ _
  unfold cmp2
  by_cases h : lessI x y = true
  · rw [if_pos h]
    have h := of_decide_eq_true h
    exact ⟨fun _ => h, fun _ => by decide⟩
  · rw [if_neg h]
    have h : ¬ (x.num < y.num ∨ x.num = y.num ∧ x.rep < y.rep) := fun h2 => h (decide_eq_true h2)
    exact ⟨fun h2 => absurd h2 (by decide), fun h2 => absurd h2 h⟩
theorem cmpD_ok : cmpD.Ok where
  reads x y := by
    intro W G hS
    exact (misCmp_any x y W).mono fun e W' h => h
  swo := by rw [cmpD_lt]; exact cmpC_ok.swo
  enter args w := by rfl
section
variable {w W : World} {F : Nat → Prop} {R : List Res} {r : Nat} {m : RowsMK} {q : RowsML} {D O its : List Item}
set_option maxHeartbeats 4000000 in
theorem insNilT (cv : Value) (T : Sts w F W R) :
    Calls Try.prog 74 #[.slice none 0 0, .int .i64 0, .int .i64 0, cv] W fun e W' => e = .returned (.tuple #[]) ∧ Sts w F W' R := by
  have HT := Lib.hid T; clear T
  go_enter Try.func74, Try.ntmps74
  go_wp2_with fail
  go_loopw [8] (fun u8 wr => u8 = .int .i64 1 ∧ Sts w F wr R) (fun _ _ => 0)
  case atStart => exact ⟨rfl, HT.out⟩
  case round =>
    obtain ⟨rfl, T1⟩ := hrel
    have HT1 := Lib.hid T1; clear T1
    go_wp2
    go_end0
    exact ⟨rfl, HT1.out⟩
set_option maxHeartbeats 4000000 in
theorem pdqNilT (cv : Value) (T : Sts w F W R) :
    Calls Try.prog 68 #[.slice none 0 0, .int .i64 0, .int .i64 0, .int .i64 0, cv] W fun e W' => e = .returned (.tuple #[]) ∧ Sts w F W' R := by
  have HT := Lib.hid T; clear T
  go_enter Try.func68, Try.ntmps68
  go_wp2_with fail
  go_loopw [1, 2] (fun u1 u2 wr => u1 = .int .i64 0 ∧ u2 = .int .i64 0 ∧ Sts w F wr R) (fun _ _ _ => 0)
  case atStart => exact ⟨rfl, rfl, HT.out⟩
  case round =>
    obtain ⟨rfl, rfl, T1⟩ := hrel
    have HT1 := Lib.hid T1; clear T1
    go_wp2_with fail
    refine (insNilT cv HT1.out).mono ?_
    rintro e w5 ⟨rfl, T⟩
    have HT2 := Lib.hid T; clear T
    go_wp2
    try simp only [Exit.inBlock, Exit.then]
    refine bodyPost_ret (results_none rfl _ _ _) rfl ?_
    exact ⟨rfl, HT2.out⟩
set_option maxHeartbeats 4000000 in
theorem sortNilT (cv : Value) (T : Sts w F W R) :
    Calls Try.prog 53 #[.slice none 0 0, cv] W fun e W' => e = .returned (.tuple #[]) ∧ Sts w F W' R := by
  have HT := Lib.hid T; clear T
  have HB := Lib.hid (bitsLenT 0 (by omega))
  rw [show bitsLen 0 = 0 from rfl] at HB
  go_enter Try.func53, Try.ntmps53
  go_wp2_with fail
  refine (HB.out _).mono ?_
  rintro e w5 ⟨rfl, rfl⟩
  go_wp2_with fail
  refine (pdqNilT cv HT.out).mono ?_
  rintro e w5 ⟨rfl, T⟩
  have HT2 := Lib.hid T; clear T HT
  go_wp2
  go_end0
  exact ⟨rfl, HT2.out⟩
/-- Sorted in its place, nil or not. -/
theorem sortMisT {l : List Item} {v : Value} (hl : l.length ≤ 511) (T : Sts w F W (vecR 35 2 v l.length (vl IV l) :: R)) :
    Calls Try.prog 53 #[v, cmpD.cv] W fun e W' => e = .returned (.tuple #[]) ∧ Sts w F W' (vecR 35 2 v (sortO l).length (vl IV (sortO l)) :: R) := by
  rcases T.vec.2 with ⟨hv, h0⟩ | ⟨g, c, cur, hv, _⟩
  · subst hv
    have hl0 : l = [] := List.eq_nil_of_length_eq_zero (by simpa using h0)
    subst hl0
    have hs : sortO [] = [] := List.eq_nil_of_length_eq_zero (sortO_length [])
    rw [hs]
    exact sortNilT _ T
  · subst hv
    have T2 : Sts w F W (itR g c l.toArray :: (cmpD.L ++ R)) := by
      unfold itR
      rw [List.size_toArray]
      exact T
    refine (sorts511C w W F R g c cmpD l.toArray l.length (by simp) hl cmpD_ok T2).mono ?_
    rintro e w5 ⟨rfl, T3⟩
    refine ⟨rfl, ?_⟩
    rw [cmpD_lt] at T3
    have hpd : pdq cmpC.lt l.toArray 0 l.length (bitsLen l.length) true true = (sortO l).toArray := by unfold sortO; simp
    rw [hpd] at T3
    have T4 : Sts w F w5 (vecR 35 2 (.slice (some ⟨g, 0, none⟩) (sortO l).toArray.size c) (sortO l).toArray.size (vl IV (sortO l)) :: R) := T3
    rw [List.size_toArray, sortO_length] at T4
    rw [sortO_length]
    exact T4
/-- What isn't committed, and one of these reaches. -/
structure MisI (m : RowsMK) (q : RowsML) (X L : List Item) : Prop where
  nd : L.Nodup
  all : ∀ y ∈ L, y ∈ allIt
  mem : ∀ z, z ∈ L ↔ ∃ x ∈ X, z ∈ reachL m q x ∧ (getMK m z).isSome = false
theorem MisI.nil : MisI m q [] [] := ⟨List.nodup_nil, by simp, by simp⟩
theorem MisI.len {X L : List Item} (h : MisI m q X L) : L.length ≤ 448 := Nat.le_trans (nodup_len L allIt h.nd h.all) allIt_len
theorem MisI.part {X L M : List Item} (h : MisI m q X L) (hM : ∀ y ∈ M, y ∈ allIt) (j : Nat) : (addL (M.take j) L).length ≤ 448 :=
  Nat.le_trans (nodup_len _ allIt (addL_nodup h.nd) fun y hy => by
    rcases addL_mem.1 hy with h1 | h1
    · exact h.all y h1
    · exact hM y (List.mem_of_mem_take h1)) allIt_len
theorem MisI.step (G : GInv m its) {X L M : List Item} {x : Item} {P : List (List Item)} (h : MisI m q X L) (a1 : (getMK m x).isSome = true) (a2 : (getML q x).isSome = false) (ho : OrdM m q its x P M) : MisI m q (X ++ [x]) (addL M L) ∧ (∀ y ∈ M, y ∈ allIt) ∧ M.length ≤ 448 := by
  obtain ⟨b1, b2, -⟩ := ord_want G a1 a2 ho
  have hM : ∀ y ∈ M, y ∈ allIt := fun y hy => (reach_inv (q := q) (x := x) G).all y ((b2 y).1 hy).1
  refine ⟨⟨addL_nodup h.nd, fun y hy => ?_, fun z => ?_⟩, hM, Nat.le_trans (nodup_len M allIt b1 hM) allIt_len⟩
  · rcases addL_mem.1 hy with h1 | h1
    · exact h.all y h1
    · exact hM y h1
  · rw [addL_mem, h.mem z, b2 z]
    constructor
    · rintro (⟨u, h1, h2⟩ | h1)
      · exact ⟨u, by simp [h1], h2⟩
      · exact ⟨x, by simp, h1⟩
    · rintro ⟨u, h1, h2⟩
      rw [List.mem_append, List.mem_singleton] at h1
      rcases h1 with h1 | rfl
      · exact .inl ⟨u, h1, h2⟩
      · exact .inr h2
theorem con_in {y : Item} {l : List Item} : decide (0 ≤ idxI y l) = inB y l := by
  unfold idxI inB
  by_cases h : idxN y l < l.length
  · rw [if_pos h, decide_eq_true h]; exact decide_eq_true (by omega)
  · rw [if_neg h, decide_eq_false h]; exact decide_eq_false (by omega)
set_option maxHeartbeats 16000000 in
theorem runMissT (hm : 0 ≤ m.n ∧ m.n ≤ 7) (hq : 0 ≤ q.n ∧ q.n ≤ 7) (G : GInv m its) (hits : its.length ≤ 511) (hO : O.length ≤ 511) (hOC : ∀ x ∈ O, (getMK m x).isSome = true ∧ (getML q x).isSome = false) (T : Sts w F W (runR r m q D O :: R)) :
    Calls Try.prog 34 #[.pointer (some ⟨r, 0, none⟩)] W fun e W' => ∃ v L, e = .returned v ∧ MisI m q O L ∧ Sts w F W' (vecR 35 2 v (sortO L).length (vl IV (sortO L)) :: runR r m q D O :: R) := by
  obtain ⟨b, gc, gd, vd, vo, T1⟩ := T.runOpen
  obtain ⟨Ao, co, rfl⟩ := vec_shape2 (T1.ord [5, 0, 1, 2, 3, 4])
  have r0 := T1.row; have l0 := row_lt r0; have c1 := row_cell r0 2
  have T2 := T1.vecNil 35 2
  obtain ⟨no, hno⟩ : ∃ k, k = O.length := ⟨_, rfl⟩
  have HNO := Lib.hid hno
  have HT := Lib.hid T2
  have HOC := Lib.hid hOC
  rw [← hno] at hO c1 r0
  clear T T1 T2 hno hOC
  go_enter Try.func34, Try.ntmps34
  go_wp2_with fail
  go_loopw [3, 17] (fun u3 u17 wr => ∃ (k : Nat) (L : List Item), u17 = .int .i64 k ∧ k ≤ no ∧ MisI m q (O.take k) L ∧ Sts w F wr (vecR 35 2 u3 L.length (vl IV L) :: rowR r (runC b vd (.slice Ao O.length co)) :: rowR b #[.pointer (some ⟨gc, 0, none⟩), .pointer (some ⟨gd, 0, none⟩)] :: rowsIRK gc m :: rowsIRL gd q :: vecR 35 2 vd D.length (vl IV D) :: vecR 35 2 (.slice Ao O.length co) O.length (vl IV O) :: R)) (fun _ u17 _ => no - (intOf u17).toNat)
  case atStart => exact ⟨0, [], rfl, Nat.zero_le _, MisI.nil, HT.out⟩
  case round =>
    clear HT r0 l0 c1
    obtain ⟨k, L, rfl, hk, hL, T⟩ := hrel
    have HL := Lib.hid hL
    have hL448 := hL.len
    clear hL
    by_cases hkn : k < no
    · have hk1 : (k : Int) < (no : Int) := by omega
      have hk0 : (0 : Int) ≤ (k : Int) := by omega
      obtain ⟨x, hx⟩ : ∃ x, O[k]? = some x := ⟨O[k]'(by rw [← HNO.out]; exact hkn), List.getElem?_eq_getElem _⟩
      obtain ⟨ga, rfl, hld⟩ := vec_load (P := Try.prog) (e := 35) TItem_size (by omega) TItem_und rfl (by kernel_rfl) (T.ord [6, 0, 1, 2, 3, 4, 5]) rfl hx (by have := HNO.out; omega)
      have hoc := HOC.out x (List.mem_of_getElem? hx)
      have htk : O.take (k + 1) = O.take k ++ [x] := by
        obtain ⟨hj, rfl⟩ := List.getElem?_eq_some_iff.1 hx
        rw [List.take_succ_eq_append_getElem hj]
      generalize hRR : vecR 35 2 vd D.length (vl IV D) :: vecR 35 2 (.slice (some ⟨ga, 0, none⟩) O.length co) O.length (vl IV O) :: R = RR at *
      have HRR := Lib.hid hRR; have HOK := Lib.hid hoc; have HTK := Lib.hid htk
      have T2 := T.new (IV x) 35
      have HT := Lib.hid (T2.ord [2, 0, 3, 4, 5, 1])
      clear T T2 hx hRR hoc htk
      go_upto_region 7 with fail
      generalize hw3 : wr.alloc _ = w3 at *
      generalize wr.heap.size = gx at *
      clear hw3 hld
      have FS : ∀ W' R', Sts w F W' (rowR r (runC b vd (.slice (some ⟨ga, 0, none⟩) O.length co)) :: rowR gx (IV x) :: R') → (W'.cell? ⟨r, 0, none⟩ = some (.pointer (some ⟨b, 0, none⟩)) ∧ row? W' gx = some (IV x)) := fun W' R' T => ⟨by rw [row_cell T.row 0]; rfl, T.row1⟩
      have HFS := Lib.hid FS
      have HT0 := Lib.hid HT.out.drew
      have S0 := HFS.out _ _ HT0.out
      have HOR := Lib.hid (grOrderT (its := its) (b := b) (gc := gc) (gd := gd) (R := rowR r (runC b vd (.slice (some ⟨ga, 0, none⟩) O.length co)) :: rowR gx (IV x) :: _) (sortsG hits) hits G hm hq x (by have T0 := HT0.out.ord [2, 3, 4, 0, 1]; exact T0))
      clear HT FS
      refine wp_region_held_drew (S := fun W' => (W'.cell? ⟨r, 0, none⟩ = some (.pointer (some ⟨b, 0, none⟩)) ∧ row? W' gx = some (IV x))) (by kernel_rfl) S0 (fun hHeld => ?_)
      clear S0
      refine tkH 0 rfl ?_
      simp only [Act.put, List.setIfInBounds_toArray, List.set_cons_zero, List.set_cons_succ]
      refine tkH 1 rfl ?_
      go_frame
      refine tkH 2 rfl ?_
      go_frame
      refine tkH 3 rfl ?_
      go_frame
      refine tkH 4 rfl ?_
      go_frame
      refine wpAnyH_ready (rs := [5]) (by kernel_rfl) (by simp) ?_
      refine AllReadyH.cons (o := _) rfl (fun K hK => ?_) AllReadyH.nil
      go_simp
      refine HOR.out.mono ?_
      clear HOR HT0
      rintro e5 w5 ⟨vp, vm, P, M, rfl, hord, T⟩
      obtain ⟨hM1, hM2, hM3⟩ := HL.out.step G HOK.out.1 HOK.out.2 hord
      have hpart := HL.out.part hM2
      have T : Sts w F w5 (paR vp P :: vecR 35 2 vm M.length (vl IV M) :: rowR b #[.pointer (some ⟨gc, 0, none⟩), .pointer (some ⟨gd, 0, none⟩)] :: rowsIRK gc m :: rowsIRL gd q :: rowR r (runC b vd (.slice (some ⟨ga, 0, none⟩) O.length co)) :: rowR gx (IV x) :: vecR 35 2 u3 L.length (vl IV L) :: RR) := T
      have HT := Lib.hid (T.ord [5, 6, 7, 1, 2, 3, 4, 0])
      clear T hord
      refine hK.out _ _ (HFS.out _ _ HT.out) (fun hHeld => ?_)
      clear hK K HFS
      refine tkH 6 rfl ?_
      simp only [Act.put, List.setIfInBounds_toArray, List.set_cons_zero, List.set_cons_succ]
      refine tkH 7 rfl ?_
      go_frame
      refine tkH 8 rfl ?_
      go_frame
      refine tkH 9 rfl ?_
      go_frame
      refine tkH 10 rfl ?_
      go_frame
      refine wpAnyH_done (by kernel_rfl) ?_ _
      try simp only [Exit.then]
      have T2 := (HT.out.ord [1, 7, 2, 0, 3, 4, 5, 6]).drop.drop
      obtain ⟨Am, cm, rfl⟩ := vec_shape2 (T2.ord [2, 0, 1])
      obtain ⟨nm, hnm⟩ : ∃ k, k = M.length := ⟨_, rfl⟩
      have HNM := Lib.hid hnm; have HM1 := Lib.hid hM1; have HPA := Lib.hid hpart
      rw [← hnm] at T2 hM3
      rw [← hnm]
      have HT2 := Lib.hid T2
      clear HT T2 hnm hM1 hM2 hpart
      obtain ⟨i0, hi, hz0, hz1, hz2⟩ := itm_i
      go_wp2_with fail
      go_loopw [3, 32] (fun u3 u32 wx => ∃ (j : Nat), u32 = .int .i64 j ∧ j ≤ nm ∧ Sts w F wx (vecR 35 2 u3 (addL (M.take j) L).length (vl IV (addL (M.take j) L)) :: rowR r (runC b vd (.slice (some ⟨ga, 0, none⟩) O.length co)) :: vecR 35 2 (.slice Am nm cm) nm (vl IV M) :: rowR b #[.pointer (some ⟨gc, 0, none⟩), .pointer (some ⟨gd, 0, none⟩)] :: rowsIRK gc m :: rowsIRL gd q :: RR)) (fun _ u32 _ => nm - (intOf u32).toNat)
      case atStart => exact ⟨0, rfl, Nat.zero_le _, HT2.out⟩
      case round =>
        clear HT2
        obtain ⟨j, rfl, hj, T⟩ := hrel
        have hlen := HPA.out j
        by_cases hjn : j < nm
        · have hj1 : (j : Int) < (nm : Int) := by omega
          have hj0 : (0 : Int) ≤ (j : Int) := by omega
          obtain ⟨y, hy⟩ : ∃ y, M[j]? = some y := ⟨M[j]'(by rw [← HNM.out]; exact hjn), List.getElem?_eq_getElem _⟩
          obtain ⟨gM, rfl, hld⟩ := vec_load (P := Try.prog) (e := 35) TItem_size (by omega) TItem_und rfl (by kernel_rfl) (T.ord [2, 0, 1]) HNM.out hy (by omega)
          have htk : addL (M.take (j + 1)) L = if inB y (addL (M.take j) L) = true then addL (M.take j) L else addL (M.take j) L ++ [y] := by
            obtain ⟨hj, rfl⟩ := List.getElem?_eq_some_iff.1 hy
            rw [List.take_succ_eq_append_getElem hj, addL_snoc]
            rfl
          have HTK2 := Lib.hid htk
          clear htk
          generalize addL (M.take j) L = L1 at *
          have T2 := T.new (IV y) 35
          have HT := Lib.hid T2
          clear T T2 hy
          go_upto_region 11 with fail
          generalize wr.alloc _ = w12 at *
          generalize wr.heap.size = gy at *
          clear hld
          have ry := HT.out.row; have ly := row_lt ry
          have HAT := Lib.hid ((containsR u3 L1 (by omega) y).at (R := rowR gy (IV y) :: _) (by have T0 := HT.out.ord [1, 0]; exact T0))
          rw [con_in] at HAT
          go_wp2_with fail
          refine HAT.out.mono ?_
          clear HAT ry ly
          rintro e12 w13 ⟨rfl, hb⟩
          have T := HT.out.pure hb
          clear HT hb
          cases hin : inB y L1 with
          | true =>
            have hnx := HTK2.out
            rw [if_pos hin] at hnx
            have HN2 := Lib.hid hnx
            have HT := Lib.hid T.drop
            clear T hnx hin HTK2
            go_wp2_with fail
            go_roundw
            case rel => exact ⟨j + 1, by go_num, by omega, by rw [HN2.out]; exact HT.out⟩
            case measure => simp [intOf]; omega
          | false =>
            have hnx := HTK2.out
            rw [hin, if_neg Bool.false_ne_true] at hnx
            have HN2 := Lib.hid hnx
            clear hnx hin HTK2
            have ry := T.row; have ly := row_lt ry
            have TA := T.new (IV y) 35
            have hnw := Lib.hid (news_row TA.row)
            have TA := Lib.hid (TA.ord [2, 0, 1])
            have h63 : L1.length + 1 ≤ maxLen := by unfold maxLen; omega
            have hby : (L1.length + 1) * 16 ≤ 140737488355328 := by omega
            have HOK2 := Lib.hid (itm_one y)
            clear T
            go_wp2_with (at_builtin; refine wpList_append_vec rfl _ _ 30 rfl 35 i0 (.agg (IV noItem)) 2 16 Try.underlying30 hi hz0 hz1 hz2 rfl (by decide) _ _ _ rfl TA.out ⟨_, 0, none⟩ 1 1 (IV y).toList rfl rfl hnw.out HOK2.out h63 hby ?_)
            intro v14 w14 T14
            have hl1 : L1.length + 1 = (L1 ++ [y]).length := by simp
            rw [hl1, show vl IV L1 ++ (IV y).toList = vl IV (L1 ++ [y]) from (vl_snoc IV L1 y).symm] at T14
            have HT := Lib.hid (T14.ord [1, 2, 0]).drop.drop
            clear TA hnw ry ly h63 hby T14 HOK2 hl1
            go_wp2_with fail
            go_roundw
            case rel => exact ⟨j + 1, by go_num, by omega, by rw [HN2.out]; exact HT.out⟩
            case measure => simp [intOf]; omega
        · have hj1 : ¬ (j : Int) < (nm : Int) := by omega
          have hjm : M.take j = M := List.take_of_length_le (by rw [← HNM.out]; omega)
          rw [hjm] at T
          have T2 := (T.ord [2, 0, 1, 3, 4, 5]).drop
          have HT := Lib.hid T2
          clear T T2 hjm hlen
          go_wp2_with fail
          go_roundw
          case rel => exact ⟨k + 1, addL M L, by go_num, by omega, by rw [HTK.out]; exact HM1.out, HT.out⟩
          case measure => simp [intOf]; omega
    · have hk1 : ¬ (k : Int) < (no : Int) := by omega
      have hkO : O.take k = O := List.take_of_length_le (by rw [← HNO.out]; omega)
      have hl := HL.out
      rw [hkO] at hl
      have HL2 := Lib.hid hl
      have HS := Lib.hid (sortMisT (by omega) T)
      clear hl HL hkO T
      go_wp2_with fail
      refine HS.out.mono ?_
      clear HS
      rintro e5 w5 ⟨rfl, T⟩
      have HT := Lib.hid T; clear T
      go_wp2
      go_ret
      have T1 := HT.out.ord [1, 2, 3, 4, 5, 6, 0]
      exact ⟨_, L, rfl, HL2.out, (T1.runShut).swap⟩
end
end Go.Proofs.Ytnjgjhjilolanaa
/- Layer 18, plain: what is asked of the parts of an order. No walk stands here. -/
namespace Go.Proofs.Ytnjgjhjilolanaa
open Go.RowKit
set_option linter.unusedVariables false
structure PartsOk (m : RowsMK) (q : RowsML) (x : Item) (P : List (List Item)) : Prop where
  nd : P.flatten.Nodup
  mem : ∀ y, y ∈ P.flatten ↔ Rch m q x y
  srt : ∀ p ∈ P, Srt m p
  scc : ∀ p ∈ P, ∀ u ∈ p, ∀ v ∈ p, Rch m q u v
  ord : P.Pairwise (fun p p' => ∀ u ∈ p, ∀ v ∈ p', ¬ Rch m q u v)
  com : ∀ y ∈ P.flatten, (getMK m y).isSome = true
  ne : ∀ p ∈ P, p ≠ []
section
variable {m : RowsMK} {q : RowsML} {its : List Item} {x : Item} {P : List (List Item)}
theorem parts_ok (G : GInv m its) (a1 : (getMK m x).isSome = true) (a2 : (getML q x).isSome = false) (h : OrdM m q its x P []) : PartsOk m q x P ∧ P = (ovF m q (partL m q) its.length x ([], [])).2 := by
  obtain ⟨h1, h2, h3, h4, h5⟩ := ord_told G a1 a2 h (partOk G)
  obtain ⟨g1, g2, g3, -, -, -⟩ := ord_all G a1 a2 h
  refine ⟨⟨g2, fun y => ⟨h5 y, fun hr => (ord_reach G a1 a2 h y hr).2⟩, fun p hp => ?_, h2, h3, fun y hy => (g3 y hy).2, g1⟩, h1⟩
  obtain ⟨l, rfl⟩ := h4 p hp
  have hn : (sortM m l).Nodup := g2.sublist (List.sublist_flatten_of_mem hp)
  exact sortM_srt ((sortM_perm m l).nodup_iff.1 hn)
theorem PartsOk.split (h : PartsOk m q x P) {k : Nat} {p : List Item} (hp : P[k]? = some p) : P = P.take k ++ p :: P.drop (k + 1) := by
  obtain ⟨hk, rfl⟩ := List.getElem?_eq_some_iff.1 hp
  rw [← List.drop_eq_getElem_cons hk, List.take_append_drop]
theorem PartsOk.inP (h : PartsOk m q x P) {k : Nat} {p : List Item} (hp : P[k]? = some p) {y : Item} (hy : y ∈ p) : y ∈ P.flatten := List.mem_flatten.2 ⟨p, List.mem_of_getElem? hp, hy⟩
theorem PartsOk.fresh (h : PartsOk m q x P) {k : Nat} {p : List Item} (hp : P[k]? = some p) {y : Item} (hy : y ∈ p) : inB y (P.take k).flatten = false := by
  cases hc : inB y (P.take k).flatten with
  | false => rfl
  | true =>
    have hn := h.nd
    rw [h.split hp, List.flatten_append, List.flatten_cons, List.nodup_append] at hn
    exact absurd rfl (hn.2.2 y (inB_iff.1 hc) y (List.mem_append.2 (.inl hy)))
theorem PartsOk.all (h : PartsOk m q x P) (G : GInv m its) {k : Nat} {p : List Item} (hp : P[k]? = some p) {y : Item} (hy : y ∈ p) : inB y (reachL m q x ++ [x]) = true := by
  rw [inB_iff, List.mem_append]
  have hr := (h.mem y).1 (h.inP hp hy)
  by_cases e : y = x
  · right; simp [e]
  · exact .inl ((reach_iff G e).2 hr)
theorem PartsOk.before (h : PartsOk m q x P) {k : Nat} {p : List Item} (hp : P[k]? = some p) {i : Nat} {u y : Item} (hu : p[i]? = some u) (hy : p[i + 1]? = some y) : befB m u y = true := by
  have hs := h.srt p (List.mem_of_getElem? hp)
  obtain ⟨h1, rfl⟩ := List.getElem?_eq_some_iff.1 hu
  obtain ⟨h2, rfl⟩ := List.getElem?_eq_some_iff.1 hy
  rw [bef_lt]
  exact (List.pairwise_iff_getElem.1 hs) i (i + 1) h1 h2 (by omega)
theorem PartsOk.same (h : PartsOk m q x P) {k : Nat} {p : List Item} (hp : P[k]? = some p) {y z : Item} (hy : y ∈ p) (h1 : Rch m q y z) : (Rch m q z y → z ∈ p) ∧ (¬ Rch m q z y → z ∈ (P.take k).flatten) := by
  have hz : z ∈ P.flatten := (h.mem z).2 (((h.mem y).1 (h.inP hp hy)).trans h1)
  have ho := h.ord
  have hs := h.split hp
  rw [hs] at ho hz
  rw [List.pairwise_append, List.pairwise_cons] at ho
  rw [List.flatten_append, List.flatten_cons] at hz
  rcases List.mem_append.1 hz with hz | hz
  · refine ⟨fun hc => ?_, fun _ => hz⟩
    obtain ⟨p', hp', hz'⟩ := List.mem_flatten.1 hz
    exact absurd hc (ho.2.2 p' hp' p (by simp) z hz' y hy)
  · rcases List.mem_append.1 hz with hz | hz
    · exact ⟨fun _ => hz, fun hc => absurd (h.scc p (List.mem_of_getElem? hp) z hz y hy) hc⟩
    · obtain ⟨p', hp', hz'⟩ := List.mem_flatten.1 hz
      exact absurd h1 (ho.2.1.1 p' hp' y hy z hz')
theorem PartsOk.ahead (h : PartsOk m q x P) (G : GInv m its) {k : Nat} {p : List Item} (hp : P[k]? = some p) {y z : Item} (hy : y ∈ p) (hz : z ∈ reachL m q y) (hne : z ≠ y) (hm : inB y (reachL m q z) = false) : inB z (P.take k).flatten = true := by
  have h1 : Rch m q y z := (reach_iff G hne).1 hz
  rw [inB_iff]
  refine (h.same hp hy h1).2 fun hc => ?_
  have := inB_iff.2 ((reach_iff G (fun e => hne e.symm)).2 hc)
  rw [hm] at this; cases this
theorem PartsOk.len (h : PartsOk m q x P) (G : GInv m its) : P.flatten.length ≤ its.length ∧ P.length ≤ its.length ∧ ∀ p ∈ P, p.length ≤ its.length := by
  have h1 : P.flatten.length ≤ its.length := nodup_len _ _ h.nd fun y hy => G.mem y (h.com y hy)
  refine ⟨h1, ?_, fun p hp => Nat.le_trans (List.sublist_flatten_of_mem hp).length_le h1⟩
  have h2 : ∀ (P : List (List Item)), (∀ p ∈ P, p ≠ []) → P.length ≤ P.flatten.length := by
    intro P
    induction P with
    | nil => simp
    | cons a t ih =>
      intro h
      have := ih (fun p hp => h p (by simp [hp]))
      have ha := h a (by simp)
      have : 0 < a.length := List.length_pos_iff.2 ha
      simp only [List.length_cons, List.flatten_cons, List.length_append]
      omega
  exact Nat.le_trans (h2 P h.ne) h1
end
end Go.Proofs.Ytnjgjhjilolanaa
/- Layer 19, plain: what is missing, in order. No walk stands here. -/
namespace Go.Proofs.Ytnjgjhjilolanaa
open Go.RowKit Go.Shelf
set_option linter.unusedVariables false
/-- Nothing is committed: so what is less stands ahead. -/
def mZ : RowsMK := ⟨0, fun _ => []⟩
theorem bef_less (x y : Item) : befB mZ x y = lessI x y := by
  have h : ∀ x, seqK mZ x = 0 := fun x => by unfold seqK; rw [show getMK mZ x = none from getMK_new _ x]; rfl
  unfold befB
  simp [h]
theorem ltM_less : ltM mZ = cmpC.lt := by
  funext x y
  rw [← bef_lt, bef_less, Bool.eq_iff_iff, cmpC_lt]
  unfold lessI
  rw [decide_eq_true_iff]
theorem sortO_srt {l : List Item} (hn : l.Nodup) : Srt mZ (sortO l) := by
  have h : sortO l = sortM mZ l := by
    unfold sortO sortM
    rw [ltM_less]
  rw [h]
  exact sortM_srt hn
/-- What the document says is missing, over some items. -/
structure MisD (m : RowsMK) (q : RowsML) (X p : List Item) : Prop where
  srt : Srt mZ p
  mem : ∀ z, z ∈ p ↔ ∃ x ∈ X, (getML q x).isSome = false ∧ z ∈ reachL m q x ∧ (getMK m z).isSome = false
theorem MisD.nil (m : RowsMK) (q : RowsML) : MisD m q [] [] := ⟨List.Pairwise.nil, by simp⟩
theorem srtZ_nodup {p : List Item} (h : Srt mZ p) : p.Nodup := by
  unfold Srt at h
  exact h.imp fun h e => ltM_ne h e
theorem MisD.all {its : List Item} {m : RowsMK} {q : RowsML} (G : GInv m its) {X p : List Item} (h : MisD m q X p) : ∀ y ∈ p, y ∈ allIt := fun y hy => by
  obtain ⟨x, -, -, h1, -⟩ := (h.mem y).1 hy
  exact (reach_inv (q := q) (x := x) G).all y h1
/-- Inside a round: so many of what an item reaches have been gone over. -/
structure MisJ (m : RowsMK) (p0 L : List Item) (j : Nat) (p : List Item) : Prop where
  srt : Srt mZ p
  mem : ∀ z, z ∈ p ↔ z ∈ p0 ∨ (z ∈ L.take j ∧ (getMK m z).isSome = false)
theorem MisJ.start {m : RowsMK} {p0 : List Item} (h : Srt mZ p0) (L : List Item) : MisJ m p0 L 0 p0 := ⟨h, by simp⟩
theorem MisJ.skip {m : RowsMK} {p0 L p : List Item} {j : Nat} (h : MisJ m p0 L j p) {y : Item} (hy : L[j]? = some y) (hs : (getMK m y).isSome = true ∨ y ∈ p) : MisJ m p0 L (j + 1) p := by
  obtain ⟨hj, rfl⟩ := List.getElem?_eq_some_iff.1 hy
  refine ⟨h.srt, fun z => ?_⟩
  rw [List.take_succ_eq_append_getElem hj, List.mem_append, List.mem_singleton]
  constructor
  · intro hz
    rcases (h.mem z).1 hz with h1 | h1
    · exact .inl h1
    · exact .inr ⟨.inl h1.1, h1.2⟩
  · rintro (h1 | ⟨h1 | rfl, h2⟩)
    · exact (h.mem z).2 (.inl h1)
    · exact (h.mem z).2 (.inr ⟨h1, h2⟩)
    · rcases hs with h3 | h3
      · rw [h3] at h2; cases h2
      · exact h3
theorem MisJ.add {m : RowsMK} {p0 L p : List Item} {j : Nat} (h : MisJ m p0 L j p) {y : Item} (hy : L[j]? = some y) (h1 : (getMK m y).isSome = false) (h2 : y ∉ p) : MisJ m p0 L (j + 1) (insL mZ p y) := by
  obtain ⟨hj, rfl⟩ := List.getElem?_eq_some_iff.1 hy
  refine ⟨insL_srt h.srt h2, fun z => ?_⟩
  rw [insL_mem, h.mem z, List.take_succ_eq_append_getElem hj, List.mem_append, List.mem_singleton]
  constructor
  · rintro (rfl | h3 | h3)
    · exact .inr ⟨.inr rfl, h1⟩
    · exact .inl h3
    · exact .inr ⟨.inl h3.1, h3.2⟩
  · rintro (h3 | ⟨h3 | rfl, h4⟩)
    · exact .inr (.inl h3)
    · exact .inr (.inr ⟨h3, h4⟩)
    · exact .inl rfl
theorem MisJ.all {m : RowsMK} {p0 L p : List Item} {j : Nat} (h : MisJ m p0 L j p) (h0 : ∀ y ∈ p0, y ∈ allIt) (hL : ∀ y ∈ L, y ∈ allIt) : p.length ≤ 448 :=
  Nat.le_trans (nodup_len p allIt (srtZ_nodup h.srt) fun y hy => by
    rcases (h.mem y).1 hy with h1 | h1
    · exact h0 y h1
    · exact hL y (List.mem_of_mem_take h1.1)) allIt_len
theorem MisD.step {m : RowsMK} {q : RowsML} {X p0 p : List Item} {x : Item} (h0 : MisD m q X p0) (ho : (getML q x).isSome = false) (h : MisJ m p0 (reachL m q x) (reachL m q x).length p) : MisD m q (X ++ [x]) p := by
  refine ⟨h.srt, fun z => ?_⟩
  rw [h.mem z, h0.mem z, List.take_length]
  constructor
  · rintro (⟨u, h1, h2⟩ | h1)
    · exact ⟨u, by simp [h1], h2⟩
    · exact ⟨x, by simp, ho, h1⟩
  · rintro ⟨u, h1, h2, h3⟩
    rw [List.mem_append, List.mem_singleton] at h1
    rcases h1 with h1 | rfl
    · exact .inl ⟨u, h1, h2, h3⟩
    · exact .inr h3
theorem MisD.over {m : RowsMK} {q : RowsML} {X p : List Item} {x : Item} (h : MisD m q X p) (ho : (getML q x).isSome = true) : MisD m q (X ++ [x]) p := by
  refine ⟨h.srt, fun z => ?_⟩
  rw [h.mem z]
  constructor
  · rintro ⟨u, h1, h2⟩
    exact ⟨u, by simp [h1], h2⟩
  · rintro ⟨u, h1, h2⟩
    rw [List.mem_append, List.mem_singleton] at h1
    rcases h1 with h1 | rfl
    · exact ⟨u, h1, h2⟩
    · rw [ho] at h2; cases h2.1
/-- The two agree. -/
theorem mis_same {m : RowsMK} {q : RowsML} {O X L p : List Item} (h : MisI m q O L) (hd : MisD m q X p) (hO : ∀ y, y ∈ O ↔ y ∈ X ∧ (getML q y).isSome = false) : sortO L = p := by
  refine srt_one (sortO_srt h.nd) hd.srt fun z => ?_
  rw [(sortO_perm L).mem_iff, h.mem z, hd.mem z]
  constructor
  · rintro ⟨x, h1, h2⟩
    exact ⟨x, ((hO x).1 h1).1, ((hO x).1 h1).2, h2⟩
  · rintro ⟨x, h1, h2, h3⟩
    exact ⟨x, (hO x).2 ⟨h1, h2⟩, h3⟩
end Go.Proofs.Ytnjgjhjilolanaa
